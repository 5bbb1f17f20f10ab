/- Rules of runs and contracts of functions, for the claims of one seat. -/
import Derived.Test.YtgehafnodibhpaaGreatDoorPA14
import Derived.Test.YtgehafnodibhpaaGreatDoorPA19
import Derived.Test.YtgehafnodibhpaaGreatDoorPA22
namespace Go.Proofs.YtgehafnodibhpaaGreatDoor
open Go Go.RowKit
set_option maxRecDepth 100000
set_option maxHeartbeats 8000000
set_option linter.unusedSimpArgs false
set_option linter.unusedVariables false
def symC (x : SymD) : List C := [.d (.v (.int .i64 x.id)), .d (.v (.string x.name))]
theorem sym1_fn (x : SymD) (id : Int) : FnSound Tryz.prog 245 [.val true (symC x), .val false [.rptr [.v (.int .i64 id)] 0]] [] { vals := [(false, [.d (.v (.bool (decide (x.id = id))))])] } := by
 refine startW (tm := [(0, _), (1, _)]) Tryz.func245 rfl Tryz.ntmps245 rfl rfl rfl rfl ?_
 repeat' (first
 |refine wA ?_
 |(refine wC ?_ ?_ <;> intro hc)
 |refine wB ?_ ?_
 |(with_reducible refine JL.block ?_)
 |(with_reducible refine F_at ?_); refine eW (vs := [(_, _)]) Tryz.results245 ?_; (focus (repeat' (first | exact oA | refine oB ?_ | refine oC ?_ ?_ | fail)))
 |exact oM
 |fail)
 all_goals first | rfl | trace_state
theorem bo_sym1 : BoI Tryz.prog 245 := ⟨by kernel_rfl⟩
def symI (l : List SymD) (id : Int) : Int := match symAt l id with
 | some k => (k : Int)
 | none => -1
theorem symI_some {l : List SymD} {id : Int} {k : Nat} (hk : k < l.length) (h : ∀ i, i < k → ¬ (l.getD i nilSy).id = id) (he : (l.getD k nilSy).id = id) : (k : Int) = symI l id := by
 unfold symI; rw [symAt_some hk h he]
theorem symI_none {l : List SymD} {id : Int} (h : ∀ i, i < l.length → ¬ (l.getD i nilSy).id = id) : -1 = symI l id := by
 unfold symI; rw [symAt_none h]
theorem symX_fn (l : List SymD) (id : Int) (hl : l.length ≤ 5900000000000) : FnSound Tryz.prog 244 [.val false [.d (.sl 2 (dSyms l))], .val false [.fn 245 [.rptr [.v (.int .i64 id)] 0]]] [] { vals := [(false, [.d (.v (.int .i64 (symI l id)))])] } := by
 refine startW (tm := [(0, _), (1, _)]) Tryz.func244 rfl Tryz.ntmps244 rfl rfl rfl rfl ?_
 repeat' (first
 |(with_reducible refine W_at ?_); (first
 |(refine W.callC rfl bo_sym1 rfl rfl rfl (sym1_fn (l.getD k nilSy) id) rfl rfl ?_))
 |(with_reducible refine blk_at (id := 0) ?_); ((with_reducible refine JL.loopW 0 299 (fun (k : Nat) tm => (8, .one false [.d (.v (.int .i64 ((k : Int))))]) :: tm) (fun (k : Nat) bo => bo) (fun (k : Nat) => k ≤ l.length ∧ ∀ i, i < k → ¬ (l.getD i nilSy).id = id) (fun (k : Nat) => l.length - k) (0) ?_ (fun k hk => ?_) ?_); (focus (apply SubW [] rfl ?_ ?_ rfl ?_; (repeat' (first | exact kA | refine kB ?_ | refine kC ?_ ?_ | exact kD | fail)))))
 |((with_reducible refine round_next (i := k) (k + 1) ?_ ?_ ?_); (focus (apply SubW [] rfl ?_ ?_ rfl ?_; (repeat' (first | exact kA | refine kB ?_ | refine kC ?_ ?_ | exact kD | fail)))))
 |refine wA ?_
 |(refine wC ?_ ?_ <;> intro hc)
 |refine wB ?_ ?_
 |(with_reducible refine JL.block ?_)
 |(with_reducible refine F_at ?_); refine eW (vs := [(_, _)]) Tryz.results244 ?_; (focus (repeat' (first | exact oA | refine oB ?_ | refine oC ?_ ?_ | fail)))
 |exact oM
 |fail)
 all_goals first
  | with_reducible rfl
  | omega
  | exact ⟨Nat.zero_le _, fun i hi => absurd hi (Nat.not_lt_zero i)⟩
  | exact ⟨by omega, lt_next hk.2 hc⟩
  | exact symI_some (by omega) hk.2 hc
  | exact symI_none (fun i hi => hk.2 i (by omega))
  | trace_state
theorem mem1_fn (x : MemD) (id : Int) : FnSound Tryz.prog 247 [.val true (memC x), .val false [.rptr [.v (.int .i64 id)] 0]] [] { vals := [(false, [.d (.v (.bool (decide (x.id = id))))])] } := by
 refine startW (tm := [(0, _), (1, _)]) Tryz.func247 rfl Tryz.ntmps247 rfl rfl rfl rfl ?_
 repeat' (first
 |refine wA ?_
 |(refine wC ?_ ?_ <;> intro hc)
 |refine wB ?_ ?_
 |(with_reducible refine JL.block ?_)
 |(with_reducible refine F_at ?_); refine eW (vs := [(_, _)]) Tryz.results247 ?_; (focus (repeat' (first | exact oA | refine oB ?_ | refine oC ?_ ?_ | fail)))
 |exact oM
 |fail)
 all_goals first | rfl | trace_state
theorem bo_mem1 : BoI Tryz.prog 247 := ⟨by kernel_rfl⟩
def memI (l : List MemD) (id : Int) : Int := match memAt l id with
 | some k => (k : Int)
 | none => -1
theorem memI_some {l : List MemD} {id : Int} {k : Nat} (hk : k < l.length) (h : ∀ i, i < k → ¬ (l.getD i nilM0).id = id) (he : (l.getD k nilM0).id = id) : (k : Int) = memI l id := by
 unfold memI; rw [memAt_some hk h he]
theorem memI_none {l : List MemD} {id : Int} (h : ∀ i, i < l.length → ¬ (l.getD i nilM0).id = id) : -1 = memI l id := by
 unfold memI; rw [memAt_none h]
theorem memX_fn (l : List MemD) (id : Int) (hl : l.length ≤ 5900000000000) : FnSound Tryz.prog 246 [.val false [.d (.sl 13 (dMems l))], .val false [.fn 247 [.rptr [.v (.int .i64 id)] 0]]] [] { vals := [(false, [.d (.v (.int .i64 (memI l id)))])] } := by
 refine startW (tm := [(0, _), (1, _)]) Tryz.func246 rfl Tryz.ntmps246 rfl rfl rfl rfl ?_
 repeat' (first
 |(with_reducible refine W_at ?_); (first
 |(refine W.callC rfl bo_mem1 rfl rfl rfl (mem1_fn (l.getD k nilM0) id) rfl rfl ?_))
 |(with_reducible refine blk_at (id := 0) ?_); ((with_reducible refine JL.loopW 0 299 (fun (k : Nat) tm => (8, .one false [.d (.v (.int .i64 ((k : Int))))]) :: tm) (fun (k : Nat) bo => bo) (fun (k : Nat) => k ≤ l.length ∧ ∀ i, i < k → ¬ (l.getD i nilM0).id = id) (fun (k : Nat) => l.length - k) (0) ?_ (fun k hk => ?_) ?_); (focus (apply SubW [] rfl ?_ ?_ rfl ?_; (repeat' (first | exact kA | refine kB ?_ | refine kC ?_ ?_ | exact kD | fail)))))
 |((with_reducible refine round_next (i := k) (k + 1) ?_ ?_ ?_); (focus (apply SubW [] rfl ?_ ?_ rfl ?_; (repeat' (first | exact kA | refine kB ?_ | refine kC ?_ ?_ | exact kD | fail)))))
 |refine wA ?_
 |(refine wC ?_ ?_ <;> intro hc)
 |refine wB ?_ ?_
 |(with_reducible refine JL.block ?_)
 |(with_reducible refine F_at ?_); refine eW (vs := [(_, _)]) Tryz.results246 ?_; (focus (repeat' (first | exact oA | refine oB ?_ | refine oC ?_ ?_ | fail)))
 |exact oM
 |fail)
 all_goals first
  | with_reducible rfl
  | omega
  | exact ⟨Nat.zero_le _, fun i hi => absurd hi (Nat.not_lt_zero i)⟩
  | exact ⟨by omega, lt_next hk.2 hc⟩
  | exact memI_some (by omega) hk.2 hc
  | exact memI_none (fun i hi => hk.2 i (by omega))
  | trace_state
theorem psym_fn (t : TypD) (id : Int) (hl : t.syms.length ≤ 5900000000000) : FnSound Tryz.prog 194 [.val true (typC t), .val false [.d (.v (.int .i64 id))]] [] { vals := [(false, [.d (.v (.int .i64 (((symAt t.syms id).getD 0 : Nat) : Int)))]), (false, [.d (.v (.bool (symAt t.syms id).isSome))])] } := by
 refine startW (tm := [(0, _), (1, _)]) Tryz.func194 rfl Tryz.ntmps194 rfl rfl rfl rfl ?_
 repeat' (first
 |(with_reducible refine rgL (fun g => g == 244) ?_ ?_); exact rfl
 |(with_reducible refine K_ca 244 ?_); refine zC (symX_fn t.syms id hl) ?_
 |(with_reducible refine W_at ?_); (first
 |(refine W.mkfn rfl rfl ?_))
 |refine wA ?_
 |(refine wC ?_ ?_ <;> intro hc)
 |refine wB ?_ ?_
 |(with_reducible refine JL.block ?_)
 |(with_reducible refine F_at ?_); refine eW (vs := [(_, _), (_, _)]) Tryz.results194 ?_; (focus (repeat' (first | exact oA | refine oB ?_ | refine oC ?_ ?_ | fail)))
 |exact oM
 |fail)
 all_goals first
  | with_reducible rfl
  | (unfold symI; cases symAt t.syms id with
     | none => rfl
     | some k => simp; done)
  | (unfold symI; cases symAt t.syms id with
     | none => rfl
     | some k => simp <;> omega)
  | trace_state
theorem pmem_fn (t : TypD) (id : Int) (hl : t.mems.length ≤ 5900000000000) : FnSound Tryz.prog 196 [.val true (typC t), .val false [.d (.v (.int .i64 id))]] [] { vals := [(false, [.d (.v (.int .i64 (((memAt t.mems id).getD 0 : Nat) : Int)))]), (false, [.d (.v (.bool (memAt t.mems id).isSome))])] } := by
 refine startW (tm := [(0, _), (1, _)]) Tryz.func196 rfl Tryz.ntmps196 rfl rfl rfl rfl ?_
 repeat' (first
 |(with_reducible refine rgL (fun g => g == 246) ?_ ?_); exact rfl
 |(with_reducible refine K_ca 246 ?_); refine zC (memX_fn t.mems id hl) ?_
 |(with_reducible refine W_at ?_); (first
 |(refine W.mkfn rfl rfl ?_))
 |refine wA ?_
 |(refine wC ?_ ?_ <;> intro hc)
 |refine wB ?_ ?_
 |(with_reducible refine JL.block ?_)
 |(with_reducible refine F_at ?_); refine eW (vs := [(_, _), (_, _)]) Tryz.results196 ?_; (focus (repeat' (first | exact oA | refine oB ?_ | refine oC ?_ ?_ | fail)))
 |exact oM
 |fail)
 all_goals first
  | with_reducible rfl
  | (unfold memI; cases memAt t.mems id with
     | none => rfl
     | some k => simp; done)
  | (unfold memI; cases memAt t.mems id with
     | none => rfl
     | some k => simp <;> omega)
  | trace_state
end Go.Proofs.YtgehafnodibhpaaGreatDoor

