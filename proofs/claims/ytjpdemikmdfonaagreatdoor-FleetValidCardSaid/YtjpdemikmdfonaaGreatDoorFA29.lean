/- Rules of runs and contracts of functions, for the claims of one seat. -/
import Derived.Test.YtjpdemikmdfonaaGreatDoorFA15
import Derived.Test.YtjpdemikmdfonaaGreatDoorFA19
import Derived.Test.YtjpdemikmdfonaaGreatDoorFA20
import Derived.Test.YtjpdemikmdfonaaGreatDoorFA26
import Derived.Test.YtjpdemikmdfonaaGreatDoorFA28
namespace Go.Proofs.YtjpdemikmdfonaaGreatDoor
open Go Go.RowKit
set_option maxRecDepth 100000
set_option maxHeartbeats 8000000
set_option linter.unusedSimpArgs false
set_option linter.unusedVariables false
theorem msg1_fn (x : MsgD) (id : Int) : FnSound Tryz.prog 149 [.val true (msgC x), .val false [.rptr [.v (.int .i64 id)] 0]] [] { vals := [(false, [.d (.v (.bool (decide (x.id = id))))])] } := by
 refine startW (tm := [(0, _), (1, _)]) Tryz.func149 rfl Tryz.ntmps149 rfl rfl rfl rfl ?_
 repeat' (first
 |refine wA ?_
 |(refine wC ?_ ?_ <;> intro hc)
 |refine wB ?_ ?_
 |(with_reducible refine JL.block ?_)
 |(with_reducible refine F_at ?_); refine eW (vs := [(_, _)]) Tryz.results149 ?_; (focus (repeat' (first | exact oA | refine oB ?_ | refine oC ?_ ?_ | fail)))
 |exact oM
 |fail)
 all_goals first | rfl | trace_state
theorem bo_msg1 : BoI Tryz.prog 149 := ⟨by kernel_rfl⟩
def msgI (l : List MsgD) (id : Int) : Int := match msgAt l id with
 | some k => (k : Int)
 | none => -1
theorem msgI_some {l : List MsgD} {id : Int} {k : Nat} (hk : k < l.length) (h : ∀ i, i < k → ¬ (l.getD i nilMs).id = id) (he : (l.getD k nilMs).id = id) : (k : Int) = msgI l id := by
 unfold msgI; rw [msgAt_some hk h he]
theorem msgI_none {l : List MsgD} {id : Int} (h : ∀ i, i < l.length → ¬ (l.getD i nilMs).id = id) : -1 = msgI l id := by
 unfold msgI; rw [msgAt_none h]
theorem msgX_fn (l : List MsgD) (id : Int) (hl : l.length ≤ 5900000000000) : FnSound Tryz.prog 148 [.val false [.d (.sl 3 (dMsgs l))], .val false [.fn 149 [.rptr [.v (.int .i64 id)] 0]]] [] { vals := [(false, [.d (.v (.int .i64 (msgI l id)))])] } := by
 refine startW (tm := [(0, _), (1, _)]) Tryz.func148 rfl Tryz.ntmps148 rfl rfl rfl rfl ?_
 repeat' (first
 |(with_reducible refine W_at ?_); (first
 |(refine W.callC rfl bo_msg1 rfl rfl rfl (msg1_fn (l.getD k nilMs) id) rfl rfl ?_))
 |(with_reducible refine blk_at (id := 0) ?_); ((with_reducible refine JL.loopW 0 299 (fun (k : Nat) tm => (8, .one false [.d (.v (.int .i64 ((k : Int))))]) :: tm) (fun (k : Nat) bo => bo) (fun (k : Nat) => k ≤ l.length ∧ ∀ i, i < k → ¬ (l.getD i nilMs).id = id) (fun (k : Nat) => l.length - k) (0) ?_ (fun k hk => ?_) ?_); (focus (apply SubW [] rfl ?_ ?_ rfl ?_; (repeat' (first | exact kA | refine kB ?_ | refine kC ?_ ?_ | exact kD | fail)))))
 |((with_reducible refine round_next (i := k) (k + 1) ?_ ?_ ?_); (focus (apply SubW [] rfl ?_ ?_ rfl ?_; (repeat' (first | exact kA | refine kB ?_ | refine kC ?_ ?_ | exact kD | fail)))))
 |refine wA ?_
 |(refine wC ?_ ?_ <;> intro hc)
 |refine wB ?_ ?_
 |(with_reducible refine JL.block ?_)
 |(with_reducible refine F_at ?_); refine eW (vs := [(_, _)]) Tryz.results148 ?_; (focus (repeat' (first | exact oA | refine oB ?_ | refine oC ?_ ?_ | fail)))
 |exact oM
 |fail)
 all_goals first
  | with_reducible rfl
  | omega
  | exact ⟨Nat.zero_le _, fun i hi => absurd hi (Nat.not_lt_zero i)⟩
  | exact ⟨by omega, lt_next hk.2 hc⟩
  | exact msgI_some (by omega) hk.2 hc
  | exact msgI_none (fun i hi => hk.2 i (by omega))
  | trace_state
theorem msgI_neg {l : List MsgD} {id : Int} (h : msgI l id < 0) : msgAt l id = none := by
 unfold msgI at h
 cases e : msgAt l id with
 | none => rfl
 | some k => rw [e] at h; simp at h; omega
theorem msgI_pos {l : List MsgD} {id : Int} (h : ¬ msgI l id < 0) : ∃ k, msgAt l id = some k ∧ msgI l id = (k : Int) ∧ k < l.length := by
 unfold msgI at h ⊢
 cases e : msgAt l id with
 | none => rw [e] at h; simp at h
 | some k => exact ⟨k, rfl, rfl, (List.findIdx?_eq_some_iff_getElem.1 e).1⟩
theorem msgI_rng {l : List MsgD} {id : Int} (h : ¬ msgI l id < 0) : 0 ≤ msgI l id ∧ msgI l id < l.length := by
 obtain ⟨k, _, h2, h3⟩ := msgI_pos h
 omega
theorem msgD_at {l : List MsgD} {id : Int} (h : ¬ msgI l id < 0) : l.getD (msgI l id).toNat nilMs = msgD l id ∧ true = (msgAt l id).isSome := by
 obtain ⟨k, h1, h2, _⟩ := msgI_pos h
 unfold msgD
 rw [h1, h2]; exact ⟨rfl, rfl⟩
theorem msgD_no {l : List MsgD} {id : Int} (h : msgI l id < 0) : nilMs = msgD l id ∧ false = (msgAt l id).isSome := by
 unfold msgD
 rw [msgI_neg h]; exact ⟨rfl, rfl⟩
theorem pmsg_fn (x : SesD) (id : Int) (hl : x.msgs.length ≤ 5900000000000) : FnSound Tryz.prog 107 [.val true (sesC x), .val false [.d (.v (.int .i64 id))]] [] { vals := [(true, msgC (msgD x.msgs id)), (false, [.d (.v (.bool (msgAt x.msgs id).isSome))])] } := by
 refine startW (tm := [(0, _), (1, _)]) Tryz.func107 rfl Tryz.ntmps107 rfl rfl rfl rfl ?_
 repeat' (first
 |(with_reducible refine rgL (fun g => g == 148) ?_ ?_); exact rfl
 |(with_reducible refine K_ca 148 ?_); refine zC (msgX_fn x.msgs id hl) ?_
 |(with_reducible refine W_at ?_); (first
 |(refine W.mkfn rfl rfl ?_))
 |refine wA ?_
 |(refine wC ?_ ?_ <;> intro hc)
 |refine wB ?_ ?_
 |(with_reducible refine JL.block ?_)
 |(with_reducible refine F_at ?_); refine eW (vs := [(_, _), (_, _)]) Tryz.results107 ?_; (focus (repeat' (first | exact oA | refine oB ?_ | refine oC ?_ ?_ | fail)))
 |exact oM
 |fail)
 all_goals first
  | with_reducible rfl
  | exact msgI_rng hc
  | (rw [← (msgD_no hc).1]; rfl)
  | exact (msgD_no hc).2
  | (rw [← (msgD_at hc).1]; done)
  | exact (msgD_at hc).2
  | trace_state
end Go.Proofs.YtjpdemikmdfonaaGreatDoor

