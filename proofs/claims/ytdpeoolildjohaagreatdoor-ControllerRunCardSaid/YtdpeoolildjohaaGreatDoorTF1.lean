/- Rules of runs and contracts of functions, for the claims of one seat. -/
import Derived.Test.YtdpeoolildjohaaGreatDoorQA14
import Derived.Test.YtdpeoolildjohaaGreatDoorQA25
import Derived.Test.YtdpeoolildjohaaGreatDoorQA27
import Derived.Test.YtdpeoolildjohaaGreatDoorTC1
namespace Go.Proofs.YtdpeoolildjohaaGreatDoor
open Go Go.RowKit
set_option linter.unusedSimpArgs false
set_option linter.unusedVariables false
set_option maxRecDepth 100000
theorem sv_eqStr {P : Program} {t : TypeId} {a b : ByteArray} (h : P.underlying t = some .string) (d : Nat) : semVal P (Op.equalIn (d + 1) t (.string a) (.string b)) = some (a == b) := by
 simp only [Op.equalIn]
 rw [semVal_bind, semVal_underlying h]
 rfl
theorem sv_ent (a b c : Int) (s : ByteArray) (d : Nat) : semVal Tryz.prog (Op.equalIn (d + 2) 68 (.agg #[.int .i64 a, .int .i64 b, .int .i64 c, .string s]) (.agg #[.int .i64 a, .int .i64 b, .int .i64 c, .string s])) = some true := by
 have h3 : Tryz.prog.underlying 3 = some (.int .i64) := by kernel_rfl
 have h4 : Tryz.prog.underlying 2 = some (.int .i64) := by kernel_rfl
 have h5 : Tryz.prog.underlying 9 = some .string := by kernel_rfl
 rw [Op.equalIn]
 rw [semVal_bind, semVal_underlying Tryz.underlying68]
 simp only [Option.bind_some]
 have hp : semVal Tryz.prog program = some Tryz.prog := rfl
 have hst : Tryz.prog.stoodInHeld 68 = false := by kernel_rfl
 have p0 : ∀ x y z u : Value, semVal Tryz.prog (part 3 #[x, y, z, u] 0) = some x := fun x y z u => by rfl
 have p1 : ∀ x y z u : Value, semVal Tryz.prog (part 2 #[x, y, z, u] 1) = some y := fun x y z u => by rfl
 have p2 : ∀ x y z u : Value, semVal Tryz.prog (part 3 #[x, y, z, u] 2) = some z := fun x y z u => by rfl
 have p3 : ∀ x y z u : Value, semVal Tryz.prog (part 9 #[x, y, z, u] 3) = some u := fun x y z u => by rfl
 simp only [semVal_bind, hp, Option.bind_some, hst, Bool.false_eq_true, if_false, List.forIn_toArray, List.forIn_cons, List.forIn_nil]
 have hs : (s == s) = true := by
  cases s with
  | mk a => exact (show (a == a) = true by simp)
 simp [semVal_bind, p0, p1, p2, p3, sv_eqInt2 h3, sv_eqInt2 h4, sv_eqStr h5, semVal_pure, hs]
theorem sv_act (k a b c x y z v t : Int) (s : ByteArray) (d : Nat) : semVal Tryz.prog (Op.equalIn (d + 3) 72 (.agg #[.int .i64 k, .int .i64 a, .int .i64 b, .int .i64 c, .string s, .int .i64 x, .int .i64 y, .int .i64 z, .int .i64 v, .int .i64 t]) (.agg #[.int .i64 k, .int .i64 a, .int .i64 b, .int .i64 c, .string s, .int .i64 x, .int .i64 y, .int .i64 z, .int .i64 v, .int .i64 t])) = some true := by
 have h3 : Tryz.prog.underlying 3 = some (.int .i64) := by kernel_rfl
 rw [Op.equalIn]
 rw [semVal_bind, semVal_underlying Tryz.underlying72]
 simp only [Option.bind_some]
 have hp : semVal Tryz.prog program = some Tryz.prog := rfl
 have hst : Tryz.prog.stoodInHeld 72 = false := by kernel_rfl
 have p0 : semVal Tryz.prog (part 3 #[.int .i64 k, .int .i64 a, .int .i64 b, .int .i64 c, .string s, .int .i64 x, .int .i64 y, .int .i64 z, .int .i64 v, .int .i64 t] 0) = some (.int .i64 k) := by rfl
 have p1 : semVal Tryz.prog (part 68 #[.int .i64 k, .int .i64 a, .int .i64 b, .int .i64 c, .string s, .int .i64 x, .int .i64 y, .int .i64 z, .int .i64 v, .int .i64 t] 1) = some (.agg #[.int .i64 a, .int .i64 b, .int .i64 c, .string s]) := by rfl
 have p5 : semVal Tryz.prog (part 70 #[.int .i64 k, .int .i64 a, .int .i64 b, .int .i64 c, .string s, .int .i64 x, .int .i64 y, .int .i64 z, .int .i64 v, .int .i64 t] 5) = some (.agg #[.int .i64 x, .int .i64 y, .int .i64 z]) := by rfl
 have p8 : semVal Tryz.prog (part 3 #[.int .i64 k, .int .i64 a, .int .i64 b, .int .i64 c, .string s, .int .i64 x, .int .i64 y, .int .i64 z, .int .i64 v, .int .i64 t] 8) = some (.int .i64 v) := by rfl
 have p9 : semVal Tryz.prog (part 3 #[.int .i64 k, .int .i64 a, .int .i64 b, .int .i64 c, .string s, .int .i64 x, .int .i64 y, .int .i64 z, .int .i64 v, .int .i64 t] 9) = some (.int .i64 t) := by rfl
 have hc := sv_cmd x y z x y z d
 simp only [semVal_bind, hp, Option.bind_some, hst, Bool.false_eq_true, if_false, List.forIn_toArray, List.forIn_cons, List.forIn_nil]
 simp [semVal_bind, p0, p1, p5, p8, p9, sv_eqInt2 h3, sv_ent, hc, semVal_pure]
theorem sv_neAct (k a b c x y z v t : Int) (s : ByteArray) : semVal Tryz.prog (binOp .neq 72 (.agg #[.int .i64 k, .int .i64 a, .int .i64 b, .int .i64 c, .string s, .int .i64 x, .int .i64 y, .int .i64 z, .int .i64 v, .int .i64 t]) (.agg #[.int .i64 k, .int .i64 a, .int .i64 b, .int .i64 c, .string s, .int .i64 x, .int .i64 y, .int .i64 z, .int .i64 v, .int .i64 t])) = some (.bool false) := by
 have : semVal Tryz.prog (Op.equal 72 (.agg #[.int .i64 k, .int .i64 a, .int .i64 b, .int .i64 c, .string s, .int .i64 x, .int .i64 y, .int .i64 z, .int .i64 v, .int .i64 t]) (.agg #[.int .i64 k, .int .i64 a, .int .i64 b, .int .i64 c, .string s, .int .i64 x, .int .i64 y, .int .i64 z, .int .i64 v, .int .i64 t])) = some true := sv_act k a b c x y z v t s 9997
 simp only [binOp]
 rw [semVal_bind, this]
 rfl
theorem sv_guardAct (x y : Operand) (u v : Array Value) : semVal Tryz.prog (eqGuard .neq 72 x y (.agg u) (.agg v)) = some () := by
 have hp : semVal Tryz.prog program = some Tryz.prog := rfl
 have hg : Tryz.prog.eqGuardType Tryz.prog.depth 72 = false := by kernel_rfl
 unfold eqGuard
 simp [semVal_bind, hp, hg]
 rfl
section
variable {lend : FuncId → Bool} {N : Nat} {ops : Array Oper} {dr : Bool} {cs : List Code} {R : AX → St → Prop} {i : Nat} {os : List Oper} {tm : List (Nat × AV)} {bo : BO} {nx : Nat} {ns : List Note} {d : Nat} {pos : String} {ty : TypeId} {af : Array Edge}
theorem W.neAct {ty' : TypeId} {x y : Operand} (q : ActD) (hd : Nat.blt d N = true) (hx : ev (lk tm) x = some (.one true ((actRow q).map C.d))) (hy : ev (lk tm) y = some (.one true ((actRow q).map C.d))) (h : W Tryz.prog lend N ops dr cs R (i + 1) os ((d, .one false [.d (.v (.bool false))]) :: tm) bo nx (ns ++ [⟨opKeys (lk tm) (lko bo) ⟨some d, .binOp .neq 72 x y ty', ty, pos, af, none⟩, []⟩])) : W Tryz.prog lend N ops dr cs R i (⟨some d, .binOp .neq 72 x y ty', ty, pos, af, none⟩ :: os) tm bo nx ns :=
 W.plain hd (fun lt hlt => by
  have hx' := (hlt x (by simp [Op.operands])).trans hx
  have hy' := (hlt y (by simp [Op.operands])).trans hy
  have hc : ∀ z, conV (.one true ((actRow q).map C.d)) = z → z = some (.agg #[.int .i64 q.kind, .int .i64 q.ent.kind, .int .i64 q.ent.token, .int .i64 q.ent.idx, .string q.ent.data, .int .i64 q.round, .int .i64 q.replica, .int .i64 q.ver, .int .i64 q.service, .int .i64 q.table]) := fun z e => e.symm.trans rfl
  have hcv := hc _ rfl
  unfold effPlain
  simp only [plainOp, Op.operands, List.all_cons, List.all_nil, hx', hy', Option.bind_some, hcv, Option.isSome_some, Bool.and_true, Bool.true_and, if_true]
  unfold execOp
  simp only [semVal_bind, hx', hy', Option.bind_some, hcv, Option.getD_some, sv_guardAct, sv_neAct, semVal_pure, Option.map_some, semVal_map]
  rfl) (fun _ _ _ _ _ _ => rfl) h
end
end Go.Proofs.YtdpeoolildjohaaGreatDoor

namespace Go.Proofs.YtdpeoolildjohaaGreatDoor
open Go Go.RowKit
set_option maxRecDepth 100000
set_option maxHeartbeats 8000000
set_option linter.unusedSimpArgs false
set_option linter.unusedVariables false
theorem sacts_fn (a : List ActD) (hl : a.length ≤ 1000000) : FnSound Tryz.prog 23 [.val false [.d (.sl 10 (dActs a))], .val false [.d (.sl 10 (dActs a))]] [] { vals := [(false, [.d (.v (.bool true))])] } := by
 refine startW (tm := [(0, _), (1, _)]) Tryz.func23 rfl Tryz.ntmps23 rfl rfl rfl rfl ?_
 repeat' (first
 |(with_reducible refine rgn 6 600 ?_ ?_); exact rfl
 |(with_reducible refine rgn 7 700 ?_ ?_); exact rfl
 |(with_reducible refine rgn 5 800 ?_ ?_); exact rfl
 |(with_reducible refine W_at ?_); (first
 |(refine W.neAct _ rfl rfl rfl ?_))
 |(with_reducible refine blk_at (id := 0) ?_); ((with_reducible refine JL.loopW 0 499 (fun (k : Nat) tm => (5, .one false [.d (.v (.int .i64 ((k : Int))))]) :: tm) (fun (k : Nat) bo => bo) (fun (k : Nat) => k ≤ a.length) (fun (k : Nat) => a.length - k) (0) ?_ (fun k hk => ?_) ?_); (focus (apply SubW [] rfl ?_ ?_ rfl ?_; (repeat' (first | exact kA | refine kB ?_ | refine kC ?_ ?_ | exact kD | fail)))))
 |((with_reducible refine round_next (i := k) (k + 1) ?_ ?_ ?_); (focus (apply SubW [] rfl ?_ ?_ rfl ?_; (repeat' (first | exact kA | refine kB ?_ | refine kC ?_ ?_ | exact kD | fail)))))
 |refine wA ?_
 |(refine wC ?_ ?_ <;> intro hc)
 |refine wB ?_ ?_
 |(with_reducible refine JL.block ?_)
 |(with_reducible refine F_at ?_); refine eW (vs := [(_, _)]) Tryz.results23 ?_; (focus (repeat' (first | exact oA | refine oB ?_ | refine oC ?_ ?_ | fail)))
 |exact oM
 |fail)
 all_goals first | rfl | (exfalso; omega) | trace_state
theorem rrun_fn (p : Prob) (rs : List Int) (c : CtlD) (ss : List SigD) (n : Int) (h : SigK p rs c.plan c n) (hn : 0 ≤ n ∧ n ≤ 10000000) (hs : setErr p rs = 0) (hc : checkP p c.plan = true) (hl : c.plan.length ≤ 1000000) (hss : ss.length ≤ 100) : FnSound Tryz.prog 22 [.val true (probC p), .val false [.d (.sl 1 (dInts rs))], .val true (ctlC c), .val false [.d (.sl 7 (dSigs ss))]] [] { vals := [(true, ctlC (sigAt p rs c ss ss.length).1), (false, [.d (.sl 10 (dActs (sigAt p rs c ss ss.length).2))]), (false, [.d (.v (.int .i64 0))])] } := by
 have hb := h.b
 have hrd := hb.rd
 have her := error_fn p rs c h.ck h.cr hc hs hl (by omega)
 have hk := sigAt_k (ss := ss) h hn hs hl
 have hsg : ∀ k : Nat, k ≤ 100 → FnSound Tryz.prog 58 [.val true (probC p), .val false [.d (.sl 1 (dInts rs))], .val true (ctlC (sigAt p rs c ss k).1), .val true (sigC (ss.getD k nilG))] [] { vals := [(true, ctlC (sigAt p rs c ss (k + 1)).1), (false, [.d (.sl 10 (dActs (nextP p rs (sigAt p rs c ss k).1 (ss.getD k nilG)).2))])] } := fun k hk' => by
  obtain ⟨a1, a2⟩ := hk k hk'
  have e1 := a1.b.plan
  have e2 := a1.b.rd
  have e3 := a1.b.rp
  exact next_fn p rs _ _ a1.ck hs (by rw [e1]; exact hl) (by omega) (by omega)
 have hal : ∀ k : Nat, k ≤ 100 → (sigAt p rs c ss k).2.length ≤ 2 * k := fun k hk' => (hk k hk').2
 clear hk
 refine startW (tm := [(0, _), (1, _), (2, _), (3, _)]) Tryz.func22 rfl Tryz.ntmps22 rfl rfl rfl rfl ?_
 repeat' (first
 |(with_reducible refine rgn 8 800 ?_ ?_); exact rfl
 |(with_reducible refine rgn 9 900 ?_ ?_); exact rfl
 |(with_reducible refine rgn 10 1000 ?_ ?_); exact rfl
 |(with_reducible refine rgn 7 1100 ?_ ?_); exact rfl
 |(with_reducible refine K_ca 26 ?_); refine zC (her) ?_
 |(with_reducible refine K_ca 58 ?_); refine zC (hsg k (by omega)) ?_
 |(with_reducible refine blk_at (id := 0) ?_); (try (refine JL.zeroW 12 _ 72 10 rfl rfl ?_)); (refine JL.rekW 12 (1192, 651) rfl rfl rfl rfl ?_); ((with_reducible refine JL.loopW 0 699 (fun (k : Nat) tm => (13, .one false [.d (.v (.int .i64 ((k : Int))))]) :: (12, .one false [.own (1192, 651)]) :: tm) (fun (k : Nat) bo => ((64, 100), some (.st 39 [.d (.sl 3 ((dSteps (sigAt p rs c ss k).1.plan))), .d (.v (.int .i64 ((sigAt p rs c ss k).1.at_))), .d (.v (.int .i64 ((sigAt p rs c ss k).1.phase))), .d (.v (.int .i64 ((sigAt p rs c ss k).1.replica))), .d (.v (.int .i64 ((sigAt p rs c ss k).1.round))), .d (.v (.int .i64 ((sigAt p rs c ss k).1.token))), .d (.sl 1 ((dInts (sigAt p rs c ss k).1.mix.base))), .d (.sl 1 ((dInts (sigAt p rs c ss k).1.mix.next))), .d (.sl 1 ((dSets (sigAt p rs c ss k).1.mix.held)))])) :: ((1192, 651), some (.sl 72 10 ((dActs (sigAt p rs c ss k).2)))) :: bo) (fun (k : Nat) => k ≤ ss.length) (fun (k : Nat) => ss.length - k) (0) ?_ (fun k hk => have h2 := hal k (by omega); ?_) ?_); (focus (apply SubW [((1192, 651), _)] rfl ?_ ?_ rfl ?_; (repeat' (first | exact kA | refine kB ?_ | refine kC ?_ ?_ | exact kD | fail)))))
 |((with_reducible refine round_next (i := k) (k + 1) ?_ ?_ ?_); (focus (apply SubW [((1192, 651), _)] rfl ?_ ?_ rfl ?_; (repeat' (first | exact kA | refine kB ?_ | refine kC ?_ ?_ | exact kD | fail)))))
 |refine wA ?_
 |(refine wC ?_ ?_ <;> intro hc)
 |refine wB ?_ ?_
 |(with_reducible refine JL.block ?_)
 |(with_reducible refine F_at ?_); refine eW (vs := [(_, _), (_, _), (_, _)]) Tryz.results22 ?_; (focus (repeat' (first | exact oA | refine oB ?_ | refine oC ?_ ?_ | fail)))
 |exact oM
 |fail)
 all_goals first
  | with_reducible rfl
  | rfl
  | (exfalso; omega)
  | (have h3 := next_len (p := p) (rs := rs) (c := (sigAt p rs c ss k).1) (s := ss.getD k nilG)
     unfold dActs; rw [List.length_map, List.length_map]; exact ⟨by omega, by omega⟩)
  | (have e : k = ss.length := by omega
     rw [e]; done)
  | trace_state
end Go.Proofs.YtdpeoolildjohaaGreatDoor

