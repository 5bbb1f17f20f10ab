/- Rules of runs and contracts of functions, for the claims of one seat. -/
import Derived.Test.YtngjhkgcfabciaaGreatQA15
import Derived.Test.YtngjhkgcfabciaaGreatQA22
import Derived.Test.YtngjhkgcfabciaaGreatQA25
import Derived.Test.YtngjhkgcfabciaaGreatQA27
import Derived.Test.YtngjhkgcfabciaaGreatQA35
namespace Go.Proofs.YtngjhkgcfabciaaGreat
open Go Go.RowKit
set_option maxRecDepth 100000
set_option maxHeartbeats 8000000
set_option linter.unusedSimpArgs false
set_option linter.unusedVariables false
theorem put_high {n : Int} (h : 0 ≤ n) : IntKind.u8.wrap (IntKind.u64.wrap (n.tmod 128 + 128)) = n % 128 + 128 := by
 rw [Int.tmod_eq_emod_of_nonneg h, wrap_u64 (by omega)]
 show (n % 128 + 128) % 256 = _
 omega
theorem put_div {n : Int} (h : 0 ≤ n ∧ n < 18446744073709551616) : IntKind.u64.wrap (n.tdiv 128) = n / 128 := by
 rw [Int.tdiv_eq_ediv_of_nonneg h.1, wrap_u64 (by omega)]
theorem crc_odd {X : Int} {j : Nat} (hr : 0 ≤ itC j X) (h : (itC j X).tmod 2 = 1) : bits .xor .u32 (itC j X / 2 ^ Int.toNat 1) 3988292384 = itC (j + 1) X := by
 rw [Int.tmod_eq_emod_of_nonneg hr] at h
 show _ = crcB (itC j X)
 unfold crcB
 rw [if_pos h]; rfl
theorem crc_even {X : Int} {j : Nat} (hr : 0 ≤ itC j X) (h : ¬ (itC j X).tmod 2 = 1) : itC j X / 2 ^ Int.toNat 1 = itC (j + 1) X := by
 rw [Int.tmod_eq_emod_of_nonneg hr] at h
 show _ = crcB (itC j X)
 unfold crcB
 rw [if_neg h]; rfl
theorem crc_odd' {X : Int} {j : Nat} (hr : 0 ≤ itC j X ∧ itC j X < 4294967296) (h : bits .and .u32 (itC j X) 1 = 1) : bits .xor .u32 (itC j X / 2 ^ Int.toNat 1) 3988292384 = itC (j + 1) X := by
 rw [and1 hr] at h
 exact crc_odd hr.1 (by rw [Int.tmod_eq_emod_of_nonneg hr.1]; exact h)
theorem crc_even' {X : Int} {j : Nat} (hr : 0 ≤ itC j X ∧ itC j X < 4294967296) (h : ¬ bits .and .u32 (itC j X) 1 = 1) : itC j X / 2 ^ Int.toNat 1 = itC (j + 1) X := by
 rw [and1 hr] at h
 exact crc_even hr.1 (by rw [Int.tmod_eq_emod_of_nonneg hr.1]; exact h)
theorem rput_fn (n : Int) (hn : 0 ≤ n ∧ n < 18446744073709551616) : FnSound Tryz.prog 63 [.val false [.d (.v (.int .u64 n))]] [] { vals := [(false, [.d (.v (.string (strOfNums (putL n))))])] } := by
 refine startW (tm := [(0, _)]) Tryz.func63 rfl Tryz.ntmps63 rfl rfl rfl rfl ?_
 repeat' (first
 |(with_reducible refine blk_at (id := 0) ?_); (try (refine JL.zeroW 3 _ 5 1 rfl rfl ?_)); (refine JL.rekW 3 (1048, 251) rfl rfl rfl rfl ?_); ((with_reducible refine JL.loopW 0 299 (fun (y : Nat × Int × List Int) tm => (0, .one false [.d (.v (.int .u64 (y.2.1)))]) :: (3, .one false [.own (1048, 251)]) :: tm) (fun (y : Nat × Int × List Int) bo => ((1048, 251), some (.sl 5 1 ((dSets y.2.2)))) :: bo) (fun (y : Nat × Int × List Int) => PutK n y) (fun (y : Nat × Int × List Int) => 10 - y.1) ((0, n, [])) ?_ (fun y hy => have hy1 := hy.n; have hy2 := hy.l; have hy3 := hy.j; have hy4 := hy.b; ?_) ?_); (focus (apply SubW [((1048, 251), _)] rfl ?_ ?_ rfl ?_; (repeat' (first | exact kA | refine kB ?_ | refine kC ?_ ?_ | exact kD | fail)))))
 |((with_reducible refine round_next (i := y) (putN y) ?_ ?_ ?_); (focus (apply SubW [((1048, 251), _)] rfl ?_ ?_ rfl ?_; (repeat' (first | exact kA | refine kB ?_ | refine kC ?_ ?_ | exact kD | fail)))))
 |refine wA ?_
 |(refine wC ?_ ?_ <;> intro hc)
 |refine wB ?_ ?_
 |(with_reducible refine JL.block ?_)
 |(with_reducible refine F_at ?_); refine eW (vs := [(_, _)]) Tryz.results63 ?_; (focus (repeat' (first | exact oA | refine oB ?_ | refine oC ?_ ?_ | fail)))
 |exact oM
 |fail)
 all_goals first
  | exact putK_0 hn
  | exact putK_next hy (by omega)
  | (rw [putK_end hy (by omega)]; done)
  | (exact put_div (by omega))
  | (rw [put_high (by omega)]; rfl)
  | (dsimp only [putN]; omega)
  | rfl
  | (exfalso; omega)
  | trace_state
theorem rget_fn (s : ByteArray) : FnSound Tryz.prog 68 [.val false [.d (.v (.string s))]] [] { vals := [(false, [.d (.v (.int .u64 (getP s).1))]), (false, [.d (.v (.int .i64 (getP s).2.1))]), (false, [.d (.v (.int .i64 (getP s).2.2))])] } := by
 refine startW (tm := [(0, _)]) Tryz.func68 rfl Tryz.ntmps68 rfl rfl rfl rfl ?_
 repeat' (first
 |(with_reducible refine rgn 5 500 ?_ ?_); exact rfl
 |(with_reducible refine rgn 6 600 ?_ ?_); exact rfl
 |(with_reducible refine rgn 7 700 ?_ ?_); exact rfl
 |(with_reducible refine rgn 8 800 ?_ ?_); exact rfl
 |(with_reducible refine rgn 9 900 ?_ ?_); exact rfl
 |(with_reducible refine rgn 10 1000 ?_ ?_); exact rfl
 |(with_reducible refine rgn 11 1100 ?_ ?_); exact rfl
 |(with_reducible refine rgn 12 1200 ?_ ?_); exact rfl
 |(with_reducible refine rgn 13 1300 ?_ ?_); exact rfl
 |(with_reducible refine rgn 14 1400 ?_ ?_); exact rfl
 |(with_reducible refine rgn 15 1500 ?_ ?_); exact rfl
 |(with_reducible refine rgn 4 1600 ?_ ?_); exact rfl
 |(with_reducible refine blk_at (id := 0) ?_); ((with_reducible refine JL.loopW 0 399 (fun (i : Nat) tm => (7, .one false [.d (.v (.int .i64 ((i : Int))))]) :: (5, .one false [.d (.v (.int .u64 ((accV s i))))]) :: (6, .one false [.d (.v (.int .u64 ((128 ^ i))))]) :: tm) (fun (i : Nat) bo => bo) (fun (i : Nat) => i ≤ 9 ∧ i ≤ s.size ∧ getV s (10 - i) i = getP s) (fun (i : Nat) => 10 - i) (0) ?_ (fun i hi => have hb := byteN_rng s i; have ha := accV_rng s i; ?_) ?_); (focus (apply SubW [] rfl ?_ ?_ rfl ?_; (repeat' (first | exact kA | refine kB ?_ | refine kC ?_ ?_ | exact kD | fail)))))
 |((with_reducible refine round_next (i := i) (i + 1) ?_ ?_ ?_); (focus (apply SubW [] rfl ?_ ?_ rfl ?_; (repeat' (first | exact kA | refine kB ?_ | refine kC ?_ ?_ | exact kD | fail)))))
 |refine wA ?_
 |(refine wC ?_ ?_ <;> intro hc)
 |refine wB ?_ ?_
 |(with_reducible refine JL.block ?_)
 |(with_reducible refine F_at ?_); refine eW (vs := [(_, _), (_, _), (_, _)]) Tryz.results68 ?_; (focus (repeat' (first | exact oA | refine oB ?_ | refine oC ?_ ?_ | fail)))
 |exact oM
 |fail)
 all_goals first
  | (rw [get_end (i := i) (by omega) hi.2.2 (by omega)]; done)
  | (rw [get_big (i := i) (by omega) hi.2.2 (by omega) (by omega)]; done)
  | (rw [get_long (i := i) (by omega) hi.2.2 (by omega) (by omega)]; done)
  | (rw [get_ok (i := i) (by omega) hi.2.2 (by omega) (by omega) (by omega) (by omega)]; done)
  | (rw [get_ok (i := i) (by omega) hi.2.2 (by omega) (by omega) (by omega) (by omega)]; exact get_add (by omega) (by omega))
  | exact get_add (by omega) (by omega)
  | exact unit_next (by omega)
  | (have hn := get_next (i := i) (by omega) hi.2.2 (by omega) (by omega) (by omega); exact ⟨hn.2, by omega, hn.1⟩)
  | exact ⟨Nat.zero_le _, Nat.zero_le _, rfl⟩
  | rfl
  | (exfalso; omega)
  | trace_state
theorem rext_fn (c : Int) (s : ByteArray) (hc : 0 ≤ c ∧ c < 4294967296) (hs : s.size ≤ 10000000) : FnSound Tryz.prog 96 [.val false [.d (.v (.int .u32 c))], .val false [.d (.v (.string s))]] [] { vals := [(false, [.d (.v (.int .u32 (extP c s)))])] } := by
 have hcr := fun k => crcA_rng s (bits32 .xor c 4294967295) k
 have hit := fun k j => itC_rng (bits32 .xor (crcA s (bits .xor .u32 c 4294967295) k) (byteN s k)) j
 refine startW (tm := [(0, _), (1, _)]) Tryz.func96 rfl Tryz.ntmps96 rfl rfl rfl rfl ?_
 repeat' (first
 |(with_reducible refine rgn 5 500 ?_ ?_); exact rfl
 |(with_reducible refine rgn 6 600 ?_ ?_); exact rfl
 |(with_reducible refine rgn 7 700 ?_ ?_); exact rfl
 |(with_reducible refine rgn 9 800 ?_ ?_); exact rfl
 |(with_reducible refine rgn 10 900 ?_ ?_); exact rfl
 |(with_reducible refine rgn 11 1000 ?_ ?_); exact rfl
 |(with_reducible refine rgn 8 1100 ?_ ?_); exact rfl
 |(with_reducible refine rgn 4 1200 ?_ ?_); exact rfl
 |(with_reducible refine blk_at (id := 0) ?_); ((with_reducible refine JL.loopW 0 399 (fun (k : Nat) tm => (5, .one false [.d (.v (.int .i64 ((k : Int))))]) :: (0, .one false [.d (.v (.int .u32 ((crcA s (bits .xor .u32 c 4294967295) k))))]) :: tm) (fun (k : Nat) bo => bo) (fun (k : Nat) => k ≤ s.size) (fun (k : Nat) => s.size - k) (0) ?_ (fun k hk => have hb := byteN_rng s k; ?_) ?_); (focus (apply SubW [] rfl ?_ ?_ rfl ?_; (repeat' (first | exact kA | refine kB ?_ | refine kC ?_ ?_ | exact kD | fail)))))
 |((with_reducible refine round_next (i := k) (k + 1) ?_ ?_ ?_); (focus (apply SubW [] rfl ?_ ?_ rfl ?_; (repeat' (first | exact kA | refine kB ?_ | refine kC ?_ ?_ | exact kD | fail)))))
 |(with_reducible refine blk_at (id := 2) ?_); ((with_reducible refine JL.loopW 2 699 (fun (j : Nat) tm => (6, .one false [.d (.v (.int .i64 ((j : Int))))]) :: (0, .one false [.d (.v (.int .u32 ((itC j (bits .xor .u32 (crcA s (bits .xor .u32 c 4294967295) k) (byteN s k))))))]) :: tm) (fun (j : Nat) bo => bo) (fun (j : Nat) => j ≤ 8) (fun (j : Nat) => 8 - j) (0) ?_ (fun j hj => have hi := hit k j; ?_) ?_); (focus (apply SubW [] rfl ?_ ?_ rfl ?_; (repeat' (first | exact kA | refine kB ?_ | refine kC ?_ ?_ | exact kD | fail)))))
 |((with_reducible refine round_next (i := j) (j + 1) ?_ ?_ ?_); (focus (apply SubW [] rfl ?_ ?_ rfl ?_; (repeat' (first | exact kA | refine kB ?_ | refine kC ?_ ?_ | exact kD | fail)))))
 |refine wA ?_
 |(refine wC ?_ ?_ <;> intro hc)
 |refine wB ?_ ?_
 |(with_reducible refine JL.block ?_)
 |(with_reducible refine F_at ?_); refine eW (vs := [(_, _)]) Tryz.results96 ?_; (focus (repeat' (first | exact oA | refine oB ?_ | refine oC ?_ ?_ | fail)))
 |exact oM
 |fail)
 all_goals first
  | with_reducible exact crc_odd (by omega) hc
  | with_reducible exact crc_even (by omega) hc
  | (rcases Nat.lt_or_eq_of_le hj with e | e
     ·exfalso; omega
     ·subst e; with_reducible exact crcA_next _ _ _)
  | (rcases Nat.lt_or_eq_of_le hk with e | e
     ·exfalso; omega
     ·subst e; with_reducible exact extP_eq _ _)
  | rfl
  | (exfalso; omega)
  | trace_state
theorem rcrc_fn (s : ByteArray) (hs : s.size ≤ 10000000) : FnSound Tryz.prog 65 [.val false [.d (.v (.string s))]] [] { vals := [(false, [.d (.v (.int .u32 (extP 0 s)))])] } := by
 have h := rext_fn 0 s (by decide) hs
 refine startW (tm := [(0, _)]) Tryz.func65 rfl Tryz.ntmps65 rfl rfl rfl rfl ?_
 repeat' (first
 |(with_reducible refine K_ca 96 ?_); refine zC (h) ?_
 |refine wA ?_
 |(refine wC ?_ ?_ <;> intro hc)
 |refine wB ?_ ?_
 |(with_reducible refine JL.block ?_)
 |(with_reducible refine F_at ?_); refine eW (vs := [(_, _)]) Tryz.results65 ?_; (focus (repeat' (first | exact oA | refine oB ?_ | refine oC ?_ ?_ | fail)))
 |exact oM
 |fail)
 all_goals first | rfl | trace_state
theorem rcrc4_fn (c : Int) (hc : 0 ≤ c ∧ c < 4294967296) : FnSound Tryz.prog 64 [.val false [.d (.v (.int .u32 c))]] [] { vals := [(false, [.d (.v (.string (strOfNums (be4 c))))])] } := by
 refine startW (tm := [(0, _)]) Tryz.func64 rfl Tryz.ntmps64 rfl rfl rfl rfl ?_
 repeat' (first
 |refine wA ?_
 |(refine wC ?_ ?_ <;> intro hc)
 |refine wB ?_ ?_
 |(with_reducible refine JL.block ?_)
 |(with_reducible refine F_at ?_); refine eW (vs := [(_, _)]) Tryz.results64 ?_; (focus (repeat' (first | exact oA | refine oB ?_ | refine oC ?_ ?_ | fail)))
 |exact oM
 |fail)
 all_goals first | rfl | trace_state
end Go.Proofs.YtngjhkgcfabciaaGreat

namespace Go.Proofs.YtngjhkgcfabciaaGreat
open Go Go.RowKit
set_option linter.unusedSimpArgs false
set_option linter.unusedVariables false
section
variable {P : Program} {lend : FuncId → Bool} {N : Nat} {ops : Array Oper} {dr : Bool} {cs : List Code} {R : AX → St → Prop} {i : Nat} {os : List Oper} {tm : List (Nat × AV)} {bo : BO} {nx : Nat} {ns : List Note} {d : Nat} {pos : String} {ty : TypeId} {af : Array Edge}
theorem W.idxA {t e : TypeId} {x ix : Operand} {q : Key} {off sz m : Nat} {n : Int} (hd : Nat.blt d N = true) (he : P.underlying t = some (.array m e)) (hs : sizeT P e = some sz) (hx : (ev (lk tm) x).bind slot1 = some (.ptr q off)) (hi : intV (ev (lk tm) ix) = some n) (hn : 0 ≤ n ∧ n < m) (h : W P lend N ops dr cs R (i + 1) os ((d, .one false [.ptr q (off + n.toNat * sz)]) :: tm) bo nx (ns ++ [⟨opKeys (lk tm) (lko bo) ⟨some d, .indexAddr t x ix, ty, pos, af, none⟩, []⟩])) : W P lend N ops dr cs R i (⟨some d, .indexAddr t x ix, ty, pos, af, none⟩ :: os) tm bo nx ns := by
 refine W.val hd ?_ h
 simp only [effOf]
 unfold effIndexAddr
 rw [ev_only (x := x) (by simp [Op.operands]), hx, ev_only (x := ix) (by simp [Op.operands]), hi, he]
 simp only [hs, if_pos hn, addOff, Option.map_some]
end
end Go.Proofs.YtngjhkgcfabciaaGreat

namespace Go.Proofs.YtngjhkgcfabciaaGreat
open Go Go.RowKit
set_option linter.unusedSimpArgs false
set_option linter.unusedVariables false
theorem replayL_at {p : Prob} {rs : List Int} {c : CtlD} {es : List EntD} {k : Nat} (hk : k < es.length) : replayL p rs c (es.drop k) = match oneP p rs c (es.getD k nilE) with
    | none => (nilCtl, 1)
    | some c' => replayL p rs c' (es.drop (k + 1)) := by
 rw [dropD_cons (d := nilE) hk]; rfl
theorem replay_err {p : Prob} {rs : List Int} {c : CtlD} {es : List EntD} {k : Nat} {q : CtlD × Int} (hk : k < es.length) (h : replayL p rs c (es.drop k) = q) (hn : (oneP p rs c (es.getD k nilE)).isSome = false) : q = (nilCtl, 1) := by
 rw [← h, replayL_at hk]
 cases e : oneP p rs c (es.getD k nilE) with
 | none => rfl
 | some d => rw [e] at hn; cases hn
theorem replay_next {p : Prob} {rs : List Int} {c : CtlD} {es : List EntD} {k : Nat} {q : CtlD × Int} (hk : k < es.length) (h : replayL p rs c (es.drop k) = q) (hn : (oneP p rs c (es.getD k nilE)).isSome = true) : replayL p rs (oneD p rs c (es.getD k nilE)) (es.drop (k + 1)) = q ∧ oneP p rs c (es.getD k nilE) = some (oneD p rs c (es.getD k nilE)) := by
 rw [← h, replayL_at hk]
 cases e : oneP p rs c (es.getD k nilE) with
 | none => rw [e] at hn; cases hn
 | some d => unfold oneD; rw [e]; exact ⟨rfl, rfl⟩
theorem replay_inv {p : Prob} {rs : List Int} {c : CtlD} {x : EntD} {l : List StepD} {k : Nat} (h : CtlK p c) (hp : c.plan = l) (hl : l.length ≤ 1000000) (hr : 0 ≤ c.round ∧ c.round ≤ k) (hk : k ≤ 2000) (e : oneP p rs c x = some (oneD p rs c x)) : CtlK p (oneD p rs c x) ∧ (oneD p rs c x).plan = l ∧ 0 ≤ (oneD p rs c x).round ∧ (oneD p rs c x).round ≤ ((k + 1 : Nat) : Int) := by
 obtain ⟨h1, h2, h3⟩ := h.one (by rw [hp]; exact hl) e
 have w2 : w64 (c.round + 1) = c.round + 1 := w64_is (by omega)
 rw [w2] at h3
 exact ⟨h1, h2.trans hp, by omega, by omega⟩
end Go.Proofs.YtngjhkgcfabciaaGreat

namespace Go.Proofs.YtngjhkgcfabciaaGreat
open Go Go.RowKit
set_option maxRecDepth 100000
set_option maxHeartbeats 8000000
set_option linter.unusedSimpArgs false
set_option linter.unusedVariables false
theorem raborted_fn (p : Prob) (m : MixD) (i : Int) (hm : MixG p m) (hs : StepAt p ⟨4, i, 0⟩) : FnSound Tryz.prog 71 [.val true (probC p), .val true (mixC m), .val false [.d (.v (.int .i64 i))]] [] { vals := [(true, mixC (abortM p m i))] } := by
 refine startW (tm := [(0, _), (1, _), (2, _)]) Tryz.func71 rfl Tryz.ntmps71 rfl rfl rfl rfl ?_
 repeat' (first
 |(with_reducible refine K_ca 78 ?_); refine zC (after_fn p m ⟨4, i, 0⟩ hm.inn hs ⟨show (1 : Int) ≤ 4 by decide, show (4 : Int) ≤ 4 by decide⟩) ?_
 |refine wA ?_
 |(refine wC ?_ ?_ <;> intro hc)
 |refine wB ?_ ?_
 |(with_reducible refine JL.block ?_)
 |(with_reducible refine F_at ?_); refine eW (vs := [(_, _)]) Tryz.results71 ?_; (focus (repeat' (first | exact oA | refine oB ?_ | refine oC ?_ ?_ | fail)))
 |exact oM
 |fail)
 all_goals rfl
theorem rbegin_fn (p : Prob) (rs : List Int) (c : CtlD) (h : CtlK p c) (hs : setErr p rs = 0) (hl : c.plan.length ≤ 1000000) (hp : c.phase = 0) : FnSound Tryz.prog 69 [.val true (probC p), .val false [.d (.sl 1 (dInts rs))], .val true (ctlC c)] [] { vals := [(true, ctlC (beginR p rs c))] } := by
 have hso := setErr_ok hs
 have hvp := vp_all hso.1
 have hr := h.rng
 have hlt := h.lt (by omega)
 have hst := h.st (by omega)
 have hix := h.idx (by omega)
 have hrl := hso.2.1
 have hfr := fun hi => first_fn rs (c.plan.getD c.at_.toNat nilS).idx hi hso.2.2 (by omega)
 have haf := after_fn p c.mix (c.plan.getD c.at_.toNat nilS) h.g.inn hst.1 ⟨hst.2.1, by have := hst.2.2; unfold present at this; omega⟩
 have hix : ¬ (c.plan.getD c.at_.toNat nilS).kind = 3 → 0 ≤ (c.plan.getD c.at_.toNat nilS).idx ∧ (c.plan.getD c.at_.toNat nilS).idx ≤ rs.length := fun k => by have := hix k; omega
 clear hst hso hvp hs
 refine startW (tm := [(0, _), (1, _), (2, _)]) Tryz.func69 rfl Tryz.ntmps69 rfl rfl rfl rfl ?_
 repeat' (first
 |(with_reducible refine K_ca 51 ?_); refine zC (hfr (hix (by assumption))) ?_
 |(with_reducible refine K_ca 78 ?_); refine zC (haf) ?_
 |refine wA ?_
 |(refine wC ?_ ?_ <;> intro hc)
 |refine wB ?_ ?_
 |(with_reducible refine JL.block ?_)
 |(with_reducible refine F_at ?_); refine eW (vs := [(_, _)]) Tryz.results69 ?_; (focus (repeat' (first | exact oA | refine oB ?_ | refine oC ?_ ?_ | fail)))
 |exact oM
 |fail)
 all_goals (clear h hfr haf hix; unfold beginR present; first | rfl | ((repeat' split) <;> first | rfl | (exfalso; omega) | (exfalso; grind)) | trace_state)
theorem rdone_fn (p : Prob) (c : CtlD) (h : CtlK p c) (hl : c.plan.length ≤ 1000000) (hp : ¬ c.phase = 6) : FnSound Tryz.prog 70 [.val true (probC p), .val true (ctlC c)] [] { vals := [(true, ctlC (doneR p c))] } := by
 have hr := h.rng
 have hlt := h.lt hp
 have hst := h.st hp
 have w1 : w64 (c.at_ + 1) = c.at_ + 1 := w64_is (by omega)
 have e : doneR p c = { plan := c.plan, at_ := c.at_ + 1, phase := if c.at_ + 1 = c.plan.length then 6 else 0, replica := 0, round := c.round, token := c.token, mix := if ¬ (c.plan.getD c.at_.toNat nilS).kind = 1 then afterM p c.mix (c.plan.getD c.at_.toNat nilS) else c.mix } := by unfold doneR; rw [w1]; rfl
 have haf := after_fn p c.mix (c.plan.getD c.at_.toNat nilS) h.g.inn hst.1 ⟨hst.2.1, by have := hst.2.2; unfold present at this; omega⟩
 rw [e]
 clear hst
 refine startW (tm := [(0, _), (1, _)]) Tryz.func70 rfl Tryz.ntmps70 rfl rfl rfl rfl ?_
 repeat' (first
 |(with_reducible refine K_ca 78 ?_); refine zC (haf) ?_
 |refine wA ?_
 |(refine wC ?_ ?_ <;> intro hc)
 |refine wB ?_ ?_
 |(with_reducible refine JL.block ?_)
 |(with_reducible refine F_at ?_); refine eW (vs := [(_, _)]) Tryz.results70 ?_; (focus (repeat' (first | exact oA | refine oB ?_ | refine oC ?_ ?_ | fail)))
 |exact oM
 |fail)
 all_goals (clear h haf; first | rfl | (dsimp only; (repeat' split) <;> first | rfl | (exfalso; omega) | (exfalso; grind)) | trace_state)
theorem one5_fn (p : Prob) (rs : List Int) (c : CtlD) (tk ix : Int) (dt : ByteArray) (h : CtlK p c) (hs : setErr p rs = 0) (hl : c.plan.length ≤ 1000000) (hrd : -1000000000 ≤ c.round ∧ c.round ≤ 1000000000) : FnSound Tryz.prog 37 [.val true (probC p), .val false [.d (.sl 1 (dInts rs))], .val true (ctlC c), .val true [.d (.v (.int .i64 5)), .d (.v (.int .i64 tk)), .d (.v (.int .i64 ix)), .d (.v (.string dt))]] [] { vals := [(true, ctlC (oneD p rs c ⟨5, tk, ix, dt⟩)), (false, [.d (.v (.bool (oneP p rs c ⟨5, tk, ix, dt⟩).isSome))])] } := by
 have w2 : w64 (c.round + 1) = c.round + 1 := w64_is (by omega)
 have eb : bump c = ⟨c.plan, c.at_, c.phase, c.replica, c.round + 1, c.token, c.mix⟩ := by unfold bump; rw [w2]
 have hbk : CtlK p ⟨c.plan, c.at_, c.phase, c.replica, c.round + 1, c.token, c.mix⟩ := h.round _
 have hr := h.rng
 have hlt := h.lt
 have e : oneP p rs c ⟨5, tk, ix, dt⟩ = some c := by unfold oneP; simp [eb]
 unfold oneD
 rw [e, eb]
 clear e eb h
 refine startW (tm := [(0, _), (1, _), (2, _), (3, _)]) Tryz.func37 rfl Tryz.ntmps37 rfl rfl rfl rfl ?_
 repeat' (first
 |refine wA ?_
 |(refine wC ?_ ?_ <;> intro hc)
 |refine wB ?_ ?_
 |(with_reducible refine JL.block ?_)
 |(with_reducible refine F_at ?_); refine eW (vs := [(_, _), (_, _)]) Tryz.results37 ?_; (focus (repeat' (first | exact oA | refine oB ?_ | refine oC ?_ ?_ | fail)))
 |exact oM
 |fail)
 all_goals (clear hbk hs; first | rfl | ((repeat' split) <;> first | rfl | (exfalso; omega) | (exfalso; grind)) | trace_state)
theorem one1_fn (p : Prob) (rs : List Int) (c : CtlD) (tk ix : Int) (dt : ByteArray) (h : CtlK p c) (hs : setErr p rs = 0) (hl : c.plan.length ≤ 1000000) (hrd : -1000000000 ≤ c.round ∧ c.round ≤ 1000000000) : FnSound Tryz.prog 37 [.val true (probC p), .val false [.d (.sl 1 (dInts rs))], .val true (ctlC c), .val true [.d (.v (.int .i64 1)), .d (.v (.int .i64 tk)), .d (.v (.int .i64 ix)), .d (.v (.string dt))]] [] { vals := [(true, ctlC (oneD p rs c ⟨1, tk, ix, dt⟩)), (false, [.d (.v (.bool (oneP p rs c ⟨1, tk, ix, dt⟩).isSome))])] } := by
 have w2 : w64 (c.round + 1) = c.round + 1 := w64_is (by omega)
 have eb : bump c = ⟨c.plan, c.at_, c.phase, c.replica, c.round + 1, c.token, c.mix⟩ := by unfold bump; rw [w2]
 have hbk : CtlK p ⟨c.plan, c.at_, c.phase, c.replica, c.round + 1, c.token, c.mix⟩ := h.round _
 have hr := h.rng
 have hlt := h.lt
 have e : oneP p rs c ⟨1, tk, ix, dt⟩ = if ¬ ix = c.at_ then none else if c.phase = 0 then some (beginR p rs ⟨c.plan, c.at_, c.phase, c.replica, c.round + 1, c.token, c.mix⟩) else none := by unfold oneP; simp [eb]
 unfold oneD
 rw [e, eb]
 clear e eb h
 refine startW (tm := [(0, _), (1, _), (2, _), (3, _)]) Tryz.func37 rfl Tryz.ntmps37 rfl rfl rfl rfl ?_
 repeat' (first
 |(with_reducible refine K_ca 69 ?_); refine zC (rbegin_fn p rs ⟨c.plan, c.at_, c.phase, c.replica, c.round + 1, c.token, c.mix⟩ hbk hs hl (by assumption)) ?_
 |refine wA ?_
 |(refine wC ?_ ?_ <;> intro hc)
 |refine wB ?_ ?_
 |(with_reducible refine JL.block ?_)
 |(with_reducible refine F_at ?_); refine eW (vs := [(_, _), (_, _)]) Tryz.results37 ?_; (focus (repeat' (first | exact oA | refine oB ?_ | refine oC ?_ ?_ | fail)))
 |exact oM
 |fail)
 all_goals (clear hbk hs; first | rfl | ((repeat' split) <;> first | rfl | (exfalso; omega) | (exfalso; grind)) | trace_state)
theorem one2_fn (p : Prob) (rs : List Int) (c : CtlD) (tk ix : Int) (dt : ByteArray) (h : CtlK p c) (hs : setErr p rs = 0) (hl : c.plan.length ≤ 1000000) (hrd : -1000000000 ≤ c.round ∧ c.round ≤ 1000000000) : FnSound Tryz.prog 37 [.val true (probC p), .val false [.d (.sl 1 (dInts rs))], .val true (ctlC c), .val true [.d (.v (.int .i64 2)), .d (.v (.int .i64 tk)), .d (.v (.int .i64 ix)), .d (.v (.string dt))]] [] { vals := [(true, ctlC (oneD p rs c ⟨2, tk, ix, dt⟩)), (false, [.d (.v (.bool (oneP p rs c ⟨2, tk, ix, dt⟩).isSome))])] } := by
 have w2 : w64 (c.round + 1) = c.round + 1 := w64_is (by omega)
 have eb : bump c = ⟨c.plan, c.at_, c.phase, c.replica, c.round + 1, c.token, c.mix⟩ := by unfold bump; rw [w2]
 have hbk : CtlK p ⟨c.plan, c.at_, c.phase, c.replica, c.round + 1, c.token, c.mix⟩ := h.round _
 have hr := h.rng
 have hlt := h.lt
 have e : oneP p rs c ⟨2, tk, ix, dt⟩ = if ¬ ix = c.at_ then none else if c.phase = 1 ∨ c.phase = 4 then some (doneR p ⟨c.plan, c.at_, c.phase, c.replica, c.round + 1, c.token, c.mix⟩) else none := by unfold oneP; simp [eb]
 unfold oneD
 rw [e, eb]
 clear e eb h
 refine startW (tm := [(0, _), (1, _), (2, _), (3, _)]) Tryz.func37 rfl Tryz.ntmps37 rfl rfl rfl rfl ?_
 repeat' (first
 |(with_reducible refine K_ca 70 ?_); refine zC (rdone_fn p ⟨c.plan, c.at_, c.phase, c.replica, c.round + 1, c.token, c.mix⟩ hbk hl (by show ¬ c.phase = 6; omega)) ?_
 |refine wA ?_
 |(refine wC ?_ ?_ <;> intro hc)
 |refine wB ?_ ?_
 |(with_reducible refine JL.block ?_)
 |(with_reducible refine F_at ?_); refine eW (vs := [(_, _), (_, _)]) Tryz.results37 ?_; (focus (repeat' (first | exact oA | refine oB ?_ | refine oC ?_ ?_ | fail)))
 |exact oM
 |fail)
 all_goals (clear hbk hs; first | rfl | ((repeat' split) <;> first | rfl | (exfalso; omega) | (exfalso; grind)) | trace_state)
theorem one3_fn (p : Prob) (rs : List Int) (c : CtlD) (tk ix : Int) (dt : ByteArray) (h : CtlK p c) (hs : setErr p rs = 0) (hl : c.plan.length ≤ 1000000) (hrd : -1000000000 ≤ c.round ∧ c.round ≤ 1000000000) : FnSound Tryz.prog 37 [.val true (probC p), .val false [.d (.sl 1 (dInts rs))], .val true (ctlC c), .val true [.d (.v (.int .i64 3)), .d (.v (.int .i64 tk)), .d (.v (.int .i64 ix)), .d (.v (.string dt))]] [] { vals := [(true, ctlC (oneD p rs c ⟨3, tk, ix, dt⟩)), (false, [.d (.v (.bool (oneP p rs c ⟨3, tk, ix, dt⟩).isSome))])] } := by
 have w2 : w64 (c.round + 1) = c.round + 1 := w64_is (by omega)
 have eb : bump c = ⟨c.plan, c.at_, c.phase, c.replica, c.round + 1, c.token, c.mix⟩ := by unfold bump; rw [w2]
 have hbk : CtlK p ⟨c.plan, c.at_, c.phase, c.replica, c.round + 1, c.token, c.mix⟩ := h.round _
 have hr := h.rng
 have hlt := h.lt
 have e : oneP p rs c ⟨3, tk, ix, dt⟩ = if ¬ ix = c.at_ then none else if c.phase = 1 ∧ (c.plan.getD c.at_.toNat nilS).kind = 1 then some ⟨c.plan, c.at_, 3, c.replica, c.round + 1, c.token, c.mix⟩ else none := by unfold oneP; simp [eb, present]
 unfold oneD
 rw [e, eb]
 clear e eb h
 refine startW (tm := [(0, _), (1, _), (2, _), (3, _)]) Tryz.func37 rfl Tryz.ntmps37 rfl rfl rfl rfl ?_
 repeat' (first
 |refine wA ?_
 |(refine wC ?_ ?_ <;> intro hc)
 |refine wB ?_ ?_
 |(with_reducible refine JL.block ?_)
 |(with_reducible refine F_at ?_); refine eW (vs := [(_, _), (_, _)]) Tryz.results37 ?_; (focus (repeat' (first | exact oA | refine oB ?_ | refine oC ?_ ?_ | fail)))
 |exact oM
 |fail)
 all_goals (clear hbk hs; first | rfl | ((repeat' split) <;> first | rfl | (exfalso; omega) | (exfalso; grind)) | trace_state)
theorem one4_fn (p : Prob) (rs : List Int) (c : CtlD) (tk ix : Int) (dt : ByteArray) (h : CtlK p c) (hs : setErr p rs = 0) (hl : c.plan.length ≤ 1000000) (hrd : -1000000000 ≤ c.round ∧ c.round ≤ 1000000000) : FnSound Tryz.prog 37 [.val true (probC p), .val false [.d (.sl 1 (dInts rs))], .val true (ctlC c), .val true [.d (.v (.int .i64 4)), .d (.v (.int .i64 tk)), .d (.v (.int .i64 ix)), .d (.v (.string dt))]] [] { vals := [(true, ctlC (oneD p rs c ⟨4, tk, ix, dt⟩)), (false, [.d (.v (.bool (oneP p rs c ⟨4, tk, ix, dt⟩).isSome))])] } := by
 have w2 : w64 (c.round + 1) = c.round + 1 := w64_is (by omega)
 have eb : bump c = ⟨c.plan, c.at_, c.phase, c.replica, c.round + 1, c.token, c.mix⟩ := by unfold bump; rw [w2]
 have hbk : CtlK p ⟨c.plan, c.at_, c.phase, c.replica, c.round + 1, c.token, c.mix⟩ := h.round _
 have hr := h.rng
 have hlt := h.lt
 have hsa : c.phase = 3 → StepAt p ⟨4, (c.plan.getD c.at_.toNat nilS).idx, 0⟩ := fun a => abort_at (h.st (by omega)).1 (show ¬ (present c).kind = 3 by have := (h.ph2 (.inr a)).1; omega)
 have hmg := h.g
 have e : oneP p rs c ⟨4, tk, ix, dt⟩ = if ¬ ix = c.at_ then none else if c.phase = 3 then some ⟨c.plan, c.at_, 0, 0, c.round + 1, c.token, abortM p c.mix (c.plan.getD c.at_.toNat nilS).idx⟩ else none := by unfold oneP; simp [eb, present]
 unfold oneD
 rw [e, eb]
 clear e eb h
 refine startW (tm := [(0, _), (1, _), (2, _), (3, _)]) Tryz.func37 rfl Tryz.ntmps37 rfl rfl rfl rfl ?_
 repeat' (first
 |(with_reducible refine K_ca 71 ?_); refine zC (raborted_fn p c.mix (c.plan.getD c.at_.toNat nilS).idx hmg (hsa (by assumption))) ?_
 |refine wA ?_
 |(refine wC ?_ ?_ <;> intro hc)
 |refine wB ?_ ?_
 |(with_reducible refine JL.block ?_)
 |(with_reducible refine F_at ?_); refine eW (vs := [(_, _), (_, _)]) Tryz.results37 ?_; (focus (repeat' (first | exact oA | refine oB ?_ | refine oC ?_ ?_ | fail)))
 |exact oM
 |fail)
 all_goals (clear hbk hs hsa hmg; first | rfl | ((repeat' split) <;> first | rfl | (exfalso; omega) | (exfalso; grind)) | trace_state)
theorem oneX_fn (p : Prob) (rs : List Int) (c : CtlD) (k tk ix : Int) (dt : ByteArray) (h : CtlK p c) (hs : setErr p rs = 0) (hl : c.plan.length ≤ 1000000) (hrd : -1000000000 ≤ c.round ∧ c.round ≤ 1000000000) (hk : ¬ k = 5 ∧ ¬ k = 1 ∧ ¬ k = 2 ∧ ¬ k = 3 ∧ ¬ k = 4) : FnSound Tryz.prog 37 [.val true (probC p), .val false [.d (.sl 1 (dInts rs))], .val true (ctlC c), .val true [.d (.v (.int .i64 k)), .d (.v (.int .i64 tk)), .d (.v (.int .i64 ix)), .d (.v (.string dt))]] [] { vals := [(true, ctlC (oneD p rs c ⟨k, tk, ix, dt⟩)), (false, [.d (.v (.bool (oneP p rs c ⟨k, tk, ix, dt⟩).isSome))])] } := by
 have w2 : w64 (c.round + 1) = c.round + 1 := w64_is (by omega)
 have eb : bump c = ⟨c.plan, c.at_, c.phase, c.replica, c.round + 1, c.token, c.mix⟩ := by unfold bump; rw [w2]
 have e : oneP p rs c ⟨k, tk, ix, dt⟩ = none := by unfold oneP; simp [hk]
 unfold oneD
 rw [e, eb]
 clear e eb
 have d5 : decide (k = 5) = false := decide_eq_false hk.1
 refine startW (tm := [(0, _), (1, _), (2, _), (3, _)]) Tryz.func37 rfl Tryz.ntmps37 rfl rfl rfl rfl ?_
 repeat' (first
 |refine wA ?_
 |(refine wC ?_ ?_ <;> intro hc)
 |refine wB ?_ ?_
 |(with_reducible refine JL.block ?_)
 |(with_reducible refine F_at ?_); refine eW (vs := [(_, _), (_, _)]) Tryz.results37 ?_; (focus (repeat' (first | exact oA | refine oB ?_ | refine oC ?_ ?_ | fail)))
 |exact oM
 |fail)
 all_goals first | rfl | (exfalso; omega) | ((repeat' split) <;> first | rfl | (exfalso; omega) | (exfalso; grind)) | trace_state
theorem one_fn (p : Prob) (rs : List Int) (c : CtlD) (x : EntD) (h : CtlK p c) (hs : setErr p rs = 0) (hl : c.plan.length ≤ 1000000) (hrd : -1000000000 ≤ c.round ∧ c.round ≤ 1000000000) : FnSound Tryz.prog 37 [.val true (probC p), .val false [.d (.sl 1 (dInts rs))], .val true (ctlC c), .val true ((entRow x).map .d)] [] { vals := [(true, ctlC (oneD p rs c x)), (false, [.d (.v (.bool (oneP p rs c x).isSome))])] } := by
 obtain ⟨k, tk, ix, dt⟩ := x
 by_cases k5 : k = 5
 ·subst k5; exact one5_fn p rs c tk ix dt h hs hl hrd
 by_cases k1 : k = 1
 ·subst k1; exact one1_fn p rs c tk ix dt h hs hl hrd
 by_cases k2 : k = 2
 ·subst k2; exact one2_fn p rs c tk ix dt h hs hl hrd
 by_cases k3 : k = 3
 ·subst k3; exact one3_fn p rs c tk ix dt h hs hl hrd
 by_cases k4 : k = 4
 ·subst k4; exact one4_fn p rs c tk ix dt h hs hl hrd
 exact oneX_fn p rs c k tk ix dt h hs hl hrd ⟨k5, k1, k2, k3, k4⟩
end Go.Proofs.YtngjhkgcfabciaaGreat

namespace Go.Proofs.YtngjhkgcfabciaaGreat
open Go Go.RowKit
set_option maxRecDepth 100000
set_option maxHeartbeats 8000000
set_option linter.unusedSimpArgs false
set_option linter.unusedVariables false
theorem replay_fn (p : Prob) (rs : List Int) (l : List StepD) (es : List EntD) (hs : setErr p rs = 0) (hc0 : checkP p l = true) (hl : l.length ≤ 1000000) (he : es.length ≤ 2000) : FnSound Tryz.prog 18 [.val true (probC p), .val false [.d (.sl 1 (dInts rs))], .val false [.d (.sl 3 (dSteps l))], .val false [.d (.sl 4 (dEnts es))]] [] { vals := [(true, ctlC (replayP p rs l es).1), (false, [.d (.v (.int .i64 (replayP p rs l es).2))])] } := by
 obtain ⟨n1, n2, n3, n4⟩ := newP_k hs hc0
 have hnf := new_fn p rs l hs hc0 hl
 have e : replayP p rs l es = replayL p rs (newP p rs l).1 es := by unfold replayP; rw [if_neg (by simpa using n4)]
 rw [e]
 generalize (newP p rs l).1 = c0 at hnf n1 n2 n3 ⊢
 refine startW (tm := [(0, _), (1, _), (2, _), (3, _)]) Tryz.func18 rfl Tryz.ntmps18 rfl rfl rfl rfl ?_
 repeat' (first
 |(with_reducible refine rgn 7 700 ?_ ?_); exact rfl
 |(with_reducible refine rgn 8 800 ?_ ?_); exact rfl
 |(with_reducible refine rgn 9 900 ?_ ?_); exact rfl
 |(with_reducible refine rgn 10 1000 ?_ ?_); exact rfl
 |(with_reducible refine rgn 6 1100 ?_ ?_); exact rfl
 |(with_reducible refine K_ca 24 ?_); refine zC (hnf) ?_
 |(with_reducible refine K_ca 37 ?_); refine zC (one_fn p rs y.2 (es.getD y.1 nilE) hy.2.1 hs (by rw [hy.2.2.1]; exact hl) (by omega)) ?_
 |(with_reducible refine blk_at (id := 0) ?_); ((with_reducible refine JL.loopW 0 599 (fun (y : Nat × CtlD) tm => (12, .one false [.d (.v (.int .i64 ((y.1 : Int))))]) :: tm) (fun (y : Nat × CtlD) bo => ((448, 200), some (.st 47 [.d (.sl 3 ((dSteps y.2.plan))), .d (.v (.int .i64 (y.2.at_))), .d (.v (.int .i64 (y.2.phase))), .d (.v (.int .i64 (y.2.replica))), .d (.v (.int .i64 (y.2.round))), .d (.v (.int .i64 (y.2.token))), .d (.sl 1 ((dInts y.2.mix.base))), .d (.sl 1 ((dInts y.2.mix.next))), .d (.sl 1 ((dSets y.2.mix.held)))])) :: bo) (fun (y : Nat × CtlD) => y.1 ≤ es.length ∧ CtlK p y.2 ∧ y.2.plan = l ∧ (0 ≤ y.2.round ∧ y.2.round ≤ y.1) ∧ replayL p rs y.2 (es.drop y.1) = replayL p rs c0 es) (fun (y : Nat × CtlD) => es.length - y.1) ((0, c0)) ?_ (fun y hy => ?_) ?_); (focus (apply SubW [] rfl ?_ ?_ rfl ?_; (repeat' (first | exact kA | refine kB ?_ | refine kC ?_ ?_ | exact kD | fail)))))
 |((with_reducible refine round_next (i := y) ((y.1 + 1, oneD p rs y.2 (es.getD y.1 nilE))) ?_ ?_ ?_); (focus (apply SubW [] rfl ?_ ?_ rfl ?_; (repeat' (first | exact kA | refine kB ?_ | refine kC ?_ ?_ | exact kD | fail)))))
 |refine wA ?_
 |(refine wC ?_ ?_ <;> intro hc)
 |refine wB ?_ ?_
 |(with_reducible refine JL.block ?_)
 |(with_reducible refine F_at ?_); refine eW (vs := [(_, _), (_, _)]) Tryz.results18 ?_; (focus (repeat' (first | exact oA | refine oB ?_ | refine oC ?_ ?_ | fail)))
 |exact oM
 |fail)
 all_goals first
  | rfl
  | (rw [replay_err (k := y.1) (by omega) hy.2.2.2.2 (by simpa using hc)] <;> rfl)
  | (have hn := replay_next (k := y.1) (by omega) hy.2.2.2.2 (by simpa using hc); have hi := replay_inv hy.2.1 hy.2.2.1 hl hy.2.2.2.1 (by omega) hn.2; exact ⟨by dsimp only; omega, hi.1, hi.2.1, hi.2.2, hn.1⟩)
  | (rw [← hy.2.2.2.2, List.drop_eq_nil_of_le (by omega)] <;> rfl)
  | exact ⟨Nat.zero_le _, n1, n2, by dsimp only; omega, rfl⟩
  | trace_state
end Go.Proofs.YtngjhkgcfabciaaGreat

