/- Rules of runs and contracts of functions, for the claims of one seat. -/
import Derived.Test.YtngjhkgcfabciaaGreatQA13
import Derived.Test.YtngjhkgcfabciaaGreatQA15
import Derived.Test.YtngjhkgcfabciaaGreatQA23
import Derived.Test.YtngjhkgcfabciaaGreatQA27
namespace Go.Proofs.YtngjhkgcfabciaaGreat
open Go Go.RowKit
set_option maxRecDepth 100000
set_option maxHeartbeats 8000000
set_option linter.unusedSimpArgs false
set_option linter.unusedVariables false
theorem validP_is {p : Prob} {rs : List Int} {c : CtlD} {M : MixD} {x lo hi : Int} (hs : setErr p rs = 0) (hE : expectP p c.plan c.at_ c.phase = (M, 0)) (hx : extraP c.phase = x) (hlo : lowP rs c = lo) (hhi : highP rs c = hi) : validP p rs c = if c.token < 0 then false else if c.round < 2 * c.at_ + x then false else if ¬ (c.round - 2 * c.at_ - x).tmod 3 = 0 ∨ c.replica < lo ∨ hi < c.replica then false else if c.mix = M then true else decide (c.phase = 0 ∧ kindP c.plan c.at_ = 1 ∧ 3 ≤ c.round - 2 * c.at_ - x ∧ c.mix = abortedP p c.plan c.at_) := by
 unfold validP restP
 rw [hE, hx, hlo, hhi]
 by_cases ht : c.token < 0
 ·rw [if_pos (.inr ht), if_pos ht]
 ·rw [if_neg (by rintro (a | a); exact a hs; exact ht a), if_neg ht, if_neg (fun a => a rfl)]
theorem expect_at {p : Prob} {l : List StepD} {a ph : Int} (hv : vpErr p = 0) (hc : checkP p l = true) (h0 : 0 ≤ a ∧ a ≤ l.length) (h6 : ph = 6 ↔ a = l.length) : ((ph = 0 ∨ ph = 6 ∨ (ph = 1 ∧ kindP l a = 2) ∨ (ph = 4 ∧ kindP l a = 3)) → expectP p l a ph = ((mixesP p l).getD a.toNat nilM, 0)) ∧ ((ph = 1 ∨ ph = 2 ∨ ph = 3) ∧ kindP l a = 1 → expectP p l a ph = ((mixesP p l).getD (a + 1).toNat nilM, 0)) ∧ (ph = 5 ∧ kindP l a = 1 → expectP p l a ph = (abortedP p l a, 0)) := by
 have e : expectP p l a ph = if ph = 0 ∨ ph = 6 ∨ (ph = 1 ∧ kindP l a = 2) ∨ (ph = 4 ∧ kindP l a = 3) then ((mixesP p l).getD a.toNat nilM, 0)
     else if (ph = 1 ∨ ph = 2 ∨ ph = 3) ∧ kindP l a = 1 then ((mixesP p l).getD (a + 1).toNat nilM, 0)
     else if ph = 5 ∧ kindP l a = 1 then (abortedP p l a, 0)
     else (nilM, 7) := by
  unfold expectP
  rw [if_neg (by simpa using hv), if_neg (by rw [hc]; decide), if_neg (by rintro (b | b | b); omega; omega; exact b h6)]
 refine ⟨fun b => by rw [e, if_pos b], fun b => ?_, fun b => ?_⟩
 ·rw [e, if_neg (by omega), if_pos b]
 ·rw [e, if_neg (by omega), if_neg (by omega), if_pos b]
theorem valid0_fn (p : Prob) (rs : List Int) (pl : List StepD) (a rp rd tk : Int) (mx : MixD) (hs : setErr p rs = 0) (hck : checkP p pl = true) (hl : pl.length ≤ 1000000) (hr : 0 ≤ a ∧ a ≤ pl.length) (h6 : (0 : Int) = 6 ↔ a = pl.length) (hrd : -1000000000 ≤ rd ∧ rd ≤ 1000000000) (hf : Few mx) (hu : u8s mx.held) : FnSound Tryz.prog 54 [.val true (probC p), .val false [.d (.sl 1 (dInts rs))], .val true [.d (.sl 3 (dSteps pl)), .d (.v (.int .i64 a)), .d (.v (.int .i64 0)), .d (.v (.int .i64 rp)), .d (.v (.int .i64 rd)), .d (.v (.int .i64 tk)), .d (.sl 1 (dInts mx.base)), .d (.sl 1 (dInts mx.next)), .d (.sl 1 (dSets mx.held))]] [] { vals := [(false, [.d (.v (.bool (validP p rs ⟨pl, a, 0, rp, rd, tk, mx⟩)))])] } := by
 have hso := setErr_ok hs
 have hp := planOK_of hso.1 (start_err hso.1) hck
 have hlen := hp.len
 have hea := expect_at (ph := 0) hso.1 hck hr h6
 have hlt : a < pl.length := by omega
 have hki : kindP pl a = (pl.getD a.toNat nilS).kind := by unfold kindP; rw [if_pos hlt]
 have hE : expectP p pl a 0 = (((mixesP p pl).getD a.toNat nilM), 0) := hea.1 (.inl rfl)
 have hef := expect_fn p pl a 0 hso.1 hl
 rw [hE] at hef
 have hgm := hp.g (k := a.toNat) (by omega)
 have hab := fun hk : (pl.getD a.toNat nilS).kind = 1 => (hp.abort ⟨hr.1, hlt⟩ hk).1
 have hkf := kind_fn pl a hr.1 hl
 rw [hki] at hkf
 have e : validP p rs ⟨pl, a, 0, rp, rd, tk, mx⟩ = if tk < 0 then false else if rd < 2 * a + 0 then false else if ¬ (rd - 2 * a - 0).tmod 3 = 0 ∨ rp < 0 ∨ 0 < rp then false else if mx = ((mixesP p pl).getD a.toNat nilM) then true else decide ((0 : Int) = 0 ∧ (pl.getD a.toNat nilS).kind = 1 ∧ 3 ≤ rd - 2 * a - 0 ∧ mx = (abortedP p pl a)) := by
  have := validP_is (c := ⟨pl, a, 0, rp, rd, tk, mx⟩) (x := 0) (lo := 0) (hi := 0) hs hE rfl rfl rfl
  rw [this]
  show (if tk < 0 then false else if rd < 2 * a + 0 then false else if ¬ (rd - 2 * a - 0).tmod 3 = 0 ∨ rp < 0 ∨ 0 < rp then false else if mx = ((mixesP p pl).getD a.toNat nilM) then true else decide ((0 : Int) = 0 ∧ kindP pl a = 1 ∧ 3 ≤ rd - 2 * a - 0 ∧ mx = (abortedP p pl a))) = _
  rw [hki]
 rw [e]
 have hfew := hgm.few; have hgu := hgm.u
 clear e hE hea hp hgm hso
 refine startW (tm := [(0, _), (1, _), (2, _)]) Tryz.func54 rfl Tryz.ntmps54 rfl rfl rfl rfl ?_
 repeat' (first
 |(with_reducible refine K_ca 46 ?_); refine zC (settingOK_fn hs) ?_
 |(with_reducible refine K_ca 85 ?_); refine zC (hef) ?_
 |(with_reducible refine K_ca 20 ?_); (first
 |refine zC (equal_fn mx ((mixesP p pl).getD a.toNat nilM) hf hfew hu hgu) ?_
 |refine zC (equal_fn mx (abortedP p pl a) hf (hab (by assumption)).few hu (hab (by assumption)).u) ?_)
 |(with_reducible refine K_ca 86 ?_); refine zC (hkf) ?_
 |(with_reducible refine K_ca 49 ?_); refine zC (aborted_fn p pl a (planOK_of (setErr_ok hs).1 (start_err (setErr_ok hs).1) hck) hl ⟨hr.1, hlt⟩ (by assumption)) ?_
 |refine wA ?_
 |(refine wC ?_ ?_ <;> intro hc)
 |refine wB ?_ ?_
 |(with_reducible refine JL.block ?_)
 |(with_reducible refine F_at ?_); refine eW (vs := [(_, _)]) Tryz.results54 ?_; (focus (repeat' (first | exact oA | refine oB ?_ | refine oC ?_ ?_ | fail)))
 |exact oM
 |fail)
 all_goals (clear hs hck hef hf hu hfew hgu; first | rfl | ((repeat' split) <;> first | rfl | (exfalso; omega) | (exfalso; grind) | grind) | trace_state)
theorem valid1a_fn (p : Prob) (rs : List Int) (pl : List StepD) (a rp rd tk : Int) (mx : MixD) (hs : setErr p rs = 0) (hck : checkP p pl = true) (hl : pl.length ≤ 1000000) (hr : 0 ≤ a ∧ a ≤ pl.length) (h6 : (1 : Int) = 6 ↔ a = pl.length) (hkd : (pl.getD a.toNat nilS).kind = 1) (hrd : -1000000000 ≤ rd ∧ rd ≤ 1000000000) (hf : Few mx) (hu : u8s mx.held) : FnSound Tryz.prog 54 [.val true (probC p), .val false [.d (.sl 1 (dInts rs))], .val true [.d (.sl 3 (dSteps pl)), .d (.v (.int .i64 a)), .d (.v (.int .i64 1)), .d (.v (.int .i64 rp)), .d (.v (.int .i64 rd)), .d (.v (.int .i64 tk)), .d (.sl 1 (dInts mx.base)), .d (.sl 1 (dInts mx.next)), .d (.sl 1 (dSets mx.held))]] [] { vals := [(false, [.d (.v (.bool (validP p rs ⟨pl, a, 1, rp, rd, tk, mx⟩)))])] } := by
 have hso := setErr_ok hs
 have hp := planOK_of hso.1 (start_err hso.1) hck
 have hlen := hp.len
 have hea := expect_at (ph := 1) hso.1 hck hr h6
 have hlt : a < pl.length := by omega
 have hki : kindP pl a = (pl.getD a.toNat nilS).kind := by unfold kindP; rw [if_pos hlt]
 have hE : expectP p pl a 1 = (((mixesP p pl).getD (a + 1).toNat nilM), 0) := hea.2.1 ⟨.inl rfl, hki.trans hkd⟩
 have hef := expect_fn p pl a 1 hso.1 hl
 rw [hE] at hef
 have hgm := hp.g (k := (a + 1).toNat) (by omega)
 have hst := (hp.step (k := a.toNat) (by omega)).1
 have hsv := hst.svc (by omega)
 have hnn := hst.nn
 have hvp := vp_all hso.1
 have hrl := hso.2.1
 have hsl := sum_le hso.2.2 (pl.getD a.toNat nilS).idx.toNat
 have hrr := hso.2.2 (pl.getD a.toNat nilS).idx.toNat
 have efr : firstR rs (pl.getD a.toNat nilS).idx = (rs.take (pl.getD a.toNat nilS).idx.toNat).sum := rfl
 have hfi := first_fn rs (pl.getD a.toNat nilS).idx (by omega) hso.2.2 (by omega)
 have hv6 := hvp.1
 clear hst hvp
 have e : validP p rs ⟨pl, a, 1, rp, rd, tk, mx⟩ = if tk < 0 then false else if rd < 2 * a + 1 then false else if ¬ (rd - 2 * a - 1).tmod 3 = 0 ∨ rp < firstR rs (pl.getD a.toNat nilS).idx ∨ firstR rs (pl.getD a.toNat nilS).idx < rp then false else if mx = ((mixesP p pl).getD (a + 1).toNat nilM) then true else false := by
  have := validP_is (c := ⟨pl, a, 1, rp, rd, tk, mx⟩) (x := 1) (lo := firstR rs (pl.getD a.toNat nilS).idx) (hi := firstR rs (pl.getD a.toNat nilS).idx) hs hE rfl rfl (by unfold highP; rw [if_neg (fun b => absurd (hkd.symm.trans b.2) (by decide))]; rfl)
  rw [this]
  have ef : decide ((1 : Int) = 0 ∧ kindP pl a = 1 ∧ 3 ≤ rd - 2 * a - 1 ∧ mx = (abortedP p pl a)) = false := decide_eq_false (fun b => absurd b.1 (by decide))
  exact congrArg (fun z => if tk < 0 then false else if rd < 2 * a + 1 then false else if ¬ (rd - 2 * a - 1).tmod 3 = 0 ∨ rp < firstR rs (pl.getD a.toNat nilS).idx ∨ firstR rs (pl.getD a.toNat nilS).idx < rp then false else if mx = ((mixesP p pl).getD (a + 1).toNat nilM) then true else z) ef
 rw [e]
 have hfew := hgm.few; have hgu := hgm.u
 clear e hE hea hp hgm hso
 refine startW (tm := [(0, _), (1, _), (2, _)]) Tryz.func54 rfl Tryz.ntmps54 rfl rfl rfl rfl ?_
 repeat' (first
 |(with_reducible refine K_ca 46 ?_); refine zC (settingOK_fn hs) ?_
 |(with_reducible refine K_ca 85 ?_); refine zC (hef) ?_
 |(with_reducible refine K_ca 51 ?_); refine zC (hfi) ?_
 |(with_reducible refine K_ca 20 ?_); refine zC (equal_fn mx ((mixesP p pl).getD (a + 1).toNat nilM) hf hfew hu hgu) ?_
 |refine wA ?_
 |(refine wC ?_ ?_ <;> intro hc)
 |refine wB ?_ ?_
 |(with_reducible refine JL.block ?_)
 |(with_reducible refine F_at ?_); refine eW (vs := [(_, _)]) Tryz.results54 ?_; (focus (repeat' (first | exact oA | refine oB ?_ | refine oC ?_ ?_ | fail)))
 |exact oM
 |fail)
 all_goals (clear hs hck hef hf hu hfew hgu; first | rfl | ((repeat' split) <;> first | rfl | (exfalso; omega) | (exfalso; grind) | grind) | trace_state)
theorem valid1b_fn (p : Prob) (rs : List Int) (pl : List StepD) (a rp rd tk : Int) (mx : MixD) (hs : setErr p rs = 0) (hck : checkP p pl = true) (hl : pl.length ≤ 1000000) (hr : 0 ≤ a ∧ a ≤ pl.length) (h6 : (1 : Int) = 6 ↔ a = pl.length) (hkd : (pl.getD a.toNat nilS).kind = 2) (hrd : -1000000000 ≤ rd ∧ rd ≤ 1000000000) (hf : Few mx) (hu : u8s mx.held) : FnSound Tryz.prog 54 [.val true (probC p), .val false [.d (.sl 1 (dInts rs))], .val true [.d (.sl 3 (dSteps pl)), .d (.v (.int .i64 a)), .d (.v (.int .i64 1)), .d (.v (.int .i64 rp)), .d (.v (.int .i64 rd)), .d (.v (.int .i64 tk)), .d (.sl 1 (dInts mx.base)), .d (.sl 1 (dInts mx.next)), .d (.sl 1 (dSets mx.held))]] [] { vals := [(false, [.d (.v (.bool (validP p rs ⟨pl, a, 1, rp, rd, tk, mx⟩)))])] } := by
 have hso := setErr_ok hs
 have hp := planOK_of hso.1 (start_err hso.1) hck
 have hlen := hp.len
 have hea := expect_at (ph := 1) hso.1 hck hr h6
 have hlt : a < pl.length := by omega
 have hki : kindP pl a = (pl.getD a.toNat nilS).kind := by unfold kindP; rw [if_pos hlt]
 have hE : expectP p pl a 1 = (((mixesP p pl).getD a.toNat nilM), 0) := hea.1 (.inr (.inr (.inl ⟨rfl, hki.trans hkd⟩)))
 have hef := expect_fn p pl a 1 hso.1 hl
 rw [hE] at hef
 have hgm := hp.g (k := a.toNat) (by omega)
 have hst := (hp.step (k := a.toNat) (by omega)).1
 have hsv := hst.svc (by omega)
 have hnn := hst.nn
 have hvp := vp_all hso.1
 have hrl := hso.2.1
 have hsl := sum_le hso.2.2 (pl.getD a.toNat nilS).idx.toNat
 have hrr := hso.2.2 (pl.getD a.toNat nilS).idx.toNat
 have efr : firstR rs (pl.getD a.toNat nilS).idx = (rs.take (pl.getD a.toNat nilS).idx.toNat).sum := rfl
 have hfi := first_fn rs (pl.getD a.toNat nilS).idx (by omega) hso.2.2 (by omega)
 have hv6 := hvp.1
 clear hst hvp
 have e : validP p rs ⟨pl, a, 1, rp, rd, tk, mx⟩ = if tk < 0 then false else if rd < 2 * a + 1 then false else if ¬ (rd - 2 * a - 1).tmod 3 = 0 ∨ rp < firstR rs (pl.getD a.toNat nilS).idx ∨ firstR rs (pl.getD a.toNat nilS).idx + rs.getD (pl.getD a.toNat nilS).idx.toNat 0 - 1 < rp then false else if mx = ((mixesP p pl).getD a.toNat nilM) then true else false := by
  have := validP_is (c := ⟨pl, a, 1, rp, rd, tk, mx⟩) (x := 1) (lo := firstR rs (pl.getD a.toNat nilS).idx) (hi := firstR rs (pl.getD a.toNat nilS).idx + rs.getD (pl.getD a.toNat nilS).idx.toNat 0 - 1) hs hE rfl rfl (by unfold highP; rw [if_pos ⟨rfl, hkd⟩]; rfl)
  rw [this]
  have ef : decide ((1 : Int) = 0 ∧ kindP pl a = 1 ∧ 3 ≤ rd - 2 * a - 1 ∧ mx = (abortedP p pl a)) = false := decide_eq_false (fun b => absurd b.1 (by decide))
  exact congrArg (fun z => if tk < 0 then false else if rd < 2 * a + 1 then false else if ¬ (rd - 2 * a - 1).tmod 3 = 0 ∨ rp < firstR rs (pl.getD a.toNat nilS).idx ∨ firstR rs (pl.getD a.toNat nilS).idx + rs.getD (pl.getD a.toNat nilS).idx.toNat 0 - 1 < rp then false else if mx = ((mixesP p pl).getD a.toNat nilM) then true else z) ef
 rw [e]
 have hfew := hgm.few; have hgu := hgm.u
 clear e hE hea hp hgm hso
 refine startW (tm := [(0, _), (1, _), (2, _)]) Tryz.func54 rfl Tryz.ntmps54 rfl rfl rfl rfl ?_
 repeat' (first
 |(with_reducible refine K_ca 46 ?_); refine zC (settingOK_fn hs) ?_
 |(with_reducible refine K_ca 85 ?_); refine zC (hef) ?_
 |(with_reducible refine K_ca 51 ?_); refine zC (hfi) ?_
 |(with_reducible refine K_ca 20 ?_); refine zC (equal_fn mx ((mixesP p pl).getD a.toNat nilM) hf hfew hu hgu) ?_
 |refine wA ?_
 |(refine wC ?_ ?_ <;> intro hc)
 |refine wB ?_ ?_
 |(with_reducible refine JL.block ?_)
 |(with_reducible refine F_at ?_); refine eW (vs := [(_, _)]) Tryz.results54 ?_; (focus (repeat' (first | exact oA | refine oB ?_ | refine oC ?_ ?_ | fail)))
 |exact oM
 |fail)
 all_goals (clear hs hck hef hf hu hfew hgu; first | rfl | ((repeat' split) <;> first | rfl | (exfalso; omega) | (exfalso; grind) | grind) | trace_state)
theorem valid2_fn (p : Prob) (rs : List Int) (pl : List StepD) (a rp rd tk : Int) (mx : MixD) (hs : setErr p rs = 0) (hck : checkP p pl = true) (hl : pl.length ≤ 1000000) (hr : 0 ≤ a ∧ a ≤ pl.length) (h6 : (2 : Int) = 6 ↔ a = pl.length) (hkd : (pl.getD a.toNat nilS).kind = 1) (hrd : -1000000000 ≤ rd ∧ rd ≤ 1000000000) (hf : Few mx) (hu : u8s mx.held) : FnSound Tryz.prog 54 [.val true (probC p), .val false [.d (.sl 1 (dInts rs))], .val true [.d (.sl 3 (dSteps pl)), .d (.v (.int .i64 a)), .d (.v (.int .i64 2)), .d (.v (.int .i64 rp)), .d (.v (.int .i64 rd)), .d (.v (.int .i64 tk)), .d (.sl 1 (dInts mx.base)), .d (.sl 1 (dInts mx.next)), .d (.sl 1 (dSets mx.held))]] [] { vals := [(false, [.d (.v (.bool (validP p rs ⟨pl, a, 2, rp, rd, tk, mx⟩)))])] } := by
 have hso := setErr_ok hs
 have hp := planOK_of hso.1 (start_err hso.1) hck
 have hlen := hp.len
 have hea := expect_at (ph := 2) hso.1 hck hr h6
 have hlt : a < pl.length := by omega
 have hki : kindP pl a = (pl.getD a.toNat nilS).kind := by unfold kindP; rw [if_pos hlt]
 have hE : expectP p pl a 2 = (((mixesP p pl).getD (a + 1).toNat nilM), 0) := hea.2.1 ⟨.inr (.inl rfl), hki.trans hkd⟩
 have hef := expect_fn p pl a 2 hso.1 hl
 rw [hE] at hef
 have hgm := hp.g (k := (a + 1).toNat) (by omega)
 have hst := (hp.step (k := a.toNat) (by omega)).1
 have hsv := hst.svc (by omega)
 have hnn := hst.nn
 have hvp := vp_all hso.1
 have hrl := hso.2.1
 have hsl := sum_le hso.2.2 (pl.getD a.toNat nilS).idx.toNat
 have hrr := hso.2.2 (pl.getD a.toNat nilS).idx.toNat
 have efr : firstR rs (pl.getD a.toNat nilS).idx = (rs.take (pl.getD a.toNat nilS).idx.toNat).sum := rfl
 have hfi := first_fn rs (pl.getD a.toNat nilS).idx (by omega) hso.2.2 (by omega)
 have hv6 := hvp.1
 clear hst hvp
 have e : validP p rs ⟨pl, a, 2, rp, rd, tk, mx⟩ = if tk < 0 then false else if rd < 2 * a + 1 then false else if ¬ (rd - 2 * a - 1).tmod 3 = 0 ∨ rp < firstR rs (pl.getD a.toNat nilS).idx ∨ firstR rs (pl.getD a.toNat nilS).idx < rp then false else if mx = ((mixesP p pl).getD (a + 1).toNat nilM) then true else false := by
  have := validP_is (c := ⟨pl, a, 2, rp, rd, tk, mx⟩) (x := 1) (lo := firstR rs (pl.getD a.toNat nilS).idx) (hi := firstR rs (pl.getD a.toNat nilS).idx) hs hE rfl rfl (by unfold highP; rw [if_neg (fun b => absurd (hkd.symm.trans b.2) (by decide))]; rfl)
  rw [this]
  have ef : decide ((2 : Int) = 0 ∧ kindP pl a = 1 ∧ 3 ≤ rd - 2 * a - 1 ∧ mx = (abortedP p pl a)) = false := decide_eq_false (fun b => absurd b.1 (by decide))
  exact congrArg (fun z => if tk < 0 then false else if rd < 2 * a + 1 then false else if ¬ (rd - 2 * a - 1).tmod 3 = 0 ∨ rp < firstR rs (pl.getD a.toNat nilS).idx ∨ firstR rs (pl.getD a.toNat nilS).idx < rp then false else if mx = ((mixesP p pl).getD (a + 1).toNat nilM) then true else z) ef
 rw [e]
 have hfew := hgm.few; have hgu := hgm.u
 clear e hE hea hp hgm hso
 refine startW (tm := [(0, _), (1, _), (2, _)]) Tryz.func54 rfl Tryz.ntmps54 rfl rfl rfl rfl ?_
 repeat' (first
 |(with_reducible refine K_ca 46 ?_); refine zC (settingOK_fn hs) ?_
 |(with_reducible refine K_ca 85 ?_); refine zC (hef) ?_
 |(with_reducible refine K_ca 51 ?_); refine zC (hfi) ?_
 |(with_reducible refine K_ca 20 ?_); refine zC (equal_fn mx ((mixesP p pl).getD (a + 1).toNat nilM) hf hfew hu hgu) ?_
 |refine wA ?_
 |(refine wC ?_ ?_ <;> intro hc)
 |refine wB ?_ ?_
 |(with_reducible refine JL.block ?_)
 |(with_reducible refine F_at ?_); refine eW (vs := [(_, _)]) Tryz.results54 ?_; (focus (repeat' (first | exact oA | refine oB ?_ | refine oC ?_ ?_ | fail)))
 |exact oM
 |fail)
 all_goals (clear hs hck hef hf hu hfew hgu; first | rfl | ((repeat' split) <;> first | rfl | (exfalso; omega) | (exfalso; grind) | grind) | trace_state)
theorem valid3_fn (p : Prob) (rs : List Int) (pl : List StepD) (a rp rd tk : Int) (mx : MixD) (hs : setErr p rs = 0) (hck : checkP p pl = true) (hl : pl.length ≤ 1000000) (hr : 0 ≤ a ∧ a ≤ pl.length) (h6 : (3 : Int) = 6 ↔ a = pl.length) (hkd : (pl.getD a.toNat nilS).kind = 1) (hrd : -1000000000 ≤ rd ∧ rd ≤ 1000000000) (hf : Few mx) (hu : u8s mx.held) : FnSound Tryz.prog 54 [.val true (probC p), .val false [.d (.sl 1 (dInts rs))], .val true [.d (.sl 3 (dSteps pl)), .d (.v (.int .i64 a)), .d (.v (.int .i64 3)), .d (.v (.int .i64 rp)), .d (.v (.int .i64 rd)), .d (.v (.int .i64 tk)), .d (.sl 1 (dInts mx.base)), .d (.sl 1 (dInts mx.next)), .d (.sl 1 (dSets mx.held))]] [] { vals := [(false, [.d (.v (.bool (validP p rs ⟨pl, a, 3, rp, rd, tk, mx⟩)))])] } := by
 have hso := setErr_ok hs
 have hp := planOK_of hso.1 (start_err hso.1) hck
 have hlen := hp.len
 have hea := expect_at (ph := 3) hso.1 hck hr h6
 have hlt : a < pl.length := by omega
 have hki : kindP pl a = (pl.getD a.toNat nilS).kind := by unfold kindP; rw [if_pos hlt]
 have hE : expectP p pl a 3 = (((mixesP p pl).getD (a + 1).toNat nilM), 0) := hea.2.1 ⟨.inr (.inr rfl), hki.trans hkd⟩
 have hef := expect_fn p pl a 3 hso.1 hl
 rw [hE] at hef
 have hgm := hp.g (k := (a + 1).toNat) (by omega)
 have hst := (hp.step (k := a.toNat) (by omega)).1
 have hsv := hst.svc (by omega)
 have hnn := hst.nn
 have hvp := vp_all hso.1
 have hrl := hso.2.1
 have hsl := sum_le hso.2.2 (pl.getD a.toNat nilS).idx.toNat
 have hrr := hso.2.2 (pl.getD a.toNat nilS).idx.toNat
 have efr : firstR rs (pl.getD a.toNat nilS).idx = (rs.take (pl.getD a.toNat nilS).idx.toNat).sum := rfl
 have hfi := first_fn rs (pl.getD a.toNat nilS).idx (by omega) hso.2.2 (by omega)
 have hv6 := hvp.1
 clear hst hvp
 have e : validP p rs ⟨pl, a, 3, rp, rd, tk, mx⟩ = if tk < 0 then false else if rd < 2 * a + 2 then false else if ¬ (rd - 2 * a - 2).tmod 3 = 0 ∨ rp < firstR rs (pl.getD a.toNat nilS).idx ∨ firstR rs (pl.getD a.toNat nilS).idx < rp then false else if mx = ((mixesP p pl).getD (a + 1).toNat nilM) then true else false := by
  have := validP_is (c := ⟨pl, a, 3, rp, rd, tk, mx⟩) (x := 2) (lo := firstR rs (pl.getD a.toNat nilS).idx) (hi := firstR rs (pl.getD a.toNat nilS).idx) hs hE rfl rfl (by unfold highP; rw [if_neg (fun b => absurd (hkd.symm.trans b.2) (by decide))]; rfl)
  rw [this]
  have ef : decide ((3 : Int) = 0 ∧ kindP pl a = 1 ∧ 3 ≤ rd - 2 * a - 2 ∧ mx = (abortedP p pl a)) = false := decide_eq_false (fun b => absurd b.1 (by decide))
  exact congrArg (fun z => if tk < 0 then false else if rd < 2 * a + 2 then false else if ¬ (rd - 2 * a - 2).tmod 3 = 0 ∨ rp < firstR rs (pl.getD a.toNat nilS).idx ∨ firstR rs (pl.getD a.toNat nilS).idx < rp then false else if mx = ((mixesP p pl).getD (a + 1).toNat nilM) then true else z) ef
 rw [e]
 have hfew := hgm.few; have hgu := hgm.u
 clear e hE hea hp hgm hso
 refine startW (tm := [(0, _), (1, _), (2, _)]) Tryz.func54 rfl Tryz.ntmps54 rfl rfl rfl rfl ?_
 repeat' (first
 |(with_reducible refine K_ca 46 ?_); refine zC (settingOK_fn hs) ?_
 |(with_reducible refine K_ca 85 ?_); refine zC (hef) ?_
 |(with_reducible refine K_ca 51 ?_); refine zC (hfi) ?_
 |(with_reducible refine K_ca 20 ?_); refine zC (equal_fn mx ((mixesP p pl).getD (a + 1).toNat nilM) hf hfew hu hgu) ?_
 |refine wA ?_
 |(refine wC ?_ ?_ <;> intro hc)
 |refine wB ?_ ?_
 |(with_reducible refine JL.block ?_)
 |(with_reducible refine F_at ?_); refine eW (vs := [(_, _)]) Tryz.results54 ?_; (focus (repeat' (first | exact oA | refine oB ?_ | refine oC ?_ ?_ | fail)))
 |exact oM
 |fail)
 all_goals (clear hs hck hef hf hu hfew hgu; first | rfl | ((repeat' split) <;> first | rfl | (exfalso; omega) | (exfalso; grind) | grind) | trace_state)
theorem valid4_fn (p : Prob) (rs : List Int) (pl : List StepD) (a rp rd tk : Int) (mx : MixD) (hs : setErr p rs = 0) (hck : checkP p pl = true) (hl : pl.length ≤ 1000000) (hr : 0 ≤ a ∧ a ≤ pl.length) (h6 : (4 : Int) = 6 ↔ a = pl.length) (hkd : (pl.getD a.toNat nilS).kind = 3) (hrd : -1000000000 ≤ rd ∧ rd ≤ 1000000000) (hf : Few mx) (hu : u8s mx.held) : FnSound Tryz.prog 54 [.val true (probC p), .val false [.d (.sl 1 (dInts rs))], .val true [.d (.sl 3 (dSteps pl)), .d (.v (.int .i64 a)), .d (.v (.int .i64 4)), .d (.v (.int .i64 rp)), .d (.v (.int .i64 rd)), .d (.v (.int .i64 tk)), .d (.sl 1 (dInts mx.base)), .d (.sl 1 (dInts mx.next)), .d (.sl 1 (dSets mx.held))]] [] { vals := [(false, [.d (.v (.bool (validP p rs ⟨pl, a, 4, rp, rd, tk, mx⟩)))])] } := by
 have hso := setErr_ok hs
 have hp := planOK_of hso.1 (start_err hso.1) hck
 have hlen := hp.len
 have hea := expect_at (ph := 4) hso.1 hck hr h6
 have hlt : a < pl.length := by omega
 have hki : kindP pl a = (pl.getD a.toNat nilS).kind := by unfold kindP; rw [if_pos hlt]
 have hE : expectP p pl a 4 = (((mixesP p pl).getD a.toNat nilM), 0) := hea.1 (.inr (.inr (.inr ⟨rfl, hki.trans hkd⟩)))
 have hef := expect_fn p pl a 4 hso.1 hl
 rw [hE] at hef
 have hgm := hp.g (k := a.toNat) (by omega)
 have e : validP p rs ⟨pl, a, 4, rp, rd, tk, mx⟩ = if tk < 0 then false else if rd < 2 * a + 1 then false else if ¬ (rd - 2 * a - 1).tmod 3 = 0 ∨ rp < 0 ∨ 0 < rp then false else if mx = ((mixesP p pl).getD a.toNat nilM) then true else false := by
  have := validP_is (c := ⟨pl, a, 4, rp, rd, tk, mx⟩) (x := 1) (lo := 0) (hi := 0) hs hE rfl rfl rfl
  rw [this]
  have ef : decide ((4 : Int) = 0 ∧ kindP pl a = 1 ∧ 3 ≤ rd - 2 * a - 1 ∧ mx = (abortedP p pl a)) = false := decide_eq_false (fun b => absurd b.1 (by decide))
  exact congrArg (fun z => if tk < 0 then false else if rd < 2 * a + 1 then false else if ¬ (rd - 2 * a - 1).tmod 3 = 0 ∨ rp < 0 ∨ 0 < rp then false else if mx = ((mixesP p pl).getD a.toNat nilM) then true else z) ef
 rw [e]
 have hfew := hgm.few; have hgu := hgm.u
 clear e hE hea hp hgm hso
 refine startW (tm := [(0, _), (1, _), (2, _)]) Tryz.func54 rfl Tryz.ntmps54 rfl rfl rfl rfl ?_
 repeat' (first
 |(with_reducible refine K_ca 46 ?_); refine zC (settingOK_fn hs) ?_
 |(with_reducible refine K_ca 85 ?_); refine zC (hef) ?_
 |(with_reducible refine K_ca 20 ?_); refine zC (equal_fn mx ((mixesP p pl).getD a.toNat nilM) hf hfew hu hgu) ?_
 |refine wA ?_
 |(refine wC ?_ ?_ <;> intro hc)
 |refine wB ?_ ?_
 |(with_reducible refine JL.block ?_)
 |(with_reducible refine F_at ?_); refine eW (vs := [(_, _)]) Tryz.results54 ?_; (focus (repeat' (first | exact oA | refine oB ?_ | refine oC ?_ ?_ | fail)))
 |exact oM
 |fail)
 all_goals (clear hs hck hef hf hu hfew hgu; first | rfl | ((repeat' split) <;> first | rfl | (exfalso; omega) | (exfalso; grind) | grind) | trace_state)
theorem valid5_fn (p : Prob) (rs : List Int) (pl : List StepD) (a rp rd tk : Int) (mx : MixD) (hs : setErr p rs = 0) (hck : checkP p pl = true) (hl : pl.length ≤ 1000000) (hr : 0 ≤ a ∧ a ≤ pl.length) (h6 : (5 : Int) = 6 ↔ a = pl.length) (hkd : (pl.getD a.toNat nilS).kind = 1) (hrd : -1000000000 ≤ rd ∧ rd ≤ 1000000000) (hf : Few mx) (hu : u8s mx.held) : FnSound Tryz.prog 54 [.val true (probC p), .val false [.d (.sl 1 (dInts rs))], .val true [.d (.sl 3 (dSteps pl)), .d (.v (.int .i64 a)), .d (.v (.int .i64 5)), .d (.v (.int .i64 rp)), .d (.v (.int .i64 rd)), .d (.v (.int .i64 tk)), .d (.sl 1 (dInts mx.base)), .d (.sl 1 (dInts mx.next)), .d (.sl 1 (dSets mx.held))]] [] { vals := [(false, [.d (.v (.bool (validP p rs ⟨pl, a, 5, rp, rd, tk, mx⟩)))])] } := by
 have hso := setErr_ok hs
 have hp := planOK_of hso.1 (start_err hso.1) hck
 have hlen := hp.len
 have hea := expect_at (ph := 5) hso.1 hck hr h6
 have hlt : a < pl.length := by omega
 have hki : kindP pl a = (pl.getD a.toNat nilS).kind := by unfold kindP; rw [if_pos hlt]
 have hE : expectP p pl a 5 = ((abortedP p pl a), 0) := hea.2.2 ⟨rfl, hki.trans hkd⟩
 have hef := expect_fn p pl a 5 hso.1 hl
 rw [hE] at hef
 have hgm := (hp.abort ⟨hr.1, hlt⟩ hkd).1
 have e : validP p rs ⟨pl, a, 5, rp, rd, tk, mx⟩ = if tk < 0 then false else if rd < 2 * a + 2 then false else if ¬ (rd - 2 * a - 2).tmod 3 = 0 ∨ rp < 0 ∨ 0 < rp then false else if mx = (abortedP p pl a) then true else false := by
  have := validP_is (c := ⟨pl, a, 5, rp, rd, tk, mx⟩) (x := 2) (lo := 0) (hi := 0) hs hE rfl rfl rfl
  rw [this]
  have ef : decide ((5 : Int) = 0 ∧ kindP pl a = 1 ∧ 3 ≤ rd - 2 * a - 2 ∧ mx = (abortedP p pl a)) = false := decide_eq_false (fun b => absurd b.1 (by decide))
  exact congrArg (fun z => if tk < 0 then false else if rd < 2 * a + 2 then false else if ¬ (rd - 2 * a - 2).tmod 3 = 0 ∨ rp < 0 ∨ 0 < rp then false else if mx = (abortedP p pl a) then true else z) ef
 rw [e]
 have hfew := hgm.few; have hgu := hgm.u
 clear e hE hea hp hgm hso
 refine startW (tm := [(0, _), (1, _), (2, _)]) Tryz.func54 rfl Tryz.ntmps54 rfl rfl rfl rfl ?_
 repeat' (first
 |(with_reducible refine K_ca 46 ?_); refine zC (settingOK_fn hs) ?_
 |(with_reducible refine K_ca 85 ?_); refine zC (hef) ?_
 |(with_reducible refine K_ca 20 ?_); refine zC (equal_fn mx (abortedP p pl a) hf hfew hu hgu) ?_
 |refine wA ?_
 |(refine wC ?_ ?_ <;> intro hc)
 |refine wB ?_ ?_
 |(with_reducible refine JL.block ?_)
 |(with_reducible refine F_at ?_); refine eW (vs := [(_, _)]) Tryz.results54 ?_; (focus (repeat' (first | exact oA | refine oB ?_ | refine oC ?_ ?_ | fail)))
 |exact oM
 |fail)
 all_goals (clear hs hck hef hf hu hfew hgu; first | rfl | ((repeat' split) <;> first | rfl | (exfalso; omega) | (exfalso; grind) | grind) | trace_state)
theorem valid6_fn (p : Prob) (rs : List Int) (pl : List StepD) (a rp rd tk : Int) (mx : MixD) (hs : setErr p rs = 0) (hck : checkP p pl = true) (hl : pl.length ≤ 1000000) (hr : 0 ≤ a ∧ a ≤ pl.length) (h6 : (6 : Int) = 6 ↔ a = pl.length) (hrd : -1000000000 ≤ rd ∧ rd ≤ 1000000000) (hf : Few mx) (hu : u8s mx.held) : FnSound Tryz.prog 54 [.val true (probC p), .val false [.d (.sl 1 (dInts rs))], .val true [.d (.sl 3 (dSteps pl)), .d (.v (.int .i64 a)), .d (.v (.int .i64 6)), .d (.v (.int .i64 rp)), .d (.v (.int .i64 rd)), .d (.v (.int .i64 tk)), .d (.sl 1 (dInts mx.base)), .d (.sl 1 (dInts mx.next)), .d (.sl 1 (dSets mx.held))]] [] { vals := [(false, [.d (.v (.bool (validP p rs ⟨pl, a, 6, rp, rd, tk, mx⟩)))])] } := by
 have hso := setErr_ok hs
 have hp := planOK_of hso.1 (start_err hso.1) hck
 have hlen := hp.len
 have hea := expect_at (ph := 6) hso.1 hck hr h6
 have hE : expectP p pl a 6 = (((mixesP p pl).getD a.toNat nilM), 0) := hea.1 (.inr (.inl rfl))
 have hef := expect_fn p pl a 6 hso.1 hl
 rw [hE] at hef
 have hgm := hp.g (k := a.toNat) (by omega)
 have e : validP p rs ⟨pl, a, 6, rp, rd, tk, mx⟩ = if tk < 0 then false else if rd < 2 * a + 0 then false else if ¬ (rd - 2 * a - 0).tmod 3 = 0 ∨ rp < 0 ∨ 0 < rp then false else if mx = ((mixesP p pl).getD a.toNat nilM) then true else false := by
  have := validP_is (c := ⟨pl, a, 6, rp, rd, tk, mx⟩) (x := 0) (lo := 0) (hi := 0) hs hE rfl rfl rfl
  rw [this]
  have ef : decide ((6 : Int) = 0 ∧ kindP pl a = 1 ∧ 3 ≤ rd - 2 * a - 0 ∧ mx = (abortedP p pl a)) = false := decide_eq_false (fun b => absurd b.1 (by decide))
  exact congrArg (fun z => if tk < 0 then false else if rd < 2 * a + 0 then false else if ¬ (rd - 2 * a - 0).tmod 3 = 0 ∨ rp < 0 ∨ 0 < rp then false else if mx = ((mixesP p pl).getD a.toNat nilM) then true else z) ef
 rw [e]
 have hfew := hgm.few; have hgu := hgm.u
 clear e hE hea hp hgm hso
 refine startW (tm := [(0, _), (1, _), (2, _)]) Tryz.func54 rfl Tryz.ntmps54 rfl rfl rfl rfl ?_
 repeat' (first
 |(with_reducible refine K_ca 46 ?_); refine zC (settingOK_fn hs) ?_
 |(with_reducible refine K_ca 85 ?_); refine zC (hef) ?_
 |(with_reducible refine K_ca 20 ?_); refine zC (equal_fn mx ((mixesP p pl).getD a.toNat nilM) hf hfew hu hgu) ?_
 |refine wA ?_
 |(refine wC ?_ ?_ <;> intro hc)
 |refine wB ?_ ?_
 |(with_reducible refine JL.block ?_)
 |(with_reducible refine F_at ?_); refine eW (vs := [(_, _)]) Tryz.results54 ?_; (focus (repeat' (first | exact oA | refine oB ?_ | refine oC ?_ ?_ | fail)))
 |exact oM
 |fail)
 all_goals (clear hs hck hef hf hu hfew hgu; first | rfl | ((repeat' split) <;> first | rfl | (exfalso; omega) | (exfalso; grind) | grind) | trace_state)
end Go.Proofs.YtngjhkgcfabciaaGreat

