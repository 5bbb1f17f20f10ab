/- Rules of runs and contracts of functions, for the claims of one seat. -/
import Derived.Test.YtdpeoolildjohaaGreatDoorQA12
import Derived.Test.YtdpeoolildjohaaGreatDoorQA14
import Derived.Test.YtdpeoolildjohaaGreatDoorQA25
import Derived.Test.YtdpeoolildjohaaGreatDoorQA26
namespace Go.Proofs.YtdpeoolildjohaaGreatDoor
open Go Go.RowKit
set_option linter.unusedSimpArgs false
set_option linter.unusedVariables false
def actEnts : List ActD → List EntD
 | [] => []
 | a :: r => (if a.kind = 1 then [a.ent] else []) ++ actEnts r
theorem actEnts_len : ∀ l : List ActD, (actEnts l).length ≤ l.length
 | [] => Nat.le_refl _
 | a :: l => by
  have := actEnts_len l
  unfold actEnts
  rw [List.length_append]
  split <;> simp <;> omega
structure PastD where
 now : CtlD
 ents : List EntD
 sts : List CtlD
 cnts : List Int
def leaseE (t : Int) : EntD := ⟨5, t, 0, ByteArray.empty⟩
def leaseL (a b : CtlD) : List EntD := if a.token < b.token then [leaseE b.token] else []
def pastN (p : Prob) (rs : List Int) (y : PastD) (n : Int) : CtlD × List ActD := nextP p rs y.now (usefulP y.now n)
def pastStep (p : Prob) (rs : List Int) (y : PastD) (n : Int) : PastD :=
 ⟨(pastN p rs y n).1, y.ents ++ leaseL y.now (pastN p rs y n).1 ++ actEnts (pastN p rs y n).2, y.sts ++ [(pastN p rs y n).1], y.cnts ++ [((y.ents ++ leaseL y.now (pastN p rs y n).1 ++ actEnts (pastN p rs y n).2).length : Int)]⟩
def pastAt (p : Prob) (rs : List Int) (c0 : CtlD) (ch : List Int) : Nat → PastD
 | 0 => ⟨c0, [], [c0], [0]⟩
 | k + 1 => pastStep p rs (pastAt p rs c0 ch k) (ch.getD k 0)
theorem repeatP_le (c : CtlD) : (repeatP c).length ≤ 1 := by
 unfold repeatP
 split
 ·simp
 ·split
  ·simp
  ·split <;> simp
theorem next_len {p : Prob} {rs : List Int} {c : CtlD} {s : SigD} : (nextP p rs c s).2.length ≤ 2 := by
 have ht : ∀ c, (tickP p rs c).2.length ≤ 2 := fun c => by
  unfold tickP
  split
  ·have := repeatP_le c; show (repeatP c).length ≤ 2; omega
  ·have := repeatP_le (beginC p rs c)
   show (_ :: repeatP (beginC p rs c)).length ≤ 2
   simp; omega
 unfold nextP
 split
 ·split
  ·simp
  ·exact ht _
 ·split
  ·simp
  ·split
   ·simp
   ·split
    ·exact ht _
    ·split
     ·unfold ackP
      split
      ·simp
      ·split
       ·simp
       ·split
        ·have := repeatP_le { c with phase := 2 }; show (repeatP { c with phase := 2 }).length ≤ 2; omega
        ·split
         ·simp
         ·have := repeatP_le { c with replica := w64 (c.replica + 1) }; show (repeatP { c with replica := w64 (c.replica + 1) }).length ≤ 2; omega
     ·split
      ·split
       ·simp
       ·have := repeatP_le { bump c with phase := 3 }
        show (_ :: repeatP { bump c with phase := 3 }).length ≤ 2
        simp; omega
      ·split
       ·simp
       ·split <;> simp
theorem useful_tk {c : CtlD} {n : Int} (hn : 0 ≤ n ∧ n < 256) (ht : 0 ≤ c.token ∧ c.token ≤ 1000000000) : 0 ≤ (usefulP c n).token ∧ (usefulP c n).token ≤ c.token + 8 := by
 have d1 : 0 ≤ n.tdiv 32 ∧ n.tdiv 32 ≤ 7 := by rw [Int.tdiv_eq_ediv_of_nonneg hn.1]; omega
 have d2 : 0 ≤ n.tdiv 128 ∧ n.tdiv 128 ≤ 1 := by rw [Int.tdiv_eq_ediv_of_nonneg hn.1]; omega
 have w : w64 (c.token + n.tdiv 128) = c.token + n.tdiv 128 := w64_is (by omega)
 unfold usefulP
 split
 ·show 0 ≤ 1 + n.tdiv 32 ∧ 1 + n.tdiv 32 ≤ c.token + 8; omega
 ·show 0 ≤ (if n.tmod 16 = 12 then sig 3 else _ : SigD).token ∧ (if n.tmod 16 = 12 then sig 3 else _ : SigD).token ≤ c.token + 8
  (repeat' split) <;> first
   | (show (0 : Int) ≤ 0 ∧ (0 : Int) ≤ c.token + 8; omega)
   | (show 0 ≤ w64 (c.token + n.tdiv 128) ∧ w64 (c.token + n.tdiv 128) ≤ c.token + 8; rw [w]; omega)
theorem next_tk {p : Prob} {rs : List Int} {c : CtlD} {s : SigD} : (nextP p rs c s).1.token = c.token ∨ (nextP p rs c s).1.token = 0 ∨ (nextP p rs c s).1.token = s.token := by
 have ht : ∀ c, (tickP p rs c).1.token = c.token := fun c => by unfold tickP; split <;> rfl
 unfold nextP
 split
 ·split
  ·exact .inl rfl
  ·exact .inr (.inr (ht _))
 ·split
  ·exact .inl rfl
  ·split
   ·exact .inr (.inl rfl)
   ·split
    ·exact .inl (ht _)
    ·split
     ·unfold ackP
      (repeat' split) <;> exact .inl rfl
     ·(repeat' split) <;> exact .inl rfl
structure PastK (p : Prob) (rs : List Int) (l : List StepD) (y : PastD) (k : Nat) : Prop where
 ck : CtlK p y.now
 cr : CtlR p rs y.now
 b : CtlB y.now l k
 tk : y.now.token ≤ 10 * k
 en : y.ents.length ≤ 3 * k
 sl : y.sts.length = k + 1
 cl : y.cnts.length = k + 1
theorem leaseL_le (a b : CtlD) : (leaseL a b).length ≤ 1 := by unfold leaseL; split <;> simp
theorem PastK.step {p : Prob} {rs : List Int} {l : List StepD} {y : PastD} {k : Nat} {n : Int} (h : PastK p rs l y k) (hk : k ≤ 100) (hs : setErr p rs = 0) (hl : l.length ≤ 1000000) (hn : 0 ≤ n ∧ n < 256) : PastK p rs l (pastStep p rs y n) (k + 1) := by
 have hso := setErr_ok hs
 have hvp := vp_all hso.1
 have hb := h.b
 have hrd := hb.rd; have hrp := hb.rp; have htk := hb.tk; have ht2 := h.tk
 have hu := useful_tk (c := y.now) hn ⟨htk, by omega⟩
 have hpl : y.now.plan.length ≤ 1000000 := by rw [hb.plan]; exact hl
 have hnl := next_len (p := p) (rs := rs) (c := y.now) (s := usefulP y.now n)
 have hal := actEnts_len (nextP p rs y.now (usefulP y.now n)).2
 have hll := leaseL_le y.now (nextP p rs y.now (usefulP y.now n)).1
 refine ⟨h.ck.next hpl, h.cr.next h.ck hs hpl (by omega) (by omega) hu.1, ?_, ?_, ?_, ?_, ?_⟩
 ·have := hb.next (p := p) (rs := rs) (s := usefulP y.now n) (by omega) hso.2.2 (by omega) hu.1
  exact this.mono (by omega)
 ·have := next_tk (p := p) (rs := rs) (c := y.now) (s := usefulP y.now n)
  show (nextP p rs y.now (usefulP y.now n)).1.token ≤ 10 * ((k + 1 : Nat) : Int)
  omega
 ·have := h.en
  show (y.ents ++ leaseL y.now (nextP p rs y.now (usefulP y.now n)).1 ++ actEnts (nextP p rs y.now (usefulP y.now n)).2).length ≤ _
  rw [List.length_append, List.length_append]
  omega
 ·have := h.sl
  show (y.sts ++ [_]).length = _
  rw [List.length_append]; simp; omega
 ·have := h.cl
  show (y.cnts ++ [_]).length = _
  rw [List.length_append]; simp; omega
theorem pastAt_k {p : Prob} {rs : List Int} {l : List StepD} {c0 : CtlD} {ch : List Int} (h0 : CtlK p c0) (h1 : CtlR p rs c0) (h2 : CtlB c0 l 0) (h3 : c0.token = 0) (hs : setErr p rs = 0) (hl : l.length ≤ 1000000) (hch : u8s ch) : ∀ k, k ≤ 100 → PastK p rs l (pastAt p rs c0 ch k) k
 | 0, _ => ⟨h0, h1, h2, by show c0.token ≤ _; omega, by simp [pastAt], by simp [pastAt], by simp [pastAt]⟩
 | k + 1, hk => (pastAt_k h0 h1 h2 h3 hs hl hch k (by omega)).step (by omega) hs hl (u8_get hch k)
end Go.Proofs.YtdpeoolildjohaaGreatDoor

namespace Go.Proofs.YtdpeoolildjohaaGreatDoor
open Go Go.RowKit
set_option linter.unusedSimpArgs false
set_option linter.unusedVariables false
theorem next_neg {p : Prob} {rs : List Int} {c : CtlD} {s : SigD} (hs : s.token < 0) (ht : 0 ≤ c.token) : nextP p rs c s = nextP p rs c { s with token := 0 } := by
 by_cases hk : s.kind = 1
 ·unfold nextP
  rw [if_pos hk, if_pos (by omega), if_pos (show ({ s with token := 0 } : SigD).kind = 1 from hk), if_pos (show ({ s with token := 0 } : SigD).token ≤ c.token from ht)]
 ·unfold nextP
  rw [if_neg hk, if_neg (show ¬ ({ s with token := 0 } : SigD).kind = 1 from hk)]
  rfl
def sigAt (p : Prob) (rs : List Int) (c : CtlD) (l : List SigD) : Nat → CtlD × List ActD
 | 0 => (c, [])
 | k + 1 => ((nextP p rs (sigAt p rs c l k).1 (l.getD k nilG)).1, (sigAt p rs c l k).2 ++ (nextP p rs (sigAt p rs c l k).1 (l.getD k nilG)).2)
structure SigK (p : Prob) (rs : List Int) (l : List StepD) (y : CtlD) (n : Int) : Prop where
 ck : CtlK p y
 cr : CtlR p rs y
 b : CtlB y l n
theorem SigK.next {p : Prob} {rs : List Int} {l : List StepD} {y : CtlD} {n : Int} (h : SigK p rs l y n) (s : SigD) (hn : n ≤ 100000000) (hs : setErr p rs = 0) (hl : l.length ≤ 1000000) : SigK p rs l (nextP p rs y s).1 (n + 1) := by
 have hso := setErr_ok hs
 have hvp := vp_all hso.1
 have hb := h.b
 have hrd := hb.rd
 have hrp := hb.rp
 have htk := hb.tk
 have go : ∀ s : SigD, 0 ≤ s.token → SigK p rs l (nextP p rs y s).1 (n + 1) := fun s ht => ⟨h.ck.next (by rw [hb.plan]; exact hl), h.cr.next h.ck hs (by rw [hb.plan]; exact hl) (by omega) (by omega) ht, hb.next hn hso.2.2 (by omega) ht⟩
 by_cases ht : 0 ≤ s.token
 ·exact go s ht
 ·rw [next_neg (by omega) htk]
  exact go _ (by show (0 : Int) ≤ 0; decide)
theorem sigAt_k {p : Prob} {rs : List Int} {l : List StepD} {c : CtlD} {n : Int} {ss : List SigD} (h : SigK p rs l c n) (hn : 0 ≤ n ∧ n ≤ 10000000) (hs : setErr p rs = 0) (hl : l.length ≤ 1000000) : ∀ k : Nat, k ≤ 100 → SigK p rs l (sigAt p rs c ss k).1 (n + k) ∧ (sigAt p rs c ss k).2.length ≤ 2 * k
 | 0, _ => ⟨by simpa [sigAt] using h, by simp [sigAt]⟩
 | k + 1, hk => by
  obtain ⟨a1, a2⟩ := sigAt_k (ss := ss) h hn hs hl k (by omega)
  have a3 := a1.next (ss.getD k nilG) (by omega) hs hl
  have a4 := next_len (p := p) (rs := rs) (c := (sigAt p rs c ss k).1) (s := ss.getD k nilG)
  refine ⟨?_, ?_⟩
  ·show SigK p rs l (nextP p rs (sigAt p rs c ss k).1 (ss.getD k nilG)).1 (n + ((k + 1 : Nat) : Int))
   rw [show n + ((k + 1 : Nat) : Int) = n + (k : Int) + 1 by omega]
   exact a3
  ·show ((sigAt p rs c ss k).2 ++ _).length ≤ _
   rw [List.length_append]
   omega
theorem sigAt_1 {p : Prob} {rs : List Int} {c : CtlD} {s : SigD} : sigAt p rs c [s] 1 = ((nextP p rs c s).1, (nextP p rs c s).2) := by
 show ((nextP p rs c s).1, [] ++ (nextP p rs c s).2) = _
 rw [List.nil_append]
end Go.Proofs.YtdpeoolildjohaaGreatDoor

namespace Go.Proofs.YtdpeoolildjohaaGreatDoor
open Go Go.RowKit
set_option maxRecDepth 100000
set_option maxHeartbeats 8000000
set_option linter.unusedSimpArgs false
set_option linter.unusedVariables false
theorem pbegan_fn (ph : Int) : FnSound Tryz.prog 54 [.val false [.d (.v (.int .i64 ph))]] [] { vals := [(false, [.d (.v (.int .i64 (extraP ph)))])] } := by
 refine startW (tm := [(0, _)]) Tryz.func54 rfl Tryz.ntmps54 rfl rfl rfl rfl ?_
 repeat' (first
 |refine wA ?_
 |(refine wC ?_ ?_ <;> intro hc)
 |refine wB ?_ ?_
 |(with_reducible refine JL.block ?_)
 |(with_reducible refine F_at ?_); refine eW (vs := [(_, _)]) Tryz.results54 ?_; (focus (repeat' (first | exact oA | refine oB ?_ | refine oC ?_ ?_ | fail)))
 |exact oM
 |fail)
 all_goals (unfold extraP; (repeat' split) <;> first | rfl | (exfalso; omega) | trace_state)
theorem pfits_fn (p : Prob) (rs : List Int) (c : CtlD) (h : CtlK p c) (hr : CtlR p rs c) (hs : setErr p rs = 0) (hl : c.plan.length ≤ 1000000) (hrp : -1000000000 ≤ c.replica ∧ c.replica ≤ 1000000000) : FnSound Tryz.prog 53 [.val false [.d (.sl 1 (dInts rs))], .val true (ctlC c)] [] { vals := [(false, [.d (.v (.bool true))])] } := by
 have hso := setErr_ok hs
 have hvp := vp_all hso.1
 have hrl := hso.2.1
 have h0 := fun b => (⟨h.rng.1, h.lt b⟩ : 0 ≤ c.at_ ∧ c.at_ < c.plan.length)
 have hk1 := h.ph1
 have hk2 := h.ph2
 have hid := hr.idle
 have hbz := hr.busy
 have hsm := hr.some_
 have hi : c.phase = 1 ∨ c.phase = 2 ∨ c.phase = 3 → 0 ≤ (present c).idx ∧ (present c).idx < p.vs.length := fun b => by
  have := h.svc (by omega) (by rcases b with b | b | b; (rcases hk1 b with x | x <;> omega); (have := (hk2 (.inl b)).1; omega); (have := (hk2 (.inr b)).1; omega))
  omega
 have hfr := fun b => cfirst_fn rs (present c).idx b hso.2.2 (by omega)
 have hfg := fun b => fr_get hso.2.2 (by omega) (i := (present c).idx) b
 have hkk : c.phase = 1 → (present c).kind = 1 ∨ (present c).kind = 2 := fun b => by rcases hk1 b with x | x <;> omega
 have hkk2 : c.phase = 2 ∨ c.phase = 3 → (present c).kind = 1 := fun b => (hk2 b).1
 by_cases hb : c.phase = 1 ∨ c.phase = 2 ∨ c.phase = 3
 ·have h0 := h0 (by omega)
  have hi := hi hb
  have hfr := hfr (by omega)
  have hfg := hfg (by omega)
  unfold present at hi hfr hfg hbz hsm hkk hkk2
  clear h hr hs hso hk1 hk2
  refine startW (tm := [(0, _), (1, _)]) Tryz.func53 rfl Tryz.ntmps53 rfl rfl rfl rfl ?_
  repeat' (first
 |(with_reducible refine K_ca 85 ?_); refine zC (hfr) ?_
 |refine wA ?_
 |(refine wC ?_ ?_ <;> intro hc)
 |refine wB ?_ ?_
 |(with_reducible refine JL.block ?_)
 |(with_reducible refine F_at ?_); refine eW (vs := [(_, _)]) Tryz.results53 ?_; (focus (repeat' (first | exact oA | refine oB ?_ | refine oC ?_ ?_ | fail)))
 |exact oM
 |fail)
  all_goals first | rfl | (exfalso; omega) | (exact decide_eq_true (by omega)) | (exact (decide_eq_true (by omega)).symm) | trace_state
 ·have hid := hid hb
  clear hfr hfg h hr hs hso hk1 hk2 hi hbz hsm
  refine startW (tm := [(0, _), (1, _)]) Tryz.func53 rfl Tryz.ntmps53 rfl rfl rfl rfl ?_
  repeat' (first
 |refine wA ?_
 |(refine wC ?_ ?_ <;> intro hc)
 |refine wB ?_ ?_
 |(with_reducible refine JL.block ?_)
 |(with_reducible refine F_at ?_); refine eW (vs := [(_, _)]) Tryz.results53 ?_; (focus (repeat' (first | exact oA | refine oB ?_ | refine oC ?_ ?_ | fail)))
 |exact oM
 |fail)
  all_goals first | rfl | (exfalso; omega) | (exact decide_eq_true (by omega)) | trace_state
theorem cmpM_self (m : MixD) : cmpM m m = 0 := cmpM_zero.2 rfl
theorem few_of {p : Prob} {m : MixD} (h : MixG p m) : m.base.length ≤ 1000 ∧ m.next.length ≤ 1000 ∧ m.held.length ≤ 1000 := by
 have hvp := vp_all h.inn.vp
 have h1 := h.inn.lb
 have h2 := h.inn.ln
 have h3 := h.inn.lh
 omega
theorem pvalid_fn (p : Prob) (rs : List Int) (c : CtlD) (h : CtlK p c) (hr : CtlR p rs c) (hs : setErr p rs = 0) (hc : checkP p c.plan = true) (hl : c.plan.length ≤ 1000000) (hrd : -1000000000 ≤ c.round ∧ c.round ≤ 1000000000) (hrp : -1000000000 ≤ c.replica ∧ c.replica ≤ 1000000000) : FnSound Tryz.prog 18 [.val true (probC p), .val false [.d (.sl 1 (dInts rs))], .val true (ctlC c)] [] { vals := [(false, [.d (.v (.bool true))])] } := by
 have hso := setErr_ok hs
 have hvp := vp_all hso.1
 have hv := planV_of hso.1 hc
 have hrl := hso.2.1
 have hst := psetting_fn p rs (by omega)
 rw [hs] at hst
 have hsc := pscript_fn p c.plan hso.1 hc hl
 have hex := psexpect_fn p c.plan c.at_ c.phase hso.1 hc hl
 obtain ⟨ek0, ek1⟩ := expect_K h hc
 have hft := pfits_fn p rs c h hr hs hl hrp
 have hbg := pbegan_fn c.phase
 have hat := h.rng
 have hbm := few_of h.g
 have htk := hr.tk
 have hlt := fun b => h.lt b
 have hfin := h.fin
 obtain ⟨q, q0, q1, q2⟩ := hr.rest
 have hx : 0 ≤ extraP c.phase ∧ extraP c.phase ≤ 2 := by unfold extraP; (repeat' split) <;> omega
 have htm : (c.round - 2 * c.at_ - extraP c.phase).tmod 3 = 0 := by rw [show c.round - 2 * c.at_ - extraP c.phase = 3 * q by omega]; exact Int.mul_tmod_right 3 q
 have hself := pcmpM_fn c.mix c.mix hbm hbm
 rw [cmpM_self] at hself
 generalize extraP c.phase = x at hx htm q1 hbg
 by_cases hm : c.phase = 0 ∧ ¬ c.mix = (mixesP p c.plan).getD c.at_.toNat nilM
 ·rw [ek0 hm.1] at hex
  have hk := (h.ph0 hm.1).resolve_left hm.2
  have hq := (q2 hm.1).resolve_left hm.2
  have hcm := pcmpM_fn c.mix ((mixesP p c.plan).getD c.at_.toNat nilM) hbm (few_of (h.plan.g (by omega)))
  have hne : ¬ cmpM c.mix ((mixesP p c.plan).getD c.at_.toNat nilM) = 0 := fun b => hm.2 (cmpM_zero.1 b)
  have hab := psab_fn p c.plan c.at_ h.plan hv hl ⟨hat.1, hlt (by omega)⟩ hk.1
  rw [← hk.2] at hab
  have hlt := hlt (by omega)
  have hkk : (c.plan.getD c.at_.toNat nilS).kind = 1 := hk.1
  generalize cmpM c.mix ((mixesP p c.plan).getD c.at_.toNat nilM) = cv at hcm hne
  clear h hr hs hc hso hv hk
  refine startW (tm := [(0, _), (1, _), (2, _)]) Tryz.func18 rfl Tryz.ntmps18 rfl rfl rfl rfl ?_
  repeat' (first
 |(with_reducible refine K_ca 45 ?_); refine zC (hst) ?_
 |(with_reducible refine K_ca 51 ?_); refine zC (hsc) ?_
 |(with_reducible refine K_ca 52 ?_); refine zC (hex) ?_
 |(with_reducible refine K_ca 53 ?_); refine zC (hft) ?_
 |(with_reducible refine K_ca 54 ?_); refine zC (hbg) ?_
 |(with_reducible refine K_ca 55 ?_); (first
 |refine zC (hcm) ?_
 |refine zC (hself) ?_)
 |(with_reducible refine K_ca 56 ?_); refine zC (hab) ?_
 |refine wA ?_
 |(refine wC ?_ ?_ <;> intro hc)
 |refine wB ?_ ?_
 |(with_reducible refine JL.block ?_)
 |(with_reducible refine F_at ?_); refine eW (vs := [(_, _)]) Tryz.results18 ?_; (focus (repeat' (first | exact oA | refine oB ?_ | refine oC ?_ ?_ | fail)))
 |exact oM
 |fail)
  all_goals first | rfl | (exfalso; omega) | trace_state
 ·have hex' : FnSound Tryz.prog 52 [.val true (scC p c.plan), .val false [.d (.v (.int .i64 c.at_))], .val false [.d (.v (.int .i64 c.phase))]] [] { vals := [(true, mixC c.mix), (false, [.d (.v (.int .i64 0))])] } := by
    by_cases h0 : c.phase = 0
    ·rw [ek0 h0] at hex
     have : c.mix = (mixesP p c.plan).getD c.at_.toNat nilM := Classical.byContradiction fun b => hm ⟨h0, b⟩
     rw [this]; exact hex
    ·rw [ek1 h0] at hex
     exact hex
  have hlt0 : c.phase = 0 → c.at_ < c.plan.length := fun b => hlt (by omega)
  clear h hr hs hc hso hv hex hm
  refine startW (tm := [(0, _), (1, _), (2, _)]) Tryz.func18 rfl Tryz.ntmps18 rfl rfl rfl rfl ?_
  repeat' (first
 |(with_reducible refine K_ca 45 ?_); refine zC (hst) ?_
 |(with_reducible refine K_ca 51 ?_); refine zC (hsc) ?_
 |(with_reducible refine K_ca 52 ?_); refine zC (hex') ?_
 |(with_reducible refine K_ca 53 ?_); refine zC (hft) ?_
 |(with_reducible refine K_ca 54 ?_); refine zC (hbg) ?_
 |(with_reducible refine K_ca 55 ?_); refine zC (hself) ?_
 |refine wA ?_
 |(refine wC ?_ ?_ <;> intro hc)
 |refine wB ?_ ?_
 |(with_reducible refine JL.block ?_)
 |(with_reducible refine F_at ?_); refine eW (vs := [(_, _)]) Tryz.results18 ?_; (focus (repeat' (first | exact oA | refine oB ?_ | refine oC ?_ ?_ | fail)))
 |exact oM
 |fail)
  all_goals first | rfl | (exfalso; omega) | trace_state
end Go.Proofs.YtdpeoolildjohaaGreatDoor

namespace Go.Proofs.YtdpeoolildjohaaGreatDoor
open Go Go.RowKit
set_option maxRecDepth 100000
set_option maxHeartbeats 8000000
set_option linter.unusedSimpArgs false
set_option linter.unusedVariables false
theorem perr_fn (p : Prob) (rs : List Int) (c : CtlD) (h : CtlK p c) (hr : CtlR p rs c) (hs : setErr p rs = 0) (hc : checkP p c.plan = true) (hl : c.plan.length ≤ 1000000) (hrd : -1000000000 ≤ c.round ∧ c.round ≤ 1000000000) (hrp : -1000000000 ≤ c.replica ∧ c.replica ≤ 1000000000) : FnSound Tryz.prog 59 [.val true (probC p), .val false [.d (.sl 1 (dInts rs))], .val true (ctlC c)] [] { vals := [(false, [.d (.v (.int .i64 0))])] } := by
 have hso := setErr_ok hs
 have hvp := vp_all hso.1
 have hst := psetting_fn p rs (by have := hso.2.1; omega)
 rw [hs] at hst
 have hv := pvalid_fn p rs c h hr hs hc hl hrd hrp
 refine startW (tm := [(0, _), (1, _), (2, _)]) Tryz.func59 rfl Tryz.ntmps59 rfl rfl rfl rfl ?_
 repeat' (first
 |(with_reducible refine K_ca 45 ?_); refine zC (hst) ?_
 |(with_reducible refine K_ca 18 ?_); refine zC (hv) ?_
 |refine wA ?_
 |(refine wC ?_ ?_ <;> intro hc)
 |refine wB ?_ ?_
 |(with_reducible refine JL.block ?_)
 |(with_reducible refine F_at ?_); refine eW (vs := [(_, _)]) Tryz.results59 ?_; (focus (repeat' (first | exact oA | refine oB ?_ | refine oC ?_ ?_ | fail)))
 |exact oM
 |fail)
 all_goals first | rfl | (exfalso; omega) | trace_state
theorem pcl53_fn (c : CtlD) (hl : c.plan.length ≤ 1000000) (hf : c.mix.base.length ≤ 1000 ∧ c.mix.next.length ≤ 1000 ∧ c.mix.held.length ≤ 1000) : FnSound Tryz.prog 60 [.val true (ctlC c)] [] { vals := [(true, ctlC c)] } := by
 refine startW (tm := [(0, _)]) Tryz.func60 rfl Tryz.ntmps60 rfl rfl rfl rfl ?_
 repeat' (first
 |(with_reducible refine K_ca 15 ?_); refine zS (cloneSteps_fn c.plan hl) ?_
 |(with_reducible refine K_ca 14 ?_); (first
 |refine zS (cloneInts_fn c.mix.base (by omega)) ?_
 |refine zS (cloneInts_fn c.mix.next (by omega)) ?_)
 |(with_reducible refine K_ca 95 ?_); refine zS (cloneSets_fn c.mix.held (by omega)) ?_
 |refine wA ?_
 |(refine wC ?_ ?_ <;> intro hc)
 |refine wB ?_ ?_
 |(with_reducible refine JL.block ?_)
 |(with_reducible refine F_at ?_); refine eW (vs := [(_, _)]) Tryz.results60 ?_; (focus (repeat' (first | exact oA | refine oB ?_ | refine oC ?_ ?_ | fail)))
 |exact oM
 |fail)
 all_goals first | rfl | trace_state
theorem psigs_fn (p : Prob) (rs : List Int) (c : CtlD) (ss : List SigD) (n : Int) (h : SigK p rs c.plan c n) (hn : 0 ≤ n ∧ n ≤ 10000000) (hs : setErr p rs = 0) (hc : checkP p c.plan = true) (hl : c.plan.length ≤ 1000000) (hss : ss.length ≤ 100) : FnSound Tryz.prog 20 [.val true (probC p), .val false [.d (.sl 1 (dInts rs))], .val true (ctlC c), .val false [.d (.sl 7 (dSigs ss))]] [] { vals := [(true, ctlC (sigAt p rs c ss ss.length).1), (false, [.d (.sl 10 (dActs (sigAt p rs c ss ss.length).2))]), (false, [.d (.v (.int .i64 0))])] } := by
 have hso := setErr_ok hs
 have hvp := vp_all hso.1
 have hv := planV_of hso.1 hc
 have hb := h.b
 have hrd := hb.rd
 have hrp := hb.rp
 have her := perr_fn p rs c h.ck h.cr hs hc hl (by omega) (by omega)
 have hcl := pcl53_fn c hl (few_of h.ck.g)
 have hk := sigAt_k (ss := ss) h hn hs hl
 have hsg : ∀ k : Nat, k ≤ 100 → FnSound Tryz.prog 61 [.io 124 (machC p rs (sigAt p rs c ss k).1 (1000, 0)), .val true (sigC (ss.getD k nilG))] (actB (sigAt p rs c ss k).2) (mRes p rs (sigAt p rs c ss (k + 1)).1 (sigAt p rs c ss (k + 1)).2) := fun k hk' => by
  obtain ⟨a1, a2⟩ := hk k hk'
  have e1 := a1.b.plan
  have e2 := a1.b.rd
  have e3 := a1.b.rp
  exact msignal_fn p rs _ _ _ a1.ck (by rw [e1]; exact hv) a1.cr hs (by rw [e1]; exact hl) (by omega) (by omega) (by omega)
 have hal : ∀ k : Nat, k ≤ 100 → (sigAt p rs c ss k).2.length ≤ 2 * k := fun k hk' => (hk k hk').2
 clear hk her
 have her := perr_fn p rs c h.ck h.cr hs hc hl (by omega) (by omega)
 refine startW (tm := [(0, _), (1, _), (2, _), (3, _)]) Tryz.func20 rfl Tryz.ntmps20 rfl rfl rfl rfl ?_
 repeat' (first
 |(with_reducible refine K_ca 59 ?_); refine zC (her) ?_
 |(with_reducible refine K_ca 60 ?_); refine zC (hcl) ?_
 |(with_reducible refine K_ca 61 ?_); refine zT (hsg k (by omega)) ?_
 |(with_reducible refine blk_at (id := 0) ?_); (try (refine JL.zeroBW (cs2 := [_, _, _, _, _, _, _, _, _, _, _, _, _, _, _]) (320, 500) 14 _ 72 10 rfl rfl rfl rfl ?_)); (refine JL.rekBW (cs2 := [_, _, _, _, _, _, _, _, _, _, _, _, _, _, _]) (320, 500) 14 (1462, 651) rfl rfl rfl rfl rfl rfl ?_); ((with_reducible refine JL.loopW 0 699 (fun (k : Nat) tm => (31, .one false [.d (.v (.int .i64 ((k : Int))))]) :: tm) (fun (k : Nat) bo => ((320, 500), some (.st 124 [.d (.sl 1 ((dInts p.vs))), .d (.sl 1 ((dInts p.now))), .d (.sl 1 ((dInts p.tgt))), .d (.sl 6 ((dTabs p.tabs))), .d (.sl 1 ((dInts rs))), .d (.sl 3 ((dSteps (sigAt p rs c ss k).1.plan))), .d (.v (.int .i64 ((sigAt p rs c ss k).1.at_))), .d (.v (.int .i64 ((sigAt p rs c ss k).1.phase))), .d (.v (.int .i64 ((sigAt p rs c ss k).1.replica))), .d (.v (.int .i64 ((sigAt p rs c ss k).1.round))), .d (.v (.int .i64 ((sigAt p rs c ss k).1.token))), .d (.sl 1 ((dInts (sigAt p rs c ss k).1.mix.base))), .d (.sl 1 ((dInts (sigAt p rs c ss k).1.mix.next))), .d (.sl 1 ((dSets (sigAt p rs c ss k).1.mix.held))), .own (1462, 651)])) :: ((1462, 651), some (.sl 72 10 ((dActs (sigAt p rs c ss k).2)))) :: bo) (fun (k : Nat) => k ≤ ss.length) (fun (k : Nat) => ss.length - k) (0) ?_ (fun k hk => have h2 := hal k (by omega); ?_) ?_); (focus (apply SubW [((1462, 651), _)] rfl ?_ ?_ rfl ?_; (repeat' (first | exact kA | refine kB ?_ | refine kC ?_ ?_ | exact kD | fail)))))
 |((with_reducible refine round_next (i := k) (k + 1) ?_ ?_ ?_); (focus (apply SubW [((1462, 651), _)] rfl ?_ ?_ rfl ?_; (repeat' (first | exact kA | refine kB ?_ | refine kC ?_ ?_ | exact kD | fail)))))
 |refine wA ?_
 |(refine wC ?_ ?_ <;> intro hc)
 |refine wB ?_ ?_
 |(with_reducible refine JL.block ?_)
 |(with_reducible refine F_at ?_); refine eW (vs := [(_, _), (_, _), (_, _)]) Tryz.results20 ?_; (focus (repeat' (first | exact oA | refine oB ?_ | refine oC ?_ ?_ | fail)))
 |exact oM
 |fail)
 all_goals first
  | with_reducible rfl
  | rfl
  | (exfalso; omega)
  | (have e : k = ss.length := by omega
     rw [e]; done)
  | trace_state
theorem pstep_fn (p : Prob) (rs : List Int) (c : CtlD) (s : SigD) (n : Int) (h : SigK p rs c.plan c n) (hn : 0 ≤ n ∧ n ≤ 10000000) (hs : setErr p rs = 0) (hc : checkP p c.plan = true) (hl : c.plan.length ≤ 1000000) : FnSound Tryz.prog 24 [.val true (probC p), .val false [.d (.sl 1 (dInts rs))], .val true (ctlC c), .val true (sigC s)] [] { vals := [(true, ctlC (nextP p rs c s).1), (false, [.d (.sl 10 (dActs (nextP p rs c s).2))]), (false, [.d (.v (.int .i64 0))])] } := by
 have hr := psigs_fn p rs c [s] n h hn hs hc hl (by simp)
 rw [show ([s] : List SigD).length = 1 from rfl, sigAt_1] at hr
 refine startW (tm := [(0, _), (1, _), (2, _), (3, _)]) Tryz.func24 rfl Tryz.ntmps24 rfl rfl rfl rfl ?_
 repeat' (first
 |(with_reducible refine K_ca 20 ?_); refine zC (hr) ?_
 |refine wA ?_
 |(refine wC ?_ ?_ <;> intro hc)
 |refine wB ?_ ?_
 |(with_reducible refine JL.block ?_)
 |(with_reducible refine F_at ?_); refine eW (vs := [(_, _), (_, _), (_, _)]) Tryz.results24 ?_; (focus (repeat' (first | exact oA | refine oB ?_ | refine oC ?_ ?_ | fail)))
 |exact oM
 |fail)
 all_goals first | rfl | trace_state
theorem ppend_fn (p : Prob) (rs : List Int) (c : CtlD) (n : Int) (h : SigK p rs c.plan c n) (hn : 0 ≤ n ∧ n ≤ 10000000) (hs : setErr p rs = 0) (hc : checkP p c.plan = true) (hl : c.plan.length ≤ 1000000) : FnSound Tryz.prog 33 [.val true (probC p), .val false [.d (.sl 1 (dInts rs))], .val true (ctlC c)] [] { vals := [(false, [.d (.sl 10 (dActs (nextP p rs c (sig 3)).2))]), (false, [.d (.v (.int .i64 0))])] } := by
 have hr := pstep_fn p rs c (sig 3) n h hn hs hc hl
 refine startW (tm := [(0, _), (1, _), (2, _)]) Tryz.func33 rfl Tryz.ntmps33 rfl rfl rfl rfl ?_
 repeat' (first
 |(with_reducible refine K_ca 24 ?_); refine zC (hr) ?_
 |refine wA ?_
 |(refine wC ?_ ?_ <;> intro hc)
 |refine wB ?_ ?_
 |(with_reducible refine JL.block ?_)
 |(with_reducible refine F_at ?_); refine eW (vs := [(_, _), (_, _)]) Tryz.results33 ?_; (focus (repeat' (first | exact oA | refine oB ?_ | refine oC ?_ ?_ | fail)))
 |exact oM
 |fail)
 all_goals first | rfl | trace_state
end Go.Proofs.YtdpeoolildjohaaGreatDoor

