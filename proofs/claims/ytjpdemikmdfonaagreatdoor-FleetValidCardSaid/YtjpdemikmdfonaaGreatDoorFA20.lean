/- Rules of runs and contracts of functions, for the claims of one seat. -/
import Derived.Test.YtjpdemikmdfonaaGreatDoorFA15
import Derived.Test.YtjpdemikmdfonaaGreatDoorFA18
import Derived.Test.YtjpdemikmdfonaaGreatDoorFA19
namespace Go.Proofs.YtjpdemikmdfonaaGreatDoor
open Go Go.RowKit
set_option maxRecDepth 100000
set_option maxHeartbeats 8000000
set_option linter.unusedSimpArgs false
set_option linter.unusedVariables false
theorem msgQ_get {l : List MsgD} {k : Nat} (h : k < l.length) : (msgQ l).getD k nilQ = ((l.getD k nilMs).id, (l.getD k nilMs).name) := by
 simp [msgQ, List.getD, h]
theorem msgQ_len (l : List MsgD) : (msgQ l).length = l.length := List.length_map _
def namesP (x : SesD) : Bool := idsP 0 [] (msgQ x.msgs) && isNameP x.name
theorem names_no {x : SesD} {i : Nat} (h0 : leftQ (msgQ x.msgs) 0 = leftQ (msgQ x.msgs) i) (h : leftQ (msgQ x.msgs) i = false) : false = namesP x := by
 rw [h] at h0
 show false = (leftQ (msgQ x.msgs) 0 && isNameP x.name)
 rw [h0]; rfl
theorem names_end {x : SesD} {i : Nat} (h0 : leftQ (msgQ x.msgs) 0 = leftQ (msgQ x.msgs) i) (h : i = x.msgs.length) : isNameP x.name = namesP x := by
 have e := leftQ_end (q := msgQ x.msgs)
 rw [msgQ_len, ← h] at e
 show isNameP x.name = (leftQ (msgQ x.msgs) 0 && isNameP x.name)
 rw [h0, e]; rfl
theorem rnames_fn (x : SesD) (hl : x.msgs.length ≤ 5900000000000) : FnSound Tryz.prog 156 [.val true (sesC x)] [] { vals := [(false, [.d (.v (.bool (namesP x)))])] } := by
 have g := fun (k : Nat) (h : k < x.msgs.length) => msgQ_get (l := x.msgs) h
 have hn := msgQ_len x.msgs
 refine startW (tm := [(0, _)]) Tryz.func156 rfl Tryz.ntmps156 rfl rfl rfl rfl ?_
 repeat' (first
 |(with_reducible refine rgn 5 500 ?_ ?_); exact rfl
 |(with_reducible refine rgn 6 600 ?_ ?_); exact rfl
 |(with_reducible refine rgn 7 700 ?_ ?_); exact rfl
 |(with_reducible refine rgn 8 800 ?_ ?_); exact rfl
 |(with_reducible refine rgn 9 900 ?_ ?_); exact rfl
 |(with_reducible refine rgn 11 1000 ?_ ?_); exact rfl
 |(with_reducible refine rgn 12 1100 ?_ ?_); exact rfl
 |(with_reducible refine rgn 10 1200 ?_ ?_); exact rfl
 |(with_reducible refine rgn 13 1300 ?_ ?_); exact rfl
 |(with_reducible refine rgn 4 1400 ?_ ?_); exact rfl
 |(with_reducible refine K_ca 20 ?_); refine zC (rname_fn _) ?_
 |(with_reducible refine blk_at (id := 0) ?_); ((with_reducible refine JL.loopW 0 399 (fun (i : Nat) tm => (3, .one false [.d (.v (.int .i64 ((befQ (msgQ x.msgs) i))))]) :: (4, .one false [.d (.v (.int .i64 ((i : Int))))]) :: tm) (fun (i : Nat) bo => bo) (fun (i : Nat) => i ≤ x.msgs.length ∧ leftQ (msgQ x.msgs) 0 = leftQ (msgQ x.msgs) i ∧ 0 ≤ befQ (msgQ x.msgs) i) (fun (i : Nat) => x.msgs.length - i) (0) ?_ (fun i hi => ?_) ?_); (focus (apply SubW [] rfl ?_ ?_ rfl ?_; (repeat' (first | exact kA | refine kB ?_ | refine kC ?_ ?_ | exact kD | fail)))))
 |((with_reducible refine round_next (i := i) (i + 1) ?_ ?_ ?_); (focus (apply SubW [] rfl ?_ ?_ rfl ?_; (repeat' (first | exact kA | refine kB ?_ | refine kC ?_ ?_ | exact kD | fail)))))
 |(with_reducible refine blk_at (id := 2) ?_); ((with_reducible refine JL.loopW 2 899 (fun (k : Nat) tm => (6, .one false [.d (.v (.int .i64 ((k : Int))))]) :: tm) (fun (k : Nat) bo => bo) (fun (k : Nat) => k ≤ i ∧ ∀ j, j < k → ¬ (x.msgs.getD j nilMs).name = (x.msgs.getD i nilMs).name) (fun (k : Nat) => i - k) (0) ?_ (fun k hk => ?_) ?_); (focus (apply SubW [] rfl ?_ ?_ rfl ?_; (repeat' (first | exact kA | refine kB ?_ | refine kC ?_ ?_ | exact kD | fail)))))
 |((with_reducible refine round_next (i := k) (k + 1) ?_ ?_ ?_); (focus (apply SubW [] rfl ?_ ?_ rfl ?_; (repeat' (first | exact kA | refine kB ?_ | refine kC ?_ ?_ | exact kD | fail)))))
 |refine wA ?_
 |(refine wC ?_ ?_ <;> intro hc)
 |refine wB ?_ ?_
 |(with_reducible refine JL.block ?_)
 |(with_reducible refine F_at ?_); refine eW (vs := [(_, _)]) Tryz.results156 ?_; (focus (repeat' (first | exact oA | refine oB ?_ | refine oC ?_ ?_ | fail)))
 |exact oM
 |fail)
 all_goals first
  | rfl
  | omega
  | exact ⟨Nat.zero_le _, rfl, by show (0 : Int) ≤ 0; omega⟩
  | exact ⟨Nat.zero_le _, fun j hj => absurd hj (Nat.not_lt_zero j)⟩
  | exact ⟨by omega, lt_next hk.2 hc⟩
  | exact names_end hi.2.1 (by omega)
  | (refine names_no hi.2.1 (q_id (by omega) ?_); rw [g i (by omega)]; omega)
  | (refine names_no hi.2.1 (q_nm (by omega) ?_); rw [g i (by omega)]; exact hc)
  | (refine names_no hi.2.1 (q_dup (k := k) (by omega) (by omega) ?_); rw [g i (by omega), g k (by omega)]; exact hc)
  | (show _ = ((msgQ x.msgs).getD i nilQ).1; rw [g i (by omega)]; done)
  | (refine ⟨by omega, hi.2.1.trans (q_ok (by omega) ?_ ?_ ?_), ?_⟩
     ·rw [g i (by omega)]; omega
     ·rw [g i (by omega)]; assumption
     ·intro j hj; rw [g i (by omega), g j (by omega)]; exact hk.2 j (by omega)
     ·show 0 ≤ ((msgQ x.msgs).getD i nilQ).1; rw [g i (by omega)]; omega)
  | trace_state
theorem msgAt_none {l : List MsgD} {id : Int} (h : ∀ i, i < l.length → ¬ (l.getD i nilMs).id = id) : msgAt l id = none := by
 unfold msgAt
 rw [List.findIdx?_eq_none_iff]
 intro x hx
 obtain ⟨i, hi, rfl⟩ := List.getElem_of_mem hx
 have := h i hi
 simpa [List.getD, hi] using this
theorem msgAt_some {l : List MsgD} {id : Int} {k : Nat} (hk : k < l.length) (h : ∀ i, i < k → ¬ (l.getD i nilMs).id = id) (he : (l.getD k nilMs).id = id) : msgAt l id = some k := by
 unfold msgAt
 rw [List.findIdx?_eq_some_iff_getElem]
 refine ⟨hk, by simpa [List.getD, hk] using he, fun i hi => ?_⟩
 have := h i hi
 simpa [List.getD, Nat.lt_trans hi hk] using this
def msgD (l : List MsgD) (id : Int) : MsgD := match msgAt l id with
 | some k => l.getD k nilMs
 | none => nilMs
theorem rmsg_fn (x : SesD) (id : Int) (hl : x.msgs.length ≤ 5900000000000) : FnSound Tryz.prog 158 [.val true (sesC x), .val false [.d (.v (.int .i64 id))]] [] { vals := [(true, msgC (msgD x.msgs id)), (false, [.d (.v (.bool (msgAt x.msgs id).isSome))])] } := by
 refine startW (tm := [(0, _), (1, _)]) Tryz.func158 rfl Tryz.ntmps158 rfl rfl rfl rfl ?_
 repeat' (first
 |(with_reducible refine rgn 4 400 ?_ ?_); exact rfl
 |(with_reducible refine rgn 5 500 ?_ ?_); exact rfl
 |(with_reducible refine rgn 3 600 ?_ ?_); exact rfl
 |(with_reducible refine blk_at (id := 0) ?_); ((with_reducible refine JL.loopW 0 299 (fun (k : Nat) tm => (6, .one false [.d (.v (.int .i64 ((k : Int))))]) :: tm) (fun (k : Nat) bo => bo) (fun (k : Nat) => k ≤ x.msgs.length ∧ ∀ i, i < k → ¬ (x.msgs.getD i nilMs).id = id) (fun (k : Nat) => x.msgs.length - k) (0) ?_ (fun k hk => ?_) ?_); (focus (apply SubW [] rfl ?_ ?_ rfl ?_; (repeat' (first | exact kA | refine kB ?_ | refine kC ?_ ?_ | exact kD | fail)))))
 |((with_reducible refine round_next (i := k) (k + 1) ?_ ?_ ?_); (focus (apply SubW [] rfl ?_ ?_ rfl ?_; (repeat' (first | exact kA | refine kB ?_ | refine kC ?_ ?_ | exact kD | fail)))))
 |refine wA ?_
 |(refine wC ?_ ?_ <;> intro hc)
 |refine wB ?_ ?_
 |(with_reducible refine JL.block ?_)
 |(with_reducible refine F_at ?_); refine eW (vs := [(_, _), (_, _)]) Tryz.results158 ?_; (focus (repeat' (first | exact oA | refine oB ?_ | refine oC ?_ ?_ | fail)))
 |exact oM
 |fail)
 all_goals first
  | rfl
  | omega
  | exact ⟨Nat.zero_le _, fun i hi => absurd hi (Nat.not_lt_zero i)⟩
  | exact ⟨by omega, lt_next hk.2 hc⟩
  | (unfold msgD; rw [msgAt_some (by omega) hk.2 hc]; done)
  | (unfold msgD; rw [msgAt_none (fun i hi => hk.2 i (by omega))]; rfl)
  | (rw [msgAt_some (by omega) hk.2 hc]; rfl)
  | (rw [msgAt_none (fun i hi => hk.2 i (by omega))]; rfl)
  | trace_state
end Go.Proofs.YtjpdemikmdfonaaGreatDoor

namespace Go.Proofs.YtjpdemikmdfonaaGreatDoor
open Go Go.RowKit
set_option maxRecDepth 100000
set_option maxHeartbeats 8000000
set_option linter.unusedSimpArgs false
set_option linter.unusedVariables false
def accF (f : Nat → Int) (n : Int) : Nat → Int
 | 0 => n
 | k + 1 => IntKind.i64.wrap (accF f n k + f k)
def accR (rs : List RawD) (n : Int) : Nat → Int
 | 0 => n
 | k + 1 => IntKind.i64.wrap (IntKind.i64.wrap (accR rs n k + 1) + ((rs.getD k nilRa).data.size : Int))
theorem rsize1 (v : ValD) (hl : v.keys.length ≤ 5900000000000 ∧ v.items.length ≤ 5900000000000 ∧ v.rest.length ≤ 5900000000000) (f g : Nat → Int) (hf : ∀ k, k < v.keys.length → FnSound Tryz.prog 56 [.val true (valC (v.keys.getD k nilV))] [] { vals := [(false, [.d (.v (.int .i64 (f k)))])] })
    (hg : ∀ k, k < v.items.length → FnSound Tryz.prog 56 [.val true (valC (v.items.getD k nilV))] [] { vals := [(false, [.d (.v (.int .i64 (g k)))])] }) :
    FnSound Tryz.prog 56 [.val true (valC v)] [] { vals := [(false, [.d (.v (.int .i64 (accR v.rest (accF g (accF f (IntKind.i64.wrap (1 + (v.s.size : Int))) v.keys.length) v.items.length) v.rest.length)))])] } := by
 refine startW (tm := [(0, _)]) Tryz.func56 rfl Tryz.ntmps56 rfl rfl rfl rfl ?_
 repeat' (first
 |(with_reducible refine rgn 5 500 ?_ ?_); exact rfl
 |(with_reducible refine rgn 4 600 ?_ ?_); exact rfl
 |(with_reducible refine rgn 9 900 ?_ ?_); exact rfl
 |(with_reducible refine rgn 8 1000 ?_ ?_); exact rfl
 |(with_reducible refine rgn 13 1300 ?_ ?_); exact rfl
 |(with_reducible refine rgn 12 1400 ?_ ?_); exact rfl
 |(with_reducible refine K_ca 56 ?_); (first
 |refine W.call0A rfl BoC.h (hf _ (by omega)) rfl rfl rfl ?_
 |refine W.call1A rfl BoC.h (hf _ (by omega)) rfl rfl rfl rfl rfl ?_
 |refine W.call0A rfl BoC.h (hg _ (by omega)) rfl rfl rfl ?_
 |refine W.call1A rfl BoC.h (hg _ (by omega)) rfl rfl rfl rfl rfl ?_)
 |(with_reducible refine blk_at (id := 0) ?_); ((with_reducible refine JL.loopW 0 399 (fun (i : Nat) tm => (4, .one false [.d (.v (.int .i64 ((i : Int))))]) :: (3, .one false [.d (.v (.int .i64 ((accF f (IntKind.i64.wrap (1 + (v.s.size : Int))) i))))]) :: tm) (fun (i : Nat) bo => bo) (fun (i : Nat) => i ≤ v.keys.length) (fun (i : Nat) => v.keys.length - i) (0) ?_ (fun i hi => ?_) ?_); (focus (apply SubW [] rfl ?_ ?_ rfl ?_; (repeat' (first | exact kA | refine kB ?_ | refine kC ?_ ?_ | exact kD | fail)))))
 |((with_reducible refine round_next (i := i) (i + 1) ?_ ?_ ?_); (focus (apply SubW [] rfl ?_ ?_ rfl ?_; (repeat' (first | exact kA | refine kB ?_ | refine kC ?_ ?_ | exact kD | fail)))))
 |(with_reducible refine blk_at (id := 2) ?_); ((with_reducible refine JL.loopW 2 799 (fun (j : Nat) tm => (5, .one false [.d (.v (.int .i64 ((j : Int))))]) :: (3, .one false [.d (.v (.int .i64 ((accF g (accF f (IntKind.i64.wrap (1 + (v.s.size : Int))) v.keys.length) j))))]) :: tm) (fun (j : Nat) bo => bo) (fun (j : Nat) => j ≤ v.items.length) (fun (j : Nat) => v.items.length - j) (0) ?_ (fun j hj => ?_) ?_); (focus (apply SubW [] rfl ?_ ?_ rfl ?_; (repeat' (first | exact kA | refine kB ?_ | refine kC ?_ ?_ | exact kD | fail)))))
 |((with_reducible refine round_next (i := j) (j + 1) ?_ ?_ ?_); (focus (apply SubW [] rfl ?_ ?_ rfl ?_; (repeat' (first | exact kA | refine kB ?_ | refine kC ?_ ?_ | exact kD | fail)))))
 |(with_reducible refine blk_at (id := 4) ?_); ((with_reducible refine JL.loopW 4 1199 (fun (k : Nat) tm => (6, .one false [.d (.v (.int .i64 ((k : Int))))]) :: (3, .one false [.d (.v (.int .i64 ((accR v.rest (accF g (accF f (IntKind.i64.wrap (1 + (v.s.size : Int))) v.keys.length) v.items.length) k))))]) :: tm) (fun (k : Nat) bo => bo) (fun (k : Nat) => k ≤ v.rest.length) (fun (k : Nat) => v.rest.length - k) (0) ?_ (fun k hk => ?_) ?_); (focus (apply SubW [] rfl ?_ ?_ rfl ?_; (repeat' (first | exact kA | refine kB ?_ | refine kC ?_ ?_ | exact kD | fail)))))
 |((with_reducible refine round_next (i := k) (k + 1) ?_ ?_ ?_); (focus (apply SubW [] rfl ?_ ?_ rfl ?_; (repeat' (first | exact kA | refine kB ?_ | refine kC ?_ ?_ | exact kD | fail)))))
 |refine wA ?_
 |(refine wC ?_ ?_ <;> intro hc)
 |refine wB ?_ ?_
 |(with_reducible refine JL.block ?_)
 |(with_reducible refine F_at ?_); refine eW (vs := [(_, _)]) Tryz.results56 ?_; (focus (repeat' (first | exact oA | refine oB ?_ | refine oC ?_ ?_ | fail)))
 |exact oM
 |fail)
 all_goals first
  | rfl
  | omega
  | (have e : i = v.keys.length := by omega
     rw [e]; rfl)
  | (have e : j = v.items.length := by omega
     rw [e]; rfl)
  | (have e : k = v.rest.length := by omega
     rw [e]; done)
  | trace_state
theorem some_fn {F : FuncId} {l : List ValD} (h : ∀ k, k < l.length → ∃ n : Int, FnSound Tryz.prog F [.val true (valC (l.getD k nilV))] [] { vals := [(false, [.d (.v (.int .i64 n))])] }) : ∃ f : Nat → Int, ∀ k, k < l.length → FnSound Tryz.prog F [.val true (valC (l.getD k nilV))] [] { vals := [(false, [.d (.v (.int .i64 (f k)))])] } :=
 ⟨fun k => if h1 : k < l.length then Classical.choose (h k h1) else 0, fun k hk => by simp only [dif_pos hk]; exact Classical.choose_spec (h k hk)⟩
mutual
theorem size_ex : ∀ v : ValD, smV v → ∃ n : Int, FnSound Tryz.prog 56 [.val true (valC v)] [] { vals := [(false, [.d (.v (.int .i64 n))])] }
 | .mk k b n s i ks is rs, h => by
  unfold smV at h
  obtain ⟨f, hf⟩ := some_fn (l := ks) (fun j hj => size_exs ks h.2.1 j _ (getD_eq hj))
  obtain ⟨g, hg⟩ := some_fn (l := is) (fun j hj => size_exs is h.2.2 j _ (getD_eq hj))
  exact ⟨_, rsize1 (.mk k b n s i ks is rs) ⟨h.1.1, h.1.2.1, h.1.2.2.1⟩ f g hf hg⟩
theorem size_exs : ∀ l : List ValD, smVs l → ∀ (j : Nat) (v : ValD), l[j]? = some v → ∃ n : Int, FnSound Tryz.prog 56 [.val true (valC v)] [] { vals := [(false, [.d (.v (.int .i64 n))])] }
 | [], _, j, v, hv => by simp at hv
 | x :: r, h, j, v, hv => by
  unfold smVs at h
  match j with
  | 0 => simp at hv; subst hv; exact size_ex x h.1
  | j + 1 => exact size_exs r h.2 j v (by simpa using hv)
end
def accM (f : Nat → Int) (ms : List MemD) (n : Int) : Nat → Int
 | 0 => n
 | k + 1 => IntKind.i64.wrap (IntKind.i64.wrap (accM f ms n k + f k) + ((ms.getD k nilM0).name.size : Int))
def accT0 (t : TypD) (n : Int) : Int := IntKind.i64.wrap (IntKind.i64.wrap (IntKind.i64.wrap (n + (t.mems.length : Int)) + (t.syms.length : Int)) + (t.name.size : Int))
def accT (f : Nat → Nat → Int) (l : List TypD) : Nat → Int
 | 0 => 0
 | i + 1 => accM (f i) (l.getD i nilT0).mems (accT0 (l.getD i nilT0) (accT f l i)) (min 100 (l.getD i nilT0).mems.length)
theorem rfew7 (l : List TypD) (hs : smTs l) (f : Nat → Nat → Int) (hf : ∀ i k, i < l.length → k < (l.getD i nilT0).mems.length → FnSound Tryz.prog 56 [.val true (valC ((l.getD i nilT0).mems.getD k nilM0).dflt)] [] { vals := [(false, [.d (.v (.int .i64 (f i k)))])] }) :
    FnSound Tryz.prog 38 [.val true (schC l)] [] { vals := [(false, [.d (.v (.bool (decide (l.length ≤ 40 ∧ accT f l l.length ≤ 400))))])] } := by
 obtain ⟨hl, ht⟩ := hs
 have hm := fun i (h : i < l.length) => (ht i h).1
 refine startW (tm := [(0, _)]) Tryz.func38 rfl Tryz.ntmps38 rfl rfl rfl rfl ?_
 repeat' (first
 |(with_reducible refine rgn 7 700 ?_ ?_); exact rfl
 |(with_reducible refine rgn 8 800 ?_ ?_); exact rfl
 |(with_reducible refine rgn 9 900 ?_ ?_); exact rfl
 |(with_reducible refine rgn 10 1000 ?_ ?_); exact rfl
 |(with_reducible refine rgn 12 1100 ?_ ?_); exact rfl
 |(with_reducible refine rgn 6 1300 ?_ ?_); exact rfl
 |(with_reducible refine K_ca 56 ?_); (first
 |refine W.call0A rfl BoC.h (hf _ _ (by omega) (by omega)) rfl rfl rfl ?_
 |refine W.call1A rfl BoC.h (hf _ _ (by omega) (by omega)) rfl rfl rfl rfl rfl ?_)
 |(with_reducible refine blk_at (id := 0) ?_); ((with_reducible refine JL.loopW 0 599 (fun (i : Nat) tm => (4, .one false [.d (.v (.int .i64 ((i : Int))))]) :: (3, .one false [.d (.v (.int .i64 ((accT f l i))))]) :: tm) (fun (i : Nat) bo => bo) (fun (i : Nat) => i ≤ l.length) (fun (i : Nat) => l.length - i) (0) ?_ (fun i hi => have hmi := hm i; ?_) ?_); (focus (apply SubW [] rfl ?_ ?_ rfl ?_; (repeat' (first | exact kA | refine kB ?_ | refine kC ?_ ?_ | exact kD | fail)))))
 |((with_reducible refine round_next (i := i) (i + 1) ?_ ?_ ?_); (focus (apply SubW [] rfl ?_ ?_ rfl ?_; (repeat' (first | exact kA | refine kB ?_ | refine kC ?_ ?_ | exact kD | fail)))))
 |(with_reducible refine blk_at (id := 2) ?_); ((with_reducible refine JL.loopW 2 999 (fun (k : Nat) tm => (6, .one false [.d (.v (.int .i64 ((k : Int))))]) :: (3, .one false [.d (.v (.int .i64 ((accM (f i) (l.getD i nilT0).mems (accT0 (l.getD i nilT0) (accT f l i)) k))))]) :: tm) (fun (k : Nat) bo => bo) (fun (k : Nat) => k ≤ min 100 (l.getD i nilT0).mems.length) (fun (k : Nat) => (l.getD i nilT0).mems.length - k) (0) ?_ (fun k hk => ?_) ?_); (focus (apply SubW [] rfl ?_ ?_ rfl ?_; (repeat' (first | exact kA | refine kB ?_ | refine kC ?_ ?_ | exact kD | fail)))))
 |((with_reducible refine round_next (i := k) (k + 1) ?_ ?_ ?_); (focus (apply SubW [] rfl ?_ ?_ rfl ?_; (repeat' (first | exact kA | refine kB ?_ | refine kC ?_ ?_ | exact kD | fail)))))
 |refine wA ?_
 |(refine wC ?_ ?_ <;> intro hc)
 |refine wB ?_ ?_
 |(with_reducible refine JL.block ?_)
 |(with_reducible refine F_at ?_); refine eW (vs := [(_, _)]) Tryz.results38 ?_; (focus (repeat' (first | exact oA | refine oB ?_ | refine oC ?_ ?_ | fail)))
 |exact oM
 |fail)
 all_goals first
  | rfl
  | omega
  | exact (decide_eq_false (by omega)).symm
  | (have e : k = min 100 (l.getD i nilT0).mems.length := by omega
     rw [e]; rfl)
  | (have e : i = l.length := by omega
     rw [e]; exact decide_eq_decide.2 (by omega))
  | trace_state
theorem few7_ex (l : List TypD) (hs : smTs l) : ∃ b : Bool, FnSound Tryz.prog 38 [.val true (schC l)] [] { vals := [(false, [.d (.v (.bool b))])] } := by
 have h : ∀ i k, i < l.length → k < (l.getD i nilT0).mems.length → ∃ n : Int, FnSound Tryz.prog 56 [.val true (valC ((l.getD i nilT0).mems.getD k nilM0).dflt)] [] { vals := [(false, [.d (.v (.int .i64 n))])] } := fun i k h1 h2 => size_ex _ ((hs.2 i h1).2 k h2)
 exact ⟨_, rfew7 l hs (fun i k => if g : i < l.length ∧ k < (l.getD i nilT0).mems.length then Classical.choose (h i k g.1 g.2) else 0) fun i k h1 h2 => by
  simp only [dif_pos (And.intro h1 h2)]; exact Classical.choose_spec (h i k h1 h2)⟩
end Go.Proofs.YtjpdemikmdfonaaGreatDoor

namespace Go.Proofs.YtjpdemikmdfonaaGreatDoor
open Go Go.RowKit
set_option maxRecDepth 100000
set_option maxHeartbeats 8000000
set_option linter.unusedSimpArgs false
set_option linter.unusedVariables false
def trimA (a : AutD) : AutD := if autErr a = 0 then ⟨((ordP a).length : Int), 0, sortN (trimN a.edges (ordP a) a.edges.length) (trimN a.edges (ordP a) a.edges.length).length⟩ else ⟨0, 0, []⟩
theorem rtrim_all (a : AutD) (hl : a.edges.length ≤ 5900000000000) : FnSound Tryz.prog 157 [.val true (autC a)] [] { vals := [(true, autC (trimA a)), (false, [.d (.v (.int .i64 (autErr a)))])] } := by
 unfold trimA
 by_cases h : autErr a = 0
 ·rw [if_pos h, h]; exact rtrim_fn a h
 ·rw [if_neg h]; exact rtrim_no a hl h
theorem ses_3 {n : Nat} {x : SesD} (h : (16 : Int) < x.msgs.length) : 3 = sesErr n x := by
 unfold sesErr; rw [if_pos (by omega)]
theorem ses_names {x : SesD} (h : namesP x = false) : idsP 0 [] (msgQ x.msgs) = false ∨ isNameP x.name = false := by
 unfold namesP at h
 cases g : idsP 0 [] (msgQ x.msgs) with
 | false => exact .inl rfl
 | true => rw [g] at h; exact .inr h
theorem ses_1 {n : Nat} {x : SesD} (h : ¬ (16 : Int) < x.msgs.length) (h1 : namesP x = false) : 1 = sesErr n x := by
 unfold sesErr; rw [if_neg (by omega), if_pos (ses_names h1)]
structure SesGo (n : Nat) (x : SesD) : Prop where
 few : ¬ (16 : Int) < x.msgs.length
 nm : namesP x = true
theorem SesGo.neg {n : Nat} {x : SesD} (h : SesGo n x) : ¬ 16 < x.msgs.length ∧ ¬ (idsP 0 [] (msgQ x.msgs) = false ∨ isNameP x.name = false) := by
 have h2 := h.nm
 unfold namesP at h2
 rw [Bool.and_eq_true] at h2
 refine ⟨by have := h.few; omega, fun a => ?_⟩
 rcases a with a | a
 ·rw [h2.1] at a; cases a
 ·rw [h2.2] at a; cases a
theorem ses_4 {n : Nat} {x : SesD} {j : Nat} (h : SesGo n x) (hj : j < x.msgs.length) (ho : outT n (x.msgs.getD j nilMs).typ = true) : 4 = sesErr n x := by
 unfold sesErr; rw [if_neg h.neg.1, if_neg h.neg.2, if_pos (any_at (d := nilMs) hj ho)]
theorem ses_typ {n : Nat} {x : SesD} (ho : ∀ j, j < x.msgs.length → outT n (x.msgs.getD j nilMs).typ = false) : ¬ x.msgs.any (fun m => outT n m.typ) = true := by
 rw [any_not (d := nilMs) ho]; decide
theorem ses_a {n : Nat} {x : SesD} (h : SesGo n x) (ho : ∀ j, j < x.msgs.length → outT n (x.msgs.getD j nilMs).typ = false) (ha : ¬ autErr x.auto = 0) : autErr x.auto = sesErr n x := by
 unfold sesErr; rw [if_neg h.neg.1, if_neg h.neg.2, if_neg (ses_typ ho), if_pos ha]
theorem ses_l {n : Nat} {x : SesD} {j : Nat} (h : SesGo n x) (ho : ∀ j, j < x.msgs.length → outT n (x.msgs.getD j nilMs).typ = false) (ha : autErr x.auto = 0) (hj : j < x.auto.edges.length) (hm : (msgAt x.msgs (x.auto.edges.getD j nilEd).label).isSome = false) : 4 = sesErr n x := by
 unfold sesErr
 rw [if_neg h.neg.1, if_neg h.neg.2, if_neg (ses_typ ho), if_neg (not_not_intro ha), if_pos (any_at (d := nilEd) hj ?_)]
 cases g : msgAt x.msgs (x.auto.edges.getD j nilEd).label with
 | none => rfl
 | some k => rw [g] at hm; cases hm
theorem ses_end {n : Nat} {x : SesD} (h : SesGo n x) (ho : ∀ j, j < x.msgs.length → outT n (x.msgs.getD j nilMs).typ = false) (ha : autErr x.auto = 0) (hm : ∀ j, j < x.auto.edges.length → (msgAt x.msgs (x.auto.edges.getD j nilEd).label).isSome = true) : (if ((ordP x.auto).length : Int) = x.auto.states then 0 else 1) = sesErr n x := by
 have hz : ¬ x.auto.edges.any (fun e => (msgAt x.msgs e.label).isNone) = true := by
  rw [any_not (d := nilEd) fun j hj => ?_]
  ·decide
  ·have := hm j hj
   cases g : msgAt x.msgs (x.auto.edges.getD j nilEd).label with
   | none => rw [g] at this; cases this
   | some k => rfl
 unfold sesErr
 rw [if_neg h.neg.1, if_neg h.neg.2, if_neg (ses_typ ho), if_neg (not_not_intro ha), if_neg hz]
theorem trimA_states {a : AutD} (h : autErr a = 0) : (trimA a).states = ((ordP a).length : Int) := by unfold trimA; rw [if_pos h]
theorem rown31_fn (l : List TypD) (x : SesD) (hl : l.length ≤ 5900000000000) (hx : x.msgs.length ≤ 5900000000000 ∧ x.auto.edges.length ≤ 5900000000000) : FnSound Tryz.prog 111 [.val true (schC l), .val true (sesC x)] [] { vals := [(false, [.d (.v (.int .i64 (sesErr l.length x)))])] } := by
 refine startW (tm := [(0, _), (1, _)]) Tryz.func111 rfl Tryz.ntmps111 rfl rfl rfl rfl ?_
 repeat' (first
 |(with_reducible refine rgn 8 800 ?_ ?_); exact rfl
 |(with_reducible refine rgn 9 900 ?_ ?_); exact rfl
 |(with_reducible refine rgn 7 1000 ?_ ?_); exact rfl
 |(with_reducible refine rgn 16 1600 ?_ ?_); exact rfl
 |(with_reducible refine rgn 17 1700 ?_ ?_); exact rfl
 |(with_reducible refine rgn 18 1800 ?_ ?_); exact rfl
 |(with_reducible refine rgn 15 1900 ?_ ?_); exact rfl
 |(with_reducible refine K_ca 156 ?_); refine zC (rnames_fn x hx.1) ?_
 |(with_reducible refine K_ca 157 ?_); refine zC (rtrim_all x.auto hx.2) ?_
 |(with_reducible refine K_ca 158 ?_); refine zC (rmsg_fn x _ hx.1) ?_
 |(with_reducible refine blk_at (id := 0) ?_); ((with_reducible refine JL.loopW 0 699 (fun (k : Nat) tm => (5, .one false [.d (.v (.int .i64 ((k : Int))))]) :: tm) (fun (k : Nat) bo => bo) (fun (k : Nat) => k ≤ x.msgs.length ∧ ∀ j, j < k → outT l.length (x.msgs.getD j nilMs).typ = false) (fun (k : Nat) => x.msgs.length - k) (0) ?_ (fun k hk => ?_) ?_); (focus (apply SubW [] rfl ?_ ?_ rfl ?_; (repeat' (first | exact kA | refine kB ?_ | refine kC ?_ ?_ | exact kD | fail)))))
 |((with_reducible refine round_next (i := k) (k + 1) ?_ ?_ ?_); (focus (apply SubW [] rfl ?_ ?_ rfl ?_; (repeat' (first | exact kA | refine kB ?_ | refine kC ?_ ?_ | exact kD | fail)))))
 |(with_reducible refine blk_at (id := 2) ?_); ((with_reducible refine JL.loopW 2 1499 (fun (u : Nat) tm => (8, .one false [.d (.v (.int .i64 ((u : Int))))]) :: tm) (fun (u : Nat) bo => bo) (fun (u : Nat) => u ≤ x.auto.edges.length ∧ ∀ j, j < u → (msgAt x.msgs (x.auto.edges.getD j nilEd).label).isSome = true) (fun (u : Nat) => x.auto.edges.length - u) (0) ?_ (fun u hu => ?_) ?_); (focus (apply SubW [] rfl ?_ ?_ rfl ?_; (repeat' (first | exact kA | refine kB ?_ | refine kC ?_ ?_ | exact kD | fail)))))
 |((with_reducible refine round_next (i := u) (u + 1) ?_ ?_ ?_); (focus (apply SubW [] rfl ?_ ?_ rfl ?_; (repeat' (first | exact kA | refine kB ?_ | refine kC ?_ ?_ | exact kD | fail)))))
 |refine wA ?_
 |(refine wC ?_ ?_ <;> intro hc)
 |refine wB ?_ ?_
 |(with_reducible refine JL.block ?_)
 |(with_reducible refine F_at ?_); refine eW (vs := [(_, _)]) Tryz.results111 ?_; (focus (repeat' (first | exact oA | refine oB ?_ | refine oC ?_ ?_ | fail)))
 |exact oM
 |fail)
 all_goals first
  | rfl
  | omega
  | exact ⟨Nat.zero_le _, fun j hj => absurd hj (Nat.not_lt_zero j)⟩
  | exact ses_3 hc
  | exact ses_1 (by assumption) (nt hc)
  | exact ses_4 (j := k) ⟨by assumption, nf (by assumption)⟩ (by omega) (decide_eq_true (by omega))
  | exact ⟨by omega, lt_next hk.2 (decide_eq_false (by omega))⟩
  | exact ses_a ⟨by assumption, nf (by assumption)⟩ (fun j hj => hk.2 j (by omega)) hc
  | exact ses_l (j := u) ⟨by assumption, nf (by assumption)⟩ (fun j hj => hk.2 j (by omega)) (by omega) (by omega) (nt hc)
  | exact ⟨by omega, lt_next hu.2 (nf hc)⟩
  | (rw [← ses_end ⟨by assumption, nf (by assumption)⟩ (fun j hj => hk.2 j (by omega)) (by omega) (fun j hj => hu.2 j (by omega)), if_neg (by rw [← trimA_states (by omega)]; exact hc)]; done)
  | (rw [← ses_end ⟨by assumption, nf (by assumption)⟩ (fun j hj => hk.2 j (by omega)) (by omega) (fun j hj => hu.2 j (by omega)), if_pos (by rw [← trimA_states (by omega)]; exact hc)]; done)
  | trace_state
theorem rses_fn (l : List TypD) (x : SesD) (hs : smTs l) (h : schemaErr l = 0) (hx : x.msgs.length ≤ 5900000000000 ∧ x.auto.edges.length ≤ 5900000000000) : FnSound Tryz.prog 83 [.val true (schC l), .val true (sesC x)] [] { vals := [(false, [.d (.v (.int .i64 (sesErr l.length x)))])] } := by
 have hv := rschema_fn l hs
 rw [h] at hv
 have hl := hs.1
 refine startW (tm := [(0, _), (1, _)]) Tryz.func83 rfl Tryz.ntmps83 rfl rfl rfl rfl ?_
 repeat' (first
 |(with_reducible refine K_ca 110 ?_); refine zC (hv) ?_
 |(with_reducible refine K_ca 111 ?_); refine zC (rown31_fn l x hl hx) ?_
 |refine wA ?_
 |(refine wC ?_ ?_ <;> intro hc)
 |refine wB ?_ ?_
 |(with_reducible refine JL.block ?_)
 |(with_reducible refine F_at ?_); refine eW (vs := [(_, _)]) Tryz.results83 ?_; (focus (repeat' (first | exact oA | refine oB ?_ | refine oC ?_ ?_ | fail)))
 |exact oM
 |fail)
 all_goals first | rfl | trace_state
theorem rfew31 (x : SesD) : FnSound Tryz.prog 39 [.val true (sesC x)] [] { vals := [(false, [.d (.v (.bool (decide (x.msgs.length ≤ 20 ∧ x.auto.edges.length ≤ 110 ∧ x.name.size ≤ 100))))])] } := by
 refine startW (tm := [(0, _)]) Tryz.func39 rfl Tryz.ntmps39 rfl rfl rfl rfl ?_
 repeat' (first
 |refine wA ?_
 |(refine wC ?_ ?_ <;> intro hc)
 |refine wB ?_ ?_
 |(with_reducible refine JL.block ?_)
 |(with_reducible refine F_at ?_); refine eW (vs := [(_, _)]) Tryz.results39 ?_; (focus (repeat' (first | exact oA | refine oB ?_ | refine oC ?_ ?_ | fail)))
 |exact oM
 |fail)
 all_goals first | rfl | (exact decide_eq_decide.2 (by omega)) | exact (decide_eq_false (by omega)).symm | trace_state
end Go.Proofs.YtjpdemikmdfonaaGreatDoor

