/- Rules of runs and contracts of functions, for the claims of one seat. -/
import Derived.Test.YtjpdemikmdfonaaGreatDoorFA12
import Derived.Test.YtjpdemikmdfonaaGreatDoorFA13
import Derived.Test.YtjpdemikmdfonaaGreatDoorFA15
namespace Go.Proofs.YtjpdemikmdfonaaGreatDoor
open Go Go.RowKit
set_option maxRecDepth 100000
set_option maxHeartbeats 8000000
set_option linter.unusedSimpArgs false
set_option linter.unusedVariables false
theorem letter_fn (c : Int) : FnSound Tryz.prog 45 [.val false [.d (.v (.int .u8 c))]] [] { vals := [(false, [.d (.v (.bool (letterP c)))])] } := by
 refine startW (tm := [(0, _)]) Tryz.func45 rfl Tryz.ntmps45 rfl rfl rfl rfl ?_
 repeat' (first
 |refine wA ?_
 |(refine wC ?_ ?_ <;> intro hc)
 |refine wB ?_ ?_
 |(with_reducible refine JL.block ?_)
 |(with_reducible refine F_at ?_); refine eW (vs := [(_, _)]) Tryz.results45 ?_; (focus (repeat' (first | exact oA | refine oB ?_ | refine oC ?_ ?_ | fail)))
 |exact oM
 |fail)
 all_goals first | rfl | (unfold letterP; grind) | trace_state
theorem digit_fn (c : Int) : FnSound Tryz.prog 46 [.val false [.d (.v (.int .u8 c))]] [] { vals := [(false, [.d (.v (.bool (digitP c)))])] } := by
 refine startW (tm := [(0, _)]) Tryz.func46 rfl Tryz.ntmps46 rfl rfl rfl rfl ?_
 repeat' (first
 |refine wA ?_
 |(refine wC ?_ ?_ <;> intro hc)
 |refine wB ?_ ?_
 |(with_reducible refine JL.block ?_)
 |(with_reducible refine F_at ?_); refine eW (vs := [(_, _)]) Tryz.results46 ?_; (focus (repeat' (first | exact oA | refine oB ?_ | refine oC ?_ ?_ | fail)))
 |exact oM
 |fail)
 all_goals first | rfl | (unfold digitP; grind) | trace_state
theorem pletter_fn (c : Int) : FnSound Tryz.prog 40 [.val false [.d (.v (.int .u8 c))]] [] { vals := [(false, [.d (.v (.bool (letterP c)))])] } := by
 refine startW (tm := [(0, _)]) Tryz.func40 rfl Tryz.ntmps40 rfl rfl rfl rfl ?_
 repeat' (first
 |refine wA ?_
 |(refine wC ?_ ?_ <;> intro hc)
 |refine wB ?_ ?_
 |(with_reducible refine JL.block ?_)
 |(with_reducible refine F_at ?_); refine eW (vs := [(_, _)]) Tryz.results40 ?_; (focus (repeat' (first | exact oA | refine oB ?_ | refine oC ?_ ?_ | fail)))
 |exact oM
 |fail)
 all_goals first | rfl | (unfold letterP; grind) | trace_state
theorem pdigit_fn (c : Int) : FnSound Tryz.prog 41 [.val false [.d (.v (.int .u8 c))]] [] { vals := [(false, [.d (.v (.bool (digitP c)))])] } := by
 refine startW (tm := [(0, _)]) Tryz.func41 rfl Tryz.ntmps41 rfl rfl rfl rfl ?_
 repeat' (first
 |refine wA ?_
 |(refine wC ?_ ?_ <;> intro hc)
 |refine wB ?_ ?_
 |(with_reducible refine JL.block ?_)
 |(with_reducible refine F_at ?_); refine eW (vs := [(_, _)]) Tryz.results41 ?_; (focus (repeat' (first | exact oA | refine oB ?_ | refine oC ?_ ?_ | fail)))
 |exact oM
 |fail)
 all_goals first | rfl | (unfold digitP; grind) | trace_state
theorem letter_of {c : Int} (h : c = 95 ∨ 97 ≤ c ∧ c ≤ 122 ∨ 65 ≤ c ∧ c ≤ 90) : letterP c = true := by unfold letterP; exact decide_eq_true h
theorem name_of {c : Int} (h : (c = 95 ∨ 97 ≤ c ∧ c ≤ 122 ∨ 65 ≤ c ∧ c ≤ 90) ∨ 48 ≤ c ∧ c ≤ 57) : nameB c = true := by
 unfold nameB letterP digitP
 rcases h with h | h
 ·rw [decide_eq_true h]; rfl
 ·rw [decide_eq_true h, Bool.or_true]
theorem of_name {c : Int} (h : nameB c = true) : (c = 95 ∨ 97 ≤ c ∧ c ≤ 122 ∨ 65 ≤ c ∧ c ≤ 90) ∨ 48 ≤ c ∧ c ≤ 57 := by
 unfold nameB letterP digitP at h
 simpa using h
def nameTo (s : ByteArray) (k : Nat) : Prop := ∀ i, i < k → nameB (byteN s i) = true
theorem isName_no {s : ByteArray} (h : ¬ (¬ s.size = 0 ∧ s.size ≤ 24 ∧ (byteN s 0 = 95 ∨ 97 ≤ byteN s 0 ∧ byteN s 0 ≤ 122 ∨ 65 ≤ byteN s 0 ∧ byteN s 0 ≤ 90) ∧ ∀ i, i < s.size → (byteN s i = 95 ∨ 97 ≤ byteN s i ∧ byteN s i ≤ 122 ∨ 65 ≤ byteN s i ∧ byteN s i ≤ 90) ∨ 48 ≤ byteN s i ∧ byteN s i ≤ 57)) : false = isNameP s := by
 cases hn : isNameP s with
 | false => rfl
 | true =>
  exfalso
  unfold isNameP at hn
  rw [Bool.and_eq_true, Bool.and_eq_true, decide_eq_true_eq] at hn
  obtain ⟨⟨⟨a, b⟩, c⟩, d⟩ := hn
  unfold letterP at c
  exact h ⟨a, b, by simpa using c, fun i hi => of_name (name_all.1 d i hi)⟩
theorem isName_yes {s : ByteArray} {k : Nat} (h0 : ¬ s = ⟨#[]⟩) (h1 : ¬ 24 < (s.size : Int)) (h2 : letterP (byteN s 0) = true) (hk : nameTo s k) (he : ¬ (k : Int) < s.size) : true = isNameP s := by
 unfold isNameP
 rw [h2, name_all.2 (fun i hi => hk i (by omega)), decide_eq_true ⟨fun e => h0 (by
  obtain ⟨d⟩ := s
  have : d.size = 0 := e
  rw [Array.eq_empty_of_size_eq_zero this]), by omega⟩]
 rfl
theorem size_pos {s : ByteArray} (h0 : ¬ s = ⟨#[]⟩) : 0 < s.size := by
 rcases Nat.eq_zero_or_pos s.size with e | e
 ·exfalso
  obtain ⟨d⟩ := s
  have : d.size = 0 := e
  exact h0 (by rw [Array.eq_empty_of_size_eq_zero this])
 ·exact e
theorem nameTo_next {s : ByteArray} {k : Nat} (h : nameTo s k) (hb : nameB (byteN s k) = true) : nameTo s (k + 1) := fun i hi => by
 rcases Nat.lt_or_ge i k with g | g
 ·exact h i g
 ·obtain rfl : i = k := by omega
  exact hb
theorem rname_fn (s : ByteArray) : FnSound Tryz.prog 20 [.val false [.d (.v (.string s))]] [] { vals := [(false, [.d (.v (.bool (isNameP s)))])] } := by
 refine startW (tm := [(0, _)]) Tryz.func20 rfl Tryz.ntmps20 rfl rfl rfl rfl ?_
 repeat' (first
 |(with_reducible refine rgn 6 600 ?_ ?_); exact rfl
 |(with_reducible refine rgn 7 700 ?_ ?_); exact rfl
 |(with_reducible refine rgn 5 800 ?_ ?_); exact rfl
 |(with_reducible refine K_ca 45 ?_); refine zC (letter_fn _) ?_
 |(with_reducible refine K_ca 46 ?_); refine zC (digit_fn _) ?_
 |(with_reducible refine blk_at (id := 0) ?_); ((with_reducible refine JL.loopW 0 499 (fun (k : Nat) tm => (3, .one false [.d (.v (.int .i64 ((k : Int))))]) :: tm) (fun (k : Nat) bo => bo) (fun (k : Nat) => k ≤ s.size ∧ nameTo s k ∧ letterP (byteN s 0) = true) (fun (k : Nat) => s.size - k) (0) ?_ (fun k hk => ?_) ?_); (focus (apply SubW [] rfl ?_ ?_ rfl ?_; (repeat' (first | exact kA | refine kB ?_ | refine kC ?_ ?_ | exact kD | fail)))))
 |((with_reducible refine round_next (i := k) (k + 1) ?_ ?_ ?_); (focus (apply SubW [] rfl ?_ ?_ rfl ?_; (repeat' (first | exact kA | refine kB ?_ | refine kC ?_ ?_ | exact kD | fail)))))
 |refine wA ?_
 |(refine wC ?_ ?_ <;> intro hc)
 |refine wB ?_ ?_
 |(with_reducible refine JL.block ?_)
 |(with_reducible refine F_at ?_); refine eW (vs := [(_, _)]) Tryz.results20 ?_; (focus (repeat' (first | exact oA | refine oB ?_ | refine oC ?_ ?_ | fail)))
 |exact oM
 |fail)
 all_goals first
  | rfl
  | (subst hc; rfl)
  | exact size_pos ‹_›
  | exact isName_no (fun h => hc h.2.2.1)
  | exact isName_no (fun h => by obtain ⟨a, b, c, d⟩ := h; omega)
  | exact isName_no (fun h => by have d := h.2.2.2 k (by omega); omega)
  | exact ⟨by omega, nameTo_next hk.2.1 (name_of (by omega)), hk.2.2⟩
  | exact ⟨Nat.zero_le _, fun i hi => absurd hi (Nat.not_lt_zero i), letter_of (by omega)⟩
  | exact isName_yes ‹_› ‹_› hk.2.2 hk.2.1 ‹_›
  | trace_state
theorem pname_fn (s : ByteArray) : FnSound Tryz.prog 15 [.val false [.d (.v (.string s))]] [] { vals := [(false, [.d (.v (.bool (isNameP s)))])] } := by
 refine startW (tm := [(0, _)]) Tryz.func15 rfl Tryz.ntmps15 rfl rfl rfl rfl ?_
 repeat' (first
 |(with_reducible refine K_ca 40 ?_); refine zC (pletter_fn _) ?_
 |(with_reducible refine K_ca 41 ?_); refine zC (pdigit_fn _) ?_
 |(with_reducible refine blk_at (id := 0) ?_); ((with_reducible refine JL.loopW 0 499 (fun (k : Nat) tm => (19, .one false [.d (.v (.int .i64 ((k : Int))))]) :: tm) (fun (k : Nat) bo => bo) (fun (k : Nat) => k ≤ s.size ∧ nameTo s k ∧ letterP (byteN s 0) = true) (fun (k : Nat) => s.size - k) (0) ?_ (fun k hk => ?_) ?_); (focus (apply SubW [] rfl ?_ ?_ rfl ?_; (repeat' (first | exact kA | refine kB ?_ | refine kC ?_ ?_ | exact kD | fail)))))
 |((with_reducible refine round_next (i := k) (k + 1) ?_ ?_ ?_); (focus (apply SubW [] rfl ?_ ?_ rfl ?_; (repeat' (first | exact kA | refine kB ?_ | refine kC ?_ ?_ | exact kD | fail)))))
 |refine wA ?_
 |(refine wC ?_ ?_ <;> intro hc)
 |refine wB ?_ ?_
 |(with_reducible refine JL.block ?_)
 |(with_reducible refine F_at ?_); refine eW (vs := [(_, _)]) Tryz.results15 ?_; (focus (repeat' (first | exact oA | refine oB ?_ | refine oC ?_ ?_ | fail)))
 |exact oM
 |fail)
 all_goals first
  | rfl
  | (subst hc; rfl)
  | exact size_pos ‹_›
  | exact isName_no (fun h => hc h.2.2.1)
  | exact isName_no (fun h => by obtain ⟨a, b, c, d⟩ := h; omega)
  | exact isName_no (fun h => by have d := h.2.2.2 k (by omega); omega)
  | exact ⟨by omega, nameTo_next hk.2.1 (name_of (by omega)), hk.2.2⟩
  | exact ⟨Nat.zero_le _, fun i hi => absurd hi (Nat.not_lt_zero i), letter_of (by omega)⟩
  | exact isName_yes ‹_› ‹_› hk.2.2 hk.2.1 ‹_›
  | trace_state
end Go.Proofs.YtjpdemikmdfonaaGreatDoor

namespace Go.Proofs.YtjpdemikmdfonaaGreatDoor
open Go Go.RowKit
set_option maxRecDepth 100000
set_option maxHeartbeats 8000000
set_option linter.unusedSimpArgs false
set_option linter.unusedVariables false
theorem r7id_fn (b n : Int) : FnSound Tryz.prog 271 [.val false [.d (.v (.int .i64 b))], .val false [.d (.v (.int .i64 n))]] [] { vals := [(false, [.d (.v (.bool (decide (b < n ∧ 1 ≤ n ∧ n ≤ 1000))))])] } := by
 refine startW (tm := [(0, _), (1, _)]) Tryz.func271 rfl Tryz.ntmps271 rfl rfl rfl rfl ?_
 repeat' (first
 |refine wA ?_
 |(refine wC ?_ ?_ <;> intro hc)
 |refine wB ?_ ?_
 |(with_reducible refine JL.block ?_)
 |(with_reducible refine F_at ?_); refine eW (vs := [(_, _)]) Tryz.results271 ?_; (focus (repeat' (first | exact oA | refine oB ?_ | refine oC ?_ ?_ | fail)))
 |exact oM
 |fail)
 all_goals first | rfl | (symm; exact decide_eq_true (by omega)) | (symm; exact decide_eq_false (by omega)) | (exact decide_eq_decide.2 (by omega)) | trace_state
theorem named_fn (k : Int) : FnSound Tryz.prog 153 [.val false [.d (.v (.int .i64 k))]] [] { vals := [(false, [.d (.v (.bool (decide (k = 4 ∨ k = 5 ∨ k = 6))))])] } := by
 refine startW (tm := [(0, _)]) Tryz.func153 rfl Tryz.ntmps153 rfl rfl rfl rfl ?_
 repeat' (first
 |refine wA ?_
 |(refine wC ?_ ?_ <;> intro hc)
 |refine wB ?_ ?_
 |(with_reducible refine JL.block ?_)
 |(with_reducible refine F_at ?_); refine eW (vs := [(_, _)]) Tryz.results153 ?_; (focus (repeat' (first | exact oA | refine oB ?_ | refine oC ?_ ?_ | fail)))
 |exact oM
 |fail)
 all_goals first | rfl | (symm; exact decide_eq_true (by omega)) | (symm; exact decide_eq_false (by omega)) | (exact decide_eq_decide.2 (by omega)) | trace_state
theorem keykind_fn (k : Int) : FnSound Tryz.prog 155 [.val false [.d (.v (.int .i64 k))]] [] { vals := [(false, [.d (.v (.bool (decide (1 ≤ k ∧ k ≤ 4))))])] } := by
 refine startW (tm := [(0, _)]) Tryz.func155 rfl Tryz.ntmps155 rfl rfl rfl rfl ?_
 repeat' (first
 |refine wA ?_
 |(refine wC ?_ ?_ <;> intro hc)
 |refine wB ?_ ?_
 |(with_reducible refine JL.block ?_)
 |(with_reducible refine F_at ?_); refine eW (vs := [(_, _)]) Tryz.results155 ?_; (focus (repeat' (first | exact oA | refine oB ?_ | refine oC ?_ ?_ | fail)))
 |exact oM
 |fail)
 all_goals first | rfl | (symm; exact decide_eq_true (by omega)) | (symm; exact decide_eq_false (by omega)) | (exact decide_eq_decide.2 (by omega)) | trace_state
def usesR (t : TypD) : List Int := t.mems.map (·.typ) ++ (if t.kind = 8 then [t.key] else []) ++ (if 7 ≤ t.kind ∧ t.kind ≤ 9 then [t.elem] else [])
theorem typ_next {l : List MemD} {k : Nat} (h : k < l.length) : (l.take (k + 1)).map (·.typ) = (l.take k).map (·.typ) ++ [(l.getD k nilM0).typ] := by
 rw [List.take_add_one, List.map_append]
 simp [List.getD, h]
theorem ruses_fn (t : TypD) (hm : t.mems.length ≤ 5900000000000) : FnSound Tryz.prog 154 [.val true (typC t)] [] { vals := [(false, [.d (.sl 1 (dInts (usesR t)))])] } := by
 refine startW (tm := [(0, _)]) Tryz.func154 rfl Tryz.ntmps154 rfl rfl rfl rfl ?_
 repeat' (first
 |(with_reducible refine rgn 5 500 ?_ ?_); exact rfl
 |(with_reducible refine rgn 4 600 ?_ ?_); exact rfl
 |(with_reducible refine blk_at (id := 0) ?_); (try (refine JL.zeroW 3 _ 3 1 rfl rfl ?_)); (refine JL.rekW 3 (1048, 351) rfl rfl rfl rfl ?_); ((with_reducible refine JL.loopW 0 399 (fun (k : Nat) tm => (4, .one false [.d (.v (.int .i64 ((k : Int))))]) :: (3, .one false [.own (1048, 351)]) :: tm) (fun (k : Nat) bo => ((1048, 351), some (.sl 3 1 ((dInts ((t.mems.take k).map (·.typ)))))) :: bo) (fun (k : Nat) => k ≤ t.mems.length) (fun (k : Nat) => t.mems.length - k) (0) ?_ (fun k hk => ?_) ?_); (focus (apply SubW [((1048, 351), _)] rfl ?_ ?_ rfl ?_; (repeat' (first | exact kA | refine kB ?_ | refine kC ?_ ?_ | exact kD | fail)))))
 |((with_reducible refine round_next (i := k) (k + 1) ?_ ?_ ?_); (focus (apply SubW [((1048, 351), _)] rfl ?_ ?_ rfl ?_; (repeat' (first | exact kA | refine kB ?_ | refine kC ?_ ?_ | exact kD | fail)))))
 |refine wA ?_
 |(refine wC ?_ ?_ <;> intro hc)
 |refine wB ?_ ?_
 |(with_reducible refine JL.block ?_)
 |(with_reducible refine F_at ?_); refine eW (vs := [(_, _)]) Tryz.results154 ?_; (focus (repeat' (first | exact oA | refine oB ?_ | refine oC ?_ ?_ | fail)))
 |exact oM
 |fail)
 all_goals first | rfl | omega | (rw [typ_next (by omega)]; done) | exact ⟨by simp, fun i hi => absurd hi (Nat.not_lt_zero i)⟩ | (refine congrArg dInts ?_; rw [List.take_of_length_le (by omega)]; unfold usesR; (repeat (first | rw [if_pos (by omega)] | rw [if_neg (by omega)])); (try simp); done) | trace_state
theorem memAt_none {l : List MemD} {id : Int} (h : ∀ i, i < l.length → ¬ (l.getD i nilM0).id = id) : memAt l id = none := by
 unfold memAt
 rw [List.findIdx?_eq_none_iff]
 intro x hx
 obtain ⟨i, hi, rfl⟩ := List.getElem_of_mem hx
 have := h i hi
 simpa [List.getD, hi] using this
theorem memAt_some {l : List MemD} {id : Int} {k : Nat} (hk : k < l.length) (h : ∀ i, i < k → ¬ (l.getD i nilM0).id = id) (he : (l.getD k nilM0).id = id) : memAt l id = some k := by
 unfold memAt
 rw [List.findIdx?_eq_some_iff_getElem]
 refine ⟨hk, by simpa [List.getD, hk] using he, fun i hi => ?_⟩
 have := h i hi
 simpa [List.getD, Nat.lt_trans hi hk] using this
theorem mem_next {l : List MemD} {id : Int} {k : Nat} (h : ∀ i, i < k → ¬ (l.getD i nilM0).id = id) (hc : ¬ (l.getD k nilM0).id = id) : ∀ i, i < k + 1 → ¬ (l.getD i nilM0).id = id := fun i hi => by
 rcases Nat.lt_or_ge i k with g | g
 ·exact h i g
 ·obtain rfl : i = k := by omega
  exact hc
theorem rmember_fn (t : TypD) (id : Int) (hm : t.mems.length ≤ 5900000000000) : FnSound Tryz.prog 306 [.val true (typC t), .val false [.d (.v (.int .i64 id))]] [] { vals := [(false, [.d (.v (.int .i64 (((memAt t.mems id).getD 0 : Nat) : Int)))]), (false, [.d (.v (.bool (memAt t.mems id).isSome))])] } := by
 refine startW (tm := [(0, _), (1, _)]) Tryz.func306 rfl Tryz.ntmps306 rfl rfl rfl rfl ?_
 repeat' (first
 |(with_reducible refine rgn 4 400 ?_ ?_); exact rfl
 |(with_reducible refine rgn 5 500 ?_ ?_); exact rfl
 |(with_reducible refine rgn 3 600 ?_ ?_); exact rfl
 |(with_reducible refine blk_at (id := 0) ?_); ((with_reducible refine JL.loopW 0 299 (fun (k : Nat) tm => (6, .one false [.d (.v (.int .i64 ((k : Int))))]) :: tm) (fun (k : Nat) bo => bo) (fun (k : Nat) => k ≤ t.mems.length ∧ ∀ i, i < k → ¬ (t.mems.getD i nilM0).id = id) (fun (k : Nat) => t.mems.length - k) (0) ?_ (fun k hk => ?_) ?_); (focus (apply SubW [] rfl ?_ ?_ rfl ?_; (repeat' (first | exact kA | refine kB ?_ | refine kC ?_ ?_ | exact kD | fail)))))
 |((with_reducible refine round_next (i := k) (k + 1) ?_ ?_ ?_); (focus (apply SubW [] rfl ?_ ?_ rfl ?_; (repeat' (first | exact kA | refine kB ?_ | refine kC ?_ ?_ | exact kD | fail)))))
 |refine wA ?_
 |(refine wC ?_ ?_ <;> intro hc)
 |refine wB ?_ ?_
 |(with_reducible refine JL.block ?_)
 |(with_reducible refine F_at ?_); refine eW (vs := [(_, _), (_, _)]) Tryz.results306 ?_; (focus (repeat' (first | exact oA | refine oB ?_ | refine oC ?_ ?_ | fail)))
 |exact oM
 |fail)
 all_goals first
  | rfl
  | omega
  | exact ⟨Nat.zero_le _, fun i hi => absurd hi (Nat.not_lt_zero i)⟩
  | exact ⟨by omega, mem_next hk.2 hc⟩
  | (rw [memAt_some (by omega) hk.2 hc]; rfl)
  | (rw [memAt_none (fun i hi => hk.2 i (by omega))]; rfl)
  | trace_state
end Go.Proofs.YtjpdemikmdfonaaGreatDoor

namespace Go.Proofs.YtjpdemikmdfonaaGreatDoor
open Go Go.RowKit
set_option linter.unusedSimpArgs false
set_option linter.unusedVariables false
section
variable {V X : Nat → Prop} {Z : Key → Hd} {w0 w : World} {N : Nat} {ρ : Key → Hd} {ok ok' : Key → Prop} {lt lt' : Nat → Option AV} {lb lb' : Key → Option Box} {a : Act}
theorem Rel.names (φ : List (Key × Key)) (h0 : φ.all (fun x => x.1.2 != 0) = true) (h1 : ∀ q : Key, q.2 = 0 → ok' q)
    (ht : ∀ t av, lt' t = some av → lt t = some (renAV (renF φ) av) ∧ ∀ q ∈ keysAV av, ok' q)
    (hb : ∀ q box, lb' q = some box → lb (renF φ q) = some (renB (renF φ) box) ∧ ok' q ∧ ∀ k ∈ keysB (some box), ok' k)
    (hi : ∀ q q' box box', lb' q = some box → lb' q' = some box' → renF φ q = renF φ q' → q = q') (h : Rel V X Z w0 N ρ ok lt lb a w) : Rel V X Z w0 N (fun q => ρ (renF φ q)) ok' lt' lb' a w := by
 have him : ∀ b, b < w.heap.size → Im V ρ lb b → Im V (fun q => ρ (renF φ q)) lb' b := fun b _ hi' => ⟨hi'.1, fun q box hq hl => hi'.2 _ _ (hb q box hq).1 (by rw [renB_live]; exact hl)⟩
 have hz : ∀ q : Key, q.2 = 0 → renF φ q = q := fun q hq => by
  unfold renF
  have : lk φ q = none := by
   clear ht hb hi him
   induction φ with
   | nil => rfl
   | cons x r ih =>
    obtain ⟨k, v⟩ := x
    simp only [List.all_cons, Bool.and_eq_true, bne_iff_ne] at h0
    show (if q = k then some v else lk r q) = none
    rw [if_neg (fun e => h0.1 (by rw [← e]; exact hq))]
    exact ih h0.2
  rw [this]
 refine ⟨h.size, h.defers, fun t av hq => ?_, fun q box hq => ?_, fun q b1 q' b2 b e1 l1 e2 l2 g1 g2 => ?_, fun q box b hq hl hg => ?_, h.fr, h.va, fun q hq => ?_⟩
 ·obtain ⟨k1, k2⟩ := ht t av hq
  obtain ⟨k3, k4⟩ := h.tm t _ k1
  exact ⟨k3, k4.ren him k2⟩
 ·obtain ⟨k1, k2, k3⟩ := hb q box hq
  exact ⟨k2, (h.bx _ _ k1).2.ren him k3⟩
 ·exact hi q q' b1 b2 e1 e2 (h.ap _ _ _ _ b (hb q b1 e1).1 (by rw [renB_live]; exact l1) (hb q' b2 e2).1 (by rw [renB_live]; exact l2) g1 g2)
 ·exact h.lo _ _ b (hb q box hq).1 (by rw [renB_live]; exact hl) hg
 ·refine ⟨h1 q hq, ?_⟩
  show ρ (renF φ q) = Z q
  rw [hz q hq]
  exact (h.zz q hq).2
end
def resK (cells : Key → List C) (ty : TypeId) (sz : Nat) (rows : List (List D)) (q : Key) : ARes := { vals := [], ios := [cells q], bx := [(q, .sl ty sz rows)] }
inductive FinK (P : Program) (fn : Func) (args : List Arg) (cells : Key → List C) (ty : TypeId) (sz : Nat) (rows : List (List D)) (ax : AX) (st : St) : Prop
 | mk (q : Key) (hq : (q != (0, 0)) = true) (h : FinO P fn args (resK cells ty sz rows q) ax st)
section
variable {P : Program} {N : Nat} {cells : Key → List C} {ty T : TypeId} {sz : Nat} {rows : List (List D)}
end
end Go.Proofs.YtjpdemikmdfonaaGreatDoor

namespace Go.Proofs.YtjpdemikmdfonaaGreatDoor
open Go Go.RowKit
set_option linter.unusedSimpArgs false
set_option linter.unusedVariables false
section
variable {P : Program} {lend : FuncId → Bool} {N : Nat} {ops : Array Oper} {dr : Bool} {cs : List Code} {R : AX → St → Prop} {i : Nat} {os : List Oper} {tm : List (Nat × AV)} {bo : BO} {nx : Nat} {ns : List Note} {d : Nat} {pos : String} {ty : TypeId} {af : Array Edge}
end
end Go.Proofs.YtjpdemikmdfonaaGreatDoor

namespace Go.Proofs.YtjpdemikmdfonaaGreatDoor
open Go Go.RowKit
set_option linter.unusedSimpArgs false
set_option linter.unusedVariables false
set_option maxRecDepth 100000
section
variable {P : Program} {lend : FuncId → Bool} {N : Nat} {ops : Array Oper} {dr : Bool} {cs : List Code} {R : AX → St → Prop} {i : Nat} {tm : List (Nat × AV)} {bo : BO} {nx : Nat} {ns : List Note}
theorem W.consA {a : Oper} {l b : List Oper} (h : W P lend N ops dr cs R i (a :: l.append b) tm bo nx ns) : W P lend N ops dr cs R i ((a :: l).append b) tm bo nx ns := h
theorem W.nilA {b : List Oper} (h : W P lend N ops dr cs R i b tm bo nx ns) : W P lend N ops dr cs R i (List.append [] b) tm bo nx ns := h
end
theorem sv_eqIntD {P : Program} {t : TypeId} {k k' : IntKind} {a b : Int} (h : P.underlying t = some (.int k')) (d : Nat) : semVal P (Op.equalIn (d + 1) t (.int k a) (.int k b)) = some (a == b) := by
 simp only [Op.equalIn]
 rw [semVal_bind, semVal_underlying h]
 show semVal P (if k = k then pure (a == b) else _) = _
 rw [if_pos rfl]; rfl
theorem sv_eqStrD {P : Program} {t : TypeId} {a b : ByteArray} (h : P.underlying t = some .string) (d : Nat) : semVal P (Op.equalIn (d + 1) t (.string a) (.string b)) = some (a == b) := by
 simp only [Op.equalIn]
 rw [semVal_bind, semVal_underlying h]
 rfl
theorem bs_beq (a b : ByteArray) : (a == b) = decide (a = b) := by
 obtain ⟨a⟩ := a
 obtain ⟨b⟩ := b
 show (a == b) = _
 by_cases h : a = b
 ·subst h; simp
 ·rw [decide_eq_false (by simpa using h)]; simpa using h
theorem sv_Raw (a x : Int) (b y : ByteArray) (d : Nat) : semVal Tryz.prog (Op.equalIn (d + 2) 142 (.agg #[.int .i64 a, .string b]) (.agg #[.int .i64 x, .string y])) = some (decide (a = x ∧ b = y)) := by
 have h3 : Tryz.prog.underlying 3 = some (.int .i64) := by kernel_rfl
 have h4 : Tryz.prog.underlying 9 = some .string := by kernel_rfl
 rw [Op.equalIn]
 rw [semVal_bind, semVal_underlying Tryz.underlying142]
 simp only [Option.bind_some]
 have hp : semVal Tryz.prog program = some Tryz.prog := rfl
 have hst : Tryz.prog.stoodInHeld 142 = false := by kernel_rfl
 have p0 : ∀ x y : Value, semVal Tryz.prog (part 3 #[x, y] 0) = some x := fun x y => by rfl
 have p1 : ∀ x y : Value, semVal Tryz.prog (part 9 #[x, y] 1) = some y := fun x y => by rfl
 simp only [semVal_bind, hp, Option.bind_some, hst, Bool.false_eq_true, if_false, List.forIn_toArray, List.forIn_cons, List.forIn_nil]
 by_cases e1 : a = x
 ·by_cases e2 : b = y
  ·simp [semVal_bind, p0, p1, sv_eqIntD h3, sv_eqStrD h4, bs_beq, semVal_pure, e1, e2]
  ·simp [semVal_bind, p0, p1, sv_eqIntD h3, sv_eqStrD h4, bs_beq, semVal_pure, e1, e2]
 ·simp [semVal_bind, p0, p1, sv_eqIntD h3, sv_eqStrD h4, bs_beq, semVal_pure, e1]
theorem sv_neRaw (a x : Int) (b y : ByteArray) : semVal Tryz.prog (binOp .neq 142 (.agg #[.int .i64 a, .string b]) (.agg #[.int .i64 x, .string y])) = some (.bool (!decide (a = x ∧ b = y))) := by
 have : semVal Tryz.prog (Op.equal 142 (.agg #[.int .i64 a, .string b]) (.agg #[.int .i64 x, .string y])) = some (decide (a = x ∧ b = y)) := sv_Raw a x b y 9998
 simp only [binOp]
 rw [semVal_bind, this]
 rfl
theorem sv_guardRaw (x y : Operand) (u v : Array Value) : semVal Tryz.prog (eqGuard .neq 142 x y (.agg u) (.agg v)) = some () := by
 have hp : semVal Tryz.prog program = some Tryz.prog := rfl
 have hg : Tryz.prog.eqGuardType Tryz.prog.depth 142 = false := by kernel_rfl
 unfold eqGuard
 simp [semVal_bind, hp, hg]
 rfl
section
variable {lend : FuncId → Bool} {N : Nat} {ops : Array Oper} {dr : Bool} {cs : List Code} {R : AX → St → Prop} {i : Nat} {os : List Oper} {tm : List (Nat × AV)} {bo : BO} {nx : Nat} {ns : List Note} {d : Nat} {pos : String} {ty : TypeId} {af : Array Edge}
theorem W.neRaw {ty' : TypeId} {x y : Operand} {a a' : Int} {b b' : ByteArray} (hd : Nat.blt d N = true) (hx : ev (lk tm) x = some (.one true [.d (.v (.int .i64 a)), .d (.v (.string b))])) (hy : ev (lk tm) y = some (.one true [.d (.v (.int .i64 a')), .d (.v (.string b'))])) (h : W Tryz.prog lend N ops dr cs R (i + 1) os ((d, .one false [.d (.v (.bool (!decide (a = a' ∧ b = b'))))]) :: tm) bo nx (ns ++ [⟨opKeys (lk tm) (lko bo) ⟨some d, .binOp .neq 142 x y ty', ty, pos, af, none⟩, []⟩])) : W Tryz.prog lend N ops dr cs R i (⟨some d, .binOp .neq 142 x y ty', ty, pos, af, none⟩ :: os) tm bo nx ns :=
 W.plain hd (fun lt hlt => by
  have hx' := (hlt x (by simp [Op.operands])).trans hx
  have hy' := (hlt y (by simp [Op.operands])).trans hy
  have hc : ∀ (a : Int) (b : ByteArray) z, conV (.one true [.d (.v (.int .i64 a)), .d (.v (.string b))]) = z → z = some (.agg #[.int .i64 a, .string b]) := fun _ _ _ e => e.symm.trans rfl
  have hcv := fun a b => hc a b _ rfl
  unfold effPlain
  simp only [plainOp, Op.operands, List.all_cons, List.all_nil, hx', hy', Option.bind_some, hcv, Option.isSome_some, Bool.and_true, Bool.true_and, if_true]
  unfold execOp
  simp only [semVal_bind, hx', hy', Option.bind_some, hcv, Option.getD_some, sv_guardRaw, sv_neRaw, semVal_pure, Option.map_some, semVal_map]
  rfl) (fun _ _ _ _ _ _ _ h => orE_some h) h
end
theorem sv_Sym (a x : Int) (b y : ByteArray) (d : Nat) : semVal Tryz.prog (Op.equalIn (d + 2) 296 (.agg #[.int .i64 a, .string b]) (.agg #[.int .i64 x, .string y])) = some (decide (a = x ∧ b = y)) := by
 have h3 : Tryz.prog.underlying 3 = some (.int .i64) := by kernel_rfl
 have h4 : Tryz.prog.underlying 9 = some .string := by kernel_rfl
 rw [Op.equalIn]
 rw [semVal_bind, semVal_underlying Tryz.underlying296]
 simp only [Option.bind_some]
 have hp : semVal Tryz.prog program = some Tryz.prog := rfl
 have hst : Tryz.prog.stoodInHeld 296 = false := by kernel_rfl
 have p0 : ∀ x y : Value, semVal Tryz.prog (part 3 #[x, y] 0) = some x := fun x y => by rfl
 have p1 : ∀ x y : Value, semVal Tryz.prog (part 9 #[x, y] 1) = some y := fun x y => by rfl
 simp only [semVal_bind, hp, Option.bind_some, hst, Bool.false_eq_true, if_false, List.forIn_toArray, List.forIn_cons, List.forIn_nil]
 by_cases e1 : a = x
 ·by_cases e2 : b = y
  ·simp [semVal_bind, p0, p1, sv_eqIntD h3, sv_eqStrD h4, bs_beq, semVal_pure, e1, e2]
  ·simp [semVal_bind, p0, p1, sv_eqIntD h3, sv_eqStrD h4, bs_beq, semVal_pure, e1, e2]
 ·simp [semVal_bind, p0, p1, sv_eqIntD h3, sv_eqStrD h4, bs_beq, semVal_pure, e1]
theorem sv_neSym (a x : Int) (b y : ByteArray) : semVal Tryz.prog (binOp .neq 296 (.agg #[.int .i64 a, .string b]) (.agg #[.int .i64 x, .string y])) = some (.bool (!decide (a = x ∧ b = y))) := by
 have : semVal Tryz.prog (Op.equal 296 (.agg #[.int .i64 a, .string b]) (.agg #[.int .i64 x, .string y])) = some (decide (a = x ∧ b = y)) := sv_Sym a x b y 9998
 simp only [binOp]
 rw [semVal_bind, this]
 rfl
theorem sv_guardSym (x y : Operand) (u v : Array Value) : semVal Tryz.prog (eqGuard .neq 296 x y (.agg u) (.agg v)) = some () := by
 have hp : semVal Tryz.prog program = some Tryz.prog := rfl
 have hg : Tryz.prog.eqGuardType Tryz.prog.depth 296 = false := by kernel_rfl
 unfold eqGuard
 simp [semVal_bind, hp, hg]
 rfl
section
variable {lend : FuncId → Bool} {N : Nat} {ops : Array Oper} {dr : Bool} {cs : List Code} {R : AX → St → Prop} {i : Nat} {os : List Oper} {tm : List (Nat × AV)} {bo : BO} {nx : Nat} {ns : List Note} {d : Nat} {pos : String} {ty : TypeId} {af : Array Edge}
theorem W.neSym {ty' : TypeId} {x y : Operand} {a a' : Int} {b b' : ByteArray} (hd : Nat.blt d N = true) (hx : ev (lk tm) x = some (.one true [.d (.v (.int .i64 a)), .d (.v (.string b))])) (hy : ev (lk tm) y = some (.one true [.d (.v (.int .i64 a')), .d (.v (.string b'))])) (h : W Tryz.prog lend N ops dr cs R (i + 1) os ((d, .one false [.d (.v (.bool (!decide (a = a' ∧ b = b'))))]) :: tm) bo nx (ns ++ [⟨opKeys (lk tm) (lko bo) ⟨some d, .binOp .neq 296 x y ty', ty, pos, af, none⟩, []⟩])) : W Tryz.prog lend N ops dr cs R i (⟨some d, .binOp .neq 296 x y ty', ty, pos, af, none⟩ :: os) tm bo nx ns :=
 W.plain hd (fun lt hlt => by
  have hx' := (hlt x (by simp [Op.operands])).trans hx
  have hy' := (hlt y (by simp [Op.operands])).trans hy
  have hc : ∀ (a : Int) (b : ByteArray) z, conV (.one true [.d (.v (.int .i64 a)), .d (.v (.string b))]) = z → z = some (.agg #[.int .i64 a, .string b]) := fun _ _ _ e => e.symm.trans rfl
  have hcv := fun a b => hc a b _ rfl
  unfold effPlain
  simp only [plainOp, Op.operands, List.all_cons, List.all_nil, hx', hy', Option.bind_some, hcv, Option.isSome_some, Bool.and_true, Bool.true_and, if_true]
  unfold execOp
  simp only [semVal_bind, hx', hy', Option.bind_some, hcv, Option.getD_some, sv_guardSym, sv_neSym, semVal_pure, Option.map_some, semVal_map]
  rfl) (fun _ _ _ _ _ _ _ h => orE_some h) h
end
end Go.Proofs.YtjpdemikmdfonaaGreatDoor

namespace Go.Proofs.YtjpdemikmdfonaaGreatDoor
open Go Go.RowKit
set_option maxRecDepth 100000
set_option maxHeartbeats 8000000
set_option linter.unusedSimpArgs false
set_option linter.unusedVariables false
theorem symAt_none {l : List SymD} {id : Int} (h : ∀ i, i < l.length → ¬ (l.getD i nilSy).id = id) : symAt l id = none := by
 unfold symAt
 rw [List.findIdx?_eq_none_iff]
 intro x hx
 obtain ⟨i, hi, rfl⟩ := List.getElem_of_mem hx
 have := h i hi
 simpa [List.getD, hi] using this
theorem symAt_some {l : List SymD} {id : Int} {k : Nat} (hk : k < l.length) (h : ∀ i, i < k → ¬ (l.getD i nilSy).id = id) (he : (l.getD k nilSy).id = id) : symAt l id = some k := by
 unfold symAt
 rw [List.findIdx?_eq_some_iff_getElem]
 refine ⟨hk, by simpa [List.getD, hk] using he, fun i hi => ?_⟩
 have := h i hi
 simpa [List.getD, Nat.lt_trans hi hk] using this
theorem sym_next {l : List SymD} {id : Int} {k : Nat} (h : ∀ i, i < k → ¬ (l.getD i nilSy).id = id) (hc : ¬ (l.getD k nilSy).id = id) : ∀ i, i < k + 1 → ¬ (l.getD i nilSy).id = id := fun i hi => by
 rcases Nat.lt_or_ge i k with g | g
 ·exact h i g
 ·obtain rfl : i = k := by omega
  exact hc
theorem rsymbol_fn (t : TypD) (id : Int) (hm : t.syms.length ≤ 5900000000000) : FnSound Tryz.prog 303 [.val true (typC t), .val false [.d (.v (.int .i64 id))]] [] { vals := [(false, [.d (.v (.int .i64 (((symAt t.syms id).getD 0 : Nat) : Int)))]), (false, [.d (.v (.bool (symAt t.syms id).isSome))])] } := by
 refine startW (tm := [(0, _), (1, _)]) Tryz.func303 rfl Tryz.ntmps303 rfl rfl rfl rfl ?_
 repeat' (first
 |(with_reducible refine rgn 4 400 ?_ ?_); exact rfl
 |(with_reducible refine rgn 5 500 ?_ ?_); exact rfl
 |(with_reducible refine rgn 3 600 ?_ ?_); exact rfl
 |(with_reducible refine blk_at (id := 0) ?_); ((with_reducible refine JL.loopW 0 299 (fun (k : Nat) tm => (6, .one false [.d (.v (.int .i64 ((k : Int))))]) :: tm) (fun (k : Nat) bo => bo) (fun (k : Nat) => k ≤ t.syms.length ∧ ∀ i, i < k → ¬ (t.syms.getD i nilSy).id = id) (fun (k : Nat) => t.syms.length - k) (0) ?_ (fun k hk => ?_) ?_); (focus (apply SubW [] rfl ?_ ?_ rfl ?_; (repeat' (first | exact kA | refine kB ?_ | refine kC ?_ ?_ | exact kD | fail)))))
 |((with_reducible refine round_next (i := k) (k + 1) ?_ ?_ ?_); (focus (apply SubW [] rfl ?_ ?_ rfl ?_; (repeat' (first | exact kA | refine kB ?_ | refine kC ?_ ?_ | exact kD | fail)))))
 |refine wA ?_
 |(refine wC ?_ ?_ <;> intro hc)
 |refine wB ?_ ?_
 |(with_reducible refine JL.block ?_)
 |(with_reducible refine F_at ?_); refine eW (vs := [(_, _), (_, _)]) Tryz.results303 ?_; (focus (repeat' (first | exact oA | refine oB ?_ | refine oC ?_ ?_ | fail)))
 |exact oM
 |fail)
 all_goals first
  | rfl
  | omega
  | exact ⟨Nat.zero_le _, fun i hi => absurd hi (Nat.not_lt_zero i)⟩
  | exact ⟨by omega, sym_next hk.2 hc⟩
  | (rw [symAt_some (by omega) hk.2 hc]; rfl)
  | (rw [symAt_none (fun i hi => hk.2 i (by omega))]; rfl)
  | trace_state
mutual
def smV : ValD → Prop
 | .mk _ _ n _ _ ks is rs => (ks.length ≤ 5900000000000 ∧ is.length ≤ 5900000000000 ∧ rs.length ≤ 5900000000000 ∧ -9223372036854775808 ≤ n ∧ n ≤ 9223372036854775807) ∧ smVs ks ∧ smVs is
def smVs : List ValD → Prop
 | [] => True
 | v :: r => smV v ∧ smVs r
end
theorem samevals_refl (l : List ValD) (hl : l.length ≤ 5900000000000) (ih : ∀ k, k < l.length → FnSound Tryz.prog 272 [.val true (valC (l.getD k nilV)), .val true (valC (l.getD k nilV))] [] { vals := [(false, [.d (.v (.bool true))])] }) :
    FnSound Tryz.prog 309 [.val false [.d (.sl 8 (dVals l))], .val false [.d (.sl 8 (dVals l))]] [] { vals := [(false, [.d (.v (.bool true))])] } := by
 refine startW (tm := [(0, _), (1, _)]) Tryz.func309 rfl Tryz.ntmps309 rfl rfl rfl rfl ?_
 repeat' (first
 |(with_reducible refine rgn 6 600 ?_ ?_); exact rfl
 |(with_reducible refine rgn 7 700 ?_ ?_); exact rfl
 |(with_reducible refine rgn 5 800 ?_ ?_); exact rfl
 |(with_reducible refine K_ca 272 ?_); (first
 |refine W.call0A rfl BoC.h (ih _ (by omega)) rfl rfl rfl ?_
 |refine W.call1A rfl BoC.h (ih _ (by omega)) rfl rfl rfl rfl rfl ?_)
 |(with_reducible refine blk_at (id := 0) ?_); ((with_reducible refine JL.loopW 0 499 (fun (k : Nat) tm => (5, .one false [.d (.v (.int .i64 ((k : Int))))]) :: tm) (fun (k : Nat) bo => bo) (fun (k : Nat) => k ≤ l.length) (fun (k : Nat) => l.length - k) (0) ?_ (fun k hk => ?_) ?_); (focus (apply SubW [] rfl ?_ ?_ rfl ?_; (repeat' (first | exact kA | refine kB ?_ | refine kC ?_ ?_ | exact kD | fail)))))
 |((with_reducible refine round_next (i := k) (k + 1) ?_ ?_ ?_); (focus (apply SubW [] rfl ?_ ?_ rfl ?_; (repeat' (first | exact kA | refine kB ?_ | refine kC ?_ ?_ | exact kD | fail)))))
 |refine wA ?_
 |(refine wC ?_ ?_ <;> intro hc)
 |refine wB ?_ ?_
 |(with_reducible refine JL.block ?_)
 |(with_reducible refine F_at ?_); refine eW (vs := [(_, _)]) Tryz.results309 ?_; (focus (repeat' (first | exact oA | refine oB ?_ | refine oC ?_ ?_ | fail)))
 |exact oM
 |fail)
 all_goals first | rfl | omega | (exfalso; exact absurd rfl ‹_›) | (exfalso; simp at hc; done) | trace_state
theorem sameval_refl (v : ValD) (hr : v.rest.length ≤ 5900000000000) (c1 : FnSound Tryz.prog 309 [.val false [.d (.sl 8 (dVals v.keys))], .val false [.d (.sl 8 (dVals v.keys))]] [] { vals := [(false, [.d (.v (.bool true))])] })
    (c2 : FnSound Tryz.prog 309 [.val false [.d (.sl 8 (dVals v.items))], .val false [.d (.sl 8 (dVals v.items))]] [] { vals := [(false, [.d (.v (.bool true))])] }) :
    FnSound Tryz.prog 272 [.val true (valC v), .val true (valC v)] [] { vals := [(false, [.d (.v (.bool true))])] } := by
 refine startW (tm := [(0, _), (1, _)]) Tryz.func272 rfl Tryz.ntmps272 rfl rfl rfl rfl ?_
 repeat' (first
 |(with_reducible refine rgn 6 600 ?_ ?_); exact rfl
 |(with_reducible refine rgn 7 700 ?_ ?_); exact rfl
 |(with_reducible refine rgn 5 800 ?_ ?_); exact rfl
 |(with_reducible refine K_ca 309 ?_); (first
 |refine zC (c1) ?_
 |refine zC (c2) ?_)
 |(with_reducible refine W_at ?_); (first
 |(refine W.neRaw rfl rfl rfl ?_))
 |(with_reducible refine blk_at (id := 0) ?_); ((with_reducible refine JL.loopW 0 499 (fun (k : Nat) tm => (5, .one false [.d (.v (.int .i64 ((k : Int))))]) :: tm) (fun (k : Nat) bo => bo) (fun (k : Nat) => k ≤ v.rest.length) (fun (k : Nat) => v.rest.length - k) (0) ?_ (fun k hk => ?_) ?_); (focus (apply SubW [] rfl ?_ ?_ rfl ?_; (repeat' (first | exact kA | refine kB ?_ | refine kC ?_ ?_ | exact kD | fail)))))
 |((with_reducible refine round_next (i := k) (k + 1) ?_ ?_ ?_); (focus (apply SubW [] rfl ?_ ?_ rfl ?_; (repeat' (first | exact kA | refine kB ?_ | refine kC ?_ ?_ | exact kD | fail)))))
 |refine wA ?_
 |(refine wC ?_ ?_ <;> intro hc)
 |refine wB ?_ ?_
 |(with_reducible refine JL.block ?_)
 |(with_reducible refine F_at ?_); refine eW (vs := [(_, _)]) Tryz.results272 ?_; (focus (repeat' (first | exact oA | refine oB ?_ | refine oC ?_ ?_ | fail)))
 |exact oM
 |fail)
 all_goals first | rfl | omega | (exfalso; exact absurd rfl ‹_›) | (exfalso; simp at hc; done) | trace_state
theorem getD_eq {α : Type} {l : List α} {k : Nat} {d : α} (h : k < l.length) : l[k]? = some (l.getD k d) := by
 simp [List.getD, h]
mutual
theorem same_self : ∀ v : ValD, smV v → FnSound Tryz.prog 272 [.val true (valC v), .val true (valC v)] [] { vals := [(false, [.d (.v (.bool true))])] }
 | .mk k b n s i ks is rs, h => by
  unfold smV at h
  exact sameval_refl (.mk k b n s i ks is rs) h.1.2.2.1 (samevals_refl ks h.1.1 (fun j hj => same_all ks h.2.1 j _ (getD_eq hj))) (samevals_refl is h.1.2.1 (fun j hj => same_all is h.2.2 j _ (getD_eq hj)))
theorem same_all : ∀ l : List ValD, smVs l → ∀ (j : Nat) (v : ValD), l[j]? = some v → FnSound Tryz.prog 272 [.val true (valC v), .val true (valC v)] [] { vals := [(false, [.d (.v (.bool true))])] }
 | [], _, j, v, hv => by simp at hv
 | x :: r, h, j, v, hv => by
  unfold smVs at h
  match j with
  | 0 => simp at hv; subst hv; exact same_self x h.1
  | j + 1 => exact same_all r h.2 j v (by simpa using hv)
end
end Go.Proofs.YtjpdemikmdfonaaGreatDoor

namespace Go.Proofs.YtjpdemikmdfonaaGreatDoor
open Go Go.RowKit
set_option maxRecDepth 100000
set_option maxHeartbeats 8000000
set_option linter.unusedSimpArgs false
set_option linter.unusedVariables false
def memC (x : MemD) : List C := [.d (.v (.int .i64 x.id)), .d (.v (.string x.name)), .d (.v (.int .i64 x.typ)), .d (.v (.bool x.crit)), .d (.v (.bool x.has)), .d (.v (.int .i64 x.dflt.kind)), .d (.v (.bool x.dflt.b)), .d (.v (.int .i64 x.dflt.n)), .d (.v (.string x.dflt.s)), .d (.v (.int .i64 x.dflt.id)), .d (.sl 8 (dVals x.dflt.keys)), .d (.sl 8 (dVals x.dflt.items)), .d (.sl 2 (dRaws x.dflt.rest))]
theorem samemem_fn (m : MemD) (h : smV m.dflt) : FnSound Tryz.prog 270 [.val true (memC m), .val true (memC m)] [] { vals := [(false, [.d (.v (.bool true))])] } := by
 have c1 := same_self m.dflt h
 refine startW (tm := [(0, _), (1, _)]) Tryz.func270 rfl Tryz.ntmps270 rfl rfl rfl rfl ?_
 repeat' (first
 |(with_reducible refine K_ca 272 ?_); refine zC (c1) ?_
 |refine wA ?_
 |(refine wC ?_ ?_ <;> intro hc)
 |refine wB ?_ ?_
 |(with_reducible refine JL.block ?_)
 |(with_reducible refine F_at ?_); refine eW (vs := [(_, _)]) Tryz.results270 ?_; (focus (repeat' (first | exact oA | refine oB ?_ | refine oC ?_ ?_ | fail)))
 |exact oM
 |fail)
 all_goals first | rfl | (exfalso; exact ‹¬ _› rfl) | (exfalso; simp at hc; done) | trace_state
abbrev sclT (t u : TypD) : Prop := t.kind = u.kind ∧ t.name = u.name ∧ t.low = u.low ∧ t.high = u.high ∧ t.max = u.max ∧ t.key = u.key ∧ t.elem = u.elem ∧ t.opn = u.opn
theorem sametype_same (t u : TypD) (hs : u.syms = t.syms) (hm : u.mems = t.mems) (hl : t.syms.length ≤ 5900000000000 ∧ t.mems.length ≤ 5900000000000) (hv : ∀ k, k < t.mems.length → smV (t.mems.getD k nilM0).dflt) : FnSound Tryz.prog 209 [.val true (typC t), .val true (typC u)] [] { vals := [(false, [.d (.v (.bool (decide (sclT t u))))])] } := by
 obtain ⟨k0, n0, l0, g0, x0, s0, m0, y0, e0, o0⟩ := u
 subst hs hm
 refine startW (tm := [(0, _), (1, _)]) Tryz.func209 rfl Tryz.ntmps209 rfl rfl rfl rfl ?_
 repeat' (first
 |(with_reducible refine rgn 6 600 ?_ ?_); exact rfl
 |(with_reducible refine rgn 7 700 ?_ ?_); exact rfl
 |(with_reducible refine rgn 5 800 ?_ ?_); exact rfl
 |(with_reducible refine rgn 11 1100 ?_ ?_); exact rfl
 |(with_reducible refine rgn 12 1200 ?_ ?_); exact rfl
 |(with_reducible refine rgn 10 1300 ?_ ?_); exact rfl
 |(with_reducible refine K_ca 270 ?_); (first
 |refine W.call0A rfl BoC.h (samemem_fn _ (hv _ (by omega))) rfl rfl rfl ?_
 |refine W.call1A rfl BoC.h (samemem_fn _ (hv _ (by omega))) rfl rfl rfl rfl rfl ?_)
 |(with_reducible refine W_at ?_); (first
 |(refine W.neSym rfl rfl rfl ?_)
 |(with_reducible refine W.consA ?_)
 |(with_reducible refine W.nilA ?_))
 |(with_reducible refine blk_at (id := 0) ?_); ((with_reducible refine JL.loopW 0 499 (fun (i : Nat) tm => (5, .one false [.d (.v (.int .i64 ((i : Int))))]) :: tm) (fun (i : Nat) bo => bo) (fun (i : Nat) => i ≤ t.syms.length ∧ sclT t ⟨k0, n0, l0, g0, x0, t.syms, t.mems, y0, e0, o0⟩) (fun (i : Nat) => t.syms.length - i) (0) ?_ (fun i hi => ?_) ?_); (focus (apply SubW [] rfl ?_ ?_ rfl ?_; (repeat' (first | exact kA | refine kB ?_ | refine kC ?_ ?_ | exact kD | fail)))))
 |((with_reducible refine round_next (i := i) (i + 1) ?_ ?_ ?_); (focus (apply SubW [] rfl ?_ ?_ rfl ?_; (repeat' (first | exact kA | refine kB ?_ | refine kC ?_ ?_ | exact kD | fail)))))
 |(with_reducible refine blk_at (id := 2) ?_); ((with_reducible refine JL.loopW 2 999 (fun (j : Nat) tm => (6, .one false [.d (.v (.int .i64 ((j : Int))))]) :: tm) (fun (j : Nat) bo => bo) (fun (j : Nat) => j ≤ t.mems.length ∧ sclT t ⟨k0, n0, l0, g0, x0, t.syms, t.mems, y0, e0, o0⟩) (fun (j : Nat) => t.mems.length - j) (0) ?_ (fun j hj => ?_) ?_); (focus (apply SubW [] rfl ?_ ?_ rfl ?_; (repeat' (first | exact kA | refine kB ?_ | refine kC ?_ ?_ | exact kD | fail)))))
 |((with_reducible refine round_next (i := j) (j + 1) ?_ ?_ ?_); (focus (apply SubW [] rfl ?_ ?_ rfl ?_; (repeat' (first | exact kA | refine kB ?_ | refine kC ?_ ?_ | exact kD | fail)))))
 |refine wA ?_
 |(refine wC ?_ ?_ <;> intro hc)
 |refine wB ?_ ?_
 |(with_reducible refine JL.block ?_)
 |(with_reducible refine F_at ?_); refine eW (vs := [(_, _)]) Tryz.results209 ?_; (focus (repeat' (first | exact oA | refine oB ?_ | refine oC ?_ ?_ | fail)))
 |exact oM
 |fail)
 all_goals first
  | rfl
  | omega
  | (exfalso; exact ‹¬ _› rfl)
  | (refine (decide_eq_false ?_).symm; intro h; exact hc h.1)
  | (refine (decide_eq_false ?_).symm; intro h; exact hc h.2.1)
  | (refine (decide_eq_false ?_).symm; intro h; exact hc h.2.2.1)
  | (refine (decide_eq_false ?_).symm; intro h; exact hc h.2.2.2.1)
  | (refine (decide_eq_false ?_).symm; intro h; exact hc h.2.2.2.2.1)
  | (refine (decide_eq_false ?_).symm; intro h; exact hc h.2.2.2.2.2.1)
  | (refine (decide_eq_false ?_).symm; intro h; exact hc h.2.2.2.2.2.2.1)
  | (refine (decide_eq_false ?_).symm; intro h; have h8 := h.2.2.2.2.2.2.2; simp_all; done)
  | exact ⟨by omega, hi.2⟩
  | exact ⟨by omega, hj.2⟩
  | exact ⟨Nat.zero_le _, hi.2⟩
  | exact (decide_eq_true hj.2).symm
  | exact ⟨Nat.zero_le _, ‹_›, ‹_›, ‹_›, ‹_›, ‹_›, ‹_›, ‹_›, by simp_all⟩
  | (exfalso; simp at hc; done)
  | trace_state
end Go.Proofs.YtjpdemikmdfonaaGreatDoor

namespace Go.Proofs.YtjpdemikmdfonaaGreatDoor
open Go Go.RowKit
set_option maxRecDepth 100000
set_option maxHeartbeats 8000000
set_option linter.unusedSimpArgs false
set_option linter.unusedVariables false
def plainT (t : TypD) : TypD :=
 ⟨t.kind, if t.kind = 4 ∨ t.kind = 5 ∨ t.kind = 6 then t.name else ByteArray.empty, if t.kind = 2 then t.low else 0, if t.kind = 2 then t.high else 0, if t.kind = 3 ∨ t.kind = 7 ∨ t.kind = 8 then t.max else 0, if t.kind = 4 then t.syms else [], if t.kind = 5 ∨ t.kind = 6 then t.mems else [], if t.kind = 8 then t.key else 0, if t.kind = 1 ∨ t.kind = 2 ∨ t.kind = 3 ∨ t.kind = 4 ∨ t.kind = 5 ∨ t.kind = 6 then 0 else t.elem, if t.kind = 4 ∨ t.kind = 6 then t.opn else false⟩
theorem rplain_fn (t : TypD) : FnSound Tryz.prog 210 [.val true (typC t)] [] { vals := [(true, typC (plainT t))] } := by
 refine startW (tm := [(0, _)]) Tryz.func210 rfl Tryz.ntmps210 rfl rfl rfl rfl ?_
 repeat' (first
 |refine wA ?_
 |(refine wC ?_ ?_ <;> intro hc)
 |refine wB ?_ ?_
 |(with_reducible refine JL.block ?_)
 |(with_reducible refine F_at ?_); refine eW (vs := [(_, _)]) Tryz.results210 ?_; (focus (repeat' (first | exact oA | refine oB ?_ | refine oC ?_ ?_ | fail)))
 |exact oM
 |fail)
 all_goals first | rfl | (simp [plainT, dSyms, dMems, *]; done) | (unfold plainT; simp [*]; done) | trace_state
theorem sametype_diff (t u : TypD) (hd : ¬ (t.syms.length = u.syms.length ∧ t.mems.length = u.mems.length)) : FnSound Tryz.prog 209 [.val true (typC t), .val true (typC u)] [] { vals := [(false, [.d (.v (.bool false))])] } := by
 refine startW (tm := [(0, _), (1, _)]) Tryz.func209 rfl Tryz.ntmps209 rfl rfl rfl rfl ?_
 repeat' (first
 |(with_reducible refine rgn 6 600 ?_ ?_); exact rfl
 |(with_reducible refine rgn 7 700 ?_ ?_); exact rfl
 |(with_reducible refine rgn 5 800 ?_ ?_); exact rfl
 |(with_reducible refine rgn 11 1100 ?_ ?_); exact rfl
 |(with_reducible refine rgn 12 1200 ?_ ?_); exact rfl
 |(with_reducible refine rgn 10 1300 ?_ ?_); exact rfl
 |(with_reducible refine K_ca 270 ?_); (first
 |refine W.call0A rfl BoC.h (samemem_fn _ (hd.elim (by omega))) rfl rfl rfl ?_
 |refine W.call1A rfl BoC.h (samemem_fn _ (hd.elim (by omega))) rfl rfl rfl rfl rfl ?_)
 |(with_reducible refine W_at ?_); (first
 |(refine W.neSym rfl rfl rfl ?_)
 |(with_reducible refine W.consA ?_)
 |(with_reducible refine W.nilA ?_))
 |(with_reducible refine blk_at (id := 0) ?_); ((with_reducible refine JL.loopW 0 499 (fun (i : Nat) tm => (5, .one false [.d (.v (.int .i64 ((i : Int))))]) :: tm) (fun (i : Nat) bo => bo) (fun (i : Nat) => False) (fun (i : Nat) => t.syms.length - i) (0) ?_ (fun i hi => ?_) ?_); (focus (apply SubW [] rfl ?_ ?_ rfl ?_; (repeat' (first | exact kA | refine kB ?_ | refine kC ?_ ?_ | exact kD | fail)))))
 |((with_reducible refine round_next (i := i) (i + 1) ?_ ?_ ?_); (focus (apply SubW [] rfl ?_ ?_ rfl ?_; (repeat' (first | exact kA | refine kB ?_ | refine kC ?_ ?_ | exact kD | fail)))))
 |(with_reducible refine blk_at (id := 2) ?_); ((with_reducible refine JL.loopW 2 999 (fun (j : Nat) tm => (6, .one false [.d (.v (.int .i64 ((j : Int))))]) :: tm) (fun (j : Nat) bo => bo) (fun (j : Nat) => False) (fun (j : Nat) => t.mems.length - j) (0) ?_ (fun j hj => ?_) ?_); (focus (apply SubW [] rfl ?_ ?_ rfl ?_; (repeat' (first | exact kA | refine kB ?_ | refine kC ?_ ?_ | exact kD | fail)))))
 |((with_reducible refine round_next (i := j) (j + 1) ?_ ?_ ?_); (focus (apply SubW [] rfl ?_ ?_ rfl ?_; (repeat' (first | exact kA | refine kB ?_ | refine kC ?_ ?_ | exact kD | fail)))))
 |refine wA ?_
 |(refine wC ?_ ?_ <;> intro hc)
 |refine wB ?_ ?_
 |(with_reducible refine JL.block ?_)
 |(with_reducible refine F_at ?_); refine eW (vs := [(_, _)]) Tryz.results209 ?_; (focus (repeat' (first | exact oA | refine oB ?_ | refine oC ?_ ?_ | fail)))
 |exact oM
 |fail)
 all_goals first | rfl | exact hi.elim | exact hj.elim | (exfalso; omega) | trace_state
theorem sameplain_fn (t : TypD) (hk : 1 ≤ t.kind ∧ t.kind ≤ 9) (hl : t.syms.length ≤ 5900000000000 ∧ t.mems.length ≤ 5900000000000) (hv : ∀ k, k < t.mems.length → smV (t.mems.getD k nilM0).dflt) : FnSound Tryz.prog 209 [.val true (typC t), .val true (typC (plainT t))] [] { vals := [(false, [.d (.v (.bool (onlyP t)))])] } := by
 by_cases h : t.syms.length = (plainT t).syms.length ∧ t.mems.length = (plainT t).mems.length
 ·have e1 : (plainT t).syms = t.syms := by
    unfold plainT at h ⊢
    dsimp only at h ⊢
    split
    ·rfl
    ·rename_i h4
     rw [if_neg h4] at h
     exact (List.length_eq_zero_iff.1 h.1).symm
  have e2 : (plainT t).mems = t.mems := by
   unfold plainT at h ⊢
   dsimp only at h ⊢
   split
   ·rfl
   ·rename_i h4
    rw [if_neg h4] at h
    exact (List.length_eq_zero_iff.1 h.2).symm
  have h3 := sametype_same t (plainT t) e1 e2 hl hv
  have e3 : decide (sclT t (plainT t)) = onlyP t := by
   have hs : t.kind = 4 ∨ t.syms = [] := by
    by_cases k4 : t.kind = 4
    ·exact .inl k4
    ·refine .inr ?_
     rw [← e1]; unfold plainT; dsimp only; rw [if_neg k4]
   have hm : (t.kind = 5 ∨ t.kind = 6) ∨ t.mems = [] := by
    by_cases k4 : t.kind = 5 ∨ t.kind = 6
    ·exact .inl k4
    ·refine .inr ?_
     rw [← e2]; unfold plainT; dsimp only; rw [if_neg k4]
   rw [Bool.eq_iff_iff, decide_eq_true_eq]
   simp only [onlyP, sclT, plainT, Bool.and_eq_true, Bool.or_eq_true, decide_eq_true_eq, List.isEmpty_iff, Bool.not_eq_true']
   clear h h3 e1 e2 hl hv
   constructor
   ·rintro ⟨-, h1, h2, h3, h4, h5, h6, h7⟩
    refine ⟨⟨⟨⟨⟨⟨⟨?_, ?_⟩, ?_⟩, hs⟩, hm⟩, ?_⟩, ?_⟩, ?_⟩
    ·grind
    ·grind
    ·grind
    ·grind
    ·grind
    ·grind
   ·rintro ⟨⟨⟨⟨⟨⟨⟨h1, h2⟩, h3⟩, _⟩, _⟩, h6⟩, h7⟩, h8⟩
    refine ⟨trivial, ?_, ?_, ?_, ?_, ?_, ?_, ?_⟩
    ·grind
    ·grind
    ·grind
    ·grind
    ·grind
    ·grind
    ·grind
  rw [e3] at h3
  exact h3
 ·have h3 := sametype_diff t (plainT t) h
  have e3 : onlyP t = false := by
   cases hb : onlyP t with
   | false => rfl
   | true =>
    exfalso
    simp only [onlyP, Bool.and_eq_true, Bool.or_eq_true, decide_eq_true_eq, List.isEmpty_iff, Bool.not_eq_true'] at hb
    obtain ⟨⟨⟨⟨⟨⟨⟨_, _⟩, _⟩, hs⟩, hm⟩, _⟩, _⟩, _⟩ := hb
    apply h
    unfold plainT
    dsimp only
    refine ⟨?_, ?_⟩
    ·rcases hs with e | e
     ·rw [if_pos e]
     ·rw [e]; split <;> rfl
    ·rcases hm with e | e
     ·rw [if_pos e]
     ·rw [e]; split <;> rfl
  rw [e3]
  exact h3
end Go.Proofs.YtjpdemikmdfonaaGreatDoor

