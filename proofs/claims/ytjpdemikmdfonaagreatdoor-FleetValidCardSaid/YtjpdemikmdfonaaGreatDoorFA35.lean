/- Rules of runs and contracts of functions, for the claims of one seat. -/
import Derived.Test.YtjpdemikmdfonaaGreatDoorFA15
import Derived.Test.YtjpdemikmdfonaaGreatDoorFA19
import Derived.Test.YtjpdemikmdfonaaGreatDoorFA22
import Derived.Test.YtjpdemikmdfonaaGreatDoorFA26
import Derived.Test.YtjpdemikmdfonaaGreatDoorFA32
import Derived.Test.YtjpdemikmdfonaaGreatDoorFA34
namespace Go.Proofs.YtjpdemikmdfonaaGreatDoor
open Go Go.RowKit
set_option maxRecDepth 100000
set_option maxHeartbeats 8000000
set_option linter.unusedSimpArgs false
set_option linter.unusedVariables false
section
variable {P : Program} {cells : Key → List C} {ty T : TypeId} {sz : Nat} {rows : List (List D)}
theorem resV_ren (hc : ∀ f q, (cells q).map (renC f) = cells (f q)) {V X : Nat → Prop} {Z : Key → Hd} {w w' : World} {a : Act} {ρ : Key → Hd} {cs0 : List C} {rest : List Arg} {d : D} (hr : rest.all (fun a => !isIo a) = true) (q : Key) (hq : (q != (0, 0)) = true)
    (h : Rel V X Z w 1 ρ (fun _ => True) (ltOne (resAV id [(false, [.d d])])) (lk (ioBx 0 (.io T cs0 :: rest) [cells q] ++ [(q, .sl ty sz rows)])) a w') : Rel V X Z w 1 (fun k => ρ (renF [((0, 1), q)] k)) (fun _ => True) (ltOne (resAV id [(false, [.d d])])) (lk (ioBx 0 (.io T cs0 :: rest) [cells (0, 1)] ++ [((0, 1), .sl ty sz rows)])) a w' := by
 have hio : ∀ (x : List C) (i : Nat) (l : List Arg), l.all (fun a => !isIo a) = true → ioBx i l [] = [] := by
  intro x i l
  induction l generalizing i with
  | nil => intro _; rfl
  | cons y r ih =>
   intro hl
   simp only [List.all_cons, Bool.and_eq_true] at hl
   cases y with
   | val b cs => exact ih (i + 1) hl.2
   | io t cs => exact absurd hl.1 (by simp [isIo])
 have e : ∀ x : List C, ioBx 0 (.io T cs0 :: rest) [x] = [((0, 0), .st T x)] := fun x => by
  show ((0, 0), Box.st T x) :: ioBx 1 rest [] = _
  rw [hio x 1 rest hr]
 rw [e] at h ⊢
 have hq' : q ≠ (0, 0) := by simpa using hq
 have r1 : renF [((0, 1), q)] (0, 1) = q := rfl
 have r0 : renF [((0, 1), q)] (0, 0) = (0, 0) := rfl
 refine Rel.names [((0, 1), q)] rfl (fun _ _ => trivial) (fun t av ht => ?_) (fun k box hk' => ?_) (fun k k' b b' e1 e2 e3 => ?_) h
 ·unfold ltOne at ht ⊢
  split at ht
  ·rename_i e0
   cases ht
   exact ⟨by simp [resAV, renAV, renC]; exact e0, fun _ _ => trivial⟩
  ·cases ht
 ·simp only [List.cons_append, List.nil_append] at hk' ⊢
  unfold lk at hk'
  split at hk'
  ·rename_i e1
   cases hk'
   subst e1
   refine ⟨?_, trivial, fun _ _ => trivial⟩
   rw [r0]
   show (if (0, 0) = (0, 0) then _ else _) = _
   rw [if_pos rfl]
   show some (Box.st T (cells q)) = some (Box.st T ((cells (0, 1)).map (renC (renF [((0, 1), q)]))))
   rw [hc, r1]
  ·unfold lk at hk'
   split at hk'
   ·rename_i e1
    cases hk'
    subst e1
    refine ⟨?_, trivial, fun _ _ => trivial⟩
    rw [r1]
    show (if q = (0, 0) then _ else if q = q then _ else _) = _
    rw [if_neg hq', if_pos rfl]
    rfl
   ·cases hk'
 ·have two : ∀ k b, lk ([((0, 0), Box.st T (cells (0, 1)))] ++ [((0, 1), Box.sl ty sz rows)]) k = some b → k = (0, 0) ∨ k = (0, 1) := by
    intro k b hk'
    simp only [List.cons_append, List.nil_append] at hk'
    unfold lk at hk'
    split at hk'
    ·rename_i e1; exact .inl e1
    ·unfold lk at hk'
     split at hk'
     ·rename_i e1; exact .inr e1
     ·cases hk'
  rcases two k b e1 with rfl | rfl <;> rcases two k' b' e2 with rfl | rfl
  ·rfl
  ·rw [r0, r1] at e3; exact absurd e3.symm hq'
  ·rw [r0, r1] at e3; exact absurd e3 hq'
  ·rfl
theorem resV_fn (hc : ∀ f q, (cells q).map (renC f) = cells (f q)) {f : FuncId} {cs0 : List C} {rest : List Arg} {bxs : List (Key × Box)} {d : D} (hr : rest.all (fun a => !isIo a) = true) (q : Key) (hq : (q != (0, 0)) = true)
    (h : FnSound P f (.io T cs0 :: rest) bxs { vals := [(false, [.d d])], ios := [cells q], bx := [(q, .sl ty sz rows)] }) : FnSound P f (.io T cs0 :: rest) bxs { vals := [(false, [.d d])], ios := [cells (0, 1)], bx := [((0, 1), .sl ty sz rows)] } := by
 intro V X Z ρ w vals hl hR
 refine (h V X Z ρ w vals hl hR).mono ?_
 rintro e w' ⟨v, ρ', rfl, hR'⟩
 exact ⟨v, _, rfl, resV_ren hc hr q hq hR'⟩
end
def strI (l : List ByteArray) (s : ByteArray) : Int := match l.findIdx? (fun x => decide (s = x)) with
 | some k => (k : Int)
 | none => -1
theorem strI_some {l : List ByteArray} {s : ByteArray} {k : Nat} (hk : k < l.length) (h : ∀ i, i < k → ¬ s = l.getD i ByteArray.empty) (he : s = l.getD k ByteArray.empty) : (k : Int) = strI l s := by
 unfold strI
 have : l.findIdx? (fun x => decide (s = x)) = some k := by
  rw [List.findIdx?_eq_some_iff_getElem]
  refine ⟨hk, ?_, fun j hj => ?_⟩
  ·rw [List.getD_eq_getElem?_getD, List.getElem?_eq_getElem hk] at he
   exact decide_eq_true he
  ·have := h j hj
   rw [List.getD_eq_getElem?_getD, List.getElem?_eq_getElem (by omega)] at this
   simpa using this
 rw [this]
theorem strI_none {l : List ByteArray} {s : ByteArray} (h : ∀ i, i < l.length → ¬ s = l.getD i ByteArray.empty) : -1 = strI l s := by
 unfold strI
 have : l.findIdx? (fun x => decide (s = x)) = none := by
  rw [List.findIdx?_eq_none_iff]
  intro x hx
  obtain ⟨i, hi, rfl⟩ := List.getElem_of_mem hx
  have := h i hi
  rw [List.getD_eq_getElem?_getD, List.getElem?_eq_getElem hi] at this
  simpa using this
 rw [this]
def hasN (l : List ByteArray) (s : ByteArray) : Bool := l.any fun x => decide (s = x)
theorem strI_mem {l : List ByteArray} {s : ByteArray} : decide (0 ≤ strI l s) = hasN l s := by
 unfold strI hasN
 cases e : l.findIdx? (fun x => decide (s = x)) with
 | none =>
  rw [List.findIdx?_eq_none_iff] at e
  rw [decide_eq_false (by simp)]
  exact (List.any_eq_false.2 fun x hx => by simpa using e x hx).symm
 | some k =>
  obtain ⟨h1, h2, _⟩ := List.findIdx?_eq_some_iff_getElem.1 e
  rw [decide_eq_true (by simp)]
  exact (List.any_eq_true.2 ⟨_, List.getElem_mem h1, h2⟩).symm
theorem pstrI_fn (l : List ByteArray) (s : ByteArray) (hl : l.length ≤ 5900000000000) : FnSound Tryz.prog 103 [.val false [.d (.sl 1 (dStrs l))], .val false [.d (.v (.string s))]] [] { vals := [(false, [.d (.v (.int .i64 (strI l s)))])] } := by
 refine startW (tm := [(0, _), (1, _)]) Tryz.func103 rfl Tryz.ntmps103 rfl rfl rfl rfl ?_
 repeat' (first
 |(with_reducible refine blk_at (id := 0) ?_); ((with_reducible refine JL.loopW 0 299 (fun (k : Nat) tm => (8, .one false [.d (.v (.int .i64 ((k : Int))))]) :: tm) (fun (k : Nat) bo => bo) (fun (k : Nat) => k ≤ l.length ∧ ∀ i, i < k → ¬ s = l.getD i ByteArray.empty) (fun (k : Nat) => l.length - k) (0) ?_ (fun k hk => ?_) ?_); (focus (apply SubW [] rfl ?_ ?_ rfl ?_; (repeat' (first | exact kA | refine kB ?_ | refine kC ?_ ?_ | exact kD | fail)))))
 |((with_reducible refine round_next (i := k) (k + 1) ?_ ?_ ?_); (focus (apply SubW [] rfl ?_ ?_ rfl ?_; (repeat' (first | exact kA | refine kB ?_ | refine kC ?_ ?_ | exact kD | fail)))))
 |refine wA ?_
 |(refine wC ?_ ?_ <;> intro hc)
 |refine wB ?_ ?_
 |(with_reducible refine JL.block ?_)
 |(with_reducible refine F_at ?_); refine eW (vs := [(_, _)]) Tryz.results103 ?_; (focus (repeat' (first | exact oA | refine oB ?_ | refine oC ?_ ?_ | fail)))
 |exact oM
 |fail)
 all_goals first
  | with_reducible rfl
  | omega
  | exact ⟨Nat.zero_le _, fun i hi => absurd hi (Nat.not_lt_zero i)⟩
  | exact ⟨by omega, lt_next hk.2 hc⟩
  | exact strI_some (by omega) hk.2 hc
  | exact strI_none (fun i hi => hk.2 i (by omega))
  | trace_state
theorem pstrC_fn (l : List ByteArray) (s : ByteArray) (hl : l.length ≤ 5900000000000) : FnSound Tryz.prog 77 [.val false [.d (.sl 1 (dStrs l))], .val false [.d (.v (.string s))]] [] { vals := [(false, [.d (.v (.bool (hasN l s)))])] } := by
 refine startW (tm := [(0, _), (1, _)]) Tryz.func77 rfl Tryz.ntmps77 rfl rfl rfl rfl ?_
 repeat' (first
 |(with_reducible refine K_ca 103 ?_); refine zC (pstrI_fn l s hl) ?_
 |refine wA ?_
 |(refine wC ?_ ?_ <;> intro hc)
 |refine wB ?_ ?_
 |(with_reducible refine JL.block ?_)
 |(with_reducible refine F_at ?_); refine eW (vs := [(_, _)]) Tryz.results77 ?_; (focus (repeat' (first | exact oA | refine oB ?_ | refine oC ?_ ?_ | fail)))
 |exact oM
 |fail)
 all_goals first | with_reducible rfl | exact strI_mem | trace_state
def addE (l : List ByteArray) (s : ByteArray) : Int := if isNameP s = false then 1 else if hasN l s = true then 5 else 0
def addN (l : List ByteArray) (s : ByteArray) : List ByteArray := if addE l s = 0 then l ++ [s] else l
def nmsC (q : Key) : List C := [.own q]
theorem nmsC_ren (f : Key → Key) (q : Key) : (nmsC q).map (renC f) = nmsC (f q) := rfl
def nmsB (l : List ByteArray) : List (Key × Box) := [((1000, 0), .sl 9 1 (dStrs l))]
theorem padd_1 (l : List ByteArray) (s : ByteArray) (hl : l.length ≤ 5900000000000) (h : isNameP s = false) : FnSound Tryz.prog 59 [.io 125 (nmsC (1000, 0)), .val false [.d (.v (.string s))]] (nmsB l) { vals := [(false, [.d (.v (.int .i64 1))])], ios := [nmsC (1000, 0)], bx := nmsB l } := by
 refine startO (tm := [(0, _), (1, _)]) [((0, 0), some (.st 125 [.own (1000, 0)])), ((1000, 0), some (.sl 9 1 (dStrs l)))] Tryz.func59 rfl Tryz.ntmps59 rfl rfl rfl rfl ?_
 repeat' (first
 |(with_reducible refine rgL (fun g => g == 77) ?_ ?_); exact rfl
 |(with_reducible refine K_ca 15 ?_); refine zC (pname_fn _) ?_
 |(with_reducible refine K_ca 77 ?_); refine zC (pstrC_fn l s hl) ?_
 |refine wA ?_
 |(refine wC ?_ ?_ <;> intro hc)
 |refine wB ?_ ?_
 |(with_reducible refine JL.block ?_)
 |(with_reducible refine FO_at ?_); refine eO (vs := [(_, _)]) Tryz.results59 ?_
 |exact oM
 |fail)
 all_goals first
  | (exfalso; simp_all; done)
  | kernel_rfl
  | trace_state
theorem padd_5 (l : List ByteArray) (s : ByteArray) (hl : l.length ≤ 5900000000000) (h : isNameP s = true) (hm : hasN l s = true) : FnSound Tryz.prog 59 [.io 125 (nmsC (1000, 0)), .val false [.d (.v (.string s))]] (nmsB l) { vals := [(false, [.d (.v (.int .i64 5))])], ios := [nmsC (1000, 0)], bx := nmsB l } := by
 refine startO (tm := [(0, _), (1, _)]) [((0, 0), some (.st 125 [.own (1000, 0)])), ((1000, 0), some (.sl 9 1 (dStrs l)))] Tryz.func59 rfl Tryz.ntmps59 rfl rfl rfl rfl ?_
 repeat' (first
 |(with_reducible refine rgL (fun g => g == 77) ?_ ?_); exact rfl
 |(with_reducible refine K_ca 15 ?_); refine zC (pname_fn _) ?_
 |(with_reducible refine K_ca 77 ?_); refine zC (pstrC_fn l s hl) ?_
 |refine wA ?_
 |(refine wC ?_ ?_ <;> intro hc)
 |refine wB ?_ ?_
 |(with_reducible refine JL.block ?_)
 |(with_reducible refine FO_at ?_); refine eO (vs := [(_, _)]) Tryz.results59 ?_
 |exact oM
 |fail)
 all_goals first
  | (exfalso; simp_all; done)
  | kernel_rfl
  | trace_state
theorem padd_0 (l : List ByteArray) (s : ByteArray) (hl : l.length ≤ 5900000000000) (h : isNameP s = true) (hm : ¬ hasN l s = true) : FnSound Tryz.prog 59 [.io 125 (nmsC (1000, 0)), .val false [.d (.v (.string s))]] (nmsB l) { vals := [(false, [.d (.v (.int .i64 0))])], ios := [nmsC (448, 600)], bx := [((448, 600), .sl 9 1 (dStrs (l ++ [s])))] } := by
 refine startO (tm := [(0, _), (1, _)]) [((0, 0), some (.st 125 [.own (1000, 0)])), ((1000, 0), some (.sl 9 1 (dStrs l)))] Tryz.func59 rfl Tryz.ntmps59 rfl rfl rfl rfl ?_
 repeat' (first
 |(with_reducible refine rgL (fun g => g == 77) ?_ ?_); exact rfl
 |(with_reducible refine K_ca 15 ?_); refine zC (pname_fn _) ?_
 |(with_reducible refine K_ca 77 ?_); refine zC (pstrC_fn l s hl) ?_
 |refine wA ?_
 |(refine wC ?_ ?_ <;> intro hc)
 |refine wB ?_ ?_
 |(with_reducible refine JL.block ?_)
 |(with_reducible refine FO_at ?_); refine eO (vs := [(_, _)]) Tryz.results59 ?_
 |exact oM
 |fail)
 all_goals first
  | (exfalso; simp_all; done)
  | kernel_rfl
  | trace_state
def nmsR (l : List ByteArray) (s : ByteArray) : ARes := { vals := [(false, [.d (.v (.int .i64 (addE l s)))])], ios := [nmsC (0, 1)], bx := [((0, 1), .sl 9 1 (dStrs (addN l s)))] }
theorem padd_fn (l : List ByteArray) (s : ByteArray) (hl : l.length ≤ 5900000000000) : FnSound Tryz.prog 59 [.io 125 (nmsC (1000, 0)), .val false [.d (.v (.string s))]] (nmsB l) (nmsR l s) := by
 unfold nmsR
 cases h : isNameP s with
 | false =>
  have e : addE l s = 1 := by unfold addE; rw [if_pos h]
  unfold addN
  rw [e, if_neg (by decide)]
  exact resV_fn nmsC_ren rfl (1000, 0) rfl (padd_1 l s hl h)
 | true =>
  cases hm : hasN l s with
  | true =>
   have e : addE l s = 5 := by unfold addE; rw [if_neg (by rw [h]; decide), if_pos hm]
   unfold addN
   rw [e, if_neg (by decide)]
   exact resV_fn nmsC_ren rfl (1000, 0) rfl (padd_5 l s hl h hm)
  | false =>
   have e : addE l s = 0 := by unfold addE; rw [if_neg (by rw [h]; decide), if_neg (by rw [hm]; decide)]
   unfold addN
   rw [e, if_pos rfl]
   exact resV_fn nmsC_ren rfl (448, 600) rfl (padd_0 l s hl h (by rw [hm]; decide))
theorem pmiss_fn (v : VerD) (t : Int) : FnSound Tryz.prog 58 [.val false [.d (.v (.int .i64 t))], .val false [.rptr (verRow v) 0]] [] { vals := [(false, [.d (.v (.bool (outT v.types.length t)))])] } := by
 refine startW (tm := [(0, _), (1, _)]) Tryz.func58 rfl Tryz.ntmps58 rfl rfl rfl rfl ?_
 repeat' (first
 |refine wA ?_
 |(refine wC ?_ ?_ <;> intro hc)
 |refine wB ?_ ?_
 |(with_reducible refine JL.block ?_)
 |(with_reducible refine F_at ?_); refine eW (vs := [(_, _)]) Tryz.results58 ?_; (focus (repeat' (first | exact oA | refine oB ?_ | refine oC ?_ ?_ | fail)))
 |exact oM
 |fail)
 all_goals first
  | with_reducible rfl
  | (unfold outT; exact (decide_eq_true (by omega)).symm)
  | (unfold outT; exact decide_eq_decide.2 (by omega))
  | trace_state
theorem bo_miss : BoI Tryz.prog 58 := ⟨by kernel_rfl⟩
theorem psame_fn (x y : SesD) : FnSound Tryz.prog 61 [.val true (sesC x), .val false [.rptr (sesRow y) 0]] [] { vals := [(false, [.d (.v (.bool (decide (x.name = y.name))))])] } := by
 refine startW (tm := [(0, _), (1, _)]) Tryz.func61 rfl Tryz.ntmps61 rfl rfl rfl rfl ?_
 repeat' (first
 |refine wA ?_
 |(refine wC ?_ ?_ <;> intro hc)
 |refine wB ?_ ?_
 |(with_reducible refine JL.block ?_)
 |(with_reducible refine F_at ?_); refine eW (vs := [(_, _)]) Tryz.results61 ?_; (focus (repeat' (first | exact oA | refine oB ?_ | refine oC ?_ ?_ | fail)))
 |exact oM
 |fail)
 all_goals first | with_reducible rfl | rfl | trace_state
theorem bo_same : BoI Tryz.prog 61 := ⟨by kernel_rfl⟩
def sesI (l : List SesD) (s : ByteArray) : Int := match l.findIdx? (fun x => decide (x.name = s)) with
 | some k => (k : Int)
 | none => -1
theorem sesI_some {l : List SesD} {s : ByteArray} {k : Nat} (hk : k < l.length) (h : ∀ i, i < k → ¬ (l.getD i nilSe).name = s) (he : (l.getD k nilSe).name = s) : (k : Int) = sesI l s := by
 unfold sesI
 have : l.findIdx? (fun x => decide (x.name = s)) = some k := by
  rw [List.findIdx?_eq_some_iff_getElem]
  refine ⟨hk, ?_, fun j hj => ?_⟩
  ·rw [List.getD_eq_getElem?_getD, List.getElem?_eq_getElem hk] at he
   exact decide_eq_true he
  ·have := h j hj
   rw [List.getD_eq_getElem?_getD, List.getElem?_eq_getElem (by omega)] at this
   simpa using this
 rw [this]
theorem sesI_none {l : List SesD} {s : ByteArray} (h : ∀ i, i < l.length → ¬ (l.getD i nilSe).name = s) : -1 = sesI l s := by
 unfold sesI
 have : l.findIdx? (fun x => decide (x.name = s)) = none := by
  rw [List.findIdx?_eq_none_iff]
  intro x hx
  obtain ⟨i, hi, rfl⟩ := List.getElem_of_mem hx
  have := h i hi
  rw [List.getD_eq_getElem?_getD, List.getElem?_eq_getElem hi] at this
  simpa using this
 rw [this]
theorem sesI_any {l : List SesD} {s : ByteArray} : decide (0 ≤ sesI l s) = l.any fun x => decide (x.name = s) := by
 unfold sesI
 cases e : l.findIdx? (fun x => decide (x.name = s)) with
 | none =>
  rw [List.findIdx?_eq_none_iff] at e
  rw [decide_eq_false (by simp)]
  exact (List.any_eq_false.2 fun x hx => by simpa using e x hx).symm
 | some k =>
  obtain ⟨h1, h2, _⟩ := List.findIdx?_eq_some_iff_getElem.1 e
  rw [decide_eq_true (by simp)]
  exact (List.any_eq_true.2 ⟨_, List.getElem_mem h1, h2⟩).symm
theorem psesI_fn (l : List SesD) (y : SesD) (hl : l.length ≤ 5900000000000) : FnSound Tryz.prog 78 [.val false [.d (.sl 5 (dSess l))], .val false [.fn 61 [.rptr (sesRow y) 0]]] [] { vals := [(false, [.d (.v (.int .i64 (sesI l y.name)))])] } := by
 refine startW (tm := [(0, _), (1, _)]) Tryz.func78 rfl Tryz.ntmps78 rfl rfl rfl rfl ?_
 repeat' (first
 |(with_reducible refine W_at ?_); (first
 |(refine W.callC rfl bo_same rfl rfl rfl (psame_fn (l.getD k nilSe) y) rfl rfl ?_))
 |(with_reducible refine blk_at (id := 0) ?_); ((with_reducible refine JL.loopW 0 299 (fun (k : Nat) tm => (8, .one false [.d (.v (.int .i64 ((k : Int))))]) :: tm) (fun (k : Nat) bo => bo) (fun (k : Nat) => k ≤ l.length ∧ ∀ i, i < k → ¬ (l.getD i nilSe).name = y.name) (fun (k : Nat) => l.length - k) (0) ?_ (fun k hk => ?_) ?_); (focus (apply SubW [] rfl ?_ ?_ rfl ?_; (repeat' (first | exact kA | refine kB ?_ | refine kC ?_ ?_ | exact kD | fail)))))
 |((with_reducible refine round_next (i := k) (k + 1) ?_ ?_ ?_); (focus (apply SubW [] rfl ?_ ?_ rfl ?_; (repeat' (first | exact kA | refine kB ?_ | refine kC ?_ ?_ | exact kD | fail)))))
 |refine wA ?_
 |(refine wC ?_ ?_ <;> intro hc)
 |refine wB ?_ ?_
 |(with_reducible refine JL.block ?_)
 |(with_reducible refine F_at ?_); refine eW (vs := [(_, _)]) Tryz.results78 ?_; (focus (repeat' (first | exact oA | refine oB ?_ | refine oC ?_ ?_ | fail)))
 |exact oM
 |fail)
 all_goals first
  | with_reducible rfl
  | omega
  | exact ⟨Nat.zero_le _, fun i hi => absurd hi (Nat.not_lt_zero i)⟩
  | exact ⟨by omega, lt_next hk.2 hc⟩
  | exact sesI_some (by omega) hk.2 hc
  | exact sesI_none (fun i hi => hk.2 i (by omega))
  | trace_state
theorem psesC_fn (l : List SesD) (y : SesD) (hl : l.length ≤ 5900000000000) : FnSound Tryz.prog 60 [.val false [.d (.sl 5 (dSess l))], .val false [.fn 61 [.rptr (sesRow y) 0]]] [] { vals := [(false, [.d (.v (.bool (l.any fun x => decide (x.name = y.name))))])] } := by
 refine startW (tm := [(0, _), (1, _)]) Tryz.func60 rfl Tryz.ntmps60 rfl rfl rfl rfl ?_
 repeat' (first
 |(with_reducible refine K_ca 78 ?_); refine zC (psesI_fn l y hl) ?_
 |refine wA ?_
 |(refine wC ?_ ?_ <;> intro hc)
 |refine wB ?_ ?_
 |(with_reducible refine JL.block ?_)
 |(with_reducible refine F_at ?_); refine eW (vs := [(_, _)]) Tryz.results60 ?_; (focus (repeat' (first | exact oA | refine oB ?_ | refine oC ?_ ?_ | fail)))
 |exact oM
 |fail)
 all_goals first | with_reducible rfl | exact sesI_any | trace_state
end Go.Proofs.YtjpdemikmdfonaaGreatDoor

