/- Rules of runs and contracts of functions, for the claims of one seat. -/
import Derived.Test.YtbdjcgjdmhgnmaaGreatQA13
import Derived.Test.YtbdjcgjdmhgnmaaGreatQA14
import Derived.Test.YtbdjcgjdmhgnmaaGreatQA21
import Derived.Test.YtbdjcgjdmhgnmaaGreatQA23
import Derived.Test.YtbdjcgjdmhgnmaaGreatQA34
namespace Go.Proofs.YtbdjcgjdmhgnmaaGreat
open Go Go.RowKit
set_option linter.unusedSimpArgs false
set_option linter.unusedVariables false
theorem apply_some {p : Prob} {m x : MixD} {s : StepD} (h : mixErr p m = 0) (h1 : stepOK s = true) (h2 : thereB p s = true) (h3 : afterP p m s = some x) : applyP p m s = (x, 0) := by
 unfold applyP
 rw [if_neg (by simpa using h), if_neg (by rw [h1]; decide), if_neg (by rw [h2]; decide), h3]
theorem CtlK.applies {p : Prob} {c : CtlD} (h : CtlK p c) (hv : PlanV p c.plan) (hd : (c.phase = 0 ∧ (present c).kind = 1) ∨ (c.phase = 1 ∧ (present c).kind = 2) ∨ c.phase = 4) : applyP p c.mix (present c) = (afterM p c.mix (present c), 0) := by
 have hlt := h.lt (by omega)
 have hr := h.rng
 obtain ⟨s1, s2⟩ := h.stepOK (by omega)
 have hx : ∃ x, afterP p c.mix (present c) = some x := by
  rcases hd with ⟨a, b⟩ | ⟨a, b⟩ | a
  ·exact ⟨_, h.after1 a b⟩
  ·rcases h.ph1 a with ⟨k, _⟩ | ⟨_, m⟩
   ·omega
   ·rw [m]; exact ⟨_, h.plan.after (k := c.at_.toNat) (by omega)⟩
  ·rw [(h.ph4 a).2]; exact ⟨_, h.plan.after (k := c.at_.toNat) (by omega)⟩
 obtain ⟨x, hx⟩ := hx
 have e : afterM p c.mix (present c) = x := by unfold afterM; rw [hx]; rfl
 rw [e]
 exact apply_some (h.valid hv) s1 s2 hx
theorem CtlK.svc {p : Prob} {c : CtlD} (h : CtlK p c) (hp : ¬ c.phase = 6) (hk : ¬ (present c).kind = 3) : 0 ≤ (present c).idx ∧ (present c).idx < p.vs.length ∧ c.mix.base.length = p.vs.length ∧ c.mix.next.length = p.vs.length := by
 have hg := h.g
 have hs := (h.st hp).1
 exact ⟨hs.nn, hs.svc hk, hg.inn.lb, hg.inn.ln⟩
theorem CtlK.aborts {p : Prob} {c : CtlD} (h : CtlK p c) (hv : PlanV p c.plan) (h3 : c.phase = 3) : applyP p c.mix ⟨4, (present c).idx, 0⟩ = (abortedP p c.plan c.at_, 0) := by
 have hlt := h.lt (by omega)
 have hr := h.rng
 have hk := h.ph2 (.inr h3)
 have hi := h.svc (by omega) (by omega)
 obtain ⟨s1, s2⟩ := abort_ok (p := p) (i := (present c).idx) ⟨hi.1, hi.2.1⟩
 refine apply_some (h.valid hv) s1 s2 ?_
 rw [hk.2]
 exact (h.plan.abort ⟨hr.1, hlt⟩ hk.1).2.2
end Go.Proofs.YtbdjcgjdmhgnmaaGreat

namespace Go.Proofs.YtbdjcgjdmhgnmaaGreat
open Go Go.RowKit
set_option linter.unusedSimpArgs false
set_option linter.unusedVariables false
section
variable {V X : Nat → Prop} {Z : Key → Hd} {w0 w : World} {N : Nat} {ρ : Key → Hd} {ok ok' : Key → Prop} {lt lt' : Nat → Option AV} {lb lb' : Key → Option Box} {a : Act}
theorem Rel.names (φ : List (Key × Key)) (h0 : φ.all (fun x => x.1.2 != 0) = true) (h1 : ∀ q : Key, q.2 = 0 → ok' q)
    (ht : ∀ t av, lt' t = some av → lt t = some (renAV (renF φ) av) ∧ ∀ q ∈ keysAV av, ok' q)
    (hb : ∀ q box, lb' q = some box → lb (renF φ q) = some (renB (renF φ) box) ∧ ok' q ∧ ∀ k ∈ keysB (some box), ok' k)
    (hi : ∀ q q' box box', lb' q = some box → lb' q' = some box' → renF φ q = renF φ q' → q = q') (h : Rel V X Z w0 N ρ ok lt lb a w) : Rel V X Z w0 N (fun q => ρ (renF φ q)) ok' lt' lb' a w := by
 have him : ∀ b, b < w.heap.size → Im V ρ lb b → Im V (fun q => ρ (renF φ q)) lb' b := fun b _ hi' => ⟨hi'.1, fun q box hq hl => hi'.2 _ _ (hb q box hq).1 (by rw [renB_live]; exact hl)⟩
 have hz : ∀ q : Key, q.2 = 0 → renF φ q = q := fun q hq => by
  unfold renF
  have : lk φ q = none := by
   clear ht hb hi him
   induction φ with
   | nil => rfl
   | cons x r ih =>
    obtain ⟨k, v⟩ := x
    simp only [List.all_cons, Bool.and_eq_true, bne_iff_ne] at h0
    show (if q = k then some v else lk r q) = none
    rw [if_neg (fun e => h0.1 (by rw [← e]; exact hq))]
    exact ih h0.2
  rw [this]
 refine ⟨h.size, h.defers, fun t av hq => ?_, fun q box hq => ?_, fun q b1 q' b2 b e1 l1 e2 l2 g1 g2 => ?_, fun q box b hq hl hg => ?_, h.fr, h.va, fun q hq => ?_⟩
 ·obtain ⟨k1, k2⟩ := ht t av hq
  obtain ⟨k3, k4⟩ := h.tm t _ k1
  exact ⟨k3, k4.ren him k2⟩
 ·obtain ⟨k1, k2, k3⟩ := hb q box hq
  exact ⟨k2, (h.bx _ _ k1).2.ren him k3⟩
 ·exact hi q q' b1 b2 e1 e2 (h.ap _ _ _ _ b (hb q b1 e1).1 (by rw [renB_live]; exact l1) (hb q' b2 e2).1 (by rw [renB_live]; exact l2) g1 g2)
 ·exact h.lo _ _ b (hb q box hq).1 (by rw [renB_live]; exact hl) hg
 ·refine ⟨h1 q hq, ?_⟩
  show ρ (renF φ q) = Z q
  rw [hz q hq]
  exact (h.zz q hq).2
end
def resK (cells : Key → List C) (ty : TypeId) (sz : Nat) (rows : List (List D)) (q : Key) : ARes := { vals := [], ios := [cells q], bx := [(q, .sl ty sz rows)] }
inductive FinK (P : Program) (fn : Func) (args : List Arg) (cells : Key → List C) (ty : TypeId) (sz : Nat) (rows : List (List D)) (ax : AX) (st : St) : Prop
 | mk (q : Key) (hq : (q != (0, 0)) = true) (h : FinO P fn args (resK cells ty sz rows q) ax st)
def lastK : List C → Key
 | [] => (0, 0)
 | [.own q] => q
 | _ :: r => lastK r
def keyOf (bo : BO) : Key := match lko bo (0, 0) with
 | some (.st _ cs) => lastK cs
 | _ => (0, 0)
section
variable {P : Program} {N : Nat} {cells : Key → List C} {ty T : TypeId} {sz : Nat} {rows : List (List D)}
theorem resK_ren (hc : ∀ f q, (cells q).map (renC f) = cells (f q)) (hk : ∀ q, (cells q).flatMap keysC = [q]) {V X : Nat → Prop} {Z : Key → Hd} {w w' : World} {a : Act} {ρ : Key → Hd} {cs0 : List C} {rest : List Arg} (hr : rest.all (fun a => !isIo a) = true) (q : Key) (hq : (q != (0, 0)) = true)
    (h : Rel V X Z w 1 ρ (fun _ => True) (ltOne (resAV id [])) (lk (ioBx 0 (.io T cs0 :: rest) [cells q] ++ [(q, .sl ty sz rows)])) a w') : Rel V X Z w 1 (fun k => ρ (renF [((0, 1), q)] k)) (fun _ => True) (ltOne (resAV id [])) (lk (ioBx 0 (.io T cs0 :: rest) [cells (0, 1)] ++ [((0, 1), .sl ty sz rows)])) a w' := by
 have hio : ∀ (x : List C) (i : Nat) (l : List Arg), l.all (fun a => !isIo a) = true → ioBx i l [] = [] := by
  intro x i l
  induction l generalizing i with
  | nil => intro _; rfl
  | cons y r ih =>
   intro hl
   simp only [List.all_cons, Bool.and_eq_true] at hl
   cases y with
   | val b cs => exact ih (i + 1) hl.2
   | io t cs => exact absurd hl.1 (by simp [isIo])
 have e : ∀ x : List C, ioBx 0 (.io T cs0 :: rest) [x] = [((0, 0), .st T x)] := fun x => by
  show ((0, 0), Box.st T x) :: ioBx 1 rest [] = _
  rw [hio x 1 rest hr]
 rw [e] at h ⊢
 have hq' : q ≠ (0, 0) := by simpa using hq
 have r1 : renF [((0, 1), q)] (0, 1) = q := rfl
 have r0 : renF [((0, 1), q)] (0, 0) = (0, 0) := rfl
 refine Rel.names [((0, 1), q)] rfl (fun _ _ => trivial) (fun t av ht => ?_) (fun k box hk' => ?_) (fun k k' b b' e1 e2 e3 => ?_) h
 ·unfold ltOne at ht ⊢
  split at ht
  ·rename_i e0
   cases ht
   exact ⟨by simp [resAV, renAV]; exact e0, fun _ _ => trivial⟩
  ·cases ht
 ·simp only [List.cons_append, List.nil_append] at hk' ⊢
  unfold lk at hk'
  split at hk'
  ·rename_i e1
   cases hk'
   subst e1
   refine ⟨?_, trivial, fun _ _ => trivial⟩
   rw [r0]
   show (if (0, 0) = (0, 0) then _ else _) = _
   rw [if_pos rfl]
   show some (Box.st T (cells q)) = some (Box.st T ((cells (0, 1)).map (renC (renF [((0, 1), q)]))))
   rw [hc, r1]
  ·unfold lk at hk'
   split at hk'
   ·rename_i e1
    cases hk'
    subst e1
    refine ⟨?_, trivial, fun _ _ => trivial⟩
    rw [r1]
    show (if q = (0, 0) then _ else if q = q then _ else _) = _
    rw [if_neg hq', if_pos rfl]
    rfl
   ·cases hk'
 ·have two : ∀ k b, lk ([((0, 0), Box.st T (cells (0, 1)))] ++ [((0, 1), Box.sl ty sz rows)]) k = some b → k = (0, 0) ∨ k = (0, 1) := by
    intro k b hk'
    simp only [List.cons_append, List.nil_append] at hk'
    unfold lk at hk'
    split at hk'
    ·rename_i e1; exact .inl e1
    ·unfold lk at hk'
     split at hk'
     ·rename_i e1; exact .inr e1
     ·cases hk'
  rcases two k b e1 with rfl | rfl <;> rcases two k' b' e2 with rfl | rfl
  ·rfl
  ·rw [r0, r1] at e3; exact absurd e3.symm hq'
  ·rw [r0, r1] at e3; exact absurd e3 hq'
  ·rfl
theorem fn_of_JK {f : FuncId} {fn : Func} {body : Code} {bxs : List (Key × Box)} {cs0 : List C} {rest : List Arg} (hc : ∀ f q, (cells q).map (renC f) = cells (f q)) (hk : ∀ q, (cells q).flatMap keysC = [q]) (hr : rest.all (fun a => !isIo a) = true) (hf : P.funcs[f]? = some fn) (hbody : fn.body = some body) (hp : fn.params.size ≤ (Arg.io T cs0 :: rest).length) (hn : (Arg.io T cs0 :: rest).length ≤ fn.ntmps)
    (h : J P fn.ntmps body ⟨argTm 0 (.io T cs0 :: rest), argBx 0 (.io T cs0 :: rest) ++ bxs, 1⟩ (FinK P fn (.io T cs0 :: rest) cells ty sz rows)) : FnSound P f (.io T cs0 :: rest) bxs (resK cells ty sz rows (0, 1)) := by
 intro V X Z ρ w vals hlen hR
 refine calls_of_wp hf hbody ?_
 have hsz : (vals.toArray ++ Array.replicate (fn.ntmps - vals.toArray.size) undef).size = fn.ntmps := by simp; omega
 have h0 : SR V X Z w fn.ntmps { tm := argTm 0 (.io T cs0 :: rest), bx := argBx 0 (.io T cs0 :: rest) ++ bxs, nx := 1 } { tmps := vals.toArray ++ Array.replicate (fn.ntmps - vals.toArray.size) undef, defers := [] } w := by
  refine ⟨ρ, hsz, rfl, fun t av ht => ?_, hR.bx, hR.ap, hR.lo, hR.fr, hR.va, hR.zz⟩
  obtain ⟨h1, h2⟩ := hR.tm t av ht
  refine ⟨by omega, ?_⟩
  have e1 : (vals.toArray ++ Array.replicate (fn.ntmps - vals.toArray.size) undef).getD t undef = vals.toArray.getD t undef := by
   simp [Array.getD_eq_getD_getElem?, Array.getElem?_append, h1]
  rw [e1]
  exact h2
 have fin : ∀ (s : St) (a : Act) (w' : World) (ax : AX), SR V X Z w fn.ntmps s a w' → (ax = .normal ∨ ax = .ret) → FinK P fn (.io T cs0 :: rest) cells ty sz rows ax s → a.defers = [] ∧ ∃ v, (results fn a.tmps).run P w' = .ok v w' ∧ ∃ v' ρ', Ending.returned v = .returned v' ∧ Rel V X Z w 1 ρ' (fun _ => True) (ltOne (resAV id (resK cells ty sz rows (0, 1)).vals)) (lk (ioBx 0 (.io T cs0 :: rest) (resK cells ty sz rows (0, 1)).ios ++ (resK cells ty sz rows (0, 1)).bx)) ⟨#[v'], []⟩ w' := by
  rintro s a w' ax hs hax ⟨q, hq, ⟨hz⟩⟩
  have hz' : match outR P true fn (.io T cs0 :: rest) s with | some r0 => resZ r0 (resK cells ty sz rows q) | none => False := by
   rcases hax with rfl | rfl <;> exact hz
  obtain ⟨h1, v, h2, v', ρ', h3, hR'⟩ := fin_soundZ s a w' hs hz'
  exact ⟨h1, v, h2, v', _, h3, resK_ren hc hk hr q hq hR'⟩
 refine wp_mono (h V X Z w _ w h0) (fun e a w' hq => ?_)
 cases e with
 | normal => obtain ⟨s, h1, h2⟩ := hq; exact fin s a w' .normal h2 (.inl rfl) h1
 | ret => obtain ⟨s, h1, h2⟩ := hq; exact fin s a w' .ret h2 (.inr rfl) h1
 | exit id => obtain ⟨s, ⟨q, _, ⟨h1⟩⟩, h2⟩ := hq; exact h1.elim
 | goto l => exact hq.elim
 | panic ch => exact hq.elim
 | outgrown => exact hq.elim
theorem startK {f : FuncId} {fn : Func} {body : Code} {bxs : List (Key × Box)} {cs0 : List C} {rest : List Arg} {tm : List (Nat × AV)} (bo : BO) (hf : P.funcs[f]? = some fn) (hbody : fn.body = some body) (hN : fn.ntmps = N) (hp : decide (fn.params.size ≤ (Arg.io T cs0 :: rest).length) = true) (hn : decide ((Arg.io T cs0 :: rest).length ≤ N) = true) (hbo : argBx 0 (.io T cs0 :: rest) ++ bxs = clean bo) (htm : argTm 0 (.io T cs0 :: rest) = tm)
    (h : JL P N [body] ⟨tm, clean bo, 1⟩ (FinK P fn (.io T cs0 :: rest) cells ty sz rows)) (hr : rest.all (fun a => !isIo a) = true := by exact rfl) (hc : ∀ f q, (cells q).map (renC f) = cells (f q) := by exact fun _ _ => rfl) (hk : ∀ q, (cells q).flatMap keysC = [q] := by exact fun _ => rfl) : FnSound P f (.io T cs0 :: rest) bxs (resK cells ty sz rows (0, 1)) := by
 subst htm
 subst hN
 refine fn_of_JK hc hk hr hf hbody (by simpa using hp) (of_decide_eq_true hn) ?_
 rw [hbo]
 rw [JL_cons] at h
 refine h.mono fun ax s hs => ?_
 cases ax with
 | normal => exact hs
 | exit i => exact hs
 | ret => exact hs
theorem FK_at {fn : Func} {args : List Arg} {ax : AX} {st : St} (h : FinK P fn args cells ty sz rows ax st) : FinK P fn args cells ty sz rows ax st := h
theorem eK {fn : Func} {args : List Arg} {tm : List (Nat × AV)} {bo : BO} {nx : Nat} {ax : AX} (hfr : fn.results = #[]) (h : outO (clean bo) [] args = some (resK cells ty sz rows (keyOf bo))) (hq : (keyOf bo != (0, 0)) = true := by kernel_rfl) (hax : ax = .ret ∨ ax = .normal := by first | exact .inl rfl | exact .inr rfl) : FinK P fn args cells ty sz rows ax ⟨tm, clean bo, nx⟩ := by
 have hl : fn.results = ([] : List ResultVar).toArray := hfr
 rcases hax with rfl | rfl
 ·exact ⟨_, hq, endO1 hl .nil h⟩
 ·exact ⟨_, hq, endO1n hl .nil h⟩
end
end Go.Proofs.YtbdjcgjdmhgnmaaGreat

namespace Go.Proofs.YtbdjcgjdmhgnmaaGreat
open Go Go.RowKit
set_option linter.unusedSimpArgs false
set_option linter.unusedVariables false
section
variable {P : Program} {lend : FuncId → Bool} {N : Nat} {ops : Array Oper} {dr : Bool} {cs : List Code} {R : AX → St → Prop} {i : Nat} {os : List Oper} {tm : List (Nat × AV)} {bo : BO} {nx : Nat} {ns : List Note} {d : Nat} {pos : String} {ty : TypeId} {af : Array Edge}
theorem W.callMt {g : FuncId} {args : Array Operand} {tyq : Array TypeId} {xa : List Arg} {q0 qo κ : Key} {T : TypeId} {b0 : Box} {bx0 : List (Key × Box)} {cells : Key → List C} {ty0 : TypeId} {sz : Nat} {rows : List (List D)} (k : Nat) (hd : Nat.blt d N = true) (hk : i * 64 = k) (hbod : BoI P g) (hK : FnSound P g xa bx0 (resK cells ty0 sz rows (0, 1)))
    (hna : argsOf (onlyT ⟨some d, .call ⟨.value (.func g), args, tyq⟩, ty, pos, af, none⟩ (lk tm)) (onlyB (opKeys (lk tm) (lko bo) ⟨some d, .call ⟨.value (.func g), args, tyq⟩, ty, pos, af, none⟩) (lko bo)) (lend g) args.toList = none)
    (ha : ioArgs (onlyT ⟨some d, .call ⟨.value (.func g), args, tyq⟩, ty, pos, af, none⟩ (lk tm)) (onlyB (opKeys (lk tm) (lko bo) ⟨some d, .call ⟨.value (.func g), args, tyq⟩, ty, pos, af, none⟩) (lko bo)) 0 args.toList = some (xa, [], [(q0, T)], [(qo, κ, b0)])) (hbs : [(κ, b0)] = bx0)
    (hn1 : nodup ((dictOf xa [(q0, T)] [(qo, κ, b0)]).map (·.1)) = true) (hn2 : nodup ((dictOf xa [(q0, T)] [(qo, κ, b0)]).map (·.2)) = true) (hz : ((dictOf xa [(q0, T)] [(qo, κ, b0)]).all fun x => x.1.2 == 0) = true) (hcl : (resK cells ty0 sz rows (0, 1)).closed = true) (hnd : nodup ((ioBx 0 xa (resK cells ty0 sz rows (0, 1)).ios ++ (resK cells ty0 sz rows (0, 1)).bx).map (·.1)) = true)
    (hc : ∀ f q, (cells q).map (renC f) = cells (f q))
    (h : W P lend N ops dr cs R (i + 1) os ((d, .tup []) :: tm) ((q0, some (.st T (cells (k, nx)))) :: ((k, nx), some (.sl ty0 sz rows)) :: (qo, none) :: bo) nx (ns ++ [⟨opKeys (lk tm) (lko bo) ⟨some d, .call ⟨.value (.func g), args, tyq⟩, ty, pos, af, none⟩, [q0, (k, nx), qo]⟩])) : W P lend N ops dr cs R i (⟨some d, .call ⟨.value (.func g), args, tyq⟩, ty, pos, af, none⟩ :: os) tm bo nx ns := by
 subst hk
 have e1 : renK (keyAt i nx) [(((0, 1) : Key), Box.sl ty0 sz rows)] 0 (0, 1) = (i * 64, nx) := by unfold renK; rw [if_pos rfl]; rfl
 refine W.callIO (qs := [(q0, T)]) (bs := [(qo, κ, b0)]) (r := resK cells ty0 sz rows (0, 1)) (av := .tup []) (up := [(q0, some (.st T (cells (i * 64, nx)))), ((i * 64, nx), some (.sl ty0 sz rows)), (qo, none)]) hd hbod hK hna ha hbs hn1 hn2 hz rfl rfl hcl hnd rfl rfl ?_ h
 show putIo (renK (keyAt i nx) [((0, 1), Box.sl ty0 sz rows)] 0) [(q0, T)] [cells (0, 1)] ++ (takeBx (renK (keyAt i nx) [((0, 1), Box.sl ty0 sz rows)] 0) (keyAt i nx) [((0, 1), Box.sl ty0 sz rows)] 0 ++ [(qo, none)]) = _
 simp only [putIo, takeBx, hc, e1, renBx, List.cons_append, List.nil_append]
 rfl
end
theorem zT {P Q K : Prop} (c : K) (q : Q) (h : K → Q → P := by
 intro c q
 (first | refine W.callMt _ rfl m64 BoC.h c rfl rfl rfl rfl rfl rfl rfl rfl (fun _ _ => rfl) ?_)
 exact q) : P := h c q
end Go.Proofs.YtbdjcgjdmhgnmaaGreat

namespace Go.Proofs.YtbdjcgjdmhgnmaaGreat
open Go Go.RowKit
set_option maxRecDepth 100000
set_option maxHeartbeats 8000000
set_option linter.unusedSimpArgs false
set_option linter.unusedVariables false
theorem cfirst_fn (rs : List Int) (s : Int) (hs : 0 ≤ s ∧ s ≤ rs.length) (hr : ∀ k, k < rs.length → 1 ≤ rs.getD k 0 ∧ rs.getD k 0 ≤ 4) (hl : rs.length ≤ 100) : FnSound Tryz.prog 100 [.val false [.d (.sl 1 (dInts rs))], .val false [.d (.v (.int .i64 s))]] [] { vals := [(false, [.d (.v (.int .i64 (firstR rs s)))])] } := by
 have hsl := sum_le hr
 have e1 : List.take (s.toNat - Int.toNat 0) (List.drop (Int.toNat 0) rs) = rs.take s.toNat := by simp
 have e2 : (List.take (s.toNat - Int.toNat 0) (List.drop (Int.toNat 0) rs)).length = s.toNat := by rw [e1, List.length_take]; omega
 have e3 : ∀ k : Nat, (k : Int) < s → (List.take (s.toNat - Int.toNat 0) (List.drop (Int.toNat 0) rs)).getD k 0 = rs.getD k 0 := fun k hk => by
  rw [e1, List.getD_eq_getElem?_getD, List.getElem?_take_of_lt (by omega), ← List.getD_eq_getElem?_getD]
 refine startW (tm := [(0, _), (1, _)]) Tryz.func100 rfl Tryz.ntmps100 rfl rfl rfl rfl ?_
 repeat' (first
 |(with_reducible refine blk_at (id := 0) ?_); ((with_reducible refine JL.loopW 0 399 (fun (k : Nat) tm => (12, .one false [.d (.v (.int .i64 ((k : Int))))]) :: (5, .one false [.d (.v (.int .i64 ((rs.take k).sum)))]) :: tm) (fun (k : Nat) bo => bo) (fun (k : Nat) => (k : Int) ≤ s) (fun (k : Nat) => s.toNat - k) (0) ?_ (fun k hk => have h1 := hsl k; have h2 := hr k; have h3 := e3 k; ?_) ?_); (focus (apply SubW [] rfl ?_ ?_ rfl ?_; (repeat' (first | exact kA | refine kB ?_ | refine kC ?_ ?_ | exact kD | fail)))))
 |((with_reducible refine round_next (i := k) (k + 1) ?_ ?_ ?_); (focus (apply SubW [] rfl ?_ ?_ rfl ?_; (repeat' (first | exact kA | refine kB ?_ | refine kC ?_ ?_ | exact kD | fail)))))
 |refine wA ?_
 |(refine wC ?_ ?_ <;> intro hc)
 |refine wB ?_ ?_
 |(with_reducible refine JL.block ?_)
 |(with_reducible refine F_at ?_); refine eW (vs := [(_, _)]) Tryz.results100 ?_; (focus (repeat' (first | exact oA | refine oB ?_ | refine oC ?_ ?_ | fail)))
 |exact oM
 |fail)
 all_goals first
  | rfl
  | (rw [h3 (by omega), ← sum_step (by omega)])
  | omega
  | (have e : k = s.toNat := by omega
     rw [e]; rfl)
  | trace_state
theorem dActs_snoc (a : List ActD) (x : ActD) : dActs (a ++ [x]) = dActs a ++ [actRow x] := by unfold dActs; rw [List.map_append]; rfl
def machL (p : Prob) (rs : List Int) (l : List StepD) (at_ ph rp rd tk : Int) (m : MixD) (q : Key) : List C := [.d (.sl 1 (dInts p.vs)), .d (.sl 1 (dInts p.now)), .d (.sl 1 (dInts p.tgt)), .d (.sl 6 (dTabs p.tabs)), .d (.sl 1 (dInts rs)), .d (.sl 3 (dSteps l)), .d (.v (.int .i64 at_)), .d (.v (.int .i64 ph)), .d (.v (.int .i64 rp)), .d (.v (.int .i64 rd)), .d (.v (.int .i64 tk)), .d (.sl 1 (dInts m.base)), .d (.sl 1 (dInts m.next)), .d (.sl 1 (dSets m.held)), .own q]
def machC (p : Prob) (rs : List Int) (c : CtlD) (q : Key) : List C := machL p rs c.plan c.at_ c.phase c.replica c.round c.token c.mix q
def machD (p : Prob) (rs : List Int) (c : CtlD) (a : List ActD) : List D := [.sl 1 (dInts p.vs), .sl 1 (dInts p.now), .sl 1 (dInts p.tgt), .sl 6 (dTabs p.tabs), .sl 1 (dInts rs), .sl 3 (dSteps c.plan), .v (.int .i64 c.at_), .v (.int .i64 c.phase), .v (.int .i64 c.replica), .v (.int .i64 c.round), .v (.int .i64 c.token), .sl 1 (dInts c.mix.base), .sl 1 (dInts c.mix.next), .sl 1 (dSets c.mix.held), .sl 10 (dActs a)]
def actB (a : List ActD) : List (Key × Box) := [((1000, 0), .sl 76 10 (dActs a))]
abbrev mBo (p : Prob) (rs : List Int) (c : CtlD) (a : List ActD) : BO := [((0, 0), some (.st 140 (machC p rs c (1000, 0)))), ((1000, 0), some (.sl 76 10 (dActs a)))]
def mResL (p : Prob) (rs : List Int) (l : List StepD) (at_ ph rp rd tk : Int) (m : MixD) (a : List ActD) : ARes := resK (machL p rs l at_ ph rp rd tk m) 76 10 (dActs a) (0, 1)
def mRes (p : Prob) (rs : List Int) (c : CtlD) (a : List ActD) : ARes := resK (machC p rs c) 76 10 (dActs a) (0, 1)
section
variable (p : Prob) (rs : List Int) (c : CtlD) (a : List ActD)
theorem mpresent_fn (h0 : 0 ≤ c.at_ ∧ c.at_ < c.plan.length) (hl : c.plan.length ≤ 1000000) (s : StepD) (he : present c = s) : FnSound Tryz.prog 120 [.val false [.rptr (machD p rs c a) 0]] [] { vals := [(true, stepC s)] } := by
 subst he
 refine startW (tm := [(0, _)]) Tryz.func120 rfl Tryz.ntmps120 rfl rfl rfl rfl ?_
 repeat' (first
 |refine wA ?_
 |(refine wC ?_ ?_ <;> intro hc)
 |refine wB ?_ ?_
 |(with_reducible refine JL.block ?_)
 |(with_reducible refine F_at ?_); refine eW (vs := [(_, _)]) Tryz.results120 ?_; (focus (repeat' (first | exact oA | refine oB ?_ | refine oC ?_ ?_ | fail)))
 |exact oM
 |fail)
 all_goals first | (exfalso; omega) | (unfold wantedP; rw [if_pos (by assumption)]; done) | (unfold wantedP; rw [if_neg (by assumption)]; done) | kernel_rfl
theorem mwanted_fn (h0 : 0 ≤ c.at_ ∧ c.at_ < c.plan.length) (hl : c.plan.length ≤ 1000000) (hi : 0 ≤ (present c).idx ∧ (present c).idx < c.mix.base.length ∧ (present c).idx < c.mix.next.length) : FnSound Tryz.prog 173 [.val false [.rptr (machD p rs c a) 0]] [] { vals := [(false, [.d (.v (.int .i64 (wantedP c)))])] } := by
 refine startW (tm := [(0, _)]) Tryz.func173 rfl Tryz.ntmps173 rfl rfl rfl rfl ?_
 repeat' (first
 |(with_reducible refine rgL (fun g => g == 120) ?_ ?_); exact rfl
 |(with_reducible refine K_ca 120 ?_); refine zC (mpresent_fn p rs c a h0 hl _ rfl) ?_
 |refine wA ?_
 |(refine wC ?_ ?_ <;> intro hc)
 |refine wB ?_ ?_
 |(with_reducible refine JL.block ?_)
 |(with_reducible refine F_at ?_); refine eW (vs := [(_, _)]) Tryz.results173 ?_; (focus (repeat' (first | exact oA | refine oB ?_ | refine oC ?_ ?_ | fail)))
 |exact oM
 |fail)
 all_goals first | (exfalso; omega) | (unfold wantedP; rw [if_pos (by assumption)]; done) | (unfold wantedP; rw [if_neg (by assumption)]; done) | kernel_rfl
theorem mcommand_fn (h0 : 0 ≤ c.at_ ∧ c.at_ < c.plan.length) (hl : c.plan.length ≤ 1000000) (hi : 0 ≤ (present c).idx ∧ (present c).idx < c.mix.base.length ∧ (present c).idx < c.mix.next.length) : FnSound Tryz.prog 151 [.val false [.rptr (machD p rs c a) 0]] [] { vals := [(true, [.d (.v (.int .i64 c.round)), .d (.v (.int .i64 c.replica)), .d (.v (.int .i64 (wantedP c)))])] } := by
 refine startW (tm := [(0, _)]) Tryz.func151 rfl Tryz.ntmps151 rfl rfl rfl rfl ?_
 repeat' (first
 |(with_reducible refine rgL (fun g => g == 173) ?_ ?_); exact rfl
 |(with_reducible refine K_ca 173 ?_); refine zC (mwanted_fn p rs c a h0 hl hi) ?_
 |refine wA ?_
 |(refine wC ?_ ?_ <;> intro hc)
 |refine wB ?_ ?_
 |(with_reducible refine JL.block ?_)
 |(with_reducible refine F_at ?_); refine eW (vs := [(_, _)]) Tryz.results151 ?_; (focus (repeat' (first | exact oA | refine oB ?_ | refine oC ?_ ?_ | fail)))
 |exact oM
 |fail)
 all_goals first | (exfalso; omega) | (unfold wantedP; rw [if_pos (by assumption)]; done) | (unfold wantedP; rw [if_neg (by assumption)]; done) | kernel_rfl
theorem mwrite_fn (k : Int) (hrd : -1000000000 ≤ c.round ∧ c.round ≤ 1000000000) (hla : a.length ≤ 1000) : FnSound Tryz.prog 122 [.io 140 (machC p rs c (1000, 0)), .val false [.d (.v (.int .i64 k))]] (actB a) (mResL p rs c.plan c.at_ c.phase c.replica (c.round + 1) c.token c.mix (a ++ [entA c k])) := by
 refine startK (tm := [(0, _), (1, _)]) (mBo p rs c a) Tryz.func122 rfl Tryz.ntmps122 rfl rfl rfl rfl ?_
 repeat' (first
 |refine wA ?_
 |(refine wC ?_ ?_ <;> intro hc)
 |refine wB ?_ ?_
 |(with_reducible refine JL.block ?_)
 |(with_reducible refine FK_at ?_); refine eK Tryz.results122 ?_
 |exact oM
 |fail)
 all_goals first | (exfalso; omega) | (rw [dActs_snoc]; kernel_rfl) | kernel_rfl
end
theorem mmove_fn (p : Prob) (rs : List Int) (l : List StepD) (at_ ph rp rd tk : Int) (m : MixD) (a : List ActD) (s : StepD) (M : MixD) (hu : u8s m.held) (hm : applyP p m s = (M, 0)) : FnSound Tryz.prog 152 [.io 140 (machL p rs l at_ ph rp rd tk m (1000, 0)), .val true (stepC s)] (actB a) (mResL p rs l at_ ph rp rd tk M a) := by
 have ha := qapply_fn p m s hu
 rw [hm] at ha
 refine startK (tm := [(0, _), (1, _)]) [((0, 0), some (.st 140 (machL p rs l at_ ph rp rd tk m (1000, 0)))), ((1000, 0), some (.sl 76 10 (dActs a)))] Tryz.func152 rfl Tryz.ntmps152 rfl rfl rfl rfl ?_
 repeat' (first
 |(with_reducible refine K_ca 92 ?_); refine zC (ha) ?_
 |refine wA ?_
 |(refine wC ?_ ?_ <;> intro hc)
 |refine wB ?_ ?_
 |(with_reducible refine JL.block ?_)
 |(with_reducible refine FK_at ?_); refine eK Tryz.results152 ?_
 |exact oM
 |fail)
 all_goals first | (exfalso; omega) | kernel_rfl
end Go.Proofs.YtbdjcgjdmhgnmaaGreat

namespace Go.Proofs.YtbdjcgjdmhgnmaaGreat
open Go Go.RowKit
set_option maxRecDepth 100000
set_option maxHeartbeats 8000000
set_option linter.unusedSimpArgs false
set_option linter.unusedVariables false
theorem mbegin_fn (p : Prob) (rs : List Int) (c : CtlD) (a : List ActD) (h : CtlK p c) (hv : PlanV p c.plan) (hs : setErr p rs = 0) (hl : c.plan.length ≤ 1000000) (hrd : -1000000000 ≤ c.round ∧ c.round ≤ 1000000000) (hla : a.length ≤ 900) (hp : c.phase = 0) : FnSound Tryz.prog 149 [.io 140 (machC p rs c (1000, 0))] (actB a) (mRes p rs (beginC p rs c) (a ++ [entA c 1])) := by
 have w1 : w64 (c.round + 1) = c.round + 1 := w64_is (by omega)
 have hso := setErr_ok hs
 have hvp := vp_all hso.1
 have hrl := hso.2.1
 have h0 : 0 ≤ c.at_ ∧ c.at_ < c.plan.length := ⟨h.rng.1, h.lt (by omega)⟩
 have hu := h.g.u
 have hap := fun k => h.applies hv (.inl ⟨hp, k⟩)
 have hi := h.svc (by omega)
 have hfr := fun b => cfirst_fn rs (present c).idx b hso.2.2 (by omega)
 by_cases k3 : (present c).kind = 3
 ·have e : beginC p rs c = ⟨c.plan, c.at_, 4, c.replica, c.round + 1, c.token, c.mix⟩ := by unfold beginC; rw [if_pos k3, if_pos k3, if_neg (by omega), w1]
  rw [e]
  clear h hv hap hi hfr
  refine startK (tm := [(0, _)]) (mBo p rs c a) Tryz.func149 rfl Tryz.ntmps149 rfl rfl rfl rfl ?_
  repeat' (first
 |(with_reducible refine rgL (fun g => g == 120) ?_ ?_); exact rfl
 |(with_reducible refine K_ca 122 ?_); refine zT (mwrite_fn p rs c a 1 hrd (by omega)) ?_
 |(with_reducible refine K_ca 120 ?_); refine zC (mpresent_fn p rs ⟨c.plan, c.at_, c.phase, c.replica, c.round + 1, c.token, c.mix⟩ (a ++ [entA c 1]) h0 hl (present c) rfl) ?_
 |refine wA ?_
 |(refine wC ?_ ?_ <;> intro hc)
 |refine wB ?_ ?_
 |(with_reducible refine JL.block ?_)
 |(with_reducible refine FK_at ?_); refine eK Tryz.results149 ?_
 |exact oM
 |fail)
  all_goals first | (exfalso; omega) | kernel_rfl
 ·have hi := hi k3
  have hfr := hfr (by omega)
  by_cases k1 : (present c).kind = 1
  ·have e : beginC p rs c = ⟨c.plan, c.at_, 1, firstR rs (present c).idx, c.round + 1, c.token, afterM p c.mix (present c)⟩ := by unfold beginC; rw [if_neg k3, if_neg k3, if_pos k1, w1]
   have hmv := mmove_fn p rs c.plan c.at_ c.phase c.replica (c.round + 1) c.token c.mix (a ++ [entA c 1]) (present c) _ hu (hap k1)
   rw [e]
   clear h hv hap
   refine startK (tm := [(0, _)]) (mBo p rs c a) Tryz.func149 rfl Tryz.ntmps149 rfl rfl rfl rfl ?_
   repeat' (first
 |(with_reducible refine rgL (fun g => g == 120) ?_ ?_); exact rfl
 |(with_reducible refine K_ca 122 ?_); refine zT (mwrite_fn p rs c a 1 hrd (by omega)) ?_
 |(with_reducible refine K_ca 120 ?_); refine zC (mpresent_fn p rs ⟨c.plan, c.at_, c.phase, c.replica, c.round + 1, c.token, c.mix⟩ (a ++ [entA c 1]) h0 hl (present c) rfl) ?_
 |(with_reducible refine K_ca 152 ?_); refine zT (hmv) ?_
 |(with_reducible refine K_ca 100 ?_); refine zC (hfr) ?_
 |refine wA ?_
 |(refine wC ?_ ?_ <;> intro hc)
 |refine wB ?_ ?_
 |(with_reducible refine JL.block ?_)
 |(with_reducible refine FK_at ?_); refine eK Tryz.results149 ?_
 |exact oM
 |fail)
   all_goals first | (exfalso; omega) | kernel_rfl
  ·have e : beginC p rs c = ⟨c.plan, c.at_, 1, firstR rs (present c).idx, c.round + 1, c.token, c.mix⟩ := by unfold beginC; rw [if_neg k3, if_neg k3, if_neg k1, w1]
   rw [e]
   clear h hv hap
   refine startK (tm := [(0, _)]) (mBo p rs c a) Tryz.func149 rfl Tryz.ntmps149 rfl rfl rfl rfl ?_
   repeat' (first
 |(with_reducible refine rgL (fun g => g == 120) ?_ ?_); exact rfl
 |(with_reducible refine K_ca 122 ?_); refine zT (mwrite_fn p rs c a 1 hrd (by omega)) ?_
 |(with_reducible refine K_ca 120 ?_); refine zC (mpresent_fn p rs ⟨c.plan, c.at_, c.phase, c.replica, c.round + 1, c.token, c.mix⟩ (a ++ [entA c 1]) h0 hl (present c) rfl) ?_
 |(with_reducible refine K_ca 100 ?_); refine zC (hfr) ?_
 |refine wA ?_
 |(refine wC ?_ ?_ <;> intro hc)
 |refine wB ?_ ?_
 |(with_reducible refine JL.block ?_)
 |(with_reducible refine FK_at ?_); refine eK Tryz.results149 ?_
 |exact oM
 |fail)
   all_goals first | (exfalso; omega) | kernel_rfl
theorem mdone_fn (p : Prob) (rs : List Int) (c : CtlD) (a : List ActD) (h : CtlK p c) (hv : PlanV p c.plan) (hs : setErr p rs = 0) (hl : c.plan.length ≤ 1000000) (hrd : -1000000000 ≤ c.round ∧ c.round ≤ 1000000000) (hla : a.length ≤ 900) (hd : (c.phase = 1 ∧ (present c).kind = 2) ∨ c.phase = 2 ∨ c.phase = 4) : FnSound Tryz.prog 121 [.io 140 (machC p rs c (1000, 0))] (actB a) (mRes p rs (doneC p c) (a ++ [entA c 2])) := by
 have w1 : w64 (c.round + 1) = c.round + 1 := w64_is (by omega)
 have h0 : 0 ≤ c.at_ ∧ c.at_ < c.plan.length := ⟨h.rng.1, h.lt (by omega)⟩
 have w2 : w64 (c.at_ + 1) = c.at_ + 1 := w64_is (by omega)
 have hu := h.g.u
 have hk2 := fun b => (h.ph2 b).1
 have hap := fun b => h.applies hv b
 clear hs h hv
 by_cases k1 : (present c).kind = 1
 ·skip
  by_cases hq : c.at_ + 1 = c.plan.length
  ·have e : doneC p c = ⟨c.plan, c.at_ + 1, 6, 0, c.round + 1, c.token, c.mix⟩ := by unfold doneC; rw [w2, if_pos hq, w1, if_neg (fun b => b k1)]
   rw [e]
   clear hap hk2
   refine startK (tm := [(0, _)]) (mBo p rs c a) Tryz.func121 rfl Tryz.ntmps121 rfl rfl rfl rfl ?_
   repeat' (first
 |(with_reducible refine rgL (fun g => g == 120) ?_ ?_); exact rfl
 |(with_reducible refine K_ca 122 ?_); refine zT (mwrite_fn p rs c a 2 hrd (by omega)) ?_
 |(with_reducible refine K_ca 120 ?_); refine zC (mpresent_fn p rs ⟨c.plan, c.at_, c.phase, c.replica, c.round + 1, c.token, c.mix⟩ (a ++ [entA c 2]) h0 hl (present c) rfl) ?_
 |refine wA ?_
 |(refine wC ?_ ?_ <;> intro hc)
 |refine wB ?_ ?_
 |(with_reducible refine JL.block ?_)
 |(with_reducible refine FK_at ?_); refine eK Tryz.results121 ?_
 |exact oM
 |fail)
   all_goals first | (exfalso; omega) | kernel_rfl
  ·have e : doneC p c = ⟨c.plan, c.at_ + 1, 0, 0, c.round + 1, c.token, c.mix⟩ := by unfold doneC; rw [w2, if_neg hq, w1, if_neg (fun b => b k1)]
   rw [e]
   clear hap hk2
   refine startK (tm := [(0, _)]) (mBo p rs c a) Tryz.func121 rfl Tryz.ntmps121 rfl rfl rfl rfl ?_
   repeat' (first
 |(with_reducible refine rgL (fun g => g == 120) ?_ ?_); exact rfl
 |(with_reducible refine K_ca 122 ?_); refine zT (mwrite_fn p rs c a 2 hrd (by omega)) ?_
 |(with_reducible refine K_ca 120 ?_); refine zC (mpresent_fn p rs ⟨c.plan, c.at_, c.phase, c.replica, c.round + 1, c.token, c.mix⟩ (a ++ [entA c 2]) h0 hl (present c) rfl) ?_
 |refine wA ?_
 |(refine wC ?_ ?_ <;> intro hc)
 |refine wB ?_ ?_
 |(with_reducible refine JL.block ?_)
 |(with_reducible refine FK_at ?_); refine eK Tryz.results121 ?_
 |exact oM
 |fail)
   all_goals first | (exfalso; omega) | kernel_rfl
 ·have hmv := mmove_fn p rs c.plan c.at_ c.phase c.replica (c.round + 1) c.token c.mix (a ++ [entA c 2]) (present c) _ hu (hap (by rcases hd with b | b | b; exact .inr (.inl b); exact absurd (hk2 (.inl b)) k1; exact .inr (.inr b)))
  by_cases hq : c.at_ + 1 = c.plan.length
  ·have e : doneC p c = ⟨c.plan, c.at_ + 1, 6, 0, c.round + 1, c.token, afterM p c.mix (present c)⟩ := by unfold doneC; rw [w2, if_pos hq, w1, if_pos k1]
   rw [e]
   clear hap hk2
   refine startK (tm := [(0, _)]) (mBo p rs c a) Tryz.func121 rfl Tryz.ntmps121 rfl rfl rfl rfl ?_
   repeat' (first
 |(with_reducible refine rgL (fun g => g == 120) ?_ ?_); exact rfl
 |(with_reducible refine K_ca 122 ?_); refine zT (mwrite_fn p rs c a 2 hrd (by omega)) ?_
 |(with_reducible refine K_ca 120 ?_); refine zC (mpresent_fn p rs ⟨c.plan, c.at_, c.phase, c.replica, c.round + 1, c.token, c.mix⟩ (a ++ [entA c 2]) h0 hl (present c) rfl) ?_
 |(with_reducible refine K_ca 152 ?_); refine zT (hmv) ?_
 |refine wA ?_
 |(refine wC ?_ ?_ <;> intro hc)
 |refine wB ?_ ?_
 |(with_reducible refine JL.block ?_)
 |(with_reducible refine FK_at ?_); refine eK Tryz.results121 ?_
 |exact oM
 |fail)
   all_goals first | (exfalso; omega) | kernel_rfl
  ·have e : doneC p c = ⟨c.plan, c.at_ + 1, 0, 0, c.round + 1, c.token, afterM p c.mix (present c)⟩ := by unfold doneC; rw [w2, if_neg hq, w1, if_pos k1]
   rw [e]
   clear hap hk2
   refine startK (tm := [(0, _)]) (mBo p rs c a) Tryz.func121 rfl Tryz.ntmps121 rfl rfl rfl rfl ?_
   repeat' (first
 |(with_reducible refine rgL (fun g => g == 120) ?_ ?_); exact rfl
 |(with_reducible refine K_ca 122 ?_); refine zT (mwrite_fn p rs c a 2 hrd (by omega)) ?_
 |(with_reducible refine K_ca 120 ?_); refine zC (mpresent_fn p rs ⟨c.plan, c.at_, c.phase, c.replica, c.round + 1, c.token, c.mix⟩ (a ++ [entA c 2]) h0 hl (present c) rfl) ?_
 |(with_reducible refine K_ca 152 ?_); refine zT (hmv) ?_
 |refine wA ?_
 |(refine wC ?_ ?_ <;> intro hc)
 |refine wB ?_ ?_
 |(with_reducible refine JL.block ?_)
 |(with_reducible refine FK_at ?_); refine eK Tryz.results121 ?_
 |exact oM
 |fail)
   all_goals first | (exfalso; omega) | kernel_rfl
theorem mrepeat_fn (p : Prob) (rs : List Int) (c : CtlD) (a : List ActD) (h : CtlK p c) (hl : c.plan.length ≤ 1000000) (hla : a.length ≤ 900) : FnSound Tryz.prog 150 [.io 140 (machC p rs c (1000, 0))] (actB a) (mRes p rs c (a ++ repeatP c)) := by
 have h0 := fun b => (⟨h.rng.1, h.lt b⟩ : 0 ≤ c.at_ ∧ c.at_ < c.plan.length)
 have hi := h.svc
 have h1 := h.ph1
 have h2 := h.ph2
 have hcm := fun b i => mcommand_fn p rs c a b hl i
 have hpr := fun b => mpresent_fn p rs c a b hl (present c) rfl
 clear h
 by_cases p1 : c.phase = 1 ∨ c.phase = 3
 ·have hk : ¬ (present c).kind = 3 := by rcases p1 with b | b; (rcases h1 b with b | b <;> omega); have := (h2 (.inr b)).1; omega
  have hi := hi (by omega) hk
  have hcm := hcm (h0 (by omega)) (by omega)
  have e : repeatP c = [⟨2, nilE, c.round, c.replica, wantedP c, 0, 0⟩] := by unfold repeatP; rw [if_pos p1]
  rw [e]
  clear h0 h1 h2 hpr
  refine startK (tm := [(0, _)]) (mBo p rs c a) Tryz.func150 rfl Tryz.ntmps150 rfl rfl rfl rfl ?_
  repeat' (first
 |(with_reducible refine rgL (fun g => g == 151 || g == 120) ?_ ?_); exact rfl
 |(with_reducible refine K_ca 151 ?_); refine zC (hcm) ?_
 |refine wA ?_
 |(refine wC ?_ ?_ <;> intro hc)
 |refine wB ?_ ?_
 |(with_reducible refine JL.block ?_)
 |(with_reducible refine FK_at ?_); refine eK Tryz.results150 ?_
 |exact oM
 |fail)
  all_goals first | (exfalso; omega) | (rw [dActs_snoc]; kernel_rfl) | kernel_rfl
 ·by_cases p2 : c.phase = 2
  ·have hk : ¬ (present c).kind = 3 := by have := (h2 (.inl p2)).1; omega
   have hi := hi (by omega) hk
   have hcm := hcm (h0 (by omega)) (by omega)
   have hpr := hpr (h0 (by omega))
   have e : repeatP c = [⟨3, nilE, c.round, c.replica, wantedP c, (present c).idx, 0⟩] := by unfold repeatP; rw [if_neg p1, if_pos p2]
   rw [e]
   clear h0 h1 h2
   refine startK (tm := [(0, _)]) (mBo p rs c a) Tryz.func150 rfl Tryz.ntmps150 rfl rfl rfl rfl ?_
   repeat' (first
 |(with_reducible refine rgL (fun g => g == 151 || g == 120) ?_ ?_); exact rfl
 |(with_reducible refine K_ca 151 ?_); refine zC (hcm) ?_
 |(with_reducible refine K_ca 120 ?_); refine zC (hpr) ?_
 |refine wA ?_
 |(refine wC ?_ ?_ <;> intro hc)
 |refine wB ?_ ?_
 |(with_reducible refine JL.block ?_)
 |(with_reducible refine FK_at ?_); refine eK Tryz.results150 ?_
 |exact oM
 |fail)
   all_goals first | (exfalso; omega) | (rw [dActs_snoc]; kernel_rfl) | kernel_rfl
  ·by_cases p4 : c.phase = 4
   ·have hpr := hpr (h0 (by omega))
    have e : repeatP c = [⟨4, nilE, c.round, 0, 0, 0, (present c).idx⟩] := by unfold repeatP; rw [if_neg p1, if_neg p2, if_pos p4]
    rw [e]
    clear h0 h1 h2 hcm hi
    refine startK (tm := [(0, _)]) (mBo p rs c a) Tryz.func150 rfl Tryz.ntmps150 rfl rfl rfl rfl ?_
    repeat' (first
 |(with_reducible refine rgL (fun g => g == 151 || g == 120) ?_ ?_); exact rfl
 |(with_reducible refine K_ca 120 ?_); refine zC (hpr) ?_
 |refine wA ?_
 |(refine wC ?_ ?_ <;> intro hc)
 |refine wB ?_ ?_
 |(with_reducible refine JL.block ?_)
 |(with_reducible refine FK_at ?_); refine eK Tryz.results150 ?_
 |exact oM
 |fail)
    all_goals first | (exfalso; omega) | (rw [dActs_snoc]; kernel_rfl) | kernel_rfl
   ·have e : repeatP c = [] := by unfold repeatP; rw [if_neg p1, if_neg p2, if_neg p4]
    rw [e, List.append_nil]
    clear h0 h1 h2 hcm hi hpr
    refine startK (tm := [(0, _)]) (mBo p rs c a) Tryz.func150 rfl Tryz.ntmps150 rfl rfl rfl rfl ?_
    repeat' (first
 |refine wA ?_
 |(refine wC ?_ ?_ <;> intro hc)
 |refine wB ?_ ?_
 |(with_reducible refine JL.block ?_)
 |(with_reducible refine FK_at ?_); refine eK Tryz.results150 ?_
 |exact oM
 |fail)
    all_goals first | (exfalso; omega) | kernel_rfl
end Go.Proofs.YtbdjcgjdmhgnmaaGreat

namespace Go.Proofs.YtbdjcgjdmhgnmaaGreat
open Go Go.RowKit
set_option linter.unusedSimpArgs false
set_option linter.unusedVariables false
set_option maxRecDepth 100000
theorem sv_eqInt2 {P : Program} {t : TypeId} {k k' : IntKind} {a b : Int} (h : P.underlying t = some (.int k')) (d : Nat) : semVal P (Op.equalIn (d + 1) t (.int k a) (.int k b)) = some (a == b) := by
 simp only [Op.equalIn]
 rw [semVal_bind, semVal_underlying h]
 show semVal P (if k = k then pure (a == b) else _) = _
 rw [if_pos rfl]; rfl
theorem sv_cmd (a b c x y z : Int) (d : Nat) : semVal Tryz.prog (Op.equalIn (d + 2) 74 (.agg #[.int .i64 a, .int .i64 b, .int .i64 c]) (.agg #[.int .i64 x, .int .i64 y, .int .i64 z])) = some (decide (a = x ∧ b = y ∧ c = z)) := by
 have h3 : Tryz.prog.underlying 3 = some (.int .i64) := by kernel_rfl
 rw [Op.equalIn]
 rw [semVal_bind, semVal_underlying Tryz.underlying74]
 simp only [Option.bind_some]
 have hp : semVal Tryz.prog program = some Tryz.prog := rfl
 have hst : Tryz.prog.stoodInHeld 74 = false := by kernel_rfl
 have p0 : ∀ x y z : Value, semVal Tryz.prog (part 3 #[x, y, z] 0) = some x := fun x y z => by rfl
 have p1 : ∀ x y z : Value, semVal Tryz.prog (part 3 #[x, y, z] 1) = some y := fun x y z => by rfl
 have p2 : ∀ x y z : Value, semVal Tryz.prog (part 3 #[x, y, z] 2) = some z := fun x y z => by rfl
 simp only [semVal_bind, hp, Option.bind_some, hst, Bool.false_eq_true, if_false, List.forIn_toArray, List.forIn_cons, List.forIn_nil]
 by_cases e1 : a = x
 ·by_cases e2 : b = y
  ·by_cases e3 : c = z
   ·simp [semVal_bind, p0, p1, p2, sv_eqInt2 h3, semVal_pure, e1, e2, e3]
   ·simp [semVal_bind, p0, p1, p2, sv_eqInt2 h3, semVal_pure, e1, e2, e3]
  ·simp [semVal_bind, p0, p1, p2, sv_eqInt2 h3, semVal_pure, e1, e2]
 ·simp [semVal_bind, p0, p1, p2, sv_eqInt2 h3, semVal_pure, e1]
theorem sv_neCmd (a b c x y z : Int) : semVal Tryz.prog (binOp .neq 74 (.agg #[.int .i64 a, .int .i64 b, .int .i64 c]) (.agg #[.int .i64 x, .int .i64 y, .int .i64 z])) = some (.bool (!decide (a = x ∧ b = y ∧ c = z))) := by
 have : semVal Tryz.prog (Op.equal 74 (.agg #[.int .i64 a, .int .i64 b, .int .i64 c]) (.agg #[.int .i64 x, .int .i64 y, .int .i64 z])) = some (decide (a = x ∧ b = y ∧ c = z)) := sv_cmd a b c x y z 9998
 simp only [binOp]
 rw [semVal_bind, this]
 rfl
theorem sv_guardCmd (x y : Operand) (u v : Array Value) : semVal Tryz.prog (eqGuard .neq 74 x y (.agg u) (.agg v)) = some () := by
 have hp : semVal Tryz.prog program = some Tryz.prog := rfl
 have hg : Tryz.prog.eqGuardType Tryz.prog.depth 74 = false := by kernel_rfl
 unfold eqGuard
 simp [semVal_bind, hp, hg]
 rfl
section
variable {lend : FuncId → Bool} {N : Nat} {ops : Array Oper} {dr : Bool} {cs : List Code} {R : AX → St → Prop} {i : Nat} {os : List Oper} {tm : List (Nat × AV)} {bo : BO} {nx : Nat} {ns : List Note} {d : Nat} {pos : String} {ty : TypeId} {af : Array Edge}
theorem W.neCmd {ty' : TypeId} {x y : Operand} {a b c a' b' c' : Int} {v : Bool} (hv : decide (a = a' ∧ b = b' ∧ c = c') = v) (hd : Nat.blt d N = true) (hx : ev (lk tm) x = some (.one true [.d (.v (.int .i64 a)), .d (.v (.int .i64 b)), .d (.v (.int .i64 c))])) (hy : ev (lk tm) y = some (.one true [.d (.v (.int .i64 a')), .d (.v (.int .i64 b')), .d (.v (.int .i64 c'))])) (h : W Tryz.prog lend N ops dr cs R (i + 1) os ((d, .one false [.d (.v (.bool (!v)))]) :: tm) bo nx (ns ++ [⟨opKeys (lk tm) (lko bo) ⟨some d, .binOp .neq 74 x y ty', ty, pos, af, none⟩, []⟩])) : W Tryz.prog lend N ops dr cs R i (⟨some d, .binOp .neq 74 x y ty', ty, pos, af, none⟩ :: os) tm bo nx ns :=
 W.plain hd (fun lt hlt => by
  subst hv
  have hx' := (hlt x (by simp [Op.operands])).trans hx
  have hy' := (hlt y (by simp [Op.operands])).trans hy
  have hc : ∀ (a b c : Int) z, conV (.one true [.d (.v (.int .i64 a)), .d (.v (.int .i64 b)), .d (.v (.int .i64 c))]) = z → z = some (.agg #[.int .i64 a, .int .i64 b, .int .i64 c]) := fun _ _ _ z e => e.symm.trans rfl
  have hcv := fun a b c => hc a b c _ rfl
  unfold effPlain
  simp only [plainOp, Op.operands, List.all_cons, List.all_nil, hx', hy', Option.bind_some, hcv, Option.isSome_some, Bool.and_true, Bool.true_and, if_true]
  unfold execOp
  simp only [semVal_bind, hx', hy', Option.bind_some, hcv, Option.getD_some, sv_guardCmd, sv_neCmd, semVal_pure, Option.map_some, semVal_map]
  rfl) (fun _ _ _ _ _ _ => rfl) h
end
end Go.Proofs.YtbdjcgjdmhgnmaaGreat

