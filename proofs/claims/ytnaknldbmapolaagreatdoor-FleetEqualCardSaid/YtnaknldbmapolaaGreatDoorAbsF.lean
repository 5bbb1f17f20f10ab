/-
  The abstract machine is right: functions.
-/
import Derived.Test.YtnaknldbmapolaaGreatDoorAbsC
namespace Go.Proofs.YtnaknldbmapolaaGreatDoor
open Go Go.RowKit
set_option linter.unusedSimpArgs false
set_option linter.unusedVariables false
def ltOne (av : AV) (t : Nat) : Option AV := if t = 0 then some av else none
/-- What an abstract run of a function says of its calls. -/
def FnSound (P : Program) (f : FuncId) (args : List Arg) (bxs : List (Key × Box)) (r : ARes) : Prop :=
  ∀ (V X : Nat → Prop) (Z : Key → Option Nat) (ρ : Key → Hd) (w : World) (vals : List Value), vals.length = args.length →
    Rel V X Z w vals.length ρ (fun q => q.2 < 1) (lk (argTm 0 args)) (lk (argBx 0 args ++ bxs)) ⟨vals.toArray, []⟩ w →
    Calls P f vals.toArray w fun e w' => ∃ v ρ', e = .returned v ∧ Rel V X Z w 1 ρ' (fun _ => True) (ltOne (resAV id r.vals)) (lk (ioBx 0 args r.ios ++ r.bx)) ⟨#[v], []⟩ w'
def CallOk (P : Program) (call : CallF) : Prop := ∀ f args bxs r, call f args bxs = some r → FnSound P f args bxs r
theorem lk_append {α β : Type} [DecidableEq α] (k : α) : ∀ (l m : List (α × β)), lk (l ++ m) k = match lk l k with | some x => some x | none => lk m k
  | [], m => rfl
  | (q, v) :: l, m => by
    show (if k = q then some v else lk (l ++ m) k) = match (if k = q then some v else lk l k) with | some x => some x | none => lk m k
    by_cases h : k = q
    · rw [if_pos h, if_pos h]
    · rw [if_neg h, if_neg h, lk_append k l m]
theorem capRen_id (c : Cap) : capRen id c = c := by cases c <;> rfl
theorem renC_id (c : C) : renC id c = c := by
  cases c with
  | fn g caps => show C.fn g (caps.map (capRen id)) = _; rw [show capRen id = id from funext capRen_id, List.map_id]
  | _ => rfl
theorem resAV_id_one (b : Bool) (cs : List C) : resAV id [(b, cs)] = .one b cs := by
  simp only [resAV]
  congr 1
  rw [show renC id = id from funext renC_id]
  simp
theorem resAV_id_tup {xs : List (Bool × List C)} (h : xs.length ≠ 1) : resAV id xs = .tup xs := by
  have e : (xs.map fun (p : Bool × List C) => (p.1, p.2.map (renC id))) = xs := by
    rw [show renC id = id from funext renC_id]
    simp
  unfold resAV
  split
  · simp at h
  · congr 1
section
variable {V X : Nat → Prop} {Z : Key → Option Nat} {w0 w : World} {N : Nat} {P : Program} {E : Env} {ρ : Key → Hd} {ok : Key → Prop} {lt : Nat → Option AV} {lb lb2 : Key → Option Box} {a : Act}
/-- A result's cell. -/
theorem outC_sound (h : Rel V X Z w0 N ρ ok lt lb a w) (hs : Shut lb lb2) {keep : Bool} {c c' : C} {ks : List Key} (he : outC keep lb c = some (c', ks)) (hk : ∀ q ∈ ks, ∀ ty sz rows, lb q = some (.sl ty sz rows) → lb2 q = some (.fz sz rows)) {v : Value} (hv : CRel (Im V ρ lb) ρ ok w c v) :
    CRel (Im V ρ lb2) ρ ok w c' v := by
  have hm : ∀ b, b < w.heap.size → Im V ρ lb b → Im V ρ lb2 b := fun b _ hi => im_shut hs hi
  have gen : CRel (Im V ρ lb2) ρ ok w c v := hv.keep (Keep.refl _ _) hm (fun _ _ => rfl) (fun _ h => h)
  cases c with
  | own q =>
    simp only [outC] at he
    split at he
    · rename_i sz rows hq
      cases he
      obtain ⟨_, rfl⟩ := hv
      exact Rd.mono (h.bx q _ hq).2 hm
    · rename_i ty sz rows hq
      split at he
      · cases he; exact gen
      · cases he
        obtain ⟨_, rfl⟩ := hv
        have := ((h.shut hs).bx q _ (hk q (by simp) ty sz rows hq)).2
        exact this
    · cases he
  | ptr q o => simp [outC] at he; obtain ⟨_, rfl, rfl⟩ := he; exact gen
  | arr q n z => simp [outC] at he; obtain ⟨_, rfl, rfl⟩ := he; exact gen
  | mp q => simp [outC] at he
  | fn g caps => simp only [outC] at he; split at he <;> cases he; exact gen
  | eptr q i o => simp [outC] at he
  | d d => simp [outC] at he; obtain ⟨rfl, rfl⟩ := he; exact gen
  | zero => simp [outC] at he; obtain ⟨rfl, rfl⟩ := he; exact gen
  | rptr row o => simp [outC] at he; obtain ⟨rfl, rfl⟩ := he; exact gen
  | dead => simp [outC] at he; obtain ⟨rfl, rfl⟩ := he; exact gen
theorem outCs_sound (h : Rel V X Z w0 N ρ ok lt lb a w) (hs : Shut lb lb2) {keep : Bool} : ∀ {cs cs' : List C} {ks : List Key} {vs : List Value}, outCs keep lb cs = some (cs', ks) → (∀ q ∈ ks, ∀ ty sz rows, lb q = some (.sl ty sz rows) → lb2 q = some (.fz sz rows)) → All2 (CRel (Im V ρ lb) ρ ok w) cs vs → All2 (CRel (Im V ρ lb2) ρ ok w) cs' vs
  | [], cs', ks, vs, he, hk, hA => by simp [outCs] at he; obtain ⟨rfl, rfl⟩ := he; cases hA; exact .nil
  | c :: cs, cs', ks, vs, he, hk, hA => by
    unfold outCs at he
    cases h1 : outC keep lb c with
    | none => simp [h1] at he
    | some p =>
      cases h2 : outCs keep lb cs with
      | none => simp [h1, h2] at he
      | some r =>
        obtain ⟨c', k1⟩ := p
        obtain ⟨cs'', k2⟩ := r
        simp [h1, h2] at he
        obtain ⟨rfl, rfl⟩ := he
        cases hA with
        | cons x y => exact .cons (outC_sound h hs h1 (fun q hq => hk q (by simp [hq])) x) (outCs_sound h hs h2 (fun q hq => hk q (by simp [hq])) y)
theorem outVals_sound (h : Rel V X Z w0 N ρ ok lt lb a w) (hs : Shut lb lb2) {keep : Bool} : ∀ {xs xs' : List (Bool × List C)} {ks : List Key} {vs : List Value}, outVals keep lb xs = some (xs', ks) → (∀ q ∈ ks, ∀ ty sz rows, lb q = some (.sl ty sz rows) → lb2 q = some (.fz sz rows)) → Alls (CRel (Im V ρ lb) ρ ok w) xs vs → Alls (CRel (Im V ρ lb2) ρ ok w) xs' vs
  | [], xs', ks, vs, he, hk, hA => by simp [outVals] at he; obtain ⟨rfl, rfl⟩ := he; cases hA; exact .nil
  | (b, cs) :: xs, xs', ks, vs, he, hk, hA => by
    unfold outVals at he
    cases h1 : outCs keep lb cs with
    | none => simp [h1] at he
    | some p =>
      cases h2 : outVals keep lb xs with
      | none => simp [h1, h2] at he
      | some r =>
        obtain ⟨c', k1⟩ := p
        obtain ⟨xs'', k2⟩ := r
        simp [h1, h2] at he
        obtain ⟨rfl, rfl⟩ := he
        cases hA with
        | cons x y =>
          obtain ⟨us, u1, u2⟩ := x
          exact .cons ⟨us, outCs_sound h hs h1 (fun q hq => hk q (by simp [hq])) u1, u2⟩ (outVals_sound h hs h2 (fun q hq => hk q (by simp [hq])) y)
theorem outVals_len {keep : Bool} : ∀ {xs xs' : List (Bool × List C)} {ks : List Key}, outVals keep lb xs = some (xs', ks) → xs'.length = xs.length
  | [], xs', ks, he => by simp [outVals] at he; obtain ⟨rfl, rfl⟩ := he; rfl
  | (b, cs) :: xs, xs', ks, he => by
    unfold outVals at he
    cases h1 : outCs keep lb cs with
    | none => simp [h1] at he
    | some p =>
      cases h2 : outVals keep lb xs with
      | none => simp [h1, h2] at he
      | some r =>
        simp [h1, h2] at he
        obtain ⟨rfl, rfl⟩ := he
        simp [outVals_len h2]
/-- A result is read. -/
def resRead (tmps : Array Value) : ResultVar → Sem Value
  | .tmp t => pure (tmps.getD t undef)
  | .cell a t => do loadVar t (← asAddr (tmps.getD a undef))
theorem resOf_sound {st : St} (h : Rel V X Z w0 N ρ ok (lk st.tm) (lk st.bx) a w) {rv : ResultVar} {b : Bool} {cs : List C} (he : resOf P st rv = some (b, cs)) : ∃ v, (resRead a.tmps rv).run P w = .ok v w ∧ One (CRel (Im V ρ (lk st.bx)) ρ ok w) b cs v := by
  cases rv with
  | tmp t =>
    simp only [resOf] at he
    split at he
    · rename_i b' cs' ht
      cases he
      exact ⟨_, rfl, (h.tm t _ ht).2⟩
    · cases he
  | cell ad t =>
    simp only [resOf] at he
    split at he
    · rename_i c hc
      obtain ⟨av, h1, h2⟩ := Option.bind_eq_some_iff.1 hc
      have hv := slot1_sound h2 (h.tm ad av h1).2
      cases hb : behind (lk st.bx) c with
      | none => simp [hb] at he
      | some p =>
        obtain ⟨cs', off⟩ := p
        obtain ⟨bl, o', vs, e1, e2, e3⟩ := behind_sound h (fun _ _ h => h) hb hv
        have hav : (match some (cs', off), aggT P t, sizeT P t with
          | some (cs, off), some true, some sz => if off + sz ≤ cs.length then some (AV.one true ((cs.drop off).take sz)) else none
          | some (cs, off), some false, some _ => (cs[off]?).map fun c => AV.one false [c]
          | _, _, _ => none) = some (.one b cs) := by
          rw [hb] at he
          cases hg : aggT P t with
          | none => simp [hg] at he
          | some g =>
            cases hs : sizeT P t with
            | none => cases g <;> simp [hg, hs] at he
            | some sz =>
              cases g with
              | true => simp [hg, hs] at he ⊢; obtain ⟨h5, rfl, rfl⟩ := he; exact ⟨h5, rfl, rfl⟩
              | false => simp [hg, hs] at he ⊢; obtain ⟨c', h5, rfl, rfl⟩ := he; exact ⟨c', h5, rfl, rfl⟩
        obtain ⟨v, r1, r2⟩ := load_run (w := w) (P := P) e2 e3 hav
        refine ⟨v, ?_, r2⟩
        simp [resRead, e1, asAddr, r1]
    · cases he
theorem resList_sound {st : St} (h : Rel V X Z w0 N ρ ok (lk st.tm) (lk st.bx) a w) : ∀ {rvs : List ResultVar} {xs : List (Bool × List C)}, rvs.mapM (resOf P st) = some xs → ∃ vs, (rvs.mapM (resRead a.tmps)).run P w = .ok vs w ∧ Alls (CRel (Im V ρ (lk st.bx)) ρ ok w) xs vs
  | [], xs, he => by simp at he; subst he; exact ⟨[], by simp, .nil⟩
  | rv :: rvs, xs, he => by
    simp only [List.mapM_cons, Option.bind_eq_bind, Option.pure_def] at he
    cases h1 : resOf P st rv with
    | none => simp [h1] at he
    | some p =>
      cases h2 : rvs.mapM (resOf P st) with
      | none => simp [h1, h2] at he
      | some r =>
        simp [h1, h2] at he
        subst he
        obtain ⟨v, v1, v2⟩ := resOf_sound (P := P) h h1
        obtain ⟨vs, u1, u2⟩ := resList_sound h h2
        exact ⟨v :: vs, by simp [List.mapM_cons, v1, u1], .cons v2 u2⟩
theorem Alls.length {R : C → Value → Prop} {xs : List (Bool × List C)} {vs : List Value} (h : Alls R xs vs) : xs.length = vs.length := by induction h with | nil => rfl | cons _ _ ih => simp [ih]
theorem results_sound {st : St} (h : Rel V X Z w0 N ρ ok (lk st.tm) (lk st.bx) a w) {fn : Func} {xs : List (Bool × List C)} (he : fn.results.toList.mapM (resOf P st) = some xs) : ∃ vs, Alls (CRel (Im V ρ (lk st.bx)) ρ ok w) xs vs ∧
    (results fn a.tmps).run P w = .ok (if h : vs.length = 1 then vs[0] else .tuple vs.toArray) w := by
  obtain ⟨vs, u1, u2⟩ := resList_sound (P := P) h he
  refine ⟨vs, u2, ?_⟩
  have e1 : results fn a.tmps = (do let vs ← fn.results.mapM (resRead a.tmps); pure (if h : vs.size = 1 then vs[0] else .tuple vs)) := by
    unfold results
    congr 1
    first
      | (congr 1; funext rv; cases rv <;> rfl)
      | (funext rv; cases rv <;> rfl)
      | skip
  rw [e1, Array.mapM_eq_mapM_toList]
  simp [u1]
theorem keepB_lk {bx : List (Key × Box)} : ∀ {ks : List Key} {b : List (Key × Box)}, keepB bx ks = some b → ∀ q box, lk b q = some box → lk bx q = some box ∨ ∃ ty cs d k, lk bx q = some (.st ty cs) ∧ box = .st ty d ∧ outCs true (lk bx) cs = some (d, k)
  | [], b, he, q, box, hq => by simp [keepB] at he; subst he; cases hq
  | k :: ks, b, he, q, box, hq => by
    unfold keepB at he
    split at he
    · rename_i ty sz rows r h1 h2
      cases he
      split at hq
      · exact keepB_lk h2 q box hq
      · by_cases e : q = k
        · subst e
          rw [show lk ((q, Box.sl ty sz rows) :: r) q = some (.sl ty sz rows) from if_pos rfl] at hq
          cases hq
          exact .inl h1
        · rw [show lk ((k, Box.sl ty sz rows) :: r) q = lk r q from if_neg e] at hq
          exact keepB_lk h2 q box hq
    · rename_i ty cs r h1 h2
      split at he
      · rename_i d kk h3
        cases he
        split at hq
        · exact keepB_lk h2 q box hq
        · by_cases e : q = k
          · subst e
            rw [show lk ((q, Box.st ty d) :: r) q = some (.st ty d) from if_pos rfl] at hq
            cases hq
            exact .inr ⟨ty, cs, d, kk, h1, rfl, h3⟩
          · rw [show lk ((k, Box.st ty d) :: r) q = lk r q from if_neg e] at hq
            exact keepB_lk h2 q box hq
      · cases he
    · cases he
theorem outIos_lk : ∀ {i : Nat} {args : List Arg} {ios : List (List C)}, outIos lb i args = some ios → ∀ q box, lk (ioBx i args ios) q = some box → ∃ ty cs d ks, lb q = some (.st ty cs) ∧ box = .st ty d ∧ outCs true lb cs = some (d, ks)
  | i, [], ios, he, q, box, hq => by simp [outIos] at he; subst he; cases hq
  | i, .val b cs :: r, ios, he, q, box, hq => outIos_lk (i := i + 1) (args := r) (by simpa [outIos] using he) q box hq
  | i, .io ty cs0 :: r, ios, he, q, box, hq => by
    simp only [outIos] at he
    split at he
    · rename_i ty' cs h1
      split at he
      · rename_i hty
        subst hty
        split at he
        · rename_i d ks ds h2 h3
          cases he
          simp only [ioBx] at hq
          by_cases e : q = (i, 0)
          · subst e
            rw [show ∀ (l : List (Key × Box)), lk (((i, 0), Box.st ty' d) :: l) (i, 0) = some (.st ty' d) from fun l => if_pos rfl] at hq
            cases hq
            exact ⟨ty', cs, d, ks, h1, rfl, h2⟩
          · rw [show ∀ (l : List (Key × Box)), lk (((i, 0), Box.st ty' d) :: l) q = lk l q from fun l => if_neg e] at hq
            exact outIos_lk h3 q box hq
        · cases he
      · cases he
    · cases he
theorem outCs_true {lb : Key → Option Box} : ∀ {cs d : List C} {ks : List Key}, outCs true lb cs = some (d, ks) → ks = []
  | [], d, ks, he => by simp [outCs] at he; exact he.2
  | c :: cs, d, ks, he => by
    unfold outCs at he
    cases h1 : outC true lb c with
    | none => simp [h1] at he
    | some p =>
      cases h2 : outCs true lb cs with
      | none => simp [h1, h2] at he
      | some r =>
        obtain ⟨c', k1⟩ := p
        obtain ⟨cs'', k2⟩ := r
        simp [h1, h2] at he
        obtain ⟨_, rfl⟩ := he
        have := outCs_true h2
        subst this
        cases c <;> simp [outC] at h1
        case own q => split at h1 <;> simp at h1 <;> simp [h1.2]
        all_goals simp [h1.2]
theorem freeze_mem {ks : List Key} {q : Key} (hm : q ∈ ks) {ty : TypeId} {sz : Nat} {rows : List (List D)} : ∀ {bx : List (Key × Box)}, lk bx q = some (.sl ty sz rows) → lk (freezeB ks bx) q = some (.fz sz rows)
  | [], h => by cases h
  | (k, b) :: r, h => by
    by_cases e : q = k
    · subst e
      rw [show lk ((q, b) :: r) q = some b from if_pos rfl] at h
      cases h
      have hc : ks.contains q = true := by simpa using hm
      show (if q = q then some (if ks.contains q then Box.fz sz rows else Box.sl ty sz rows) else _) = _
      rw [if_pos rfl, if_pos hc]
    · rw [show lk ((k, b) :: r) q = lk r q from if_neg e] at h
      show (if q = k then _ else lk (freezeB ks r) q) = _
      rw [if_neg e]
      exact freeze_mem hm h
end
theorem afn_sound {P : Program} {E : Env} {f : FuncId} {own : Bool} {args : List Arg} {bxs : List (Key × Box)} {r : ARes} (hm : P.follows .mixedOrders = true) (hop : ∀ i, OpSound P (E.call i) E.lend) (hN : E.N = ((P.funcs[f]?).map (·.ntmps)).getD 0)
    (hcl : ∀ V X Z w0 N c st a w, SR V X Z w0 N st a w → SR V X Z w0 N (E.cl c st) a w) (he : afn P E own f args bxs = some r) : FnSound P f args bxs r := by
  intro V X Z ρ w vals hlen hR
  unfold afn at he
  split at he
  · rename_i fn hf
    split at he
    · rename_i body hbody
      split at he
      · rename_i hc
        have hNN : E.N = fn.ntmps := by rw [hN, hf]; rfl
        refine calls_of_wp hf hbody ?_
        have hsz : (vals.toArray ++ Array.replicate (fn.ntmps - vals.toArray.size) undef).size = fn.ntmps := by simp; omega
        have h0 : SR V X Z w fn.ntmps { tm := argTm 0 args, bx := argBx 0 args ++ bxs, nx := 1 } { tmps := vals.toArray ++ Array.replicate (fn.ntmps - vals.toArray.size) undef, defers := [] } w := by
          refine ⟨ρ, hsz, rfl, fun t av ht => ?_, hR.bx, hR.ap, hR.lo, hR.fr, hR.va, hR.zz⟩
          obtain ⟨h1, h2⟩ := hR.tm t av ht
          refine ⟨by omega, ?_⟩
          have e1 : (vals.toArray ++ Array.replicate (fn.ntmps - vals.toArray.size) undef).getD t undef = vals.toArray.getD t undef := by
            simp [Array.getD_eq_getD_getElem?, Array.getElem?_append, h1]
          rw [e1]
          exact h2
        have fin : ∀ (st : St) (a : Act) (w' : World), SR V X Z w fn.ntmps st a w' → (match fn.results.toList.mapM (resOf P st) with
          | some vs => match outVals own (lk st.bx) vs with
            | some (vals, ks) =>
              match outIos (lk (freezeB ks st.bx)) 0 args with
              | some ios => match keepB (freezeB ks st.bx) (leadK (freezeB ks st.bx) 4 (vals.flatMap (fun (_, cs) => cs.flatMap keysC) ++ ios.flatMap fun cs => cs.flatMap keysC)) with
                | some b => some ({ vals, ios, bx := b } : ARes)
                | none => none
              | none => none
            | none => none
          | none => none) = some r → a.defers = [] ∧ ∃ v, (results fn a.tmps).run P w' = .ok v w' ∧ ∃ v' ρ', Ending.returned v = .returned v' ∧ Rel V X Z w 1 ρ' (fun _ => True) (ltOne (resAV id r.vals)) (lk (ioBx 0 args r.ios ++ r.bx)) ⟨#[v'], []⟩ w' := by
          intro st a w' ⟨ρ1, hR1⟩ hr
          split at hr
          · rename_i xs hxs
            split at hr
            · rename_i vals' ks hov
              split at hr
              · rename_i ios hio
                split at hr
                · rename_i b hb
                  cases hr
                  obtain ⟨vs, hA, hrun⟩ := results_sound (P := P) hR1 hxs
                  refine ⟨hR1.defers, _, hrun, _, ρ1, rfl, ?_⟩
                  have hs := freeze_Shut ks st.bx
                  have hR2 := hR1.shut hs
                  have hA2 := outVals_sound hR1 hs hov (fun q hq ty sz rows hb => freeze_mem hq hb) hA
                  have hback : ∀ q box, lk (ioBx 0 args ios ++ b) q = some box → ∃ box', lk (freezeB ks st.bx) q = some box' ∧ box.live = box'.live ∧ (box = box' ∨ ∃ ty cs d k, box' = .st ty cs ∧ box = .st ty d ∧ outCs true (lk (freezeB ks st.bx)) cs = some (d, k)) := by
                    intro q box hq
                    rw [lk_append] at hq
                    cases h1 : lk (ioBx 0 args ios) q with
                    | none =>
                      rw [h1] at hq
                      rcases keepB_lk hb q box hq with g | ⟨ty, cs, d, k, g1, g2, g3⟩
                      · exact ⟨box, g, rfl, .inl rfl⟩
                      · exact ⟨_, g1, by rw [g2]; rfl, .inr ⟨ty, cs, d, k, rfl, g2, g3⟩⟩
                    | some x =>
                      rw [h1] at hq
                      cases hq
                      obtain ⟨ty, cs, d, k, g1, g2, g3⟩ := outIos_lk hio q box h1
                      exact ⟨_, g1, by rw [g2]; rfl, .inr ⟨ty, cs, d, k, rfl, g2, g3⟩⟩
                  have him : ∀ bl, bl < w'.heap.size → Im V ρ1 (lk (freezeB ks st.bx)) bl → Im V ρ1 (lk (ioBx 0 args ios ++ b)) bl := by
                    intro bl _ hi
                    refine ⟨hi.1, fun q box hq hl => ?_⟩
                    obtain ⟨box', g1, g2, _⟩ := hback q box hq
                    exact hi.2 q box' g1 (by rw [← g2]; exact hl)
                  have hkeep : ∀ c v, CRel (Im V ρ1 (lk (freezeB ks st.bx))) ρ1 (fun q => q.2 < st.nx) w' c v → CRel (Im V ρ1 (lk (ioBx 0 args ios ++ b))) ρ1 (fun _ => True) w' c v := fun c v hcv => hcv.keep (Keep.refl _ _) him (fun _ _ => rfl) (fun _ _ => trivial)
                  refine ⟨rfl, rfl, fun t av ht => ?_, fun q box hq => ?_, fun q1 b1 q2 b2 bl e1 l1 e2 l2 => ?_, fun q box bl hq hl hg => ?_, hR2.fr, hR2.va, fun q hq => ⟨trivial, (hR2.zz q hq).2⟩⟩
                  · unfold ltOne at ht
                    split at ht
                    · rename_i h0
                      subst h0
                      cases ht
                      refine ⟨by omega, ?_⟩
                      have hl1 := outVals_len hov
                      have hl2 := hA.length
                      have hA3 := hA2.imp hkeep
                      by_cases h1 : vs.length = 1
                      · rw [dif_pos h1]
                        match vs, xs, vals', h1, hA3, hl1, hl2 with
                        | [v], [x], [(bb, cs)], _, hA3, _, _ =>
                          rw [resAV_id_one]
                          cases hA3 with
                          | cons h t => exact h
                      · rw [dif_neg h1, resAV_id_tup (xs := vals') (by omega)]
                        exact ⟨vs, by simp, hA3⟩
                    · cases ht
                  · refine ⟨trivial, ?_⟩
                    obtain ⟨box', g1, g2, g3⟩ := hback q box hq
                    obtain ⟨o1, o2⟩ := hR2.bx q box' g1
                    rcases g3 with rfl | ⟨ty, cs, d, k, rfl, rfl, g4⟩
                    · exact o2.keep (Keep.refl _ _) him (fun _ _ => rfl) (fun _ _ => trivial) o1 (fun _ _ _ => rfl)
                    · obtain ⟨bl, us, u1, u2, u3⟩ := o2
                      have hk0 := outCs_true g4
                      subst hk0
                      have := outCs_sound hR2 (lb2 := lk (freezeB ks st.bx)) (fun q => .inl rfl) g4 (by simp) u3
                      exact ⟨bl, us, u1, u2, this.imp fun c v _ => hkeep c v⟩
                  · obtain ⟨x1, g1, g2, _⟩ := hback q1 b1 e1
                    obtain ⟨x2, g3, g4, _⟩ := hback q2 b2 e2
                    exact hR2.ap q1 x1 q2 x2 bl g1 (by rw [← g2]; exact l1) g3 (by rw [← g4]; exact l2)
                  · obtain ⟨x1, g1, g2, _⟩ := hback q box hq
                    exact hR2.lo q x1 bl g1 (by rw [← g2]; exact hl) hg
                · cases hr
              · cases hr
            · cases hr
          · cases hr
        split at he
        · cases he
        · rename_i x st hne hex
          refine wp_mono (exec_sound hm hop (by rw [hNN]) (fun c st a w => hcl _ _ _ _ _ c st a w) body _ _ hex _ w h0) (fun e a w' hq => ?_)
          cases e with
          | normal => exact fin st a w' hq.2 he
          | ret => exact fin st a w' hq.2 he
          | exit id =>
            have h1 := hq.1
            cases x with
            | normal => exact h1.elim
            | ret => exact h1.elim
            | exit i => exact (hne i rfl).elim
          | goto l => exact hq.elim
          | panic ch => exact hq.elim
          | outgrown => exact hq.elim
        · cases he
      · cases he
    · cases he
  · cases he
end Go.Proofs.YtnaknldbmapolaaGreatDoor
