/- Rules of runs and contracts of functions, for the claims of one seat. -/
import Derived.Test.YtjpdemikmdfonaaGreatDoorFA5
namespace Go.Proofs.YtjpdemikmdfonaaGreatDoor
open Go Go.RowKit
set_option linter.unusedSimpArgs false
set_option linter.unusedVariables false
def ltOne (av : AV) (t : Nat) : Option AV := if t = 0 then some av else none
def FnSound (P : Program) (f : FuncId) (args : List Arg) (bxs : List (Key × Box)) (r : ARes) : Prop :=
 ∀ (V X : Nat → Prop) (Z : Key → Hd) (ρ : Key → Hd) (w : World) (vals : List Value), vals.length = args.length →
  Rel V X Z w vals.length ρ (fun q => q.2 < 1) (lk (argTm 0 args)) (lk (argBx 0 args ++ bxs)) ⟨vals.toArray, []⟩ w →
  Calls P f vals.toArray w fun e w' => ∃ v ρ', e = .returned v ∧ Rel V X Z w 1 ρ' (fun _ => True) (ltOne (resAV id r.vals)) (lk (ioBx 0 args r.ios ++ r.bx)) ⟨#[v], []⟩ w'
def CallOk (P : Program) (call : CallF) : Prop := ∀ f args bxs r, call f args bxs = some r → FnSound P f args bxs r
theorem lk_append {α β : Type} [DecidableEq α] (k : α) : ∀ (l m : List (α × β)), lk (l ++ m) k = match lk l k with | some x => some x | none => lk m k
 | [], m => rfl
 | (q, v) :: l, m => by
  show (if k = q then some v else lk (l ++ m) k) = match (if k = q then some v else lk l k) with | some x => some x | none => lk m k
  by_cases h : k = q
  ·rw [if_pos h, if_pos h]
  ·rw [if_neg h, if_neg h, lk_append k l m]
theorem capRen_id (c : Cap) : capRen id c = c := by cases c <;> rfl
theorem renC_id (c : C) : renC id c = c := by
 cases c with
 | fn g caps => show C.fn g (caps.map (capRen id)) = _; rw [show capRen id = id from funext capRen_id, List.map_id]
 | _ => rfl
theorem resAV_id_one (b : Bool) (cs : List C) : resAV id [(b, cs)] = .one b cs := by
 simp only [resAV]
 congr 1
 rw [show renC id = id from funext renC_id]
 simp
theorem resAV_id_tup {xs : List (Bool × List C)} (h : xs.length ≠ 1) : resAV id xs = .tup xs := by
 have e : (xs.map fun (p : Bool × List C) => (p.1, p.2.map (renC id))) = xs := by
  rw [show renC id = id from funext renC_id]
  simp
 unfold resAV
 split
 ·simp at h
 ·congr 1
section
variable {V X : Nat → Prop} {Z : Key → Hd} {w0 w : World} {N : Nat} {P : Program} {E : Env} {ρ : Key → Hd} {ok : Key → Prop} {lt : Nat → Option AV} {lb lb2 : Key → Option Box} {a : Act}
theorem outC_sound (h : Rel V X Z w0 N ρ ok lt lb a w) (hs : Shut lb lb2) {keep : Bool} {c c' : C} {ks : List Key} (he : outC keep lb c = some (c', ks)) (hk : ∀ q ∈ ks, ∀ ty sz rows, lb q = some (.sl ty sz rows) → lb2 q = some (.fz sz rows)) {v : Value} (hv : CRel (Im V ρ lb) ρ ok w c v) :
    CRel (Im V ρ lb2) ρ ok w c' v := by
 have hm : ∀ b, b < w.heap.size → Im V ρ lb b → Im V ρ lb2 b := fun b _ hi => im_shut hs hi
 have gen : CRel (Im V ρ lb2) ρ ok w c v := hv.keep (Keep.refl _ _) hm (fun _ _ => rfl) (fun _ h => h)
 cases c with
 | own q =>
  simp only [outC] at he
  split at he
  ·rename_i sz rows hq
   cases he
   obtain ⟨_, rfl⟩ := hv
   exact Rd.mono (h.bx q _ hq).2 hm
  ·rename_i ty sz rows hq
   split at he
   ·cases he; exact gen
   ·cases he
    obtain ⟨_, rfl⟩ := hv
    have := ((h.shut hs).bx q _ (hk q (by simp) ty sz rows hq)).2
    exact this
  ·split at he <;> cases he
   exact gen
  ·split at he <;> cases he
   exact hv.one
  ·cases he
 | ptr q o => simp [outC] at he; obtain ⟨_, rfl, rfl⟩ := he; exact gen
 | arr q n z => simp [outC] at he; obtain ⟨_, rfl, rfl⟩ := he; exact gen
 | mp q => simp [outC] at he; obtain ⟨_, rfl, rfl⟩ := he; exact gen
 | fn g caps => simp only [outC] at he; split at he <;> cases he; exact gen
 | eptr q i o => simp [outC] at he
 | d d => simp [outC] at he; obtain ⟨rfl, rfl⟩ := he; exact gen
 | zero => simp [outC] at he; obtain ⟨rfl, rfl⟩ := he; exact gen
 | rptr row o => simp [outC] at he; obtain ⟨rfl, rfl⟩ := he; exact gen
 | dead => simp [outC] at he; obtain ⟨rfl, rfl⟩ := he; exact gen
theorem outCs_sound (h : Rel V X Z w0 N ρ ok lt lb a w) (hs : Shut lb lb2) {keep : Bool} : ∀ {cs cs' : List C} {ks : List Key} {vs : List Value}, outCs keep lb cs = some (cs', ks) → (∀ q ∈ ks, ∀ ty sz rows, lb q = some (.sl ty sz rows) → lb2 q = some (.fz sz rows)) → All2 (CRel (Im V ρ lb) ρ ok w) cs vs → All2 (CRel (Im V ρ lb2) ρ ok w) cs' vs
 | [], cs', ks, vs, he, hk, hA => by simp [outCs] at he; obtain ⟨rfl, rfl⟩ := he; cases hA; exact .nil
 | c :: cs, cs', ks, vs, he, hk, hA => by
  unfold outCs at he
  cases h1 : outC keep lb c with
  | none => simp [h1] at he
  | some p =>
   cases h2 : outCs keep lb cs with
   | none => simp [h1, h2] at he
   | some r =>
    obtain ⟨c', k1⟩ := p
    obtain ⟨cs'', k2⟩ := r
    simp [h1, h2] at he
    obtain ⟨rfl, rfl⟩ := he
    cases hA with
    | cons x y => exact .cons (outC_sound h hs h1 (fun q hq => hk q (by simp [hq])) x) (outCs_sound h hs h2 (fun q hq => hk q (by simp [hq])) y)
theorem outVals_sound (h : Rel V X Z w0 N ρ ok lt lb a w) (hs : Shut lb lb2) {keep : Bool} : ∀ {xs xs' : List (Bool × List C)} {ks : List Key} {vs : List Value}, outVals keep lb xs = some (xs', ks) → (∀ q ∈ ks, ∀ ty sz rows, lb q = some (.sl ty sz rows) → lb2 q = some (.fz sz rows)) → Alls (CRel (Im V ρ lb) ρ ok w) xs vs → Alls (CRel (Im V ρ lb2) ρ ok w) xs' vs
 | [], xs', ks, vs, he, hk, hA => by simp [outVals] at he; obtain ⟨rfl, rfl⟩ := he; cases hA; exact .nil
 | (b, cs) :: xs, xs', ks, vs, he, hk, hA => by
  unfold outVals at he
  cases h1 : outCs keep lb cs with
  | none => simp [h1] at he
  | some p =>
   cases h2 : outVals keep lb xs with
   | none => simp [h1, h2] at he
   | some r =>
    obtain ⟨c', k1⟩ := p
    obtain ⟨xs'', k2⟩ := r
    simp [h1, h2] at he
    obtain ⟨rfl, rfl⟩ := he
    cases hA with
    | cons x y =>
     obtain ⟨us, u1, u2⟩ := x
     exact .cons ⟨us, outCs_sound h hs h1 (fun q hq => hk q (by simp [hq])) u1, u2⟩ (outVals_sound h hs h2 (fun q hq => hk q (by simp [hq])) y)
theorem outVals_len {keep : Bool} : ∀ {xs xs' : List (Bool × List C)} {ks : List Key}, outVals keep lb xs = some (xs', ks) → xs'.length = xs.length
 | [], xs', ks, he => by simp [outVals] at he; obtain ⟨rfl, rfl⟩ := he; rfl
 | (b, cs) :: xs, xs', ks, he => by
  unfold outVals at he
  cases h1 : outCs keep lb cs with
  | none => simp [h1] at he
  | some p =>
   cases h2 : outVals keep lb xs with
   | none => simp [h1, h2] at he
   | some r =>
    simp [h1, h2] at he
    obtain ⟨rfl, rfl⟩ := he
    simp [outVals_len h2]
def resRead (tmps : Array Value) : ResultVar → Sem Value
 | .tmp t => pure (tmps.getD t undef)
 | .cell a t => do loadVar t (← asAddr (tmps.getD a undef))
theorem resOf_sound {st : St} (h : Rel V X Z w0 N ρ ok (lk st.tm) (lk st.bx) a w) {rv : ResultVar} {b : Bool} {cs : List C} (he : resOf P st rv = some (b, cs)) : ∃ v, (resRead a.tmps rv).run P w = .ok v w ∧ One (CRel (Im V ρ (lk st.bx)) ρ ok w) b cs v := by
 cases rv with
 | tmp t =>
  simp only [resOf] at he
  split at he
  ·rename_i b' cs' ht
   cases he
   exact ⟨_, rfl, (h.tm t _ ht).2⟩
  ·cases he
 | cell ad t =>
  simp only [resOf] at he
  split at he
  ·rename_i c hc
   obtain ⟨av, h1, h2⟩ := Option.bind_eq_some_iff.1 hc
   have hv := slot1_sound h2 (h.tm ad av h1).2
   cases hb : behind (lk st.bx) c with
   | none => simp [hb] at he
   | some p =>
    obtain ⟨cs', off⟩ := p
    obtain ⟨bl, o', vs, e1, e2, e3⟩ := behind_sound h (fun _ _ h => h) hb hv
    have hav : (match some (cs', off), aggT P t, sizeT P t with
     | some (cs, off), some true, some sz => if off + sz ≤ cs.length then some (AV.one true ((cs.drop off).take sz)) else none
     | some (cs, off), some false, some _ => (cs[off]?).map fun c => AV.one false [c]
     | _, _, _ => none) = some (.one b cs) := by
     rw [hb] at he
     cases hg : aggT P t with
     | none => simp [hg] at he
     | some g =>
      cases hs : sizeT P t with
      | none => cases g <;> simp [hg, hs] at he
      | some sz =>
       cases g with
       | true => simp [hg, hs] at he ⊢; obtain ⟨h5, rfl, rfl⟩ := he; exact ⟨h5, rfl, rfl⟩
       | false => simp [hg, hs] at he ⊢; obtain ⟨c', h5, rfl, rfl⟩ := he; exact ⟨c', h5, rfl, rfl⟩
    obtain ⟨v, r1, r2⟩ := load_run (w := w) (P := P) e2 e3 hav
    refine ⟨v, ?_, r2⟩
    simp [resRead, e1, asAddr, r1]
  ·cases he
theorem resList_sound {st : St} (h : Rel V X Z w0 N ρ ok (lk st.tm) (lk st.bx) a w) : ∀ {rvs : List ResultVar} {xs : List (Bool × List C)}, rvs.mapM (resOf P st) = some xs → ∃ vs, (rvs.mapM (resRead a.tmps)).run P w = .ok vs w ∧ Alls (CRel (Im V ρ (lk st.bx)) ρ ok w) xs vs
 | [], xs, he => by simp at he; subst he; exact ⟨[], by simp, .nil⟩
 | rv :: rvs, xs, he => by
  simp only [List.mapM_cons, Option.bind_eq_bind, Option.pure_def] at he
  cases h1 : resOf P st rv with
  | none => simp [h1] at he
  | some p =>
   cases h2 : rvs.mapM (resOf P st) with
   | none => simp [h1, h2] at he
   | some r =>
    simp [h1, h2] at he
    subst he
    obtain ⟨v, v1, v2⟩ := resOf_sound (P := P) h h1
    obtain ⟨vs, u1, u2⟩ := resList_sound h h2
    exact ⟨v :: vs, by simp [List.mapM_cons, v1, u1], .cons v2 u2⟩
theorem Alls.length {R : C → Value → Prop} {xs : List (Bool × List C)} {vs : List Value} (h : Alls R xs vs) : xs.length = vs.length := by induction h with | nil => rfl | cons _ _ ih => simp [ih]
theorem results_sound {st : St} (h : Rel V X Z w0 N ρ ok (lk st.tm) (lk st.bx) a w) {fn : Func} {xs : List (Bool × List C)} (he : fn.results.toList.mapM (resOf P st) = some xs) : ∃ vs, Alls (CRel (Im V ρ (lk st.bx)) ρ ok w) xs vs ∧
    (results fn a.tmps).run P w = .ok (if h : vs.length = 1 then vs[0] else .tuple vs.toArray) w := by
 obtain ⟨vs, u1, u2⟩ := resList_sound (P := P) h he
 refine ⟨vs, u2, ?_⟩
 have e1 : results fn a.tmps = (do let vs ← fn.results.mapM (resRead a.tmps); pure (if h : vs.size = 1 then vs[0] else .tuple vs)) := by
  unfold results
  congr 1
  first
   | (congr 1; funext rv; cases rv <;> rfl)
   | (funext rv; cases rv <;> rfl)
   | skip
 rw [e1, Array.mapM_eq_mapM_toList]
 simp [u1]
theorem keepB_lk {bx : List (Key × Box)} : ∀ {ks : List Key} {b : List (Key × Box)}, keepB bx ks = some b → ∀ q box, lk b q = some box → lk bx q = some box ∨ ∃ ty cs d k, lk bx q = some (.st ty cs) ∧ box = .st ty d ∧ outCs true (lk bx) cs = some (d, k)
 | [], b, he, q, box, hq => by simp [keepB] at he; subst he; cases hq
 | k :: ks, b, he, q, box, hq => by
  unfold keepB at he
  split at he
  ·rename_i ty sz rows r h1 h2
   cases he
   split at hq
   ·exact keepB_lk h2 q box hq
   ·by_cases e : q = k
    ·subst e
     rw [show lk ((q, Box.sl ty sz rows) :: r) q = some (.sl ty sz rows) from if_pos rfl] at hq
     cases hq
     exact .inl h1
    ·rw [show lk ((k, Box.sl ty sz rows) :: r) q = lk r q from if_neg e] at hq
     exact keepB_lk h2 q box hq
  ·rename_i es ck r h1 h2
   cases he
   split at hq
   ·exact keepB_lk h2 q box hq
   ·by_cases e : q = k
    ·subst e
     rw [show lk ((q, Box.mp es ck) :: r) q = some (.mp es ck) from if_pos rfl] at hq
     cases hq
     exact .inl h1
    ·rw [show lk ((k, Box.mp es ck) :: r) q = lk r q from if_neg e] at hq
     exact keepB_lk h2 q box hq
  ·rename_i ty cs r h1 h2
   split at he
   ·rename_i d kk h3
    cases he
    split at hq
    ·exact keepB_lk h2 q box hq
    ·by_cases e : q = k
     ·subst e
      rw [show lk ((q, Box.st ty d) :: r) q = some (.st ty d) from if_pos rfl] at hq
      cases hq
      exact .inr ⟨ty, cs, d, kk, h1, rfl, h3⟩
     ·rw [show lk ((k, Box.st ty d) :: r) q = lk r q from if_neg e] at hq
      exact keepB_lk h2 q box hq
   ·cases he
  ·rename_i ty sz rows r h1 h2
   split at he
   ·cases he
    split at hq
    ·exact keepB_lk h2 q box hq
    ·by_cases e : q = k
     ·subst e
      rw [show lk ((q, Box.ca ty sz rows) :: r) q = some (.ca ty sz rows) from if_pos rfl] at hq
      cases hq
      exact .inl h1
     ·rw [show lk ((k, Box.ca ty sz rows) :: r) q = lk r q from if_neg e] at hq
      exact keepB_lk h2 q box hq
   ·cases he
  ·cases he
theorem outIos_lk : ∀ {i : Nat} {args : List Arg} {ios : List (List C)}, outIos lb i args = some ios → ∀ q box, lk (ioBx i args ios) q = some box → ∃ ty cs d ks, lb q = some (.st ty cs) ∧ box = .st ty d ∧ outCs true lb cs = some (d, ks)
 | i, [], ios, he, q, box, hq => by simp [outIos] at he; subst he; cases hq
 | i, .val b cs :: r, ios, he, q, box, hq => outIos_lk (i := i + 1) (args := r) (by simpa [outIos] using he) q box hq
 | i, .io ty cs0 :: r, ios, he, q, box, hq => by
  simp only [outIos] at he
  split at he
  ·rename_i ty' cs h1
   split at he
   ·rename_i hty
    subst hty
    split at he
    ·rename_i d ks ds h2 h3
     cases he
     simp only [ioBx] at hq
     by_cases e : q = (i, 0)
     ·subst e
      rw [show ∀ (l : List (Key × Box)), lk (((i, 0), Box.st ty' d) :: l) (i, 0) = some (.st ty' d) from fun l => if_pos rfl] at hq
      cases hq
      exact ⟨ty', cs, d, ks, h1, rfl, h2⟩
     ·rw [show ∀ (l : List (Key × Box)), lk (((i, 0), Box.st ty' d) :: l) q = lk l q from fun l => if_neg e] at hq
      exact outIos_lk h3 q box hq
    ·cases he
   ·cases he
  ·cases he
theorem outCs_true {lb : Key → Option Box} : ∀ {cs d : List C} {ks : List Key}, outCs true lb cs = some (d, ks) → ks = []
 | [], d, ks, he => by simp [outCs] at he; exact he.2
 | c :: cs, d, ks, he => by
  unfold outCs at he
  cases h1 : outC true lb c with
  | none => simp [h1] at he
  | some p =>
   cases h2 : outCs true lb cs with
   | none => simp [h1, h2] at he
   | some r =>
    obtain ⟨c', k1⟩ := p
    obtain ⟨cs'', k2⟩ := r
    simp [h1, h2] at he
    obtain ⟨_, rfl⟩ := he
    have := outCs_true h2
    subst this
    cases c <;> simp [outC] at h1
    case own q => split at h1 <;> simp at h1 <;> simp [h1.2]
    all_goals simp [h1.2]
theorem freeze_mem {ks : List Key} {q : Key} (hm : q ∈ ks) {ty : TypeId} {sz : Nat} {rows : List (List D)} : ∀ {bx : List (Key × Box)}, lk bx q = some (.sl ty sz rows) → lk (freezeB ks bx) q = some (.fz sz rows)
 | [], h => by cases h
 | (k, b) :: r, h => by
  by_cases e : q = k
  ·subst e
   rw [show lk ((q, b) :: r) q = some b from if_pos rfl] at h
   cases h
   have hc : ks.contains q = true := by simpa using hm
   show (if q = q then some (if ks.contains q then Box.fz sz rows else Box.sl ty sz rows) else _) = _
   rw [if_pos rfl, if_pos hc]
  ·rw [show lk ((k, b) :: r) q = lk r q from if_neg e] at h
   show (if q = k then _ else lk (freezeB ks r) q) = _
   rw [if_neg e]
   exact freeze_mem hm h
end
theorem afn_sound {P : Program} {E : Env} {f : FuncId} {own : Bool} {args : List Arg} {bxs : List (Key × Box)} {r : ARes} (hm : P.follows .mixedOrders = true) (hop : ∀ i, OpSound P (E.call i) E.lend) (hN : E.N = ((P.funcs[f]?).map (·.ntmps)).getD 0)
    (hcl : ∀ V X Z w0 N c st a w, SR V X Z w0 N st a w → SR V X Z w0 N (E.cl c st) a w) (he : afn P E own f args bxs = some r) : FnSound P f args bxs r := by
 intro V X Z ρ w vals hlen hR
 unfold afn at he
 split at he
 ·rename_i fn hf
  split at he
  ·rename_i body hbody
   split at he
   ·rename_i hc
    have hNN : E.N = fn.ntmps := by rw [hN, hf]; rfl
    refine calls_of_wp hf hbody ?_
    have hsz : (vals.toArray ++ Array.replicate (fn.ntmps - vals.toArray.size) undef).size = fn.ntmps := by simp; omega
    have h0 : SR V X Z w fn.ntmps { tm := argTm 0 args, bx := argBx 0 args ++ bxs, nx := 1 } { tmps := vals.toArray ++ Array.replicate (fn.ntmps - vals.toArray.size) undef, defers := [] } w := by
     refine ⟨ρ, hsz, rfl, fun t av ht => ?_, hR.bx, hR.ap, hR.lo, hR.fr, hR.va, hR.zz⟩
     obtain ⟨h1, h2⟩ := hR.tm t av ht
     refine ⟨by omega, ?_⟩
     have e1 : (vals.toArray ++ Array.replicate (fn.ntmps - vals.toArray.size) undef).getD t undef = vals.toArray.getD t undef := by
      simp [Array.getD_eq_getD_getElem?, Array.getElem?_append, h1]
     rw [e1]
     exact h2
    have fin : ∀ (st : St) (a : Act) (w' : World), SR V X Z w fn.ntmps st a w' → (match fn.results.toList.mapM (resOf P st) with
     | some vs => match outVals own (lk st.bx) vs with
      | some (vals, ks) =>
       match outIos (lk (freezeB ks st.bx)) 0 args with
       | some ios => match keepB (freezeB ks st.bx) (leadK (freezeB ks st.bx) 8 (vals.flatMap (fun (_, cs) => cs.flatMap keysC) ++ ((ios.flatMap fun cs => cs.flatMap keysC) ++ passedK args bxs (freezeB ks st.bx)))) with
        | some b => some ({ vals, ios, bx := b } : ARes)
        | none => none
       | none => none
      | none => none
     | none => none) = some r → a.defers = [] ∧ ∃ v, (results fn a.tmps).run P w' = .ok v w' ∧ ∃ v' ρ', Ending.returned v = .returned v' ∧ Rel V X Z w 1 ρ' (fun _ => True) (ltOne (resAV id r.vals)) (lk (ioBx 0 args r.ios ++ r.bx)) ⟨#[v'], []⟩ w' := by
     intro st a w' ⟨ρ1, hR1⟩ hr
     split at hr
     ·rename_i xs hxs
      split at hr
      ·rename_i vals' ks hov
       split at hr
       ·rename_i ios hio
        split at hr
        ·rename_i b hb
         cases hr
         obtain ⟨vs, hA, hrun⟩ := results_sound (P := P) hR1 hxs
         refine ⟨hR1.defers, _, hrun, _, ρ1, rfl, ?_⟩
         have hs := freeze_Shut ks st.bx
         have hR2 := hR1.shut hs
         have hA2 := outVals_sound hR1 hs hov (fun q hq ty sz rows hb => freeze_mem hq hb) hA
         have hback : ∀ q box, lk (ioBx 0 args ios ++ b) q = some box → ∃ box', lk (freezeB ks st.bx) q = some box' ∧ box.live = box'.live ∧ (box = box' ∨ ∃ ty cs d k, box' = .st ty cs ∧ box = .st ty d ∧ outCs true (lk (freezeB ks st.bx)) cs = some (d, k)) := by
          intro q box hq
          rw [lk_append] at hq
          cases h1 : lk (ioBx 0 args ios) q with
          | none =>
           rw [h1] at hq
           rcases keepB_lk hb q box hq with g | ⟨ty, cs, d, k, g1, g2, g3⟩
           ·exact ⟨box, g, rfl, .inl rfl⟩
           ·exact ⟨_, g1, by rw [g2]; rfl, .inr ⟨ty, cs, d, k, rfl, g2, g3⟩⟩
          | some x =>
           rw [h1] at hq
           cases hq
           obtain ⟨ty, cs, d, k, g1, g2, g3⟩ := outIos_lk hio q box h1
           exact ⟨_, g1, by rw [g2]; rfl, .inr ⟨ty, cs, d, k, rfl, g2, g3⟩⟩
         have him : ∀ bl, bl < w'.heap.size → Im V ρ1 (lk (freezeB ks st.bx)) bl → Im V ρ1 (lk (ioBx 0 args ios ++ b)) bl := by
          intro bl _ hi
          refine ⟨hi.1, fun q box hq hl => ?_⟩
          obtain ⟨box', g1, g2, _⟩ := hback q box hq
          exact hi.2 q box' g1 (by rw [← g2]; exact hl)
         have hkeep : ∀ c v, CRel (Im V ρ1 (lk (freezeB ks st.bx))) ρ1 (fun q => q.2 < st.nx) w' c v → CRel (Im V ρ1 (lk (ioBx 0 args ios ++ b))) ρ1 (fun _ => True) w' c v := fun c v hcv => hcv.keep (Keep.refl _ _) him (fun _ _ => rfl) (fun _ _ => trivial)
         refine ⟨rfl, rfl, fun t av ht => ?_, fun q box hq => ?_, fun q1 b1 q2 b2 bl e1 l1 e2 l2 => ?_, fun q box bl hq hl hg => ?_, hR2.fr, hR2.va, fun q hq => ⟨trivial, (hR2.zz q hq).2⟩⟩
         ·unfold ltOne at ht
          split at ht
          ·rename_i h0
           subst h0
           cases ht
           refine ⟨by omega, ?_⟩
           have hl1 := outVals_len hov
           have hl2 := hA.length
           have hA3 := hA2.imp hkeep
           by_cases h1 : vs.length = 1
           ·rw [dif_pos h1]
            match vs, xs, vals', h1, hA3, hl1, hl2 with
            | [v], [x], [(bb, cs)], _, hA3, _, _ =>
             rw [resAV_id_one]
             cases hA3 with
             | cons h t => exact h
           ·rw [dif_neg h1, resAV_id_tup (xs := vals') (by omega)]
            exact ⟨vs, by simp, hA3⟩
          ·cases ht
         ·refine ⟨trivial, ?_⟩
          obtain ⟨box', g1, g2, g3⟩ := hback q box hq
          obtain ⟨o1, o2⟩ := hR2.bx q box' g1
          rcases g3 with rfl | ⟨ty, cs, d, k, rfl, rfl, g4⟩
          ·exact o2.keep (Keep.refl _ _) him (fun _ _ => rfl) (fun _ _ => trivial) o1 (fun _ _ _ => rfl)
          ·obtain ⟨bl, us, u1, u2, u3⟩ := o2
           have hk0 := outCs_true g4
           subst hk0
           have := outCs_sound hR2 (lb2 := lk (freezeB ks st.bx)) (fun q => .inl rfl) g4 (by simp) u3
           exact ⟨bl, us, u1, u2, this.imp fun c v _ => hkeep c v⟩
         ·obtain ⟨x1, g1, g2, _⟩ := hback q1 b1 e1
          obtain ⟨x2, g3, g4, _⟩ := hback q2 b2 e2
          exact hR2.ap q1 x1 q2 x2 bl g1 (by rw [← g2]; exact l1) g3 (by rw [← g4]; exact l2)
         ·obtain ⟨x1, g1, g2, _⟩ := hback q box hq
          exact hR2.lo q x1 bl g1 (by rw [← g2]; exact hl) hg
        ·cases hr
       ·cases hr
      ·cases hr
     ·cases hr
    split at he
    ·cases he
    ·rename_i x st hne hex
     refine wp_mono (exec_sound hm hop (by rw [hNN]) (fun c st a w => hcl _ _ _ _ _ c st a w) body _ _ hex _ w h0) (fun e a w' hq => ?_)
     cases e with
     | normal => exact fin st a w' hq.2 he
     | ret => exact fin st a w' hq.2 he
     | exit id =>
      have h1 := hq.1
      cases x with
      | normal => exact h1.elim
      | ret => exact h1.elim
      | exit i => exact (hne i rfl).elim
     | goto l => exact hq.elim
     | panic ch => exact hq.elim
     | outgrown => exact hq.elim
    ·cases he
   ·cases he
  ·cases he
 ·cases he
end Go.Proofs.YtjpdemikmdfonaaGreatDoor
namespace Go.Proofs.YtjpdemikmdfonaaGreatDoor
open Go Go.RowKit
set_option linter.unusedSimpArgs false
set_option linter.unusedVariables false
section
variable {S S' : Nat → Prop} {ρ ρ' : Key → Hd} {ok ok' : Key → Prop} {w w' : World}
theorem Rd.keep2 {d : D} {v : Value} (h : Rd S w d v) (hk : Keep S w w') (hs : ∀ b, b < w.heap.size → S b → S' b) : Rd S' w' d v :=
 ((h.mono (S' := fun b => S b ∧ S' b) (fun b hb h1 => ⟨h1, hs b hb h1⟩)).keep (hk.mono fun _ _ h => h.1)).mono fun _ _ h => h.2
theorem CRel.keep2 {c : C} {v : Value} (h : CRel S ρ ok w c v) (hk : Keep S w w') (hs : ∀ b, b < w.heap.size → S b → S' b) (hρ : ∀ q : Key, ok q → ρ' q = ρ q) (hn : ∀ q : Key, ok q → ok' q) : CRel S' ρ' ok' w' c v := by
 have h1 : CRel (fun b => S b ∧ S' b) ρ ok w c v := h.keep (Keep.refl _ _) (fun b hb h1 => ⟨h1, hs b hb h1⟩) (fun _ _ => rfl) (fun _ h => h)
 have h2 : CRel (fun b => S b ∧ S' b) ρ' ok' w' c v := h1.keep (hk.mono fun _ _ h => h.1) (fun _ _ h => h) hρ hn
 exact h2.keep (Keep.refl _ _) (fun _ _ h => h.2) (fun _ _ => rfl) (fun _ h => h)
theorem BoxRel.keep2 {q : Key} {box : Box} (h : BoxRel S ρ ok w q box) (hk : Keep S w w') (hs : ∀ b, b < w.heap.size → S b → S' b) (hρ : ∀ q : Key, ok q → ρ' q = ρ q) (hn : ∀ q : Key, ok q → ok' q)
    (hq : ok q) (hg : box.live = true → ∀ b, (ρ q).g = some b → w'.heap[b]? = w.heap[b]?) : BoxRel S' ρ' ok' w' q box := by
 have h1 : BoxRel (fun b => S b ∧ S' b) ρ ok w q box := h.keep (Keep.refl _ _) (fun b hb h1 => ⟨h1, hs b hb h1⟩) (fun _ _ => rfl) (fun _ h => h) hq (fun _ _ _ => rfl)
 have h2 : BoxRel (fun b => S b ∧ S' b) ρ' ok' w' q box := h1.keep (hk.mono fun _ _ h => h.1) (fun _ _ h => h) hρ hn hq hg
 exact h2.keep (Keep.refl _ _) (fun _ _ h => h.2) (fun _ _ => rfl) (fun _ h => h) (hn q hq) (fun _ _ _ => rfl)
end
section
variable {V X : Nat → Prop} {Z : Key → Hd} {w0 w w' : World} {N : Nat} {ρ ρ' : Key → Hd} {ok ok' : Key → Prop} {lt : Nat → Option AV} {lb lb' : Key → Option Box} {a : Act}
theorem Rel.step2 (h : Rel V X Z w0 N ρ ok lt lb a w) (d : Option Nat) (av : AV) (v : Value) (hd : ∀ k, d = some k → k < N)
    (hk : Keep (Im V ρ lb) w w') (hs : ∀ b, b < w.heap.size → Im V ρ lb b → Im V ρ' lb' b) (hρ : ∀ q : Key, ok q → ρ' q = ρ q) (ho : ∀ q : Key, ok q → ok' q)
    (hv : AVRel (CRel (Im V ρ' lb') ρ' ok' w') av v)
    (hbx : ∀ q box, lb' q = some box → (lb q = some box ∧ (box.live = true → ∀ b, (ρ q).g = some b → w'.heap[b]? = w.heap[b]?)) ∨ (ok' q ∧ BoxRel (Im V ρ' lb') ρ' ok' w' q box))
    (hap : ∀ q box q' box' b, lb' q = some box → box.live = true → lb' q' = some box' → box'.live = true → (ρ' q).g = some b → (ρ' q').g = some b → q = q')
    (hlo : ∀ q box b, lb' q = some box → box.live = true → (ρ' q).g = some b → b < w'.heap.size ∧ (w0.heap.size ≤ b ∨ X b))
    (hfr : Keep (fun b => ¬ X b) w0 w') : Rel V X Z w0 N ρ' ok' (updT lt d av) lb' (a.put d v) w' := by
 have hsz : ∀ k, d = some k → k < a.tmps.size := fun k hk' => by rw [h.size]; exact hd k hk'
 refine ⟨by rw [put_sz]; exact h.size, by rw [put_def]; exact h.defers, fun t av' ht => ?_, fun q box hq => ?_, hap, hlo, hfr, h.va, fun q hq => ⟨ho q (h.zz q hq).1, by rw [hρ q (h.zz q hq).1]; exact (h.zz q hq).2⟩⟩
 ·rw [put_getD a d v t hsz]
  unfold updT at ht
  by_cases e : d = some t
  ·rw [if_pos e] at ht ⊢
   cases ht
   exact ⟨hd t e, hv⟩
  ·rw [if_neg e] at ht ⊢
   obtain ⟨h1, h2⟩ := h.tm t av' ht
   exact ⟨h1, h2.imp fun c v hc => hc.keep2 hk hs hρ ho⟩
 ·rcases hbx q box hq with ⟨h1, h2⟩ | h1
  ·obtain ⟨h3, h4⟩ := h.bx q box h1
   exact ⟨ho q h3, h4.keep2 hk hs hρ ho h3 h2⟩
  ·exact h1
end
theorem mem_of_lk {α β : Type} [DecidableEq α] {k : α} {v : β} : ∀ {l : List (α × β)}, lk l k = some v → (k, v) ∈ l
 | [], h => by cases h
 | (q, x) :: r, h => by
  by_cases e : k = q
  ·subst e
   rw [show lk ((k, x) :: r) k = some x from if_pos rfl] at h
   cases h
   simp
  ·rw [show lk ((q, x) :: r) k = lk r k from if_neg e] at h
   exact List.mem_cons_of_mem _ (mem_of_lk h)
theorem nodup_mem {k : Key} {ks : List Key} (h : nodup (k :: ks) = true) : k ∉ ks ∧ nodup ks = true := by
 simp only [nodup, Bool.and_eq_true, Bool.not_eq_true'] at h
 exact ⟨by simpa using h.1, h.2⟩
theorem lk_of_mem {β : Type} {k : Key} {v : β} : ∀ {l : List (Key × β)}, nodup (l.map (·.1)) = true → (k, v) ∈ l → lk l k = some v
 | [], _, h => by cases h
 | (q, x) :: r, hn, h => by
  rw [List.map_cons] at hn
  obtain ⟨h1, h2⟩ := nodup_mem hn
  rcases List.mem_cons.1 h with e | e
  ·cases e; exact if_pos rfl
  ·have hne : k ≠ q := fun e' => h1 (by rw [← e']; exact List.mem_map.2 ⟨_, e, rfl⟩)
   rw [show lk ((q, x) :: r) k = lk r k from if_neg hne]
   exact lk_of_mem h2 e
theorem nodup_val {k k' q : Key} : ∀ {l : List (Key × Key)}, nodup (l.map (·.2)) = true → (k, q) ∈ l → (k', q) ∈ l → k = k'
 | [], _, h, _ => by cases h
 | (x, y) :: r, hn, h, h' => by
  rw [List.map_cons] at hn
  obtain ⟨h1, h2⟩ := nodup_mem hn
  rcases List.mem_cons.1 h with e | e <;> rcases List.mem_cons.1 h' with e' | e'
  ·cases e; cases e'; rfl
  ·cases e; exact absurd (List.mem_map.2 ⟨_, e', rfl⟩) h1
  ·cases e'; exact absurd (List.mem_map.2 ⟨_, e, rfl⟩) h1
  ·exact nodup_val h2 e e'
theorem nodup_append {ks ls : List Key} : nodup (ks ++ ls) = true → nodup ks = true ∧ nodup ls = true ∧ ∀ k ∈ ks, k ∉ ls := by
 induction ks with
 | nil => intro h; exact ⟨rfl, by simpa using h, by simp⟩
 | cons k ks ih =>
  intro h
  obtain ⟨h1, h2⟩ := nodup_mem (by simpa using h)
  obtain ⟨h3, h4, h5⟩ := ih h2
  refine ⟨?_, h4, fun x hx => ?_⟩
  ·simp only [nodup, Bool.and_eq_true, Bool.not_eq_true']
   exact ⟨by simpa using fun hm => h1 (by simp [hm]), h3⟩
  ·rcases List.mem_cons.1 hx with rfl | hx
   ·exact fun hm => h1 (by simp [hm])
   ·exact h5 x hx
theorem renK_mem (f : Key → Key) (key : Nat → Key) (hinj : ∀ i j, key i = key j → i = j) : ∀ {bx : List (Key × Box)} {n : Nat} {κ : Key} {box : Box}, nodup (bx.map (·.1)) = true → (κ, box) ∈ bx → ∃ j, renK key bx n κ = key (n + j) ∧ j < bx.length ∧ bx[j]? = some (κ, box) ∧ lk (takeBx f key bx n) (key (n + j)) = some (some (renBx f box))
 | [], n, κ, box, _, h => by cases h
 | (k, b) :: r, n, κ, box, hn, h => by
  rw [List.map_cons] at hn
  obtain ⟨h1, h2⟩ := nodup_mem hn
  rcases List.mem_cons.1 h with e | e
  ·cases e
   exact ⟨0, by simp [renK], by simp, by simp, by simp [takeBx, lk]⟩
  ·have hne : κ ≠ k := fun e' => h1 (by rw [← e']; exact List.mem_map.2 ⟨_, e, rfl⟩)
   obtain ⟨j, g1, g2, g3, g4⟩ := renK_mem f key hinj (n := n + 1) h2 e
   refine ⟨j + 1, by simp only [renK]; rw [if_neg hne, g1]; congr 1; omega, by simp; exact g2, by simpa using g3, ?_⟩
   rw [show n + (j + 1) = n + 1 + j by omega]
   have hk : key (n + 1 + j) ≠ key n := fun e' => by have := hinj _ _ e'; omega
   rw [show lk (takeBx f key ((k, b) :: r) n) (key (n + 1 + j)) = lk (takeBx f key r (n + 1)) (key (n + 1 + j)) from if_neg hk]
   exact g4
theorem takeBx_lk (f : Key → Key) (key : Nat → Key) : ∀ {bx : List (Key × Box)} {n : Nat} {q : Key} {ob : Option Box}, lk (takeBx f key bx n) q = some ob → ∃ j κ box, q = key (n + j) ∧ bx[j]? = some (κ, box) ∧ ob = some (renBx f box)
 | [], n, q, ob, h => by cases h
 | (k, b) :: r, n, q, ob, h => by
  by_cases e : q = key n
  ·rw [show lk (takeBx f key ((k, b) :: r) n) q = some (some (renBx f b)) from if_pos e] at h
   cases h
   exact ⟨0, k, b, by simpa using e, by simp, rfl⟩
  ·rw [show lk (takeBx f key ((k, b) :: r) n) q = lk (takeBx f key r (n + 1)) q from if_neg e] at h
   obtain ⟨j, κ, box, h1, h2, h3⟩ := takeBx_lk f key h
   exact ⟨j + 1, κ, box, by rw [h1]; congr 1; omega, by simpa using h2, h3⟩
theorem putIo_lk (f : Key → Key) : ∀ {i : Nat} {xs : List Arg} {qs : List (Key × TypeId)} {ios : List (List C)} {q : Key} {ob : Option Box}, lk (putIo f qs ios) q = some ob → (∀ n, (xs.filter isIo).length = n → qs.length = n) → ios.length = qs.length →
    (∀ (j : Nat), ∀ q ty, qs[j]? = some (q, ty) → ∀ t cs, (xs.filter isIo)[j]? = some (.io t cs) → t = ty) →
    ∃ κ ty cs, (κ, q) ∈ zipIo i xs qs ∧ (κ, Box.st ty cs) ∈ ioBx i xs ios ∧ ob = some (.st ty (cs.map (renC f)))
 | i, [], qs, ios, q, ob, h, hl, hi, ht => by
  have : qs.length = 0 := hl 0 rfl
  have hq : qs = [] := List.length_eq_zero_iff.1 this
  subst hq
  cases h
 | i, .val b cs :: xs, qs, ios, q, ob, h, hl, hi, ht => by
  obtain ⟨κ, ty, cs', h1, h2, h3⟩ := putIo_lk f (i := i + 1) (xs := xs) h (fun n hn => hl n (by simpa [isIo] using hn)) hi (fun j q ty hq t cs hx => ht j q ty hq t cs (by simpa [isIo] using hx))
  exact ⟨κ, ty, cs', h1, h2, h3⟩
 | i, .io t0 cs0 :: xs, [], ios, q, ob, h, hl, hi, ht => by cases h
 | i, .io t0 cs0 :: xs, (q0, ty0) :: qs, [], q, ob, h, hl, hi, ht => by simp at hi
 | i, .io t0 cs0 :: xs, (q0, ty0) :: qs, cs :: ios, q, ob, h, hl, hi, ht => by
  have hfi : (Arg.io t0 cs0 :: xs).filter isIo = Arg.io t0 cs0 :: xs.filter isIo := rfl
  rw [hfi] at hl ht
  have hty : t0 = ty0 := ht 0 q0 ty0 (by simp) t0 cs0 (by simp)
  subst hty
  by_cases e : q = q0
  ·subst e
   rw [show lk (putIo f ((q, t0) :: qs) (cs :: ios)) q = some (some (.st t0 (cs.map (renC f)))) from if_pos rfl] at h
   cases h
   exact ⟨(i, 0), t0, cs, by simp [zipIo], by simp [ioBx], rfl⟩
  ·rw [show lk (putIo f ((q0, t0) :: qs) (cs :: ios)) q = lk (putIo f qs ios) q from if_neg e] at h
   obtain ⟨κ, ty, cs', h1, h2, h3⟩ := putIo_lk f (i := i + 1) (xs := xs) h (fun n hn => by have := hl (n + 1) (by simpa using hn); simpa using this) (by simpa using hi) (fun j q ty hq t cs hx => ht (j + 1) q ty (by simpa using hq) t cs (by simpa using hx))
   exact ⟨κ, ty, cs', by simp [zipIo, h1], by simp [ioBx, h2], h3⟩
end Go.Proofs.YtjpdemikmdfonaaGreatDoor
namespace Go.Proofs.YtjpdemikmdfonaaGreatDoor
open Go Go.RowKit
set_option linter.unusedSimpArgs false
set_option linter.unusedVariables false
def takeK (key : Nat → Key) : List (Key × Box) → Nat → List (Key × Key)
 | [], _ => []
 | (k, _) :: rest, j => (key j, k) :: takeK key rest (j + 1)
theorem takeK_at (key : Nat → Key) (hinj : ∀ i j, key i = key j → i = j) : ∀ {bx : List (Key × Box)} {n j : Nat} {κ : Key} {box : Box}, bx[j]? = some (κ, box) → lk (takeK key bx n) (key (n + j)) = some κ
 | [], n, j, κ, box, h => by simp at h
 | (k, b) :: r, n, 0, κ, box, h => by simp at h; simp [takeK, lk, h.1]
 | (k, b) :: r, n, j + 1, κ, box, h => by
  have hk : key (n + (j + 1)) ≠ key n := fun e' => by have := hinj _ _ e'; omega
  rw [show lk (takeK key ((k, b) :: r) n) (key (n + (j + 1))) = lk (takeK key r (n + 1)) (key (n + (j + 1))) from if_neg hk, show n + (j + 1) = n + 1 + j by omega]
  exact takeK_at key hinj (by simpa using h)
theorem takeK_mem (key : Nat → Key) : ∀ {bx : List (Key × Box)} {n : Nat} {q κ : Key}, lk (takeK key bx n) q = some κ → ∃ j, j < bx.length ∧ q = key (n + j)
 | [], n, q, κ, h => by cases h
 | (k, b) :: r, n, q, κ, h => by
  by_cases e : q = key n
  ·exact ⟨0, by simp, by simpa using e⟩
  ·rw [show lk (takeK key ((k, b) :: r) n) q = lk (takeK key r (n + 1)) q from if_neg e] at h
   obtain ⟨j, h1, h2⟩ := takeK_mem key h
   exact ⟨j + 1, by simp; exact h1, by rw [h2]; congr 1; omega⟩
theorem putIo_none (f : Key → Key) : ∀ {qs : List (Key × TypeId)} {ios : List (List C)} {q : Key}, lk (putIo f qs ios) q = none → ios.length = qs.length → q ∉ qs.map (·.1)
 | [], ios, q, h, hl => by simp
 | (k, ty) :: qs, [], q, h, hl => by simp at hl
 | (k, ty) :: qs, cs :: ios, q, h, hl => by
  by_cases e : q = k
  ·rw [show lk (putIo f ((k, ty) :: qs) (cs :: ios)) q = some (some (.st ty (cs.map (renC f)))) from if_pos e] at h
   cases h
  ·rw [show lk (putIo f ((k, ty) :: qs) (cs :: ios)) q = lk (putIo f qs ios) q from if_neg e] at h
   have := putIo_none f h (by simpa using hl)
   simp only [List.map_cons, List.mem_cons, not_or]
   exact ⟨e, this⟩
theorem zipIo_val : ∀ {i : Nat} {xs : List Arg} {qs : List (Key × TypeId)} {κ q : Key}, (κ, q) ∈ zipIo i xs qs → q ∈ qs.map (·.1)
 | i, [], qs, κ, q, h => by cases qs <;> simp [zipIo] at h
 | i, .val b cs :: xs, qs, κ, q, h => zipIo_val (i := i + 1) (xs := xs) (by simpa [zipIo] using h)
 | i, .io ty cs :: xs, [], κ, q, h => by simp [zipIo] at h
 | i, .io ty cs :: xs, (k, t) :: qs, κ, q, h => by
  simp only [zipIo, List.mem_cons, Prod.mk.injEq] at h
  rcases h with ⟨_, rfl⟩ | h
  ·simp
  ·simp only [List.map_cons, List.mem_cons]
   exact .inr (zipIo_val h)
structure ArgsAt (V : Nat → Prop) (ρ : Key → Hd) (ok : Key → Prop) (lb : Key → Option Box) (w : World) (xs : List Arg) (qs : List (Key × TypeId)) (bs : List (Key × Key × Box)) (vals : List Value) : Prop where
 len : vals.length = xs.length
 tm : ∀ i av, lk (argTm 0 xs) i = some av → i < vals.length ∧ ((∃ b cs, av = .one b cs ∧ ∀ (ρc : Key → Hd) (okc : Key → Prop), (∀ κ q, (κ, q) ∈ dictOf xs qs bs → ρc κ = ρ q ∧ okc κ) → One (CRel (Im V ρ lb) ρc okc w) b cs (vals.toArray.getD i undef)) ∨
  (∃ q b, av = .one false [.ptr (i, 0) 0] ∧ ((i, 0), q) ∈ dictOf xs qs bs ∧ (ρ q).g = some b ∧ vals.toArray.getD i undef = .pointer (some ⟨b, 0, none⟩)))
 bx : ∀ κ boxc, (κ, boxc) ∈ argBx 0 xs ++ bs.map (·.2) → ∃ q box, (κ, q) ∈ dictOf xs qs bs ∧ lb q = some box ∧ box.live = true ∧ boxc.live = true ∧ ((boxc = box ∧ (box.isSl = true ∨ ∃ es ck, box = .mp es ck)) ∨ (∃ ty sz rows rows', box = .ca ty sz rows ∧ boxc = .ca ty sz rows' ∧ rows'.map List.length = rows.map List.length ∧ ∀ (ρc : Key → Hd) (okc : Key → Prop), (∀ κ q, (κ, q) ∈ dictOf xs qs bs → ρc κ = ρ q ∧ okc κ) → ∀ vs, All2 (CRel (Im V ρ lb) ρ ok w) rows.flatten vs → All2 (CRel (Im V ρ lb) ρc okc w) rows'.flatten vs) ∨
  ∃ ty cs cs', box = .st ty cs ∧ boxc = .st ty cs' ∧ ∀ (ρc : Key → Hd) (okc : Key → Prop), (∀ κ q, (κ, q) ∈ dictOf xs qs bs → ρc κ = ρ q ∧ okc κ) → ∀ vs, All2 (CRel (Im V ρ lb) ρ ok w) cs vs → All2 (CRel (Im V ρ lb) ρc okc w) cs' vs)
 old : ∀ κ q, (κ, q) ∈ dictOf xs qs bs → ∃ box, lb q = some box ∧ box.live = true
theorem capdata_keep {S S' : Nat → Prop} {ρ ρ' : Key → Hd} {ok ok' : Key → Prop} {w : World} {c : Cap} {v : Value} (h : CapRel S ρ ok w c v) (hk : capKeys c = []) (hs : ∀ b, b < w.heap.size → S b → S' b) : CapRel S' ρ' ok' w c v := by
 cases c with
 | d d => exact Rd.mono h hs
 | rptr row o => obtain ⟨b, o', cv, h1, h0, h2, h3⟩ := h; exact ⟨b, o', cv, h1, h0, hs b h0 h2, fun j d hj => ⟨(h3 j d hj).1, (h3 j d hj).2.mono hs⟩⟩
 | ptr q o => simp [capKeys] at hk
theorem renBx_live (f : Key → Key) (b : Box) : (renBx f b).live = b.live := by cases b <;> rfl
theorem data_keep {S S' : Nat → Prop} {ρ ρ' : Key → Hd} {ok ok' : Key → Prop} {w : World} {c : C} {v : Value} (h : CRel S ρ ok w c v) (hk : keysC c = []) (hs : ∀ b, b < w.heap.size → S b → S' b) : CRel S' ρ' ok' w c v := by
 cases c with
 | d d => exact Rd.mono h hs
 | zero => exact h
 | rptr row o => obtain ⟨b, o', cv, h1, h0, h2, h3⟩ := h; exact ⟨b, o', cv, h1, h0, hs b h0 h2, fun j d hj => ⟨(h3 j d hj).1, (h3 j d hj).2.mono hs⟩⟩
 | dead => exact h
 | own q => simp [keysC] at hk
 | ptr q o => simp [keysC] at hk
 | eptr q i o => simp [keysC] at hk
 | arr q n z => simp [keysC] at hk
 | mp q => simp [keysC] at hk
 | fn g caps =>
  obtain ⟨vs, h1, h2⟩ := h
  refine ⟨vs, h1, h2.imp fun c v hc hcv => capdata_keep hcv ?_ hs⟩
  have : caps.flatMap capKeys = [] := hk
  exact List.flatMap_eq_nil_iff.1 this c hc
theorem data_list {S S' : Nat → Prop} {ρ ρ' : Key → Hd} {ok ok' : Key → Prop} {w : World} {cs : List C} {vs : List Value} (h : All2 (CRel S ρ ok w) cs vs) (hk : ∀ c ∈ cs, keysC c = []) (hs : ∀ b, b < w.heap.size → S b → S' b) : All2 (CRel S' ρ' ok' w) cs vs :=
 h.imp fun c v hc hcv => data_keep hcv (hk c hc) hs
section
variable {V X : Nat → Prop} {Z : Key → Hd} {w0 w w' : World} {N : Nat} {ρ : Key → Hd} {ok ok' : Key → Prop} {lt : Nat → Option AV} {lb : Key → Option Box} {a : Act} {P : Program}
theorem call_sound (h : Rel V X Z w0 N ρ ok lt lb a w) (ho : ∀ q : Key, ok q → ok' q) {key : Nat → Key} (hinj : ∀ i j, key i = key j → i = j) (hkey : ∀ j, j < 64 → ¬ ok (key j) ∧ ok' (key j)) {g : FuncId} {xs : List Arg} {qs : List (Key × TypeId)} {bs : List (Key × Key × Box)} {vals : List Value} {r : ARes}
    (hA : ArgsAt V ρ ok lb w xs qs bs vals) (hn1 : nodup ((dictOf xs qs bs).map (·.1)) = true) (hn2 : nodup ((dictOf xs qs bs).map (·.2)) = true) (hz : ∀ κ q, (κ, q) ∈ dictOf xs qs bs → κ.2 = 0)
    (hq1 : ∀ n, (xs.filter isIo).length = n → qs.length = n) (hq2 : ∀ (j : Nat), ∀ q ty, qs[j]? = some (q, ty) → ∀ t cs, (xs.filter isIo)[j]? = some (.io t cs) → t = ty)
    (hf : FnSound P g xs (bs.map (·.2)) r) (hr1 : r.ios.length = qs.length) (hr2 : r.bx.length ≤ 64) (hr3 : r.closed = true) (hr4 : nodup ((ioBx 0 xs r.ios ++ r.bx).map (·.1)) = true) (hr5 : (r.bx.all fun x => x.2.okRes) = true) (d : Option Nat) (hd : ∀ k, d = some k → k < N) :
    Calls P g vals.toArray w fun e w' => ∃ v, e = .returned v ∧ ∃ ρ', Rel V X Z w0 N ρ' ok' (updT lt d (resAV (renK key r.bx 0) r.vals)) (updB lb (putIo (renK key r.bx 0) qs r.ios ++ (takeBx (renK key r.bx 0) key r.bx 0 ++ bs.map fun x => (x.1, none)))) (a.put d v) w' ∧ (∀ q, ok q → ρ' q = ρ q) ∧ ∀ j κ box q, r.bx[j]? = some (κ, box) → (κ, q) ∈ dictOf xs qs bs → ρ' (key j) = ρ q ∧ j < 64 := by
 let ρc : Key → Hd := fun κ => match lk (dictOf xs qs bs) κ with | some q => ρ q | none => ⟨none, none, 0, 0, 0⟩
 have hρc : ∀ κ q, (κ, q) ∈ dictOf xs qs bs → ρc κ = ρ q := fun κ q hm => by
  show (match lk (dictOf xs qs bs) κ with | some q => ρ q | none => _) = _
  rw [lk_of_mem hn1 hm]
 let Xc : Nat → Prop := fun b => ∃ κ q, (κ, q) ∈ dictOf xs qs bs ∧ (ρ q).g = some b
 let Vc : Nat → Prop := fun b => b < w.heap.size ∧ ¬ Im V ρ lb b ∧ ¬ Xc b
 have hXlive : ∀ b, Xc b → ∃ κ q box, (κ, q) ∈ dictOf xs qs bs ∧ lb q = some box ∧ box.live = true ∧ (ρ q).g = some b := fun b ⟨κ, q, h1, h2⟩ => by
  obtain ⟨box, h3, h4⟩ := hA.old κ q h1
  exact ⟨κ, q, box, h1, h3, h4, h2⟩
 have hImX : ∀ b, Im V ρ lb b → ¬ Xc b := fun b hi hx => by
  obtain ⟨κ, q, box, _, h1, h2, h3⟩ := hXlive b hx
  exact hi.2 q box h1 h2 h3
 let lb0 : Key → Option Box := lk (argBx 0 xs ++ bs.map (·.2))
 have hlb0 : ∀ κ boxc, lb0 κ = some boxc → ∃ q box, (κ, q) ∈ dictOf xs qs bs ∧ lb q = some box ∧ box.live = true ∧ boxc.live = true ∧ ((boxc = box ∧ (box.isSl = true ∨ ∃ es ck, box = .mp es ck)) ∨ (∃ ty sz rows rows', box = .ca ty sz rows ∧ boxc = .ca ty sz rows' ∧ rows'.map List.length = rows.map List.length ∧ ∀ (ρc : Key → Hd) (okc : Key → Prop), (∀ κ q, (κ, q) ∈ dictOf xs qs bs → ρc κ = ρ q ∧ okc κ) → ∀ vs, All2 (CRel (Im V ρ lb) ρ ok w) rows.flatten vs → All2 (CRel (Im V ρ lb) ρc okc w) rows'.flatten vs) ∨
  ∃ ty cs cs', box = .st ty cs ∧ boxc = .st ty cs' ∧ ∀ (ρc : Key → Hd) (okc : Key → Prop), (∀ κ q, (κ, q) ∈ dictOf xs qs bs → ρc κ = ρ q ∧ okc κ) → ∀ vs, All2 (CRel (Im V ρ lb) ρ ok w) cs vs → All2 (CRel (Im V ρ lb) ρc okc w) cs' vs) := fun κ boxc hb => hA.bx κ boxc (mem_of_lk hb)
 have himc : ∀ b, b < w.heap.size → Im V ρ lb b → Im Vc ρc lb0 b := fun b hb hi => ⟨fun hv => hv.2.1 hi, fun κ boxc hκ hl hg => by
  obtain ⟨q, box, h1, h2, h3, _⟩ := hlb0 κ boxc hκ
  rw [hρc κ q h1] at hg
  exact hi.2 q box h2 h3 hg⟩
 have hRc : Rel Vc Xc ρc w vals.length ρc (fun q => q.2 < 1) (lk (argTm 0 xs)) lb0 ⟨vals.toArray, []⟩ w := by
  refine ⟨by simp, rfl, fun t av ht => ?_, fun κ boxc hκ => ?_, fun κ1 b1 κ2 b2 b e1 l1 e2 l2 g1 g2 => ?_, fun κ boxc b hκ hl hg => ?_, Keep.refl _ _, ⟨fun b hv => ⟨hv.1, hv.2.2⟩, h.va.gl.step h.fr fun b hx => by
      obtain ⟨κ, q, box, _, g2, g3, g4⟩ := hXlive b hx
      exact (h.lo q box b g2 g3 g4).2⟩, fun q hq => ⟨by omega, rfl⟩⟩
  ·obtain ⟨h1, h2⟩ := hA.tm t av ht
   refine ⟨h1, ?_⟩
   rcases h2 with ⟨b, cs, rfl, hk⟩ | ⟨q, b, rfl, hm, hg, hv⟩
   ·obtain ⟨us, u1, u2⟩ := hk ρc (fun q => q.2 < 1) (fun κ q hm => ⟨hρc κ q hm, by have := hz κ q hm; omega⟩)
    exact ⟨us, u1.imp fun c v _ hc => hc.keep (Keep.refl _ _) himc (fun _ _ => rfl) (fun _ h => h), u2⟩
   ·show AVRel _ (.one false [.ptr (t, 0) 0]) (vals.toArray.getD t undef)
    rw [hv]
    exact one1 ⟨by show (0 : Nat) < 1; omega, b, by rw [hρc _ _ hm]; exact hg, rfl⟩
  ·obtain ⟨q, box, h1, h2, h3, h4, h5⟩ := hlb0 κ boxc hκ
   refine ⟨by have := hz κ q h1; omega, ?_⟩
   obtain ⟨o1, o2⟩ := h.bx q box h2
   rcases h5 with ⟨rfl, h6⟩ | ⟨ty, sz, rows, rows', rfl, rfl, h6, h7⟩ | ⟨ty, cs, cs', rfl, rfl, h6⟩
   ·cases boxc with
    | st ty cs => simp [Box.isSl] at h6
    | fz sz rows => simp [Box.isSl] at h6
    | mp es ck =>
     obtain ⟨b, y1, y2⟩ := o2
     exact ⟨b, by rw [hρc κ q h1]; exact y1, y2⟩
    | ca ty sz rows => simp [Box.isSl] at h6
    | sl ty sz rows =>
     simp only [BoxRel] at o2 ⊢
     rw [hρc κ q h1]
     obtain ⟨n1, n2, n3, n4, n5, n6⟩ := o2
     refine ⟨n1, n2, n3, n4, n5, n6.imp id ?_⟩
     rintro ⟨b, vs, sp, y1, y2, y3, y4, y5⟩
     exact ⟨b, vs, sp, y1, y2, y3, data_list y4 (fun c hc => by obtain ⟨dd, _, rfl⟩ := List.mem_map.1 hc; rfl) himc, y5⟩
   ·exact BoxRel.caTo o2 (hρc κ q h1) h6 (fun _ _ => rfl) fun vs y3 => (h7 ρc (fun q => q.2 < 1) (fun κ q hm => ⟨hρc κ q hm, by have := hz κ q hm; omega⟩) vs y3).imp fun c v _ hc => hc.keep (Keep.refl _ _) himc (fun _ _ => rfl) (fun _ h => h)
   ·obtain ⟨b, vs, y1, y2, y3⟩ := o2
    refine ⟨b, vs, by rw [hρc κ q h1]; exact y1, y2, ?_⟩
    have := h6 ρc (fun q => q.2 < 1) (fun κ q hm => ⟨hρc κ q hm, by have := hz κ q hm; omega⟩) vs y3
    exact this.imp fun c v _ hc => hc.keep (Keep.refl _ _) himc (fun _ _ => rfl) (fun _ h => h)
  ·obtain ⟨q1, x1, h1, h2, h3, _⟩ := hlb0 κ1 b1 e1
   obtain ⟨q2, x2, k1, k2, k3, _⟩ := hlb0 κ2 b2 e2
   rw [hρc _ _ h1] at g1
   rw [hρc _ _ k1] at g2
   have := h.ap q1 x1 q2 x2 b h2 h3 k2 k3 g1 g2
   subst this
   exact nodup_val hn2 h1 k1
  ·obtain ⟨q, box, h1, h2, h3, _⟩ := hlb0 κ boxc hκ
   rw [hρc _ _ h1] at hg
   exact ⟨(h.lo q box b h2 h3 hg).1, .inr ⟨κ, q, h1, hg⟩⟩
 refine (hf Vc Xc _ ρc w vals hA.len hRc).mono ?_
 rintro e w' ⟨v, ρ', rfl, hR⟩
 refine ⟨v, rfl, ?_⟩
 let lbr : Key → Option Box := lk (ioBx 0 xs r.ios ++ r.bx)
 let f : Key → Key := renK key r.bx 0
 let ρ3 : Key → Hd := fun q => match lk (takeK key r.bx 0) q with | some κ => ρ' κ | none => ρ q
 let lb3 : Key → Option Box := updB lb (putIo f qs r.ios ++ (takeBx f key r.bx 0 ++ bs.map fun x => (x.1, none)))
 obtain ⟨nd1, nd2, nd3⟩ := nodup_append (by simpa using hr4)
 have hnew : ∀ (j : Nat) κ box, r.bx[j]? = some (κ, box) → ρ3 (key j) = ρ' κ ∧ j < 64 := fun j κ box hj => by
  have := takeK_at key hinj (n := 0) hj
  rw [Nat.zero_add] at this
  have hjl : j < r.bx.length := by
   rcases Nat.lt_or_ge j r.bx.length with g | g
   ·exact g
   ·rw [List.getElem?_eq_none g] at hj; cases hj
  exact ⟨by show (match lk (takeK key r.bx 0) (key j) with | some κ => ρ' κ | none => ρ (key j)) = _; rw [this], by omega⟩
 have hρold : ∀ q, ok q → ρ3 q = ρ q := fun q hq => by
  show (match lk (takeK key r.bx 0) q with | some κ => ρ' κ | none => ρ q) = _
  cases hk : lk (takeK key r.bx 0) q with
  | none => rfl
  | some κ =>
   obtain ⟨j, h1, h2⟩ := takeK_mem key hk
   rw [Nat.zero_add] at h2
   exact absurd (h2 ▸ hq) (hkey j (by omega)).1
 have hlbrN : ∀ (j : Nat) κ box, r.bx[j]? = some (κ, box) → lbr κ = some box := fun j κ box hj => lk_of_mem (by simpa using hr4) (List.mem_append_right _ (List.mem_of_getElem? hj))
 have hlbrI : ∀ κ box, (κ, box) ∈ ioBx 0 xs r.ios → lbr κ = some box := fun κ box hm => lk_of_mem (by simpa using hr4) (List.mem_append_left _ hm)
 have hcase : ∀ q box, lb3 q = some box → (∃ κ ty cs, (κ, q) ∈ dictOf xs qs bs ∧ lbr κ = some (.st ty cs) ∧ (κ, Box.st ty cs) ∈ ioBx 0 xs r.ios ∧ box = .st ty (cs.map (renC f)) ∧ (ρ3 q).g = (ρ' κ).g ∧ ok q) ∨ (∃ j κ box0, q = key j ∧ r.bx[j]? = some (κ, box0) ∧ box = renBx f box0) ∨ (lb q = some box ∧ (∀ κ, (κ, q) ∉ dictOf xs qs bs)) := by
  intro q box hq
  have hq' : (match lk (putIo f qs r.ios ++ (takeBx f key r.bx 0 ++ bs.map fun x => (x.1, (none : Option Box)))) q with | some ob => ob | none => lb q) = some box := hq
  rw [lk_append, lk_append] at hq'
  cases h1 : lk (putIo f qs r.ios) q with
  | some ob =>
   rw [h1] at hq'
   obtain ⟨κ, ty, cs, g1, g2, g3⟩ := putIo_lk f (i := 0) (xs := xs) h1 hq1 hr1 hq2
   have hd1 : (κ, q) ∈ dictOf xs qs bs := List.mem_append_left _ g1
   obtain ⟨bx', b1, b2⟩ := hA.old κ q hd1
   have hokq := (h.bx q bx' b1).1
   left
   refine ⟨κ, ty, cs, hd1, hlbrI _ _ g2, g2, ?_, ?_, hokq⟩
   ·simp only [g3] at hq'; cases hq'; rfl
   ·rw [hρold q hokq, (hR.zz κ (hz κ q hd1)).2, hρc κ q hd1]
  | none =>
   rw [h1] at hq'
   cases h2 : lk (takeBx f key r.bx 0) q with
   | some ob =>
    rw [h2] at hq'
    obtain ⟨j, κ, box', g1, g2, g3⟩ := takeBx_lk f key h2
    right; left
    rw [Nat.zero_add] at g1
    simp only [g3] at hq'
    cases hq'
    exact ⟨j, κ, box', g1, g2, rfl⟩
   | none =>
    rw [h2] at hq'
    cases h3 : lk (bs.map fun x => (x.1, (none : Option Box))) q with
    | some ob =>
     have := mem_of_lk h3
     obtain ⟨x, _, hx⟩ := List.mem_map.1 this
     cases hx
     rw [h3] at hq'
     cases hq'
    | none =>
     rw [h3] at hq'
     right; right
     refine ⟨hq', fun κ hm => ?_⟩
     rcases List.mem_append.1 hm with hm | hm
     ·exact putIo_none f h1 hr1 (zipIo_val hm)
     ·obtain ⟨x, hx1, hx2⟩ := List.mem_map.1 hm
      cases hx2
      have : ∀ (l : List (Key × Key × Box)), x ∈ l → lk (l.map fun x => (x.1, (none : Option Box))) x.1 ≠ none := by
       intro l hl
       induction l with
       | nil => cases hl
       | cons y l ih =>
        by_cases e : x.1 = y.1
        ·rw [show lk ((y :: l).map fun x => (x.1, (none : Option Box))) x.1 = some none from if_pos e]; simp
        ·rw [show lk ((y :: l).map fun x => (x.1, (none : Option Box))) x.1 = lk (l.map fun x => (x.1, (none : Option Box))) x.1 from if_neg e]
         rcases List.mem_cons.1 hl with rfl | hl
         ·exact absurd rfl e
         ·exact ih hl
      exact this bs hx1 h3
 have hold : ∀ q box b, lb q = some box → box.live = true → (∀ κ, (κ, q) ∉ dictOf xs qs bs) → (ρ q).g = some b → ¬ Xc b := fun q box b h1 h2 h3 h4 hx => by
  obtain ⟨κ, q', box', g1, g2, g3, g4⟩ := hXlive b hx
  have := h.ap q box q' box' b h1 h2 g2 g3 h4 g4
  subst this
  exact h3 κ g1
 have hlive : ∀ q box b, lb3 q = some box → box.live = true → (ρ3 q).g = some b → (∃ κ box', lbr κ = some box' ∧ box'.live = true ∧ (ρ' κ).g = some b) ∨ (lb q = some box ∧ (∀ κ, (κ, q) ∉ dictOf xs qs bs) ∧ (ρ q).g = some b) := by
  intro q box b hq hl hg
  rcases hcase q box hq with ⟨κ, ty, cs, g1, g2, _, g3, g4, g5⟩ | ⟨j, κ, box0, rfl, g2, g3⟩ | ⟨g1, g2⟩
  ·exact .inl ⟨κ, _, g2, rfl, by rw [← g4]; exact hg⟩
  ·exact .inl ⟨κ, box0, hlbrN _ _ _ g2, by rw [g3, renBx_live] at hl; exact hl, by rw [← (hnew j κ box0 g2).1]; exact hg⟩
  ·rw [hρold q (h.bx q box g1).1] at hg
   exact .inr ⟨g1, g2, hg⟩
 have hVw : ∀ b, V b → b < w.heap.size := fun b hb => Nat.lt_of_lt_of_le (h.va.lt b hb).1 h.fr.size
 have hS : ∀ b, b < w'.heap.size → Im Vc ρ' lbr b → Im V ρ3 lb3 b := by
  intro b hb hi
  have hnv : ¬ V b := fun hv => by
   have hbw := hVw b hv
   by_cases hx : Xc b
   ·obtain ⟨κ, q, box, _, g2, g3, g4⟩ := hXlive b hx
    rcases (h.lo q box b g2 g3 g4).2 with h1 | h1
    ·have := (h.va.lt b hv).1; omega
    ·exact (h.va.lt b hv).2 h1
   ·exact hi.1 ⟨hbw, fun him => him.1 hv, hx⟩
  refine ⟨hnv, fun q box hq hl hg => ?_⟩
  rcases hlive q box b hq hl hg with ⟨κ, box', g1, g2, g3⟩ | ⟨g1, g2, g3⟩
  ·exact hi.2 κ box' g1 g2 g3
  ·have hbw := (h.lo q box b g1 hl g3).1
   exact hi.1 ⟨hbw, fun him => him.2 q box g1 hl g3, hold q box b g1 hl g2 g3⟩
 have hs2 : ∀ b, b < w.heap.size → Im V ρ lb b → Im V ρ3 lb3 b := by
  intro b hb hi
  refine ⟨hi.1, fun q box hq hl hg => ?_⟩
  rcases hlive q box b hq hl hg with ⟨κ, box', g1, g2, g3⟩ | ⟨g1, g2, g3⟩
  ·rcases (hR.lo κ box' b g1 g2 g3).2 with h1 | h1
   ·omega
   ·exact hImX b hi h1
  ·exact hi.2 q box g1 hl g3
 have hkw : Keep (Im V ρ lb) w w' := hR.fr.mono fun b _ hi => hImX b hi
 have hren : ∀ c v, (∀ k ∈ keysC c, k ∈ r.bx.map (·.1)) → CRel (Im Vc ρ' lbr) ρ' (fun _ => True) w' c v → CRel (Im V ρ3 lb3) ρ3 ok' w' (renC f c) v := by
  intro c v hck hc
  have hk : ∀ κ, κ ∈ r.bx.map (·.1) → ρ3 (f κ) = ρ' κ ∧ ok' (f κ) := fun κ hm => by
   obtain ⟨⟨κ', box⟩, hm1, rfl⟩ := List.mem_map.1 hm
   obtain ⟨j, g1, g2, g3, g4⟩ := renK_mem f key hinj (n := 0) nd2 hm1
   rw [Nat.zero_add] at g1
   have := hnew j _ _ g3
   show ρ3 (renK key r.bx 0 κ') = _ ∧ ok' (renK key r.bx 0 κ')
   rw [g1]
   exact ⟨this.1, (hkey j this.2).2⟩
  cases c with
  | d d => exact Rd.mono hc hS
  | zero => exact hc
  | own q => obtain ⟨_, hv⟩ := hc; obtain ⟨h1, h2⟩ := hk q (hck q (by simp [keysC])); exact ⟨h2, by rw [h1]; exact hv⟩
  | ptr q o => obtain ⟨_, b, h3, hv⟩ := hc; obtain ⟨h1, h2⟩ := hk q (hck q (by simp [keysC])); exact ⟨h2, b, by rw [h1]; exact h3, hv⟩
  | eptr q i o => obtain ⟨_, b, h3, hv⟩ := hc; obtain ⟨h1, h2⟩ := hk q (hck q (by simp [keysC])); exact ⟨h2, b, by rw [h1]; exact h3, by rw [h1]; exact hv⟩
  | rptr row o => exact data_keep (ρ := ρ') (ok := fun _ => True) hc rfl hS
  | arr q n z => obtain ⟨_, b, h3, hv⟩ := hc; obtain ⟨h1, h2⟩ := hk q (hck q (by simp [keysC])); exact ⟨h2, b, by rw [h1]; exact h3, hv⟩
  | mp q => obtain ⟨_, b, h3, hv⟩ := hc; obtain ⟨h1, h2⟩ := hk q (hck q (by simp [keysC])); exact ⟨h2, b, by rw [h1]; exact h3, hv⟩
  | fn gg caps =>
   obtain ⟨vs, h1, h2⟩ := hc
   refine ⟨vs, h1, ?_⟩
   have hck' : ∀ c ∈ caps, ∀ k ∈ capKeys c, k ∈ r.bx.map (·.1) := fun c hc' k hk' => hck k (List.mem_flatMap.2 ⟨c, hc', hk'⟩)
   clear hck h1
   induction h2 with
   | nil => exact .nil
   | @cons c v cs vs hcv _ ih =>
    refine .cons ?_ (ih fun c hc' => hck' c (by simp [hc']))
    cases c with
    | d d => exact Rd.mono hcv hS
    | ptr q o => obtain ⟨_, b, h3, hv⟩ := hcv; obtain ⟨h1, h2⟩ := hk q (hck' (.ptr q o) (by simp) q (by simp [capKeys])); exact ⟨h2, b, by rw [h1]; exact h3, hv⟩
    | rptr row o => exact capdata_keep (c := .rptr row o) hcv rfl hS
  | dead => exact hc
 have hrenL : ∀ {cs : List C} {vs : List Value}, (∀ c ∈ cs, ∀ k ∈ keysC c, k ∈ r.bx.map (·.1)) → All2 (CRel (Im Vc ρ' lbr) ρ' (fun _ => True) w') cs vs → All2 (CRel (Im V ρ3 lb3) ρ3 ok' w') (cs.map (renC f)) vs := by
  intro cs vs hck hh
  induction hh with
  | nil => exact .nil
  | cons x y ih => exact .cons (hren _ _ (hck _ (by simp)) x) (ih fun c hc => hck c (by simp [hc]))
 unfold ARes.closed at hr3
 rw [Bool.and_eq_true, Bool.and_eq_true] at hr3
 have hcb : ∀ κ box, (κ, box) ∈ r.bx → ∀ k ∈ keysBx box, k ∈ r.bx.map (·.1) := fun κ box hm k hk => by
  have := List.all_eq_true.1 hr3.1.1 (κ, box) hm
  have := List.all_eq_true.1 this k hk
  simpa using this
 replace hr3 : _ ∧ _ := ⟨hr3.1.2, hr3.2⟩
 have hcv : ∀ b cs, (b, cs) ∈ r.vals → ∀ c ∈ cs, ∀ k ∈ keysC c, k ∈ r.bx.map (·.1) := fun b cs hm c hc k hk => by
  have := List.all_eq_true.1 hr3.1 (b, cs) hm
  have := List.all_eq_true.1 this c hc
  have := List.all_eq_true.1 this k hk
  simpa using this
 have hci : ∀ cs, cs ∈ r.ios → ∀ c ∈ cs, ∀ k ∈ keysC c, k ∈ r.bx.map (·.1) := fun cs hm c hc k hk => by
  have := List.all_eq_true.1 hr3.2 cs hm
  have := List.all_eq_true.1 this c hc
  have := List.all_eq_true.1 this k hk
  simpa using this
 have hioMem : ∀ {i : Nat} {ys : List Arg} {ios : List (List C)} {κ : Key} {ty : TypeId} {cs : List C}, (κ, Box.st ty cs) ∈ ioBx i ys ios → cs ∈ ios := by
  intro i ys
  induction ys generalizing i with
  | nil => intro ios κ ty cs hm; simp [ioBx] at hm
  | cons y ys ih =>
   intro ios κ ty cs hm
   cases y with
   | val b cc => exact ih (by simpa [ioBx] using hm)
   | io t cc =>
    cases ios with
    | nil => simp [ioBx] at hm
    | cons z ios =>
     simp only [ioBx, List.mem_cons, Prod.mk.injEq, Box.st.injEq] at hm
     rcases hm with ⟨_, _, rfl⟩ | hm
     ·simp
     ·exact List.mem_cons_of_mem _ (ih hm)
 have hval : AVRel (CRel (Im V ρ3 lb3) ρ3 ok' w') (resAV f r.vals) v := by
  have h1 := (hR.tm 0 (resAV id r.vals) rfl).2
  have h2 : (⟨#[v], []⟩ : Act).tmps.getD 0 undef = v := rfl
  rw [h2] at h1
  by_cases hl : r.vals.length = 1
  ·obtain ⟨⟨b, cs⟩, hbc⟩ := List.length_eq_one_iff.1 hl
   rw [hbc, resAV_id_one] at h1
   rw [hbc]
   obtain ⟨us, u1, u2⟩ := h1
   exact ⟨us, hrenL (fun c hc => hcv b cs (by rw [hbc]; simp) c hc) u1, u2⟩
  ·rw [resAV_id_tup hl] at h1
   obtain ⟨us, u1, u2⟩ := h1
   have e1 : resAV f r.vals = .tup (r.vals.map fun (p : Bool × List C) => (p.1, p.2.map (renC f))) := by
    unfold resAV
    split
    ·rename_i hh; rw [hh] at hl; simp at hl
    ·rfl
   rw [e1]
   refine ⟨us, u1, ?_⟩
   have : ∀ {l : List (Bool × List C)} {us : List Value}, (∀ b cs, (b, cs) ∈ l → ∀ c ∈ cs, ∀ k ∈ keysC c, k ∈ r.bx.map (·.1)) → Alls (CRel (Im Vc ρ' lbr) ρ' (fun _ => True) w') l us → Alls (CRel (Im V ρ3 lb3) ρ3 ok' w') (l.map fun (p : Bool × List C) => (p.1, p.2.map (renC f))) us := by
    intro l us hl hh
    induction hh with
    | nil => exact .nil
    | @cons b1 c1 v1 xs1 vs1 x y ih =>
     obtain ⟨us, u1, u2⟩ := x
     exact .cons ⟨us, hrenL (hl b1 c1 (List.mem_cons_self ..)) u1, u2⟩ (ih fun b cs hm => hl b cs (List.mem_cons_of_mem _ hm))
   exact this hcv u2
 refine ⟨ρ3, h.step2 d _ v hd hkw hs2 hρold ho hval (fun q box hq => ?_) (fun q1 b1 q2 b2 b e1 l1 e2 l2 g1 g2 => ?_) (fun q box b hq hl hg => ?_) ?_, hρold, fun j κ box q hj hm => ⟨by rw [(hnew j κ box hj).1, (hR.zz κ (hz κ q hm)).2]; exact hρc κ q hm, (hnew j κ box hj).2⟩⟩
 ·rcases hcase q box hq with ⟨κ, ty, cs, g1, g2, gm, g3, g4, g5⟩ | ⟨j, κ, box0, rfl, g2, g3⟩ | ⟨g1, g2⟩
  ·right
   obtain ⟨_, b, vs, y1, y2, y3⟩ := hR.bx κ _ g2
   subst g3
   exact ⟨ho q g5, b, vs, by rw [g4]; exact y1, y2, hrenL (hci cs (hioMem gm)) y3⟩
  ·right
   have hn := hnew j κ box0 g2
   refine ⟨(hkey j hn.2).2, ?_⟩
   have hsl : box0.okRes = true := List.all_eq_true.1 hr5 (κ, box0) (List.mem_of_getElem? g2)
   obtain ⟨_, y⟩ := hR.bx κ _ (hlbrN _ _ _ g2)
   subst g3
   cases box0 with
   | st ty cs =>
    obtain ⟨b, vs, y1, y2, y3⟩ := y
    exact ⟨b, vs, by rw [hn.1]; exact y1, y2, hrenL (fun c hc k hk => hcb κ _ (List.mem_of_getElem? g2) k (List.mem_flatMap.2 ⟨c, hc, hk⟩)) y3⟩
   | fz sz rows => simp [Box.okRes] at hsl
   | mp es ck =>
    obtain ⟨b, y1, y2⟩ := y
    exact ⟨b, by rw [hn.1]; exact y1, y2⟩
   | sl ty sz rows =>
    show BoxRel _ _ _ _ _ (.sl ty sz rows)
    simp only [BoxRel] at y ⊢
    rw [hn.1]
    obtain ⟨n1, n2, n3, n4, n5, n6⟩ := y
    refine ⟨n1, n2, n3, n4, n5, n6.imp id ?_⟩
    rintro ⟨b, vs, sp, y1, y2, y3, y4, y5⟩
    exact ⟨b, vs, sp, y1, y2, y3, data_list y4 (fun c hc => by obtain ⟨dd, _, rfl⟩ := List.mem_map.1 hc; rfl) hS, y5⟩
   | ca ty sz rows =>
    refine BoxRel.caTo (rows' := rows.map (·.map (renC f))) y hn.1 (lens_map _) (fun _ _ => rfl) fun vs y3 => ?_
    rw [← List.map_flatten]
    exact hrenL (fun c hc k hk => hcb κ _ (List.mem_of_getElem? g2) k (List.mem_flatMap.2 ⟨c, hc, hk⟩)) y3
  ·exact .inl ⟨g1, fun hl b hb => hR.fr.block b (h.lo q box b g1 hl hb).1 (hold q box b g1 hl g2 hb)⟩
 ·-- two live keys at one block
  have key2 : ∀ q box b, lb3 q = some box → box.live = true → (ρ3 q).g = some b → (∃ κ box', lbr κ = some box' ∧ box'.live = true ∧ (ρ' κ).g = some b ∧ (((κ, q) ∈ dictOf xs qs bs ∧ (κ, box') ∈ ioBx 0 xs r.ios) ∨ ∃ j, q = key j ∧ r.bx[j]? = some (κ, box'))) ∨ (lb q = some box ∧ (∀ κ, (κ, q) ∉ dictOf xs qs bs) ∧ (ρ q).g = some b) := by
   intro q box b hq hl hg
   rcases hcase q box hq with ⟨κ, ty, cs, g1, g2, gm, g3, g4, g5⟩ | ⟨j, κ, box0, rfl, g2, g3⟩ | ⟨g1, g2⟩
   ·exact .inl ⟨κ, _, g2, rfl, by rw [← g4]; exact hg, .inl ⟨g1, gm⟩⟩
   ·exact .inl ⟨κ, box0, hlbrN _ _ _ g2, by rw [g3, renBx_live] at hl; exact hl, by rw [← (hnew j κ box0 g2).1]; exact hg, .inr ⟨j, rfl, g2⟩⟩
   ·rw [hρold q (h.bx q box g1).1] at hg
    exact .inr ⟨g1, g2, hg⟩
  have mixed : ∀ q box κ box', lb q = some box → box.live = true → (∀ κ, (κ, q) ∉ dictOf xs qs bs) → (ρ q).g = some b → lbr κ = some box' → box'.live = true → (ρ' κ).g = some b → False := by
   intro q box κ box' c1 c2 c3 c4 c5 c6 c7
   rcases (hR.lo κ box' b c5 c6 c7).2 with h1 | h1
   ·have := (h.lo q box b c1 c2 c4).1; omega
   ·exact hold q box b c1 c2 c3 c4 h1
  rcases key2 q1 b1 b e1 l1 g1 with ⟨κ1, x1, p1, p2, p3, p4⟩ | ⟨p1, p2, p3⟩
  ·rcases key2 q2 b2 b e2 l2 g2 with ⟨κ2, x2, r1, r2, r3, r4⟩ | ⟨r1, r2, r3⟩
   ·have hκ := hR.ap κ1 x1 κ2 x2 b p1 p2 r1 r2 p3 r3
    subst hκ
    rcases p4 with ⟨m1, m2⟩ | ⟨j1, rfl, m2⟩ <;> rcases r4 with ⟨m3, m4⟩ | ⟨j2, rfl, m4⟩
    ·have := lk_of_mem hn1 m1
     rw [lk_of_mem hn1 m3] at this
     cases this
     rfl
    ·exact absurd (List.mem_map.2 ⟨_, List.mem_of_getElem? m4, rfl⟩) (nd3 κ1 (List.mem_map.2 ⟨_, m2, rfl⟩))
    ·exact absurd (List.mem_map.2 ⟨_, List.mem_of_getElem? m2, rfl⟩) (nd3 κ1 (List.mem_map.2 ⟨_, m4, rfl⟩))
    ·have hidx : ∀ {l : List (Key × Box)} {i j : Nat} {κ : Key} {x y : Box}, nodup (l.map (·.1)) = true → l[i]? = some (κ, x) → l[j]? = some (κ, y) → i = j := by
       intro l
       induction l with
       | nil => intro i j κ x y _ hi; simp at hi
       | cons z l ih =>
        intro i j κ x y hnd hi hj
        rw [List.map_cons] at hnd
        obtain ⟨z1, z2⟩ := nodup_mem hnd
        cases i with
        | zero =>
         cases j with
         | zero => rfl
         | succ j =>
          simp at hi hj
          exact absurd (List.mem_map.2 ⟨_, List.mem_of_getElem? hj, by rw [hi]⟩) z1
        | succ i =>
         cases j with
         | zero =>
          simp at hi hj
          exact absurd (List.mem_map.2 ⟨_, List.mem_of_getElem? hi, by rw [hj]⟩) z1
         | succ j => exact congrArg (· + 1) (ih (i := i) (j := j) (κ := κ) (x := x) (y := y) z2 (by simpa using hi) (by simpa using hj))
     rw [hidx nd2 m2 m4]
   ·exact (mixed q2 b2 κ1 x1 r1 l2 r2 r3 p1 p2 p3).elim
  ·rcases key2 q2 b2 b e2 l2 g2 with ⟨κ2, x2, r1, r2, r3, r4⟩ | ⟨r1, r2, r3⟩
   ·exact (mixed q1 b1 κ2 x2 p1 l1 p2 p3 r1 r2 r3).elim
   ·exact h.ap q1 b1 q2 b2 b p1 l1 r1 l2 p3 r3
 ·rcases hlive q box b hq hl hg with ⟨κ, box', g1, g2, g3⟩ | ⟨g1, g2, g3⟩
  ·obtain ⟨h1, h2⟩ := hR.lo κ box' b g1 g2 g3
   refine ⟨h1, ?_⟩
   rcases h2 with h2 | h2
   ·exact .inl (Nat.le_trans h.fr.size h2)
   ·obtain ⟨κ', q', bx', _, k2, k3, k4⟩ := hXlive b h2
    exact (h.lo q' bx' b k2 k3 k4).2
  ·have := h.lo q box b g1 hl g3
   exact ⟨Nat.lt_of_lt_of_le this.1 hR.fr.size, this.2⟩
 ·refine Keep.out h (hR.fr.mono fun b _ hi hx => ?_)
  obtain ⟨κ, q, box, _, g2, g3, g4⟩ := hXlive b hx
  exact hi q box g2 g3 g4
end
end Go.Proofs.YtjpdemikmdfonaaGreatDoor
namespace Go.Proofs.YtjpdemikmdfonaaGreatDoor
open Go Go.RowKit
set_option linter.unusedSimpArgs false
set_option linter.unusedVariables false
inductive AL (R : C → Value → Prop) (ρ : Key → Hd) (D : Key → Key → Prop) : Nat → List Arg → List Value → Prop
 | nil {i : Nat} : AL R ρ D i [] []
 | val {i : Nat} {b : Bool} {cs : List C} {v : Value} {xs : List Arg} {vs : List Value} (hk : ∀ c ∈ cs, keysC c = []) (h : One R b cs v) (t : AL R ρ D (i + 1) xs vs) : AL R ρ D i (.val b cs :: xs) (v :: vs)
 | io {i : Nat} {ty : TypeId} {cs : List C} {v : Value} {xs : List Arg} {vs : List Value} {q : Key} {b : Nat} (h : D (i, 0) q) (hg : (ρ q).g = some b) (hv : v = .pointer (some ⟨b, 0, none⟩)) (t : AL R ρ D (i + 1) xs vs) : AL R ρ D i (.io ty cs :: xs) (v :: vs)
section
variable {R : C → Value → Prop} {ρ : Key → Hd} {D : Key → Key → Prop}
theorem AL.length {i : Nat} {xs : List Arg} {vs : List Value} (h : AL R ρ D i xs vs) : vs.length = xs.length := by induction h with | nil => rfl | val _ _ _ ih => simp [ih] | io _ _ _ _ ih => simp [ih]
theorem AL.tm {i : Nat} {xs : List Arg} {vs : List Value} (h : AL R ρ D i xs vs) : ∀ t av, lk (argTm i xs) t = some av → i ≤ t ∧ t - i < vs.length ∧ ((∃ b cs, av = .one b cs ∧ (∀ c ∈ cs, keysC c = []) ∧ One R b cs (vs.getD (t - i) undef)) ∨
    (∃ q b, av = .one false [.ptr (t, 0) 0] ∧ D (t, 0) q ∧ (ρ q).g = some b ∧ vs.getD (t - i) undef = .pointer (some ⟨b, 0, none⟩))) := by
 induction h with
 | nil => intro t av ht; cases ht
 | @val i b cs v xs vs hk h tt ih =>
  intro t av ht
  by_cases e : t = i
  ·subst e
   rw [show lk (argTm t (.val b cs :: xs)) t = some (.one b cs) from if_pos rfl] at ht
   cases ht
   exact ⟨Nat.le_refl _, by simp, .inl ⟨b, cs, rfl, hk, by simpa using h⟩⟩
  ·rw [show lk (argTm i (.val b cs :: xs)) t = lk (argTm (i + 1) xs) t from if_neg e] at ht
   obtain ⟨h1, h2, h3⟩ := ih t av ht
   have e1 : (v :: vs).getD (t - i) undef = vs.getD (t - (i + 1)) undef := by
    rw [show t - i = (t - (i + 1)) + 1 by omega]; simp
   rw [e1]
   exact ⟨by omega, by simp; omega, h3⟩
 | @io i ty cs v xs vs q b h hg hv tt ih =>
  intro t av ht
  by_cases e : t = i
  ·subst e
   rw [show lk (argTm t (.io ty cs :: xs)) t = some (.one false [.ptr (t, 0) 0]) from if_pos rfl] at ht
   cases ht
   exact ⟨Nat.le_refl _, by simp, .inr ⟨q, b, rfl, h, hg, by simpa using hv⟩⟩
  ·rw [show lk (argTm i (.io ty cs :: xs)) t = lk (argTm (i + 1) xs) t from if_neg e] at ht
   obtain ⟨h1, h2, h3⟩ := ih t av ht
   have e1 : (v :: vs).getD (t - i) undef = vs.getD (t - (i + 1)) undef := by
    rw [show t - i = (t - (i + 1)) + 1 by omega]; simp
   rw [e1]
   exact ⟨by omega, by simp; omega, h3⟩
end
section
variable {V X : Nat → Prop} {Z : Key → Hd} {w0 w : World} {N : Nat} {ρ : Key → Hd} {ok ok' : Key → Prop} {lt lt' : Nat → Option AV} {lb lb' : Key → Option Box} {a : Act} {P : Program} {o : Oper} {e : Eff} {Q : Exit → Act → World → Prop}
theorem argVal_sound (h : Rel V X Z w0 N ρ ok lt lb a w) (hb : ∀ t x, lb' t = some x → lb t = some x) {cur : Nat} {kt : List Key} (hkt : kt.filter (·.2 != cur) = []) {c c' : C} {ks : List Key} (he : argVal lb' false c = some (c', ks)) (hks : ∀ k ∈ ks, k ∈ kt) {v : Value} (hv : CRel (Im V ρ lb) ρ ok w c v) :
    CRel (Im V ρ (updB lb (shut cur lb' kt))) ρ ok w c' v ∧ keysC c' = [] := by
 have hs := shut_Shut (lb := lb) hb cur kt
 have gen : CRel (Im V ρ (updB lb (shut cur lb' kt))) ρ ok w c v := hv.keep (Keep.refl _ _) (fun b _ hi => im_shut hs hi) (fun _ _ => rfl) (fun _ h => h)
 cases c with
 | d d => simp [argVal] at he; obtain ⟨rfl, rfl⟩ := he; exact ⟨gen, rfl⟩
 | zero => simp [argVal] at he; obtain ⟨rfl, rfl⟩ := he; exact ⟨gen, rfl⟩
 | rptr row o => simp [argVal] at he; obtain ⟨rfl, rfl⟩ := he; exact ⟨gen, rfl⟩
 | dead => simp [argVal] at he; obtain ⟨rfl, rfl⟩ := he; exact ⟨gen, rfl⟩
 | ptr q o => simp [argVal] at he
 | eptr q i o => simp [argVal] at he
 | arr q n z => simp [argVal] at he
 | mp q => simp [argVal] at he
 | fn g caps =>
  simp only [argVal, Bool.false_eq_true, if_false] at he
  split at he
  ·rename_i hall
   cases he
   refine ⟨gen, ?_⟩
   show caps.flatMap capKeys = []
   exact List.flatMap_eq_nil_iff.2 fun c hc => by simpa using List.all_eq_true.1 hall c hc
  ·cases he
 | own q =>
  simp only [argVal] at he
  cases h1 : toD lb' (.own q) with
  | none => simp [h1] at he
  | some p =>
   obtain ⟨d, k⟩ := p
   simp [h1] at he
   obtain ⟨rfl, rfl⟩ := he
   refine ⟨toD_sound h hb (fun b _ hi => im_shut hs hi) h1 (fun q' box b hq' hbx hg => ?_) hv, rfl⟩
   obtain ⟨ty, sz, rows, h2⟩ := toD_ks h1 q' hq'
   exact im_of_shut h hs (hb _ _ h2) (by unfold updB; rw [shut_mem (hks q' hq') (needs_cur hkt q' (hks q' hq')) h2]) hg
theorem argVals_sound (h : Rel V X Z w0 N ρ ok lt lb a w) (hb : ∀ t x, lb' t = some x → lb t = some x) {cur : Nat} {kt : List Key} (hkt : kt.filter (·.2 != cur) = []) : ∀ {cs cs' : List C} {ks : List Key} {vs : List Value}, argVals lb' false cs = some (cs', ks) → (∀ k ∈ ks, k ∈ kt) → All2 (CRel (Im V ρ lb) ρ ok w) cs vs →
    All2 (CRel (Im V ρ (updB lb (shut cur lb' kt))) ρ ok w) cs' vs ∧ ∀ c ∈ cs', keysC c = []
 | [], cs', ks, vs, he, hks, hA => by simp [argVals] at he; obtain ⟨rfl, rfl⟩ := he; cases hA; exact ⟨.nil, by simp⟩
 | c :: cs, cs', ks, vs, he, hks, hA => by
  unfold argVals at he
  cases h1 : argVal lb' false c with
  | none => simp [h1] at he
  | some p =>
   cases h2 : argVals lb' false cs with
   | none => simp [h1, h2] at he
   | some r =>
    obtain ⟨c1, k1⟩ := p
    obtain ⟨cs1, k2⟩ := r
    simp [h1, h2] at he
    obtain ⟨rfl, rfl⟩ := he
    cases hA with
    | cons x y =>
     obtain ⟨g1, g2⟩ := argVal_sound h hb hkt h1 (fun k hk => hks k (by simp [hk])) x
     obtain ⟨g3, g4⟩ := argVals_sound h hb hkt h2 (fun k hk => hks k (by simp [hk])) y
     exact ⟨.cons g1 g3, fun c hc => by rcases List.mem_cons.1 hc with rfl | hc; exact g2; exact g4 c hc⟩
theorem argsOf_sound (h : Rel V X Z w0 N ρ ok lt lb a w) (hl : ∀ t x, lt' t = some x → lt t = some x) (hb : ∀ t x, lb' t = some x → lb t = some x) {cur : Nat} {kt : List Key} (hkt : kt.filter (·.2 != cur) = []) (D : Key → Key → Prop) : ∀ {i : Nat} {args : List Operand} {xs : List (Bool × List C)} {ks : List Key}, argsOf lt' lb' false args = some (xs, ks) → (∀ k ∈ ks, k ∈ kt) →
    AL (CRel (Im V ρ (updB lb (shut cur lb' kt))) ρ ok w) ρ D i (xs.map fun (b, cs) => Arg.val b cs) (args.map a.eval)
 | i, [], xs, ks, he, hks => by simp [argsOf] at he; obtain ⟨rfl, rfl⟩ := he; exact .nil
 | i, x :: args, xs, ks, he, hks => by
  unfold argsOf at he
  split at he
  ·rename_i b cs xs' ks' h1 h2
   split at he
   ·rename_i cs' k h3
    cases he
    obtain ⟨us, u1, u2⟩ := ev_sound h hl h1
    obtain ⟨g1, g2⟩ := argVals_sound h hb hkt h3 (fun k hk => hks k (by simp [hk])) u1
    exact .val g2 ⟨us, g1, u2⟩ (argsOf_sound h hl hb hkt D h2 (fun k hk => hks k (by simp [hk])))
   ·cases he
  ·cases he
theorem dict_nil (xs : List (Bool × List C)) : dictOf (xs.map fun (b, cs) => Arg.val b cs) [] [] = [] := by
 have : ∀ i, zipIo i (xs.map fun (p : Bool × List C) => Arg.val p.1 p.2) [] = [] := by
  induction xs with
  | nil => intro i; rfl
  | cons x xs ih => intro i; exact ih (i + 1)
 show zipIo 0 _ [] ++ _ = _
 rw [this]
 rfl
theorem argBx_nil (xs : List (Bool × List C)) : ∀ i, argBx i (xs.map fun (b, cs) => Arg.val b cs) = [] := by
 induction xs with
 | nil => intro i; rfl
 | cons x xs ih => intro i; exact ih (i + 1)
theorem ioBx_nil (xs : List (Bool × List C)) (ios : List (List C)) : ∀ i, ioBx i (xs.map fun (b, cs) => Arg.val b cs) ios = [] := by
 induction xs with
 | nil => intro i; rfl
 | cons x xs ih => intro i; exact ih (i + 1)
theorem argsAt_val (h : Rel V X Z w0 N ρ ok lt lb a w) {xs : List (Bool × List C)} {vals : List Value} (hA : AL (CRel (Im V ρ lb) ρ ok w) ρ (fun κ q => (κ, q) ∈ dictOf (xs.map fun (b, cs) => Arg.val b cs) [] []) 0 (xs.map fun (b, cs) => Arg.val b cs) vals) :
    ArgsAt V ρ ok lb w (xs.map fun (b, cs) => Arg.val b cs) [] [] vals := by
 refine ⟨hA.length, fun i av hi => ?_, fun κ boxc hm => ?_, fun κ q hm => ?_⟩
 ·obtain ⟨_, h2, h3⟩ := hA.tm i av hi
  rw [Nat.sub_zero] at h2 h3
  refine ⟨h2, ?_⟩
  have e1 : vals.toArray.getD i undef = vals.getD i undef := by simp [Array.getD_eq_getD_getElem?]
  rw [e1]
  rcases h3 with ⟨b, cs, h4, h5, us, u1, u2⟩ | h3
  ·exact .inl ⟨b, cs, h4, fun _ _ _ => ⟨us, data_list u1 h5 (fun _ _ h => h), u2⟩⟩
  ·exact .inr h3
 ·rw [argBx_nil] at hm; simp at hm
 ·rw [dict_nil] at hm; cases hm
theorem wp_call {c : Call} {f : Operand} {g : FuncId} (hop : o.op = .call c) (hc : c.callee = .value f) {us : List Value} (hf : a.eval f = .func (.func g) #[] us.toArray) (hbod : bodied P g = true) {K : Act → World → Prop} (hC : Calls P g (c.args.toList.map a.eval ++ us).toArray w fun e w' => ∃ v, e = .returned v ∧ K (a.put o.dst v) w') : o.wp P a w K Q := by
 unfold bodied at hbod
 split at hbod
 ·rename_i fn hfn
  simp only [Bool.and_eq_true, Bool.not_eq_true'] at hbod
  have e1 : (c.args.toList.map a.eval ++ us).toArray = c.args.map a.eval ++ us.toArray := by rw [← Array.toList_map]; simp
  rw [e1] at hC
  have hrun : (execOp a.eval o).run P w = .ok (.enter g (c.args.map a.eval ++ us.toArray)) w := by
   have hb : ¬ fn.body = none := fun hbb => by rw [hbb] at hbod; simp at hbod
   have hnm : ¬ fn.name = "runtime.NumGoroutine" := by simpa using hbod.2
   simp [execOp, hop, resolve, hc, hf, Deferred.ofValue, invoke, callFunc, hfn]
   rw [if_neg hnm, if_neg hb]
  unfold Oper.wp
  rw [hrun]
  refine hC.mono ?_
  rintro e w' ⟨v, rfl, hK⟩
  exact hK
 ·cases hbod
theorem caps_all {S : Nat → Prop} {ρ : Key → Hd} {ok : Key → Prop} {w : World} {caps : List Cap} {us : List Value} (h : Caps (CapRel S ρ ok w) caps us) : All2 (CRel S ρ ok w) (caps.map Cap.toC) us := by
 induction h with
 | nil => exact .nil
 | @cons c v cs vs hc _ ih =>
  refine .cons ?_ ih
  cases c with
  | d x => exact hc
  | ptr q o => exact hc
  | rptr row o => exact hc
theorem callee_sound (h : Rel V X Z w0 N ρ ok lt lb a w) (hl : ∀ t x, lt' t = some x → lt t = some x) {f : Operand} {g : FuncId} {caps : List C} (he : calleeOf lt' f = some (g, caps)) : ∃ us : List Value, a.eval f = .func (.func g) #[] us.toArray ∧ All2 (CRel (Im V ρ lb) ρ ok w) caps us := by
 unfold calleeOf at he
 split at he
 ·rename_i g' x y h1
  split at he
  ·rename_i hc
   cases he
   have := conV_sound (x := .func (.func g) x y) rfl (ev_sound h hl h1)
   simp only [Bool.and_eq_true, Array.isEmpty_iff] at hc
   exact ⟨[], by rw [this, hc.1, hc.2], .nil⟩
  ·cases he
 ·rename_i g' cps h1
  cases he
  obtain ⟨us, u1, u2⟩ := slot1_sound (c := .fn g cps) rfl (ev_sound h hl h1)
  exact ⟨us, u1, caps_all u2⟩
 ·cases he
theorem effVal_sound (h : Rel V X Z w0 N ρ ok lt lb a w) (ho : ∀ q : Key, ok q → ok' q) (hd : ∀ k, o.dst = some k → k < N) (hl : ∀ t x, lt' t = some x → lt t = some x) (hb : ∀ t x, lb' t = some x → lb t = some x) {cur : Nat} {key : Nat → Key} (hinj : ∀ i j, key i = key j → i = j) (hkey : ∀ j, j < 64 → ¬ ok (key j) ∧ ok' (key j))
    {call : CallF} (hcall : CallOk P call) {c : Call} {f : Operand} {g : FuncId} (hop : o.op = .call c) (hc : c.callee = .value f) (hf : calleeOf lt' f = some (g, [])) (hbod : bodied P g = true) {xs : List (Bool × List C)} {ks : List Key} (hargs : argsOf lt' lb' false c.args.toList = some (xs, ks))
    (he : effVal call false cur key g xs ks lb' = some e) (hn : e.needs = []) : o.wp P a w (Aft V X Z w0 N ok' lt lb o.dst e) Q := by
 unfold effVal at he
 split at he
 ·rename_i r hr
  split at he
  ·rename_i hcnd
   cases he
   obtain ⟨c1, c2, _, c3, c4, c5⟩ := hcnd
   obtain ⟨us, hus, hall⟩ := callee_sound h hl hf
   cases hall
   refine wp_call hop hc hus hbod ?_
   rw [List.append_nil]
   have hR := h.shut (shut_Shut (lb := lb) hb cur ks)
   have hAL := argsOf_sound h hl hb hn (fun κ q => (κ, q) ∈ dictOf (xs.map fun (b, cs) => Arg.val b cs) [] []) (i := 0) hargs (fun k hk => hk)
   have hAA := argsAt_val hR hAL
   have hios : r.ios = [] := List.length_eq_zero_iff.1 c1
   refine (call_sound hR ho hinj hkey hAA (by rw [dict_nil]; rfl) (by rw [dict_nil]; rfl) (fun κ q hm => by rw [dict_nil] at hm; cases hm) (fun n hn' => ?_) (fun j q ty hq => by simp at hq) (hcall g _ _ r hr) (by rw [c1]; rfl) c2 c3 (by rw [ioBx_nil]; exact c4) c5 o.dst hd).mono ?_
   ·have : (xs.map fun (p : Bool × List C) => Arg.val p.1 p.2).filter isIo = [] := by
      rw [List.filter_eq_nil_iff]
      intro x hx
      obtain ⟨p, _, rfl⟩ := List.mem_map.1 hx
      simp [isIo]
    rw [show (xs.map fun (b, cs) => Arg.val b cs) = xs.map fun (p : Bool × List C) => Arg.val p.1 p.2 from rfl, this] at hn'
    exact hn'
   ·rintro e' w' ⟨v, rfl, ρ', hfin, _⟩
    refine ⟨v, rfl, ρ', ?_⟩
    have e1 : updB (updB lb (shut cur lb' ks)) (putIo (renK key r.bx 0) [] r.ios ++ (takeBx (renK key r.bx 0) key r.bx 0 ++ List.map (fun (x : Key × Key × Box) => (x.1, (none : Option Box))) [])) = updB lb (takeBx (renK key r.bx 0) key r.bx 0 ++ shut cur lb' ks) := by
     funext q
     have e2 : putIo (renK key r.bx 0) [] r.ios = [] := by cases r.ios <;> rfl
     unfold updB
     rw [e2, List.nil_append, List.map_nil, List.append_nil, lk_append]
     cases lk (takeBx (renK key r.bx 0) key r.bx 0) q <;> rfl
    rw [e1] at hfin
    exact hfin
  ·cases he
 ·cases he
end
end Go.Proofs.YtjpdemikmdfonaaGreatDoor

