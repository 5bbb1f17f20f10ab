/-
  Symbolic runs of the abstract machine: a judgement over states with symbolic data, with rules for code, loops, regions and functions.
-/
import Derived.Test.YtnaknldbmapolaaGreatDoorAbsT
namespace Go.Proofs.YtnaknldbmapolaaGreatDoor
open Go Go.RowKit
set_option linter.unusedSimpArgs false
set_option linter.unusedVariables false
/-- How a piece of code is left: in a state of R. -/
def QJ (V X : Nat → Prop) (Z : Key → Option Nat) (w0 : World) (N : Nat) (R : AX → St → Prop) : Exit → Act → World → Prop
  | .normal, a, w => ∃ s, R .normal s ∧ SR V X Z w0 N s a w
  | .exit id, a, w => ∃ s, R (.exit id) s ∧ SR V X Z w0 N s a w
  | .ret, a, w => ∃ s, R .ret s ∧ SR V X Z w0 N s a w
  | _, _, _ => False
/-- From the state st the code c leads to R. -/
def J (P : Program) (N : Nat) (c : Code) (st : St) (R : AX → St → Prop) : Prop := ∀ V X Z w0 a w, SR V X Z w0 N st a w → c.wp P (QJ V X Z w0 N R) a w
/-- What stands in st stands in st'. -/
def Sub (N : Nat) (st st' : St) : Prop := ∀ V X Z w0 a w, SR V X Z w0 N st a w → SR V X Z w0 N st' a w
theorem Sub.refl (N : Nat) (st : St) : Sub N st st := fun _ _ _ _ _ _ h => h
theorem Sub.trans {N : Nat} {a b c : St} (h : Sub N a b) (k : Sub N b c) : Sub N a c := fun V X Z w0 x w hs => k V X Z w0 x w (h V X Z w0 x w hs)
section
variable {P : Program} {N : Nat} {st st' : St} {R R' : AX → St → Prop}
theorem J.mono {c : Code} (h : J P N c st R) (hi : ∀ ax s, R ax s → R' ax s) : J P N c st R' := fun V X Z w0 a w hs =>
  wp_mono (h V X Z w0 a w hs) fun e a w hq => by
    cases e with
    | normal => obtain ⟨s, h1, h2⟩ := hq; exact ⟨s, hi _ _ h1, h2⟩
    | exit id => obtain ⟨s, h1, h2⟩ := hq; exact ⟨s, hi _ _ h1, h2⟩
    | ret => obtain ⟨s, h1, h2⟩ := hq; exact ⟨s, hi _ _ h1, h2⟩
    | goto l => exact hq
    | panic c => exact hq
    | outgrown => exact hq
theorem J.sub {c : Code} (hs : Sub N st st') (h : J P N c st' R) : J P N c st R := fun V X Z w0 a w h' => h V X Z w0 a w (hs V X Z w0 a w h')
theorem J.skip (h : R .normal st) : J P N .skip st R := fun V X Z w0 a w hs => wp_skip ⟨st, h, hs⟩
theorem J.label {l : Nat} (h : R .normal st) : J P N (.label l) st R := fun V X Z w0 a w hs => wp_label ⟨st, h, hs⟩
theorem J.exit {i : Nat} (h : R (.exit i) st) : J P N (.exit i) st R := fun V X Z w0 a w hs => wp_exit ⟨st, h, hs⟩
theorem J.ret (h : R .ret st) : J P N .ret st R := fun V X Z w0 a w hs => wp_ret ⟨st, h, hs⟩
def andThen (P : Program) (N : Nat) (b : Code) (R : AX → St → Prop) : AX → St → Prop
  | .normal, s => J P N b s R
  | .exit i, s => R (.exit i) s
  | .ret, s => R .ret s
theorem J.seq {x y : Code} (h : J P N x st (andThen P N y R)) : J P N (.seq x y) st R := fun V X Z w0 a w hs =>
  wp_seq (wp_mono (h V X Z w0 a w hs) fun e a w hq => by
    cases e with
    | normal => obtain ⟨s, h1, h2⟩ := hq; exact h1 V X Z w0 a w h2
    | exit id => exact hq
    | ret => exact hq
    | goto l => exact hq.elim
    | panic ch => exact hq.elim
    | outgrown => exact hq.elim)
theorem J.cond {c : Operand} {x y : Code} {b : Bool} (hc : ev (lk st.tm) c = some (.one false [.d (.v (.bool b))])) (ht : b = true → J P N x st R) (hf : b = false → J P N y st R) : J P N (.cond c x y) st R := fun V X Z w0 a w hs => by
  obtain ⟨ρ, hR⟩ := hs
  have hv : a.eval c = .bool b := conV_sound (x := .bool b) rfl (ev_sound hR (fun _ _ h => h) hc)
  cases b with
  | true => exact wp_cond hv (by simpa using ht rfl V X Z w0 a w ⟨ρ, hR⟩)
  | false => exact wp_cond hv (by simpa using hf rfl V X Z w0 a w ⟨ρ, hR⟩)
def outOf (id : Nat) (R : AX → St → Prop) : AX → St → Prop
  | .normal, s => R .normal s
  | .exit i, s => if i = id then R .normal s else R (.exit i) s
  | .ret, s => R .ret s
theorem J.block {id : Nat} {b : Code} (h : J P N b st (outOf id R)) : J P N (.block id b) st R := fun V X Z w0 a w hs =>
  wp_block (wp_mono (h V X Z w0 a w hs) fun e a w hq => by
    cases e with
    | normal => exact hq
    | exit i =>
      obtain ⟨s, h1, h2⟩ := hq
      show (if i = id then QJ V X Z w0 N R .normal a w else QJ V X Z w0 N R (.exit i) a w)
      have h1' : (if i = id then R .normal s else R (.exit i) s) := h1
      by_cases hi : i = id
      · rw [if_pos hi]; rw [if_pos hi] at h1'; exact ⟨s, h1', h2⟩
      · rw [if_neg hi]; rw [if_neg hi] at h1'; exact ⟨s, h1', h2⟩
    | ret => exact hq
    | goto l => exact hq.elim
    | panic ch => exact hq.elim
    | outgrown => exact hq.elim)
/-- Behind a round of a loop. -/
def roundOf {ι : Type} (N : Nat) (S : ι → St) (I : ι → Prop) (μ : ι → Nat) (i : ι) (R : AX → St → Prop) : AX → St → Prop
  | .normal, s => ∃ j, I j ∧ μ j < μ i ∧ Sub N s (S j)
  | .exit n, s => R (.exit n) s
  | .ret, s => R .ret s
theorem J.loop {ι : Type} (S : ι → St) (I : ι → Prop) (μ : ι → Nat) {b : Code} (i0 : ι) (h0 : I i0) (hs0 : Sub N st (S i0)) (hb : ∀ i, I i → J P N b (S i) (roundOf N S I μ i R)) : J P N (.loop b) st R := by
  intro V X Z w0 a w hs
  let p : Act → World → Nat → Prop := fun a w n => ∃ i, I i ∧ μ i = n ∧ SR V X Z w0 N (S i) a w
  have hex : ∀ a w, ∃ m, (∃ n, p a w n) → (p a w m ∧ ∀ k, p a w k → m ≤ k) := fun a w => by
    by_cases hh : ∃ n, p a w n
    · obtain ⟨m, h1⟩ := exists_least _ hh; exact ⟨m, fun _ => h1⟩
    · exact ⟨0, fun h' => absurd h' hh⟩
  refine wp_loop (fun a w => ∃ n, p a w n) (fun a w => Classical.choose (hex a w)) ⟨μ i0, i0, h0, rfl, hs0 V X Z w0 a w hs⟩ (fun a w hI => ?_)
  obtain ⟨⟨i, h1, h2, h3⟩, hmin⟩ := Classical.choose_spec (hex a w) hI
  refine wp_mono (hb i h1 V X Z w0 a w h3) (fun e a' w' hq => ?_)
  cases e with
  | normal =>
    obtain ⟨s, ⟨j, k1, k2, k3⟩, hs'⟩ := hq
    have hp : p a' w' (μ j) := ⟨j, k1, rfl, k3 V X Z w0 a' w' hs'⟩
    refine ⟨⟨μ j, hp⟩, ?_⟩
    have := (Classical.choose_spec (hex a' w') ⟨μ j, hp⟩).2 (μ j) hp
    show Classical.choose (hex a' w') < Classical.choose (hex a w)
    omega
  | exit id => exact hq
  | ret => exact hq
  | goto l => exact hq.elim
  | panic ch => exact hq.elim
  | outgrown => exact hq.elim
/-- The contracts that a region may use: each at one operation. -/
abbrev Cons := List (Nat × FuncId × List Arg × List (Key × Box) × ARes)
open Classical in
noncomputable def lookI : Cons → Nat → CallF
  | [], _, _, _, _ => none
  | (j, g, xs, bs, r) :: K, i, f, args, bxs => if i = j ∧ f = g then (if args = xs ∧ bxs = bs then some r else none) else lookI K i f args bxs
def KOk (P : Program) : Cons → Prop
  | [] => True
  | (_, g, xs, bs, r) :: K => FnSound P g xs bs r ∧ KOk P K
theorem lookI_ok : ∀ {K : Cons}, KOk P K → ∀ i, CallOk P (lookI K i)
  | [], _, i => fun f args bxs r he => by simp [lookI] at he
  | (j, g, xs, bs, r) :: K, h, i => fun f args bxs r' he => by
    unfold lookI at he
    split at he
    · rename_i hf
      obtain ⟨_, rfl⟩ := hf
      split at he
      · rename_i hc
        obtain ⟨rfl, rfl⟩ := hc
        cases he
        exact h.1
      · cases he
    · exact lookI_ok h.2 i f args bxs r' he
noncomputable def envC (K : Cons) (lend : FuncId → Bool) (N : Nat) : Env := ⟨lookI K, lend, fun _ s => s, 0, N⟩
/-- The operations of a region, one after the other, with what comes behind them. -/
def seqK (P : Program) (E : Env) (ops : Array Oper) (i : Nat) (os : List Oper) (st : St) (T : St → List Key → List Note → Prop) : Prop := ∃ s k ns, seqOps P E ops i os st = some (s, k, ns) ∧ T s k ns
theorem seqK_nil {E : Env} {ops : Array Oper} {i : Nat} {T : St → List Key → List Note → Prop} : seqK P E ops i [] st T = T st [] [] := by
  apply propext
  unfold seqK
  constructor
  · rintro ⟨s, k, ns, h1, h2⟩
    simp only [seqOps, Option.some.injEq, Prod.mk.injEq] at h1
    obtain ⟨rfl, rfl, rfl⟩ := h1
    exact h2
  · intro h; exact ⟨_, _, _, rfl, h⟩
def contK (P : Program) (E : Env) (ops : Array Oper) (i : Nat) (o : Oper) (rest : List Oper) (st : St) (T : St → List Key → List Note → Prop) : Option Bool → Prop
  | some true => match effAt P E i o (lk st.tm) (lk st.bx) st.nx with
    | some e => seqK P E ops (i + 1) rest ⟨setT o.dst e.av st.tm, putB e.up st.bx, st.nx⟩ (fun s k ns => T s (e.needs ++ k) (⟨opKeys (lk st.tm) (lk st.bx) o, e.up.map (·.1)⟩ :: ns))
    | none => False
  | some false => seqK P E ops (i + 1) rest ⟨setT o.dst .un st.tm, st.bx, st.nx⟩ (fun s k ns => T s k (⟨[], []⟩ :: ns))
  | none => False
theorem seqK_cons {E : Env} {ops : Array Oper} {i : Nat} {o : Oper} {rest : List Oper} {T : St → List Key → List Note → Prop} :
    seqK P E ops i (o :: rest) st T = (o.dst.all (· < E.N) = true ∧ contK P E ops i o rest st T (wantA ops o (lk st.tm))) := by
  apply propext
  unfold seqK
  simp only [seqOps]
  by_cases hd : o.dst.all (· < E.N) = true
  · simp only [hd, if_true, true_and]
    cases hw : wantA ops o (lk st.tm) with
    | none => simp [contK]
    | some b =>
      cases b with
      | true =>
        simp only [contK]
        cases he : effAt P E i o (lk st.tm) (lk st.bx) st.nx with
        | none => simp
        | some e =>
          simp only [seqK]
          constructor
          · rintro ⟨s, k, ns, h1, h2⟩
            obtain ⟨⟨s', k', ns'⟩, h3, h4⟩ := Option.map_eq_some_iff.1 h1
            cases h4
            exact ⟨_, _, _, h3, h2⟩
          · rintro ⟨s, k, ns, h1, h2⟩
            exact ⟨_, _, _, by rw [h1]; rfl, h2⟩
      | false =>
        simp only [contK, seqK]
        constructor
        · rintro ⟨s, k, ns, h1, h2⟩
          obtain ⟨⟨s', k', ns'⟩, h3, h4⟩ := Option.map_eq_some_iff.1 h1
          cases h4
          exact ⟨_, _, _, h3, h2⟩
        · rintro ⟨s, k, ns, h1, h2⟩
          exact ⟨_, _, _, by rw [h1]; rfl, h2⟩
  · simp [hd]
/-- Behind a region. -/
def endK (ops : Array Oper) (draw : Bool) (R : AX → St → Prop) (s : St) (k : List Key) (ns : List Note) : Prop := k = [] ∧ (draw = false ∨ orderOk ops (masks ops ops.size) ns = true) ∧ R .normal ⟨s.tm, s.bx, s.nx + 1⟩
theorem J.region (K : Cons) (lend : FuncId → Bool) (hm : P.follows .mixedOrders = true) (hK : KOk P K) {id : Nat} {ops : Array Oper} {draw : Bool} (h : seqK P (envC K lend N) ops 0 ops.toList st (endK ops draw R)) : J P N (.region id ops draw) st R := by
  intro V X Z w0 a w hs
  obtain ⟨s, k, ns, h1, rfl, h3, h4⟩ := h
  refine region_sound (E := envC K lend N) hm (fun i => op_sound (lookI_ok hK i)) rfl (s := ⟨s.tm, s.bx, s.nx + 1⟩) ?_ hs (fun a w h' => ⟨_, h4, h'⟩)
  have hc : (!draw || orderOk ops (masks ops ops.size) ns) = true := by
    rcases h3 with h | h <;> simp [h]
  simp only [aregion, h1, hc, if_true]
theorem Sub.freeze (ks : List Key) : Sub N st ⟨st.tm, freezeB ks st.bx, st.nx⟩ := fun V X Z w0 a w ⟨ρ, h⟩ => ⟨ρ, h.shut (freeze_Shut ks st.bx)⟩
/-- The results that a function hands out. -/
def outR (P : Program) (own : Bool) (fn : Func) (args : List Arg) (st : St) : Option ARes :=
  match fn.results.toList.mapM (resOf P st) with
  | some vs => match outVals own (lk st.bx) vs with
    | some (vals, ks) => match outIos (lk (freezeB ks st.bx)) 0 args with
      | some ios => match keepB (freezeB ks st.bx) (leadK (freezeB ks st.bx) 4 (vals.flatMap (fun (_, cs) => cs.flatMap keysC) ++ ios.flatMap fun cs => cs.flatMap keysC)) with
        | some b => some { vals, ios, bx := b }
        | none => none
      | none => none
    | none => none
  | none => none
def fnEnd (P : Program) (own : Bool) (fn : Func) (args : List Arg) (r : ARes) : AX → St → Prop
  | .exit _, _ => False
  | _, s => outR P own fn args s = some r
theorem fin_sound {own : Bool} {fn : Func} {args : List Arg} {r : ARes} {V X : Nat → Prop} {Z : Key → Option Nat} {w : World} : ∀ (st : St) (a : Act) (w' : World), SR V X Z w fn.ntmps st a w' → outR P own fn args st = some r → a.defers = [] ∧ ∃ v, (results fn a.tmps).run P w' = .ok v w' ∧ ∃ v' ρ', Ending.returned v = .returned v' ∧ Rel V X Z w 1 ρ' (fun _ => True) (ltOne (resAV id r.vals)) (lk (ioBx 0 args r.ios ++ r.bx)) ⟨#[v'], []⟩ w' := by
  intro st a w' ⟨ρ1, hR1⟩ hr
  unfold outR at hr
  split at hr
  · rename_i xs hxs
    split at hr
    · rename_i vals' ks hov
      split at hr
      · rename_i ios hio
        split at hr
        · rename_i b hb
          cases hr
          obtain ⟨vs, hA, hrun⟩ := results_sound (P := P) hR1 hxs
          refine ⟨hR1.defers, _, hrun, _, ρ1, rfl, ?_⟩
          have hs := freeze_Shut ks st.bx
          have hR2 := hR1.shut hs
          have hA2 := outVals_sound hR1 hs hov (fun q hq ty sz rows hb => freeze_mem hq hb) hA
          have hback : ∀ q box, lk (ioBx 0 args ios ++ b) q = some box → ∃ box', lk (freezeB ks st.bx) q = some box' ∧ box.live = box'.live ∧ (box = box' ∨ ∃ ty cs d k, box' = .st ty cs ∧ box = .st ty d ∧ outCs true (lk (freezeB ks st.bx)) cs = some (d, k)) := by
            intro q box hq
            rw [lk_append] at hq
            cases h1 : lk (ioBx 0 args ios) q with
            | none =>
              rw [h1] at hq
              rcases keepB_lk hb q box hq with g | ⟨ty, cs, d, k, g1, g2, g3⟩
              · exact ⟨box, g, rfl, .inl rfl⟩
              · exact ⟨_, g1, by rw [g2]; rfl, .inr ⟨ty, cs, d, k, rfl, g2, g3⟩⟩
            | some x =>
              rw [h1] at hq
              cases hq
              obtain ⟨ty, cs, d, k, g1, g2, g3⟩ := outIos_lk hio q box h1
              exact ⟨_, g1, by rw [g2]; rfl, .inr ⟨ty, cs, d, k, rfl, g2, g3⟩⟩
          have him : ∀ bl, bl < w'.heap.size → Im V ρ1 (lk (freezeB ks st.bx)) bl → Im V ρ1 (lk (ioBx 0 args ios ++ b)) bl := by
            intro bl _ hi
            refine ⟨hi.1, fun q box hq hl => ?_⟩
            obtain ⟨box', g1, g2, _⟩ := hback q box hq
            exact hi.2 q box' g1 (by rw [← g2]; exact hl)
          have hkeep : ∀ c v, CRel (Im V ρ1 (lk (freezeB ks st.bx))) ρ1 (fun q => q.2 < st.nx) w' c v → CRel (Im V ρ1 (lk (ioBx 0 args ios ++ b))) ρ1 (fun _ => True) w' c v := fun c v hcv => hcv.keep (Keep.refl _ _) him (fun _ _ => rfl) (fun _ _ => trivial)
          refine ⟨rfl, rfl, fun t av ht => ?_, fun q box hq => ?_, fun q1 b1 q2 b2 bl e1 l1 e2 l2 => ?_, fun q box bl hq hl hg => ?_, hR2.fr, hR2.va, fun q hq => ⟨trivial, (hR2.zz q hq).2⟩⟩
          · unfold ltOne at ht
            split at ht
            · rename_i h0
              subst h0
              cases ht
              refine ⟨by omega, ?_⟩
              have hl1 := outVals_len hov
              have hl2 := hA.length
              have hA3 := hA2.imp hkeep
              by_cases h1 : vs.length = 1
              · rw [dif_pos h1]
                match vs, xs, vals', h1, hA3, hl1, hl2 with
                | [v], [x], [(bb, cs)], _, hA3, _, _ =>
                  rw [resAV_id_one]
                  cases hA3 with
                  | cons h t => exact h
              · rw [dif_neg h1, resAV_id_tup (xs := vals') (by omega)]
                exact ⟨vs, by simp, hA3⟩
            · cases ht
          · refine ⟨trivial, ?_⟩
            obtain ⟨box', g1, g2, g3⟩ := hback q box hq
            obtain ⟨o1, o2⟩ := hR2.bx q box' g1
            rcases g3 with rfl | ⟨ty, cs, d, k, rfl, rfl, g4⟩
            · exact o2.keep (Keep.refl _ _) him (fun _ _ => rfl) (fun _ _ => trivial) o1 (fun _ _ _ => rfl)
            · obtain ⟨bl, us, u1, u2, u3⟩ := o2
              have hk0 := outCs_true g4
              subst hk0
              have := outCs_sound hR2 (lb2 := lk (freezeB ks st.bx)) (fun q => .inl rfl) g4 (by simp) u3
              exact ⟨bl, us, u1, u2, this.imp fun c v _ => hkeep c v⟩
          · obtain ⟨x1, g1, g2, _⟩ := hback q1 b1 e1
            obtain ⟨x2, g3, g4, _⟩ := hback q2 b2 e2
            exact hR2.ap q1 x1 q2 x2 bl g1 (by rw [← g2]; exact l1) g3 (by rw [← g4]; exact l2)
          · obtain ⟨x1, g1, g2, _⟩ := hback q box hq
            exact hR2.lo q x1 bl g1 (by rw [← g2]; exact hl) hg
        · cases hr
      · cases hr
    · cases hr
  · cases hr

/-- A function's contract out of a symbolic run of its body. -/
theorem fn_of_J {f : FuncId} {fn : Func} {body : Code} {own : Bool} {args : List Arg} {bxs : List (Key × Box)} {r : ARes} (hf : P.funcs[f]? = some fn) (hbody : fn.body = some body) (hp : fn.params.size ≤ args.length) (hn : args.length ≤ fn.ntmps)
    (h : J P fn.ntmps body ⟨argTm 0 args, argBx 0 args ++ bxs, 1⟩ (fnEnd P own fn args r)) : FnSound P f args bxs r := by
  intro V X Z ρ w vals hlen hR
  refine calls_of_wp hf hbody ?_
  have hsz : (vals.toArray ++ Array.replicate (fn.ntmps - vals.toArray.size) undef).size = fn.ntmps := by simp; omega
  have h0 : SR V X Z w fn.ntmps { tm := argTm 0 args, bx := argBx 0 args ++ bxs, nx := 1 } { tmps := vals.toArray ++ Array.replicate (fn.ntmps - vals.toArray.size) undef, defers := [] } w := by
    refine ⟨ρ, hsz, rfl, fun t av ht => ?_, hR.bx, hR.ap, hR.lo, hR.fr, hR.va, hR.zz⟩
    obtain ⟨h1, h2⟩ := hR.tm t av ht
    refine ⟨by omega, ?_⟩
    have e1 : (vals.toArray ++ Array.replicate (fn.ntmps - vals.toArray.size) undef).getD t undef = vals.toArray.getD t undef := by
      simp [Array.getD_eq_getD_getElem?, Array.getElem?_append, h1]
    rw [e1]
    exact h2
  refine wp_mono (h V X Z w _ w h0) (fun e a w' hq => ?_)
  cases e with
  | normal => obtain ⟨s, h1, h2⟩ := hq; exact fin_sound s a w' h2 h1
  | ret => obtain ⟨s, h1, h2⟩ := hq; exact fin_sound s a w' h2 h1
  | exit id => obtain ⟨s, h1, h2⟩ := hq; exact h1.elim
  | goto l => exact hq.elim
  | panic ch => exact hq.elim
  | outgrown => exact hq.elim
end
end Go.Proofs.YtnaknldbmapolaaGreatDoor
