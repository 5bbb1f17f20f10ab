/- Rules of runs and contracts of functions, for the claims of one seat. -/
import Derived.Test.YtjpdemikmdfonaaGreatDoorFA7
namespace Go.Proofs.YtjpdemikmdfonaaGreatDoor
open Go Go.RowKit
set_option linter.unusedSimpArgs false
set_option linter.unusedVariables false
def QJ (V X : Nat → Prop) (Z : Key → Hd) (w0 : World) (N : Nat) (R : AX → St → Prop) : Exit → Act → World → Prop
 | .normal, a, w => ∃ s, R .normal s ∧ SR V X Z w0 N s a w
 | .exit id, a, w => ∃ s, R (.exit id) s ∧ SR V X Z w0 N s a w
 | .ret, a, w => ∃ s, R .ret s ∧ SR V X Z w0 N s a w
 | _, _, _ => False
def J (P : Program) (N : Nat) (c : Code) (st : St) (R : AX → St → Prop) : Prop := ∀ V X Z w0 a w, SR V X Z w0 N st a w → c.wp P (QJ V X Z w0 N R) a w
def Sub (N : Nat) (st st' : St) : Prop := ∀ V X Z w0 a w, SR V X Z w0 N st a w → SR V X Z w0 N st' a w
theorem Sub.refl (N : Nat) (st : St) : Sub N st st := fun _ _ _ _ _ _ h => h
theorem Sub.trans {N : Nat} {a b c : St} (h : Sub N a b) (k : Sub N b c) : Sub N a c := fun V X Z w0 x w hs => k V X Z w0 x w (h V X Z w0 x w hs)
section
variable {P : Program} {N : Nat} {st st' : St} {R R' : AX → St → Prop}
theorem J.mono {c : Code} (h : J P N c st R) (hi : ∀ ax s, R ax s → R' ax s) : J P N c st R' := fun V X Z w0 a w hs =>
 wp_mono (h V X Z w0 a w hs) fun e a w hq => by
  cases e with
  | normal => obtain ⟨s, h1, h2⟩ := hq; exact ⟨s, hi _ _ h1, h2⟩
  | exit id => obtain ⟨s, h1, h2⟩ := hq; exact ⟨s, hi _ _ h1, h2⟩
  | ret => obtain ⟨s, h1, h2⟩ := hq; exact ⟨s, hi _ _ h1, h2⟩
  | goto l => exact hq
  | panic c => exact hq
  | outgrown => exact hq
theorem J.sub {c : Code} (hs : Sub N st st') (h : J P N c st' R) : J P N c st R := fun V X Z w0 a w h' => h V X Z w0 a w (hs V X Z w0 a w h')
theorem J.skip (h : R .normal st) : J P N .skip st R := fun V X Z w0 a w hs => wp_skip ⟨st, h, hs⟩
theorem J.label {l : Nat} (h : R .normal st) : J P N (.label l) st R := fun V X Z w0 a w hs => wp_label ⟨st, h, hs⟩
theorem J.exit {i : Nat} (h : R (.exit i) st) : J P N (.exit i) st R := fun V X Z w0 a w hs => wp_exit ⟨st, h, hs⟩
theorem J.ret (h : R .ret st) : J P N .ret st R := fun V X Z w0 a w hs => wp_ret ⟨st, h, hs⟩
def andThen (P : Program) (N : Nat) (b : Code) (R : AX → St → Prop) : AX → St → Prop
 | .normal, s => J P N b s R
 | .exit i, s => R (.exit i) s
 | .ret, s => R .ret s
theorem J.seq {x y : Code} (h : J P N x st (andThen P N y R)) : J P N (.seq x y) st R := fun V X Z w0 a w hs =>
 wp_seq (wp_mono (h V X Z w0 a w hs) fun e a w hq => by
  cases e with
  | normal => obtain ⟨s, h1, h2⟩ := hq; exact h1 V X Z w0 a w h2
  | exit id => exact hq
  | ret => exact hq
  | goto l => exact hq.elim
  | panic ch => exact hq.elim
  | outgrown => exact hq.elim)
theorem J.cond {c : Operand} {x y : Code} {b : Bool} (hc : ev (lk st.tm) c = some (.one false [.d (.v (.bool b))])) (ht : b = true → J P N x st R) (hf : b = false → J P N y st R) : J P N (.cond c x y) st R := fun V X Z w0 a w hs => by
 obtain ⟨ρ, hR⟩ := hs
 have hv : a.eval c = .bool b := conV_sound (x := .bool b) rfl (ev_sound hR (fun _ _ h => h) hc)
 cases b with
 | true => exact wp_cond hv (by simpa using ht rfl V X Z w0 a w ⟨ρ, hR⟩)
 | false => exact wp_cond hv (by simpa using hf rfl V X Z w0 a w ⟨ρ, hR⟩)
def outOf (id : Nat) (R : AX → St → Prop) : AX → St → Prop
 | .normal, s => R .normal s
 | .exit i, s => if i = id then R .normal s else R (.exit i) s
 | .ret, s => R .ret s
theorem J.block {id : Nat} {b : Code} (h : J P N b st (outOf id R)) : J P N (.block id b) st R := fun V X Z w0 a w hs =>
 wp_block (wp_mono (h V X Z w0 a w hs) fun e a w hq => by
  cases e with
  | normal => exact hq
  | exit i =>
   obtain ⟨s, h1, h2⟩ := hq
   show (if i = id then QJ V X Z w0 N R .normal a w else QJ V X Z w0 N R (.exit i) a w)
   have h1' : (if i = id then R .normal s else R (.exit i) s) := h1
   by_cases hi : i = id
   ·rw [if_pos hi]; rw [if_pos hi] at h1'; exact ⟨s, h1', h2⟩
   ·rw [if_neg hi]; rw [if_neg hi] at h1'; exact ⟨s, h1', h2⟩
  | ret => exact hq
  | goto l => exact hq.elim
  | panic ch => exact hq.elim
  | outgrown => exact hq.elim)
def roundOf {ι : Type} (N : Nat) (S : ι → St) (I : ι → Prop) (μ : ι → Nat) (i : ι) (R : AX → St → Prop) : AX → St → Prop
 | .normal, s => ∃ j, I j ∧ μ j < μ i ∧ Sub N s (S j)
 | .exit n, s => R (.exit n) s
 | .ret, s => R .ret s
theorem J.loop {ι : Type} (S : ι → St) (I : ι → Prop) (μ : ι → Nat) {b : Code} (i0 : ι) (h0 : I i0) (hs0 : Sub N st (S i0)) (hb : ∀ i, I i → J P N b (S i) (roundOf N S I μ i R)) : J P N (.loop b) st R := by
 intro V X Z w0 a w hs
 let p : Act → World → Nat → Prop := fun a w n => ∃ i, I i ∧ μ i = n ∧ SR V X Z w0 N (S i) a w
 have hex : ∀ a w, ∃ m, (∃ n, p a w n) → (p a w m ∧ ∀ k, p a w k → m ≤ k) := fun a w => by
  by_cases hh : ∃ n, p a w n
  ·obtain ⟨m, h1⟩ := exists_least _ hh; exact ⟨m, fun _ => h1⟩
  ·exact ⟨0, fun h' => absurd h' hh⟩
 refine wp_loop (fun a w => ∃ n, p a w n) (fun a w => Classical.choose (hex a w)) ⟨μ i0, i0, h0, rfl, hs0 V X Z w0 a w hs⟩ (fun a w hI => ?_)
 obtain ⟨⟨i, h1, h2, h3⟩, hmin⟩ := Classical.choose_spec (hex a w) hI
 refine wp_mono (hb i h1 V X Z w0 a w h3) (fun e a' w' hq => ?_)
 cases e with
 | normal =>
  obtain ⟨s, ⟨j, k1, k2, k3⟩, hs'⟩ := hq
  have hp : p a' w' (μ j) := ⟨j, k1, rfl, k3 V X Z w0 a' w' hs'⟩
  refine ⟨⟨μ j, hp⟩, ?_⟩
  have := (Classical.choose_spec (hex a' w') ⟨μ j, hp⟩).2 (μ j) hp
  show Classical.choose (hex a' w') < Classical.choose (hex a w)
  omega
 | exit id => exact hq
 | ret => exact hq
 | goto l => exact hq.elim
 | panic ch => exact hq.elim
 | outgrown => exact hq.elim
abbrev Cons := List (Nat × FuncId × List Arg × List (Key × Box) × ARes)
open Classical in
noncomputable def lookI : Cons → Nat → CallF
 | [], _, _, _, _ => none
 | (j, g, xs, bs, r) :: K, i, f, args, bxs => if i = j ∧ f = g then (if args = xs ∧ bxs = bs then some r else none) else lookI K i f args bxs
def KOk (P : Program) : Cons → Prop
 | [] => True
 | (_, g, xs, bs, r) :: K => FnSound P g xs bs r ∧ KOk P K
theorem lookI_ok : ∀ {K : Cons}, KOk P K → ∀ i, CallOk P (lookI K i)
 | [], _, i => fun f args bxs r he => by simp [lookI] at he
 | (j, g, xs, bs, r) :: K, h, i => fun f args bxs r' he => by
  unfold lookI at he
  split at he
  ·rename_i hf
   obtain ⟨_, rfl⟩ := hf
   split at he
   ·rename_i hc
    obtain ⟨rfl, rfl⟩ := hc
    cases he
    exact h.1
   ·cases he
  ·exact lookI_ok h.2 i f args bxs r' he
noncomputable def envC (K : Cons) (lend : FuncId → Bool) (N : Nat) : Env := ⟨lookI K, lend, fun _ s => s, 0, N⟩
def seqK (P : Program) (E : Env) (ops : Array Oper) (i : Nat) (os : List Oper) (st : St) (T : St → List Key → List Note → Prop) : Prop := ∃ s k ns, seqOps P E ops i os st = some (s, k, ns) ∧ T s k ns
def endK (ops : Array Oper) (draw : Bool) (R : AX → St → Prop) (s : St) (k : List Key) (ns : List Note) : Prop := k = [] ∧ (draw = false ∨ orderOk ops (masks ops ops.size) ns = true) ∧ R .normal ⟨s.tm, s.bx, s.nx + 1⟩
theorem J.region (K : Cons) (lend : FuncId → Bool) (hm : P.follows .mixedOrders = true) (hK : KOk P K) {id : Nat} {ops : Array Oper} {draw : Bool} (h : seqK P (envC K lend N) ops 0 ops.toList st (endK ops draw R)) : J P N (.region id ops draw) st R := by
 intro V X Z w0 a w hs
 obtain ⟨s, k, ns, h1, rfl, h3, h4⟩ := h
 refine region_sound (E := envC K lend N) hm (fun i => op_sound (lookI_ok hK i)) rfl (s := ⟨s.tm, s.bx, s.nx + 1⟩) ?_ hs (fun a w h' => ⟨_, h4, h'⟩)
 have hc : (!draw || orderOk ops (masks ops ops.size) ns) = true := by
  rcases h3 with h | h <;> simp [h]
 simp only [aregion, h1, hc, if_true]
theorem Sub.freeze (ks : List Key) : Sub N st ⟨st.tm, freezeB ks st.bx, st.nx⟩ := fun V X Z w0 a w ⟨ρ, h⟩ => ⟨ρ, h.shut (freeze_Shut ks st.bx)⟩
def outR (P : Program) (own : Bool) (fn : Func) (args : List Arg) (st : St) : Option ARes :=
 match fn.results.toList.mapM (resOf P st) with
 | some vs => match outVals own (lk st.bx) vs with
  | some (vals, ks) => match outIos (lk (freezeB ks st.bx)) 0 args with
   | some ios => match keepB (freezeB ks st.bx) (leadK (freezeB ks st.bx) 4 (vals.flatMap (fun (_, cs) => cs.flatMap keysC) ++ ios.flatMap fun cs => cs.flatMap keysC)) with
    | some b => some { vals, ios, bx := b }
    | none => none
   | none => none
  | none => none
 | none => none
theorem fin_sound {own : Bool} {fn : Func} {args : List Arg} {r : ARes} {V X : Nat → Prop} {Z : Key → Hd} {w : World} : ∀ (st : St) (a : Act) (w' : World), SR V X Z w fn.ntmps st a w' → outR P own fn args st = some r → a.defers = [] ∧ ∃ v, (results fn a.tmps).run P w' = .ok v w' ∧ ∃ v' ρ', Ending.returned v = .returned v' ∧ Rel V X Z w 1 ρ' (fun _ => True) (ltOne (resAV id r.vals)) (lk (ioBx 0 args r.ios ++ r.bx)) ⟨#[v'], []⟩ w' := by
 intro st a w' ⟨ρ1, hR1⟩ hr
 unfold outR at hr
 split at hr
 ·rename_i xs hxs
  split at hr
  ·rename_i vals' ks hov
   split at hr
   ·rename_i ios hio
    split at hr
    ·rename_i b hb
     cases hr
     obtain ⟨vs, hA, hrun⟩ := results_sound (P := P) hR1 hxs
     refine ⟨hR1.defers, _, hrun, _, ρ1, rfl, ?_⟩
     have hs := freeze_Shut ks st.bx
     have hR2 := hR1.shut hs
     have hA2 := outVals_sound hR1 hs hov (fun q hq ty sz rows hb => freeze_mem hq hb) hA
     have hback : ∀ q box, lk (ioBx 0 args ios ++ b) q = some box → ∃ box', lk (freezeB ks st.bx) q = some box' ∧ box.live = box'.live ∧ (box = box' ∨ ∃ ty cs d k, box' = .st ty cs ∧ box = .st ty d ∧ outCs true (lk (freezeB ks st.bx)) cs = some (d, k)) := by
      intro q box hq
      rw [lk_append] at hq
      cases h1 : lk (ioBx 0 args ios) q with
      | none =>
       rw [h1] at hq
       rcases keepB_lk hb q box hq with g | ⟨ty, cs, d, k, g1, g2, g3⟩
       ·exact ⟨box, g, rfl, .inl rfl⟩
       ·exact ⟨_, g1, by rw [g2]; rfl, .inr ⟨ty, cs, d, k, rfl, g2, g3⟩⟩
      | some x =>
       rw [h1] at hq
       cases hq
       obtain ⟨ty, cs, d, k, g1, g2, g3⟩ := outIos_lk hio q box h1
       exact ⟨_, g1, by rw [g2]; rfl, .inr ⟨ty, cs, d, k, rfl, g2, g3⟩⟩
     have him : ∀ bl, bl < w'.heap.size → Im V ρ1 (lk (freezeB ks st.bx)) bl → Im V ρ1 (lk (ioBx 0 args ios ++ b)) bl := by
      intro bl _ hi
      refine ⟨hi.1, fun q box hq hl => ?_⟩
      obtain ⟨box', g1, g2, _⟩ := hback q box hq
      exact hi.2 q box' g1 (by rw [← g2]; exact hl)
     have hkeep : ∀ c v, CRel (Im V ρ1 (lk (freezeB ks st.bx))) ρ1 (fun q => q.2 < st.nx) w' c v → CRel (Im V ρ1 (lk (ioBx 0 args ios ++ b))) ρ1 (fun _ => True) w' c v := fun c v hcv => hcv.keep (Keep.refl _ _) him (fun _ _ => rfl) (fun _ _ => trivial)
     refine ⟨rfl, rfl, fun t av ht => ?_, fun q box hq => ?_, fun q1 b1 q2 b2 bl e1 l1 e2 l2 => ?_, fun q box bl hq hl hg => ?_, hR2.fr, hR2.va, fun q hq => ⟨trivial, (hR2.zz q hq).2⟩⟩
     ·unfold ltOne at ht
      split at ht
      ·rename_i h0
       subst h0
       cases ht
       refine ⟨by omega, ?_⟩
       have hl1 := outVals_len hov
       have hl2 := hA.length
       have hA3 := hA2.imp hkeep
       by_cases h1 : vs.length = 1
       ·rw [dif_pos h1]
        match vs, xs, vals', h1, hA3, hl1, hl2 with
        | [v], [x], [(bb, cs)], _, hA3, _, _ =>
         rw [resAV_id_one]
         cases hA3 with
         | cons h t => exact h
       ·rw [dif_neg h1, resAV_id_tup (xs := vals') (by omega)]
        exact ⟨vs, by simp, hA3⟩
      ·cases ht
     ·refine ⟨trivial, ?_⟩
      obtain ⟨box', g1, g2, g3⟩ := hback q box hq
      obtain ⟨o1, o2⟩ := hR2.bx q box' g1
      rcases g3 with rfl | ⟨ty, cs, d, k, rfl, rfl, g4⟩
      ·exact o2.keep (Keep.refl _ _) him (fun _ _ => rfl) (fun _ _ => trivial) o1 (fun _ _ _ => rfl)
      ·obtain ⟨bl, us, u1, u2, u3⟩ := o2
       have hk0 := outCs_true g4
       subst hk0
       have := outCs_sound hR2 (lb2 := lk (freezeB ks st.bx)) (fun q => .inl rfl) g4 (by simp) u3
       exact ⟨bl, us, u1, u2, this.imp fun c v _ => hkeep c v⟩
     ·obtain ⟨x1, g1, g2, _⟩ := hback q1 b1 e1
      obtain ⟨x2, g3, g4, _⟩ := hback q2 b2 e2
      exact hR2.ap q1 x1 q2 x2 bl g1 (by rw [← g2]; exact l1) g3 (by rw [← g4]; exact l2)
     ·obtain ⟨x1, g1, g2, _⟩ := hback q box hq
      exact hR2.lo q x1 bl g1 (by rw [← g2]; exact hl) hg
    ·cases hr
   ·cases hr
  ·cases hr
 ·cases hr
end
end Go.Proofs.YtjpdemikmdfonaaGreatDoor
namespace Go.Proofs.YtjpdemikmdfonaaGreatDoor
open Go Go.RowKit
set_option linter.unusedSimpArgs false
set_option linter.unusedVariables false
def renF (φ : List (Key × Key)) (q : Key) : Key := match lk φ q with
 | some k => k
 | none => q
def renAV (f : Key → Key) : AV → AV
 | .one b cs => .one b (cs.map (renC f))
 | .tup xs => .tup (xs.map fun (b, cs) => (b, cs.map (renC f)))
 | .un => .un
 | .dead => .dead
def renB (f : Key → Key) : Box → Box
 | .st ty cs => .st ty (cs.map (renC f))
 | .ca ty sz rows => .ca ty sz (rows.map (·.map (renC f)))
 | b => b
section
variable {V X : Nat → Prop} {Z : Key → Hd} {w0 w : World} {N : Nat} {ρ ρ' : Key → Hd} {ok ok' : Key → Prop} {lt lt' : Nat → Option AV} {lb lb' : Key → Option Box} {a : Act} {S S' : Nat → Prop}
theorem CRel.ren {f : Key → Key} {c : C} {v : Value} (h : CRel S ρ ok w (renC f c) v) (hs : ∀ b, b < w.heap.size → S b → S' b) (hk : ∀ q ∈ keysC c, ok' q) : CRel S' (fun q => ρ (f q)) ok' w c v := by
 cases c with
 | d d => exact Rd.mono h hs
 | zero => exact h
 | own q => exact ⟨hk q (by simp [keysC]), h.2⟩
 | ptr q o => obtain ⟨_, b, h2, h3⟩ := h; exact ⟨hk q (by simp [keysC]), b, h2, h3⟩
 | eptr q i o => obtain ⟨_, b, h2, h3⟩ := h; exact ⟨hk q (by simp [keysC]), b, h2, h3⟩
 | rptr row o =>
  obtain ⟨b, o', cv, h1, h0, h2, h3⟩ := h
  exact ⟨b, o', cv, h1, h0, hs b h0 h2, fun j d hj => ⟨(h3 j d hj).1, (h3 j d hj).2.mono hs⟩⟩
 | arr q n z => obtain ⟨_, b, h2, h3⟩ := h; exact ⟨hk q (by simp [keysC]), b, h2, h3⟩
 | mp q => obtain ⟨_, b, h2, h3⟩ := h; exact ⟨hk q (by simp [keysC]), b, h2, h3⟩
 | fn g caps =>
  obtain ⟨vs, h1, h2⟩ := h
  refine ⟨vs, h1, ?_⟩
  have hk' : ∀ c ∈ caps, ∀ q ∈ capKeys c, ok' q := fun c hc q hq => hk q (List.mem_flatMap.2 ⟨c, hc, hq⟩)
  clear hk h1
  induction caps generalizing vs with
  | nil => cases h2; exact .nil
  | cons c caps ih =>
   rw [List.map_cons] at h2
   cases h2 with
   | cons x y =>
    refine .cons ?_ (ih _ y fun c hc => hk' c (by simp [hc]))
    cases c with
    | d d => exact Rd.mono x hs
    | ptr q o => obtain ⟨_, b, h2, h3⟩ := x; exact ⟨hk' (.ptr q o) (by simp) q (by simp [capKeys]), b, h2, h3⟩
    | rptr row o => exact capdata_keep (c := .rptr row o) (ρ := ρ) (ok := ok) x rfl hs
 | dead => exact h
theorem All2.unmap {R R' : C → Value → Prop} {f : C → C} : ∀ {cs : List C} {vs : List Value}, All2 R (cs.map f) vs → (∀ c v, c ∈ cs → R (f c) v → R' c v) → All2 R' cs vs
 | [], [], _, _ => .nil
 | c :: cs, v :: vs, h, hi => by
  cases h with
  | cons h t => exact .cons (hi c v (by simp) h) (All2.unmap t fun c v hc => hi c v (by simp [hc]))
 | [], _ :: _, h, _ => by cases h
 | _ :: _, [], h, _ => by cases h
theorem One.ren {f : Key → Key} {b : Bool} {cs : List C} {v : Value} (h : One (CRel S ρ ok w) b (cs.map (renC f)) v) (hs : ∀ b, b < w.heap.size → S b → S' b) (hk : ∀ q ∈ cs.flatMap keysC, ok' q) : One (CRel S' (fun q => ρ (f q)) ok' w) b cs v := by
 obtain ⟨vs, h1, h2⟩ := h
 exact ⟨vs, h1.unmap fun c v hc h => h.ren hs fun q hq => hk q (List.mem_flatMap.2 ⟨c, hc, hq⟩), h2⟩
theorem Alls.ren {f : Key → Key} (hs : ∀ b, b < w.heap.size → S b → S' b) : ∀ {xs : List (Bool × List C)} {vs : List Value}, Alls (CRel S ρ ok w) (xs.map fun (b, cs) => (b, cs.map (renC f))) vs → (∀ q ∈ xs.flatMap (fun (_, cs) => cs.flatMap keysC), ok' q) → Alls (CRel S' (fun q => ρ (f q)) ok' w) xs vs
 | [], [], _, _ => .nil
 | (b, cs) :: xs, v :: vs, h, hk => by
  cases h with
  | cons h t => exact .cons (h.ren hs fun q hq => hk q (by simp only [List.flatMap_cons, List.mem_append]; exact .inl hq)) (Alls.ren hs t fun q hq => hk q (by simp only [List.flatMap_cons, List.mem_append]; exact .inr hq))
 | [], _ :: _, h, _ => by cases h
 | _ :: _, [], h, _ => by cases h
theorem AVRel.ren {f : Key → Key} {av : AV} {v : Value} (h : AVRel (CRel S ρ ok w) (renAV f av) v) (hs : ∀ b, b < w.heap.size → S b → S' b) (hk : ∀ q ∈ keysAV av, ok' q) : AVRel (CRel S' (fun q => ρ (f q)) ok' w) av v := by
 cases av with
 | one b cs => exact One.ren h hs hk
 | tup xs => obtain ⟨vs, h1, h2⟩ := h; exact ⟨vs, h1, Alls.ren hs h2 hk⟩
 | un => exact h
 | dead => trivial
theorem BoxRel.ren {f : Key → Key} {q : Key} {box : Box} (h : BoxRel S ρ ok w (f q) (renB f box)) (hs : ∀ b, b < w.heap.size → S b → S' b) (hk : ∀ q ∈ keysB (some box), ok' q) : BoxRel S' (fun q => ρ (f q)) ok' w q box := by
 cases box with
 | st ty cs =>
  obtain ⟨b, vs, h1, h2, h3⟩ := h
  exact ⟨b, vs, h1, h2, h3.unmap fun c v hc h => h.ren hs fun q hq => hk q (by simp only [keysB]; exact List.mem_flatMap.2 ⟨c, hc, hq⟩)⟩
 | sl ty sz rows =>
  obtain ⟨h1, h2, h3, h4, h5, h6⟩ := h
  refine ⟨h1, h2, h3, h4, h5, ?_⟩
  rcases h6 with h6 | ⟨b, vs, sp, k1, k2, k3, k4, k5⟩
  ·exact .inl h6
  ·exact .inr ⟨b, vs, sp, k1, k2, k3, k4.imp fun c v hc h => by
     obtain ⟨d, _, rfl⟩ := List.mem_map.1 hc
     exact Rd.mono h hs, k5⟩
 | fz sz rows => exact Rd.mono h hs
 | mp es ck => exact h
 | ca ty sz rows =>
  refine BoxRel.caTo (rows' := rows) h rfl (lens_map _).symm (fun _ _ => rfl) fun vs h3 => ?_
  rw [← List.map_flatten] at h3
  exact h3.unmap fun c v hc h => h.ren hs fun q hq => hk q (by simp only [keysB]; exact List.mem_flatMap.2 ⟨c, hc, hq⟩)
theorem renB_live (f : Key → Key) (b : Box) : (renB f b).live = b.live := by cases b <;> rfl
theorem Sub.of {st st' : St} (φ : List (Key × Key)) (h0 : φ.all (fun x => x.1.2 != 0) = true) (h1 : 0 < st'.nx)
    (ht : ∀ t av, lk st'.tm t = some av → lk st.tm t = some (renAV (renF φ) av) ∧ ∀ q ∈ keysAV av, q.2 < st'.nx)
    (hb : ∀ q box, lk st'.bx q = some box → lk st.bx (renF φ q) = some (renB (renF φ) box) ∧ q.2 < st'.nx ∧ ∀ k ∈ keysB (some box), k.2 < st'.nx)
    (hi : ∀ q q' box box', lk st'.bx q = some box → lk st'.bx q' = some box' → renF φ q = renF φ q' → q = q') : Sub N st st' := by
 intro V X Z w0 a w ⟨ρ, h⟩
 have him : ∀ b, b < w.heap.size → Im V ρ (lk st.bx) b → Im V (fun q => ρ (renF φ q)) (lk st'.bx) b := fun b _ hi' => ⟨hi'.1, fun q box hq hl => hi'.2 _ _ (hb q box hq).1 (by rw [renB_live]; exact hl)⟩
 have hz : ∀ q : Key, q.2 = 0 → renF φ q = q := fun q hq => by
  unfold renF
  have : lk φ q = none := by
   clear ht hb hi him
   induction φ with
   | nil => rfl
   | cons x r ih =>
    obtain ⟨k, v⟩ := x
    simp only [List.all_cons, Bool.and_eq_true, bne_iff_ne] at h0
    show (if q = k then some v else lk r q) = none
    rw [if_neg (fun e => h0.1 (by rw [← e]; exact hq))]
    exact ih h0.2
  rw [this]
 refine ⟨fun q => ρ (renF φ q), h.size, h.defers, fun t av hq => ?_, fun q box hq => ?_, fun q b1 q' b2 b e1 l1 e2 l2 g1 g2 => ?_, fun q box b hq hl hg => ?_, h.fr, h.va, fun q hq => ?_⟩
 ·obtain ⟨k1, k2⟩ := ht t av hq
  obtain ⟨k3, k4⟩ := h.tm t _ k1
  exact ⟨k3, k4.ren him k2⟩
 ·obtain ⟨k1, k2, k3⟩ := hb q box hq
  exact ⟨k2, (h.bx _ _ k1).2.ren him k3⟩
 ·exact hi q q' b1 b2 e1 e2 (h.ap _ _ _ _ b (hb q b1 e1).1 (by rw [renB_live]; exact l1) (hb q' b2 e2).1 (by rw [renB_live]; exact l2) g1 g2)
 ·exact h.lo _ _ b (hb q box hq).1 (by rw [renB_live]; exact hl) hg
 ·refine ⟨by omega, ?_⟩
  show ρ (renF φ q) = Z q
  rw [hz q hq]
  exact (h.zz q hq).2
end
def subT (φ : List (Key × Key)) (st : St) (nx : Nat) : List (Nat × AV) → Prop
 | [] => True
 | (t, av) :: r => (lk st.tm t = some (renAV (renF φ) av) ∧ (keysAV av).all (fun q => decide (q.2 < nx)) = true) ∧ subT φ st nx r
def subB (φ : List (Key × Key)) (st : St) (nx : Nat) : List (Key × Box) → Prop
 | [] => True
 | (q, box) :: r => (lk st.bx (renF φ q) = some (renB (renF φ) box) ∧ decide (q.2 < nx) = true ∧ (keysB (some box)).all (fun q => decide (q.2 < nx)) = true) ∧ subB φ st nx r
theorem lk_mem {α β : Type} [DecidableEq α] : ∀ {l : List (α × β)} {k : α} {v : β}, lk l k = some v → (k, v) ∈ l
 | (q, u) :: l, k, v, h => by
  unfold lk at h
  split at h
  ·rename_i e; subst e; cases h; simp
  ·simp [lk_mem h]
theorem nodup_inj {f : Key → Key} : ∀ {l : List (Key × Box)}, nodup (l.map fun x => f x.1) = true → ∀ q q' b b', (q, b) ∈ l → (q', b') ∈ l → f q = f q' → q = q'
 | x :: l, h, q, q', b, b', h1, h2, he => by
  simp only [List.map_cons, nodup, Bool.and_eq_true, Bool.not_eq_true', List.contains_eq_mem, decide_eq_false_iff_not] at h
  rcases List.mem_cons.1 h1 with rfl | g1
  ·rcases List.mem_cons.1 h2 with e | g2
   ·cases e; rfl
   ·exact absurd (List.mem_map.2 ⟨_, g2, he.symm⟩) h.1
  ·rcases List.mem_cons.1 h2 with e | g2
   ·subst e; exact absurd (List.mem_map.2 ⟨_, g1, he⟩) h.1
   ·exact nodup_inj h.2 q q' b b' g1 g2 he
theorem Sub.by {N : Nat} {st st' : St} (φ : List (Key × Key)) (h0 : φ.all (fun x => x.1.2 != 0) = true) (h1 : 0 < st'.nx) (h2 : nodup (st'.bx.map fun x => renF φ x.1) = true) (hT : subT φ st st'.nx st'.tm) (hB : subB φ st st'.nx st'.bx) : Sub N st st' := by
 have gT : ∀ l, subT φ st st'.nx l → ∀ t av, (t, av) ∈ l → lk st.tm t = some (renAV (renF φ) av) ∧ ∀ q ∈ keysAV av, q.2 < st'.nx := by
  intro l
  induction l with
  | nil => intro _ t av h; cases h
  | cons x r ih =>
   obtain ⟨k, v⟩ := x
   intro h t av hm
   rcases List.mem_cons.1 hm with e | hm
   ·cases e; exact ⟨h.1.1, fun q hq => of_decide_eq_true (List.all_eq_true.1 h.1.2 q hq)⟩
   ·exact ih h.2 t av hm
 have gB : ∀ l, subB φ st st'.nx l → ∀ q box, (q, box) ∈ l → lk st.bx (renF φ q) = some (renB (renF φ) box) ∧ q.2 < st'.nx ∧ ∀ k ∈ keysB (some box), k.2 < st'.nx := by
  intro l
  induction l with
  | nil => intro _ q box h; cases h
  | cons x r ih =>
   obtain ⟨k, v⟩ := x
   intro h q box hm
   rcases List.mem_cons.1 hm with e | hm
   ·cases e; exact ⟨h.1.1, of_decide_eq_true h.1.2.1, fun q hq => of_decide_eq_true (List.all_eq_true.1 h.1.2.2 q hq)⟩
   ·exact ih h.2 q box hm
 exact Sub.of φ h0 h1 (fun t av ht => gT _ hT t av (lk_mem ht)) (fun q box hq => gB _ hB q box (lk_mem hq)) (fun q q' b b' e1 e2 e => nodup_inj h2 q q' b b' (lk_mem e1) (lk_mem e2) e)
section
variable {V X : Nat → Prop} {Z : Key → Hd} {w0 w : World} {N : Nat} {ρ ρ' : Key → Hd} {ok ok' : Key → Prop} {lt lt' : Nat → Option AV} {lb lb' : Key → Option Box} {a : Act} {S S' : Nat → Prop}
theorem Rel.conv (h : Rel V X Z w0 N ρ ok lt lb a w) (hρ : ∀ q, ok q → ρ' q = ρ q) (hok : ∀ q, ok q → ok' q)
    (hlive : ∀ q box b, lb' q = some box → box.live = true → (ρ' q).g = some b → ∃ box0, lb q = some box0 ∧ box0.live = true ∧ (ρ q).g = some b)
    (hlt : ∀ t av, lt' t = some av → lt t = some av ∨ (t < N ∧ AVRel (CRel (Im V ρ' lb') ρ' ok' w) av (a.tmps.getD t undef)))
    (hlb : ∀ q box, lb' q = some box → lb q = some box ∨ (ok' q ∧ BoxRel (Im V ρ' lb') ρ' ok' w q box)) : Rel V X Z w0 N ρ' ok' lt' lb' a w := by
 have him : ∀ b, b < w.heap.size → Im V ρ lb b → Im V ρ' lb' b := fun b _ hi => ⟨hi.1, fun q box hq hl hg => by
  obtain ⟨box0, k1, k2, k3⟩ := hlive q box b hq hl hg
  exact hi.2 q box0 k1 k2 k3⟩
 refine ⟨h.size, h.defers, fun t av ht => ?_, fun q box hq => ?_, fun q b1 q' b2 b e1 l1 e2 l2 g1 g2 => ?_, fun q box b hq hl hg => ?_, h.fr, h.va, fun q hq => ?_⟩
 ·rcases hlt t av ht with h1 | h1
  ·obtain ⟨k1, k2⟩ := h.tm t av h1
   exact ⟨k1, k2.imp fun c v hc => hc.keep (Keep.refl _ _) him hρ hok⟩
  ·exact h1
 ·rcases hlb q box hq with h1 | h1
  ·obtain ⟨k1, k2⟩ := h.bx q box h1
   exact ⟨hok q k1, k2.keep (Keep.refl _ _) him hρ hok k1 (fun _ _ _ => rfl)⟩
  ·exact h1
 ·obtain ⟨x1, k1, k2, k3⟩ := hlive q b1 b e1 l1 g1
  obtain ⟨x2, k4, k5, k6⟩ := hlive q' b2 b e2 l2 g2
  exact h.ap q x1 q' x2 b k1 k2 k4 k5 k3 k6
 ·obtain ⟨x1, k1, k2, k3⟩ := hlive q box b hq hl hg
  exact h.lo q x1 b k1 k2 k3
 ·obtain ⟨k1, k2⟩ := h.zz q hq
  exact ⟨hok q k1, by rw [hρ q k1]; exact k2⟩
theorem box_nil (S : Nat → Prop) (ok : Key → Prop) (w : World) (k : Key) (ρ : Key → Hd) (A : Option Addr) (ty : TypeId) (sz : Nat) : BoxRel S (updR ρ k ⟨A, none, 0, 0, sz⟩) ok w k (.sl ty sz []) := by
 unfold BoxRel
 rw [updR_same]
 exact ⟨rfl, rfl, Nat.le_refl _, by simp, (fun i row h => by simp at h), .inl ⟨rfl, rfl, rfl⟩⟩
end
theorem Sub.zeroT {N : Nat} {st : St} (t : Nat) (ty : TypeId) (sz : Nat) (h : lk st.tm t = some (.one false [.zero])) : Sub N st ⟨setT (some t) (.one false [.own (0, st.nx)]) st.tm, ((0, st.nx), .sl ty sz []) :: st.bx, st.nx + 1⟩ := by
 intro V X Z w0 a w ⟨ρ, hR⟩
 obtain ⟨h1, h2⟩ := hR.tm t _ h
 obtain ⟨vs, k1, k2⟩ := h2
 simp only [Bool.false_eq_true, if_false] at k2
 subst k2
 cases k1 with
 | cons hc _ =>
  obtain ⟨A, hA⟩ := hc
  refine ⟨updR ρ (0, st.nx) ⟨A, none, 0, 0, sz⟩, hR.conv (fun q hq => updR_old (ok := fun q => q.2 < st.nx) (by simp) _ q hq) (fun q hq => by simp only at hq ⊢; omega) (fun q box b hq hl hg => ?_) (fun t' av ht' => ?_) (fun q box hq => ?_)⟩
  ·by_cases e : q = (0, st.nx)
   ·subst e; rw [updR_same] at hg; cases hg
   ·have hg' : (ρ q).g = some b := by unfold updR at hg; rw [if_neg e] at hg; exact hg
    have hq' : lk st.bx q = some box := by
     have : lk (((0, st.nx), Box.sl ty sz []) :: st.bx) q = lk st.bx q := by show (if q = (0, st.nx) then _ else lk st.bx q) = _; rw [if_neg e]
     rw [this] at hq; exact hq
    exact ⟨box, hq', hl, hg'⟩
  ·by_cases e : t' = t
   ·subst e
    right
    have : av = .one false [.own (0, st.nx)] := by
     have : lk (setT (some t') (.one false [.own (0, st.nx)]) st.tm) t' = some (.one false [.own (0, st.nx)]) := by simp [setT, lk]
     rw [this] at ht'; cases ht'; rfl
    subst this
    refine ⟨h1, [a.tmps.getD t' undef], .cons ⟨by simp, ?_⟩ .nil, by simp only [Bool.false_eq_true, if_false]⟩
    rw [updR_same]
    exact hA
   ·left
    have : lk (setT (some t) (.one false [.own (0, st.nx)]) st.tm) t' = lk st.tm t' := by
     simp only [setT]
     show (if t' = t then _ else lk _ t') = _
     rw [if_neg e]
     exact lk_filter st.tm t t' e
    rw [this] at ht'; exact ht'
  ·by_cases e : q = (0, st.nx)
   ·subst e
    right
    have : box = .sl ty sz [] := by simp [lk] at hq; exact hq.symm
    subst this
    exact ⟨by simp, box_nil _ _ _ _ _ _ _ _⟩
   ·left
    have : lk (((0, st.nx), Box.sl ty sz []) :: st.bx) q = lk st.bx q := by show (if q = (0, st.nx) then _ else lk st.bx q) = _; rw [if_neg e]
    rw [this] at hq; exact hq
theorem All2.setv {R R' : C → Value → Prop} {c' : C} {v : Value} : ∀ {cs : List C} {vs : List Value} {j : Nat}, All2 R cs vs → (∀ c v, R c v → R' c v) → vs[j]? = some v → R' c' v → All2 R' (cs.set j c') vs
 | _, _, j, .nil, _, h, _ => by simp at h
 | _, _, 0, .cons h t, hi, hv, hc => by
  simp at hv
  subst hv
  exact .cons hc (t.imp fun c v _ => hi c v)
 | _, _, j + 1, .cons h t, hi, hv, hc => .cons (hi _ _ h) (All2.setv t hi (by simpa using hv) hc)
theorem Sub.zeroB {N : Nat} {st : St} (q0 : Key) {ty0 : TypeId} {cs : List C} (j : Nat) (ty : TypeId) (sz : Nat) (h : lk st.bx q0 = some (.st ty0 cs)) (hj : cs[j]? = some .zero) :
    Sub N st ⟨st.tm, ((0, st.nx), .sl ty sz []) :: (q0, .st ty0 (cs.set j (.own (0, st.nx)))) :: st.bx.filter (·.1 != q0), st.nx + 1⟩ := by
 intro V X Z w0 a w ⟨ρ, hR⟩
 obtain ⟨h1, b0, vs, h2, h3, h4⟩ := hR.bx q0 _ h
 obtain ⟨v, hv, A, rfl⟩ := h4.get hj
 have hne : q0 ≠ (0, st.nx) := fun e => by rw [e] at h1; simp at h1
 have hlk : ∀ q, lk (((0, st.nx), Box.sl ty sz []) :: (q0, .st ty0 (cs.set j (.own (0, st.nx)))) :: st.bx.filter (·.1 != q0)) q = if q = (0, st.nx) then some (Box.sl ty sz []) else if q = q0 then some (.st ty0 (cs.set j (.own (0, st.nx)))) else lk st.bx q := fun q => by
  show (if q = (0, st.nx) then _ else if q = q0 then _ else lk _ q) = _
  rw [lk_filterK]
  split
  ·rfl
  ·split
   ·rfl
   ·rfl
 have hρ : ∀ q : Key, q.2 < st.nx → updR ρ (0, st.nx) ⟨A, none, 0, 0, sz⟩ q = ρ q := fun q hq => updR_old (ok := fun q => q.2 < st.nx) (by simp) _ q hq
 have hlive : ∀ (q : Key) (box : Box) (b : Nat), lk (((0, st.nx), Box.sl ty sz []) :: (q0, .st ty0 (cs.set j (.own (0, st.nx)))) :: st.bx.filter (·.1 != q0)) q = some box → box.live = true → (updR ρ (0, st.nx) ⟨A, none, 0, 0, sz⟩ q).g = some b → ∃ box0, lk st.bx q = some box0 ∧ box0.live = true ∧ (ρ q).g = some b := fun q box b hq hl hg => by
  rw [hlk] at hq
  by_cases e : q = (0, st.nx)
  ·subst e; rw [updR_same] at hg; cases hg
  ·have hg' : (ρ q).g = some b := by unfold updR at hg; rw [if_neg e] at hg; exact hg
   rw [if_neg e] at hq
   by_cases e2 : q = q0
   ·subst e2; exact ⟨_, h, rfl, hg'⟩
   ·rw [if_neg e2] at hq; exact ⟨box, hq, hl, hg'⟩
 refine ⟨updR ρ (0, st.nx) ⟨A, none, 0, 0, sz⟩, hR.conv hρ (fun q hq => by simp only at hq ⊢; omega) hlive (fun t av ht => .inl ht) (fun q box hq => ?_)⟩
 have hq' := hq
 rw [hlk] at hq'
 by_cases e : q = (0, st.nx)
 ·subst e
  rw [if_pos rfl] at hq'
  cases hq'
  exact .inr ⟨by simp, box_nil _ _ _ _ _ _ _ _⟩
 ·rw [if_neg e] at hq'
  by_cases e2 : q = q0
  ·subst e2
   rw [if_pos rfl] at hq'
   cases hq'
   refine .inr ⟨by simp only at h1 ⊢; omega, b0, vs, by rw [hρ q h1]; exact h2, h3, ?_⟩
   refine h4.setv (fun c v hc => hc.keep (Keep.refl _ _) (fun b _ hi => ⟨hi.1, fun q box hq hl hg => ?_⟩) hρ (fun q hq => by simp only at hq ⊢; omega)) hv ⟨by simp, by rw [updR_same]⟩
   obtain ⟨x, k1, k2, k3⟩ := hlive q box b hq hl hg
   exact hi.2 q x k1 k2 k3
  ·rw [if_neg e2] at hq'
   exact .inl hq'
end Go.Proofs.YtjpdemikmdfonaaGreatDoor
namespace Go.Proofs.YtjpdemikmdfonaaGreatDoor
open Go Go.RowKit
set_option linter.unusedSimpArgs false
set_option linter.unusedVariables false
theorem semVal_pure {α : Type} (P : Program) (a : α) : semVal P (pure a) = some a := rfl
theorem semVal_bind {α β : Type} (P : Program) (x : Sem α) (f : α → Sem β) : semVal P (x >>= f) = (semVal P x).bind fun a => semVal P (f a) := by
 show semVal P (Sem.bind x f) = _
 induction x with
 | pure a => rfl
 | program k ih => exact ih P
 | mark s k ih => exact ih
 | _ => rfl
theorem semVal_map {α β : Type} (P : Program) (x : Sem α) (f : α → β) : semVal P (f <$> x) = (semVal P x).map f := by
 have h : f <$> x = x >>= fun a => pure (f a) := (bind_pure_comp f x).symm
 rw [h, semVal_bind]
 cases semVal P x <;> rfl
theorem semVal_underlying {P : Program} {t : TypeId} {d : TypeDesc} (h : P.underlying t = some d) : semVal P (underlying t) = some d := by
 unfold underlying
 simp only [program]
 show semVal P (match P.underlying t with | some d => _ | none => _) = _
 rw [h]
 rfl
def bothInt (a b : Option TypeDesc) : Bool := match a, b with
 | some (.int _), some (.int _) => true
 | _, _ => false
def wrapTo (d : Option TypeDesc) (n : Int) : Option Value := match d with
 | some (.int k) => some (.int k (k.wrap n))
 | _ => none
theorem semVal_convI {P : Program} {s d : TypeId} {k : IntKind} {n : Int} (h : bothInt (P.underlying s) (P.underlying d) = true) : semVal P (convert s d (.int k n)) = wrapTo (P.underlying d) n := by
 unfold bothInt at h
 split at h
 ·rename_i k1 k2 h1 h2
  unfold convert
  rw [semVal_bind, semVal_underlying h1]
  simp only [Option.bind_some]
  rw [semVal_bind, semVal_underlying h2, h2]
  rfl
 ·cases h
theorem mo : Tryz.prog.follows .mixedOrders = true := by kernel_rfl
def lendS (_ : FuncId) : Bool := false
end Go.Proofs.YtjpdemikmdfonaaGreatDoor
namespace Go.Proofs.YtjpdemikmdfonaaGreatDoor
open Go Go.RowKit
set_option linter.unusedSimpArgs false
set_option linter.unusedVariables false
mutual
def JL (P : Program) (N : Nat) : List Code → St → (AX → St → Prop) → Prop
 | [], st, R => R .normal st
 | c :: cs, st, R => J P N c st (fun ax s => match ax with
  | .normal => JL P N cs s R
  | .exit i => R (.exit i) s
  | .ret => R .ret s)
end
def thenL (P : Program) (N : Nat) (cs : List Code) (R : AX → St → Prop) : AX → St → Prop
 | .normal, s => JL P N cs s R
 | .exit i, s => R (.exit i) s
 | .ret, s => R .ret s
section
variable {P : Program} {N : Nat} {st st' s s' : St} {R R' : AX → St → Prop} {cs : List Code}
theorem JL_cons {c : Code} : JL P N (c :: cs) st R ↔ J P N c st (thenL P N cs R) := by
 have : (fun (ax : AX) (s : St) => match ax with
  | .normal => JL P N cs s R
  | .exit i => R (.exit i) s
  | .ret => R .ret s) = thenL P N cs R := by funext ax s; cases ax <;> rfl
 unfold JL
 rw [this]
theorem outOf_normal {id : Nat} (h : R .normal s) : outOf id R .normal s := h
theorem outOf_same {id : Nat} (h : R .normal s) : outOf id R (.exit id) s := by show (if id = id then _ else _); rw [if_pos rfl]; exact h
theorem outOf_other {id i : Nat} (hi : (i == id) = false) (h : R (.exit i) s) : outOf id R (.exit i) s := by show (if i = id then _ else _); rw [if_neg (by simpa using hi)]; exact h
theorem outOf_ret {id : Nat} (h : R .ret s) : outOf id R .ret s := h
theorem thenL_normal (h : JL P N cs s R) : thenL P N cs R .normal s := h
theorem thenL_exit {i : Nat} (h : R (.exit i) s) : thenL P N cs R (.exit i) s := h
theorem thenL_ret (h : R .ret s) : thenL P N cs R .ret s := h
theorem roundOf_exit {ι : Type} {S : ι → St} {I : ι → Prop} {μ : ι → Nat} {i : ι} {n : Nat} (h : R (.exit n) s) : roundOf N S I μ i R (.exit n) s := h
theorem roundOf_ret {ι : Type} {S : ι → St} {I : ι → Prop} {μ : ι → Nat} {i : ι} (h : R .ret s) : roundOf N S I μ i R .ret s := h
theorem JL.nil (h : R .normal st) : JL P N [] st R := by unfold JL; exact h
theorem JL.sub {c : Code} (hs : Sub N st st') (h : JL P N (c :: cs) st' R) : JL P N (c :: cs) st R := by
 rw [JL_cons] at h ⊢; exact J.sub hs h
theorem JL.seq {a b : Code} (h : JL P N (a :: b :: cs) st R) : JL P N (.seq a b :: cs) st R := by
 rw [JL_cons] at h ⊢
 refine J.seq (h.mono fun ax s hs => ?_)
 cases ax with
 | normal => exact JL_cons.1 hs
 | exit i => exact hs
 | ret => exact hs
theorem JL.skip (h : JL P N cs st R) : JL P N (.skip :: cs) st R := JL_cons.2 (J.skip h)
theorem JL.label {l : Nat} (h : JL P N cs st R) : JL P N (.label l :: cs) st R := JL_cons.2 (J.label h)
theorem JL.exit {i : Nat} (h : R (.exit i) st) : JL P N (.exit i :: cs) st R := JL_cons.2 (J.exit h)
theorem JL.ret (h : R .ret st) : JL P N (.ret :: cs) st R := JL_cons.2 (J.ret h)
theorem JL.cond {c : Operand} {x y : Code} {b : Bool} (hc : ev (lk st.tm) c = some (.one false [.d (.v (.bool b))])) (ht : b = true → JL P N (x :: cs) st R) (hf : b = false → JL P N (y :: cs) st R) : JL P N (.cond c x y :: cs) st R :=
 JL_cons.2 (J.cond hc (fun h => JL_cons.1 (ht h)) (fun h => JL_cons.1 (hf h)))
theorem JL.condT {c : Operand} {x y : Code} (hc : ev (lk st.tm) c = some (.one false [.d (.v (.bool true))])) (h : JL P N (x :: cs) st R) : JL P N (.cond c x y :: cs) st R := JL.cond hc (fun _ => h) (fun h => by cases h)
theorem JL.condF {c : Operand} {x y : Code} (hc : ev (lk st.tm) c = some (.one false [.d (.v (.bool false))])) (h : JL P N (y :: cs) st R) : JL P N (.cond c x y :: cs) st R := JL.cond hc (fun h => by cases h) (fun _ => h)
theorem JL.block {id : Nat} {b : Code} (h : JL P N [b] st (outOf id (thenL P N cs R))) : JL P N (.block id b :: cs) st R := by
 rw [JL_cons] at h ⊢
 refine J.block (h.mono fun ax s hs => ?_)
 cases ax with
 | normal => exact hs
 | exit i => exact hs
 | ret => exact hs
theorem JL.loop {ι : Type} (S : ι → St) (I : ι → Prop) (μ : ι → Nat) {b : Code} (i0 : ι) (h0 : I i0) (hs0 : Sub N st (S i0)) (hb : ∀ i, I i → JL P N [b] (S i) (roundOf N S I μ i (thenL P N cs R))) : JL P N (.loop b :: cs) st R := by
 rw [JL_cons]
 refine J.loop S I μ i0 h0 hs0 fun i hi => ?_
 have := hb i hi
 rw [JL_cons] at this
 refine this.mono fun ax s hs => ?_
 cases ax with
 | normal => exact hs
 | exit i => exact hs
 | ret => exact hs
def endS (ops : Array Oper) (draw : Bool) (T : St → Prop) (s : St) (k : List Key) (ns : List Note) : Prop := k = [] ∧ (draw = false ∨ orderOk ops (masks ops ops.size) ns = true) ∧ T ⟨s.tm, s.bx, s.nx + 1⟩
theorem JL.region (K : Cons) (lend : FuncId → Bool) (hm : P.follows .mixedOrders = true) (hK : KOk P K) {id : Nat} {ops : Array Oper} {draw : Bool} (h : ∀ T : St → Prop, T s' → seqK P (envC K lend N) ops 0 ops.toList st (endS ops draw T)) (hR : JL P N cs s' R) : JL P N (.region id ops draw :: cs) st R :=
 JL_cons.2 (J.region K lend hm hK (h (fun s => thenL P N cs R .normal s) hR))
end
end Go.Proofs.YtjpdemikmdfonaaGreatDoor
namespace Go.Proofs.YtjpdemikmdfonaaGreatDoor
open Go Go.RowKit
set_option linter.unusedSimpArgs false
set_option linter.unusedVariables false
def cellTo (lb : Key → Option Box) (f : Key → Key) (new old : C) : Prop := old = renC f new ∨ (old = .zero ∧ ∃ sz, new = .d (.sl sz [])) ∨ ∃ q sz rows, old = .own q ∧ lb q = some (.fz sz rows) ∧ new = .d (.sl sz rows)
def cellsTo (lb : Key → Option Box) (f : Key → Key) : List C → List C → Prop
 | [], [] => True
 | c :: cs, d :: ds => cellTo lb f c d ∧ cellsTo lb f cs ds
 | _, _ => False
def avTo (lb : Key → Option Box) (f : Key → Key) : AV → AV → Prop
 | .one b cs, .one b' cs' => b = b' ∧ cellsTo lb f cs cs'
 | .dead, _ => True
 | a, b => b = renAV f a
def boxTo (lb : Key → Option Box) (f : Key → Key) : Box → Box → Prop
 | .st ty cs, .st ty' cs' => ty = ty' ∧ cellsTo lb f cs cs'
 | .ca ty sz rows, b => b = renB f (.ca ty sz rows)
 | a, b => b = a
section
variable {V X : Nat → Prop} {Z : Key → Hd} {w0 w : World} {N : Nat} {ρ : Key → Hd} {ok ok' : Key → Prop} {lt : Nat → Option AV} {lb : Key → Option Box} {a : Act} {S' : Nat → Prop} {f : Key → Key}
theorem CRel.to (h : Rel V X Z w0 N ρ ok lt lb a w) (hs : ∀ b, b < w.heap.size → Im V ρ lb b → S' b) {c d : C} {v : Value} (hc : CRel (Im V ρ lb) ρ ok w d v) (ht : cellTo lb f c d) (hk : ∀ q ∈ keysC c, ok' q) : CRel S' (fun q => ρ (f q)) ok' w c v := by
 rcases ht with rfl | ⟨rfl, sz, rfl⟩ | ⟨q, sz, rows, rfl, hq, rfl⟩
 ·exact hc.ren hs hk
 ·obtain ⟨A, rfl⟩ := hc
  exact Rd.sl (rows := []) (A := A) (c := 0) (b := 0) (o := 0) (cv := fun _ _ => undef) (by simp) (by simp) (fun h => absurd rfl h) (fun i row h => by simp at h) (fun i row j d h => by simp at h) (fun i row j d h => by simp at h)
 ·obtain ⟨_, rfl⟩ := hc
  exact Rd.mono (h.bx q _ hq).2 hs
theorem All2.to (h : Rel V X Z w0 N ρ ok lt lb a w) (hs : ∀ b, b < w.heap.size → Im V ρ lb b → S' b) : ∀ {cs ds : List C} {vs : List Value}, All2 (CRel (Im V ρ lb) ρ ok w) ds vs → cellsTo lb f cs ds → (∀ q ∈ cs.flatMap keysC, ok' q) → All2 (CRel S' (fun q => ρ (f q)) ok' w) cs vs
 | [], [], [], _, _, _ => .nil
 | c :: cs, d :: ds, v :: vs, hA, ht, hk => by
  cases hA with
  | cons h1 h2 => exact .cons (CRel.to h hs h1 ht.1 fun q hq => hk q (by simp only [List.flatMap_cons, List.mem_append]; exact .inl hq)) (All2.to h hs h2 ht.2 fun q hq => hk q (by simp only [List.flatMap_cons, List.mem_append]; exact .inr hq))
 | [], [], _ :: _, hA, _, _ => by cases hA
 | [], _ :: _, _, _, ht, _ => ht.elim
 | _ :: _, [], _, _, ht, _ => ht.elim
 | _ :: _, _ :: _, [], hA, _, _ => by cases hA
theorem AVRel.to (h : Rel V X Z w0 N ρ ok lt lb a w) (hs : ∀ b, b < w.heap.size → Im V ρ lb b → S' b) {av bv : AV} {v : Value} (hA : AVRel (CRel (Im V ρ lb) ρ ok w) bv v) (ht : avTo lb f av bv) (hk : ∀ q ∈ keysAV av, ok' q) : AVRel (CRel S' (fun q => ρ (f q)) ok' w) av v := by
 cases av with
 | one b cs =>
  cases bv with
  | one b' cs' =>
   obtain ⟨rfl, h2⟩ := ht
   obtain ⟨vs, k1, k2⟩ := hA
   exact ⟨vs, All2.to h hs k1 h2 hk, k2⟩
  | tup xs => cases ht
  | un => cases ht
  | dead => cases ht
 | tup xs => have e : bv = renAV f (.tup xs) := by cases bv <;> exact ht
             subst e; exact AVRel.ren hA hs hk
 | un => have e : bv = renAV f .un := by cases bv <;> exact ht
         subst e; exact AVRel.ren (f := f) hA hs hk
 | dead => trivial
theorem boxTo_live {x y : Box} (ht : boxTo lb f x y) : y.live = x.live := by
 cases x with
 | st ty cs => cases y with
  | st ty' cs' => rfl
  | sl _ _ _ => cases ht
  | fz _ _ => cases ht
  | mp _ _ => cases ht
  | ca _ _ _ => cases ht
 | sl ty sz rows => have e : y = .sl ty sz rows := by cases y <;> exact ht
                    rw [e]
 | fz sz rows => have e : y = .fz sz rows := by cases y <;> exact ht
                 rw [e]
 | mp es ck => have e : y = .mp es ck := by cases y <;> exact ht
               rw [e]
 | ca ty sz rows => have e : y = renB f (.ca ty sz rows) := by cases y <;> exact ht
                    rw [e]; rfl
theorem BoxRel.to (h : Rel V X Z w0 N ρ ok lt lb a w) (hs : ∀ b, b < w.heap.size → Im V ρ lb b → S' b) {q : Key} {x y : Box} (hB : BoxRel (Im V ρ lb) ρ ok w (f q) y) (ht : boxTo lb f x y) (hk : ∀ q ∈ keysB (some x), ok' q) : BoxRel S' (fun q => ρ (f q)) ok' w q x := by
 cases x with
 | st ty cs => cases y with
  | st ty' cs' =>
   obtain ⟨rfl, h2⟩ := ht
   obtain ⟨b, vs, k1, k2, k3⟩ := hB
   exact ⟨b, vs, k1, k2, All2.to h hs k3 h2 (by simpa only [keysB] using hk)⟩
  | sl _ _ _ => cases ht
  | fz _ _ => cases ht
  | mp _ _ => cases ht
  | ca _ _ _ => cases ht
 | sl ty sz rows => have e : y = .sl ty sz rows := by cases y <;> exact ht
                    subst e; exact BoxRel.ren (f := f) (box := .sl ty sz rows) hB hs hk
 | fz sz rows => have e : y = .fz sz rows := by cases y <;> exact ht
                 subst e; exact BoxRel.ren (f := f) (box := .fz sz rows) hB hs hk
 | mp es ck => have e : y = .mp es ck := by cases y <;> exact ht
               subst e; exact BoxRel.ren (f := f) (box := .mp es ck) hB hs hk
 | ca ty sz rows => have e : y = renB f (.ca ty sz rows) := by cases y <;> exact ht
                    subst e; exact BoxRel.ren (f := f) (box := .ca ty sz rows) hB hs hk
end
def toT (φ : List (Key × Key)) (st : St) (nx : Nat) : List (Nat × AV) → Prop
 | [] => True
 | (t, av) :: r => (∃ bv, lk st.tm t = some bv ∧ avTo (lk st.bx) (renF φ) av bv) ∧ (keysAV av).all (fun q => decide (q.2 < nx)) = true ∧ toT φ st nx r
def toB (φ : List (Key × Key)) (st : St) (nx : Nat) : List (Key × Box) → Prop
 | [] => True
 | (q, box) :: r => (∃ y, lk st.bx (renF φ q) = some y ∧ boxTo (lk st.bx) (renF φ) box y) ∧ decide (q.2 < nx) = true ∧ (keysB (some box)).all (fun q => decide (q.2 < nx)) = true ∧ toB φ st nx r
theorem Sub.to {N : Nat} {st st' : St} (φ : List (Key × Key)) (h0 : φ.all (fun x => x.1.2 != 0) = true) (h1 : decide (0 < st'.nx) = true) (h2 : nodup (st'.bx.map fun x => renF φ x.1) = true) (hT : toT φ st st'.nx st'.tm) (hB : toB φ st st'.nx st'.bx) : Sub N st st' := by
 have gT : ∀ l, toT φ st st'.nx l → ∀ t av, (t, av) ∈ l → (∃ bv, lk st.tm t = some bv ∧ avTo (lk st.bx) (renF φ) av bv) ∧ ∀ q ∈ keysAV av, q.2 < st'.nx := by
  intro l
  induction l with
  | nil => intro _ t av h; cases h
  | cons x r ih =>
   obtain ⟨k, v⟩ := x
   intro h t av hm
   rcases List.mem_cons.1 hm with e | hm
   ·cases e; exact ⟨h.1, fun q hq => of_decide_eq_true (List.all_eq_true.1 h.2.1 q hq)⟩
   ·exact ih h.2.2 t av hm
 have gB : ∀ l, toB φ st st'.nx l → ∀ q box, (q, box) ∈ l → (∃ y, lk st.bx (renF φ q) = some y ∧ boxTo (lk st.bx) (renF φ) box y) ∧ q.2 < st'.nx ∧ ∀ k ∈ keysB (some box), k.2 < st'.nx := by
  intro l
  induction l with
  | nil => intro _ q box h; cases h
  | cons x r ih =>
   obtain ⟨k, v⟩ := x
   intro h q box hm
   rcases List.mem_cons.1 hm with e | hm
   ·cases e; exact ⟨h.1, of_decide_eq_true h.2.1, fun q hq => of_decide_eq_true (List.all_eq_true.1 h.2.2.1 q hq)⟩
   ·exact ih h.2.2.2 q box hm
 have ht := fun t av (ht : lk st'.tm t = some av) => gT _ hT t av (lk_mem ht)
 have hb := fun q box (hq : lk st'.bx q = some box) => gB _ hB q box (lk_mem hq)
 have hi := fun q q' b b' (e1 : lk st'.bx q = some b) (e2 : lk st'.bx q' = some b') e => nodup_inj h2 q q' b b' (lk_mem e1) (lk_mem e2) e
 have h1' := of_decide_eq_true h1
 intro V X Z w0 a w ⟨ρ, h⟩
 have him : ∀ b, b < w.heap.size → Im V ρ (lk st.bx) b → Im V (fun q => ρ (renF φ q)) (lk st'.bx) b := fun b _ hi' => ⟨hi'.1, fun q box hq hl => by
  obtain ⟨⟨y, k1, k2⟩, _⟩ := hb q box hq
  exact hi'.2 _ _ k1 (by rw [boxTo_live k2]; exact hl)⟩
 have hz : ∀ q : Key, q.2 = 0 → renF φ q = q := fun q hq => by
  unfold renF
  have : lk φ q = none := by
   clear ht hb hi him gT gB hT hB h2
   induction φ with
   | nil => rfl
   | cons x r ih =>
    obtain ⟨k, v⟩ := x
    simp only [List.all_cons, Bool.and_eq_true, bne_iff_ne] at h0
    show (if q = k then some v else lk r q) = none
    rw [if_neg (fun e => h0.1 (by rw [← e]; exact hq))]
    exact ih h0.2
  rw [this]
 refine ⟨fun q => ρ (renF φ q), h.size, h.defers, fun t av hq => ?_, fun q box hq => ?_, fun q b1 q' b2 b e1 l1 e2 l2 g1 g2 => ?_, fun q box b hq hl hg => ?_, h.fr, h.va, fun q hq => ?_⟩
 ·obtain ⟨⟨bv, k0, k1⟩, k2⟩ := ht t av hq
  obtain ⟨k3, k4⟩ := h.tm t _ k0
  exact ⟨k3, AVRel.to h him k4 k1 k2⟩
 ·obtain ⟨⟨y, k0, k1⟩, k2, k3⟩ := hb q box hq
  exact ⟨k2, BoxRel.to h him (h.bx _ _ k0).2 k1 k3⟩
 ·obtain ⟨⟨y1, k0, k1⟩, _⟩ := hb q b1 e1
  obtain ⟨⟨y2, m0, m1⟩, _⟩ := hb q' b2 e2
  exact hi q q' b1 b2 e1 e2 (h.ap _ _ _ _ b k0 (by rw [boxTo_live k1]; exact l1) m0 (by rw [boxTo_live m1]; exact l2) g1 g2)
 ·obtain ⟨⟨y1, k0, k1⟩, _⟩ := hb q box hq
  exact h.lo _ _ b k0 (by rw [boxTo_live k1]; exact hl) hg
 ·refine ⟨by omega, ?_⟩
  show ρ (renF φ q) = Z q
  rw [hz q hq]
  exact (h.zz q hq).2
end Go.Proofs.YtjpdemikmdfonaaGreatDoor

namespace Go.Proofs.YtjpdemikmdfonaaGreatDoor
open Go Go.RowKit
set_option linter.unusedSimpArgs false
set_option linter.unusedVariables false
def SG (p : Prop) : Prop := p
theorem SG.mk {p : Prop} (h : p) : SG p := h
section
variable {P : Program} {N : Nat} {st : St} {R : AX → St → Prop} {cs : List Code} {E : Env} {ops : Array Oper} {i : Nat} {o : Oper} {rest : List Oper} {T : St → List Key → List Note → Prop}
end
theorem sv_equalB {P : Program} {t : TypeId} {a b : Bool} (h : P.underlying t = some .bool) : semVal P (Op.equal t (.bool a) (.bool b)) = some (a == b) := by
 have gen : ∀ d, semVal P (Op.equalIn (d + 1) t (.bool a) (.bool b)) = some (a == b) := fun d => by
  simp only [Op.equalIn]
  rw [semVal_bind, semVal_underlying h]
  rfl
 exact gen 9999
theorem sv_eqlB {P : Program} {t : TypeId} {a b : Bool} (h : P.underlying t = some .bool) : semVal P (binOp .eql t (.bool a) (.bool b)) = some (.bool (a == b)) := by
 simp only [binOp]
 rw [semVal_bind, sv_equalB h]
 rfl
theorem sv_neqB {P : Program} {t : TypeId} {a b : Bool} (h : P.underlying t = some .bool) : semVal P (binOp .neq t (.bool a) (.bool b)) = some (.bool (!(a == b))) := by
 simp only [binOp]
 rw [semVal_bind, sv_equalB h]
 rfl
theorem lk_keep {α : Type} (ks : List Nat) : ∀ (tm : List (Nat × α)) (t : Nat) (v : α), lk (tm.filter fun x => ks.contains x.1) t = some v → lk tm t = some v
 | [], t, v, h => by cases h
 | (k, u) :: tm, t, v, h => by
  rw [List.filter_cons] at h
  split at h
  ·have h' : (if t = k then some u else lk (tm.filter fun x => ks.contains x.1) t) = some v := h
   show (if t = k then some u else lk tm t) = some v
   split
   ·rename_i e; rw [if_pos e] at h'; exact h'
   ·rename_i e; rw [if_neg e] at h'; exact lk_keep ks tm t v h'
  ·rename_i hk
   have h' := lk_keep ks tm t v h
   show (if t = k then some u else lk tm t) = some v
   split
   ·rename_i e
    subst e
    obtain hm := lk_mem h
    have := (List.mem_filter.1 hm).2
    exact absurd this hk
   ·exact h'
theorem JL.keep {P : Program} {N : Nat} {st : St} {R : AX → St → Prop} {c : Code} {cs : List Code} (ks : List Nat) (h : JL P N (c :: cs) ⟨st.tm.filter (fun x => ks.contains x.1), st.bx, st.nx⟩ R) : JL P N (c :: cs) st R :=
 JL.sub (st' := ⟨st.tm.filter (fun x => ks.contains x.1), st.bx, st.nx⟩) (fun V X Z w0 a w ⟨ρ, h⟩ => ⟨ρ, h.size, h.defers, (fun t av ht => h.tm t av (lk_keep ks _ t av ht)), h.bx, h.ap, h.lo, h.fr, h.va, h.zz⟩) h
section
variable {α : Type} {f : α → α → Bool}
end
section
variable {α : Type} {f : α → Bool}
end
end Go.Proofs.YtjpdemikmdfonaaGreatDoor

