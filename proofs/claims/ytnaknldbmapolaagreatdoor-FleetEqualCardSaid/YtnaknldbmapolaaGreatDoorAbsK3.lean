/-
  The abstract machine is right: the arguments of calls.
-/
import Derived.Test.YtnaknldbmapolaaGreatDoorAbsK2
namespace Go.Proofs.YtnaknldbmapolaaGreatDoor
open Go Go.RowKit
set_option linter.unusedSimpArgs false
set_option linter.unusedVariables false
/-- Arguments, one by one. -/
inductive AL (R : C → Value → Prop) (ρ : Key → Hd) (D : Key → Key → Prop) : Nat → List Arg → List Value → Prop
  | nil {i : Nat} : AL R ρ D i [] []
  | val {i : Nat} {b : Bool} {cs : List C} {v : Value} {xs : List Arg} {vs : List Value} (hk : ∀ c ∈ cs, keysC c = []) (h : One R b cs v) (t : AL R ρ D (i + 1) xs vs) : AL R ρ D i (.val b cs :: xs) (v :: vs)
  | io {i : Nat} {ty : TypeId} {cs : List C} {v : Value} {xs : List Arg} {vs : List Value} {q : Key} {b : Nat} (h : D (i, 0) q) (hg : (ρ q).g = some b) (hv : v = .pointer (some ⟨b, 0, none⟩)) (t : AL R ρ D (i + 1) xs vs) : AL R ρ D i (.io ty cs :: xs) (v :: vs)
section
variable {R : C → Value → Prop} {ρ : Key → Hd} {D : Key → Key → Prop}
theorem AL.length {i : Nat} {xs : List Arg} {vs : List Value} (h : AL R ρ D i xs vs) : vs.length = xs.length := by induction h with | nil => rfl | val _ _ _ ih => simp [ih] | io _ _ _ _ ih => simp [ih]
theorem AL.tm {i : Nat} {xs : List Arg} {vs : List Value} (h : AL R ρ D i xs vs) : ∀ t av, lk (argTm i xs) t = some av → i ≤ t ∧ t - i < vs.length ∧ ((∃ b cs, av = .one b cs ∧ (∀ c ∈ cs, keysC c = []) ∧ One R b cs (vs.getD (t - i) undef)) ∨
    (∃ q b, av = .one false [.ptr (t, 0) 0] ∧ D (t, 0) q ∧ (ρ q).g = some b ∧ vs.getD (t - i) undef = .pointer (some ⟨b, 0, none⟩))) := by
  induction h with
  | nil => intro t av ht; cases ht
  | @val i b cs v xs vs hk h tt ih =>
    intro t av ht
    by_cases e : t = i
    · subst e
      rw [show lk (argTm t (.val b cs :: xs)) t = some (.one b cs) from if_pos rfl] at ht
      cases ht
      exact ⟨Nat.le_refl _, by simp, .inl ⟨b, cs, rfl, hk, by simpa using h⟩⟩
    · rw [show lk (argTm i (.val b cs :: xs)) t = lk (argTm (i + 1) xs) t from if_neg e] at ht
      obtain ⟨h1, h2, h3⟩ := ih t av ht
      have e1 : (v :: vs).getD (t - i) undef = vs.getD (t - (i + 1)) undef := by
        rw [show t - i = (t - (i + 1)) + 1 by omega]; simp
      rw [e1]
      exact ⟨by omega, by simp; omega, h3⟩
  | @io i ty cs v xs vs q b h hg hv tt ih =>
    intro t av ht
    by_cases e : t = i
    · subst e
      rw [show lk (argTm t (.io ty cs :: xs)) t = some (.one false [.ptr (t, 0) 0]) from if_pos rfl] at ht
      cases ht
      exact ⟨Nat.le_refl _, by simp, .inr ⟨q, b, rfl, h, hg, by simpa using hv⟩⟩
    · rw [show lk (argTm i (.io ty cs :: xs)) t = lk (argTm (i + 1) xs) t from if_neg e] at ht
      obtain ⟨h1, h2, h3⟩ := ih t av ht
      have e1 : (v :: vs).getD (t - i) undef = vs.getD (t - (i + 1)) undef := by
        rw [show t - i = (t - (i + 1)) + 1 by omega]; simp
      rw [e1]
      exact ⟨by omega, by simp; omega, h3⟩
end
theorem keys_list {α : Type} (cs : List α) (f : α → C) (h : ∀ a ∈ cs, keysC (f a) = []) : ∀ c ∈ cs.map f, keysC c = [] := fun c hc => by obtain ⟨a, ha, rfl⟩ := List.mem_map.1 hc; exact h a ha
section
variable {V X : Nat → Prop} {Z : Key → Option Nat} {w0 w : World} {N : Nat} {ρ : Key → Hd} {ok ok' : Key → Prop} {lt lt' : Nat → Option AV} {lb lb' : Key → Option Box} {a : Act} {P : Program} {o : Oper} {e : Eff} {Q : Exit → Act → World → Prop}
theorem argVal_sound (h : Rel V X Z w0 N ρ ok lt lb a w) (hb : ∀ t x, lb' t = some x → lb t = some x) {cur : Nat} {kt : List Key} (hkt : kt.filter (·.2 != cur) = []) {c c' : C} {ks : List Key} (he : argVal lb' false c = some (c', ks)) (hks : ∀ k ∈ ks, k ∈ kt) {v : Value} (hv : CRel (Im V ρ lb) ρ ok w c v) :
    CRel (Im V ρ (updB lb (shut cur lb' kt))) ρ ok w c' v ∧ keysC c' = [] := by
  have hs := shut_Shut (lb := lb) hb cur kt
  have gen : CRel (Im V ρ (updB lb (shut cur lb' kt))) ρ ok w c v := hv.keep (Keep.refl _ _) (fun b _ hi => im_shut hs hi) (fun _ _ => rfl) (fun _ h => h)
  cases c with
  | d d => simp [argVal] at he; obtain ⟨rfl, rfl⟩ := he; exact ⟨gen, rfl⟩
  | zero => simp [argVal] at he; obtain ⟨rfl, rfl⟩ := he; exact ⟨gen, rfl⟩
  | rptr row o => simp [argVal] at he; obtain ⟨rfl, rfl⟩ := he; exact ⟨gen, rfl⟩
  | dead => simp [argVal] at he; obtain ⟨rfl, rfl⟩ := he; exact ⟨gen, rfl⟩
  | ptr q o => simp [argVal] at he
  | eptr q i o => simp [argVal] at he
  | arr q n z => simp [argVal] at he
  | mp q => simp [argVal] at he
  | fn g caps =>
    simp only [argVal, Bool.false_eq_true, if_false] at he
    split at he
    · rename_i hall
      cases he
      refine ⟨gen, ?_⟩
      show caps.flatMap capKeys = []
      exact List.flatMap_eq_nil_iff.2 fun c hc => by simpa using List.all_eq_true.1 hall c hc
    · cases he
  | own q =>
    simp only [argVal] at he
    cases h1 : toD lb' (.own q) with
    | none => simp [h1] at he
    | some p =>
      obtain ⟨d, k⟩ := p
      simp [h1] at he
      obtain ⟨rfl, rfl⟩ := he
      refine ⟨toD_sound h hb (fun b _ hi => im_shut hs hi) h1 (fun q' box b hq' hbx hg => ?_) hv, rfl⟩
      obtain ⟨ty, sz, rows, h2⟩ := toD_ks h1 q' hq'
      exact im_of_shut h hs (hb _ _ h2) (by unfold updB; rw [shut_mem (hks q' hq') (needs_cur hkt q' (hks q' hq')) h2]) hg
theorem argVals_sound (h : Rel V X Z w0 N ρ ok lt lb a w) (hb : ∀ t x, lb' t = some x → lb t = some x) {cur : Nat} {kt : List Key} (hkt : kt.filter (·.2 != cur) = []) : ∀ {cs cs' : List C} {ks : List Key} {vs : List Value}, argVals lb' false cs = some (cs', ks) → (∀ k ∈ ks, k ∈ kt) → All2 (CRel (Im V ρ lb) ρ ok w) cs vs →
    All2 (CRel (Im V ρ (updB lb (shut cur lb' kt))) ρ ok w) cs' vs ∧ ∀ c ∈ cs', keysC c = []
  | [], cs', ks, vs, he, hks, hA => by simp [argVals] at he; obtain ⟨rfl, rfl⟩ := he; cases hA; exact ⟨.nil, by simp⟩
  | c :: cs, cs', ks, vs, he, hks, hA => by
    unfold argVals at he
    cases h1 : argVal lb' false c with
    | none => simp [h1] at he
    | some p =>
      cases h2 : argVals lb' false cs with
      | none => simp [h1, h2] at he
      | some r =>
        obtain ⟨c1, k1⟩ := p
        obtain ⟨cs1, k2⟩ := r
        simp [h1, h2] at he
        obtain ⟨rfl, rfl⟩ := he
        cases hA with
        | cons x y =>
          obtain ⟨g1, g2⟩ := argVal_sound h hb hkt h1 (fun k hk => hks k (by simp [hk])) x
          obtain ⟨g3, g4⟩ := argVals_sound h hb hkt h2 (fun k hk => hks k (by simp [hk])) y
          exact ⟨.cons g1 g3, fun c hc => by rcases List.mem_cons.1 hc with rfl | hc; exact g2; exact g4 c hc⟩
theorem argsOf_sound (h : Rel V X Z w0 N ρ ok lt lb a w) (hl : ∀ t x, lt' t = some x → lt t = some x) (hb : ∀ t x, lb' t = some x → lb t = some x) {cur : Nat} {kt : List Key} (hkt : kt.filter (·.2 != cur) = []) (D : Key → Key → Prop) : ∀ {i : Nat} {args : List Operand} {xs : List (Bool × List C)} {ks : List Key}, argsOf lt' lb' false args = some (xs, ks) → (∀ k ∈ ks, k ∈ kt) →
    AL (CRel (Im V ρ (updB lb (shut cur lb' kt))) ρ ok w) ρ D i (xs.map fun (b, cs) => Arg.val b cs) (args.map a.eval)
  | i, [], xs, ks, he, hks => by simp [argsOf] at he; obtain ⟨rfl, rfl⟩ := he; exact .nil
  | i, x :: args, xs, ks, he, hks => by
    unfold argsOf at he
    split at he
    · rename_i b cs xs' ks' h1 h2
      split at he
      · rename_i cs' k h3
        cases he
        obtain ⟨us, u1, u2⟩ := ev_sound h hl h1
        obtain ⟨g1, g2⟩ := argVals_sound h hb hkt h3 (fun k hk => hks k (by simp [hk])) u1
        exact .val g2 ⟨us, g1, u2⟩ (argsOf_sound h hl hb hkt D h2 (fun k hk => hks k (by simp [hk])))
      · cases he
    · cases he
theorem dict_nil (xs : List (Bool × List C)) : dictOf (xs.map fun (b, cs) => Arg.val b cs) [] [] = [] := by
  have : ∀ i, zipIo i (xs.map fun (p : Bool × List C) => Arg.val p.1 p.2) [] = [] := by
    induction xs with
    | nil => intro i; rfl
    | cons x xs ih => intro i; exact ih (i + 1)
  show zipIo 0 _ [] ++ _ = _
  rw [this]
  rfl
theorem argBx_nil (xs : List (Bool × List C)) : ∀ i, argBx i (xs.map fun (b, cs) => Arg.val b cs) = [] := by
  induction xs with
  | nil => intro i; rfl
  | cons x xs ih => intro i; exact ih (i + 1)
theorem ioBx_nil (xs : List (Bool × List C)) (ios : List (List C)) : ∀ i, ioBx i (xs.map fun (b, cs) => Arg.val b cs) ios = [] := by
  induction xs with
  | nil => intro i; rfl
  | cons x xs ih => intro i; exact ih (i + 1)
theorem argsAt_val (h : Rel V X Z w0 N ρ ok lt lb a w) {xs : List (Bool × List C)} {vals : List Value} (hA : AL (CRel (Im V ρ lb) ρ ok w) ρ (fun κ q => (κ, q) ∈ dictOf (xs.map fun (b, cs) => Arg.val b cs) [] []) 0 (xs.map fun (b, cs) => Arg.val b cs) vals) :
    ArgsAt V ρ ok lb w (xs.map fun (b, cs) => Arg.val b cs) [] [] vals := by
  refine ⟨hA.length, fun i av hi => ?_, fun κ boxc hm => ?_, fun κ q hm => ?_⟩
  · obtain ⟨_, h2, h3⟩ := hA.tm i av hi
    rw [Nat.sub_zero] at h2 h3
    refine ⟨h2, ?_⟩
    have e1 : vals.toArray.getD i undef = vals.getD i undef := by simp [Array.getD_eq_getD_getElem?]
    rw [e1]
    exact h3
  · rw [argBx_nil] at hm; simp at hm
  · rw [dict_nil] at hm; cases hm
/-- How a call goes on. -/
theorem wp_call {c : Call} {f : Operand} {g : FuncId} (hop : o.op = .call c) (hc : c.callee = .value f) {us : List Value} (hf : a.eval f = .func (.func g) #[] us.toArray) (hbod : bodied P g = true) {K : Act → World → Prop} (hC : Calls P g (c.args.toList.map a.eval ++ us).toArray w fun e w' => ∃ v, e = .returned v ∧ K (a.put o.dst v) w') : o.wp P a w K Q := by
  unfold bodied at hbod
  split at hbod
  · rename_i fn hfn
    simp only [Bool.and_eq_true, Bool.not_eq_true'] at hbod
    have e1 : (c.args.toList.map a.eval ++ us).toArray = c.args.map a.eval ++ us.toArray := by rw [← Array.toList_map]; simp
    rw [e1] at hC
    have hrun : (execOp a.eval o).run P w = .ok (.enter g (c.args.map a.eval ++ us.toArray)) w := by
      have hb : ¬ fn.body = none := fun hbb => by rw [hbb] at hbod; simp at hbod
      have hnm : ¬ fn.name = "runtime.NumGoroutine" := by simpa using hbod.2
      simp [execOp, hop, resolve, hc, hf, Deferred.ofValue, invoke, callFunc, hfn]
      rw [if_neg hnm, if_neg hb]
    unfold Oper.wp
    rw [hrun]
    refine hC.mono ?_
    rintro e w' ⟨v, rfl, hK⟩
    exact hK
  · cases hbod
theorem caps_all {S : Nat → Prop} {ρ : Key → Hd} {ok : Key → Prop} {w : World} {caps : List Cap} {us : List Value} (h : Caps (CapRel S ρ ok w) caps us) : All2 (CRel S ρ ok w) (caps.map Cap.toC) us := by
  induction h with
  | nil => exact .nil
  | @cons c v cs vs hc _ ih =>
    refine .cons ?_ ih
    cases c with
    | d x => exact hc
    | ptr q o => exact hc
    | rptr row o => exact hc
theorem callee_sound (h : Rel V X Z w0 N ρ ok lt lb a w) (hl : ∀ t x, lt' t = some x → lt t = some x) {f : Operand} {g : FuncId} {caps : List C} (he : calleeOf lt' f = some (g, caps)) : ∃ us : List Value, a.eval f = .func (.func g) #[] us.toArray ∧ All2 (CRel (Im V ρ lb) ρ ok w) caps us := by
  unfold calleeOf at he
  split at he
  · rename_i g' x y h1
    split at he
    · rename_i hc
      cases he
      have := conV_sound (x := .func (.func g) x y) rfl (ev_sound h hl h1)
      simp only [Bool.and_eq_true, Array.isEmpty_iff] at hc
      exact ⟨[], by rw [this, hc.1, hc.2], .nil⟩
    · cases he
  · rename_i g' cps h1
    cases he
    obtain ⟨us, u1, u2⟩ := slot1_sound (c := .fn g cps) rfl (ev_sound h hl h1)
    exact ⟨us, u1, caps_all u2⟩
  · cases he
theorem effVal_sound (h : Rel V X Z w0 N ρ ok lt lb a w) (ho : ∀ q : Key, ok q → ok' q) (hd : ∀ k, o.dst = some k → k < N) (hl : ∀ t x, lt' t = some x → lt t = some x) (hb : ∀ t x, lb' t = some x → lb t = some x) {cur : Nat} {key : Nat → Key} (hinj : ∀ i j, key i = key j → i = j) (hkey : ∀ j, j < 64 → ¬ ok (key j) ∧ ok' (key j))
    {call : CallF} (hcall : CallOk P call) {c : Call} {f : Operand} {g : FuncId} (hop : o.op = .call c) (hc : c.callee = .value f) (hf : calleeOf lt' f = some (g, [])) (hbod : bodied P g = true) {xs : List (Bool × List C)} {ks : List Key} (hargs : argsOf lt' lb' false c.args.toList = some (xs, ks))
    (he : effVal call false cur key g xs ks lb' = some e) (hn : e.needs = []) : o.wp P a w (Aft V X Z w0 N ok' lt lb o.dst e) Q := by
  unfold effVal at he
  split at he
  · rename_i r hr
    split at he
    · rename_i hcnd
      cases he
      obtain ⟨c1, c2, _, c3, c4, c5⟩ := hcnd
      obtain ⟨us, hus, hall⟩ := callee_sound h hl hf
      cases hall
      refine wp_call hop hc hus hbod ?_
      rw [List.append_nil]
      have hR := h.shut (shut_Shut (lb := lb) hb cur ks)
      have hAL := argsOf_sound h hl hb hn (fun κ q => (κ, q) ∈ dictOf (xs.map fun (b, cs) => Arg.val b cs) [] []) (i := 0) hargs (fun k hk => hk)
      have hAA := argsAt_val hR hAL
      have hios : r.ios = [] := List.length_eq_zero_iff.1 c1
      refine (call_sound hR ho hinj hkey hAA (by rw [dict_nil]; rfl) (by rw [dict_nil]; rfl) (fun κ q hm => by rw [dict_nil] at hm; cases hm) (fun n hn' => ?_) (fun j q ty hq => by simp at hq) (hcall g _ _ r hr) (by rw [c1]; rfl) c2 c3 (by rw [ioBx_nil]; exact c4) c5 o.dst hd).mono ?_
      · have : (xs.map fun (p : Bool × List C) => Arg.val p.1 p.2).filter isIo = [] := by
          rw [List.filter_eq_nil_iff]
          intro x hx
          obtain ⟨p, _, rfl⟩ := List.mem_map.1 hx
          simp [isIo]
        rw [show (xs.map fun (b, cs) => Arg.val b cs) = xs.map fun (p : Bool × List C) => Arg.val p.1 p.2 from rfl, this] at hn'
        exact hn'
      · rintro e' w' ⟨v, rfl, ρ', hfin⟩
        refine ⟨v, rfl, ρ', ?_⟩
        have e1 : updB (updB lb (shut cur lb' ks)) (putIo (renK key r.bx 0) [] r.ios ++ (takeBx (renK key r.bx 0) key r.bx 0 ++ List.map (fun (x : Key × Key × Box) => (x.1, (none : Option Box))) [])) = updB lb (takeBx (renK key r.bx 0) key r.bx 0 ++ shut cur lb' ks) := by
          funext q
          have e2 : putIo (renK key r.bx 0) [] r.ios = [] := by cases r.ios <;> rfl
          unfold updB
          rw [e2, List.nil_append, List.map_nil, List.append_nil, lk_append]
          cases lk (takeBx (renK key r.bx 0) key r.bx 0) q <;> rfl
        rw [e1] at hfin
        exact hfin
    · cases he
  · cases he
end
end Go.Proofs.YtnaknldbmapolaaGreatDoor
