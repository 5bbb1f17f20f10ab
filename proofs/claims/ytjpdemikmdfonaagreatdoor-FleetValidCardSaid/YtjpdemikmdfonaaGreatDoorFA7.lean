/- Rules of runs and contracts of functions, for the claims of one seat. -/
import Derived.Lib.UnsafeStr
import Derived.Test.YtjpdemikmdfonaaGreatDoorFA6
import Derived.WideLaws
namespace Go.Proofs.YtjpdemikmdfonaaGreatDoor
open Go Go.RowKit
set_option linter.unusedSimpArgs false
set_option linter.unusedVariables false
section
variable {V X : Nat → Prop} {Z : Key → Hd} {w0 w : World} {N : Nat} {ρ : Key → Hd} {ok ok' : Key → Prop} {lt lt' : Nat → Option AV} {lb lb' : Key → Option Box} {a : Act} {P : Program} {o : Oper} {e : Eff} {Q : Exit → Act → World → Prop}
theorem toL_sound (h : Rel V X Z w0 N ρ ok lt lb a w) (hb : ∀ t x, lb' t = some x → lb t = some x) {c : C} {v : Value} {d : D} (he : toL lb' c = some d) (hv : CRel (Im V ρ lb) ρ ok w c v) : Rd (fun _ => True) w d v := by
 have hs : ∀ b, b < w.heap.size → Im V ρ lb b → True := fun _ _ _ => trivial
 have gen : ∀ {c : C}, (toD lb' c).map (·.1) = some d → CRel (Im V ρ lb) ρ ok w c v → Rd (fun _ => True) w d v := fun {c} h1 h2 => by
  obtain ⟨⟨d', ks⟩, h3, h4⟩ := Option.map_eq_some_iff.1 h1
  cases h4
  exact toD_sound h hb hs h3 (fun _ _ _ _ _ _ => trivial) h2
 cases c with
 | arr q n z =>
  simp only [toL] at he
  split at he
  ·rename_i ty cs hq
   split at he
   ·rename_i hcond
    obtain ⟨⟨ds, ks⟩, h3, h4⟩ := Option.map_eq_some_iff.1 he
    cases h4
    obtain ⟨b, vs, y1, y2, y3⟩ := (h.bx q _ (hb _ _ hq)).2
    obtain ⟨_, b', y4, cp, hcp, rfl⟩ := hv
    obtain rfl : b' = b := by rw [y1] at y4; cases y4; rfl
    have hA := toDs_sound h hb hs h3 (fun _ _ _ _ _ _ => trivial) y3
    have hdl : ds.length = n * z := by rw [toDs_len h3]; exact hcond.1
    have hrow := chunks_row z n ds hdl
    have hget : ∀ (i : Nat) (row : List D) (j : Nat) (d : D), (chunks z n ds)[i]? = some row → row[j]? = some d → ∃ u, vs[i * z + j]? = some u ∧ Rd (fun _ => True) w d u := by
     intro i row j d hi hj
     have hjl : j < z := by
      have := hrow i row hi
      rcases Nat.lt_or_ge j row.length with h | h
      ·omega
      ·rw [List.getElem?_eq_none h] at hj; cases hj
     have := mk_flat hrow hi hjl
     rw [chunks_flat z n ds hdl] at this
     exact hA.get (c := C.d d) (by rw [List.getElem?_map, this, hj]; rfl)
    have hlen := chunks_len z n ds
    have key := Rd.sl (S := fun _ => True) (w := w) (sz := z) (rows := chunks z n ds) (A := some ⟨b', 0, none⟩) (c := cp) (b := b') (o := 0) (cv := fun i j => (vs[i * z + j]?).getD undef) (by rw [hlen]; exact hcp) (by rw [hlen]; exact hcond.2) (fun _ => ⟨rfl, y2.lt, trivial⟩) hrow
     (fun i row j d hi hj => by
      obtain ⟨u, k1, k2⟩ := hget i row j d hi hj
      rw [y2.cell, Nat.zero_add]
      simp [k1])
     (fun i row j d hi hj => by
      obtain ⟨u, k1, k2⟩ := hget i row j d hi hj
      simp only [k1, Option.getD_some]
      exact k2)
    rw [hlen] at key
    exact key
   ·cases he
  ·cases he
 | d d => exact gen (c := C.d d) he hv
 | zero => exact gen (c := .zero) he hv
 | own q => exact gen (c := .own q) he hv
 | ptr q o => exact gen (c := .ptr q o) he hv
 | eptr q i o => exact gen (c := .eptr q i o) he hv
 | rptr row o => exact gen (c := .rptr row o) he hv
 | mp q => exact gen (c := .mp q) he hv
 | fn g caps => exact gen (c := .fn g caps) he hv
 | dead => exact gen (c := .dead) he hv
theorem toLs_sound (h : Rel V X Z w0 N ρ ok lt lb a w) (hb : ∀ t x, lb' t = some x → lb t = some x) : ∀ {cs : List C} {vs : List Value} {ds : List D}, toLs lb' cs = some ds → All2 (CRel (Im V ρ lb) ρ ok w) cs vs → All2 (CRel (fun _ => True) ρ ok w) (ds.map .d) vs
 | [], vs, ds, he, hA => by simp [toLs] at he; subst he; cases hA; exact .nil
 | c :: cs, vs, ds, he, hA => by
  unfold toLs at he
  split at he
  ·rename_i d ds' h1 h2
   cases he
   cases hA with
   | cons x y => exact .cons (toL_sound h hb h1 x) (toLs_sound h hb h2 y)
  ·cases he
theorem lendPtr_sound (h : Rel V X Z w0 N ρ ok lt lb a w) (hb : ∀ t x, lb' t = some x → lb t = some x) {q : Key} {o' : Nat} {ty : TypeId} {cs : List C} {ds : List D} (hq : lb' q = some (.st ty cs)) (hds : toLs lb' cs = some ds) {v : Value} (hv : ok q ∧ ∃ b, (ρ q).g = some b ∧ v = .pointer (some ⟨b, o', none⟩)) : RPtr (fun _ => True) w ds o' v := by
 obtain ⟨b, vs, y1, y2, y3⟩ := (h.bx q _ (hb _ _ hq)).2
 obtain ⟨_, b', y4, rfl⟩ := hv
 obtain rfl : b' = b := by rw [y1] at y4; cases y4; rfl
 have hA := toLs_sound h hb hds y3
 refine ⟨b', 0, fun j => (vs[j]?).getD undef, by simp, y2.lt, trivial, fun j d hj => ?_⟩
 obtain ⟨u, u1, u2⟩ := hA.get (c := C.d d) (by rw [List.getElem?_map, hj]; rfl)
 simp only [u1, Option.getD_some]
 refine ⟨?_, u2⟩
 rw [y2.cell, Nat.zero_add]
 simpa using u1
theorem lendCaps_sound (h : Rel V X Z w0 N ρ ok lt lb a w) (hb : ∀ t x, lb' t = some x → lb t = some x) : ∀ {caps cs : List Cap} {us : List Value}, caps.mapM (lendCap lb') = some cs → Caps (CapRel (Im V ρ lb) ρ ok w) caps us → Caps (CapRel (fun _ => True) ρ ok w) cs us ∧ cs.flatMap capKeys = []
 | [], cs, us, he, hA => by simp at he; subst he; cases hA; exact ⟨.nil, rfl⟩
 | c :: caps, cs, us, he, hA => by
  simp only [List.mapM_cons, Option.bind_eq_bind, Option.pure_def] at he
  cases h1 : lendCap lb' c with
  | none => simp [h1] at he
  | some c1 =>
   cases h2 : caps.mapM (lendCap lb') with
   | none => simp [h1, h2] at he
   | some cs1 =>
    simp [h1, h2] at he
    subst he
    cases hA with
    | cons x y =>
     obtain ⟨g1, g2⟩ := lendCaps_sound h hb h2 y
     cases c with
     | d d => simp [lendCap] at h1; subst h1; exact ⟨.cons (Rd.mono x (fun _ _ _ => trivial)) g1, by simpa [capKeys] using g2⟩
     | rptr row o => simp [lendCap] at h1; subst h1; exact ⟨.cons (capdata_keep (c := .rptr row o) x rfl (fun _ _ _ => trivial)) g1, by simpa [capKeys] using g2⟩
     | ptr q o =>
      simp only [lendCap] at h1
      split at h1
      ·rename_i ty cs0 hq
       obtain ⟨ds, h3, rfl⟩ := Option.map_eq_some_iff.1 h1
       exact ⟨.cons (lendPtr_sound h hb hq h3 x) g1, by simpa [capKeys] using g2⟩
      ·cases h1
theorem lendVal_sound (h : Rel V X Z w0 N ρ ok lt lb a w) (hb : ∀ t x, lb' t = some x → lb t = some x) {c c' : C} {ks : List Key} (he : argVal lb' true c = some (c', ks)) {v : Value} (hv : CRel (Im V ρ lb) ρ ok w c v) :
    CRel (fun _ => True) ρ ok w c' v ∧ keysC c' = [] ∧ ks = [] := by
 have hs : ∀ b, b < w.heap.size → Im V ρ lb b → True := fun _ _ _ => trivial
 cases c with
 | d d => simp [argVal] at he; obtain ⟨rfl, rfl⟩ := he; exact ⟨Rd.mono hv hs, rfl, rfl⟩
 | zero => simp [argVal] at he; obtain ⟨rfl, rfl⟩ := he; exact ⟨hv, rfl, rfl⟩
 | rptr row o => simp [argVal] at he; obtain ⟨rfl, rfl⟩ := he; exact ⟨data_keep (ρ := ρ) (ok := ok) hv rfl hs, rfl, rfl⟩
 | dead => simp [argVal] at he; obtain ⟨rfl, rfl⟩ := he; exact ⟨hv, rfl, rfl⟩
 | own q =>
  simp only [argVal] at he
  cases h1 : toD lb' (.own q) with
  | none => simp [h1] at he
  | some p =>
   obtain ⟨d, k⟩ := p
   simp [h1] at he
   obtain ⟨rfl, rfl⟩ := he
   exact ⟨toD_sound h hb hs h1 (fun _ _ _ _ _ _ => trivial) hv, rfl, rfl⟩
 | arr q n z => simp [argVal] at he
 | mp q => simp [argVal] at he
 | fn g caps =>
  simp only [argVal, if_true] at he
  obtain ⟨cs, h1, h2⟩ := Option.map_eq_some_iff.1 he
  cases h2
  obtain ⟨us, u1, u2⟩ := hv
  obtain ⟨g1, g2⟩ := lendCaps_sound h hb h1 u2
  exact ⟨⟨us, u1, g1⟩, g2, rfl⟩
 | ptr q o' =>
  simp only [argVal, if_true] at he
  split at he
  ·rename_i ty cs hq
   obtain ⟨ds, h1, h2⟩ := Option.map_eq_some_iff.1 he
   cases h2
   exact ⟨lendPtr_sound h hb hq h1 hv, rfl, rfl⟩
  ·cases he
 | eptr q i o' =>
  simp only [argVal, if_true] at he
  split at he
  ·rename_i ty sz rows hq
   cases hrow : rows[i]? with
   | none => simp [hrow] at he
   | some row =>
    simp [hrow] at he
    obtain ⟨rfl, rfl⟩ := he
    refine ⟨?_, rfl, rfl⟩
    obtain ⟨b, o2, vs, e1, e2, e3⟩ := behind_sound h hb (c := .eptr q i o') (cs := row.map .d) (off := o') (by simp [behind, hq, hrow]) hv
    have hblt : row ≠ [] → b < w.heap.size := fun hne => by
     obtain ⟨x, xs, rfl⟩ := List.exists_cons_of_ne_nil hne
     obtain ⟨u, u1, _⟩ := e2.get (i := 0) (c := C.d x) (by simp)
     have := e3 0 u u1
     rcases Nat.lt_or_ge b w.heap.size with g | g
     ·exact g
     ·simp [World.cell?, Array.getElem?_eq_none g] at this
    have hb2 : b < w.heap.size := by
     obtain ⟨_, b', g1, g2⟩ := hv
     rw [e1] at g2
     have g3 : b = b' := by simpa using congrArg (fun v => match v with | Value.pointer (some ad) => ad.block | _ => 0) g2
     rw [g3]
     exact (h.lo q _ b' (hb _ _ hq) rfl g1).1
    refine ⟨b, o2, fun j => (vs[j]?).getD undef, e1, hb2, trivial, fun j d hj => ?_⟩
    obtain ⟨u, u1, u2⟩ := e2.get (c := C.d d) (by rw [List.getElem?_map, hj]; rfl)
    simp only [u1, Option.getD_some]
    exact ⟨e3 j u u1, Rd.mono u2 hs⟩
  ·cases he
theorem lendVals_sound (h : Rel V X Z w0 N ρ ok lt lb a w) (hb : ∀ t x, lb' t = some x → lb t = some x) : ∀ {cs cs' : List C} {ks : List Key} {vs : List Value}, argVals lb' true cs = some (cs', ks) → All2 (CRel (Im V ρ lb) ρ ok w) cs vs →
    All2 (CRel (fun _ => True) ρ ok w) cs' vs ∧ (∀ c ∈ cs', keysC c = []) ∧ ks = []
 | [], cs', ks, vs, he, hA => by simp [argVals] at he; obtain ⟨rfl, rfl⟩ := he; cases hA; exact ⟨.nil, by simp, rfl⟩
 | c :: cs, cs', ks, vs, he, hA => by
  unfold argVals at he
  cases h1 : argVal lb' true c with
  | none => simp [h1] at he
  | some p =>
   cases h2 : argVals lb' true cs with
   | none => simp [h1, h2] at he
   | some r =>
    obtain ⟨c1, k1⟩ := p
    obtain ⟨cs1, k2⟩ := r
    simp [h1, h2] at he
    obtain ⟨rfl, rfl⟩ := he
    cases hA with
    | cons x y =>
     obtain ⟨g1, g2, rfl⟩ := lendVal_sound h hb h1 x
     obtain ⟨g3, g4, rfl⟩ := lendVals_sound h hb h2 y
     exact ⟨.cons g1 g3, fun c hc => by rcases List.mem_cons.1 hc with rfl | hc; exact g2; exact g4 c hc, rfl⟩
theorem lendArgs_sound (h : Rel V X Z w0 N ρ ok lt lb a w) (hl : ∀ t x, lt' t = some x → lt t = some x) (hb : ∀ t x, lb' t = some x → lb t = some x) (D : Key → Key → Prop) : ∀ {i : Nat} {args : List Operand} {xs : List (Bool × List C)} {ks : List Key}, argsOf lt' lb' true args = some (xs, ks) →
    AL (CRel (fun _ => True) ρ ok w) ρ D i (xs.map fun (b, cs) => Arg.val b cs) (args.map a.eval) ∧ ks = []
 | i, [], xs, ks, he => by simp [argsOf] at he; obtain ⟨rfl, rfl⟩ := he; exact ⟨.nil, rfl⟩
 | i, x :: args, xs, ks, he => by
  unfold argsOf at he
  split at he
  ·rename_i b cs xs' ks' h1 h2
   split at he
   ·rename_i cs' k h3
    cases he
    obtain ⟨us, u1, u2⟩ := ev_sound h hl h1
    obtain ⟨g1, g2, rfl⟩ := lendVals_sound h hb h3 u1
    obtain ⟨g3, rfl⟩ := lendArgs_sound h hl hb D (i := i + 1) h2
    exact ⟨.val g2 ⟨us, g1, u2⟩ g3, rfl⟩
   ·cases he
  ·cases he
theorem AL.append {R : C → Value → Prop} {ρ : Key → Hd} {D : Key → Key → Prop} {i : Nat} {xs ys : List Arg} {vs us : List Value} (h : AL R ρ D i xs vs) (k : AL R ρ D (i + xs.length) ys us) : AL R ρ D i (xs ++ ys) (vs ++ us) := by
 induction h with
 | nil => simpa using k
 | @val i b cs v xs vs hk h t ih => exact .val hk h (ih (by rw [List.length_cons, show i + (xs.length + 1) = i + 1 + xs.length by omega] at k; exact k))
 | @io i ty cs v xs vs q b h hg hv t ih => exact .io h hg hv (ih (by rw [List.length_cons, show i + (xs.length + 1) = i + 1 + xs.length by omega] at k; exact k))
theorem AL.caps {R : C → Value → Prop} {ρ : Key → Hd} {D : Key → Key → Prop} {cs : List C} {us : List Value} (h : All2 R cs us) : ∀ {i : Nat}, (∀ c ∈ cs, keysC c = []) → AL R ρ D i (cs.map fun c => Arg.val false [c]) us := by
 induction h with
 | nil => intro i _; exact .nil
 | @cons c v cs vs hc t ih => intro i hk; exact .val (by simpa using hk c (by simp)) ⟨[v], .cons hc .nil, by simp⟩ (ih fun c hc => hk c (by simp [hc]))
theorem scal_list {S S' : Nat → Prop} {ρ ρ' : Key → Hd} {ok ok' : Key → Prop} {w w' : World} {f : Key → Key} {cs : List C} {vs : List Value} (hs : cs.all scalC = true) (h : All2 (CRel S ρ ok w) cs vs) : All2 (CRel S' ρ' ok' w') (cs.map (renC f)) vs := by
 induction h with
 | nil => exact .nil
 | @cons c v cs vs x y ih =>
  simp only [List.all_cons, Bool.and_eq_true] at hs
  refine .cons ?_ (ih hs.2)
  cases c with
  | d d =>
   cases d with
   | v x' => obtain ⟨rfl, hx⟩ := Rd.val x; exact .v hx
   | sl sz rows => simp [scalC] at hs
  | zero => exact x
  | _ => simp [scalC] at hs
theorem effLend_sound (h : Rel V X Z w0 N ρ ok lt lb a w) (ho : ∀ q : Key, ok q → ok' q) (hd : ∀ k, o.dst = some k → k < N) (hl : ∀ t x, lt' t = some x → lt t = some x) (hb : ∀ t x, lb' t = some x → lb t = some x) {cur : Nat} {key : Nat → Key}
    {call : CallF} (hcall : CallOk P call) {c : Call} {f : Operand} {g : FuncId} (hop : o.op = .call c) (hc : c.callee = .value f) {caps : List C} (hf : calleeOf lt' f = some (g, caps)) (hbod : bodied P g = true) {xs0 : List (Bool × List C)} {ks : List Key} (hargs : argsOf lt' lb' true c.args.toList = some (xs0, ks)) {cs0 : List C} {ks0 : List Key} (hcaps : argVals lb' true caps = some (cs0, ks0)) {xs : List (Bool × List C)} (hxs : xs = xs0 ++ cs0.map fun c => (false, [c]))
    (he : effVal call true cur key g xs ks lb' = some e) (hn : e.needs = []) : o.wp P a w (Aft V X Z w0 N ok' lt lb o.dst e) Q := by
 unfold effVal at he
 split at he
 ·rename_i r hr
  split at he
  ·rename_i hcnd
   cases he
   obtain ⟨c1, c2, c6, c3, c4, c5⟩ := hcnd
   have hsc : r.scalars = true := by simpa using c6
   unfold ARes.scalars at hsc
   simp only [Bool.and_eq_true, List.isEmpty_iff] at hsc
   obtain ⟨us, hus, hall0⟩ := callee_sound h hl hf
   refine wp_call hop hc hus hbod ?_
   obtain ⟨hAL0, rfl⟩ := lendArgs_sound h hl hb (fun κ q => False) (i := 0) hargs
   obtain ⟨q1, q2, _⟩ := lendVals_sound h hb hcaps hall0
   have hAL : AL (CRel (fun _ => True) ρ ok w) ρ (fun _ _ => False) 0 (xs.map fun (b, cs) => Arg.val b cs) (c.args.toList.map a.eval ++ us) := by
    rw [hxs, List.map_append, List.map_map]
    exact hAL0.append (AL.caps q1 q2)
   generalize c.args.toList.map a.eval ++ us = vals at hAL ⊢
   have hRc : Rel (fun _ => False) (fun _ => False) ρ w vals.length ρ (fun q => q.2 < 1) (lk (argTm 0 (xs.map fun (b, cs) => Arg.val b cs))) (lk (argBx 0 (xs.map fun (b, cs) => Arg.val b cs) ++ [])) ⟨vals.toArray, []⟩ w := by
    rw [argBx_nil]
    refine ⟨by simp, rfl, fun t av ht => ?_, fun κ boxc hκ => (by cases hκ), fun κ1 b1 κ2 b2 b e1 => (by cases e1), fun κ boxc b hκ => (by cases hκ), Keep.refl _ _, ⟨fun b hv => hv.elim, h.va.gl.step h.fr fun b hx => hx.elim⟩, fun q hq => ⟨by omega, rfl⟩⟩
    obtain ⟨_, h2, h3⟩ := hAL.tm t av ht
    rw [Nat.sub_zero] at h2 h3
    refine ⟨h2, ?_⟩
    have e1 : vals.toArray.getD t undef = vals.getD t undef := by simp [Array.getD_eq_getD_getElem?]
    show AVRel _ av (vals.toArray.getD t undef)
    rw [e1]
    rcases h3 with ⟨b, cs, rfl, hk, us, u1, u2⟩ | ⟨q, b, rfl, hm, _⟩
    ·exact ⟨us, data_list u1 hk (fun b _ _ => ⟨fun h => h, fun q box hq => by cases hq⟩), u2⟩
    ·exact hm.elim
   refine (hcall g _ _ r hr _ _ _ ρ w _ (by simpa using hAL.length) hRc).mono ?_
   rintro e' w' ⟨v, ρ', rfl, hR⟩
   refine ⟨v, rfl, ρ, ?_⟩
   have hup : updB lb (takeBx (renK key r.bx 0) key r.bx 0 ++ shut cur lb' []) = lb := by rw [hsc.1]; rfl
   rw [hup]
   have hkeep : ∀ S : Nat → Prop, Keep S w w' := fun S => hR.fr.mono fun _ _ _ h => h
   refine h.step2 o.dst _ v hd (hkeep _) (fun _ _ h => h) (fun _ _ => rfl) ho ?_ (fun q box hq => .inl ⟨hq, fun hl b hb => (hkeep (fun _ => True)).block b (h.lo q box b hq hl hb).1 trivial⟩) h.ap (fun q box b hq hl hg => ⟨Nat.lt_of_lt_of_le (h.lo q box b hq hl hg).1 hR.fr.size, (h.lo q box b hq hl hg).2⟩) (h.fr.trans ((hkeep _).mono fun _ _ h => h))
   have h1 := (hR.tm 0 (resAV id r.vals) rfl).2
   have h2 : (⟨#[v], []⟩ : Act).tmps.getD 0 undef = v := rfl
   rw [h2] at h1
   have hall : ∀ b cs, (b, cs) ∈ r.vals → cs.all scalC = true := fun b cs hm => List.all_eq_true.1 hsc.2 (b, cs) hm
   by_cases hl1 : r.vals.length = 1
   ·obtain ⟨⟨b, cs⟩, hbc⟩ := List.length_eq_one_iff.1 hl1
    rw [hbc, resAV_id_one] at h1
    show AVRel _ (resAV (renK key r.bx 0) r.vals) v
    rw [hbc]
    obtain ⟨us, u1, u2⟩ := h1
    exact ⟨us, scal_list (hall b cs (by rw [hbc]; simp)) u1, u2⟩
   ·rw [resAV_id_tup hl1] at h1
    obtain ⟨us, u1, u2⟩ := h1
    have e1 : resAV (renK key r.bx 0) r.vals = .tup (r.vals.map fun (p : Bool × List C) => (p.1, p.2.map (renC (renK key r.bx 0)))) := by
     unfold resAV
     split
     ·rename_i hh; rw [hh] at hl1; simp at hl1
     ·rfl
    show AVRel _ (resAV (renK key r.bx 0) r.vals) v
    rw [e1]
    refine ⟨us, u1, ?_⟩
    have : ∀ {R : C → Value → Prop} {l : List (Bool × List C)} {us : List Value} (f : Key → Key), (∀ b cs, (b, cs) ∈ l → cs.all scalC = true) → (∀ cs vs, cs.all scalC = true → All2 R cs vs → All2 (CRel (Im V ρ lb) ρ ok' w') (cs.map (renC f)) vs) → Alls R l us → Alls (CRel (Im V ρ lb) ρ ok' w') (l.map fun (p : Bool × List C) => (p.1, p.2.map (renC f))) us := by
     intro R l us f hl hR hh
     induction hh with
     | nil => exact .nil
     | @cons b1 c1 v1 xs1 vs1 x y ih =>
      obtain ⟨us, u1, u2⟩ := x
      exact .cons ⟨us, hR _ _ (hl b1 c1 (List.mem_cons_self ..)) u1, u2⟩ (ih fun b cs hm => hl b cs (List.mem_cons_of_mem _ hm))
    exact this _ hall (fun cs vs hs hh => scal_list hs hh) u2
  ·cases he
 ·cases he
theorem ioCells_sound (h : Rel V X Z w0 N ρ ok lt lb a w) (hb : ∀ t (x : Nat × List (List D)), lb' t = some (.fz x.1 x.2) → lb t = some (.fz x.1 x.2)) : ∀ {n : Nat} {cs l : List C} {b : List (Key × Key × Box)} {m : Nat}, ioCells lb' n cs = some (l, b, m) →
    (∀ (ρc : Key → Hd) (okc : Key → Prop), (∀ x ∈ b, ρc x.2.1 = ρ x.1 ∧ okc x.2.1) → ∀ vs, All2 (CRel (Im V ρ lb) ρ ok w) cs vs → All2 (CRel (Im V ρ lb) ρc okc w) l vs) ∧ ∀ x ∈ b, lb' x.1 = some x.2.2 ∧ x.2.2.isSl = true
 | n, [], l, b, m, he => by
  simp [ioCells] at he
  obtain ⟨rfl, rfl, rfl⟩ := he
  exact ⟨fun _ _ _ vs hA => by cases hA; exact .nil, by simp⟩
 | n, c :: cs, l, b, m, he => by
  have plain : ∀ (r : List C × List (Key × Key × Box) × Nat), ioCells lb' n cs = some r → (c :: r.1, r.2.1, r.2.2) = (l, b, m) → keysC c = [] →
      (∀ (ρc : Key → Hd) (okc : Key → Prop), (∀ x ∈ b, ρc x.2.1 = ρ x.1 ∧ okc x.2.1) → ∀ vs, All2 (CRel (Im V ρ lb) ρ ok w) (c :: cs) vs → All2 (CRel (Im V ρ lb) ρc okc w) l vs) ∧ ∀ x ∈ b, lb' x.1 = some x.2.2 ∧ x.2.2.isSl = true := by
   intro r hr heq hk
   obtain ⟨l1, b1, m1⟩ := r
   cases heq
   obtain ⟨g1, g2⟩ := ioCells_sound h hb hr
   refine ⟨fun ρc okc hx vs hA => ?_, g2⟩
   cases hA with
   | cons x y => exact .cons (data_keep x hk (fun _ _ h => h)) (g1 ρc okc hx _ y)
  cases c with
  | own q =>
   simp only [ioCells] at he
   split at he
   ·rename_i sz rows hq
    cases hr : ioCells lb' n cs with
    | none => simp [hr] at he
    | some r =>
     obtain ⟨l1, b1, m1⟩ := r
     simp [hr] at he
     obtain ⟨rfl, rfl, rfl⟩ := he
     obtain ⟨g1, g2⟩ := ioCells_sound h hb hr
     refine ⟨fun ρc okc hx vs hA => ?_, g2⟩
     cases hA with
     | cons x y =>
      obtain ⟨_, rfl⟩ := x
      exact .cons (h.bx q _ (hb q (sz, rows) hq)).2 (g1 ρc okc hx _ y)
   ·rename_i ty sz rows hq
    cases hr : ioCells lb' (n + 1) cs with
    | none => simp [hr] at he
    | some r =>
     obtain ⟨l1, b1, m1⟩ := r
     simp [hr] at he
     obtain ⟨rfl, rfl, rfl⟩ := he
     obtain ⟨g1, g2⟩ := ioCells_sound h hb hr
     refine ⟨fun ρc okc hx vs hA => ?_, fun x hx => ?_⟩
     ·cases hA with
      | cons x y =>
       obtain ⟨_, hv⟩ := x
       obtain ⟨k1, k2⟩ := hx (q, (1000 + n, 0), .sl ty sz rows) (by simp)
       exact .cons ⟨k2, by rw [k1]; exact hv⟩ (g1 ρc okc (fun x hx' => hx x (by simp [hx'])) _ y)
     ·rcases List.mem_cons.1 hx with rfl | hx
      ·exact ⟨hq, rfl⟩
      ·exact g2 x hx
   ·cases he
  | ptr q o => simp [ioCells] at he
  | eptr q i o => simp [ioCells] at he
  | arr q n z => simp [ioCells] at he
  | mp q => simp [ioCells] at he
  | fn g caps => simp [ioCells] at he
  | d d => simp only [ioCells] at he; obtain ⟨r, h1, h2⟩ := Option.map_eq_some_iff.1 he; exact plain r h1 h2 rfl
  | zero => simp only [ioCells] at he; obtain ⟨r, h1, h2⟩ := Option.map_eq_some_iff.1 he; exact plain r h1 h2 rfl
  | rptr row o => simp only [ioCells] at he; obtain ⟨r, h1, h2⟩ := Option.map_eq_some_iff.1 he; exact plain r h1 h2 rfl
  | dead => simp only [ioCells] at he; obtain ⟨r, h1, h2⟩ := Option.map_eq_some_iff.1 he; exact plain r h1 h2 rfl
theorem ioArgs_sound (h : Rel V X Z w0 N ρ ok lt lb a w) (hl : ∀ t x, lt' t = some x → lt t = some x) (hb : ∀ t x, lb' t = some x → lb t = some x) {cur : Nat} {kt : List Key} (hkt : kt.filter (·.2 != cur) = []) : ∀ {i n : Nat} {args : List Operand} {xs : List Arg} {ks : List Key} {qs : List (Key × TypeId)} {bs : List (Key × Key × Box)}, ioArgs lt' lb' n args = some (xs, ks, qs, bs) → (∀ k ∈ ks, k ∈ kt) →
    (∀ D : Key → Key → Prop, (∀ p ∈ zipIo i xs qs, D p.1 p.2) → AL (CRel (Im V ρ (updB lb (shut cur lb' kt))) ρ ok w) ρ D i xs (args.map a.eval)) ∧
    (∀ κ boxc, (κ, boxc) ∈ argBx i xs → ∃ q ty cs cs' b n m, (κ, q) ∈ zipIo i xs qs ∧ lb' q = some (.st ty cs) ∧ boxc = .st ty cs' ∧ ioCells lb' n cs = some (cs', b, m) ∧ ∀ x ∈ b, x ∈ bs) ∧
    (∀ x ∈ bs, lb' x.1 = some x.2.2 ∧ x.2.2.isSl = true) ∧ (∀ κ q, (κ, q) ∈ zipIo i xs qs → ∃ ty cs, lb' q = some (.st ty cs)) ∧
    (xs.filter isIo).length = qs.length ∧ (∀ (j : Nat), ∀ q ty, qs[j]? = some (q, ty) → ∀ t cs, (xs.filter isIo)[j]? = some (.io t cs) → t = ty)
 | i, n, [], xs, ks, qs, bs, he, hks => by
  simp [ioArgs] at he
  obtain ⟨rfl, rfl, rfl, rfl⟩ := he
  exact ⟨fun _ _ => .nil, by simp [argBx], by simp, by simp [zipIo], rfl, by simp⟩
 | i, n, x :: args, xs, ks, qs, bs, he, hks => by
  unfold ioArgs at he
  split at he
  ·rename_i q hx
   split at he
   ·rename_i ty cs hq
    split at he
    ·rename_i l b m hcells
     obtain ⟨⟨as', ks', qs', bs'⟩, h1, h2⟩ := Option.map_eq_some_iff.1 he
     cases h2
     obtain ⟨g1, g2, g3, g4, g5, g6⟩ := ioArgs_sound h hl hb hkt (i := i + 1) h1 hks
     have hv := slot1_sound (av := .one false [.ptr q 0]) rfl (ev_sound h hl hx)
     obtain ⟨bl, vs, y1, y2, y3⟩ := (h.bx q _ (hb _ _ hq)).2
     obtain ⟨_, b', y4, hv'⟩ := hv
     have hcb := (ioCells_sound (lb := lb) h (lb' := lb') (fun t x hh => hb _ _ hh) hcells).2
     refine ⟨fun D hD => .io (q := q) (b := b') (hD ((i, 0), q) (by simp [zipIo])) y4 hv' (g1 D fun p hp => hD p (by simp only [zipIo, List.mem_cons]; exact .inr hp)), fun κ boxc hm => ?_, fun x hx => ?_, fun κ q' hm => ?_, by simp [List.filter_cons, isIo, g5], fun j q' ty' hq' t cs' hx' => ?_⟩
     ·simp only [argBx, List.mem_cons] at hm
      rcases hm with hm | hm
      ·cases hm
       exact ⟨q, ty, cs, l, b, n, m, by simp [zipIo], hq, rfl, hcells, fun x hx => by simp [hx]⟩
      ·obtain ⟨q2, ty2, cs2, cs3, b2, n2, m2, k1, k2, k3, k4, k5⟩ := g2 κ boxc hm
       exact ⟨q2, ty2, cs2, cs3, b2, n2, m2, by simp only [zipIo, List.mem_cons]; exact .inr k1, k2, k3, k4, fun x hx => List.mem_append_right _ (k5 x hx)⟩
     ·rcases List.mem_append.1 hx with hx | hx
      ·exact hcb x hx
      ·exact g3 x hx
     ·simp only [zipIo, List.mem_cons] at hm
      rcases hm with hm | hm
      ·cases hm; exact ⟨ty, cs, hq⟩
      ·exact g4 κ q' hm
     ·have hfi : (Arg.io ty l :: as').filter isIo = Arg.io ty l :: as'.filter isIo := rfl
      rw [hfi] at hx'
      cases j with
      | zero =>
       simp at hq' hx'
       exact hx'.1.symm.trans hq'.2
      | succ j => exact g6 j q' ty' (by simpa using hq') t cs' (by simpa using hx')
    ·cases he
   ·cases he
  ·rename_i b cs hnot hx
   split at he
   ·rename_i cs' k hav
    obtain ⟨⟨as', ks', qs', bs'⟩, h1, h2⟩ := Option.map_eq_some_iff.1 he
    cases h2
    obtain ⟨g1, g2, g3, g4, g5, g6⟩ := ioArgs_sound h hl hb hkt (i := i + 1) h1 (fun k hk => hks k (by simp [hk]))
    obtain ⟨us, u1, u2⟩ := ev_sound h hl hx
    obtain ⟨v1, v2⟩ := argVals_sound h hb hkt hav (fun k hk => hks k (by simp [hk])) u1
    refine ⟨fun D hD => .val v2 ⟨us, v1, u2⟩ (g1 D hD), g2, g3, g4, by simpa [List.filter_cons, isIo] using g5, fun j q' ty' hq' t cs'' hx' => g6 j q' ty' hq' t cs'' (by simpa [List.filter_cons, isIo] using hx')⟩
   ·cases he
  ·cases he
theorem Rel.kept {lb2 lb3 : Key → Option Box} (h : Rel V X Z w0 N ρ ok lt lb2 a w) (m : Key → Key)
    (hb : ∀ q box, lb3 q = some box → ok q ∧ ∃ box', lb2 (m q) = some box' ∧ ρ (m q) = ρ q ∧ box'.live = box.live ∧ ∀ S, BoxRel S ρ ok w (m q) box' → BoxRel S ρ ok w q box)
    (hm : ∀ q q' box box', lb3 q = some box → lb3 q' = some box' → m q = m q' → q = q') : Rel V X Z w0 N ρ ok lt lb3 a w := by
 have him : ∀ b, Im V ρ lb2 b → Im V ρ lb3 b := fun b hi => ⟨hi.1, fun q box hq hl hg => by
  obtain ⟨_, box', e1, e2, e3, _⟩ := hb q box hq
  exact hi.2 (m q) box' e1 (by rw [e3]; exact hl) (by rw [e2]; exact hg)⟩
 refine ⟨h.size, h.defers, fun t av ht => ⟨(h.tm t av ht).1, (h.tm t av ht).2.imp fun c v hc => hc.keep (Keep.refl _ _) (fun b _ hi => him b hi) (fun _ _ => rfl) (fun _ h => h)⟩, fun q box hq => ?_, fun q box q' box' b h1 l1 h2 l2 g1 g2 => ?_, fun q box b hq hl hg => ?_, h.fr, h.va, h.zz⟩
 ·obtain ⟨o, box', e1, e2, e3, e4⟩ := hb q box hq
  exact ⟨o, e4 _ ((h.bx (m q) box' e1).2.keep (Keep.refl _ _) (fun b _ hi => him b hi) (fun _ _ => rfl) (fun _ h => h) (h.bx _ _ e1).1 (fun _ _ _ => rfl))⟩
 ·obtain ⟨_, x, e1, e2, e3, _⟩ := hb q box h1
  obtain ⟨_, y, k1, k2, k3, _⟩ := hb q' box' h2
  exact hm q q' box box' h1 h2 (h.ap (m q) x (m q') y b e1 (by rw [e3]; exact l1) k1 (by rw [k3]; exact l2) (by rw [e2]; exact g1) (by rw [k2]; exact g2))
 ·obtain ⟨_, x, e1, e2, e3, _⟩ := hb q box hq
  exact h.lo (m q) x b e1 (by rw [e3]; exact hl) (by rw [e2]; exact hg)
def mapK (key : Nat → Key) : List (Key × Key × Box) → Nat → List (Key × Key)
 | [], _ => []
 | x :: bs, j => (x.1, key j) :: mapK key bs (j + 1)
theorem zipK_lk (key : Nat → Key) : ∀ {bs : List (Key × Key × Box)} {bx : List (Key × Box)} {n : Nat} {q : Key} {ob : Option Box}, lk (zipK bs bx) q = some ob → ∃ j x y, lk (mapK key bs n) q = some (key (n + j)) ∧ bs[j]? = some x ∧ bx[j]? = some y ∧ q = x.1 ∧ ob = some y.2
 | [], bx, n, q, ob, h => by cases bx <;> cases h
 | x :: bs, [], n, q, ob, h => by cases h
 | x :: bs, y :: bx, n, q, ob, h => by
  by_cases e : q = x.1
  ·rw [show lk (zipK (x :: bs) (y :: bx)) q = some (some y.2) from if_pos e] at h
   cases h
   exact ⟨0, x, y, if_pos e, rfl, rfl, e, rfl⟩
  ·rw [show lk (zipK (x :: bs) (y :: bx)) q = lk (zipK bs bx) q from if_neg e] at h
   obtain ⟨j, x', y', h1, h2, h3, h4, h5⟩ := zipK_lk key (n := n + 1) h
   refine ⟨j + 1, x', y', ?_, by simpa using h2, by simpa using h3, h4, h5⟩
   rw [show lk (mapK key (x :: bs) n) q = lk (mapK key bs (n + 1)) q from if_neg e, h1]
   congr 2; omega
theorem zipK_none : ∀ {bs : List (Key × Key × Box)} {bx : List (Key × Box)} {q : Key}, bx.length = bs.length → lk (zipK bs bx) q = none → q ∉ bs.map (·.1)
 | [], bx, q, _, _ => by simp
 | x :: bs, [], q, hl, _ => by simp at hl
 | x :: bs, y :: bx, q, hl, h => by
  by_cases e : q = x.1
  ·rw [show lk (zipK (x :: bs) (y :: bx)) q = some (some y.2) from if_pos e] at h; cases h
  ·rw [show lk (zipK (x :: bs) (y :: bx)) q = lk (zipK bs bx) q from if_neg e] at h
   have := zipK_none (by simpa using hl) h
   simp only [List.map_cons, List.mem_cons, not_or]
   exact ⟨e, this⟩
theorem mapK_none (key : Nat → Key) : ∀ {bs : List (Key × Key × Box)} {n : Nat} {q : Key}, q ∉ bs.map (·.1) → lk (mapK key bs n) q = none
 | [], n, q, _ => rfl
 | x :: bs, n, q, h => by
  simp only [List.map_cons, List.mem_cons, not_or] at h
  rw [show lk (mapK key (x :: bs) n) q = lk (mapK key bs (n + 1)) q from if_neg h.1]
  exact mapK_none key h.2
theorem takeBx_at (f : Key → Key) (key : Nat → Key) (hinj : ∀ i j, key i = key j → i = j) : ∀ {bx : List (Key × Box)} {n j : Nat} {y : Key × Box}, bx[j]? = some y → lk (takeBx f key bx n) (key (n + j)) = some (some (renBx f y.2))
 | [], n, j, y, h => by simp at h
 | (k, b) :: r, n, 0, y, h => by simp at h; subst h; exact if_pos rfl
 | (k, b) :: r, n, j + 1, y, h => by
  have hk : key (n + (j + 1)) ≠ key n := fun e' => by have := hinj _ _ e'; omega
  rw [show lk (takeBx f key ((k, b) :: r) n) (key (n + (j + 1))) = lk (takeBx f key r (n + 1)) (key (n + (j + 1))) from if_neg hk, show n + (j + 1) = n + 1 + j by omega]
  exact takeBx_at f key hinj (by simpa using h)
theorem bk_mem : ∀ {bs : List (Key × Key × Box)} {κ : Key}, κ ∈ bs.map (·.2.1) → (κ, bk bs κ) ∈ bs.map fun x => (x.2.1, x.1)
 | [], κ, h => by simp at h
 | x :: bs, κ, h => by
  unfold bk
  by_cases e : κ = x.2.1
  ·rw [if_pos e]; subst e; exact List.mem_cons_self ..
  ·rw [if_neg e]
   rw [List.map_cons, List.mem_cons] at h
   rw [List.map_cons]
   exact List.mem_cons_of_mem _ (bk_mem (h.resolve_left e))
theorem bsNone_lk {bs : List (Key × Key × Box)} {q : Key} (h : q ∉ bs.map (·.1)) : lk (bs.map fun x => (x.1, (none : Option Box))) q = none := by
 induction bs with
 | nil => rfl
 | cons x bs ih =>
  simp only [List.map_cons, List.mem_cons, not_or] at h
  rw [show lk ((x :: bs).map fun x => (x.1, (none : Option Box))) q = lk (bs.map fun x => (x.1, (none : Option Box))) q from if_neg h.1]
  exact ih h.2
theorem keptIo_at {bs : List (Key × Key × Box)} {lb : Key → Option Box} (f : Key → Key) : ∀ {qs : List (Key × TypeId)} {ios : List (List C)} {q : Key}, keptIo bs lb qs ios = true → q ∈ qs.map (·.1) → ∃ ty cs cs', lk (putIo f qs ios) q = some (some (.st ty (cs'.map (renC f)))) ∧ lb q = some (.st ty cs) ∧ sameOwn bs cs cs' = true
 | [], ios, q, _, hm => by simp at hm
 | (k, ty) :: qs, [], q, h, hm => by simp [keptIo] at h
 | (k, ty) :: qs, cs' :: ios, q, h, hm => by
  simp only [keptIo, Bool.and_eq_true] at h
  by_cases e : q = k
  ·subst e
   obtain ⟨h1, _⟩ := h
   split at h1
   ·rename_i ty' cs hq
    simp only [Bool.and_eq_true, decide_eq_true_eq] at h1
    obtain ⟨rfl, h2⟩ := h1
    exact ⟨_, cs, cs', if_pos rfl, hq, h2⟩
   ·cases h1
  ·simp only [List.map_cons, List.mem_cons] at hm
   obtain ⟨ty1, c1, c2, g1, g2, g3⟩ := keptIo_at f h.2 (hm.resolve_left e)
   exact ⟨ty1, c1, c2, by rw [show lk (putIo f ((k, ty) :: qs) (cs' :: ios)) q = lk (putIo f qs ios) q from if_neg e]; exact g1, g2, g3⟩
theorem putIo_no (f : Key → Key) : ∀ {qs : List (Key × TypeId)} {ios : List (List C)} {q : Key}, q ∉ qs.map (·.1) → lk (putIo f qs ios) q = none
 | [], ios, q, h => by cases ios <;> rfl
 | (k, ty) :: qs, [], q, h => rfl
 | (k, ty) :: qs, cs :: ios, q, h => by
  simp only [List.map_cons, List.mem_cons, not_or] at h
  rw [show lk (putIo f ((k, ty) :: qs) (cs :: ios)) q = lk (putIo f qs ios) q from if_neg h.1]
  exact putIo_no f h.2
theorem sameOwn_cells {S : Nat → Prop} {bs : List (Key × Key × Box)} (f : Key → Key) (hx : ∀ κ, κ ∈ bs.map (·.2.1) → ok (bk bs κ) ∧ ρ (f κ) = ρ (bk bs κ)) : ∀ {cs cs' : List C} {vs : List Value}, sameOwn bs cs cs' = true → All2 (CRel S ρ ok w) (cs'.map (renC f)) vs → All2 (CRel S ρ ok w) cs vs
 | [], [], vs, _, h => h
 | [], _ :: _, vs, hs, h => by simp [sameOwn] at hs
 | c :: cs, [], vs, hs, h => by cases c <;> simp [sameOwn] at hs
 | c :: cs, c' :: cs', vs, hs, h => by
  cases c with
  | own q =>
   cases c' with
   | own κ =>
    simp only [sameOwn, Bool.and_eq_true, decide_eq_true_eq] at hs
    obtain ⟨⟨h1, h2⟩, h3⟩ := hs
    have h2 := List.contains_iff_mem.1 h2
    cases h with
    | cons x y =>
     refine .cons ?_ (sameOwn_cells f hx h3 y)
     obtain ⟨_, hv⟩ := x
     obtain ⟨k1, k2⟩ := hx κ h2
     rw [h1] at k1 k2
     exact ⟨k1, by rw [← k2]; exact hv⟩
   | _ => simp [sameOwn] at hs
  | _ => simp [sameOwn] at hs
theorem effIo_sound (h : Rel V X Z w0 N ρ ok lt lb a w) (ho : ∀ q : Key, ok q → ok' q) (hd : ∀ k, o.dst = some k → k < N) (hl : ∀ t x, lt' t = some x → lt t = some x) (hb : ∀ t x, lb' t = some x → lb t = some x) {cur : Nat} {key : Nat → Key} (hinj : ∀ i j, key i = key j → i = j) (hkey : ∀ j, j < 64 → ¬ ok (key j) ∧ ok' (key j))
    {call : CallF} (hcall : CallOk P call) {c : Call} {f : Operand} {g : FuncId} (hop : o.op = .call c) (hc : c.callee = .value f) (hf : calleeOf lt' f = some (g, [])) (hbod : bodied P g = true) {xs : List Arg} {ks : List Key} {qs : List (Key × TypeId)} {bs : List (Key × Key × Box)} (hargs : ioArgs lt' lb' 0 c.args.toList = some (xs, ks, qs, bs))
    (he : effIo call cur key g xs ks qs bs lb' = some e) (hn : e.needs = []) : o.wp P a w (Aft V X Z w0 N ok' lt lb o.dst e) Q := by
 unfold effIo at he
 split at he
 ·rename_i hchk
  obtain ⟨d1, d2, d3, d4⟩ := hchk
  split at he
  ·rename_i r hr
   split at he
   ·rename_i hcnd
    obtain ⟨c1, c2, c3, c4, c5⟩ := hcnd
    obtain ⟨us, hus, hall⟩ := callee_sound h hl hf
    cases hall
    refine wp_call hop hc hus hbod ?_
    rw [List.append_nil]
    have hn : (ks.filter (·.2 != cur)) = [] := by
     split at he
     ·cases he; exact hn
     ·split at he
      ·cases he; exact hn
      ·cases he
    have hsh := shut_Shut (lb := lb) hb cur ks
    have hR := h.shut hsh
    obtain ⟨g1, g2, g3, g4, g5, g6⟩ := ioArgs_sound h hl hb hn (i := 0) hargs (fun k hk => hk)
    have hnk : ∀ x ∈ bs, x.1 ∉ ks := fun x hx hm => by
     have := List.all_eq_true.1 d3 x.1 hm
     have h2 : (bs.map (·.1)).contains x.1 = true := List.contains_iff_mem.2 (List.mem_map.2 ⟨x, hx, rfl⟩)
     rw [h2] at this
     cases this
    have hkeep : ∀ q box, lb' q = some box → (box.isSl = true → q ∉ ks) → updB lb (shut cur lb' ks) q = some box := fun q box hq hns => by
     rcases shut_lk cur lb' ks q with h0 | ⟨ty, sz, rows, h1, h2⟩
     ·unfold updB; rw [h0]; exact hb _ _ hq
     ·exfalso
      rw [hq] at h1
      cases h1
      have hns' := hns rfl
      have key0 : ∀ (l : List Key), q ∉ l → lk (shut cur lb' l) q = none := by
       intro l
       induction l with
       | nil => intro _; rfl
       | cons k l ih =>
        intro hm
        have ih' := ih (fun h => hm (by simp [h]))
        have hne : q ≠ k := fun h => hm (by simp [h])
        unfold shut at ih' ⊢
        by_cases hcc : k.2 == cur
        ·simp only [List.filter_cons, hcc, if_true, List.filterMap_cons]
         split
         ·exact ih'
         ·rename_i x hx
          split at hx
          ·cases hx; unfold lk; rw [if_neg hne]; exact ih'
          ·cases hx
        ·simp only [List.filter_cons, hcc]; exact ih'
      rw [key0 ks hns'] at h2
      cases h2
    have hAL := g1 (fun κ q => (κ, q) ∈ dictOf xs qs bs) (fun p hp => List.mem_append_left _ hp)
    have hAA : ArgsAt V ρ ok (updB lb (shut cur lb' ks)) w xs qs bs (c.args.toList.map a.eval) := by
     refine ⟨hAL.length, fun i av hi => ?_, fun κ boxc hm => ?_, fun κ q hm => ?_⟩
     ·obtain ⟨_, h2, h3⟩ := hAL.tm i av hi
      rw [Nat.sub_zero] at h2 h3
      refine ⟨h2, ?_⟩
      have e1 : (c.args.toList.map a.eval).toArray.getD i undef = (c.args.toList.map a.eval).getD i undef := by simp [Array.getD_eq_getD_getElem?]
      rw [e1]
      rcases h3 with ⟨b, cs, h4, h5, us, u1, u2⟩ | h3
      ·exact .inl ⟨b, cs, h4, fun _ _ _ => ⟨us, data_list u1 h5 (fun _ _ h => h), u2⟩⟩
      ·exact .inr h3
     ·rcases List.mem_append.1 hm with hm | hm
      ·obtain ⟨q, ty, cs, cs', b, n, m, k1, k2, k3, k4, k5⟩ := g2 κ boxc hm
       refine ⟨q, .st ty cs, List.mem_append_left _ k1, hkeep q _ k2 (fun hh => by simp [Box.isSl] at hh), rfl, by rw [k3]; rfl, .inr (.inr ⟨ty, cs, cs', rfl, k3, fun ρc okc hx vs hvs => ?_⟩)⟩
       exact (ioCells_sound hR (lb' := lb') (fun t x hh => hkeep t _ hh (fun hh => by simp [Box.isSl] at hh)) k4).1 ρc okc (fun x hxm => hx x.2.1 x.1 (List.mem_append_right _ (List.mem_map.2 ⟨x, k5 x hxm, rfl⟩))) vs hvs
      ·obtain ⟨x, hx1, hx2⟩ := List.mem_map.1 hm
       obtain ⟨k1, k2⟩ := g3 x hx1
       have e2 : x.2 = (κ, boxc) := hx2
       have e3 : x.2.1 = κ := by rw [e2]
       have e4 : x.2.2 = boxc := by rw [e2]
       rw [e4] at k1 k2
       refine ⟨x.1, boxc, List.mem_append_right _ (List.mem_map.2 ⟨x, hx1, by rw [e3]⟩), hkeep x.1 _ k1 (fun _ => hnk x hx1), ?_, ?_, .inl ⟨rfl, .inl k2⟩⟩ <;> (cases boxc <;> simp [Box.isSl] at k2 <;> rfl)
     ·rcases List.mem_append.1 hm with hm | hm
      ·obtain ⟨ty, cs, k1⟩ := g4 κ q hm
       exact ⟨.st ty cs, hkeep q _ k1 (fun hh => by simp [Box.isSl] at hh), rfl⟩
      ·obtain ⟨x, hx1, hx2⟩ := List.mem_map.1 hm
       cases hx2
       obtain ⟨k1, k2⟩ := g3 x hx1
       refine ⟨x.2.2, hkeep x.1 _ k1 (fun _ => hnk x hx1), ?_⟩
       cases hbx : x.2.2 <;> rw [hbx] at k2 <;> simp [Box.isSl] at k2
       rfl
    refine (call_sound hR ho hinj hkey hAA d1 d2 (fun κ q hm => ?_) (fun n hn' => by rw [← g5]; exact hn') g6 (hcall g _ _ r hr) c1 c2 c3 c4 c5 o.dst hd).mono ?_
    ·have := List.all_eq_true.1 d4 (κ, q) hm
     simpa using this
    ·rintro e' w' ⟨v, rfl, ρ', hfin, hpo, hpk⟩
     refine ⟨v, rfl, ρ', ?_⟩
     cases hkp : r.kp with
     | true =>
      rw [hkp] at he
      simp only at he
      split at he
      ·rename_i hko
       cases he
       unfold keptOk at hko
       simp only [Bool.and_eq_true, decide_eq_true_eq] at hko
       obtain ⟨ki, kb, ksl⟩ := hko
       have hll : r.bx.length = bs.length := by have := congrArg List.length kb; simpa using this
       have hat : ∀ (j : Nat) (x : Key × Key × Box) (y : Key × Box), bs[j]? = some x → r.bx[j]? = some y → y.1 = x.2.1 := fun j x y hx hy => by
        have h1 : (r.bx.map (·.1))[j]? = some y.1 := by rw [List.getElem?_map, hy]; rfl
        rw [kb, List.getElem?_map, hx] at h1
        exact (Option.some.inj h1).symm
       have hdi : ∀ (j : Nat) (x : Key × Key × Box), bs[j]? = some x → (x.2.1, x.1) ∈ dictOf xs qs bs := fun j x hx => List.mem_append_right _ (List.mem_map.2 ⟨x, List.mem_of_getElem? hx, rfl⟩)
       have hok : ∀ κ q, (κ, q) ∈ dictOf xs qs bs → ok q := fun κ q hm => by
        obtain ⟨bx', b1, _⟩ := hAA.old κ q hm
        exact (hR.bx q bx' b1).1
       have hnk' : ∀ (j : Nat) q, j < r.bx.length → ok q → ¬ q = key j := fun j q hj hq e => (hkey j (by omega)).1 (e ▸ hq)
       have e3 : updB lb (zipK bs r.bx ++ shut cur lb' ks) = updB (updB lb (shut cur lb' ks)) (zipK bs r.bx) := by
        funext q
        unfold updB
        rw [lk_append]
        cases lk (zipK bs r.bx) q <;> rfl
       show Rel V X Z w0 N ρ' ok' _ (updB lb (zipK bs r.bx ++ shut cur lb' ks)) _ _
       rw [e3]
       have hcase : ∀ q box, updB (updB lb (shut cur lb' ks)) (zipK bs r.bx) q = some box → (∃ j x y, lk (mapK key bs 0) q = some (key j) ∧ bs[j]? = some x ∧ r.bx[j]? = some y ∧ q = x.1 ∧ box = y.2) ∨ (q ∉ bs.map (·.1) ∧ lk (mapK key bs 0) q = none ∧ updB lb (shut cur lb' ks) q = some box) := by
        intro q box hq
        cases hz : lk (zipK bs r.bx) q with
        | some ob =>
         obtain ⟨j, x, y, h1, h2, h3, h4, h5⟩ := zipK_lk key (n := 0) hz
         rw [Nat.zero_add] at h1
         have hq' : (match lk (zipK bs r.bx) q with | some ob => ob | none => updB lb (shut cur lb' ks) q) = some box := hq
         rw [hz] at hq'
         subst h5
         cases hq'
         exact .inl ⟨j, x, y, h1, h2, h3, h4, rfl⟩
        | none =>
         have hq' : (match lk (zipK bs r.bx) q with | some ob => ob | none => updB lb (shut cur lb' ks) q) = some box := hq
         rw [hz] at hq'
         have := zipK_none hll hz
         exact .inr ⟨this, mapK_none key this, hq'⟩
       refine hfin.kept (fun q => match lk (mapK key bs 0) q with | some k => k | none => q) (fun q box hq => ?_) (fun q q' box box' hq hq' hm => ?_)
       ·rcases hcase q box hq with ⟨j, x, y, h1, h2, h3, rfl, rfl⟩ | ⟨h1, h2, h3⟩
        ·have hd1 := hdi j x h2
         have hy := hat j x y h2 h3
         have hp0 := hpk j y.1 y.2 x.1 h3 (by rw [hy]; exact hd1)
         have hp : ρ' (key j) = ρ' x.1 ∧ j < 64 := ⟨hp0.1.trans (hpo _ (hok _ _ hd1)).symm, hp0.2⟩
         have hjl : j < r.bx.length := by
          rcases Nat.lt_or_ge j r.bx.length with g | g
          ·exact g
          ·rw [List.getElem?_eq_none g] at h3; cases h3
         refine ⟨ho _ (hok _ _ hd1), renBx (renK key r.bx 0) y.2, ?_, ?_, renBx_live _ _, ?_⟩
         ·simp only [h1]
          have hno : lk (putIo (renK key r.bx 0) qs r.ios) (key j) = none := putIo_no _ (fun hm => by
           obtain ⟨ty, cs, cs', g1, g2, g3⟩ := keptIo_at (renK key r.bx 0) ki hm
           exact (hkey j (by omega)).1 (h.bx _ _ (hb _ _ g2)).1)
          have ht := takeBx_at (renK key r.bx 0) key hinj (n := 0) h3
          rw [Nat.zero_add] at ht
          show (match lk (putIo (renK key r.bx 0) qs r.ios ++ (takeBx (renK key r.bx 0) key r.bx 0 ++ bs.map fun x => (x.1, (none : Option Box)))) (key j) with | some ob => ob | none => _) = _
          rw [lk_append, hno]
          simp only
          rw [lk_append, ht]
         ·simp only [h1]; exact hp.1
         ·simp only [h1]
          intro S hS
          have hsl := List.all_eq_true.1 ksl y (List.mem_of_getElem? h3)
          cases hy2 : y.2 with
          | sl ty sz rows =>
           rw [hy2] at hS
           have hS : BoxRel S ρ' ok' w' (key j) (.sl ty sz rows) := hS
           simp only [BoxRel] at hS ⊢
           rw [hp.1] at hS
           exact hS
          | _ => rw [hy2] at hsl; simp [Box.isSl] at hsl
        ·simp only [h2]
         have hoq := (hR.bx q box h3).1
         by_cases hqs : q ∈ qs.map (·.1)
         ·obtain ⟨ty, cs, cs', g1, g2, g3⟩ := keptIo_at (renK key r.bx 0) ki hqs
          have hk2 := hkeep q _ g2 (fun hh => by simp [Box.isSl] at hh)
          rw [hk2] at h3
          cases h3
          refine ⟨ho q hoq, .st ty (cs'.map (renC (renK key r.bx 0))), ?_, trivial, rfl, fun S hS => ?_⟩
          ·show (match lk (putIo (renK key r.bx 0) qs r.ios ++ (takeBx (renK key r.bx 0) key r.bx 0 ++ bs.map fun x => (x.1, (none : Option Box)))) q with | some ob => ob | none => _) = _
           rw [lk_append, g1]
          ·obtain ⟨b, vs, y1, y2, y3⟩ := hS
           refine ⟨b, vs, y1, y2, sameOwn_cells (renK key r.bx 0) (fun κ hκ => ?_) g3 y3⟩
           have hmk : (κ, bk bs κ) ∈ dictOf xs qs bs := by
            exact List.mem_append_right _ (bk_mem hκ)
           have hκ2 : κ ∈ r.bx.map (·.1) := by rw [kb]; exact hκ
           obtain ⟨y, hy1, hy2⟩ := List.mem_map.1 hκ2
           obtain ⟨nd1, nd2, nd3⟩ := nodup_append (by simpa using c4)
           obtain ⟨j, k1, k2, k3, _⟩ := renK_mem (renK key r.bx 0) key hinj (n := 0) (κ := y.1) (box := y.2) nd2 hy1
           rw [Nat.zero_add] at k1
           have hp := hpk j y.1 y.2 (bk bs κ) k3 (by rw [hy2]; exact hmk)
           rw [hy2] at k1
           rw [k1]
           exact ⟨ho _ (hok _ _ hmk), hp.1.trans (hpo _ (hok _ _ hmk)).symm⟩
         ·refine ⟨ho q hoq, box, ?_, trivial, rfl, fun S hS => hS⟩
          have hno : lk (putIo (renK key r.bx 0) qs r.ios) q = none := putIo_no _ hqs
          have hnt : lk (takeBx (renK key r.bx 0) key r.bx 0) q = none := by
           cases ht : lk (takeBx (renK key r.bx 0) key r.bx 0) q with
           | none => rfl
           | some ob =>
            obtain ⟨j, κ, box', g1, g2, g3⟩ := takeBx_lk (renK key r.bx 0) key ht
            rw [Nat.zero_add] at g1
            have hjl : j < r.bx.length := by
             rcases Nat.lt_or_ge j r.bx.length with g | g
             ·exact g
             ·rw [List.getElem?_eq_none g] at g2; cases g2
            exact absurd g1 (hnk' j q hjl hoq)
          show (match lk (putIo (renK key r.bx 0) qs r.ios ++ (takeBx (renK key r.bx 0) key r.bx 0 ++ bs.map fun x => (x.1, (none : Option Box)))) q with | some ob => ob | none => _) = _
          rw [lk_append, hno]
          simp only
          rw [lk_append, hnt]
          simp only
          rw [bsNone_lk h1]
          exact h3
       ·have hjl : ∀ (j : Nat) (y : Key × Box), r.bx[j]? = some y → j < r.bx.length := fun j y h3 => by
          rcases Nat.lt_or_ge j r.bx.length with g | g
          ·exact g
          ·rw [List.getElem?_eq_none g] at h3; cases h3
        rcases hcase q box hq with ⟨j, x, y, h1, h2, h3, rfl, rfl⟩ | ⟨h1, h2, h3⟩ <;> rcases hcase q' box' hq' with ⟨j', x', y', k1, k2, k3, rfl, rfl⟩ | ⟨k1, k2, k3⟩
        ·simp only [h1, k1] at hm
         have := hinj _ _ hm
         subst this
         rw [h2] at k2
         cases k2
         rfl
        ·simp only [h1, k2] at hm
         exact absurd hm.symm (hnk' j _ (hjl j y h3) (hR.bx _ _ k3).1)
        ·simp only [h2, k1] at hm
         exact absurd hm (hnk' j' _ (hjl j' y' k3) (hR.bx _ _ h3).1)
        ·simp only [h2, k2] at hm
         exact hm
      ·cases he
     | false =>
     rw [hkp] at he
     cases he
     have e1 : updB (updB lb (shut cur lb' ks)) (putIo (renK key r.bx 0) qs r.ios ++ (takeBx (renK key r.bx 0) key r.bx 0 ++ bs.map fun x => (x.1, none))) = updB lb (putIo (renK key r.bx 0) qs r.ios ++ (takeBx (renK key r.bx 0) key r.bx 0 ++ (bs.map (fun x => (x.1, none)) ++ shut cur lb' ks))) := by
      funext q
      unfold updB
      rw [lk_append, lk_append, lk_append, lk_append, lk_append]
      cases lk (putIo (renK key r.bx 0) qs r.ios) q with
      | some x => rfl
      | none =>
       cases lk (takeBx (renK key r.bx 0) key r.bx 0) q with
       | some x => rfl
       | none => cases lk (bs.map fun x => (x.1, (none : Option Box))) q <;> rfl
     rw [e1] at hfin
     exact hfin
   ·cases he
  ·cases he
 ·cases he
theorem ren_swap {S : Nat → Prop} {ρ : Key → Hd} {ok : Key → Prop} {w : World} {f g : Key → Key} {c : C} {v : Value} (h : CRel S ρ ok w (renC f c) v) (hk : ∀ k ∈ keysC c, ρ (f k) = ρ (g k) ∧ ok (g k)) : CRel S ρ ok w (renC g c) v := by
 cases c with
 | d d => exact h
 | zero => exact h
 | dead => exact h
 | rptr row o => exact h
 | own q => obtain ⟨_, hv⟩ := h; obtain ⟨h1, h2⟩ := hk q (by simp [keysC]); exact ⟨h2, by rw [← h1]; exact hv⟩
 | ptr q o => obtain ⟨_, b, h3, hv⟩ := h; obtain ⟨h1, h2⟩ := hk q (by simp [keysC]); exact ⟨h2, b, by rw [← h1]; exact h3, hv⟩
 | eptr q i o => obtain ⟨_, b, h3, hv⟩ := h; obtain ⟨h1, h2⟩ := hk q (by simp [keysC]); exact ⟨h2, b, by rw [← h1]; exact h3, by rw [← h1]; exact hv⟩
 | arr q n z => obtain ⟨_, b, h3, hv⟩ := h; obtain ⟨h1, h2⟩ := hk q (by simp [keysC]); exact ⟨h2, b, by rw [← h1]; exact h3, hv⟩
 | mp q => obtain ⟨_, b, h3, hv⟩ := h; obtain ⟨h1, h2⟩ := hk q (by simp [keysC]); exact ⟨h2, b, by rw [← h1]; exact h3, hv⟩
 | fn gg caps =>
  obtain ⟨vs, h1, h2⟩ := h
  refine ⟨vs, h1, ?_⟩
  have hk' : ∀ c ∈ caps, ∀ k ∈ capKeys c, ρ (f k) = ρ (g k) ∧ ok (g k) := fun c hc k hk2 => hk k (List.mem_flatMap.2 ⟨c, hc, hk2⟩)
  clear hk h1
  induction caps generalizing vs with
  | nil => cases h2; exact .nil
  | cons c cs ih =>
   cases h2 with
   | cons hcv tl =>
    refine .cons ?_ (ih _ tl fun c hc => hk' c (by simp [hc]))
    cases c with
    | d d => exact hcv
    | rptr row o => exact hcv
    | ptr q o => obtain ⟨_, b, h3, hv⟩ := hcv; obtain ⟨h1, h2⟩ := hk' (.ptr q o) (by simp) q (by simp [capKeys]); exact ⟨h2, b, by rw [← h1]; exact h3, hv⟩
theorem ren_in {S : Nat → Prop} {ρ ρc : Key → Hd} {ok okc : Key → Prop} {w : World} {g : Key → Key} {c : C} {v : Value} (h : CRel S ρ ok w c v) (hk : ∀ k ∈ keysC c, ρc (g k) = ρ k ∧ okc (g k)) : CRel S ρc okc w (renC g c) v := by
 cases c with
 | d d => exact h
 | zero => exact h
 | dead => exact h
 | rptr row o => exact h
 | own q => obtain ⟨_, hv⟩ := h; obtain ⟨h1, h2⟩ := hk q (by simp [keysC]); exact ⟨h2, by rw [h1]; exact hv⟩
 | ptr q o => obtain ⟨_, b, h3, hv⟩ := h; obtain ⟨h1, h2⟩ := hk q (by simp [keysC]); exact ⟨h2, b, by rw [h1]; exact h3, hv⟩
 | eptr q i o => obtain ⟨_, b, h3, hv⟩ := h; obtain ⟨h1, h2⟩ := hk q (by simp [keysC]); exact ⟨h2, b, by rw [h1]; exact h3, by rw [h1]; exact hv⟩
 | arr q n z => obtain ⟨_, b, h3, hv⟩ := h; obtain ⟨h1, h2⟩ := hk q (by simp [keysC]); exact ⟨h2, b, by rw [h1]; exact h3, hv⟩
 | mp q => obtain ⟨_, b, h3, hv⟩ := h; obtain ⟨h1, h2⟩ := hk q (by simp [keysC]); exact ⟨h2, b, by rw [h1]; exact h3, hv⟩
 | fn gg caps =>
  obtain ⟨vs, h1, h2⟩ := h
  refine ⟨vs, h1, ?_⟩
  have hk' : ∀ c ∈ caps, ∀ k ∈ capKeys c, ρc (g k) = ρ k ∧ okc (g k) := fun c hc k hk2 => hk k (List.mem_flatMap.2 ⟨c, hc, hk2⟩)
  clear hk h1
  induction caps generalizing vs with
  | nil => cases h2; exact .nil
  | cons c cs ih =>
   cases h2 with
   | cons hcv tl =>
    refine .cons ?_ (ih _ tl fun c hc => hk' c (by simp [hc]))
    cases c with
    | d d => exact hcv
    | rptr row o => exact hcv
    | ptr q o => obtain ⟨_, b, h3, hv⟩ := hcv; obtain ⟨h1, h2⟩ := hk' (.ptr q o) (by simp) q (by simp [capKeys]); exact ⟨h2, b, by rw [h1]; exact h3, hv⟩
theorem Rel.alias {lt2 lt3 : Nat → Option AV} {lb2 lb3 : Key → Option Box} (h : Rel V X Z w0 N ρ ok lt2 lb2 a w) (m : Key → Key)
    (hb : ∀ q box, lb3 q = some box → ok q ∧ ∃ box', lb2 (m q) = some box' ∧ ρ (m q) = ρ q ∧ box'.live = box.live ∧ ∀ S, BoxRel S ρ ok w (m q) box' → BoxRel S ρ ok w q box)
    (hm : ∀ q q' box box', lb3 q = some box → lb3 q' = some box' → m q = m q' → q = q')
    (ht : ∀ t av, lt3 t = some av → ∃ av', lt2 t = some av' ∧ ∀ S v, AVRel (CRel S ρ ok w) av' v → AVRel (CRel S ρ ok w) av v) : Rel V X Z w0 N ρ ok lt3 lb3 a w := by
 have h3 := h.kept m hb hm
 refine ⟨h3.size, h3.defers, fun t av hq => ?_, h3.bx, h3.ap, h3.lo, h3.fr, h3.va, h3.zz⟩
 obtain ⟨av', h1, h2⟩ := ht t av hq
 obtain ⟨h4, h5⟩ := h3.tm t av' h1
 exact ⟨h4, h2 _ _ h5⟩
theorem lkD_mem : ∀ {D : List (Key × Key)} {κ q : Key}, lkD D κ = some q → (κ, q) ∈ D
 | [], _, _, h => by cases h
 | (a, b) :: r, κ, q, h => by
  unfold lkD at h
  split at h
  ·rename_i e; cases h; subst e; exact List.mem_cons_self ..
  ·exact List.mem_cons_of_mem _ (lkD_mem h)
def gMap (D : List (Key × Key)) (key : Nat → Key) : List (Key × Box) → Nat → List (Key × Key)
 | [], _ => []
 | (κ, _) :: r, j => match lkD D κ with
  | some q => (q, key j) :: gMap D key r (j + 1)
  | none => gMap D key r (j + 1)
theorem gUps_lk {D : List (Key × Key)} {key : Nat → Key} {f : Key → Key} {q : Key} (hk : ∀ j, j < 64 → q = key j → ∀ κ, (κ, q) ∉ D) : ∀ {bx : List (Key × Box)} {n : Nat} {ob : Option Box}, n + bx.length ≤ 64 → lk (gUps D key f bx n) q = some ob → ∃ j κ box, bx[j]? = some (κ, box) ∧ ob = some (renBx f box) ∧ ((lkD D κ = some q ∧ lk (gMap D key bx n) q = some (key (n + j))) ∨ (lkD D κ = none ∧ q = key (n + j)))
 | [], n, ob, _, h => by cases h
 | (κ, b) :: r, n, ob, hn, h => by
  cases hd : lkD D κ with
  | some q' =>
   have e : gUps D key f ((κ, b) :: r) n = (q', some (renBx f b)) :: gUps D key f r (n + 1) := by
    show ((match lkD D κ with | some q => q | none => key n), some (renBx f b)) :: gUps D key f r (n + 1) = _
    rw [hd]
   have e2 : gMap D key ((κ, b) :: r) n = (q', key n) :: gMap D key r (n + 1) := by conv => lhs; unfold gMap; rw [hd]
   rw [e] at h
   by_cases hq : q = q'
   ·subst hq
    rw [show lk ((q, some (renBx f b)) :: gUps D key f r (n + 1)) q = some (some (renBx f b)) from if_pos rfl] at h
    cases h
    exact ⟨0, κ, b, by simp, rfl, .inl ⟨hd, by rw [e2]; exact if_pos rfl⟩⟩
   ·rw [show lk ((q', some (renBx f b)) :: gUps D key f r (n + 1)) q = lk (gUps D key f r (n + 1)) q from if_neg hq] at h
    obtain ⟨j, κ', box, g1, g2, g3⟩ := gUps_lk hk (by simp at hn; omega) h
    refine ⟨j + 1, κ', box, by simpa using g1, g2, ?_⟩
    rw [show n + (j + 1) = n + 1 + j by omega]
    rcases g3 with ⟨g3, g4⟩ | g3
    ·exact .inl ⟨g3, by rw [e2]; exact (show lk ((q', key n) :: gMap D key r (n + 1)) q = lk (gMap D key r (n + 1)) q from if_neg hq).trans g4⟩
    ·exact .inr g3
  | none =>
   have e : gUps D key f ((κ, b) :: r) n = (key n, some (renBx f b)) :: gUps D key f r (n + 1) := by
    show ((match lkD D κ with | some q => q | none => key n), some (renBx f b)) :: gUps D key f r (n + 1) = _
    rw [hd]
   have e2 : gMap D key ((κ, b) :: r) n = gMap D key r (n + 1) := by conv => lhs; unfold gMap; rw [hd]
   rw [e] at h
   by_cases hq : q = key n
   ·rw [show lk ((key n, some (renBx f b)) :: gUps D key f r (n + 1)) q = some (some (renBx f b)) from if_pos hq] at h
    cases h
    exact ⟨0, κ, b, by simp, rfl, .inr ⟨hd, by simpa using hq⟩⟩
   ·rw [show lk ((key n, some (renBx f b)) :: gUps D key f r (n + 1)) q = lk (gUps D key f r (n + 1)) q from if_neg hq] at h
    obtain ⟨j, κ', box, g1, g2, g3⟩ := gUps_lk hk (by simp at hn; omega) h
    refine ⟨j + 1, κ', box, by simpa using g1, g2, ?_⟩
    rw [show n + (j + 1) = n + 1 + j by omega, e2]
    exact g3
theorem gMap_mem {D : List (Key × Key)} {key : Nat → Key} : ∀ {bx : List (Key × Box)} {n : Nat} {q k : Key}, lk (gMap D key bx n) q = some k → ∃ j κ box, bx[j]? = some (κ, box) ∧ lkD D κ = some q ∧ k = key (n + j)
 | [], n, q, k, h => by cases h
 | (κ, b) :: r, n, q, k, h => by
  cases hd : lkD D κ with
  | some q' =>
   have e2 : gMap D key ((κ, b) :: r) n = (q', key n) :: gMap D key r (n + 1) := by conv => lhs; unfold gMap; rw [hd]
   rw [e2] at h
   by_cases hq : q = q'
   ·subst hq
    rw [show lk ((q, key n) :: gMap D key r (n + 1)) q = some (key n) from if_pos rfl] at h
    cases h
    exact ⟨0, κ, b, by simp, hd, by simp⟩
   ·rw [show lk ((q', key n) :: gMap D key r (n + 1)) q = lk (gMap D key r (n + 1)) q from if_neg hq] at h
    obtain ⟨j, κ', box, g1, g2, g3⟩ := gMap_mem h
    exact ⟨j + 1, κ', box, by simpa using g1, g2, by rw [show n + (j + 1) = n + 1 + j by omega]; exact g3⟩
  | none =>
   have e2 : gMap D key ((κ, b) :: r) n = gMap D key r (n + 1) := by conv => lhs; unfold gMap; rw [hd]
   rw [e2] at h
   obtain ⟨j, κ', box, g1, g2, g3⟩ := gMap_mem h
   exact ⟨j + 1, κ', box, by simpa using g1, g2, by rw [show n + (j + 1) = n + 1 + j by omega]; exact g3⟩
theorem gBs_mem {lb : Key → Option Box} {φ : Key → Key} : ∀ {ks : List Key} {n : Nat} {bs : List (Key × Key × Box)}, gBs lb φ n ks = some bs → ∀ x ∈ bs, ∃ b, lb x.1 = some b ∧ b.okRes = true ∧ x.2.2 = renBx φ b
 | [], n, bs, h, x, hx => by unfold gBs at h; cases h; cases hx
 | q :: ks, n, bs, h, x, hx => by
  unfold gBs at h
  split at h
  ·rename_i b r hb hr
   split at h
   ·rename_i ho
    cases h
    rcases List.mem_cons.1 hx with rfl | hx
    ·exact ⟨b, hb, ho, rfl⟩
    ·exact gBs_mem hr x hx
   ·cases h
  ·cases h
theorem argsG_sound (h : Rel V X Z w0 N ρ ok lt lb a w) (hl : ∀ t x, lt' t = some x → lt t = some x) : ∀ {args : List Operand} {xs : List (Bool × List C)}, argsG lt' args = some xs → Alls (CRel (Im V ρ lb) ρ ok w) xs (args.map a.eval)
 | [], xs, he => by unfold argsG at he; cases he; exact .nil
 | x :: r, xs, he => by
  unfold argsG at he
  split at he
  ·rename_i b cs l hx hr
   cases he
   exact .cons (ev_sound h hl hx) (argsG_sound h hl hr)
  ·cases he
theorem effCall0_sound (h : Rel V X Z w0 N ρ ok lt lb a w) (ho : ∀ q : Key, ok q → ok' q) (hd : ∀ k, o.dst = some k → k < N) (hl : ∀ t x, lt' t = some x → lt t = some x) (hb : ∀ t x, lb' t = some x → lb t = some x) {cur : Nat} {key : Nat → Key} (hinj : ∀ i j, key i = key j → i = j) (hkey : ∀ j, j < 64 → ¬ ok (key j) ∧ ok' (key j))
    {call : CallF} {lend : FuncId → Bool} (hcall : CallOk P call) {c : Call} {f : Operand} (hop : o.op = .call c) (hc : c.callee = .value f) (he : effCall0 P call lend cur key f c.args.toList lt' lb' = some e) (hn : e.needs = []) : o.wp P a w (Aft V X Z w0 N ok' lt lb o.dst e) Q := by
 unfold effCall0 at he
 split at he
 ·rename_i g caps hg
  split at he
  ·rename_i hbod
   split at he
   ·rename_i xs ks hargs
    split at he
    ·rename_i cs ks0 hcaps
     cases hlend : (lend g || !caps.isEmpty) with
     | true => rw [hlend] at he hargs; exact effLend_sound h ho hd hl hb hcall hop hc hg hbod hargs hcaps rfl he hn
     | false =>
      rw [hlend] at he hargs
      simp only [Bool.or_eq_false_iff, Bool.not_eq_false', List.isEmpty_iff] at hlend
      obtain ⟨_, rfl⟩ := hlend
      simp only [argVals] at hcaps
      cases hcaps
      rw [List.map_nil, List.append_nil] at he
      exact effVal_sound h ho hd hl hb hinj hkey hcall hop hc hg hbod hargs he hn
    ·cases he
   ·split at he
    ·rename_i hemp
     rw [List.isEmpty_iff] at hemp
     subst hemp
     split at he
     ·rename_i xs ks qs bs hargs
      exact effIo_sound h ho hd hl hb hinj hkey hcall hop hc hg hbod hargs he hn
     ·cases he
    ·cases he
  ·cases he
 ·cases he
theorem alls_get {R : C → Value → Prop} : ∀ {xs : List (Bool × List C)} {vs : List Value} (_ : Alls R xs vs) {φ : C → C} {i k : Nat} {av : AV}, lk (argTm k (xs.map fun x => Arg.val x.1 (x.2.map φ))) i = some av → k ≤ i ∧ i - k < vs.length ∧ ∃ b cs, av = .one b (cs.map φ) ∧ (b, cs) ∈ xs ∧ One R b cs (vs.getD (i - k) undef)
 | [], [], _, φ, i, k, av, h => by cases h
 | (b, cs) :: xs, v :: vs, .cons h1 h2, φ, i, k, av, h => by
  by_cases e : i = k
  ·subst e
   rw [show lk (argTm i (((b, cs) :: xs).map fun x => Arg.val x.1 (x.2.map φ))) i = some (.one b (cs.map φ)) from if_pos rfl] at h
   cases h
   exact ⟨Nat.le_refl _, by simp, b, cs, rfl, by simp, by simpa using h1⟩
  ·rw [show lk (argTm k (((b, cs) :: xs).map fun x => Arg.val x.1 (x.2.map φ))) i = lk (argTm (k + 1) (xs.map fun x => Arg.val x.1 (x.2.map φ))) i from if_neg e] at h
   obtain ⟨g1, g2, b', cs', g3, g4, g5⟩ := alls_get h2 h
   refine ⟨by omega, by simp; omega, b', cs', g3, by simp [g4], ?_⟩
   have e1 : (v :: vs).getD (i - k) undef = vs.getD (i - (k + 1)) undef := by rw [show i - k = (i - (k + 1)) + 1 by omega]; simp
   rw [e1]; exact g5
theorem argBx_map (φ : C → C) : ∀ (xs : List (Bool × List C)) (i : Nat), argBx i (xs.map fun x => Arg.val x.1 (x.2.map φ)) = []
 | [], _ => rfl
 | _ :: xs, i => argBx_map φ xs (i + 1)
theorem zipIo_map (φ : C → C) : ∀ (xs : List (Bool × List C)) (i : Nat), zipIo i (xs.map fun x => Arg.val x.1 (x.2.map φ)) [] = []
 | [], _ => rfl
 | _ :: xs, i => zipIo_map φ xs (i + 1)
theorem ioBx_map (φ : C → C) (ios : List (List C)) : ∀ (xs : List (Bool × List C)) (i : Nat), ioBx i (xs.map fun x => Arg.val x.1 (x.2.map φ)) ios = []
 | [], _ => by cases ios <;> rfl
 | _ :: xs, i => ioBx_map φ ios xs (i + 1)
theorem isIo_map (φ : C → C) : ∀ (xs : List (Bool × List C)), (xs.map fun x => Arg.val x.1 (x.2.map φ)).filter isIo = []
 | [] => rfl
 | _ :: xs => isIo_map φ xs
theorem okRes_live {b : Box} (h : b.okRes = true) : b.live = true := by cases b <;> simp [Box.okRes] at h <;> rfl
theorem caps_alls {R : C → Value → Prop} {cs : List C} {us : List Value} (h : All2 R cs us) : Alls R (cs.map fun c => (false, [c])) us := by
 induction h with
 | nil => exact .nil
 | cons h _ ih => exact .cons ⟨[_], .cons h .nil, by simp⟩ ih
theorem Alls.append {R : C → Value → Prop} {xs ys : List (Bool × List C)} {us vs : List Value} (h : Alls R xs us) (k : Alls R ys vs) : Alls R (xs ++ ys) (us ++ vs) := by
 induction h with
 | nil => exact k
 | cons h _ ih => exact .cons h ih
theorem swap_list {S : Nat → Prop} {ρ : Key → Hd} {ok : Key → Prop} {w : World} {f g : Key → Key} : ∀ {cs : List C} {vs : List Value}, All2 (CRel S ρ ok w) (cs.map (renC f)) vs → (∀ c ∈ cs, ∀ k ∈ keysC c, ρ (f k) = ρ (g k) ∧ ok (g k)) → All2 (CRel S ρ ok w) (cs.map (renC g)) vs
 | [], _, .nil, _ => .nil
 | c :: cs, _ :: _, .cons h t, hk => .cons (ren_swap h (hk c (by simp))) (swap_list t fun c hc => hk c (by simp [hc]))
theorem swap_alls {S : Nat → Prop} {ρ : Key → Hd} {ok : Key → Prop} {w : World} {f g : Key → Key} : ∀ {xs : List (Bool × List C)} {vs : List Value}, Alls (CRel S ρ ok w) (xs.map fun (p : Bool × List C) => (p.1, p.2.map (renC f))) vs → (∀ b cs, (b, cs) ∈ xs → ∀ c ∈ cs, ∀ k ∈ keysC c, ρ (f k) = ρ (g k) ∧ ok (g k)) → Alls (CRel S ρ ok w) (xs.map fun (p : Bool × List C) => (p.1, p.2.map (renC g))) vs
 | [], _, .nil, _ => .nil
 | (b, cs) :: xs, _ :: _, .cons ⟨us, u1, u2⟩ t, hk => .cons ⟨us, swap_list u1 (hk b cs (by simp)), u2⟩ (swap_alls t fun b cs hm => hk b cs (by simp [hm]))
theorem res_swap {S : Nat → Prop} {ρ : Key → Hd} {ok : Key → Prop} {w : World} {f g : Key → Key} {xs : List (Bool × List C)} {v : Value} (hk : ∀ b cs, (b, cs) ∈ xs → ∀ c ∈ cs, ∀ k ∈ keysC c, ρ (f k) = ρ (g k) ∧ ok (g k)) (h : AVRel (CRel S ρ ok w) (resAV f xs) v) : AVRel (CRel S ρ ok w) (resAV g xs) v := by
 by_cases hl : xs.length = 1
 ·obtain ⟨⟨b, cs⟩, rfl⟩ := List.length_eq_one_iff.1 hl
  obtain ⟨us, u1, u2⟩ := h
  exact ⟨us, swap_list u1 (hk b cs (by simp)), u2⟩
 ·have e : ∀ f : Key → Key, resAV f xs = .tup (xs.map fun (p : Bool × List C) => (p.1, p.2.map (renC f))) := fun f => by
    unfold resAV
    split
    ·rename_i hh; simp at hl
    ·rfl
  rw [e] at h ⊢
  obtain ⟨us, u1, u2⟩ := h
  exact ⟨us, u1, swap_alls u2 hk⟩
theorem bsNone_mem {q : Key} : ∀ {bs : List (Key × Key × Box)}, lk (bs.map fun x => (x.1, (none : Option Box))) q = none → q ∉ bs.map (·.1)
 | [], _, h => by cases h
 | x :: bs, h, hm => by
  by_cases e : q = x.1
  ·rw [show lk ((x :: bs).map fun x => (x.1, (none : Option Box))) q = some none from if_pos e] at h; cases h
  ·rw [show lk ((x :: bs).map fun x => (x.1, (none : Option Box))) q = lk (bs.map fun x => (x.1, (none : Option Box))) q from if_neg e] at h
   rcases List.mem_cons.1 hm with hm | hm
   ·exact e hm
   ·exact bsNone_mem h hm
theorem effG_sound (h : Rel V X Z w0 N ρ ok lt lb a w) (ho : ∀ q : Key, ok q → ok' q) (hd : ∀ k, o.dst = some k → k < N) (hl : ∀ t x, lt' t = some x → lt t = some x) (hb : ∀ t x, lb' t = some x → lb t = some x) {key : Nat → Key} (hinj : ∀ i j, key i = key j → i = j) (hkey : ∀ j, j < 64 → ¬ ok (key j) ∧ ok' (key j))
    {call : CallF} (hcall : CallOk P call) {c : Call} {f : Operand} {g : FuncId} {caps : List C} (hop : o.op = .call c) (hc : c.callee = .value f) (hf : calleeOf lt' f = some (g, caps)) (hbod : bodied P g = true) {xs0 : List (Bool × List C)} (hargs : argsG lt' c.args.toList = some xs0)
    (he : effG call key g (xs0 ++ caps.map fun c => (false, [c])) lb' = some e) : o.wp P a w (Aft V X Z w0 N ok' lt lb o.dst e) Q := by
 obtain ⟨us, hus, hall⟩ := callee_sound h hl hf
 have hA0 := (argsG_sound h hl hargs).append (caps_alls hall)
 refine wp_call hop hc hus hbod ?_
 generalize xs0 ++ (caps.map fun c => (false, [c])) = xs at he hA0
 generalize c.args.toList.map a.eval ++ us = vals at hA0
 unfold effG at he
 simp only at he
 generalize reachK lb' 8 ((xs.flatMap fun x => x.2.flatMap keysC).foldl addK []) = ks at he
 split at he
 ·rename_i bs hbs
  split at he
  ·rename_i hchk
   obtain ⟨d1, d2, d3, d4, d5⟩ := hchk
   split at he
   ·rename_i r hr
    split at he
    ·rename_i hcnd
     obtain ⟨c1, c2, c3, c4, c5⟩ := hcnd
     cases he
     have hbm := gBs_mem hbs
     generalize idxK ks 0 = φ at *
     have hdict : dictOf (xs.map fun x => Arg.val x.1 (x.2.map (renC φ))) [] bs = gDict bs := by unfold dictOf gDict; rw [zipIo_map]; rfl
     have hφ : ∀ q, q ∈ bs.map (·.1) → (φ q, q) ∈ gDict bs ∧ (φ q).2 = 0 := fun q hq => by
      obtain ⟨x, hx, rfl⟩ := List.mem_map.1 hq
      have := List.all_eq_true.1 d3 x hx
      rw [Bool.and_eq_true, beq_iff_eq, beq_iff_eq] at this
      rw [this.2]
      exact ⟨List.mem_map.2 ⟨x, hx, rfl⟩, this.1⟩
     have hz : ∀ κ q, (κ, q) ∈ gDict bs → κ.2 = 0 ∧ q ∈ bs.map (·.1) := fun κ q hm => by
      obtain ⟨x, hx, e⟩ := List.mem_map.1 hm
      cases e
      have := List.all_eq_true.1 d3 x hx
      rw [Bool.and_eq_true, beq_iff_eq, beq_iff_eq] at this
      exact ⟨this.1, List.mem_map.2 ⟨x, hx, rfl⟩⟩
     have hlbq : ∀ q, q ∈ bs.map (·.1) → ∃ box, lb' q = some box ∧ box.okRes = true ∧ ∀ k ∈ keysBx box, k ∈ bs.map (·.1) := fun q hq => by
      obtain ⟨x, hx, rfl⟩ := List.mem_map.1 hq
      obtain ⟨b, e1, e2, _⟩ := hbm x hx
      have := List.all_eq_true.1 d5 x hx
      rw [e1] at this
      exact ⟨b, e1, e2, fun k hk => by simpa using List.all_eq_true.1 this k hk⟩
     have hinto : ∀ (ρc : Key → Hd) (okc : Key → Prop), (∀ κ q, (κ, q) ∈ gDict bs → ρc κ = ρ q ∧ okc κ) → ∀ (cs : List C), (∀ c ∈ cs, ∀ k ∈ keysC c, k ∈ bs.map (·.1)) → ∀ vs, All2 (CRel (Im V ρ lb) ρ ok w) cs vs → All2 (CRel (Im V ρ lb) ρc okc w) (cs.map (renC φ)) vs := by
      intro ρc okc hx cs hcs vs hvs
      induction hvs with
      | nil => exact .nil
      | cons h1 _ ih => exact .cons (ren_in h1 fun k hk => hx _ _ (hφ k (hcs _ (by simp) k hk)).1) (ih fun c hc => hcs c (by simp [hc]))
     have hAA : ArgsAt V ρ ok lb w (xs.map fun x => Arg.val x.1 (x.2.map (renC φ))) [] bs vals := by
      refine ⟨?_, fun i av hi => ?_, fun κ boxc hm => ?_, fun κ q hm => ?_⟩
      ·rw [List.length_map]; exact hA0.length.symm
      ·obtain ⟨g1, g2, b, cs, rfl, g4, us', u1, u2⟩ := alls_get hA0 hi
       rw [Nat.sub_zero] at g2 u2
       have e1 : vals.toArray.getD i undef = vals.getD i undef := by simp [Array.getD_eq_getD_getElem?]
       refine ⟨g2, .inl ⟨b, cs.map (renC φ), rfl, fun ρc okc hx => ⟨us', hinto ρc okc (by rw [← hdict]; exact hx) cs (fun c hc k hk => ?_) us' u1, by rw [e1]; exact u2⟩⟩⟩
       have := List.all_eq_true.1 (List.all_eq_true.1 (List.all_eq_true.1 d4 (b, cs) g4) c hc) k hk
       simpa using this
      ·rw [argBx_map, List.nil_append] at hm
       obtain ⟨x, hx, e⟩ := List.mem_map.1 hm
       obtain ⟨b, e1, e2, e3⟩ := hbm x hx
       have e4 : x.2.1 = κ := by rw [e]
       have e5 : x.2.2 = boxc := by rw [e]
       rw [e5] at e3
       subst e3
       refine ⟨x.1, b, by rw [hdict]; exact List.mem_map.2 ⟨x, hx, by rw [e4]⟩, hb _ _ e1, okRes_live e2, by rw [renBx_live]; exact okRes_live e2, ?_⟩
       cases b with
       | sl ty sz rows => exact .inl ⟨rfl, .inl rfl⟩
       | fz sz rows => simp [Box.okRes] at e2
       | mp es ck => exact .inl ⟨rfl, .inr ⟨es, ck, rfl⟩⟩
       | st ty cs =>
        refine .inr (.inr ⟨ty, cs, cs.map (renC φ), rfl, rfl, fun ρc okc hxx vs hvs => hinto ρc okc (by rw [← hdict]; exact hxx) cs (fun c hc k hk => ?_) vs hvs⟩)
        obtain ⟨b', f1, _, f3⟩ := hlbq x.1 (List.mem_map.2 ⟨x, hx, rfl⟩)
        rw [e1] at f1
        cases f1
        exact f3 k (List.mem_flatMap.2 ⟨c, hc, hk⟩)
       | ca ty sz rows =>
        refine .inr (.inl ⟨ty, sz, rows, rows.map (·.map (renC φ)), rfl, rfl, lens_map _, fun ρc okc hxx vs hvs => ?_⟩)
        rw [← List.map_flatten]
        refine hinto ρc okc (by rw [← hdict]; exact hxx) rows.flatten (fun c hc k hk => ?_) vs hvs
        obtain ⟨b', f1, _, f3⟩ := hlbq x.1 (List.mem_map.2 ⟨x, hx, rfl⟩)
        rw [e1] at f1
        cases f1
        exact f3 k (List.mem_flatMap.2 ⟨c, hc, hk⟩)
      ·rw [hdict] at hm
       obtain ⟨b, e1, e2, _⟩ := hlbq q (hz κ q hm).2
       exact ⟨b, hb _ _ e1, okRes_live e2⟩
     have hok : ∀ κ q, (κ, q) ∈ gDict bs → ok q := fun κ q hm => by
      obtain ⟨b, e1, _⟩ := hlbq q (hz κ q hm).2
      exact (h.bx q b (hb _ _ e1)).1
     refine (call_sound h ho hinj hkey hAA (by rw [hdict]; unfold gDict; rw [List.map_map]; exact d1) (by rw [hdict]; unfold gDict; rw [List.map_map]; exact d2) (fun κ q hm => (hz κ q (by rw [← hdict]; exact hm)).1) (fun n hn' => by rw [isIo_map] at hn'; exact hn') (fun j q ty hj => by simp at hj) (hcall g _ _ r hr) c1 c2 c3 (by rw [ioBx_map, List.nil_append]; exact c4) c5 o.dst hd).mono ?_
     rintro e' w' ⟨v, rfl, ρ', hfin, hpo, hpk⟩
     rw [hdict] at hpk
     refine ⟨v, rfl, ρ', ?_⟩
     have hjl : ∀ (j : Nat) (y : Key × Box), r.bx[j]? = some y → j < r.bx.length := fun j y h3 => by
      rcases Nat.lt_or_ge j r.bx.length with g | g
      ·exact g
      ·rw [List.getElem?_eq_none g] at h3; cases h3
     have hFG : ∀ κ, κ ∈ r.bx.map (·.1) → ρ' (renK key r.bx 0 κ) = ρ' (gBack bs key r.bx κ) ∧ ok' (gBack bs key r.bx κ) := fun κ hm => by
      obtain ⟨⟨κ', box⟩, hm1, rfl⟩ := List.mem_map.1 hm
      obtain ⟨j, g1, g2, g3, _⟩ := renK_mem (renK key r.bx 0) key hinj (n := 0) c4 hm1
      rw [Nat.zero_add] at g1
      unfold gBack
      cases hD : lkD (gDict bs) κ' with
      | some q =>
       have hm2 := lkD_mem hD
       simp only [hD]
       rw [g1]
       exact ⟨(hpk j κ' box q g3 hm2).1.trans (hpo q (hok _ _ hm2)).symm, ho q (hok _ _ hm2)⟩
      | none =>
       simp only [hD]
       rw [g1]
       exact ⟨trivial, (hkey j (by omega)).2⟩
     unfold ARes.closed at c3
     rw [Bool.and_eq_true, Bool.and_eq_true] at c3
     have hcb : ∀ κ box, (κ, box) ∈ r.bx → ∀ k ∈ keysBx box, k ∈ r.bx.map (·.1) := fun κ box hm k hk => by
      have := List.all_eq_true.1 (List.all_eq_true.1 c3.1.1 (κ, box) hm) k hk
      simpa using this
     have hcv : ∀ b cs, (b, cs) ∈ r.vals → ∀ c ∈ cs, ∀ k ∈ keysC c, k ∈ r.bx.map (·.1) := fun b cs hm c hc k hk => by
      have := List.all_eq_true.1 (List.all_eq_true.1 (List.all_eq_true.1 c3.1.2 (b, cs) hm) c hc) k hk
      simpa using this
     have hbox : ∀ (S : Nat → Prop) (j : Nat) (κ : Key) (box0 : Box) (q : Key), r.bx[j]? = some (κ, box0) → ρ' (key j) = ρ' q → BoxRel S ρ' ok' w' (key j) (renBx (renK key r.bx 0) box0) → BoxRel S ρ' ok' w' q (renBx (gBack bs key r.bx) box0) := fun S j κ box0 q hj hq hB => by
      have ho2 := List.all_eq_true.1 c5 (κ, box0) (List.mem_of_getElem? hj)
      cases box0 with
      | fz sz rows => simp [Box.okRes] at ho2
      | mp es ck =>
       obtain ⟨b, y1, y2⟩ := hB
       exact ⟨b, by rw [← hq]; exact y1, y2⟩
      | sl ty sz rows =>
       have hB : BoxRel S ρ' ok' w' (key j) (.sl ty sz rows) := hB
       show BoxRel S ρ' ok' w' q (.sl ty sz rows)
       simp only [BoxRel] at hB ⊢
       rw [hq] at hB
       exact hB
      | st ty cs =>
       obtain ⟨b, vs, y1, y2, y3⟩ := hB
       refine ⟨b, vs, by rw [← hq]; exact y1, y2, ?_⟩
       have hks : ∀ c ∈ cs, ∀ k ∈ keysC c, k ∈ r.bx.map (·.1) := fun c hc k hk => hcb κ _ (List.mem_of_getElem? hj) k (List.mem_flatMap.2 ⟨c, hc, hk⟩)
       clear y2 hj
       exact swap_list y3 fun c hc k hk => hFG k (hks c hc k hk)
      | ca ty sz rows =>
       refine BoxRel.caTo (rows' := rows.map (·.map (renC (gBack bs key r.bx)))) hB hq.symm (by rw [lens_map, lens_map]) (fun _ _ => rfl) fun vs y3 => ?_
       rw [← List.map_flatten] at y3 ⊢
       have hks : ∀ c ∈ rows.flatten, ∀ k ∈ keysC c, k ∈ r.bx.map (·.1) := fun c hc k hk => hcb κ _ (List.mem_of_getElem? hj) k (List.mem_flatMap.2 ⟨c, hc, hk⟩)
       exact swap_list y3 fun c hc k hk => hFG k (hks c hc k hk)
     have hmq : ∀ q, ok q → q ∉ bs.map (·.1) → lk (gMap (gDict bs) key r.bx 0) q = none := fun q _ hn => by
      cases hk : lk (gMap (gDict bs) key r.bx 0) q with
      | none => rfl
      | some k =>
       obtain ⟨j, κ, box, g1, g2, g3⟩ := gMap_mem hk
       exact absurd (hz κ q (lkD_mem g2)).2 hn
     have hmk : ∀ j, j < 64 → lk (gMap (gDict bs) key r.bx 0) (key j) = none := fun j hj => by
      cases hk : lk (gMap (gDict bs) key r.bx 0) (key j) with
      | none => rfl
      | some k =>
       obtain ⟨j', κ, box, g1, g2, g3⟩ := gMap_mem hk
       exact absurd (hok κ _ (lkD_mem g2)) (hkey j hj).1
     have hcase : ∀ q box, updB lb (gUps (gDict bs) key (gBack bs key r.bx) r.bx 0 ++ bs.map fun x => (x.1, none)) q = some box →
         (∃ j κ box0, r.bx[j]? = some (κ, box0) ∧ box = renBx (gBack bs key r.bx) box0 ∧ ((lkD (gDict bs) κ = some q ∧ lk (gMap (gDict bs) key r.bx 0) q = some (key j)) ∨ (lkD (gDict bs) κ = none ∧ q = key j ∧ lk (gMap (gDict bs) key r.bx 0) q = none))) ∨
         (lb q = some box ∧ q ∉ bs.map (·.1) ∧ lk (gMap (gDict bs) key r.bx 0) q = none) := by
      intro q box hq
      have hq' : (match lk (gUps (gDict bs) key (gBack bs key r.bx) r.bx 0 ++ bs.map fun x => (x.1, (none : Option Box))) q with | some ob => ob | none => lb q) = some box := hq
      rw [lk_append] at hq'
      cases h1 : lk (gUps (gDict bs) key (gBack bs key r.bx) r.bx 0) q with
      | some ob =>
       rw [h1] at hq'
       obtain ⟨j, κ, box0, g1, g2, g3⟩ := gUps_lk (fun j hj e κ hm => (hkey j hj).1 (by rw [← e]; exact hok κ q hm)) (by omega) h1
       rw [Nat.zero_add] at g3
       subst g2
       simp only at hq'
       cases hq'
       refine .inl ⟨j, κ, box0, g1, rfl, ?_⟩
       rcases g3 with g3 | ⟨g3, rfl⟩
       ·exact .inl g3
       ·exact .inr ⟨g3, rfl, hmk j (by have := hjl _ _ g1; omega)⟩
      | none =>
       rw [h1] at hq'
       cases h2 : lk (bs.map fun x => (x.1, (none : Option Box))) q with
       | some ob =>
        rw [h2] at hq'
        have := mem_of_lk h2
        obtain ⟨x, _, hx⟩ := List.mem_map.1 this
        cases hx
        simp at hq'
       | none =>
        rw [h2] at hq'
        have hn := bsNone_mem h2
        exact .inr ⟨hq', hn, hmq q (h.bx q box hq').1 hn⟩
     have hlb2 : ∀ j κ box0, r.bx[j]? = some (κ, box0) → updB lb (putIo (renK key r.bx 0) [] r.ios ++ (takeBx (renK key r.bx 0) key r.bx 0 ++ bs.map fun x => (x.1, none))) (key j) = some (renBx (renK key r.bx 0) box0) := fun j κ box0 hj => by
      have ht := takeBx_at (renK key r.bx 0) key hinj (n := 0) hj
      rw [Nat.zero_add] at ht
      have hp : putIo (renK key r.bx 0) [] r.ios = [] := by cases r.ios <;> rfl
      rw [hp, List.nil_append]
      show (match lk (takeBx (renK key r.bx 0) key r.bx 0 ++ bs.map fun x => (x.1, (none : Option Box))) (key j) with | some ob => ob | none => _) = _
      rw [lk_append, ht]
     show Rel V X Z w0 N ρ' ok' (updT lt o.dst (resAV (gBack bs key r.bx) r.vals)) (updB lb (gUps (gDict bs) key (gBack bs key r.bx) r.bx 0 ++ bs.map fun x => (x.1, none))) (a.put o.dst v) w'
     refine hfin.alias (fun q => match lk (gMap (gDict bs) key r.bx 0) q with | some k => k | none => q) (fun q box hq => ?_) (fun q q' box box' hq hq' hm => ?_) (fun t av ht => ?_)
     ·rcases hcase q box hq with ⟨j, κ, box0, g1, rfl, ⟨g3, g4⟩ | ⟨g3, rfl, g4⟩⟩ | ⟨g1, g2, g3⟩
      ·have hm2 := lkD_mem g3
       have hq2 : ρ' (key j) = ρ' q := (hpk j κ box0 q g1 hm2).1.trans (hpo q (hok _ _ hm2)).symm
       simp only [g4]
       exact ⟨ho q (hok _ _ hm2), _, hlb2 j κ box0 g1, hq2, by rw [renBx_live, renBx_live], fun S hS => hbox S j κ box0 q g1 hq2 hS⟩
      ·simp only [g4]
       exact ⟨(hkey j (by have := hjl _ _ g1; omega)).2, _, hlb2 j κ box0 g1, trivial, by rw [renBx_live, renBx_live], fun S hS => hbox S j κ box0 _ g1 rfl hS⟩
      ·simp only [g3]
       have hoq := (h.bx q box g1).1
       refine ⟨ho q hoq, box, ?_, trivial, rfl, fun S hS => hS⟩
       have hp : putIo (renK key r.bx 0) [] r.ios = [] := by cases r.ios <;> rfl
       have hnt : lk (takeBx (renK key r.bx 0) key r.bx 0) q = none := by
        cases ht : lk (takeBx (renK key r.bx 0) key r.bx 0) q with
        | none => rfl
        | some ob =>
         obtain ⟨j, κ, box', f1, f2, f3⟩ := takeBx_lk (renK key r.bx 0) key ht
         rw [Nat.zero_add] at f1
         exact absurd (f1 ▸ hoq) (hkey j (by have := hjl _ _ f2; omega)).1
       rw [hp, List.nil_append]
       show (match lk (takeBx (renK key r.bx 0) key r.bx 0 ++ bs.map fun x => (x.1, (none : Option Box))) q with | some ob => ob | none => _) = _
       rw [lk_append, hnt]
       simp only
       rw [bsNone_lk g2]
       exact g1
     ·rcases hcase q box hq with ⟨j, κ, box0, g1, _, ⟨g3, g4⟩ | ⟨g3, rfl, g4⟩⟩ | ⟨g1, g2, g3⟩ <;> rcases hcase q' box' hq' with ⟨j', κ', box1, k1, _, ⟨k3, k4⟩ | ⟨k3, rfl, k4⟩⟩ | ⟨k1, k2, k3⟩
      ·simp only [g4, k4] at hm
       have := hinj _ _ hm
       subst this
       rw [g1] at k1
       cases k1
       rw [g3] at k3
       cases k3
       rfl
      ·simp only [g4, k4] at hm
       have := hinj _ _ hm
       subst this
       rw [g1] at k1
       cases k1
       rw [g3] at k3
       cases k3
      ·simp only [g4, k3] at hm
       exact absurd (hm ▸ (h.bx q' box' k1).1) (hkey j (by have := hjl _ _ g1; omega)).1
      ·simp only [g4, k4] at hm
       have := hinj _ _ hm
       subst this
       rw [g1] at k1
       cases k1
       rw [g3] at k3
       cases k3
      ·simp only [g4, k4] at hm
       exact hm
      ·simp only [g4, k3] at hm
       exact absurd (hm ▸ (h.bx q' box' k1).1) (hkey j (by have := hjl _ _ g1; omega)).1
      ·simp only [g3, k4] at hm
       exact absurd (hm ▸ (h.bx q box g1).1) (hkey j' (by have := hjl _ _ k1; omega)).1
      ·simp only [g3, k4] at hm
       exact absurd (hm ▸ (h.bx q box g1).1) (hkey j' (by have := hjl _ _ k1; omega)).1
      ·simp only [g3, k3] at hm
       exact hm
     ·unfold updT at ht ⊢
      by_cases et : o.dst = some t
      ·rw [if_pos et] at ht ⊢
       cases ht
       exact ⟨_, rfl, fun S v hv => res_swap (fun b cs hm c hc k hk => hFG k (hcv b cs hm c hc k hk)) hv⟩
      ·rw [if_neg et] at ht ⊢
       exact ⟨av, ht, fun S v hv => hv⟩
    ·cases he
   ·cases he
  ·cases he
 ·cases he
theorem lk_filt {β : Type} (p : Key → Bool) (k : Key) : ∀ (l : List (Key × β)), lk (l.filter fun x => p x.1) k = if p k = true then lk l k else none
 | [] => by simp [lk]
 | (q, b) :: r => by
  have ih := lk_filt p k r
  by_cases hq : p q = true
  ·rw [List.filter_cons_of_pos (by simpa using hq)]
   by_cases e : k = q
   ·subst e; simp [lk, hq]
   ·rw [show lk ((q, b) :: r.filter fun x => p x.1) k = lk (r.filter fun x => p x.1) k from if_neg e, show lk ((q, b) :: r) k = lk r k from if_neg e]; exact ih
  ·rw [List.filter_cons_of_neg (by simpa using hq), ih]
   by_cases e : k = q
   ·subst e; simp [hq]
   ·rw [show lk ((q, b) :: r) k = lk r k from if_neg e]
theorem updB_drop {lb lb' : Key → Option Box} (hb : ∀ t x, lb' t = some x → lb t = some x) {e : Eff} : updB lb (dropUp lb' e).up = updB lb e.up := by
 funext k
 unfold updB dropUp
 simp only
 rw [lk_filt (fun k => !sameUp lb' e.up k)]
 by_cases hs : sameUp lb' e.up k = true
 ·rw [if_neg (by simp [hs])]
  unfold sameUp at hs
  split at hs
  ·rename_i b b' h1 h2
   rw [h2, ← boxEq_ok hs]
   exact hb _ _ h1
  ·cases hs
 ·rw [if_pos (by simp [hs])]
theorem effCall_sound (h : Rel V X Z w0 N ρ ok lt lb a w) (ho : ∀ q : Key, ok q → ok' q) (hd : ∀ k, o.dst = some k → k < N) (hl : ∀ t x, lt' t = some x → lt t = some x) (hb : ∀ t x, lb' t = some x → lb t = some x) {cur : Nat} {key : Nat → Key} (hinj : ∀ i j, key i = key j → i = j) (hkey : ∀ j, j < 64 → ¬ ok (key j) ∧ ok' (key j))
    {call : CallF} {lend : FuncId → Bool} (hcall : CallOk P call) {c : Call} {f : Operand} (hop : o.op = .call c) (hc : c.callee = .value f) (he : effCall P call lend cur key f c.args.toList lt' lb' = some e) (hn : e.needs = []) : o.wp P a w (Aft V X Z w0 N ok' lt lb o.dst e) Q := by
 unfold effCall at he
 split at he
 ·rename_i e' he'
  cases he
  exact effCall0_sound h ho hd hl hb hinj hkey hcall hop hc he' hn
 ·split at he
  ·rename_i g caps hg
   split at he
   ·rename_i hbod
    split at he
    ·rename_i xs hargs
     obtain ⟨e0, h0, rfl⟩ := Option.map_eq_some_iff.1 he
     have := effG_sound (Q := Q) h ho hd hl hb hinj hkey hcall hop hc hg hbod hargs h0
     unfold Aft at this ⊢
     rw [updB_drop hb]
     exact this
    ·cases he
   ·cases he
  ·cases he
end
end Go.Proofs.YtjpdemikmdfonaaGreatDoor
namespace Go.Proofs.YtjpdemikmdfonaaGreatDoor
open Go Go.RowKit
set_option linter.unusedSimpArgs false
set_option linter.unusedVariables false
section
variable {V X : Nat → Prop} {Z : Key → Hd} {w0 w : World} {N : Nat} {ρ : Key → Hd} {ok ok' : Key → Prop} {lt lt' : Nat → Option AV} {lb lb' : Key → Option Box} {a : Act} {P : Program} {o : Oper} {e : Eff} {Q : Exit → Act → World → Prop}
theorem capOf_sound {S : Nat → Prop} {c : C} {p : Cap} {v : Value} (he : capOf c = some p) (hv : CRel S ρ ok w c v) : CapRel S ρ ok w p v := by
 cases c <;> simp [capOf] at he <;> subst he <;> exact hv
theorem caps_sound (h : Rel V X Z w0 N ρ ok lt lb a w) (hl : ∀ t x, lt' t = some x → lt t = some x) : ∀ {xs : List Operand} {caps : List Cap}, (xs.mapM fun x => ((ev lt' x).bind slot1).bind capOf) = some caps → Caps (CapRel (Im V ρ lb) ρ ok w) caps (xs.map a.eval)
 | [], caps, he => by simp at he; subst he; exact .nil
 | x :: xs, caps, he => by
  simp only [List.mapM_cons, Option.bind_eq_bind, Option.pure_def] at he
  obtain ⟨p, h1, he⟩ := Option.bind_eq_some_iff.1 he
  obtain ⟨ps, h2, he⟩ := Option.bind_eq_some_iff.1 he
  cases he
  obtain ⟨c, h3, h4⟩ := Option.bind_eq_some_iff.1 h1
  obtain ⟨av, h5, h6⟩ := Option.bind_eq_some_iff.1 h3
  exact .cons (capOf_sound h4 (slot1_sound h6 (ev_sound h hl h5))) (caps_sound h hl h2)
theorem effMakeFunc_sound (h : Rel V X Z w0 N ρ ok lt lb a w) (ho : ∀ q : Key, ok q → ok' q) (hd : ∀ k, o.dst = some k → k < N) (hl : ∀ t x, lt' t = some x → lt t = some x)
    {fn : Fn} {first captured : Array Operand} (hop : o.op = .makeFunc fn first captured) (he : effMakeFunc fn first.toList captured.toList lt' = some e) : o.wp P a w (Aft V X Z w0 N ok' lt lb o.dst e) Q := by
 unfold effMakeFunc at he
 split at he
 ·rename_i g hf
  have hf' : first = #[] := by apply Array.ext'; exact hf
  split at he
  ·rename_i hemp
   cases he
   have hc' : captured = #[] := by apply Array.ext'; simpa using hemp
   refine sound_pure h ho hd rfl (v := .func (.func g) #[] #[]) ?_ (one1 (.v rfl))
   simp [execOp, hop, Instr.makeFunc, hf', hc']
  ·obtain ⟨caps, h1, rfl⟩ := Option.map_eq_some_iff.1 he
   refine sound_pure h ho hd rfl (v := .func (.func g) #[] (captured.toList.map a.eval).toArray) ?_ (one1 ⟨_, rfl, caps_sound h hl h1⟩)
   have e1 : (captured.toList.map a.eval).toArray = captured.map a.eval := by rw [← Array.toList_map]
   rw [e1]
   simp [execOp, hop, Instr.makeFunc, hf']
 ·cases he
theorem effMakeMap_sound (h : Rel V X Z w0 N ρ ok lt lb a w) (ho : ∀ q : Key, ok q → ok' q) (hd : ∀ k, o.dst = some k → k < N) {key : Nat → Key} (hk : ¬ ok (key 0)) (hk' : ok' (key 0)) {t : TypeId} (hop : o.op = .makeMap t none) : o.wp P a w (Aft V X Z w0 N ok' lt lb o.dst { av := .one false [.mp (key 0)], up := [(key 0, some (.mp #[] 0))] }) Q := by
 have hfin : ∃ ρ', Rel V X Z w0 N ρ' ok' (updT lt o.dst (.one false [.mp (key 0)])) (updB lb [(key 0, some (.mp #[] 0))]) (a.put o.dst (.map (some w.heap.size))) (w.alloc (.map #[] 0)) :=
  ⟨updR ρ (key 0) ⟨none, some w.heap.size, 0, 0, 0⟩, h.new o.dst _ _ hd (key 0) hk _ _ (fun b hb => by cases hb; simp) hk' ho (Keep.alloc _ _ _) (one1 ⟨hk', w.heap.size, by rw [updR_same], rfl⟩) ⟨w.heap.size, by rw [updR_same], by show (w.heap.push (Obj.map #[] 0))[w.heap.size]? = _; simp⟩⟩
 obtain ⟨ρ', hfin⟩ := hfin
 refine wp_val ?_ ⟨ρ', hfin⟩
 simp [execOp, hop, Instr.makeMap, newObj, Sem.run]
theorem mapFind_sound {t : TypeId} {empty : Bool} {k : Value} {es : List MapEntry} {et : TypeId} {r : Option (Nat × Value)} (he : mapFind P t empty k es = some (et, r)) (w : World) : ∃ kt, P.underlying t = some (.map kt et) ∧ (Instr.checkKey empty 10000 kt k).run P w = .ok () w ∧ (Instr.findKey kt k es).run P w = .ok r w := by
 unfold mapFind at he
 split at he
 ·rename_i kt et' hu
  split at he
  ·rename_i u r' h1 h2
   cases he
   exact ⟨kt, hu, semVal_run h1 w, semVal_run h2 w⟩
  ·cases he
 ·cases he
theorem lookup_run {t kt et : TypeId} {b : Nat} {k v : Value} {cok bb : Bool} {es : Array MapEntry} {ck : Nat} {r : Option (Nat × Value)} (f1 : P.underlying t = some (.map kt et)) (hobj : w.heap[b]? = some (.map es ck)) (f2 : (Instr.checkKey es.isEmpty 10000 kt k).run P w = .ok () w) (f3 : (Instr.findKey kt k es.toList).run P w = .ok r w)
    (hr : (∃ i, r = some (i, v) ∧ bb = true) ∨ (r = none ∧ (zeroValue et).run P w = .ok v w ∧ bb = false)) : (Instr.lookup t (.map (some b)) k cok).run P w = .ok (if cok then .tuple #[v, .bool bb] else v) w := by
 have hobj' : (getObj b).run P w = .ok (.map es ck) w := by simp [getObj, Sem.run, hobj]
 unfold Instr.lookup
 rcases hr with ⟨i, rfl, rfl⟩ | ⟨rfl, hz, rfl⟩
 ·simp [run_underlying f1, hobj', f2, f3]
 ·simp [run_underlying f1, hobj', f2, f3, hz]
theorem effLookup_sound (h : Rel V X Z w0 N ρ ok lt lb a w) (ho : ∀ q : Key, ok q → ok' q) (hd : ∀ k, o.dst = some k → k < N) (hl : ∀ t x, lt' t = some x → lt t = some x) (hb : ∀ t x, lb' t = some x → lb t = some x)
    {t : TypeId} {x ix : Operand} {cok : Bool} (hop : o.op = .lookup t x ix cok) (he : effLookup P t x ix cok lt' lb' = some e) : o.wp P a w (Aft V X Z w0 N ok' lt lb o.dst e) Q := by
 unfold effLookup at he
 split at he
 ·rename_i q k hx hk
  obtain ⟨av, h1, h2⟩ := Option.bind_eq_some_iff.1 hx
  obtain ⟨av2, h3, h4⟩ := Option.bind_eq_some_iff.1 hk
  obtain ⟨hok, b, g1, hxv⟩ := slot1_sound h2 (ev_sound h hl h1)
  have hkv := conV_sound h4 (ev_sound h hl h3)
  split at he
  ·rename_i es ck hq
   obtain ⟨b', g2, g3⟩ := (h.bx q _ (hb _ _ hq)).2
   obtain rfl : b' = b := by rw [g1] at g2; cases g2; rfl
   split at he
   ·rename_i et r hfind
    obtain ⟨kt, f1, f2, f3⟩ := mapFind_sound hfind w
    split at he
    ·rename_i v bb hvb
     have hr : (∃ i, r = some (i, v) ∧ bb = true) ∨ (r = none ∧ (zeroValue et).run P w = .ok v w ∧ bb = false) := by
      cases r with
      | some p => simp at hvb; exact .inl ⟨p.1, by rw [← hvb.1], hvb.2⟩
      | none =>
       obtain ⟨v', z1, z2⟩ := Option.map_eq_some_iff.1 hvb
       cases z2
       exact .inr ⟨rfl, semVal_run z1 w, rfl⟩
     have hrun := lookup_run (cok := cok) f1 g3 f2 f3 hr
     have fin : ∀ c, cellC v = some c → e = { av := if cok then .tup [(false, [c]), (false, [.d (.v (.bool bb))])] else .one false [c] } → o.wp P a w (Aft V X Z w0 N ok' lt lb o.dst e) Q := by
      intro c hc hee
      have hcv : CRel (Im V ρ lb) ρ ok w c v := cellC_sound hc
      subst hee
      refine sound_pure h ho hd rfl (v := if cok then .tuple #[v, .bool bb] else v) ?_ ?_
      ·simp [execOp, hop, hxv, hkv, hrun]
      ·cases cok with
       | true => exact ⟨[v, .bool bb], rfl, .cons ⟨[v], .cons hcv .nil, by simp⟩ (.cons ⟨[.bool bb], .cons (.v rfl) .nil, by simp⟩ .nil)⟩
       | false => exact one1 hcv
     split at he
     ·cases he
     ·obtain ⟨c, hc, hee⟩ := Option.map_eq_some_iff.1 he
      exact fin c hc hee.symm
    ·cases he
   ·cases he
  ·cases he
 ·cases he
theorem effMapUpdate_sound (h : Rel V X Z w0 N ρ ok lt lb a w) (ho : ∀ q : Key, ok q → ok' q) (hd : ∀ k, o.dst = some k → k < N) (hl : ∀ t x, lt' t = some x → lt t = some x) (hb : ∀ t x, lb' t = some x → lb t = some x)
    {t : TypeId} {x ix y : Operand} (hop : o.op = .mapUpdate t x ix y ∨ o.op = .insert t x ix y) (he : effMapUpdate P t x ix y lt' lb' = some e) : o.wp P a w (Aft V X Z w0 N ok' lt lb o.dst e) Q := by
 unfold effMapUpdate at he
 split at he
 ·rename_i q k v hx hk hy
  obtain ⟨av, h1, h2⟩ := Option.bind_eq_some_iff.1 hx
  obtain ⟨av2, h3, h4⟩ := Option.bind_eq_some_iff.1 hk
  obtain ⟨av3, h5, h6⟩ := Option.bind_eq_some_iff.1 hy
  obtain ⟨hok, b, g1, hxv⟩ := slot1_sound h2 (ev_sound h hl h1)
  have hkv := conV_sound h4 (ev_sound h hl h3)
  have hyv := conV_sound h6 (ev_sound h hl h5)
  split at he
  ·rename_i es ck hq
   obtain ⟨b', g2, g3⟩ := (h.bx q _ (hb _ _ hq)).2
   obtain rfl : b' = b := by rw [g1] at g2; cases g2; rfl
   have hobj' : (getObj b').run P w = .ok (.map es ck) w := by simp [getObj, Sem.run, g3]
   have hlt : b' < w.heap.size := (h.lo q _ b' (hb _ _ hq) rfl g1).1
   have fin : ∀ (es' : Array MapEntry) (ck' : Nat), (Instr.mapUpdate t (.map (some b')) k v).run P w = .ok () { w with heap := w.heap.setIfInBounds b' (.map es' ck') } → e = { av := .un, up := [(q, some (.mp es' ck'))] } → o.wp P a w (Aft V X Z w0 N ok' lt lb o.dst e) Q := by
    intro es' ck' hrun hee
    subst hee
    have hw : Keep (fun k => k ≠ b') w { w with heap := w.heap.setIfInBounds b' (.map es' ck') } := ⟨rfl, rfl, rfl, by simp, fun k _ hk => by simp [Array.getElem?_setIfInBounds_ne (Ne.symm hk)]⟩
    refine wp_no (w' := { w with heap := w.heap.setIfInBounds b' (.map es' ck') }) ?_ ⟨ρ, h.set (box1 := .mp es' ck') ho (hb _ _ hq) rfl rfl g1 hw ⟨b', g1, by simp [hlt]⟩ o.dst hd⟩
    rcases hop with hop | hop <;> simp [execOp, hop, hxv, hkv, hyv, hrun]
   split at he
   ·rename_i et i old hfind
    obtain ⟨kt, f1, f2, f3⟩ := mapFind_sound hfind w
    split at he
    ·rename_i hsb
     cases he
     refine fin _ _ ?_ rfl
     unfold Instr.mapUpdate
     simp [run_underlying f1, hobj', f2, f3, Instr.keyThatStays, hsb, setObj, Sem.run, g3]
    ·cases he
   ·rename_i et hfind
    cases he
    obtain ⟨kt, f1, f2, f3⟩ := mapFind_sound hfind w
    refine fin _ _ ?_ rfl
    unfold Instr.mapUpdate
    simp [run_underlying f1, hobj', f2, f3, setObj, Sem.run, g3]
   ·cases he
  ·cases he
 ·cases he
end
end Go.Proofs.YtjpdemikmdfonaaGreatDoor
namespace Go.Proofs.YtjpdemikmdfonaaGreatDoor
open Go Go.RowKit
set_option linter.unusedSimpArgs false
set_option linter.unusedVariables false
section
variable {V X : Nat → Prop} {Z : Key → Hd} {w0 w w' : World} {N : Nat} {ρ : Key → Hd} {ok ok' : Key → Prop} {lt lt' : Nat → Option AV} {lb lb' lb2 : Key → Option Box} {a : Act} {P : Program} {o : Oper} {e : Eff} {Q : Exit → Act → World → Prop}
theorem effSliceData_sound (h : Rel V X Z w0 N ρ ok lt lb a w) (ho : ∀ q : Key, ok q → ok' q) (hd : ∀ k, o.dst = some k → k < N) (hl : ∀ t x, lt' t = some x → lt t = some x) (hb : ∀ t x, lb' t = some x → lb t = some x)
    {t : TypeId} {x : Operand} (hop : o.op = .call { callee := .builtin .unsafeSliceData, args := #[x], argTypes := #[t] }) (he : effSliceData P t x lt' lb' = some e) : o.wp P a w (Aft V X Z w0 N ok' lt lb o.dst e) Q := by
 unfold effSliceData at he
 split at he
 ·rename_i el q hu hx
  split at he
  ·rename_i ty sz rows hq
   split at he
   ·rename_i hc
    cases he
    obtain ⟨av, hx1, hx2⟩ := Option.bind_eq_some_iff.1 hx
    obtain ⟨hok, hv⟩ := slot1_sound hx2 (ev_sound h hl hx1)
    obtain ⟨n1, n2, n3, n4, n5, n6⟩ := (h.bx q _ (hb _ _ hq)).2
    rcases n6 with ⟨_, rfl, _⟩ | ⟨b, vs, sp, g1, g2, g3, g5, g6⟩
    ·simp at hc
    ·refine sound_pure h ho hd rfl (v := .pointer (some ⟨b, 0, none⟩)) ?_ (one1 ⟨hok, b, g1, by simp⟩)
     simp [execOp, hop, resolve, invoke, builtin, hv, g2, Lib.run_unsafeSliceData_row (P := P) w _ _ _ _ _ (show (ρ q).cap ≠ 0 by omega)]
   ·cases he
  ·cases he
 ·cases he
theorem keep_freeze (g n : Nat) (w : World) : Keep (fun k => k ≠ g) w (w.freeze ⟨g, 0, none⟩ n) := by
 unfold World.freeze
 split
 ·exact Keep.refl _ _
 ·exact ⟨rfl, rfl, rfl, by simp, fun k hk hne => by
    simp only [Array.getElem?_modify]
    rw [if_neg (fun h => hne h.symm)]⟩
theorem effUnsafeStr_sound (h : Rel V X Z w0 N ρ ok lt lb a w) (ho : ∀ q : Key, ok q → ok' q) (hd : ∀ k, o.dst = some k → k < N) (hl : ∀ t x, lt' t = some x → lt t = some x) (hb : ∀ t x, lb' t = some x → lb t = some x)
    {pt it : TypeId} {p n : Operand} (hop : o.op = .call { callee := .builtin .unsafeString, args := #[p, n], argTypes := #[pt, it] }) (he : effUnsafeStr P pt p n lt' lb' = some e) : o.wp P a w (Aft V X Z w0 N ok' lt lb o.dst e) Q := by
 unfold effUnsafeStr at he
 split at he
 ·rename_i el q k hu hx hn
  split at he
  ·rename_i ty sz rows hq
   split at he
   ·rename_i hc
    split at he
    ·rename_i l hl0
     split at he
     ·rename_i hall
      cases he
      obtain ⟨rfl, rfl, c3, c4, c5⟩ := hc
      obtain ⟨av, hx1, hx2⟩ := Option.bind_eq_some_iff.1 hx
      obtain ⟨av2, hn1, hn2⟩ := Option.bind_eq_some_iff.1 hn
      obtain ⟨hok, b', hg', hv⟩ := slot1_sound hx2 (ev_sound h hl hx1)
      have hnv := conV_sound hn2 (ev_sound h hl hn1)
      obtain ⟨n1, n2, n3, n4, n5, n6⟩ := (h.bx q _ (hb _ _ hq)).2
      rcases n6 with ⟨y1, _, _⟩ | ⟨b, vs, sp, g1, g2, g3, g5, g6⟩
      ·rw [y1] at hg'; cases hg'
      ·obtain rfl : b = b' := by rw [g1] at hg'; cases hg'; rfl
       obtain ⟨l8, hl8⟩ : ∃ l8, l8 = l.map fun n => UInt8.ofNat n.toNat := ⟨_, rfl⟩
       have hfl := rowNums_flat hl0
       have hll : l.length = k.toNat := by
        have h1 := congrArg List.length hfl.1
        rw [flat_len (sz := 1) (fun i row hi => n5 i row (by rw [List.getElem?_take] at hi; split at hi; exact hi; cases hi)), List.length_take, List.length_map] at h1
        omega
       have hk8 : l8.length = k.toNat := by rw [hl8, List.length_map, hll]
       have hvl := g5.length
       rw [List.length_map, flat_len n5] at hvl
       have hcells : ∀ j x, l8[j]? = some x → w.cell? ((⟨b, 0, none⟩ : Addr).add j) = some (.int .u8 x.toNat) := by
        intro j x hj
        rw [Addr.add_lit, Nat.zero_add, g3.cell]
        have hA := (g5.take k.toNat)
        have hft := flat_take n5 k.toNat
        rw [Nat.mul_one] at hft
        rw [← List.map_take, hft, hfl.1] at hA
        have hu := all2_nums hA
        have hjl : j < l.length := by
         rcases Nat.lt_or_ge j l8.length with g | g
         ·omega
         ·rw [List.getElem?_eq_none g] at hj; cases hj
        have hx0 : l[j]? = some l[j] := List.getElem?_eq_getElem hjl
        have hxe : x = UInt8.ofNat (l[j]).toNat := by
         rw [hl8, List.getElem?_map, hx0] at hj
         cases hj; rfl
        have hr := List.all_eq_true.1 hall l[j] (List.getElem_mem hjl)
        have hr := of_decide_eq_true hr
        have hv0 : (vs.take k.toNat)[j]? = some (.int .u8 l[j]) := by rw [hu, List.getElem?_map, hx0]; rfl
        have hv1 : vs[j]? = some (.int .u8 l[j]) := by
         rw [List.getElem?_take] at hv0
         split at hv0
         ·exact hv0
         ·cases hv0
        have hjv : j < vs.length := by omega
        simp only [List.getElem?_toArray]
        rw [List.getElem?_append_left hjv, hv1, hxe]
        have : ((UInt8.ofNat (l[j]).toNat).toNat : Int) = l[j] := by
         rw [UInt8.toNat_ofNat', Nat.mod_eq_of_lt (by omega)]
         omega
        rw [this]
       have hsh : w.shape? b = some (ty, (vs ++ sp).length) := by
        have := g3
        unfold Blk at this
        simp [World.shape?, this]
       have hrun : (execOp a.eval o).run P w = .ok (.value (.string ⟨l8.toArray⟩)) (w.freeze ⟨b, 0, none⟩ k.toNat) := by
        have := Lib.run_unsafeString_row (P := P) w pt it o.type ty hu c3 b _ hsh l8 (by intro e; rw [e] at hk8; simp at hk8; omega) (by rw [hk8, List.length_append]; omega) (by omega) hcells
        rw [hk8] at this
        have e1 : ((k.toNat : Nat) : Int) = k := by omega
        rw [e1] at this
        simp at hv
        simp [execOp, hop, resolve, invoke, builtin, hv, hnv, this]
       have hw := keep_freeze b k.toNat w
       have hlb : ∀ q' box, updB lb [(q, none)] q' = some box → q' ≠ q ∧ lb q' = some box := fun q' box hq' => by
        rw [updB_one] at hq'
        split at hq'
        ·cases hq'
        ·rename_i hne; exact ⟨hne, hq'⟩
       refine wp_val hrun ⟨ρ, ?_⟩
       rw [← hl8]
       refine h.step2 o.dst _ _ hd (hw.mono fun b' _ hi hbb => hi.2 q _ (hb _ _ hq) rfl (by rw [g1, hbb])) (fun b' _ hi => ⟨hi.1, fun q' box hq' hl' => hi.2 q' box (hlb q' box hq').2 hl'⟩) (fun _ _ => rfl) ho (one1 (.v rfl)) (fun q' box hq' => .inl ⟨(hlb q' box hq').2, fun hl' bb hgb => hw.block bb (h.lo q' box bb (hlb q' box hq').2 hl' hgb).1 (fun ebb => (hlb q' box hq').1 ?_)⟩) (fun q1 b1 q2 b2 bb e1 l1 e2 l2 x1 x2 => h.ap q1 b1 q2 b2 bb (hlb q1 b1 e1).2 l1 (hlb q2 b2 e2).2 l2 x1 x2) (fun q' box bb hq' hl' hgb => ?_) ?_
       ·subst ebb
        exact h.ap q' box q _ bb (hlb q' box hq').2 hl' (hb _ _ hq) rfl hgb g1
       ·have := h.lo q' box bb (hlb q' box hq').2 hl' hgb
        exact ⟨Nat.lt_of_lt_of_le this.1 hw.size, this.2⟩
       ·exact Keep.out h (hw.mono fun b' _ hi hbb => hi q _ (hb _ _ hq) rfl (by rw [g1, hbb]))
     ·cases he
    ·cases he
   ·cases he
  ·cases he
 ·cases he
theorem effPtrNil_sound (h : Rel V X Z w0 N ρ ok lt lb a w) (ho : ∀ q : Key, ok q → ok' q) (hd : ∀ k, o.dst = some k → k < N) (hl : ∀ t x, lt' t = some x → lt t = some x)
    {op : BinOp} {t ty : TypeId} {x y : Operand} (hop : o.op = .binOp op t x y ty) (he : effPtrNil P op t x y lt' = some e) : o.wp P a w (Aft V X Z w0 N ok' lt lb o.dst e) Q := by
 unfold effPtrNil at he
 split at he
 ·rename_i el c hu hx hy
  split at he
  ·rename_i hp
   obtain ⟨av, hx1, hx2⟩ := Option.bind_eq_some_iff.1 hx
   obtain ⟨av2, hy1, hy2⟩ := Option.bind_eq_some_iff.1 hy
   obtain ⟨ad, had⟩ := isPtr_sound hp (slot1_sound hx2 (ev_sound h hl hx1))
   have hyv := conV_sound hy2 (ev_sound h hl hy1)
   have heq : ∀ d : Nat, (Op.equalIn (d + 1) t (.pointer (some ad)) (.pointer none)).run P w = .ok false w := fun d => by simp [Op.equalIn, run_underlying hu]
   have e1 : (binOp .eql t (.pointer (some ad)) (.pointer none)).run P w = .ok (.bool false) w := by
    simp only [binOp]
    simp [Op.equal, Op.maxDepth, heq 9999]
   have e2 : (binOp .neq t (.pointer (some ad)) (.pointer none)).run P w = .ok (.bool true) w := by
    simp only [binOp]
    simp [Op.equal, Op.maxDepth, heq 9999]
   split at he
   ·cases he
    refine sound_pure h ho hd rfl (v := .bool false) ?_ (one1 (.v rfl))
    simp [execOp, hop, had, hyv, eqGuard, e1]
   ·cases he
    refine sound_pure h ho hd rfl (v := .bool true) ?_ (one1 (.v rfl))
    simp [execOp, hop, had, hyv, eqGuard, e2]
   ·cases he
  ·cases he
 ·cases he
end
theorem op_sound {P : Program} {call : CallF} {lend : FuncId → Bool} (hcall : CallOk P call) : OpSound P call lend := by
 intro V X Z w0 w N ρ ok ok' lt lt' lb lb' a o e cur key Q h ho hd hl hb hinj hkey he hn
 have hk0 := hkey 0 (by omega)
 unfold effOf at he
 split at he
 ·rename_i x hop
  obtain ⟨av, h1, rfl⟩ := Option.map_eq_some_iff.1 he
  exact sound_pure h ho hd rfl (by simp [execOp, hop]) (ev_sound h hl h1)
 ·rename_i x hop
  obtain ⟨av, h1, rfl⟩ := Option.map_eq_some_iff.1 he
  exact sound_pure h ho hd rfl (by simp [execOp, hop]) (ev_sound h hl h1)
 ·rename_i c x y hop
  split at he
  ·rename_i b hc
   obtain ⟨av, h1, rfl⟩ := Option.map_eq_some_iff.1 he
   have hcv : a.eval c = .bool b := conV_sound (x := .bool b) rfl (ev_sound h hl hc)
   cases b with
   | true => exact sound_pure h ho hd rfl (v := a.eval x) (by simp [execOp, hop, hcv, asBool]) (ev_sound h hl (by simpa using h1))
   | false => exact sound_pure h ho hd rfl (v := a.eval y) (by simp [execOp, hop, hcv, asBool]) (ev_sound h hl (by simpa using h1))
  ·cases he
 ·rename_i t hop
  split at he
  ·rename_i z hz
   obtain ⟨cs, h1, rfl⟩ := Option.map_eq_some_iff.1 he
   obtain ⟨i, hi, hz'⟩ := Option.bind_eq_some_iff.1 hz
   obtain ⟨ρ', hfin⟩ := h.newSt hk0.1 hk0.2 ho t (cellCs_sound h1) o.dst hd
   refine wp_val ?_ ⟨ρ', hfin⟩
   simp [execOp, hop, Instr.alloc, zeroValue, typeInfo, hi, hz', newVar, newRow]
  ·cases he
 ·rename_i t x hop
  obtain ⟨cs, h1, rfl⟩ := Option.map_eq_some_iff.1 he
  obtain ⟨av, h2, h3⟩ := Option.bind_eq_some_iff.1 h1
  obtain ⟨vs, k1, k2, k3⟩ := cellsOfAV_sound h3 (ev_sound h hl h2)
  obtain ⟨ρ', hfin⟩ := h.newSt hk0.1 hk0.2 ho t k1 o.dst hd
  refine wp_val ?_ ⟨ρ', hfin⟩
  simp [execOp, hop, Instr.box, newVar, newRow, k2]
 ·rename_i t parts hop
  obtain ⟨cs, h1, rfl⟩ := Option.map_eq_some_iff.1 he
  obtain ⟨ps, h2, h3⟩ := Option.bind_eq_some_iff.1 h1
  obtain ⟨vs, k1, k2⟩ := aBuilt_sound (fun vs cs => cellCs_sound) (evParts_sound h hl h2) h3
  refine sound_pure h ho hd rfl (v := .agg vs.toArray) ?_ (oneAgg k2)
  have := run_build (P := P) w t (parts.map fun (i, x) => (i, a.eval x)) vs.toArray (by rw [Array.toList_map]; exact k1)
  simp [execOp, hop, this]
 ·rename_i t len parts hop
  exact effBuildSlice_sound h ho hd hl hb hk0.1 hk0.2 hop he hn
 ·rename_i t x hop
  exact effLoad_sound h ho hd hl hb hop he
 ·rename_i t x y hop
  exact effStore_sound h ho hd hl hb hop he hn
 ·rename_i x hop
  split at he
  ·rename_i c hc
   split at he
   ·rename_i hp
    cases he
    obtain ⟨av, h2, h3⟩ := Option.bind_eq_some_iff.1 hc
    have hv := slot1_sound h3 (ev_sound h hl h2)
    obtain ⟨ad, had⟩ := isPtr_sound hp hv
    refine sound_pure h ho hd rfl (v := a.eval x) ?_ (one1 hv)
    simp [execOp, hop, had]
   ·cases he
  ·cases he
 ·rename_i s x f hop
  split at he
  ·rename_i fields c hu hc
   split at he
   ·rename_i fd hfd
    split at he
    ·rename_i sz hsz
     split at he
     ·cases he
     ·rename_i hne
      obtain ⟨c', h1, rfl⟩ := Option.map_eq_some_iff.1 he
      obtain ⟨av, h2, h3⟩ := Option.bind_eq_some_iff.1 hc
      obtain ⟨b, o', k1, k2⟩ := addOff_sound h1 (slot1_sound h3 (ev_sound h hl h2))
      refine sound_pure h ho hd rfl ?_ (one1 k2)
      simp [execOp, hop, Instr.fieldAt, run_underlying hu, hfd, Instr.sureAddr, k1, fieldPlace, size_run hsz, hne, Addr.add_lit]
    ·cases he
   ·cases he
  ·cases he
 ·rename_i t x ix hop
  exact effIndexAddr_sound h ho hd hl hb hop he
 ·rename_i t x f hop
  split at he
  ·rename_i fields cs hu hx
   split at he
   ·rename_i fd hfd
    obtain ⟨vs, u1, u2⟩ := ev_sound h hl hx
    simp only [if_true] at u2
    split at he
    ·rename_i sz hg hs
     split at he
     ·rename_i hle
      cases he
      have hl1 := u1.length
      refine sound_pure h ho hd rfl (v := .agg ((vs.drop fd.offset).take sz).toArray) ?_ (oneAgg ((u1.drop _).take _))
      have e1 : vs.toArray.extract fd.offset (fd.offset + sz) = ((vs.drop fd.offset).take sz).toArray := by
       simp [List.extract_toArray, List.extract_eq_take_drop]
      simp [execOp, hop, Instr.field, run_underlying hu, hfd, asAgg, u2, part, agg_run hg, size_run hs]
      try (first | exact e1 | (simpa using e1))
     ·cases he
    ·rename_i sz hg hs
     obtain ⟨c, h1, rfl⟩ := Option.map_eq_some_iff.1 he
     obtain ⟨v, k1, k2⟩ := u1.get h1
     refine sound_pure h ho hd rfl (v := v) ?_ (one1 k2)
     simp [execOp, hop, Instr.field, run_underlying hu, hfd, asAgg, u2, part, agg_run hg, k1]
    ·cases he
   ·cases he
  ·cases he
 ·rename_i x i hop
  split at he
  ·rename_i xs hx
   obtain ⟨⟨b, cs⟩, h1, rfl⟩ := Option.map_eq_some_iff.1 he
   obtain ⟨vs, u1, u2⟩ := ev_sound h hl hx
   obtain ⟨v, k1, k2⟩ := u2.get h1
   refine sound_pure h ho hd rfl (v := v) ?_ k2
   simp [execOp, hop, Instr.extract, u1, k1]
  ·cases he
 ·rename_i t x lo hi mx hop
  split at he
  ·rename_i e0 h0
   cases he
   exact effSlice_sound h ho hd hl hop h0
  ·exact effSliceO_sound h ho hd hl hb hk0.1 hk0.2 hop he
 ·rename_i t l c hop
  exact effMakeSlice_sound h ho hd hl hk0.1 hk0.2 hop he
 ·rename_i c hop
  have hplain : ∀ {e' : Eff}, effPlain P lt' o = some e' → o.wp P a w (Aft V X Z w0 N ok' lt lb o.dst e') Q := fun he' => by
   obtain ⟨h1, v, h2, h3⟩ := effPlain_sound h hl he'
   exact sound_pure h ho hd h1 h2 h3
  split at he
  ·rename_i hcal
   split at he
   ·rename_i t x hat har
    split at he
    ·rename_i el hu
     obtain ⟨n, h1, rfl⟩ := Option.map_eq_some_iff.1 he
     obtain ⟨cc, h2, h3⟩ := Option.bind_eq_some_iff.1 h1
     obtain ⟨av, h4, h5⟩ := Option.bind_eq_some_iff.1 h2
     obtain ⟨A, cp, hv⟩ := lenC_sound h hb h3 (slot1_sound h5 (ev_sound h hl h4))
     refine sound_pure h ho hd rfl (v := .int .i64 n) ?_ (one1 (.v rfl))
     obtain ⟨callee, args, argTypes⟩ := c
     simp only at hcal hat har
     subst hcal
     have e1 : args = #[x] := by apply Array.ext'; exact har
     have e2 : argTypes = #[t] := by apply Array.ext'; exact hat
     subst e1
     subst e2
     simp [execOp, hop, resolve, invoke, builtin, Builtin.len_, run_underlying hu, hv, goInt]
    ·exact hplain he
   ·cases he
  ·rename_i hcal
   split at he
   ·rename_i t tx s x hat har
    obtain ⟨callee, args, argTypes⟩ := c
    simp only at hcal hat har
    subst hcal
    have e1 : args = #[s, x] := by apply Array.ext'; exact har
    have e2 : argTypes = #[t, tx] := by apply Array.ext'; exact hat
    subst e1
    subst e2
    exact effAppend_sound h ho hd hl hb hk0.1 hk0.2 hop he
   ·cases he
  ·rename_i hcal
   split at he
   ·rename_i t x hat har hdst
    obtain ⟨callee, args, argTypes⟩ := c
    simp only at hcal hat har
    subst hcal
    have e1 : args = #[x] := by apply Array.ext'; exact har
    have e2 : argTypes = #[t] := by apply Array.ext'; exact hat
    subst e1
    subst e2
    exact effClear_sound h ho hd hl hb hop hdst he
   ·cases he
  ·rename_i hcal
   split at he
   ·rename_i t x hat har
    obtain ⟨callee, args, argTypes⟩ := c
    simp only at hcal hat har
    subst hcal
    have e1 : args = #[x] := by apply Array.ext'; exact har
    have e2 : argTypes = #[t] := by apply Array.ext'; exact hat
    subst e1
    subst e2
    exact effSliceData_sound h ho hd hl hb hop he
   ·cases he
  ·rename_i hcal
   split at he
   ·rename_i pt it x n hat har
    obtain ⟨callee, args, argTypes⟩ := c
    simp only at hcal hat har
    subst hcal
    have e1 : args = #[x, n] := by apply Array.ext'; exact har
    have e2 : argTypes = #[pt, it] := by apply Array.ext'; exact hat
    subst e1
    subst e2
    exact effUnsafeStr_sound h ho hd hl hb hop he
   ·cases he
  ·exact hplain he
  ·rename_i f hcal
   exact effCall_sound h ho hd hl hb hinj hkey hcall hop hcal he hn
  ·cases he
 ·rename_i fn first captured hop
  exact effMakeFunc_sound h ho hd hl hop he
 ·rename_i t hop
  cases he
  exact effMakeMap_sound h ho hd hk0.1 hk0.2 hop
 ·rename_i t x ix cok hop
  exact effLookup_sound h ho hd hl hb hop he
 ·rename_i t m k x hop
  exact effMapUpdate_sound h ho hd hl hb (.inl hop) he
 ·rename_i t m k x hop
  exact effMapUpdate_sound h ho hd hl hb (.inr hop) he
 ·rename_i op t x y ty hop
  unfold orE at he
  split at he
  ·rename_i e0 _ h0
   cases he
   obtain ⟨h1, v, h2, h3⟩ := effPlain_sound h hl h0
   exact sound_pure h ho hd h1 h2 h3
  ·exact effPtrNil_sound h ho hd hl hop he
 ·obtain ⟨h1, v, h2, h3⟩ := effPlain_sound h hl he
  exact sound_pure h ho hd h1 h2 h3
 ·rename_i s t x hop
  exact effConv_sound h ho hd hl hb hop he
 ·obtain ⟨h1, v, h2, h3⟩ := effPlain_sound h hl he
  exact sound_pure h ho hd h1 h2 h3
 ·cases he
theorem acall_ok {P : Program} {A : Ann} (hm : P.follows .mixedOrders = true) (hext : CallOk P A.ext) (hcl : ∀ V X Z w0 N c st a w, SR V X Z w0 N st a w → SR V X Z w0 N (A.cl c st) a w) : ∀ n, CallOk P (acall P A n)
 | 0 => hext
 | n + 1 => fun f args bxs r he => by
  unfold acall at he
  split at he
  ·rename_i r' hr
   cases he
   exact hext f args bxs r hr
  ·split at he
   ·cases he
   exact afn_sound hm (fun _ => op_sound (acall_ok hm hext hcl n)) rfl hcl he
end Go.Proofs.YtjpdemikmdfonaaGreatDoor

