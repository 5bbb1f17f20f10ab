/- Rules of runs and contracts of functions, for the claims of one seat. -/
import Derived.HandedShaped
import Derived.Shelf.Vars
import Derived.Test.YtfnljcallbalgaaGreatDoorUA26
import Derived.Test.YtfnljcallbalgaaGreatDoorUA36
namespace Go.Proofs.YtfnljcallbalgaaGreatDoor
open Go Go.ChangeShapes Go.WideShapes Go.ChangeAt Go.RowKit Go.Joins Go.Deep
set_option linter.unusedSimpArgs false
set_option linter.unusedVariables false
set_option maxRecDepth 100000
def ρ0 : Key → Hd := fun _ => ⟨none, none, 0, 0, 0⟩
def S0 : Nat → Prop := Im (fun _ => False) ρ0 (lk ([] : List (Key × Box)))
theorem S0_all (b : Nat) : S0 b := ⟨fun h => h, fun q box hq => by cases hq⟩
def valArgs (xs : List (Bool × List C)) : List Arg := xs.map fun x => .val x.1 x.2
theorem argTm_val : ∀ (xs : List (Bool × List C)) (i t : Nat) (av : AV), lk (argTm i (valArgs xs)) t = some av → i ≤ t ∧ ∃ x, xs[t - i]? = some x ∧ av = .one x.1 x.2
 | [], i, t, av, h => by cases h
 | x :: xs, i, t, av, h => by
  have h' : (if t = i then some (AV.one x.1 x.2) else lk (argTm (i + 1) (valArgs xs)) t) = some av := h
  split at h'
  ·rename_i e
   subst e
   cases h'
   exact ⟨Nat.le_refl _, x, by simp, rfl⟩
  ·obtain ⟨h1, y, h2, h3⟩ := argTm_val xs (i + 1) t av h'
   refine ⟨by omega, y, ?_, h3⟩
   rw [show t - i = (t - (i + 1)) + 1 by omega, List.getElem?_cons_succ]
   exact h2
theorem argBx_val : ∀ (xs : List (Bool × List C)) (i : Nat), argBx i (valArgs xs) = []
 | [], _ => rfl
 | x :: xs, i => argBx_val xs (i + 1)
theorem calls_of_fn {P : Program} {f : FuncId} {xs : List (Bool × List C)} {vals : List Value} {w : World} (hg : Gl (fun _ => False) w) (h : FnSound P f (valArgs xs) [] { vals := [(false, [.d (.v (.bool true))])] }) (hl : vals.length = xs.length)
    (hv : ∀ (i : Nat) (x : Bool × List C), xs[i]? = some x → AVRel (CRel S0 ρ0 (fun q => q.2 < 1) w) (.one x.1 x.2) (vals.getD i undef)) : Calls P f vals.toArray w fun e w' => e = .returned (.bool true) ∧ Below w.heap.size w w' := by
 have := h (fun _ => False) (fun _ => False) ρ0 ρ0 w vals (by simp [valArgs, hl])
  ⟨by simp, rfl, (fun t av ht => by
   obtain ⟨_, x, h2, rfl⟩ := argTm_val xs 0 t av ht
   have h3 : xs[t]? = some x := by simpa using h2
   refine ⟨by rw [hl]; exact (List.getElem?_eq_some_iff.1 h3).1, ?_⟩
   have e1 : (⟨vals.toArray, []⟩ : Act).tmps.getD t undef = vals.getD t undef := by simp [Array.getD_eq_getD_getElem?]
   rw [e1, argBx_val]
   exact hv t x h3), (fun q box hq => by rw [argBx_val] at hq; cases hq), (fun q1 b1 q2 b2 b e1 => by rw [argBx_val] at e1; cases e1), (fun q box b hq => by rw [argBx_val] at hq; cases hq), Keep.refl _ _, ⟨fun b hb => False.elim hb, hg⟩, (fun q hq => ⟨by omega, rfl⟩)⟩
 refine this.mono ?_
 rintro e w' ⟨v, ρ', rfl, hR⟩
 have h1 := (hR.tm 0 _ rfl).2
 have h2 : v = .bool true := conV_sound (av := .one false [.d (.v (.bool true))]) (x := .bool true) rfl h1
 exact ⟨by rw [h2], hR.fr.below (Nat.le_refl _) (fun b _ h => h)⟩
section
variable {H : Type} {enc : TypeId × Value → H} {w : World} {base : Nat} {spare : Nat → Bool} {held : Bool} {S : Nat → Prop}
theorem open_stepsD (hS : ∀ b, S b) {fuel : Nat} {v : Value} {x : DataW H × List MemPlace} (hs : Sz Tryz.prog 26 x.1) (hf : DataW.trod enc Tryz.prog w base spare held fuel 26 [v] = some x) : ∃ l : List StepD, Rd S w (.sl 3 (dSteps l)) v := by
 have cI : Tryz.prog.cellsOf 3 = 1 := by kernel_rfl
 obtain ⟨l, h1, _, _⟩ := open_rd (S := S) hS stepRow (fun _ => True) Tryz.underlying26 (k := 3) (by kernel_rfl) (by decide) hs (by kernel_rfl) hf (fun cs y m hl ht hsy => by
  obtain ⟨n', _, hfd⟩ := trod_fields Tryz.underlying104 hsy ht
  match cs, hl with
  | [u0, u1, u2], _ =>
   obtain ⟨y0, t0, _⟩ := hfd 0 _ rfl
   obtain ⟨y1, t1, _⟩ := hfd 1 _ rfl
   obtain ⟨y2, t2, _⟩ := hfd 2 _ rfl
   simp [cI] at t0 t1 t2
   obtain ⟨z0, rfl, _⟩ := trod_i64 Tryz.underlying3 t0
   obtain ⟨z1, rfl, _⟩ := trod_i64 Tryz.underlying3 t1
   obtain ⟨z2, rfl, _⟩ := trod_i64 Tryz.underlying3 t2
   exact ⟨⟨z0, z1, z2⟩, .cons (.v rfl) (.cons (.v rfl) (.one (.v rfl))), trivial⟩)
 exact ⟨l, h1⟩
end
end Go.Proofs.YtfnljcallbalgaaGreatDoor

namespace Go.Proofs.YtfnljcallbalgaaGreatDoor
open Go Go.ChangeShapes Go.WideShapes Go.ChangeAt Go.RowKit Go.Joins Go.Deep
set_option linter.unusedSimpArgs false
set_option linter.unusedVariables false
set_option maxRecDepth 100000
theorem gl_shaped {W : World} (h : W.ShapedOpen Tryz.prog) : Gl (fun _ => False) W := fun b hb => by
 obtain rfl : b = 2 := by simpa [glB] using hb
 obtain ⟨m, hm⟩ := cell_of_shapedOpen_int (P := Tryz.prog) (w := W) (g := 2) (t := 3) (zero := #[.int .i64 0]) (k := .i64) h (of_decide_eq_true (by kernel_rfl)) (by kernel_rfl) rfl (by kernel_rfl) (by kernel_rfl) Tryz.underlying3
 exact ⟨fun hx => hx, World.block_lt_of_cell? _ _ hm, m, hm⟩
section
variable {H : Type} {enc : TypeId × Value → H}
theorem handed_shaped {a : Assume} {C : Checked} {os : Os} {f : FuncId} {fn : Func} {s : ChangeSpec} {conds : List PathCond} {apart fresh handsOn again : Bool} {X : World → Array Value → Prop}
    (hX : ∀ (w w' : World) (args : Array Value), w.heap = w'.heap → X w args → X w' args)
    (own : ownKnob C.prog.godebug = none) (started : os.Started) (noInit : C.prog.inits.idxOf? f = none) (hfn : C.prog.funcs[f]? = some fn)
    (witness : ∃ (w : World) (tape : Tape) (i : Input), w.os = os ∧ (w.forCall tape i).Shaped C.prog ∧ i.vars = [] ∧ Input.okWide C.prog (w.forCall tape i) .any w.heap.size f i ∧
     ((s.pre enc C.prog fn conds apart (w.forCall tape i).memory i.args ∧ X (w.forCall tape i).memory i.args) ∧ sizedMet enc C.prog fn (OpenSpec.ofChange s) apart (w.forCall tape i).memory i.args) ∧ a.holds C.prog (lone (Frame.enter C.prog f i.args .normal) [] (w.forCall tape i)))
    (contract : ∀ (W : World) (base : Nat) (args : Array Value) (ds gs : List (DataW H)) (before : List MemPlace),
     (∀ (j : Nat) t v, fn.params[j]? = some t → args[j]? = some v → Value.okWide C.prog W .any base t v) →
     DataW.Whole enc C.prog fn.params.toList s.vars apart W args.toList ds gs before →
     conds.all (PathCond.test C.prog ⟨fn.params.toList, ds, s.plain.varTypes C.prog, gs⟩) = true →
     (DataW.weightsEach C.prog (fn.params.toList ++ s.plain.varTypes C.prog) (ds ++ gs)).all (· ≤ reachBytes) = true → X W args → W.ShapedOpen C.prog →
     Calls C.prog f args W fun e W' => ∃ v, e = .returned v ∧ s.post enc C.prog fn apart fresh handsOn again W args v W') :
    ReturnsInHanded a C os f .any (fun w args => (s.pre enc C.prog fn conds apart w args ∧ X w args) ∧ sizedMet enc C.prog fn (OpenSpec.ofChange s) apart w args) (s.post enc C.prog fn apart fresh handsOn again) := by
 refine returnsInHanded_of_calls own started noInit witness ?_
 intro w tape i _ hsh _ hok hpre _
 obtain ⟨_, _, _, fn', hfn', _, _, _, _, hval⟩ := hok
 cases hfn'.symm.trans hfn
 obtain ⟨⟨⟨ds, gs, before, hw, hc⟩, hx⟩, hz⟩ := hpre
 refine (contract (w.forCall tape i) w.heap.size i.args ds gs before hval (DataW.Whole.of_heap (w' := w.forCall tape i) (by rfl) hw) hc (hz.weights hw) (hX _ _ _ (by rfl) hx) hsh).mono fun e W' ⟨v, he, hp⟩ => ?_
 cases he
 exact ChangeSpec.post_blind hp
end
section
variable {H : Type} {enc : TypeId × Value → H} {w : World} {base : Nat} {spare : Nat → Bool} {held : Bool} {S : Nat → Prop}
theorem open_bytesD (hS : ∀ b, S b) {fuel : Nat} {v : Value} {x : DataW H × List MemPlace} (hs : Sz Tryz.prog 29 x.1) (hf : DataW.trod enc Tryz.prog w base spare held fuel 29 [v] = some x) : ∃ l : List (List D), Rd S w (.sl 1 l) v := by
 obtain ⟨l, h1, h2, _⟩ := open_rd (S := S) hS (fun x : Int => [.v (.int .u8 x)]) (fun _ => True) Tryz.underlying29 (k := 1) (by kernel_rfl) (by decide) hs (by kernel_rfl) hf (fun cs y m hl ht hsy => by
  match cs, hl with
  | [u], _ =>
   obtain ⟨z, rfl, _⟩ := trod_u8 Tryz.underlying5 ht
   exact ⟨z, RowAt.one (.v rfl), trivial⟩)
 exact ⟨_, h1⟩
theorem open_scen (hS : ∀ b, S b) {r : Reach} {b0 : Nat} {v : Value} {d : DataW H} {p : List MemPlace} (hv : Value.okWide Tryz.prog w r b0 31 v) (hs : Sz Tryz.prog 31 d) (h : DataW.Trod enc Tryz.prog w base spare held 31 v d p) :
    ∃ (p : Prob) (rs : List Int) (l : List StepD) (ttl : Int) (ch : List (List D)), ∀ (ρ : Key → Hd) (ok : Key → Prop), AVRel (CRel S ρ ok w) (.one true [.d (.sl 1 (dInts p.vs)), .d (.sl 1 (dInts p.now)), .d (.sl 1 (dInts p.tgt)), .d (.sl 6 (dTabs p.tabs)), .d (.sl 1 (dInts rs)), .d (.sl 3 (dSteps l)), .d (.v (.int .i64 ttl)), .d (.sl 1 ch)]) v := by
 have cI : Tryz.prog.cellsOf 22 = 1 := by kernel_rfl
 have cB : Tryz.prog.cellsOf 29 = 1 := by kernel_rfl
 have cT : Tryz.prog.cellsOf 23 = 1 := by kernel_rfl
 have cP : Tryz.prog.cellsOf 26 = 1 := by kernel_rfl
 have cJ : Tryz.prog.cellsOf 2 = 1 := by kernel_rfl
 have c4 : Tryz.prog.cellsOf 25 = 4 := by kernel_rfl
 have c7 : Tryz.prog.cellsOf 28 = 7 := by kernel_rfl
 have c8 : Tryz.prog.cellsOf 31 = 8 := by kernel_rfl
 unfold Value.okWide at hv
 rw [Tryz.underlying31] at hv
 obtain ⟨cs, rfl, hsz, _⟩ := hv
 obtain ⟨fuel, hf⟩ := h
 obtain ⟨n, hl, hfd⟩ := trod_fields Tryz.underlying31 (by exact hs) hf
 rw [c8] at hsz
 obtain ⟨cs⟩ := cs
 match cs, hsz with
 | [u0, u1, u2, u3, u4, u5, u6, u7], _ =>
  obtain ⟨ya, ta, sa⟩ := hfd 0 _ rfl
  obtain ⟨yb, tb, sb⟩ := hfd 1 _ rfl
  clear hfd hf hl
  simp [cB, c7, Value.cells] at ta tb
  obtain ⟨l7, r7⟩ := open_bytesD hS sb tb
  obtain ⟨n', _, hfd⟩ := trod_fields Tryz.underlying28 sa ta
  obtain ⟨y0, t0, s0⟩ := hfd 0 _ rfl
  obtain ⟨y1, t1, s1⟩ := hfd 1 _ rfl
  obtain ⟨y2, t2, s2⟩ := hfd 2 _ rfl
  obtain ⟨y3, t3, s3⟩ := hfd 3 _ rfl
  clear hfd ta
  simp [cI, cP, cJ, c4] at t0 t1 t2 t3
  obtain ⟨m, _, hgd⟩ := trod_fields Tryz.underlying25 s0 t0
  obtain ⟨x0, k0, q0⟩ := hgd 0 _ rfl
  obtain ⟨x1, k1, q1⟩ := hgd 1 _ rfl
  obtain ⟨x2, k2, q2⟩ := hgd 2 _ rfl
  obtain ⟨x3, k3, q3⟩ := hgd 3 _ rfl
  clear hgd t0
  simp [cI, cT] at k0 k1 k2 k3
  obtain ⟨l0, r0, _⟩ := open_intsD hS q0 k0
  obtain ⟨l1, r1, _⟩ := open_intsD hS q1 k1
  obtain ⟨l2, r2, _⟩ := open_intsD hS q2 k2
  obtain ⟨l3, r3, _⟩ := open_tabsD hS q3 k3
  obtain ⟨l4, r4, _⟩ := open_intsD hS s1 t1
  obtain ⟨l5, r5⟩ := open_stepsD hS s2 t2
  obtain ⟨z6, rfl, _⟩ := trod_i64 Tryz.underlying2 t3
  exact ⟨⟨l0, l1, l2, l3⟩, l4, l5, z6, l7, fun ρ ok => ⟨_, .cons r0 (.cons r1 (.cons r2 (.cons r3 (.cons r4 (.cons r5 (.cons (.v rfl) (.cons r7 .nil))))))), by simp⟩⟩
end
end Go.Proofs.YtfnljcallbalgaaGreatDoor

