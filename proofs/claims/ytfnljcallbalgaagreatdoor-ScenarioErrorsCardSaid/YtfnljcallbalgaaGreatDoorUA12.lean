/- Rules of runs and contracts of functions, for the claims of one seat. -/
import Derived.Test.YtfnljcallbalgaaGreatDoorUA10
import Derived.Test.YtfnljcallbalgaaGreatDoorUA11
namespace Go.Proofs.YtfnljcallbalgaaGreatDoor
open Go Go.RowKit
set_option linter.unusedSimpArgs false
set_option linter.unusedVariables false
section
variable {P : Program} {N : Nat} {cs : List Code} {R : AX → St → Prop} {tm : List (Nat × AV)} {bo : BO} {nx : Nat}
theorem JL.fzW {c : Code} {q : Key} {ty : TypeId} {sz : Nat} {rows : List (List D)} (hq : lko bo q = some (.sl ty sz rows)) (hr : JL P N (c :: cs) ⟨tm, clean ((q, some (.fz sz rows)) :: bo), nx⟩ R) : JL P N (c :: cs) ⟨tm, clean bo, nx⟩ R := by
 refine JL.sub (st' := ⟨tm, clean ((q, some (.fz sz rows)) :: bo), nx⟩) (fun V X Z w0 a w hh => ?_) hr
 obtain ⟨ρ, hR⟩ := Sub.freeze (N := N) (st := ⟨tm, clean bo, nx⟩) [q] V X Z w0 a w hh
 refine ⟨ρ, ?_⟩
 have hf : ∀ (l : List (Key × Box)) (p : Key), lk l q = some (.sl ty sz rows) → lk (freezeB [q] l) p = if p = q then some (.fz sz rows) else lk l p := by
  intro l p hl
  induction l with
  | nil => cases hl
  | cons x r ih =>
   obtain ⟨k, b⟩ := x
   have hl' : (if q = k then some b else lk r q) = some (.sl ty sz rows) := hl
   by_cases e : q = k
   ·subst e
    rw [if_pos rfl] at hl'
    cases hl'
    show (if p = q then _ else lk (freezeB [q] r) p) = _
    by_cases e2 : p = q
    ·rw [if_pos e2, if_pos e2]; simp
    ·rw [if_neg e2, if_neg e2]
     show lk (freezeB [q] r) p = (if p = q then _ else lk r p)
     rw [if_neg e2]
     clear ih hR hl hh
     induction r with
     | nil => rfl
     | cons y r ih2 =>
      obtain ⟨k2, b2⟩ := y
      show (if p = k2 then _ else lk (freezeB [q] r) p) = (if p = k2 then some b2 else lk r p)
      by_cases e3 : p = k2
      ·rw [if_pos e3, if_pos e3]
       subst e3
       cases b2 <;> simp [e2]
      ·rw [if_neg e3, if_neg e3]; exact ih2
   ·rw [if_neg e] at hl'
    show (if p = k then _ else lk (freezeB [q] r) p) = _
    by_cases e2 : p = k
    ·rw [if_pos e2]
     subst e2
     rw [if_neg (fun h => e h.symm)]
     show _ = (if p = p then some b else lk r p)
     rw [if_pos rfl]
     cases b <;> simp [Ne.symm e]
    ·rw [if_neg e2, ih hl']
     show _ = if p = q then _ else (if p = k then some b else lk r p)
     rw [if_neg e2]
 have e : lk (freezeB [q] (clean bo)) = lk (clean ((q, some (.fz sz rows)) :: bo)) := by
  funext p
  rw [hf _ p (by rw [lk_clean]; exact hq)]
  rfl
 have hR' : Rel V X Z w0 N ρ (fun q => q.2 < nx) (lk tm) (lk (freezeB [q] (clean bo))) a w := hR
 rw [e] at hR'
 exact hR'
theorem JL.cellBW {c : Code} {q0 q : Key} {j : Nat} {ty0 : TypeId} {sz : Nat} {cs1 cs2 : List C} {rows : List (List D)} (h : lko bo q0 = some (.st ty0 cs1)) (hj : cs1[j]? = some (.own q)) (hq : lko bo q = some (.fz sz rows)) (hs : cs1.set j (.d (.sl sz rows)) = cs2)
    (hr : JL P N (c :: cs) ⟨tm, clean ((q0, some (.st ty0 cs2)) :: bo), nx⟩ R) : JL P N (c :: cs) ⟨tm, clean bo, nx⟩ R := by
 subst hs
 refine JL.sub (st' := ⟨tm, clean ((q0, some (.st ty0 (cs1.set j (.d (.sl sz rows))))) :: bo), nx⟩) (fun V X Z w0 a w hh => ?_) hr
 obtain ⟨ρ, hR⟩ := hh
 refine ⟨ρ, ?_⟩
 have hlk : ∀ p, lk (clean ((q0, some (.st ty0 (cs1.set j (.d (.sl sz rows))))) :: bo)) p = if p = q0 then some (.st ty0 (cs1.set j (.d (.sl sz rows)))) else lk (clean bo) p := fun p => rfl
 have hlive : ∀ (p : Key) (box : Box) (b : Nat), lk (clean ((q0, some (.st ty0 (cs1.set j (.d (.sl sz rows))))) :: bo)) p = some box → box.live = true → (ρ p).g = some b → ∃ box0, lk (clean bo) p = some box0 ∧ box0.live = true ∧ (ρ p).g = some b := fun p box b hp hl hg => by
  rw [hlk] at hp
  by_cases e : p = q0
  ·subst e; exact ⟨_, (lk_clean bo p).trans h, rfl, hg⟩
  ·rw [if_neg e] at hp; exact ⟨box, hp, hl, hg⟩
 have hR : Rel V X Z w0 N ρ (fun q => q.2 < nx) (lk tm) (lk (clean bo)) a w := hR
 refine hR.conv (fun _ _ => rfl) (fun _ hq => hq) hlive (fun t av ht => .inl ht) (fun p box hp => ?_)
 have hp' := hp
 rw [hlk] at hp'
 by_cases e : p = q0
 ·subst e
  rw [if_pos rfl] at hp'
  cases hp'
  obtain ⟨h1, b0, vs, h2, h3, h4⟩ := hR.bx p _ ((lk_clean bo p).trans h)
  obtain ⟨v, hv, hok, rfl⟩ := h4.get hj
  have him : ∀ b, b < w.heap.size → Im V ρ (lk (clean bo)) b → Im V ρ (lk (clean ((p, some (.st ty0 (cs1.set j (.d (.sl sz rows))))) :: bo))) b := fun b _ hi => ⟨hi.1, fun q box hq hl hg => by
   obtain ⟨x, k1, k2, k3⟩ := hlive q box b hq hl hg
   exact hi.2 q x k1 k2 k3⟩
  refine .inr ⟨h1, b0, vs, h2, h3, h4.setv (fun c v hc => hc.keep (Keep.refl _ _) him (fun _ _ => rfl) (fun _ h => h)) hv ?_⟩
  exact Rd.mono (hR.bx q _ ((lk_clean bo q).trans hq)).2 him
 ·rw [if_neg e] at hp'
  exact .inl hp'
theorem JL.shutBW {c : Code} (q0 : Key) (j : Nat) {q : Key} {ty ty0 : TypeId} {sz : Nat} {cs1 cs2 : List C} {rows : List (List D)} (h : lko bo q0 = some (.st ty0 cs1)) (hj : cs1[j]? = some (.own q)) (hq : lko bo q = some (.sl ty sz rows)) (hs : cs1.set j (.d (.sl sz rows)) = cs2)
    (hr : JL P N (c :: cs) ⟨tm, clean ((q0, some (.st ty0 cs2)) :: (q, some (.fz sz rows)) :: bo), nx⟩ R) : JL P N (c :: cs) ⟨tm, clean bo, nx⟩ R := by
 have hne : q0 ≠ q := fun e => by rw [e, hq] at h; cases h
 refine JL.fzW hq (JL.cellBW (q0 := q0) (q := q) (j := j) (ty0 := ty0) (cs1 := cs1) ?_ hj ?_ hs hr)
 ·show (match (if q0 = q then some (some (Box.fz sz rows)) else lk bo q0) with | some ob => ob | none => none) = _
  rw [if_neg hne]; exact h
 ·show (match (if q = q then some (some (Box.fz sz rows)) else lk bo q) with | some ob => ob | none => none) = _
  rw [if_pos rfl]
def outO (bx : List (Key × Box)) (vs : List (Bool × List C)) (args : List Arg) : Option ARes :=
 match outVals true (lk bx) vs with
 | some (vals, ks) => match outIos (lk (freezeB ks bx)) 0 args with
  | some ios => match keepB (freezeB ks bx) (leadK (freezeB ks bx) 4 (vals.flatMap (fun (_, cs) => cs.flatMap keysC) ++ ios.flatMap fun cs => cs.flatMap keysC)) with
   | some b => some { vals := vals, ios := ios, bx := b }
   | none => none
  | none => none
 | none => none
inductive FinO (P : Program) (fn : Func) (args : List Arg) (r : ARes) (ax : AX) (st : St) : Prop
 | mk (h : fnEndZ P true fn args r ax st)
theorem endO {fn : Func} {args : List Arg} {vs : List (Bool × List C)} {r r0 : ARes} {l : List ResultVar} (hfr : fn.results = l.toArray) (hr : ResW P tm bo l vs) (h : outO (clean bo) vs args = some r0) (hz : resZ r0 r) : FinO P fn args r .ret ⟨tm, clean bo, nx⟩ := by
 constructor
 have hr : ResW P tm bo fn.results.toList vs := by rw [hfr, List.toList_toArray]; exact hr
 show match outR P true fn args ⟨tm, clean bo, nx⟩ with | some r0 => resZ r0 r | none => False
 have h4 : outR P true fn args ⟨tm, clean bo, nx⟩ = some r0 := by
  unfold outR
  simp only [hr.res]
  unfold outO at h
  split at h
  ·rename_i vals ks h1
   simp only [h1]
   split at h
   ·rename_i ios h2
    simp only [h2]
    split at h
    ·rename_i b h3
     cases h
     simp only [h3]
    ·cases h
   ·cases h
  ·cases h
 rw [h4]
 exact hz
theorem cellsZ_self : ∀ cs : List C, cellsZ cs cs
 | [] => trivial
 | _ :: r => ⟨.inl rfl, cellsZ_self r⟩
theorem valsZ_self : ∀ vs : List (Bool × List C), valsZ vs vs
 | [] => trivial
 | x :: r => ⟨⟨rfl, cellsZ_self _⟩, valsZ_self r⟩
theorem endO1 {fn : Func} {args : List Arg} {vs : List (Bool × List C)} {r : ARes} {l : List ResultVar} (hfr : fn.results = l.toArray) (hr : ResW P tm bo l vs) (h : outO (clean bo) vs args = some r) : FinO P fn args r .ret ⟨tm, clean bo, nx⟩ := endO hfr hr h ⟨valsZ_self _, rfl, rfl⟩
theorem startO {f : FuncId} {fn : Func} {body : Code} {args : List Arg} {bxs : List (Key × Box)} {r : ARes} (bo : BO) (hf : P.funcs[f]? = some fn) (hbody : fn.body = some body) (hN : fn.ntmps = N) (hp : decide (fn.params.size ≤ args.length) = true) (hn : decide (args.length ≤ N) = true) (hbo : argBx 0 args ++ bxs = clean bo) (htm : argTm 0 args = tm)
    (h : JL P N [body] ⟨tm, clean bo, 1⟩ (FinO P fn args r)) : FnSound P f args bxs r := by
 subst htm
 refine fn_of_JLZ (own := true) hf hbody hN hp hn ?_
 rw [hbo]
 rw [JL_cons] at h ⊢
 refine J.mono h fun ax s hs => ?_
 cases ax with
 | normal => have hs' : JL P N [] s (FinO P fn args r) := hs; exact (show JL P N [] s (fnEndZ P true fn args r) from JL.nil (JL.out hs').1)
 | exit i => exact hs.1
 | ret => exact hs.1
end
section
variable {P : Program} {lend : FuncId → Bool} {N : Nat} {ops : Array Oper} {dr : Bool} {cs : List Code} {R : AX → St → Prop} {i : Nat} {os : List Oper} {tm : List (Nat × AV)} {bo : BO} {nx : Nat} {ns : List Note} {d : Nat} {pos : String} {ty : TypeId} {af : Array Edge}
theorem W.callO {g : FuncId} {args : Array Operand} {tyq : Array TypeId} {xa : List Arg} {vs : List (Bool × List C)} {bx : List (Key × Box)} {av : AV} {up : BO} (hd : Nat.blt d N = true) (hbod : BoI P g) (hK : FnSound P g xa [] { vals := vs, bx := bx })
    (ha : argsV (onlyT ⟨some d, .call ⟨.value (.func g), args, tyq⟩, ty, pos, af, none⟩ (lk tm)) (onlyB (opKeys (lk tm) (lko bo) ⟨some d, .call ⟨.value (.func g), args, tyq⟩, ty, pos, af, none⟩) (lko bo)) (lend g) args.toList = some (xa, []))
    (hl : lend g = false) (hlen : Nat.ble bx.length 64 = true) (hcl : ARes.closed { vals := vs, bx := bx } = true) (hnd : nodup (bx.map (·.1)) = true) (hok : (bx.all fun x => x.2.okRes) = true)
    (hav : resAV (renK (keyAt i nx) bx 0) vs = av) (hup : takeBx (renK (keyAt i nx) bx 0) (keyAt i nx) bx 0 = up)
    (h : W P lend N ops dr cs R (i + 1) os ((d, av) :: tm) (up ++ bo) nx (ns ++ [⟨opKeys (lk tm) (lko bo) ⟨some d, .call ⟨.value (.func g), args, tyq⟩, ty, pos, af, none⟩, up.map (·.1)⟩])) : W P lend N ops dr cs R i (⟨some d, .call ⟨.value (.func g), args, tyq⟩, ty, pos, af, none⟩ :: os) tm bo nx ns := by
 subst hav hup
 obtain ⟨hbod⟩ := hbod
 refine W.eff (call := oneCall g xa { vals := vs, bx := bx }) (oneCall_ok hK) rfl (fun k hk => by cases hk; exact Nat.le_of_ble_eq_true hd) ?_ (updT_cons _ _ _) (lko_app _ _) h
 simp only [effOf]
 unfold effCall effCall0
 simp only [calleeOf, ev, Array.isEmpty_empty, Bool.and_self, if_true, hbod]
 unfold argsV at ha
 obtain ⟨⟨xs, ks'⟩, h1, h2⟩ := Option.map_eq_some_iff.1 ha
 cases h2
 simp only [List.isEmpty_nil, Bool.not_true, Bool.or_false, h1, argVals, List.map_nil, List.append_nil]
 unfold effVal
 have h5 : oneCall g (List.map (fun y => Arg.val y.1 y.2) xs) { vals := vs, bx := bx } g (List.map (fun x => Arg.val x.1 x.2) xs) [] = some { vals := vs, bx := bx } := by
  unfold oneCall; simp
 simp only [h5]
 rw [if_pos ⟨rfl, Nat.le_of_ble_eq_true hlen, .inl hl, hcl, hnd, hok⟩]
 simp only [shut, List.filter_nil, List.filterMap_nil, List.append_nil]
theorem W.callS {g : FuncId} {args : Array Operand} {tyq : Array TypeId} {xa : List Arg} {e : TypeId} {sz : Nat} {rows : List (List D)} (k : Nat) (hd : Nat.blt d N = true) (hk : i * 64 = k) (hbod : BoI P g) (hK : FnSound P g xa [] { vals := [(false, [.own (0, 1)])], bx := [((0, 1), .sl e sz rows)] })
    (ha : argsV (onlyT ⟨some d, .call ⟨.value (.func g), args, tyq⟩, ty, pos, af, none⟩ (lk tm)) (onlyB (opKeys (lk tm) (lko bo) ⟨some d, .call ⟨.value (.func g), args, tyq⟩, ty, pos, af, none⟩) (lko bo)) (lend g) args.toList = some (xa, [])) (hl : lend g = false)
    (h : W P lend N ops dr cs R (i + 1) os ((d, .one false [.own (k, nx)]) :: tm) (((k, nx), some (.sl e sz rows)) :: bo) nx (ns ++ [⟨opKeys (lk tm) (lko bo) ⟨some d, .call ⟨.value (.func g), args, tyq⟩, ty, pos, af, none⟩, [(k, nx)]⟩])) : W P lend N ops dr cs R i (⟨some d, .call ⟨.value (.func g), args, tyq⟩, ty, pos, af, none⟩ :: os) tm bo nx ns := by
 subst hk
 exact W.callO hd hbod hK ha hl rfl rfl rfl rfl rfl rfl h
theorem W.callM {g : FuncId} {args : Array Operand} {tyq : Array TypeId} {xa : List Arg} {y1 y2 y3 : TypeId} {z1 z2 z3 : Nat} {r1 r2 r3 : List (List D)} {q1 q2 q3 : Key} (k k1 k2 : Nat) (hd : Nat.blt d N = true) (hk : i * 64 = k) (hk1 : i * 64 + 1 = k1) (hk2 : i * 64 + 2 = k2) (hq : nodup [q1, q2, q3] = true) (hbod : BoI P g) (hK : FnSound P g xa [] { vals := [(true, [.own q1, .own q2, .own q3])], bx := [(q1, .sl y1 z1 r1), (q2, .sl y2 z2 r2), (q3, .sl y3 z3 r3)] })
    (ha : argsV (onlyT ⟨some d, .call ⟨.value (.func g), args, tyq⟩, ty, pos, af, none⟩ (lk tm)) (onlyB (opKeys (lk tm) (lko bo) ⟨some d, .call ⟨.value (.func g), args, tyq⟩, ty, pos, af, none⟩) (lko bo)) (lend g) args.toList = some (xa, [])) (hl : lend g = false)
    (h : W P lend N ops dr cs R (i + 1) os ((d, .one true [.own (k, nx), .own (k1, nx), .own (k2, nx)]) :: tm) (((k, nx), some (.sl y1 z1 r1)) :: ((k1, nx), some (.sl y2 z2 r2)) :: ((k2, nx), some (.sl y3 z3 r3)) :: bo) nx (ns ++ [⟨opKeys (lk tm) (lko bo) ⟨some d, .call ⟨.value (.func g), args, tyq⟩, ty, pos, af, none⟩, [(k, nx), (k1, nx), (k2, nx)]⟩])) : W P lend N ops dr cs R i (⟨some d, .call ⟨.value (.func g), args, tyq⟩, ty, pos, af, none⟩ :: os) tm bo nx ns := by
 subst hk hk1 hk2
 have hq' := hq
 simp only [nodup, List.contains_cons, List.contains_nil, Bool.or_false, Bool.and_true, Bool.and_eq_true, Bool.not_eq_true', Bool.or_eq_false_iff, beq_eq_false_iff_ne, ne_eq, List.contains_nil, Bool.not_false] at hq'
 obtain ⟨⟨h12, h13⟩, h23⟩ := hq'
 have k1e : renK (keyAt i nx) [(q1, Box.sl y1 z1 r1), (q2, Box.sl y2 z2 r2), (q3, Box.sl y3 z3 r3)] 0 q1 = (i * 64, nx) := by unfold renK; rw [if_pos rfl]; rfl
 have k2e : renK (keyAt i nx) [(q1, Box.sl y1 z1 r1), (q2, Box.sl y2 z2 r2), (q3, Box.sl y3 z3 r3)] 0 q2 = (i * 64 + 1, nx) := by unfold renK; rw [if_neg (fun e => h12 e.symm)]; unfold renK; rw [if_pos rfl]; rfl
 have k3e : renK (keyAt i nx) [(q1, Box.sl y1 z1 r1), (q2, Box.sl y2 z2 r2), (q3, Box.sl y3 z3 r3)] 0 q3 = (i * 64 + 2, nx) := by unfold renK; rw [if_neg (fun e => h13 e.symm)]; unfold renK; rw [if_neg (fun e => h23 e.symm)]; unfold renK; rw [if_pos rfl]; rfl
 refine W.callO (up := [((i * 64, nx), some (.sl y1 z1 r1)), ((i * 64 + 1, nx), some (.sl y2 z2 r2)), ((i * 64 + 2, nx), some (.sl y3 z3 r3))]) hd hbod hK ha hl rfl ?_ hq rfl ?_ rfl h
 ·simp [ARes.closed, keysBx, keysC]
 ·simp only [resAV, List.map_cons, List.map_nil, renC, k1e, k2e, k3e]
theorem W.callK {g : FuncId} {args : Array Operand} {tyq : Array TypeId} {xa : List Arg} {qs : List (Key × TypeId)} {bs : List (Key × Key × Box)} {bx0 : List (Key × Box)} {r : ARes} {av : AV} {up : BO} (hd : Nat.blt d N = true) (hbod : BoI P g) (hK : FnSound P g xa bx0 r)
    (hna : argsOf (onlyT ⟨some d, .call ⟨.value (.func g), args, tyq⟩, ty, pos, af, none⟩ (lk tm)) (onlyB (opKeys (lk tm) (lko bo) ⟨some d, .call ⟨.value (.func g), args, tyq⟩, ty, pos, af, none⟩) (lko bo)) (lend g) args.toList = none)
    (ha : ioArgs (onlyT ⟨some d, .call ⟨.value (.func g), args, tyq⟩, ty, pos, af, none⟩ (lk tm)) (onlyB (opKeys (lk tm) (lko bo) ⟨some d, .call ⟨.value (.func g), args, tyq⟩, ty, pos, af, none⟩) (lko bo)) 0 args.toList = some (xa, [], qs, bs)) (hbs : bs.map (·.2) = bx0)
    (hn1 : nodup ((dictOf xa qs bs).map (·.1)) = true) (hn2 : nodup ((dictOf xa qs bs).map (·.2)) = true) (hz : ((dictOf xa qs bs).all fun x => x.1.2 == 0) = true) (hio : r.ios.length = qs.length) (hlen : Nat.ble r.bx.length 64 = true) (hcl : r.closed = true) (hnd : nodup ((ioBx 0 xa r.ios ++ r.bx).map (·.1)) = true) (hok : (r.bx.all fun x => x.2.okRes) = true)
    (hko : keptOk r.ios r.bx qs bs (onlyB (opKeys (lk tm) (lko bo) ⟨some d, .call ⟨.value (.func g), args, tyq⟩, ty, pos, af, none⟩) (lko bo)) = true)
    (hav : resAV (renK (keyAt i nx) r.bx 0) r.vals = av) (hup : zipK bs r.bx = up)
    (h : W P lend N ops dr cs R (i + 1) os ((d, av) :: tm) (up ++ bo) nx (ns ++ [⟨opKeys (lk tm) (lko bo) ⟨some d, .call ⟨.value (.func g), args, tyq⟩, ty, pos, af, none⟩, up.map (·.1)⟩])) : W P lend N ops dr cs R i (⟨some d, .call ⟨.value (.func g), args, tyq⟩, ty, pos, af, none⟩ :: os) tm bo nx ns := by
 subst hav hup hbs
 obtain ⟨hbod⟩ := hbod
 refine W.eff (call := fun f a b => open Classical in if f = g ∧ a = xa ∧ b = bs.map (·.2) then some { r with kp := true } else none) (fun f a b r' he => ?_) rfl (fun k hk => by cases hk; exact Nat.le_of_ble_eq_true hd) ?_ (updT_cons _ _ _) (lko_app _ _) h
 ·simp only at he
  split at he
  ·rename_i hc
   obtain ⟨rfl, rfl, rfl⟩ := hc
   cases he
   exact hK
  ·cases he
 ·simp only [effOf]
  unfold effCall effCall0
  simp only [calleeOf, ev, Array.isEmpty_empty, Bool.and_self, if_true, hbod, List.isEmpty_nil, Bool.not_true, Bool.or_false, List.map_nil]
  rw [hna]
  simp only [ha]
  unfold effIo
  rw [if_pos ⟨hn1, hn2, rfl, hz⟩]
  simp only [and_self, if_true]
  rw [if_pos ⟨hio, Nat.le_of_ble_eq_true hlen, hcl, hnd, hok⟩]
  simp only [hko, if_true, shut, List.filter_nil, List.filterMap_nil, List.append_nil]
end
end Go.Proofs.YtfnljcallbalgaaGreatDoor

namespace Go.Proofs.YtfnljcallbalgaaGreatDoor
open Go Go.RowKit
set_option linter.unusedSimpArgs false
set_option linter.unusedVariables false
section
variable {P : Program} {lend : FuncId → Bool} {N : Nat} {ops : Array Oper} {dr : Bool} {cs : List Code} {R : AX → St → Prop}
variable {i : Nat} {os : List Oper} {tm : List (Nat × AV)} {bo : BO} {nx : Nat} {ns : List Note} {d : Nat} {pos : String} {ty : TypeId} {af : Array Edge}
theorem W.minI {t1 t2 : TypeId} {x y : Operand} {k k' : IntKind} {a b m : Int} (hd : Nat.blt d N = true) (hx : ev (lk tm) x = some (.one false [.d (.v (.int k a))])) (hy : ev (lk tm) y = some (.one false [.d (.v (.int k' b))])) (hm : (if b < a then b else a) = m)
    (h : W P lend N ops dr cs R (i + 1) os ((d, .one false [.d (.v (.int k m))]) :: tm) bo nx (ns ++ [⟨opKeys (lk tm) (lko bo) ⟨some d, .call ⟨.builtin .min, #[x, y], #[t1, t2]⟩, ty, pos, af, none⟩, []⟩])) : W P lend N ops dr cs R i (⟨some d, .call ⟨.builtin .min, #[x, y], #[t1, t2]⟩, ty, pos, af, none⟩ :: os) tm bo nx ns := by
 subst hm
 refine W.plain hd (fun lt hlt => ?_) (fun _ _ _ _ _ _ _ h => h) h
 have e1 := (hlt x (by simp [Op.operands, Call.operands])).trans hx
 have e2 := (hlt y (by simp [Op.operands, Call.operands])).trans hy
 unfold effPlain
 simp only [plainOp, Op.operands, Call.operands, Array.toList_append, Array.append_empty, Array.empty_append, List.nil_append, List.all_cons, List.all_nil, e1, e2, Option.bind_some, conV, Option.isSome_some, Bool.and_true, Bool.true_and, if_true]
 unfold execOp
 simp [e1, e2, conV, resolve, invoke, builtin, Builtin.min_, Builtin.min2, semVal_bind, semVal_pure, semVal_map, constAV, cellC, scal]
end
end Go.Proofs.YtfnljcallbalgaaGreatDoor

namespace Go.Proofs.YtfnljcallbalgaaGreatDoor
open Go Go.RowKit
set_option linter.unusedSimpArgs false
set_option linter.unusedVariables false
section
variable {P : Program} {lend : FuncId → Bool} {N : Nat} {ops : Array Oper} {dr : Bool} {cs : List Code} {R : AX → St → Prop}
variable {i : Nat} {os : List Oper} {tm : List (Nat × AV)} {bo : BO} {nx : Nat} {ns : List Note} {d : Nat} {pos : String} {ty : TypeId} {af : Array Edge}
end
end Go.Proofs.YtfnljcallbalgaaGreatDoor

namespace Go.Proofs.YtfnljcallbalgaaGreatDoor
open Go Go.RowKit
set_option linter.unusedSimpArgs false
set_option linter.unusedVariables false
section
variable {P : Program} {lend : FuncId → Bool} {N : Nat} {ops : Array Oper} {dr : Bool} {cs : List Code} {R : AX → St → Prop} {i : Nat} {os : List Oper} {tm : List (Nat × AV)} {bo : BO} {nx : Nat} {ns : List Note} {d : Nat} {pos : String} {ty : TypeId} {af : Array Edge}
theorem W.callS1 {g : FuncId} {args : Array Operand} {tyq : Array TypeId} {xa : List Arg} {e ty0 : TypeId} {sz sz0 : Nat} {rows rows0 : List (List D)} {q : Key} (k : Nat) (hd : Nat.blt d N = true) (hk : i * 64 = k) (hbod : BoI P g) (hK : FnSound P g xa [] { vals := [(false, [.own (0, 1)])], bx := [((0, 1), .sl e sz rows)] })
    (ha : argsV (onlyT ⟨some d, .call ⟨.value (.func g), args, tyq⟩, ty, pos, af, none⟩ (lk tm)) (onlyB (opKeys (lk tm) (lko bo) ⟨some d, .call ⟨.value (.func g), args, tyq⟩, ty, pos, af, none⟩) (lko bo)) (lend g) args.toList = some (xa, [q])) (hl : lend g = false) (hq : q.2 = nx) (hb : onlyB (opKeys (lk tm) (lko bo) ⟨some d, .call ⟨.value (.func g), args, tyq⟩, ty, pos, af, none⟩) (lko bo) q = some (.sl ty0 sz0 rows0))
    (h : W P lend N ops dr cs R (i + 1) os ((d, .one false [.own (k, nx)]) :: tm) (((k, nx), some (.sl e sz rows)) :: (q, some (.fz sz0 rows0)) :: bo) nx (ns ++ [⟨opKeys (lk tm) (lko bo) ⟨some d, .call ⟨.value (.func g), args, tyq⟩, ty, pos, af, none⟩, [(k, nx), q]⟩])) : W P lend N ops dr cs R i (⟨some d, .call ⟨.value (.func g), args, tyq⟩, ty, pos, af, none⟩ :: os) tm bo nx ns := by
 subst hk
 obtain ⟨hbod⟩ := hbod
 refine W.eff (call := oneCall g xa { vals := [(false, [.own (0, 1)])], bx := [((0, 1), .sl e sz rows)] }) (oneCall_ok hK) rfl (fun k hk => by cases hk; exact Nat.le_of_ble_eq_true hd) ?_ (updT_cons _ _ _) (lko_app [((i * 64, nx), some (.sl e sz rows)), (q, some (.fz sz0 rows0))] bo) h
 simp only [effOf]
 unfold effCall effCall0
 simp only [calleeOf, ev, Array.isEmpty_empty, Bool.and_self, if_true, hbod]
 unfold argsV at ha
 obtain ⟨⟨xs, ks'⟩, h1, h2⟩ := Option.map_eq_some_iff.1 ha
 cases h2
 simp only [List.isEmpty_nil, Bool.not_true, Bool.or_false, h1, argVals, List.map_nil, List.append_nil]
 unfold effVal
 have h5 : oneCall g (List.map (fun y => Arg.val y.1 y.2) xs) { vals := [(false, [.own (0, 1)])], bx := [((0, 1), .sl e sz rows)] } g (List.map (fun x => Arg.val x.1 x.2) xs) [] = some { vals := [(false, [.own (0, 1)])], bx := [((0, 1), .sl e sz rows)] } := by
  unfold oneCall; simp
 simp only [h5]
 rw [if_pos ⟨rfl, by simp, .inl hl, by rfl, rfl, rfl⟩]
 have hsh : shut nx (onlyB (opKeys (lk tm) (lko bo) ⟨some d, .call ⟨.value (.func g), args, tyq⟩, ty, pos, af, none⟩) (lko bo)) [q] = [(q, some (.fz sz0 rows0))] := by simp [shut, hq, hb]
 have hne : List.filter (fun x : Key => x.2 != nx) [q] = [] := by simp [hq]
 rw [hsh, hne]
 rfl
end
section
variable {P : Program} {lend : FuncId → Bool} {N : Nat} {ops : Array Oper} {dr : Bool} {cs : List Code} {R : AX → St → Prop} {i : Nat} {os : List Oper} {tm : List (Nat × AV)} {bo : BO} {nx : Nat} {ns : List Note} {d : Nat} {pos : String} {ty : TypeId} {af : Array Edge}
theorem W.callV {f : Operand} {g : FuncId} {args : Array Operand} {tyq : Array TypeId} {xa : List Arg} {b : Bool} {cr : List C} (hd : Nat.blt d N = true) (hbod : BoI P g) (hcal : calleeOf (onlyT ⟨some d, .call ⟨.value f, args, tyq⟩, ty, pos, af, none⟩ (lk tm)) f = some (g, [])) (hK : FnSound P g xa [] { vals := [(b, cr)] })
    (ha : argsV (onlyT ⟨some d, .call ⟨.value f, args, tyq⟩, ty, pos, af, none⟩ (lk tm)) (onlyB (opKeys (lk tm) (lko bo) ⟨some d, .call ⟨.value f, args, tyq⟩, ty, pos, af, none⟩) (lko bo)) (lend g) args.toList = some (xa, []))
    (hr : resOk { vals := [(b, cr)] } (lend g) = true) (hcl : ARes.closed { vals := [(b, cr)] } = true)
    (h : W P lend N ops dr cs R (i + 1) os ((d, .one b cr) :: tm) bo nx (ns ++ [⟨opKeys (lk tm) (lko bo) ⟨some d, .call ⟨.value f, args, tyq⟩, ty, pos, af, none⟩, []⟩])) : W P lend N ops dr cs R i (⟨some d, .call ⟨.value f, args, tyq⟩, ty, pos, af, none⟩ :: os) tm bo nx ns := by
 obtain ⟨hbod⟩ := hbod
 refine W.eff (call := oneCall g xa { vals := [(b, cr)] }) (oneCall_ok hK) rfl (fun k hk => by cases hk; exact Nat.le_of_ble_eq_true hd) ?_ (updT_cons _ _ _) (updB_0 bo) h
 simp only [effOf]
 unfold effCall effCall0
 simp only [hcal, List.isEmpty_nil, if_true, hbod]
 unfold argsV at ha
 obtain ⟨⟨xs, ks'⟩, h1, h2⟩ := Option.map_eq_some_iff.1 ha
 cases h2
 simp only [List.isEmpty_nil, Bool.not_true, Bool.or_false, h1, argVals, List.map_nil, List.append_nil]
 unfold effVal
 have h5 : oneCall g (List.map (fun y => Arg.val y.1 y.2) xs) { vals := [(b, cr)] } g (List.map (fun x => Arg.val x.1 x.2) xs) [] = some { vals := [(b, cr)] } := by
  unfold oneCall; simp
 have hk : renK (keyAt i nx) [] 0 = fun q => q := by funext q; rfl
 simp only [resOk, Bool.and_eq_true, Bool.or_eq_true, Bool.not_eq_true', List.isEmpty_iff] at hr
 have hsc : lend g = false ∨ ARes.scalars { vals := [(b, cr)] } = true := hr.2.imp id fun h => by simp only [ARes.scalars, List.isEmpty_nil, Bool.true_and]; exact h
 simp only [h5]
 rw [if_pos ⟨rfl, by simp, hsc, hcl, rfl, rfl⟩]
 simp only [hk, resAV_vals, takeBx, List.nil_append, shut, List.filter_nil, List.filterMap_nil]
 rfl
end
end Go.Proofs.YtfnljcallbalgaaGreatDoor

namespace Go.Proofs.YtfnljcallbalgaaGreatDoor
open Go Go.RowKit
set_option linter.unusedSimpArgs false
set_option linter.unusedVariables false
inductive AtJ (N : Nat) (J : St) (ax : AX) (s : St) : Prop
 | mk (h0 : ax = .normal) (h : SubI N s J)
theorem JL.cutW {P : Program} {N : Nat} {R : AX → St → Prop} {c c2 : Code} {cs : List Code} {tm : List (Nat × AV)} {bo : BO} {nx : Nat} (nx1 : Nat) (U : List (Nat × AV) → List (Nat × AV)) (B : BO → BO) (h1 : JL P N [c] ⟨tm, clean bo, nx⟩ (AtJ N ⟨U tm, clean (B bo), nx1⟩)) (h2 : JL P N (c2 :: cs) ⟨U tm, clean (B bo), nx1⟩ R) : JL P N (c :: c2 :: cs) ⟨tm, clean bo, nx⟩ R := by
 rw [JL_cons] at h1 ⊢
 refine h1.mono fun ax s hs => ?_
 cases ax with
 | normal =>
  have hs : AtJ N ⟨U tm, clean (B bo), nx1⟩ .normal s := JL.out (P := P) (N := N) hs
  obtain ⟨_, hs⟩ := hs
  exact JL.sub hs.1 h2
 | exit i => obtain ⟨h, _⟩ := hs; cases h
 | ret => obtain ⟨h, _⟩ := hs; cases h
theorem reg2_at {P : Program} {N : Nat} {R : AX → St → Prop} {c2 : Code} {cs : List Code} {id : Nat} {ops : Array Oper} {dr : Bool} {st : St} (h : JL P N (.region id ops dr :: c2 :: cs) st R) : JL P N (.region id ops dr :: c2 :: cs) st R := h
theorem cond_at {P : Program} {N : Nat} {R : AX → St → Prop} {a b c2 : Code} {cs : List Code} {t : Nat} {st : St} (h : JL P N (.cond (.tmp t) a b :: c2 :: cs) st R) : JL P N (.cond (.tmp t) a b :: c2 :: cs) st R := h
theorem endO1n {P : Program} {tm : List (Nat × AV)} {bo : BO} {nx : Nat} {fn : Func} {args : List Arg} {vs : List (Bool × List C)} {r : ARes} {l : List ResultVar} (hfr : fn.results = l.toArray) (hr : ResW P tm bo l vs) (h : outO (clean bo) vs args = some r) : FinO P fn args r .normal ⟨tm, clean bo, nx⟩ := by
 obtain ⟨h⟩ := endO1 (nx := nx) hfr hr h
 exact ⟨h⟩
end Go.Proofs.YtfnljcallbalgaaGreatDoor

namespace Go.Proofs.YtfnljcallbalgaaGreatDoor
open Go Go.RowKit
class inductive RegN (id : Nat) (nx : outParam Nat) : Prop
 | mk : RegN id nx
instance : RegN 0 100 := .mk
instance : RegN 1 200 := .mk
instance : RegN 2 300 := .mk
instance : RegN 3 400 := .mk
instance : RegN 4 500 := .mk
instance : RegN 5 600 := .mk
instance : RegN 6 700 := .mk
instance : RegN 7 800 := .mk
instance : RegN 8 900 := .mk
instance : RegN 9 1000 := .mk
instance : RegN 10 1100 := .mk
instance : RegN 11 1200 := .mk
instance : RegN 12 1300 := .mk
instance : RegN 13 1400 := .mk
instance : RegN 14 1500 := .mk
instance : RegN 15 1600 := .mk
instance : RegN 16 1700 := .mk
instance : RegN 17 1800 := .mk
instance : RegN 18 1900 := .mk
instance : RegN 19 2000 := .mk
instance : RegN 20 2100 := .mk
instance : RegN 21 2200 := .mk
instance : RegN 22 2300 := .mk
instance : RegN 23 2400 := .mk
instance : RegN 24 2500 := .mk
instance : RegN 25 2600 := .mk
instance : RegN 26 2700 := .mk
instance : RegN 27 2800 := .mk
instance : RegN 28 2900 := .mk
instance : RegN 29 3000 := .mk
instance : RegN 30 3100 := .mk
instance : RegN 31 3200 := .mk
instance : RegN 32 3300 := .mk
instance : RegN 33 3400 := .mk
instance : RegN 34 3500 := .mk
instance : RegN 35 3600 := .mk
instance : RegN 36 3700 := .mk
instance : RegN 37 3800 := .mk
instance : RegN 38 3900 := .mk
instance : RegN 39 4000 := .mk
instance : RegN 40 4100 := .mk
instance : RegN 41 4200 := .mk
instance : RegN 42 4300 := .mk
instance : RegN 43 4400 := .mk
instance : RegN 44 4500 := .mk
instance : RegN 45 4600 := .mk
instance : RegN 46 4700 := .mk
instance : RegN 47 4800 := .mk
instance : RegN 48 4900 := .mk
instance : RegN 49 5000 := .mk
instance : RegN 50 5100 := .mk
instance : RegN 51 5200 := .mk
instance : RegN 52 5300 := .mk
instance : RegN 53 5400 := .mk
instance : RegN 54 5500 := .mk
instance : RegN 55 5600 := .mk
instance : RegN 56 5700 := .mk
instance : RegN 57 5800 := .mk
instance : RegN 58 5900 := .mk
instance : RegN 59 6000 := .mk
instance : RegN 60 6100 := .mk
variable {N : Nat} {dr : Bool} {cs : List Code} {R : AX → St → Prop} {id : Nat} {l : List Oper} {tm : List (Nat × AV)} {bo : BO} {nx nx' : Nat}
theorem rg [RegN id nx'] (hn : Nat.ble nx nx' = true) (h : W Tryz.prog lendS N ⟨l⟩ dr cs R 0 l tm bo nx' []) : JL Tryz.prog N (.region id ⟨l⟩ dr :: cs) ⟨tm, clean bo, nx⟩ R := JL.regionW nx' mo hn h
theorem rgn (id nx' : Nat) (hn : Nat.ble nx nx' = true) (h : W Tryz.prog lendS N ⟨l⟩ dr cs R 0 l tm bo nx' []) : JL Tryz.prog N (.region id ⟨l⟩ dr :: cs) ⟨tm, clean bo, nx⟩ R := JL.regionW nx' mo hn h
variable {ops : Array Oper} {i : Nat} {os : List Oper} {ns : List Note} {d : Nat} {pos : String} {ty : TypeId} {af : Array Edge} {lend : FuncId → Bool}
theorem W.fa {s : TypeId} {x : Operand} {f off : Nat} {l : Option Nat} {c c' : C} [hf : FdC s f off l] (hd : Nat.blt d N = true) (hx : (ev (lk tm) x).bind slot1 = some c) (ha : addOff off c = some c') (h : W Tryz.prog lend N ops dr cs R (i + 1) os ((d, .one false [c']) :: tm) bo nx (ns ++ [⟨opKeys (lk tm) (lko bo) ⟨some d, .fieldAddr s x f, ty, pos, af, none⟩, []⟩])) : W Tryz.prog lend N ops dr cs R i (⟨some d, .fieldAddr s x f, ty, pos, af, none⟩ :: os) tm bo nx ns := W.fieldAddr hd hf.h hx ha h
theorem W.ld {t : TypeId} {x : Operand} {c c' : C} {cs' : List C} {off : Nat} [hl : LdC t] (hd : Nat.blt d N = true) (hx : (ev (lk tm) x).bind slot1 = some c) (hb : behind (lko bo) c = some (cs', off)) (hc : cs'[off]? = some c') (h : W Tryz.prog lend N ops dr cs R (i + 1) os ((d, .one false [c']) :: tm) bo nx (ns ++ [⟨opKeys (lk tm) (lko bo) ⟨some d, .load t x, ty, pos, af, none⟩, []⟩])) : W Tryz.prog lend N ops dr cs R i (⟨some d, .load t x, ty, pos, af, none⟩ :: os) tm bo nx ns := W.load hd hl.h hx hb hc h
theorem W.st {t : TypeId} {x y : Operand} {q : Key} {off n : Nat} {ty0 : TypeId} {vs cs1 cs2 : List C} [hs : SzC t n] (hx : (ev (lk tm) x).bind slot1 = some (.ptr q off)) (hy : (ev (lk tm) y).bind cellsOfAV = some vs) (hb : lko bo q = some (.st ty0 cs1)) (hu : putC off n vs cs1 = some cs2)
    (h : W Tryz.prog lend N ops dr cs R (i + 1) os tm ((q, some (.st ty0 cs2)) :: bo) nx (ns ++ [⟨opKeys (lk tm) (lko bo) ⟨none, .store t x y, ty, pos, af, none⟩, [q]⟩])) : W Tryz.prog lend N ops dr cs R i (⟨none, .store t x y, ty, pos, af, none⟩ :: os) tm bo nx ns := W.store hs.h hx hy hb hu h
end Go.Proofs.YtfnljcallbalgaaGreatDoor

namespace Go.Proofs.YtfnljcallbalgaaGreatDoor
open Go Go.RowKit
set_option linter.unusedSimpArgs false
set_option linter.unusedVariables false
def byteN (s : ByteArray) (i : Nat) : Int := ((s.data.getD i 0).toNat : Int)
theorem wrap_u64 {n : Int} (h : 0 ≤ n ∧ n < 18446744073709551616) : IntKind.u64.wrap n = n := by
 show n % 18446744073709551616 = n
 omega
theorem wrap_u32 {n : Int} (h : 0 ≤ n ∧ n < 4294967296) : IntKind.u32.wrap n = n := by
 show n % 4294967296 = n
 omega
theorem cellTo_str {lb : Key → Option Box} {f : Key → Key} {a b : ByteArray} (h : b = a) : cellTo lb f (.d (.v (.string a))) (.d (.v (.string b))) := by subst h; exact .inl rfl
section
variable {P : Program} {lend : FuncId → Bool} {N : Nat} {ops : Array Oper} {dr : Bool} {cs : List Code} {R : AX → St → Prop} {i : Nat} {os : List Oper} {tm : List (Nat × AV)} {bo : BO} {nx : Nat} {ns : List Note} {d : Nat} {pos : String} {ty : TypeId} {af : Array Edge}
theorem K_in (t : TypeId) {x y : Operand} (h : W P lend N ops dr cs R i (⟨some d, .index t x y, ty, pos, af, none⟩ :: os) tm bo nx ns) : W P lend N ops dr cs R i (⟨some d, .index t x y, ty, pos, af, none⟩ :: os) tm bo nx ns := h
theorem sv_index {t : TypeId} {s : ByteArray} {k : IntKind} {n : Int} (hu : P.underlying t = some .string) (hn : 0 ≤ n ∧ n < s.size) : semVal P (Instr.index t (.string s) (.int k n)) = some (.int .u8 (byteN s n.toNat)) := by
 have hl : n.toNat < s.size := by omega
 have hl' : n.toNat < s.data.size := hl
 have e : s[n.toNat]? = some (s.data.getD n.toNat 0) := by
  rw [getElem?_pos s n.toNat hl]
  congr 1
  rw [Array.getD_eq_getD_getElem?, Array.getElem?_eq_getElem hl']
  rfl
 unfold Instr.index
 rw [show asIntOf (.int k n) = (pure (k, n) : Sem (IntKind × Int)) from rfl, semVal_bind, semVal_pure, Option.bind_some, semVal_bind, semVal_underlying hu]
 simp only [Option.bind_some, if_pos hn.1, e]
 rfl
theorem sv_bound {k : IntKind} {n : Int} {y : Nat} {c : BoundsCode} (hn : 0 ≤ n ∧ n ≤ y) : semVal P (Instr.sliceBound (.int k n) y c) = some n.toNat := by
 unfold Instr.sliceBound
 rw [show asIntOf (.int k n) = (pure (k, n) : Sem (IntKind × Int)) from rfl, semVal_bind, semVal_pure, Option.bind_some]
 simp only [if_pos hn]
 rfl
theorem sv_sliceLH {t : TypeId} {s : ByteArray} {k k' : IntKind} {l h : Int} (hu : P.underlying t = some .string) (hn : 0 ≤ l ∧ l ≤ h ∧ h ≤ s.size) : semVal P (Instr.slice t (.string s) (some (.int k l)) (some (.int k' h)) none) = some (.string (s.extract l.toNat h.toNat)) := by
 unfold Instr.slice
 rw [semVal_bind, semVal_underlying hu]
 unfold Instr.sliceBounds
 simp only [Option.bind_some, Option.isSome_none, Bool.false_eq_true, if_false, semVal_bind, semVal_pure]
 rw [sv_bound ⟨by omega, hn.2.2⟩]
 simp only [Option.bind_some]
 rw [sv_bound ⟨hn.1, by omega⟩]
 rfl
theorem sv_sliceL {t : TypeId} {s : ByteArray} {k : IntKind} {l : Int} (hu : P.underlying t = some .string) (hn : 0 ≤ l ∧ l ≤ s.size) : semVal P (Instr.slice t (.string s) (some (.int k l)) none none) = some (.string (s.extract l.toNat s.size)) := by
 unfold Instr.slice
 rw [semVal_bind, semVal_underlying hu]
 unfold Instr.sliceBounds
 simp only [Option.bind_some, Option.isSome_none, Bool.false_eq_true, if_false, semVal_bind, semVal_pure]
 rw [sv_bound ⟨hn.1, by omega⟩]
 rfl
theorem sv_at {t : TypeId} {v : Value} {lo hi mx : Option Value} (hu : P.underlying t = some .string) : semVal P (Instr.sliceAt t v lo hi mx) = semVal P (Instr.slice t v lo hi mx) := by
 unfold Instr.sliceAt
 rw [semVal_bind, semVal_underlying hu]
 rfl
theorem W.sidx {t : TypeId} {x ix : Operand} {s : ByteArray} {k : IntKind} {n : Int} (hd : Nat.blt d N = true) (hu : P.underlying t = some .string) (hx : ev (lk tm) x = some (.one false [.d (.v (.string s))])) (hi : ev (lk tm) ix = some (.one false [.d (.v (.int k n))])) (hn : 0 ≤ n ∧ n < s.size) (h : W P lend N ops dr cs R (i + 1) os ((d, .one false [.d (.v (.int .u8 (byteN s n.toNat)))]) :: tm) bo nx (ns ++ [⟨opKeys (lk tm) (lko bo) ⟨some d, .index t x ix, ty, pos, af, none⟩, []⟩])) : W P lend N ops dr cs R i (⟨some d, .index t x ix, ty, pos, af, none⟩ :: os) tm bo nx ns := by
 refine W.plain hd (fun lt hlt => ?_) (fun _ _ _ _ _ _ _ h => h) h
 have e1 := (hlt x (by simp [Op.operands])).trans hx
 have e2 := (hlt ix (by simp [Op.operands])).trans hi
 unfold effPlain
 simp only [plainOp, Op.operands, List.all_cons, List.all_nil, e1, e2, Option.bind_some, conV, Option.isSome_some, Bool.and_true, Bool.true_and, if_true]
 unfold execOp
 simp only [e1, e2, Option.bind_some, conV, Option.getD_some, semVal_bind, sv_index hu hn, semVal_pure, constAV_int, Option.map_some, semVal_map]
theorem W.sidxN {t : TypeId} {x ix : Operand} {s : ByteArray} {k : IntKind} {n : Nat} (hd : Nat.blt d N = true) (hu : P.underlying t = some .string) (hx : ev (lk tm) x = some (.one false [.d (.v (.string s))])) (hi : ev (lk tm) ix = some (.one false [.d (.v (.int k (n : Int)))])) (hn : n < s.size) (h : W P lend N ops dr cs R (i + 1) os ((d, .one false [.d (.v (.int .u8 (byteN s n)))]) :: tm) bo nx (ns ++ [⟨opKeys (lk tm) (lko bo) ⟨some d, .index t x ix, ty, pos, af, none⟩, []⟩])) : W P lend N ops dr cs R i (⟨some d, .index t x ix, ty, pos, af, none⟩ :: os) tm bo nx ns :=
 W.sidx hd hu hx hi ⟨by omega, by omega⟩ h
theorem W.slen {t : TypeId} {x : Operand} {s : ByteArray} (hd : Nat.blt d N = true) (hu : P.underlying t = some .string) (hx : ev (lk tm) x = some (.one false [.d (.v (.string s))])) (h : W P lend N ops dr cs R (i + 1) os ((d, .one false [.d (.v (.int .i64 (s.size : Int)))]) :: tm) bo nx (ns ++ [⟨opKeys (lk tm) (lko bo) ⟨some d, .call ⟨.builtin .len, #[x], #[t]⟩, ty, pos, af, none⟩, []⟩])) : W P lend N ops dr cs R i (⟨some d, .call ⟨.builtin .len, #[x], #[t]⟩, ty, pos, af, none⟩ :: os) tm bo nx ns := by
 refine W.val hd ?_ h
 have e1 := (ev_only (o := ⟨some d, .call ⟨.builtin .len, #[x], #[t]⟩, ty, pos, af, none⟩) (lt := lk tm) (x := x) (by simp [Op.operands, Call.operands])).trans hx
 simp only [effOf, hu]
 unfold effPlain
 simp only [plainOp, Op.operands, Call.operands, Array.toList_append, Array.append_empty, Array.empty_append, List.nil_append, List.all_cons, List.all_nil, e1, Option.bind_some, conV, Option.isSome_some, Bool.and_true, Bool.true_and, if_true]
 unfold execOp
 have hb : semVal P (Builtin.len_ #[t] ty #[.string s]) = some (.int .i64 (s.size : Int)) := by
  unfold Builtin.len_
  simp [semVal_bind, semVal_underlying hu, semVal_pure, goInt]
 simp [e1, conV, resolve, invoke, builtin, hb, semVal_bind, semVal_pure, semVal_map, constAV, cellC, scal]
theorem W.sslLH {t : TypeId} {x lo hi : Operand} {s : ByteArray} {k k' : IntKind} {l m : Int} (hd : Nat.blt d N = true) (hu : P.underlying t = some .string) (hx : ev (lk tm) x = some (.one false [.d (.v (.string s))])) (hl : ev (lk tm) lo = some (.one false [.d (.v (.int k l))])) (hh : ev (lk tm) hi = some (.one false [.d (.v (.int k' m))])) (hn : 0 ≤ l ∧ l ≤ m ∧ m ≤ s.size) (h : W P lend N ops dr cs R (i + 1) os ((d, .one false [.d (.v (.string (s.extract l.toNat m.toNat)))]) :: tm) bo nx (ns ++ [⟨opKeys (lk tm) (lko bo) ⟨some d, .slice t x (some lo) (some hi) none, ty, pos, af, none⟩, []⟩])) : W P lend N ops dr cs R i (⟨some d, .slice t x (some lo) (some hi) none, ty, pos, af, none⟩ :: os) tm bo nx ns := by
 refine W.val hd ?_ h
 have e1 := (ev_only (o := ⟨some d, .slice t x (some lo) (some hi) none, ty, pos, af, none⟩) (lt := lk tm) (x := x) (by simp [Op.operands])).trans hx
 have e2 := (ev_only (o := ⟨some d, .slice t x (some lo) (some hi) none, ty, pos, af, none⟩) (lt := lk tm) (x := lo) (by simp [Op.operands])).trans hl
 have e3 := (ev_only (o := ⟨some d, .slice t x (some lo) (some hi) none, ty, pos, af, none⟩) (lt := lk tm) (x := hi) (by simp [Op.operands])).trans hh
 simp only [effOf, effSlice, hu]
 unfold effPlain
 simp [plainOp, Op.operands, e1, e2, e3, conV, execOp, semVal_bind, semVal_map, sv_at hu, sv_sliceLH hu hn, semVal_pure, constAV, cellC, scal]
theorem W.sslL {t : TypeId} {x lo : Operand} {s : ByteArray} {k : IntKind} {l : Int} (hd : Nat.blt d N = true) (hu : P.underlying t = some .string) (hx : ev (lk tm) x = some (.one false [.d (.v (.string s))])) (hl : ev (lk tm) lo = some (.one false [.d (.v (.int k l))])) (hn : 0 ≤ l ∧ l ≤ s.size) (h : W P lend N ops dr cs R (i + 1) os ((d, .one false [.d (.v (.string (s.extract l.toNat s.size)))]) :: tm) bo nx (ns ++ [⟨opKeys (lk tm) (lko bo) ⟨some d, .slice t x (some lo) none none, ty, pos, af, none⟩, []⟩])) : W P lend N ops dr cs R i (⟨some d, .slice t x (some lo) none none, ty, pos, af, none⟩ :: os) tm bo nx ns := by
 refine W.val hd ?_ h
 have e1 := (ev_only (o := ⟨some d, .slice t x (some lo) none none, ty, pos, af, none⟩) (lt := lk tm) (x := x) (by simp [Op.operands])).trans hx
 have e2 := (ev_only (o := ⟨some d, .slice t x (some lo) none none, ty, pos, af, none⟩) (lt := lk tm) (x := lo) (by simp [Op.operands])).trans hl
 simp only [effOf, effSlice, hu]
 unfold effPlain
 simp [plainOp, Op.operands, e1, e2, conV, execOp, semVal_bind, semVal_map, sv_at hu, sv_sliceL hu hn, semVal_pure, constAV, cellC, scal]
theorem sv_seq (a b : ByteArray) : (a.toList == b.toList) = decide (a = b) := by
 have e : a.toList = b.toList ↔ a = b := ⟨fun h => by
  have h1 : a.data.toList = b.data.toList := by rw [← ByteArray.toList_eq, ← ByteArray.toList_eq]; exact h
  exact ByteArray.ext (Array.toList_inj.1 h1), fun h => by rw [h]⟩
 by_cases h : a = b
 ·subst h; simp
 ·rw [decide_eq_false h]
  simpa using fun h' => h (e.1 h')
theorem W.seq {t ty' : TypeId} {x y : Operand} {a b : ByteArray} (hd : Nat.blt d N = true) (hu : P.underlying t = some .string) (hx : ev (lk tm) x = some (.one false [.d (.v (.string a))])) (hy : ev (lk tm) y = some (.one false [.d (.v (.string b))])) (h : W P lend N ops dr cs R (i + 1) os ((d, .one false [.d (.v (.bool (decide (a = b))))]) :: tm) bo nx (ns ++ [⟨opKeys (lk tm) (lko bo) ⟨some d, .binOp .eql t x y ty', ty, pos, af, none⟩, []⟩])) : W P lend N ops dr cs R i (⟨some d, .binOp .eql t x y ty', ty, pos, af, none⟩ :: os) tm bo nx ns :=
 W.plain hd (fun lt hlt => plain2 rfl ((hlt x (by simp [Op.operands])).trans hx) ((hlt y (by simp [Op.operands])).trans hy) (by unfold eqGuard; rfl) (by
  simp only [binOp, Op.stringOp, sv_seq]; rfl) rfl) (fun _ _ _ _ _ _ _ h => orE_some h) h
theorem W.compl {t : TypeId} {x : Operand} {k : IntKind} {a : Int} (hd : Nat.blt d N = true) (hx : ev (lk tm) x = some (.one false [.d (.v (.int k a))])) (h : W P lend N ops dr cs R (i + 1) os ((d, .one false [.d (.v (.int k (bits .xor k (if k.signed then -1 else k.max) a)))]) :: tm) bo nx (ns ++ [⟨opKeys (lk tm) (lko bo) ⟨some d, .unOp .xor t x, ty, pos, af, none⟩, []⟩])) : W P lend N ops dr cs R i (⟨some d, .unOp .xor t x, ty, pos, af, none⟩ :: os) tm bo nx ns :=
 W.plain hd (fun lt hlt => plain1 rfl ((hlt x (by simp [Op.operands])).trans hx) (v := .int k (bits .xor k (if k.signed then -1 else k.max) a)) (by simp only [Op.unary, Op.intBits, bits]; rfl) rfl) (fun _ _ _ _ _ _ _ h => h) h
end
end Go.Proofs.YtfnljcallbalgaaGreatDoor

