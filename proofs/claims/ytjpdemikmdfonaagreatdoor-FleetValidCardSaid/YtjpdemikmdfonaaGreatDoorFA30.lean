/- Rules of runs and contracts of functions, for the claims of one seat. -/
import Derived.Calls
namespace Go.Proofs.YtjpdemikmdfonaaGreatDoor.Drw
open Go
set_option linter.unusedSimpArgs false
set_option linter.unusedVariables false
set_option maxHeartbeats 4000000
theorem ask_drawn {α : Type} (w : World) (a : Ask α) : w.drawn ≤ (w.ask a).2.drawn := by
 induction a generalizing w with
 | done a => simp [World.ask]
 | ask what range k ih =>
  simp only [World.ask]
  split
  ·exact ih _ _
  ·exact Nat.le_trans (Nat.le_succ _) (ih _ { w with drawn := w.drawn + 1 })
theorem sys_drawn (w : World) (c : Sys) : w.drawn ≤ (w.sys c).2.drawn := by
 have h := ask_drawn w (Kernel.perform c w.os)
 unfold World.sys
 split
 ·exact Nat.le_refl _
 ·rename_i r os w' heq
  rw [heq] at h
  exact h
theorem viewStore_drawn {p : Program} {w w' : World} {at_ : Addr} {u : TypeId} {k : Addr} {v : Value} {b : Bool} {l : List Addr} (h : w.viewStore p at_ u k v b = .ok (w', l)) : w'.drawn = w.drawn := by
 unfold World.viewStore at h
 simp only [bind, Except.bind, pure, Except.pure, throw, throwThe, MonadExceptOf.throw] at h
 repeat' split at h
 all_goals first | (simp at h; done) | (simp only [Except.ok.injEq, Prod.mk.injEq] at h; obtain ⟨rfl, _⟩ := h; rfl)
theorem farStore_drawn {p : Program} {w w' : World} {a : Addr} {v : Value} {b : Bool} {l : List Addr} (h : w.farStore p a v b = .ok (w', l)) : w'.drawn = w.drawn := by
 unfold World.farStore at h
 repeat' split at h
 all_goals first | (simp at h; done) | skip
 rename_i r hr
 simp only [Except.ok.injEq] at h
 subst h
 exact viewStore_drawn hr
theorem setCell_drawn (w : World) (a : Addr) (v : Value) : (w.setCell a v).drawn = w.drawn := rfl
theorem freeze_drawn (w : World) (a : Addr) (n : Nat) : (w.freeze a n).drawn = w.drawn := by unfold World.freeze; (repeat' split) <;> first | rfl | trivial
def wo {α : Type} : Result α → World
 | .ok _ w => w
 | .halt _ w => w
theorem run_drawn {α : Type} (p : Program) (s : Sem α) : ∀ w : World, w.drawn ≤ (wo (s.run p w)).drawn := by
 induction s with
 | pure a => intro w; exact Nat.le_refl _
 | load m a k ih => intro w; simp only [Sem.run]; (repeat' split) <;> first | exact ih _ _ | exact Nat.le_refl _
 | store m a v k ih =>
  intro w
  cases v <;> simp only [Sem.run] <;> (repeat' split) <;> first
   | exact Nat.le_refl _
   | (refine Nat.le_trans (Nat.le_of_eq ?_) (ih _); exact (setCell_drawn _ _ _).symm)
   | (rename_i heq; refine Nat.le_trans (Nat.le_of_eq ?_) (ih _); exact (farStore_drawn heq).symm)
 | new o k ih => intro w; simp only [Sem.run]; exact ih _ { w with heap := w.heap.push o }
 | shape r k ih => intro w; simp only [Sem.run]; exact ih _ _
 | freeze a n k ih => intro w; simp only [Sem.run]; refine Nat.le_trans (Nat.le_of_eq ?_) (ih _); exact (freeze_drawn _ _ _).symm
 | frozen a k ih => intro w; simp only [Sem.run]; exact ih _ _
 | getObj r k ih => intro w; simp only [Sem.run]; (repeat' split) <;> first | exact ih _ _ | exact Nat.le_refl _
 | setObj r o k ih => intro w; simp only [Sem.run]; (repeat' split) <;> first | exact ih { w with heap := w.heap.setIfInBounds r o } | exact Nat.le_refl _
 | choose q k ih =>
  intro w; simp only [Sem.run]; split
  ·exact ih _ _
  ·exact Nat.le_trans (Nat.le_succ _) (ih _ { w with drawn := w.drawn + 1 })
 | sys c k ih => intro w; simp only [Sem.run]; exact Nat.le_trans (sys_drawn w c) (ih _ _)
 | program k ih => intro w; simp only [Sem.run]; exact ih _ _
 | mark m k ih => intro w; simp only [Sem.run]; exact ih _
 | halt h => intro w; exact Nat.le_refl _
theorem run_ok {α : Type} {p : Program} {s : Sem α} {w w' : World} {a : α} (h : s.run p w = .ok a w') : w.drawn ≤ w'.drawn := by
 have := run_drawn p s w; rw [h] at this; exact this
theorem run_halt {α : Type} {p : Program} {s : Sem α} {w w' : World} {e : Halt} (h : s.run p w = .halt e w') : w.drawn ≤ w'.drawn := by
 have := run_drawn p s w; rw [h] at this; exact this
def gup (d : Nat) : GStep → Prop
 | .go _ w _ => d ≤ w.drawn
 | .comm _ _ _ _ w _ => d ≤ w.drawn
 | .spawn _ _ w _ => d ≤ w.drawn
 | .count _ w _ => d ≤ w.drawn
 | .timer _ _ w _ => d ≤ w.drawn
 | .alone _ _ w _ => d ≤ w.drawn
 | .newcoro _ _ _ w _ => d ≤ w.drawn
 | .coroswitch _ _ _ w _ => d ≤ w.drawn
 | .collect _ w _ => d ≤ w.drawn
 | .watch _ w _ => d ≤ w.drawn
 | .ended _ _ _ => True
theorem gup_after {d : Nat} {es : Array Event} {s : GStep} : gup d (GStep.after es s) ↔ gup d s := by cases s <;> exact Iff.rfl
theorem gup_mono {d d' : Nat} {s : GStep} (h : gup d' s) (hd : d ≤ d') : gup d s := by cases s <;> first | exact trivial | exact Nat.le_trans hd h
def sup (d : Nat) : Stepped → Prop
 | .next m => d ≤ m.world.drawn
 | .ended _ _ => True
theorem sup_mono {d d' : Nat} {s : Stepped} (h : sup d' s) (hd : d ≤ d') : sup d s := by cases s <;> first | exact trivial | exact Nat.le_trans hd h
theorem gup_ite {d : Nat} {c : Prop} [Decidable c] {a b : GStep} (ha : c → gup d a) (hb : ¬ c → gup d b) : gup d (if c then a else b) := by
 split
 ·exact ha ‹_›
 ·exact hb ‹_›
theorem gup_elim {α : Type} {d : Nat} {o : Option α} {a : GStep} {f : α → GStep} (ha : gup d a) (hf : ∀ x, gup d (f x)) : gup d (o.elim a f) := by
 cases o with
 | none => exact ha
 | some x => exact hf x
theorem endWith_up (w : World) (fd : Nat) (text : ByteArray) (o : Outcome) (d : Nat) : gup d (endWith w fd text o) := by
 unfold endWith; (repeat' split) <;> exact trivial
theorem dieOf_up (fr : Frame) (ah : List ByteArray) (m : String) (b : Bool) (w : World) : gup w.drawn (dieOf fr ah m b w) := Nat.le_refl _
theorem endPrinting_up (p : Program) (fr : Frame) (v : Value) (w : World) : gup w.drawn (endPrinting p fr v w) := by
 unfold endPrinting
 dsimp only
 split
 ·exact dieOf_up ..
 ·exact trivial
theorem endFatal_up (p : Program) (fr : Frame) (callers : List Frame) (dying : Option Dying) (m : String) (w : World) : gup w.drawn (endFatal p fr callers dying m w) := by
 unfold endFatal; dsimp only; split <;> (first | exact trivial | exact Nat.le_refl _ | exact run_ok (by assumption) | exact run_halt (by assumption) | (have h' := run_ok ‹Sem.run _ _ _ = .ok _ _›; exact h') | (have h' := run_halt ‹Sem.run _ _ _ = .halt _ _›; exact h'))
theorem writeOn_up (p : Program) (fr : Frame) (d : Dying) (f : Fatal) (w : World) : gup w.drawn (writeOn p fr d f w) := by
 unfold writeOn
 split
 ·exact trivial
 ·dsimp only
  rw [Sem.runT_eq]
  split <;> rename_i heq <;> simp only [Prod.mk.injEq] at heq <;> obtain ⟨heq, _⟩ := heq <;> (first | exact trivial | exact Nat.le_refl _ | exact run_ok (by assumption) | exact run_halt (by assumption) | (have h' := run_ok ‹Sem.run _ _ _ = .ok _ _›; exact h') | (have h' := run_halt ‹Sem.run _ _ _ = .halt _ _›; exact h'))
theorem die_up (p : Program) (fr : Frame) (d : Dying) (w : World) : gup w.drawn (die p fr d w) := by
 unfold die
 split
 ·exact writeOn_up ..
 ·split
  ·split
   ·(first | exact trivial | exact Nat.le_refl _ | exact run_ok (by assumption) | exact run_halt (by assumption) | (have h' := run_ok ‹Sem.run _ _ _ = .ok _ _›; exact h') | (have h' := run_halt ‹Sem.run _ _ _ = .halt _ _›; exact h'))
   ·exact endWith_up ..
  ·dsimp only
   split
   ·(first | exact trivial | exact Nat.le_refl _ | exact run_ok (by assumption) | exact run_halt (by assumption) | (have h' := run_ok ‹Sem.run _ _ _ = .ok _ _›; exact h') | (have h' := run_halt ‹Sem.run _ _ _ = .halt _ _›; exact h'))
   ·split <;> (first | exact trivial | exact Nat.le_refl _ | exact run_ok (by assumption) | exact run_halt (by assumption) | (have h' := run_ok ‹Sem.run _ _ _ = .ok _ _›; exact h') | (have h' := run_halt ‹Sem.run _ _ _ = .halt _ _›; exact h'))
   ·rw [Sem.runT_eq]
    dsimp only
    rw [gup_after]
    split <;> first | (first | exact trivial | exact Nat.le_refl _ | exact run_ok (by assumption) | exact run_halt (by assumption) | (have h' := run_ok ‹Sem.run _ _ _ = .ok _ _›; exact h') | (have h' := run_halt ‹Sem.run _ _ _ = .halt _ _›; exact h')) | (rename_i heq; exact gup_mono (endPrinting_up ..) (run_halt heq))
   ·(first | exact trivial | exact Nat.le_refl _ | exact run_ok (by assumption) | exact run_halt (by assumption) | (have h' := run_ok ‹Sem.run _ _ _ = .ok _ _›; exact h') | (have h' := run_halt ‹Sem.run _ _ _ = .halt _ _›; exact h'))
theorem doReturn_up (p : Program) (main : Bool) (fr : Frame) (callers : List Frame) (dying : Option Dying) (v : Value) (w : World) : gup w.drawn (doReturn p main fr callers dying v w) := by
 unfold doReturn; (repeat' split) <;> (first | exact trivial | exact Nat.le_refl _ | exact run_ok (by assumption) | exact run_halt (by assumption) | (have h' := run_ok ‹Sem.run _ _ _ = .ok _ _›; exact h') | (have h' := run_halt ‹Sem.run _ _ _ = .halt _ _›; exact h'))
theorem callDeferred_up (p : Program) (fr : Frame) (callers : List Frame) (dying : Option Dying) (d : Deferred) (w : World) : gup w.drawn (callDeferred p fr callers dying d w) := by
 unfold callDeferred
 rw [Sem.runT_eq]
 refine gup_ite (fun _ => trivial) (fun _ => ?_)
 ·dsimp only
  rw [gup_after]
  split
  all_goals first | (first | exact trivial | exact Nat.le_refl _ | exact run_ok (by assumption) | exact run_halt (by assumption) | (have h' := run_ok ‹Sem.run _ _ _ = .ok _ _›; exact h') | (have h' := run_halt ‹Sem.run _ _ _ = .halt _ _›; exact h')) | (rename_i heq; exact gup_mono (endFatal_up ..) (run_halt heq)) | ((repeat' split) <;> exact run_ok (by assumption))
theorem unwind_up (p : Program) (main : Bool) (fr : Frame) (callers : List Frame) (dying : Option Dying) (w : World) : gup w.drawn (unwind p main fr callers dying w) := by
 unfold unwind
 split
 ·rw [Sem.runT_eq]
  dsimp only
  rw [gup_after]
  split <;> (first | exact trivial | exact Nat.le_refl _ | exact run_ok (by assumption) | exact run_halt (by assumption) | (have h' := run_ok ‹Sem.run _ _ _ = .ok _ _›; exact h') | (have h' := run_halt ‹Sem.run _ _ _ = .halt _ _›; exact h'))
 ·exact callDeferred_up ..
 ·split
  ·(first | exact trivial | exact Nat.le_refl _ | exact run_ok (by assumption) | exact run_halt (by assumption) | (have h' := run_ok ‹Sem.run _ _ _ = .ok _ _›; exact h') | (have h' := run_halt ‹Sem.run _ _ _ = .halt _ _›; exact h'))
  ·split
   ·(first | exact trivial | exact Nat.le_refl _ | exact run_ok (by assumption) | exact run_halt (by assumption) | (have h' := run_ok ‹Sem.run _ _ _ = .ok _ _›; exact h') | (have h' := run_halt ‹Sem.run _ _ _ = .halt _ _›; exact h'))
   ·split
    ·(first | exact trivial | exact Nat.le_refl _ | exact run_ok (by assumption) | exact run_halt (by assumption) | (have h' := run_ok ‹Sem.run _ _ _ = .ok _ _›; exact h') | (have h' := run_halt ‹Sem.run _ _ _ = .halt _ _›; exact h'))
    ·split
     ·split
      ·(first | exact trivial | exact Nat.le_refl _ | exact run_ok (by assumption) | exact run_halt (by assumption) | (have h' := run_ok ‹Sem.run _ _ _ = .ok _ _›; exact h') | (have h' := run_halt ‹Sem.run _ _ _ = .halt _ _›; exact h'))
      ·split <;> (first | exact trivial | exact Nat.le_refl _ | exact run_ok (by assumption) | exact run_halt (by assumption) | (have h' := run_ok ‹Sem.run _ _ _ = .ok _ _›; exact h') | (have h' := run_halt ‹Sem.run _ _ _ = .halt _ _›; exact h'))
     ·split
      ·exact endPrinting_up ..
      ·(first | exact trivial | exact Nat.le_refl _ | exact run_ok (by assumption) | exact run_halt (by assumption) | (have h' := run_ok ‹Sem.run _ _ _ = .ok _ _›; exact h') | (have h' := run_halt ‹Sem.run _ _ _ = .halt _ _›; exact h'))
  ·split
   ·exact doReturn_up ..
   ·rw [Sem.runT_eq]
    dsimp only
    rw [gup_after]
    split
    ·rename_i heq; exact gup_mono (doReturn_up ..) (run_ok heq)
    ·(first | exact trivial | exact Nat.le_refl _ | exact run_ok (by assumption) | exact run_halt (by assumption) | (have h' := run_ok ‹Sem.run _ _ _ = .ok _ _›; exact h') | (have h' := run_halt ‹Sem.run _ _ _ = .halt _ _›; exact h'))
    ·(first | exact trivial | exact Nat.le_refl _ | exact run_ok (by assumption) | exact run_halt (by assumption) | (have h' := run_ok ‹Sem.run _ _ _ = .ok _ _›; exact h') | (have h' := run_halt ‹Sem.run _ _ _ = .halt _ _›; exact h'))
theorem early_up (p : Program) (fr : Frame) (callers : List Frame) (dying : Option Dying) (g : Nat) (w : World) : gup w.drawn (early p fr callers dying g w) := by
 unfold early; dsimp only; (repeat' split) <;> (first | exact trivial | exact Nat.le_refl _ | exact run_ok (by assumption) | exact run_halt (by assumption) | (have h' := run_ok ‹Sem.run _ _ _ = .ok _ _›; exact h') | (have h' := run_halt ‹Sem.run _ _ _ = .halt _ _›; exact h'))
theorem apply_up (p : Program) (listen : Bool) (fr : Frame) (callers : List Frame) (dying : Option Dying) (s : Sem Next) (w : World) : gup w.drawn (stepG.apply p listen fr callers dying s w) := by
 unfold stepG.apply
 rw [Sem.runT_eq]
 dsimp only
 rw [gup_after]
 have e : (if listen = true then (s.run p w, s.events p w #[]) else (s.run p w, #[])).1 = s.run p w := by split <;> rfl
 rw [e]
 split
 all_goals first | (first | exact trivial | exact Nat.le_refl _ | exact run_ok (by assumption) | exact run_halt (by assumption) | (have h' := run_ok ‹Sem.run _ _ _ = .ok _ _›; exact h') | (have h' := run_halt ‹Sem.run _ _ _ = .halt _ _›; exact h')) | (rename_i heq; exact gup_mono (endFatal_up ..) (run_halt heq)) | (rename_i heq; exact gup_mono (early_up ..) (run_halt heq)) | ((repeat' split) <;> first | (first | exact trivial | exact Nat.le_refl _ | exact run_ok (by assumption) | exact run_halt (by assumption) | (have h' := run_ok ‹Sem.run _ _ _ = .ok _ _›; exact h') | (have h' := run_halt ‹Sem.run _ _ _ = .halt _ _›; exact h')) | exact run_ok (by assumption))
theorem oper_up (p : Program) (listen : Bool) (fr : Frame) (callers : List Frame) (dying : Option Dying) (w : World) : gup w.drawn (stepG.oper p listen fr callers dying w) := by
 unfold stepG.oper; (repeat' split) <;> first | exact apply_up .. | (first | exact trivial | exact Nat.le_refl _ | exact run_ok (by assumption) | exact run_halt (by assumption) | (have h' := run_ok ‹Sem.run _ _ _ = .ok _ _›; exact h') | (have h' := run_halt ‹Sem.run _ _ _ = .halt _ _›; exact h'))
theorem exec_up (p : Program) (main : Bool) (listen : Bool) (fr : Frame) (callers : List Frame) (dying : Option Dying) (w : World) : gup w.drawn (stepG.exec p main listen fr callers dying w) := by
 have leave : ∀ (r : Result Value) (es : Array Event), w.drawn ≤ (wo r).drawn → gup w.drawn (GStep.after (seen p fr.fn es) (match r with
       | .ok v w => doReturn p main fr callers dying v w
       | .halt _ w => .ended (.stuck "range over a function: no such loop" (fr.pos p)) w)) := by
  intro r es hr
  rw [gup_after]
  cases r with
  | ok v w' => exact gup_mono (doReturn_up ..) hr
  | halt e w' => exact trivial
 unfold stepG.exec
 simp only [Sem.runT_eq]
 split
 all_goals first
  | (first | exact trivial | exact Nat.le_refl _ | exact run_ok (by assumption) | exact run_halt (by assumption) | (have h' := run_ok ‹Sem.run _ _ _ = .ok _ _›; exact h') | (have h' := run_halt ‹Sem.run _ _ _ = .halt _ _›; exact h'))
  | exact apply_up ..
  | exact oper_up ..
  | exact leave _ _ (run_drawn _ _ _)
  | (refine gup_ite (fun _ => ?_) (fun _ => ?_) <;> (first | exact trivial | exact Nat.le_refl _ | exact run_ok (by assumption) | exact run_halt (by assumption) | (have h' := run_ok ‹Sem.run _ _ _ = .ok _ _›; exact h') | (have h' := run_halt ‹Sem.run _ _ _ = .halt _ _›; exact h')); done)
  | ((repeat' split) <;> first | (first | exact trivial | exact Nat.le_refl _ | exact run_ok (by assumption) | exact run_halt (by assumption) | (have h' := run_ok ‹Sem.run _ _ _ = .ok _ _›; exact h') | (have h' := run_halt ‹Sem.run _ _ _ = .halt _ _›; exact h')) | exact leave _ _ (run_drawn _ _ _))
  | (split <;> first | exact leave _ _ (run_drawn _ _ _) | (split <;> (first | exact trivial | exact Nat.le_refl _ | exact run_ok (by assumption) | exact run_halt (by assumption) | (have h' := run_ok ‹Sem.run _ _ _ = .ok _ _›; exact h') | (have h' := run_halt ‹Sem.run _ _ _ = .halt _ _›; exact h'))); done)
  | (refine gup_ite (fun _ => ?_) (fun _ => ?_) <;> first | (first | exact trivial | exact Nat.le_refl _ | exact run_ok (by assumption) | exact run_halt (by assumption) | (have h' := run_ok ‹Sem.run _ _ _ = .ok _ _›; exact h') | (have h' := run_halt ‹Sem.run _ _ _ = .halt _ _›; exact h')) | exact oper_up ..; done)
  | (refine gup_elim ?_ ?_ <;> first | (intro _; first | (first | exact trivial | exact Nat.le_refl _ | exact run_ok (by assumption) | exact run_halt (by assumption) | (have h' := run_ok ‹Sem.run _ _ _ = .ok _ _›; exact h') | (have h' := run_halt ‹Sem.run _ _ _ = .halt _ _›; exact h')) | exact apply_up ..) | (first | exact trivial | exact Nat.le_refl _ | exact run_ok (by assumption) | exact run_halt (by assumption) | (have h' := run_ok ‹Sem.run _ _ _ = .ok _ _›; exact h') | (have h' := run_halt ‹Sem.run _ _ _ = .halt _ _›; exact h')) | (split <;> first | exact leave _ _ (run_drawn _ _ _) | (split <;> (first | exact trivial | exact Nat.le_refl _ | exact run_ok (by assumption) | exact run_halt (by assumption) | (have h' := run_ok ‹Sem.run _ _ _ = .ok _ _›; exact h') | (have h' := run_halt ‹Sem.run _ _ _ = .halt _ _›; exact h')))); done)
  | (rw [gup_after]; (repeat' split) <;> first | (first | exact trivial | exact Nat.le_refl _ | exact run_ok (by assumption) | exact run_halt (by assumption) | (have h' := run_ok ‹Sem.run _ _ _ = .ok _ _›; exact h') | (have h' := run_halt ‹Sem.run _ _ _ = .halt _ _›; exact h')) | (rename_i heq; exact gup_mono (apply_up ..) (run_ok heq)))
  | skip
theorem stepG_up (p : Program) (main : Bool) (g : Goroutine) (w : World) (listen : Bool) : gup w.drawn (stepG p main g w listen) := by
 unfold stepG
 dsimp only
 split
 ·exact die_up ..
 ·exact exec_up ..
 ·exact unwind_up ..
theorem waitingAt_up {rest : Rest} {cases : Array CommCase} {w w' : World} (h : waitingAt rest cases w = some w') : w.drawn ≤ w'.drawn := by
 unfold waitingAt at h
 repeat' split at h
 all_goals first | (simp at h; done) | (simp only [Option.some.injEq] at h; subst h; exact Nat.le_refl _)
theorem communicate_up (p : Program) (rest : Rest) (gs : Array Goroutine) (i : Nat) (g : Goroutine) (cases : Array CommCase) (blocking : Bool) (shape : CommShape) (w : World) :
    sup w.drawn (communicate p rest gs i g cases blocking shape w).1 := by
 unfold communicate
 dsimp only
 split
 ·exact trivial
 ·split
  ·split
   ·split
    ·rename_i heq; exact waitingAt_up heq
    ·exact trivial
   ·exact Nat.le_refl _
  ·split
   ·exact trivial
   ·rename_i hp
    have h1 := run_ok hp
    split
    ·split
     ·rename_i hq; exact Nat.le_trans h1 (run_halt hq)
     ·exact trivial
    ·exact h1
    ·exact h1
    ·split
     ·exact h1
     ·split
      ·rename_i hq; have hq := run_ok hq; exact Nat.le_trans h1 hq
      ·exact trivial
    ·exact h1
    ·exact h1
    ·exact trivial
theorem look_up (p : Program) (gs : Array Goroutine) (rest : Rest) (w : World) : sup w.drawn (look p gs rest w) := by
 unfold look
 dsimp only
 split
 ·split
  ·exact trivial
  ·split
   ·exact trivial
   ·split
    ·rename_i hp
     have h1 := run_ok hp
     exact h1
    ·exact trivial
    ·exact trivial
 ·exact trivial
theorem serve_up (p : Program) (m : Machine) (k : Nat) : sup m.world.drawn (serve p m k) := by
 unfold serve
 (repeat' split) <;> first | exact trivial | exact Nat.le_refl _ | (dsimp only; split <;> first | exact trivial | exact Nat.le_refl _)
theorem drain_up (w : World) (c : Nat) : (drain w c).2.drawn = w.drawn := by unfold drain; split <;> rfl
theorem retime_up (m : Machine) (k : Nat) (t : Timer) (a b : Nat) : (retime m k t a b).2.world.drawn = m.world.drawn := by
 unfold retime
 cases t.chan with
 | none => rfl
 | some c => exact drain_up m.world c
theorem opened_up {m m' : Machine} {v : Addr} (h : timerOp.opened m v = some m') : m'.world.drawn = m.world.drawn := by
 unfold timerOp.opened at h
 repeat' split at h
 all_goals first | (simp at h; done) | (simp only [Option.some.injEq] at h; subst h; rfl)
theorem named_up {m m' : Machine} {var : Addr} {f : Nat → Timer → Value × Machine} {v : Value} {d : Nat} (hf : ∀ k t, (f k t).2.world.drawn = d) (h : timerOp.named m var f = .ok (v, m')) : m'.world.drawn = d := by
 unfold timerOp.named at h
 split at h
 ·simp only [Except.ok.injEq] at h; rw [← hf, h]
 ·simp at h
theorem timerOp_up {m m' : Machine} {op : TimerOp} {v : Value} (h : timerOp m op = .ok (v, m')) : m'.world.drawn = m.world.drawn := by
 cases op with
 | new t =>
  simp only [timerOp] at h
  repeat' split at h
  all_goals first | (simp at h; done) | (cases h; done) | (simp only [Except.ok.injEq, Prod.mk.injEq] at h; obtain ⟨_, rfl⟩ := h; rfl)
 | stop var => simp only [timerOp] at h; exact named_up (fun k t => retime_up m k t _ _) h
 | reset var a b =>
  simp only [timerOp] at h
  split at h
  ·rename_i m1 h1; exact (named_up (fun k t => retime_up m1 k t _ _) h).trans (opened_up h1)
  ·simp at h
 | deadline ctx r wr a =>
  simp only [timerOp, Except.ok.injEq, Prod.mk.injEq] at h; obtain ⟨_, rfl⟩ := h; rfl
theorem runT_up (p : Program) (m : Machine) (i : Nat) (listen : Bool) : sup m.world.drawn (runT p m i listen).1 := by
 unfold runT
 dsimp only
 have hs := stepG_up p (i == 0) (m.gs.swapAt! i { (default : Goroutine) with status := .finished }).1 m.world listen
 generalize stepG p (i == 0) (m.gs.swapAt! i { (default : Goroutine) with status := .finished }).1 m.world listen = s at hs ⊢
 cases s with
 | ended o w es => exact trivial
 | comm g cases blocking shape w es => exact sup_mono (communicate_up ..) hs
 | go g w es => exact hs
 | spawn g c w es => exact hs
 | count g w es => dsimp only; split <;> first | exact trivial | exact hs
 | alone g on w es => exact hs
 | collect g w es => exact sup_mono (look_up ..) hs
 | watch g w es => exact hs
 | newcoro g c d w es => exact hs
 | coroswitch g c e w es => dsimp only; split <;> first | exact trivial | exact hs
 | timer g op w es =>
  dsimp only
  split
  ·rename_i heq; exact Nat.le_trans hs (Nat.le_of_eq (timerOp_up heq).symm)
  ·exact hs
  ·exact trivial
  ·exact trivial
def mup (d : Nat) : Move → Prop
 | .goroutine m _ => d ≤ m.world.drawn
 | .machine s _ => sup d s
theorem mup_mono {d d' : Nat} {s : Move} (h : mup d' s) (hd : d ≤ d') : mup d s := by cases s with | goroutine m i => exact Nat.le_trans hd h | machine s o => exact sup_mono h hd
theorem askOn_up (p : Program) (m : Machine) : mup m.world.drawn (askOn p m) := by
 unfold askOn
 dsimp only
 split
 ·exact trivial
 ·rename_i h1
  have h1 := run_ok h1
  split
  ·exact sup_mono (serve_up ..) h1
  ·split
   ·split
    ·exact h1
    ·split
     ·exact h1
     ·split <;> exact trivial
   ·split
    ·split
     ·exact trivial
     ·rename_i h2
      have h2 := run_ok h2
      split
      ·exact Nat.le_trans h1 h2
      ·split
       ·exact trivial
       ·rename_i h3; exact Nat.le_trans (Nat.le_trans h1 h2) (run_ok h3)
    ·split
     ·exact trivial
     ·rename_i h2
      have h2 := run_ok h2
      split
      ·exact trivial
      ·rename_i h3
       have h3 := run_ok h3
       split
       ·exact Nat.le_trans (Nat.le_trans h1 h2) h3
       ·split
        ·exact trivial
        ·rename_i h4; exact Nat.le_trans (Nat.le_trans (Nat.le_trans h1 h2) h3) (run_ok h4)
     ·rename_i h2; have h2 := run_ok h2; exact Nat.le_trans h1 h2
     ·rename_i h2
      have h2 := run_ok h2
      split
      ·exact trivial
      ·rename_i h3
       have h3 := run_ok h3
       split
       ·exact Nat.le_trans (Nat.le_trans h1 h2) h3
       ·split
        ·exact trivial
        ·rename_i h4; exact Nat.le_trans (Nat.le_trans (Nat.le_trans h1 h2) h3) (run_ok h4)
theorem ask_up (p : Program) (m : Machine) : mup m.world.drawn (ask p m) := by
 unfold ask
 split
 ·split
  ·exact trivial
  ·rename_i h1
   have h1 := run_ok h1
   have h2 := look_up p m.gs m.rest ‹World›
   split
   ·rename_i h3; rw [h3] at h2; exact mup_mono (askOn_up ..) (Nat.le_trans h1 h2)
   ·exact sup_mono h2 h1
  ·rename_i h1; exact mup_mono (askOn_up ..) (run_ok h1)
 ·exact askOn_up ..
theorem move_up (p : Program) (m : Machine) : mup m.world.drawn (move p m) := by
 unfold move
 split
 ·split
  ·exact Nat.le_refl _
  ·exact trivial
 ·split
  ·split
   ·exact Nat.le_refl _
   ·exact ask_up p { m with rest := { m.rest with slice := none } }
  ·exact ask_up ..
theorem step_up (p : Program) (m : Machine) : sup m.world.drawn (step p m) := by
 unfold step stepT
 have h := move_up p m
 split
 ·rename_i heq; rw [heq] at h; exact sup_mono (runT_up ..) h
 ·rename_i heq; rw [heq] at h; exact h
theorem runN_up (p : Program) : ∀ (n : Nat) (m m' : Machine), runN p n m = .next m' → m.world.drawn ≤ m'.world.drawn
 | 0, m, m', h => by simp only [runN, Stepped.next.injEq] at h; rw [h]; exact Nat.le_refl _
 | n + 1, m, m', h => by
  simp only [runN] at h
  have hs := step_up p m
  split at h
  ·rename_i heq; rw [heq] at hs; exact Nat.le_trans hs (runN_up p n _ _ h)
  ·rename_i heq; exact absurd h (heq _)
theorem steps_up {p : Program} {m m' : Machine} (h : Steps p m m') : m.world.drawn ≤ m'.world.drawn := by
 obtain ⟨n, hn⟩ := h; exact runN_up p n m m' hn
theorem calls_up {P : Program} {f : FuncId} {args : Array Value} {w : World} {R : Ending → World → Prop} (h : Calls P f args w R) :
    Calls P f args w fun e w' => R e w' ∧ (e ≠ .outgrown → w.drawn ≤ w'.drawn) := by
 intro cs
 obtain ⟨e, w', fr, h1, h2, h3⟩ := h cs
 refine ⟨e, w', fr, ⟨h1, fun he => ?_⟩, h2, h3⟩
 cases e with
 | outgrown => exact absurd rfl he
 | returned v => exact steps_up h2
 | panicked c => exact steps_up h2
end Go.Proofs.YtjpdemikmdfonaaGreatDoor.Drw

