/- Rules of runs and contracts of functions, for the claims of one seat. -/
import Derived.Test.YtjpdemikmdfonaaGreatDoorFA8
namespace Go.Proofs.YtjpdemikmdfonaaGreatDoor
open Go Go.RowKit
set_option linter.unusedSimpArgs false
set_option linter.unusedVariables false
def cellZ (a b : C) : Prop := a = b ∨ (a = .zero ∧ ∃ sz, b = .d (.sl sz []))
def cellsZ : List C → List C → Prop
 | [], [] => True
 | a :: cs, b :: ds => cellZ a b ∧ cellsZ cs ds
 | _, _ => False
def valsZ : List (Bool × List C) → List (Bool × List C) → Prop
 | [], [] => True
 | x :: xs, y :: ys => (x.1 = y.1 ∧ cellsZ x.2 y.2) ∧ valsZ xs ys
 | _, _ => False
def resZ (r0 r : ARes) : Prop := valsZ r0.vals r.vals ∧ r0.ios = r.ios ∧ r0.bx = r.bx
section
variable {V X : Nat → Prop} {Z : Key → Hd} {w0 w : World} {N : Nat} {ρ : Key → Hd} {ok : Key → Prop} {S : Nat → Prop} {P : Program} {st : St} {R : AX → St → Prop}
theorem CRel.z {c d : C} {v : Value} (h : CRel S ρ ok w c v) (hz : cellZ c d) : CRel S ρ ok w d v := by
 rcases hz with rfl | ⟨rfl, sz, rfl⟩
 ·exact h
 ·obtain ⟨A, rfl⟩ := h
  exact Rd.sl (rows := []) (A := A) (c := 0) (b := 0) (o := 0) (cv := fun _ _ => undef) (by simp) (by simp) (fun h => absurd rfl h) (fun i row h => by simp at h) (fun i row j d h => by simp at h) (fun i row j d h => by simp at h)
theorem All2.z : ∀ {cs ds : List C} {vs : List Value}, All2 (CRel S ρ ok w) cs vs → cellsZ cs ds → All2 (CRel S ρ ok w) ds vs
 | [], [], _, h, _ => h
 | c :: cs, d :: ds, _, h, hz => by
  cases h with
  | cons h t => exact .cons (h.z hz.1) (All2.z t hz.2)
 | [], _ :: _, _, _, hz => hz.elim
 | _ :: _, [], _, _, hz => hz.elim
theorem One.z {b : Bool} {cs ds : List C} {v : Value} (h : One (CRel S ρ ok w) b cs v) (hz : cellsZ cs ds) : One (CRel S ρ ok w) b ds v := by
 obtain ⟨vs, h1, h2⟩ := h
 exact ⟨vs, All2.z h1 hz, h2⟩
theorem Alls.z : ∀ {xs ys : List (Bool × List C)} {vs : List Value}, Alls (CRel S ρ ok w) xs vs → valsZ xs ys → Alls (CRel S ρ ok w) ys vs
 | [], [], _, h, _ => h
 | (b, cs) :: xs, (b', ds) :: ys, _, h, hz => by
  obtain ⟨⟨rfl, h1⟩, h2⟩ := hz
  cases h with
  | cons h t => exact .cons (One.z h h1) (Alls.z t h2)
 | [], _ :: _, _, _, hz => hz.elim
 | _ :: _, [], _, _, hz => hz.elim
theorem valsZ_len : ∀ {xs ys : List (Bool × List C)}, valsZ xs ys → xs.length = ys.length
 | [], [], _ => rfl
 | _ :: xs, _ :: ys, h => by simp [valsZ_len h.2]
 | [], _ :: _, h => h.elim
 | _ :: _, [], h => h.elim
theorem AVRel.z {xs ys : List (Bool × List C)} {v : Value} (h : AVRel (CRel S ρ ok w) (resAV id xs) v) (hz : valsZ xs ys) : AVRel (CRel S ρ ok w) (resAV id ys) v := by
 have hl := valsZ_len hz
 by_cases h1 : xs.length = 1
 ·match xs, ys, hz, h1 with
  | [(b, cs)], [(b', ds)], hz, _ =>
   obtain ⟨⟨e, hz1⟩, _⟩ := hz
   have e' : b = b' := e
   subst e'
   rw [resAV_id_one] at h ⊢
   exact One.z h hz1
  | [_], [], hz, _ => exact hz.elim
  | [_], _ :: _ :: _, hz, _ => exact absurd hl (by simp)
 ·rw [resAV_id_tup h1] at h
  rw [resAV_id_tup (by omega)]
  obtain ⟨vs, h2, h3⟩ := h
  exact ⟨vs, h2, Alls.z h3 hz⟩
theorem FnSound.z {f : FuncId} {args : List Arg} {bxs : List (Key × Box)} {r0 r : ARes} (h : FnSound P f args bxs r0) (hz : resZ r0 r) : FnSound P f args bxs r := by
 obtain ⟨z1, z2, z3⟩ := hz
 intro V X Z ρ w vals hl hR
 refine (h V X Z ρ w vals hl hR).mono ?_
 rintro e w' ⟨v, ρ', rfl, hR'⟩
 refine ⟨v, ρ', rfl, ?_⟩
 rw [← z2, ← z3]
 refine ⟨hR'.size, hR'.defers, fun t av ht => ?_, hR'.bx, hR'.ap, hR'.lo, hR'.fr, hR'.va, hR'.zz⟩
 unfold ltOne at ht
 split at ht
 ·rename_i e
  subst e
  cases ht
  have := hR'.tm 0 (resAV id r0.vals) rfl
  exact ⟨this.1, AVRel.z this.2 z1⟩
 ·cases ht
def fnEndZ (P : Program) (own : Bool) (fn : Func) (args : List Arg) (r : ARes) : AX → St → Prop
 | .exit _, _ => False
 | _, s => match outR P own fn args s with
  | some r0 => resZ r0 r
  | none => False
theorem fin_soundZ {own : Bool} {fn : Func} {args : List Arg} {r : ARes} (s : St) (a : Act) (w' : World) (hs : SR V X Z w fn.ntmps s a w') (h : match outR P own fn args s with | some r0 => resZ r0 r | none => False) : a.defers = [] ∧ ∃ v, (results fn a.tmps).run P w' = .ok v w' ∧ ∃ v' ρ', Ending.returned v = .returned v' ∧ Rel V X Z w 1 ρ' (fun _ => True) (ltOne (resAV id r.vals)) (lk (ioBx 0 args r.ios ++ r.bx)) ⟨#[v'], []⟩ w' := by
 split at h
 ·rename_i r0 h0
  obtain ⟨h1, v, h2, v', ρ', h3, hR'⟩ := fin_sound s a w' hs h0
  obtain ⟨z1, z2, z3⟩ := h
  refine ⟨h1, v, h2, v', ρ', h3, ?_⟩
  rw [← z2, ← z3]
  refine ⟨hR'.size, hR'.defers, fun t av ht => ?_, hR'.bx, hR'.ap, hR'.lo, hR'.fr, hR'.va, hR'.zz⟩
  unfold ltOne at ht
  split at ht
  ·rename_i e
   subst e
   cases ht
   have := hR'.tm 0 (resAV id r0.vals) rfl
   exact ⟨this.1, AVRel.z this.2 z1⟩
  ·cases ht
 ·exact h.elim
theorem fn_of_JZ {f : FuncId} {fn : Func} {body : Code} {own : Bool} {args : List Arg} {bxs : List (Key × Box)} {r : ARes} (hf : P.funcs[f]? = some fn) (hbody : fn.body = some body) (hp : fn.params.size ≤ args.length) (hn : args.length ≤ fn.ntmps)
    (h : J P fn.ntmps body ⟨argTm 0 args, argBx 0 args ++ bxs, 1⟩ (fnEndZ P own fn args r)) : FnSound P f args bxs r := by
 intro V X Z ρ w vals hlen hR
 refine calls_of_wp hf hbody ?_
 have hsz : (vals.toArray ++ Array.replicate (fn.ntmps - vals.toArray.size) undef).size = fn.ntmps := by simp; omega
 have h0 : SR V X Z w fn.ntmps { tm := argTm 0 args, bx := argBx 0 args ++ bxs, nx := 1 } { tmps := vals.toArray ++ Array.replicate (fn.ntmps - vals.toArray.size) undef, defers := [] } w := by
  refine ⟨ρ, hsz, rfl, fun t av ht => ?_, hR.bx, hR.ap, hR.lo, hR.fr, hR.va, hR.zz⟩
  obtain ⟨h1, h2⟩ := hR.tm t av ht
  refine ⟨by omega, ?_⟩
  have e1 : (vals.toArray ++ Array.replicate (fn.ntmps - vals.toArray.size) undef).getD t undef = vals.toArray.getD t undef := by
   simp [Array.getD_eq_getD_getElem?, Array.getElem?_append, h1]
  rw [e1]
  exact h2
 refine wp_mono (h V X Z w _ w h0) (fun e a w' hq => ?_)
 cases e with
 | normal => obtain ⟨s, h1, h2⟩ := hq; exact fin_soundZ s a w' h2 h1
 | ret => obtain ⟨s, h1, h2⟩ := hq; exact fin_soundZ s a w' h2 h1
 | exit id => obtain ⟨s, h1, h2⟩ := hq; exact h1.elim
 | goto l => exact hq.elim
 | panic ch => exact hq.elim
 | outgrown => exact hq.elim
theorem fn_of_JLZ {f : FuncId} {fn : Func} {body : Code} {own : Bool} {args : List Arg} {bxs : List (Key × Box)} {r : ARes} (hf : P.funcs[f]? = some fn) (hbody : fn.body = some body) (hN : fn.ntmps = N) (hp : decide (fn.params.size ≤ args.length) = true) (hn : decide (args.length ≤ N) = true)
    (h : JL P N [body] ⟨argTm 0 args, argBx 0 args ++ bxs, 1⟩ (fnEndZ P own fn args r)) : FnSound P f args bxs r := by
 subst hN
 refine fn_of_JZ (own := own) hf hbody (by simpa using hp) (of_decide_eq_true hn) ((JL_cons.1 h).mono fun ax s hs => ?_)
 cases ax with
 | normal => exact hs
 | exit i => exact hs
 | ret => exact hs
end
end Go.Proofs.YtjpdemikmdfonaaGreatDoor

namespace Go.Proofs.YtjpdemikmdfonaaGreatDoor
open Go Go.RowKit
set_option linter.unusedSimpArgs false
set_option linter.unusedVariables false
abbrev BO := List (Key × Option Box)
def lko (bo : BO) (q : Key) : Option Box := match lk bo q with
 | some ob => ob
 | none => none
def clean : BO → List (Key × Box)
 | [] => []
 | (k, some b) :: r => (k, b) :: clean r
 | (k, none) :: r => (clean r).filter (·.1 != k)
theorem lk_clean : ∀ (bo : BO) (q : Key), lk (clean bo) q = lko bo q
 | [], q => rfl
 | (k, some b) :: r, q => by
  have ih := lk_clean r q
  unfold clean
  unfold lko at ih ⊢
  show (if q = k then some b else lk (clean r) q) = match (if q = k then some (some b) else lk r q) with | some ob => ob | none => none
  by_cases h : q = k
  ·rw [if_pos h, if_pos h]
  ·rw [if_neg h, if_neg h]; exact ih
 | (k, none) :: r, q => by
  have ih := lk_clean r q
  unfold clean
  rw [lk_filterK]
  unfold lko at ih ⊢
  show _ = match (if q = k then some none else lk r q) with | some ob => ob | none => none
  by_cases h : q = k
  ·rw [if_pos h, if_pos h]
  ·rw [if_neg h, if_neg h]; exact ih
theorem lko_app (up bo : BO) : lko (up ++ bo) = updB (lko bo) up := by
 funext q
 unfold lko updB
 rw [lk_append]
 cases lk up q <;> rfl
section
variable {P : Program} {lend : FuncId → Bool} {N : Nat} {ops : Array Oper} {dr : Bool} {cs : List Code} {R : AX → St → Prop}
theorem run_call {E E' : Env} {nx : Nat} (hl : E.lend = E'.lend) (hN : E.N = E'.N) : ∀ {i : Nat} {os : List Oper} {lt lt' : Nat → Option AV} {lb lb' : Key → Option Box} {rs : List Rec}, Run P E ops nx i os lt lb rs lt' lb' → (∀ j, i ≤ j → E.call j = E'.call j) → Run P E' ops nx i os lt lb rs lt' lb' := by
 intro i os lt lt' lb lb' rs h
 induction h with
 | nil => intro _; exact .nil
 | op hd hw he hn t ih =>
  intro hc
  refine .op (fun k hk => by rw [← hN]; exact hd k hk) hw ?_ hn (ih fun j hj => hc j (by omega))
  rw [← he]
  unfold effAt
  rw [hl, hc _ (Nat.le_refl _)]
 | no hd hw t ih =>
  intro hc
  exact .no (fun k hk => by rw [← hN]; exact hd k hk) hw (ih fun j hj => hc j (by omega))
inductive W (P : Program) (lend : FuncId → Bool) (N : Nat) (ops : Array Oper) (dr : Bool) (cs : List Code) (R : AX → St → Prop) (i : Nat) (os : List Oper) (tm : List (Nat × AV)) (bo : BO) (nx : Nat) (ns : List Note) : Prop
 | mk (h : ∃ call : Nat → CallF, (∀ j, CallOk P (call j)) ∧ ∃ rs lt' lb' tm' bo', Run P ⟨call, lend, fun _ s => s, 0, N⟩ ops nx i os (lk tm) (lko bo) rs lt' lb' ∧ lk tm' = lt' ∧ lko bo' = lb' ∧
  (dr = false ∨ orderOk ops (masks ops ops.size) (ns ++ rs.map fun r => ⟨r.keys, r.up.map (·.1)⟩) = true) ∧ JL P N cs ⟨tm', clean bo', nx + 1⟩ R)
theorem J.regionW (hm : P.follows .mixedOrders = true) {id : Nat} {tm : List (Nat × AV)} {bo : BO} {nx : Nat} (h : W P lend N ops dr cs R 0 ops.toList tm bo nx []) : JL P N (.region id ops dr :: cs) ⟨tm, clean bo, nx⟩ R := by
 obtain ⟨call, hcall, rs, lt', lb', tm', bo', hrun, e1, e2, hord, hJ⟩ := h
 rw [JL_cons]
 intro V X Z w0 a w ⟨ρ, hR⟩
 have hlb : lk (clean bo) = lko bo := funext fun q => lk_clean bo q
 have hR' : Rel V X Z w0 N ρ (fun q => q.2 < nx) (lk tm) (lko bo) a w := by rw [← hlb]; exact hR
 have hop : ∀ i, OpSound P ((⟨call, lend, fun _ s => s, 0, N⟩ : Env).call i) (⟨call, lend, fun _ s => s, 0, N⟩ : Env).lend := fun i => op_sound (hcall i)
 have hfin : ∀ a w, (∃ ρ, Rel V X Z w0 N ρ (fun q => q.2 < nx + 1) lt' lb' a w) → QJ V X Z w0 N (thenL P N cs R) .normal a w := by
  rintro a w ⟨ρ, h'⟩
  refine ⟨⟨tm', clean bo', nx + 1⟩, hJ, ρ, ?_⟩
  have hlb' : lk (clean bo') = lb' := (funext fun q => lk_clean bo' q).trans e2
  show Rel V X Z w0 N ρ (fun q => q.2 < nx + 1) (lk tm') (lk (clean bo')) a w
  rw [hlb', e1]
  exact h'
 cases dr with
 | false =>
  refine wp_region ?_
  have := run_seq hop rfl hrun (fun j o hj => by simpa using hj) (hR'.okmono fun q hq => .inl hq) hfin
  simpa using this
 | true =>
  refine wp_region_any hm ?_
  have hD := hR'.drew
  have hord' := hord.resolve_left (by simp)
  refine any_order hop rfl hrun (by simpa using hord') hfin ops.size _ ρ a _ (by simp) (undone_all _ _) (fun i o ho hl => ?_) ?_
  ·exfalso
   by_cases g : i < ops.size <;> simp [Array.getD, g] at hl
  ·have e0 : (fun i => (Array.replicate ops.size false).getD i false) = fun _ => false := by
     funext i
     by_cases g : i < ops.size <;> simp [Array.getD, g]
   have e3 : ∀ n, ltS ops.toList rs (fun _ => false) (lk tm) n = lk tm := by
    intro n
    induction n with
    | zero => rfl
    | succ n ih => unfold ltS; rw [if_neg (by decide)]; exact ih
   have e4 : ∀ n, lbS rs (fun _ => false) (lko bo) n = lko bo := by
    intro n
    induction n with
    | zero => rfl
    | succ n ih => unfold lbS; rw [if_neg (by decide)]; exact ih
   rw [e0, e3, e4]
   exact hD.okmono fun q hq => .inl hq
theorem sr_nx {V X : Nat → Prop} {Z : Key → Hd} {w0 : World} {st : St} {nx' : Nat} {a : Act} {w : World} (h : SR V X Z w0 N st a w) (hn : st.nx ≤ nx') : SR V X Z w0 N ⟨st.tm, st.bx, nx'⟩ a w := by
 obtain ⟨ρ, hR⟩ := h
 exact ⟨ρ, hR.okmono fun q hq => Nat.lt_of_lt_of_le hq hn⟩
theorem JL.regionW (nx' : Nat) (hm : P.follows .mixedOrders = true) {id : Nat} {l : List Oper} {tm : List (Nat × AV)} {bo : BO} {nx : Nat} (hn : Nat.ble nx nx' = true) (h : W P lend N ⟨l⟩ dr cs R 0 l tm bo nx' []) : JL P N (.region id ⟨l⟩ dr :: cs) ⟨tm, clean bo, nx⟩ R :=
 JL.sub (st' := ⟨tm, clean bo, nx'⟩) (fun V X Z w0 a w hs => sr_nx hs (Nat.le_of_ble_eq_true hn)) (J.regionW hm h)
variable {i : Nat} {o : Oper} {os : List Oper} {tm tm' : List (Nat × AV)} {bo bo' : BO} {nx : Nat} {ns : List Note} {d : Nat} {pos : String} {ty : TypeId} {af : Array Edge}
theorem W.nil (h : JL P N cs ⟨tm, clean bo, nx + 1⟩ R) : W P lend N ops false cs R i [] tm bo nx ns :=
 ⟨fun _ _ _ _ => none, fun _ _ _ _ _ h => (by cases h), [], _, _, tm, bo, .nil, rfl, rfl, .inl rfl, h⟩
theorem W.nilD (ho : orderOk ops (masks ops ops.size) ns = true) (h : JL P N cs ⟨tm, clean bo, nx + 1⟩ R) : W P lend N ops true cs R i [] tm bo nx ns :=
 ⟨fun _ _ _ _ => none, fun _ _ _ _ _ h => (by cases h), [], _, _, tm, bo, .nil, rfl, rfl, .inr (by simpa using ho), h⟩
theorem W.eff {call : CallF} (hc : CallOk P call) {av : AV} {up : BO} (hg : o.guard = none) (hd : ∀ k, o.dst = some k → k < N)
    (he : effOf P call lend nx (keyAt i nx) o (onlyT o (lk tm)) (onlyB (opKeys (lk tm) (lko bo) o) (lko bo)) = some ⟨av, up, []⟩) (htm : lk tm' = updT (lk tm) o.dst av) (hbo : lko bo' = updB (lko bo) up)
    (h : W P lend N ops dr cs R (i + 1) os tm' bo' nx (ns ++ [⟨opKeys (lk tm) (lko bo) o, up.map (·.1)⟩])) : W P lend N ops dr cs R i (o :: os) tm bo nx ns := by
 obtain ⟨cl, hcl, rs, lt', lb', tm2, bo2, hrun, e1, e2, hord, hJ⟩ := h
 refine ⟨fun j => if j = i then call else cl j, fun j => ?_, ⟨av, up, opKeys (lk tm) (lko bo) o⟩ :: rs, lt', lb', tm2, bo2, ?_, e1, e2, ?_, hJ⟩
 ·by_cases hj : j = i
  ·simp only [hj, if_true]; exact hc
  ·simp only [hj, if_false]; exact hcl j
 ·refine .op hd (by unfold wantA; rw [hg]) (e := ⟨av, up, []⟩) (by unfold effAt; simp only [if_true]; exact he) rfl ?_
  rw [htm, hbo] at hrun
  refine run_call (E := ⟨cl, lend, fun _ s => s, 0, N⟩) (E' := ⟨fun j => if j = i then call else cl j, lend, fun _ s => s, 0, N⟩) rfl rfl hrun fun j hj => ?_
  simp only [show ¬ j = i by omega, if_false]
 ·rcases hord with h0 | h0
  ·exact .inl h0
  ·right
   rw [← h0, List.map_cons, List.append_assoc]
   rfl
def call0 : CallF := fun _ _ _ => none
theorem call0_ok : CallOk P call0 := fun _ _ _ _ h => by cases h
theorem updT_cons (d : Nat) (av : AV) (tm : List (Nat × AV)) : lk ((d, av) :: tm) = updT (lk tm) (some d) av := by
 funext t
 show (if t = d then some av else lk tm t) = if some d = some t then some av else lk tm t
 by_cases h : t = d
 ·subst h; simp
 ·rw [if_neg h, if_neg (by simpa using fun e => h e.symm)]
theorem updT_none (av : AV) (tm : List (Nat × AV)) : lk tm = updT (lk tm) none av := by
 funext t; simp [updT]
theorem updB_0 (bo : BO) : lko bo = updB (lko bo) [] := lko_app [] bo
theorem ev_only {x : Operand} (hx : x ∈ o.op.operands.toList) (lt : Nat → Option AV) : ev (onlyT o lt) x = ev lt x := by
 cases x with
 | tmp t =>
  have : t ∈ opTmps o := List.mem_filterMap.2 ⟨.tmp t, hx, rfl⟩
  show (if (opTmps o).contains t then lt t else none) = lt t
  rw [if_pos (by simpa using this)]
 | const v => rfl
 | global g => rfl
 | func f => rfl
theorem tmp_key {lt : Nat → Option AV} {x : Operand} {av : AV} (hx : x ∈ o.op.operands.toList) (he : ev lt x = some av) {q : Key} (hq : q ∈ keysAV av) (hcon : ∀ v, x ≠ .const v) : q ∈ (opTmps o).flatMap (keysT lt) := by
 cases x with
 | tmp t =>
  have ht : t ∈ opTmps o := List.mem_filterMap.2 ⟨.tmp t, hx, rfl⟩
  refine List.mem_flatMap.2 ⟨t, ht, ?_⟩
  unfold keysT
  have he' : lt t = some av := he
  rw [he']
  exact hq
 | const v => exact absurd rfl (hcon v)
 | global g => cases he
 | func f => cases he; simp [keysAV, keysC] at hq
theorem only_key {lt : Nat → Option AV} {lb : Key → Option Box} {x : Operand} {av : AV} {q : Key} (hl : looks o.op = true) (hx : x ∈ o.op.operands.toList) (he : ev lt x = some av) (hq : q ∈ keysAV av) (hcon : ∀ v, x ≠ .const v) : onlyB (opKeys lt lb o) lb q = lb q := by
 unfold onlyB
 rw [if_pos]
 have := tmp_key hx he hq hcon
 unfold opKeys
 rw [if_pos hl]
 by_cases hf : flatOp o.op = true
 ·simp only [hf, if_true]; simpa using this
 ·simp only [hf, Bool.false_eq_true, if_false]
  simpa using Or.inl (by simpa using this)
theorem W.val {av : AV} (hd : Nat.blt d N = true) {op : Op} (he : effOf P call0 lend nx (keyAt i nx) ⟨some d, op, ty, pos, af, none⟩ (onlyT ⟨some d, op, ty, pos, af, none⟩ (lk tm)) (onlyB (opKeys (lk tm) (lko bo) ⟨some d, op, ty, pos, af, none⟩) (lko bo)) = some ⟨av, [], []⟩)
    (h : W P lend N ops dr cs R (i + 1) os ((d, av) :: tm) bo nx (ns ++ [⟨opKeys (lk tm) (lko bo) ⟨some d, op, ty, pos, af, none⟩, []⟩])) : W P lend N ops dr cs R i (⟨some d, op, ty, pos, af, none⟩ :: os) tm bo nx ns :=
 W.eff call0_ok rfl (fun k hk => by cases hk; exact Nat.le_of_ble_eq_true hd) he (updT_cons _ _ _) (updB_0 _) h
theorem W.up {av : AV} {up : BO} (hd : Nat.blt d N = true) {op : Op} (he : effOf P call0 lend nx (keyAt i nx) ⟨some d, op, ty, pos, af, none⟩ (onlyT ⟨some d, op, ty, pos, af, none⟩ (lk tm)) (onlyB (opKeys (lk tm) (lko bo) ⟨some d, op, ty, pos, af, none⟩) (lko bo)) = some ⟨av, up, []⟩)
    (h : W P lend N ops dr cs R (i + 1) os ((d, av) :: tm) (up ++ bo) nx (ns ++ [⟨opKeys (lk tm) (lko bo) ⟨some d, op, ty, pos, af, none⟩, up.map (·.1)⟩])) : W P lend N ops dr cs R i (⟨some d, op, ty, pos, af, none⟩ :: os) tm bo nx ns :=
 W.eff call0_ok rfl (fun k hk => by cases hk; exact Nat.le_of_ble_eq_true hd) he (updT_cons _ _ _) (lko_app _ _) h
theorem W.up0 {av : AV} {up : BO} {op : Op} (he : effOf P call0 lend nx (keyAt i nx) ⟨none, op, ty, pos, af, none⟩ (onlyT ⟨none, op, ty, pos, af, none⟩ (lk tm)) (onlyB (opKeys (lk tm) (lko bo) ⟨none, op, ty, pos, af, none⟩) (lko bo)) = some ⟨av, up, []⟩)
    (h : W P lend N ops dr cs R (i + 1) os tm (up ++ bo) nx (ns ++ [⟨opKeys (lk tm) (lko bo) ⟨none, op, ty, pos, af, none⟩, up.map (·.1)⟩])) : W P lend N ops dr cs R i (⟨none, op, ty, pos, af, none⟩ :: os) tm bo nx ns :=
 W.eff call0_ok rfl (fun k hk => by cases hk) he (updT_none _ _) (lko_app _ _) h
end
end Go.Proofs.YtjpdemikmdfonaaGreatDoor

namespace Go.Proofs.YtjpdemikmdfonaaGreatDoor
open Go Go.RowKit
set_option linter.unusedSimpArgs false
set_option linter.unusedVariables false
def ldI (P : Program) (t : TypeId) : Option (Option Nat) := match aggT P t, sizeT P t with
 | some true, some n => some (some n)
 | some false, some _ => some none
 | _, _ => none
def fldI (P : Program) (t : TypeId) (f : Nat) : Option (Nat × Option Nat) := match P.underlying t with
 | some (.struct fields) => match fields[f]? with
  | some fd => match sizeT P fd.type, ldI P fd.type with
   | some n, some l => if n = 0 then none else some (fd.offset, l)
   | _, _ => none
  | none => none
 | _ => none
def elI (P : Program) (t : TypeId) : Option Nat := match P.underlying t with
 | some (.slice e) => sizeT P e
 | _ => none
def elF (P : Program) (t : TypeId) : Option (TypeId × Nat × Nat × List C) := match P.underlying t with
 | some (.slice e) => match P.info? e with
  | some ie => match ie.zero with
   | some z => if z.cells.size = ie.size ∧ 0 < ie.size then (z.cells.toList.mapM cellC).map fun zs => (e, ie.size, ie.bytes, zs) else none
   | none => none
  | none => none
 | _ => none
def zrI (P : Program) (t : TypeId) : Option (List C) := match (P.info? t).bind (·.zero) with
 | some z => z.cells.toList.mapM cellC
 | none => none
def intK (P : Program) (t : TypeId) : Option IntKind := match P.underlying t with
 | some (.int k) => some k
 | _ => none
def isBoolT (P : Program) (t : TypeId) : Bool := match P.underlying t with
 | some .bool => true
 | _ => false
def plI (P : Program) (t : TypeId) : Option (List C × List (Nat × Nat)) := match P.info? t, P.underlying t with
 | some it, some (.struct fields) => match it.zero, fields.toList.mapM (fun f => (P.info? f.type).map fun i => (f.offset, i.size)) with
  | some z, some places => (z.cells.toList.mapM cellC).map fun zs => (zs, places)
  | _, _ => none
 | some it, some (.array n e) => match it.zero, P.info? e with
  | some z, some ie => (z.cells.toList.mapM cellC).map fun zs => (zs, (List.range n).map fun i => (i * ie.size, ie.size))
  | _, _ => none
 | _, _ => none
inductive LdI (P : Program) (t : TypeId) (l : Option Nat) : Prop | mk (h : ldI P t = some l)
inductive FdI (P : Program) (t : TypeId) (f off : Nat) (l : Option Nat) : Prop | mk (h : fldI P t f = some (off, l))
inductive ElI (P : Program) (t : TypeId) (n : Nat) : Prop | mk (h : elI P t = some n)
inductive EfI (P : Program) (t : TypeId) (e : TypeId) (sz bytes : Nat) (zs : List C) : Prop | mk (h : elF P t = some (e, sz, bytes, zs))
inductive ZrI (P : Program) (t : TypeId) (cs : List C) : Prop | mk (h : zrI P t = some cs)
inductive PlI (P : Program) (t : TypeId) (zs : List C) (places : List (Nat × Nat)) : Prop | mk (h : plI P t = some (zs, places))
inductive IkI (P : Program) (t : TypeId) (k : IntKind) : Prop | mk (h : intK P t = some k)
inductive IbI (P : Program) (t : TypeId) : Prop | mk (h : isBoolT P t = true)
inductive IsI (P : Program) (t : TypeId) : Prop | mk (h : isSliceT P t = true)
inductive NsI (P : Program) (t : TypeId) : Prop | mk (h : isSliceT P t = false)
inductive SzI (P : Program) (t : TypeId) (n : Nat) : Prop | mk (h : sizeT P t = some n)
inductive BoI (P : Program) (g : FuncId) : Prop | mk (h : bodied P g = true)
theorem ldI_some {P : Program} {t : TypeId} {n : Nat} (h : LdI P t (some n)) : aggT P t = some true ∧ sizeT P t = some n := by
 obtain ⟨h⟩ := h
 unfold ldI at h
 split at h
 ·rename_i h1 h2; cases h; exact ⟨h1, h2⟩
 ·cases h
 ·cases h
theorem ldI_none {P : Program} {t : TypeId} (h : LdI P t none) : aggT P t = some false ∧ ∃ n, sizeT P t = some n := by
 obtain ⟨h⟩ := h
 unfold ldI at h
 split at h
 ·cases h
 ·rename_i h1 h2; exact ⟨h1, _, h2⟩
 ·cases h
theorem fldI_some {P : Program} {t : TypeId} {f off : Nat} {l : Option Nat} (h : FdI P t f off l) : ∃ fields fd n, P.underlying t = some (.struct fields) ∧ fields[f]? = some fd ∧ fd.offset = off ∧ sizeT P fd.type = some n ∧ LdI P fd.type l ∧ ¬ n = 0 := by
 obtain ⟨h⟩ := h
 unfold fldI at h
 split at h
 ·rename_i fields hu
  split at h
  ·rename_i fd hf
   split at h
   ·rename_i n l' h1 h2
    split at h
    ·cases h
    ·rename_i h0
     cases h
     exact ⟨fields, fd, n, hu, hf, rfl, h1, ⟨h2⟩, h0⟩
   ·cases h
  ·cases h
 ·cases h
theorem elI_some {P : Program} {t : TypeId} {n : Nat} (h : ElI P t n) : ∃ e, P.underlying t = some (.slice e) ∧ sizeT P e = some n := by
 obtain ⟨h⟩ := h
 unfold elI at h
 split at h
 ·rename_i e he; exact ⟨e, he, h⟩
 ·cases h
theorem elF_some {P : Program} {t e : TypeId} {sz bytes : Nat} {zs : List C} (h : EfI P t e sz bytes zs) : P.underlying t = some (.slice e) ∧ ∃ ie z, P.info? e = some ie ∧ ie.zero = some z ∧ z.cells.size = ie.size ∧ 0 < ie.size ∧ ie.size = sz ∧ ie.bytes = bytes ∧ z.cells.toList.mapM cellC = some zs := by
 obtain ⟨h⟩ := h
 unfold elF at h
 split at h
 ·rename_i e' he
  split at h
  ·rename_i ie hi
   split at h
   ·rename_i z hz
    split at h
    ·rename_i hc
     obtain ⟨zs', h1, h2⟩ := Option.map_eq_some_iff.1 h
     cases h2
     exact ⟨he, ie, z, hi, hz, hc.1, hc.2, rfl, rfl, h1⟩
    ·cases h
   ·cases h
  ·cases h
 ·cases h
def subC (off n : Nat) (cs : List C) : Option (List C) := if off + n ≤ cs.length then some ((cs.drop off).take n) else none
def putC (off n : Nat) (vs cs : List C) : Option (List C) := if vs.length = n ∧ off + n ≤ cs.length then some (cs.take off ++ (vs ++ cs.drop (off + n))) else none
theorem subC_some {off n : Nat} {cs r : List C} (h : subC off n cs = some r) : off + n ≤ cs.length ∧ (cs.drop off).take n = r := by
 unfold subC at h; split at h
 ·rename_i h1; cases h; exact ⟨h1, rfl⟩
 ·cases h
theorem putC_some {off n : Nat} {vs cs r : List C} (h : putC off n vs cs = some r) : (vs.length = n ∧ off + n ≤ cs.length) ∧ cs.take off ++ (vs ++ cs.drop (off + n)) = r := by
 unfold putC at h; split at h
 ·rename_i h1; cases h; exact ⟨h1, rfl⟩
 ·cases h
section
variable {P : Program} {lend : FuncId → Bool} {N : Nat} {ops : Array Oper} {dr : Bool} {cs : List Code} {R : AX → St → Prop}
variable {i : Nat} {os : List Oper} {tm : List (Nat × AV)} {bo : BO} {nx : Nat} {ns : List Note} {d : Nat} {pos : String} {ty : TypeId} {af : Array Edge}
theorem W.move {x : Operand} {av : AV} (hd : Nat.blt d N = true) (hx : ev (lk tm) x = some av) (h : W P lend N ops dr cs R (i + 1) os ((d, av) :: tm) bo nx (ns ++ [⟨opKeys (lk tm) (lko bo) ⟨some d, .move x, ty, pos, af, none⟩, []⟩])) : W P lend N ops dr cs R i (⟨some d, .move x, ty, pos, af, none⟩ :: os) tm bo nx ns :=
 W.val hd (by simp only [effOf]; rw [ev_only (by simp [Op.operands]), hx]; rfl) h
theorem W.assign {x : Operand} {av : AV} (hd : Nat.blt d N = true) (hx : ev (lk tm) x = some av) (h : W P lend N ops dr cs R (i + 1) os ((d, av) :: tm) bo nx (ns ++ [⟨opKeys (lk tm) (lko bo) ⟨some d, .assign x, ty, pos, af, none⟩, []⟩])) : W P lend N ops dr cs R i (⟨some d, .assign x, ty, pos, af, none⟩ :: os) tm bo nx ns :=
 W.val hd (by simp only [effOf]; rw [ev_only (by simp [Op.operands]), hx]; rfl) h
theorem W.pickT {c x y : Operand} {av : AV} (hd : Nat.blt d N = true) (hc : ev (lk tm) c = some (.one false [.d (.v (.bool true))])) (hx : ev (lk tm) x = some av) (h : W P lend N ops dr cs R (i + 1) os ((d, av) :: tm) bo nx (ns ++ [⟨opKeys (lk tm) (lko bo) ⟨some d, .pick c x y, ty, pos, af, none⟩, []⟩])) : W P lend N ops dr cs R i (⟨some d, .pick c x y, ty, pos, af, none⟩ :: os) tm bo nx ns :=
 W.val hd (by simp only [effOf]; rw [ev_only (x := c) (by simp [Op.operands]), hc, ev_only (x := x) (by simp [Op.operands]), hx]; rfl) h
theorem W.pickF {c x y : Operand} {av : AV} (hd : Nat.blt d N = true) (hc : ev (lk tm) c = some (.one false [.d (.v (.bool false))])) (hy : ev (lk tm) y = some av) (h : W P lend N ops dr cs R (i + 1) os ((d, av) :: tm) bo nx (ns ++ [⟨opKeys (lk tm) (lko bo) ⟨some d, .pick c x y, ty, pos, af, none⟩, []⟩])) : W P lend N ops dr cs R i (⟨some d, .pick c x y, ty, pos, af, none⟩ :: os) tm bo nx ns :=
 W.val hd (by simp only [effOf]; rw [ev_only (x := c) (by simp [Op.operands]), hc, ev_only (x := y) (by simp [Op.operands]), hy]; rfl) h
theorem keyAt_0 (i nx : Nat) : keyAt i nx 0 = (i * 64, nx) := rfl
theorem W.alloc {t : TypeId} {cs' : List C} (k : Nat) (hd : Nat.blt d N = true) (hk : i * 64 = k) (hz : ZrI P t cs') (h : W P lend N ops dr cs R (i + 1) os ((d, .one false [.ptr (k, nx) 0]) :: tm) (((k, nx), some (.st t cs')) :: bo) nx (ns ++ [⟨opKeys (lk tm) (lko bo) ⟨some d, .alloc t, ty, pos, af, none⟩, [(k, nx)]⟩])) : W P lend N ops dr cs R i (⟨some d, .alloc t, ty, pos, af, none⟩ :: os) tm bo nx ns := by
 subst hk
 refine W.up (av := .one false [.ptr (i * 64, nx) 0]) (up := [((i * 64, nx), some (.st t cs'))]) hd ?_ h
 simp only [effOf, keyAt_0]
 obtain ⟨hz⟩ := hz
 unfold zrI at hz
 split at hz
 ·rename_i z hz'
  rw [hz']
  simp only [hz, Option.map_some]
 ·cases hz
theorem W.box {t : TypeId} {x : Operand} {cs' : List C} (k : Nat) (hd : Nat.blt d N = true) (hk : i * 64 = k) (hx : (ev (lk tm) x).bind cellsOfAV = some cs') (h : W P lend N ops dr cs R (i + 1) os ((d, .one false [.ptr (k, nx) 0]) :: tm) (((k, nx), some (.st t cs')) :: bo) nx (ns ++ [⟨opKeys (lk tm) (lko bo) ⟨some d, .box t x, ty, pos, af, none⟩, [(k, nx)]⟩])) : W P lend N ops dr cs R i (⟨some d, .box t x, ty, pos, af, none⟩ :: os) tm bo nx ns := by
 subst hk
 refine W.up (av := .one false [.ptr (i * 64, nx) 0]) (up := [((i * 64, nx), some (.st t cs'))]) hd ?_ h
 simp only [effOf, keyAt_0]
 rw [ev_only (by simp [Op.operands]), hx]
 rfl
theorem W.nilCheck {x : Operand} {c : C} (hd : Nat.blt d N = true) (hx : (ev (lk tm) x).bind slot1 = some c) (hp : isPtr c = true) (h : W P lend N ops dr cs R (i + 1) os ((d, .one false [c]) :: tm) bo nx (ns ++ [⟨opKeys (lk tm) (lko bo) ⟨some d, .nilCheck x, ty, pos, af, none⟩, []⟩])) : W P lend N ops dr cs R i (⟨some d, .nilCheck x, ty, pos, af, none⟩ :: os) tm bo nx ns :=
 W.val hd (by simp only [effOf]; rw [ev_only (by simp [Op.operands]), hx]; simp only [hp, if_true]) h
theorem W.fieldAddr {s : TypeId} {x : Operand} {f off : Nat} {l : Option Nat} {c c' : C} (hd : Nat.blt d N = true) (hf : FdI P s f off l) (hx : (ev (lk tm) x).bind slot1 = some c) (ha : addOff off c = some c') (h : W P lend N ops dr cs R (i + 1) os ((d, .one false [c']) :: tm) bo nx (ns ++ [⟨opKeys (lk tm) (lko bo) ⟨some d, .fieldAddr s x f, ty, pos, af, none⟩, []⟩])) : W P lend N ops dr cs R i (⟨some d, .fieldAddr s x f, ty, pos, af, none⟩ :: os) tm bo nx ns := by
 obtain ⟨fields, fd, n, h1, h2, h3, h4, h5, h6⟩ := fldI_some hf
 refine W.val hd ?_ h
 simp only [effOf]
 rw [ev_only (by simp [Op.operands]), hx]
 simp only [h1, h2, h4, h3, if_neg h6, ha, Option.map_some]
theorem W.field {s : TypeId} {x : Operand} {f off : Nat} {cs' : List C} {c : C} (hd : Nat.blt d N = true) (hf : FdI P s f off none) (hx : ev (lk tm) x = some (.one true cs')) (hc : cs'[off]? = some c) (h : W P lend N ops dr cs R (i + 1) os ((d, .one false [c]) :: tm) bo nx (ns ++ [⟨opKeys (lk tm) (lko bo) ⟨some d, .field s x f, ty, pos, af, none⟩, []⟩])) : W P lend N ops dr cs R i (⟨some d, .field s x f, ty, pos, af, none⟩ :: os) tm bo nx ns := by
 obtain ⟨fields, fd, n, h1, h2, h3, h4, h5, h6⟩ := fldI_some hf
 obtain ⟨h7, _⟩ := ldI_none h5
 refine W.val hd ?_ h
 simp only [effOf]
 rw [ev_only (by simp [Op.operands]), hx]
 simp only [h1, h2, h7, h4, h3, hc, Option.map_some]
theorem W.extract {x : Operand} {j : Nat} {xs : List (Bool × List C)} {b : Bool} {cs' : List C} (hd : Nat.blt d N = true) (hx : ev (lk tm) x = some (.tup xs)) (hj : xs[j]? = some (b, cs')) (h : W P lend N ops dr cs R (i + 1) os ((d, .one b cs') :: tm) bo nx (ns ++ [⟨opKeys (lk tm) (lko bo) ⟨some d, .extract x j, ty, pos, af, none⟩, []⟩])) : W P lend N ops dr cs R i (⟨some d, .extract x j, ty, pos, af, none⟩ :: os) tm bo nx ns :=
 W.val hd (by simp only [effOf]; rw [ev_only (by simp [Op.operands]), hx]; simp only [hj, Option.map_some]) h
theorem behind_only {o : Oper} {lt : Nat → Option AV} {lb : Key → Option Box} {x : Operand} {c : C} {z : List C × Nat} (hl : looks o.op = true) (hm : x ∈ o.op.operands.toList) (hx : (ev lt x).bind slot1 = some c) (hb : behind lb c = some z) : behind (onlyB (opKeys lt lb o) lb) c = some z := by
 obtain ⟨av, h1, h2⟩ := Option.bind_eq_some_iff.1 hx
 have hav : av = .one false [c] := by
  cases av with
  | one b l =>
   cases b with
   | true => simp [slot1] at h2
   | false =>
    match l, h2 with
    | [c'], h2 => simp [slot1] at h2; subst h2; rfl
    | [], h2 => simp [slot1] at h2
    | _ :: _ :: _, h2 => simp [slot1] at h2
  | tup xs => simp [slot1] at h2
  | un => simp [slot1] at h2
  | dead => simp [slot1] at h2
 subst hav
 have hcon : isPtr c = true → ∀ v, x ≠ .const v := by
  intro hp v e
  subst e
  unfold ev constAV at h1
  have hk : ∀ w c', cellC w = some c' → isPtr c' = false := by
   intro w c' hw
   unfold cellC at hw
   split at hw
   ·cases hw; rfl
   ·cases hw; rfl
   ·split at hw
    ·cases hw; rfl
    ·cases hw
  cases v <;> simp only [Option.map_eq_some_iff] at h1 <;> obtain ⟨y, g1, g2⟩ := h1 <;> cases g2 <;> (rw [hk _ _ g1] at hp; cases hp)
 cases c with
 | ptr q off => 
  simp only [behind] at hb ⊢
  rw [only_key hl hm h1 (by simp [keysAV, keysC]) (hcon rfl)]
  exact hb
 | eptr q j off =>
  simp only [behind] at hb ⊢
  rw [only_key hl hm h1 (by simp [keysAV, keysC]) (hcon rfl)]
  exact hb
 | rptr row off => exact hb
 | _ => cases hb
theorem W.load {t : TypeId} {x : Operand} {c c' : C} {cs' : List C} {off : Nat} (hd : Nat.blt d N = true) (hl : LdI P t none) (hx : (ev (lk tm) x).bind slot1 = some c) (hb : behind (lko bo) c = some (cs', off)) (hc : cs'[off]? = some c') (h : W P lend N ops dr cs R (i + 1) os ((d, .one false [c']) :: tm) bo nx (ns ++ [⟨opKeys (lk tm) (lko bo) ⟨some d, .load t x, ty, pos, af, none⟩, []⟩])) : W P lend N ops dr cs R i (⟨some d, .load t x, ty, pos, af, none⟩ :: os) tm bo nx ns := by
 obtain ⟨h1, n, h2⟩ := ldI_none hl
 refine W.val hd ?_ h
 simp only [effOf]
 unfold effLoad
 rw [ev_only (by simp [Op.operands]), hx]
 simp only [Option.bind_some, behind_only (o := ⟨some d, .load t x, ty, pos, af, none⟩) rfl (by simp [Op.operands]) hx hb, h1, h2, hc, Option.map_some]
theorem W.loadA {t : TypeId} {x : Operand} {c : C} {cs' cs2 : List C} {off n : Nat} (hd : Nat.blt d N = true) (hl : LdI P t (some n)) (hx : (ev (lk tm) x).bind slot1 = some c) (hb : behind (lko bo) c = some (cs', off)) (hc : subC off n cs' = some cs2) (h : W P lend N ops dr cs R (i + 1) os ((d, .one true cs2) :: tm) bo nx (ns ++ [⟨opKeys (lk tm) (lko bo) ⟨some d, .load t x, ty, pos, af, none⟩, []⟩])) : W P lend N ops dr cs R i (⟨some d, .load t x, ty, pos, af, none⟩ :: os) tm bo nx ns := by
 obtain ⟨h1, h2⟩ := ldI_some hl
 obtain ⟨h3, h4⟩ := subC_some hc
 refine W.val hd ?_ h
 simp only [effOf]
 unfold effLoad
 rw [ev_only (by simp [Op.operands]), hx]
 simp only [Option.bind_some, behind_only (o := ⟨some d, .load t x, ty, pos, af, none⟩) rfl (by simp [Op.operands]) hx hb, h1, h2, if_pos h3, h4]
theorem W.idx {t : TypeId} {x ix : Operand} {rows : List (List D)} {row : List D} {sz : Nat} {n : Int} (hd : Nat.blt d N = true) (he : ElI P t sz) (hx : (ev (lk tm) x).bind slot1 = some (.d (.sl sz rows))) (hi : intV (ev (lk tm) ix) = some n) (hr : 0 ≤ n ∧ rows[n.toNat]? = some row) (h : W P lend N ops dr cs R (i + 1) os ((d, .one false [.rptr row 0]) :: tm) bo nx (ns ++ [⟨opKeys (lk tm) (lko bo) ⟨some d, .indexAddr t x ix, ty, pos, af, none⟩, []⟩])) : W P lend N ops dr cs R i (⟨some d, .indexAddr t x ix, ty, pos, af, none⟩ :: os) tm bo nx ns := by
 obtain ⟨e, h1, h2⟩ := elI_some he
 refine W.val hd ?_ h
 simp only [effOf]
 unfold effIndexAddr
 rw [ev_only (x := x) (by simp [Op.operands]), hx, ev_only (x := ix) (by simp [Op.operands]), hi, h1]
 simp only [h2, true_and, if_pos hr.1, hr.2, Option.map_some]
theorem slot1_of {av : AV} {c : C} (h2 : slot1 av = some c) : av = .one false [c] := by
 cases av with
 | one b l =>
  cases b with
  | true => simp [slot1] at h2
  | false =>
   match l, h2 with
   | [c'], h2 => simp [slot1] at h2; subst h2; rfl
   | [], h2 => simp [slot1] at h2
   | _ :: _ :: _, h2 => simp [slot1] at h2
 | tup xs => simp [slot1] at h2
 | un => simp [slot1] at h2
 | dead => simp [slot1] at h2
theorem own_only {o : Oper} {lt : Nat → Option AV} {lb : Key → Option Box} {x : Operand} {c : C} {q : Key} (hl : looks o.op = true) (hm : x ∈ o.op.operands.toList) (hx : (ev lt x).bind slot1 = some c) (hq : q ∈ keysC c) : onlyB (opKeys lt lb o) lb q = lb q := by
 obtain ⟨av, h1, h2⟩ := Option.bind_eq_some_iff.1 hx
 have hav := slot1_of h2
 subst hav
 refine only_key hl hm h1 (by simp [keysAV, hq]) ?_
 intro v e
 subst e
 unfold ev constAV at h1
 have hk : ∀ w c', cellC w = some c' → keysC c' = [] := by
  intro w c' hw
  unfold cellC at hw
  split at hw
  ·cases hw; rfl
  ·cases hw; rfl
  ·split at hw
   ·cases hw; rfl
   ·cases hw
 cases v <;> simp only [Option.map_eq_some_iff] at h1 <;> obtain ⟨y, g1, g2⟩ := h1 <;> cases g2 <;> (rw [hk _ _ g1] at hq; cases hq)
theorem W.idxF {t : TypeId} {x ix : Operand} {q : Key} {rows : List (List D)} {row : List D} {sz : Nat} {n : Int} (hd : Nat.blt d N = true) (he : ElI P t sz) (hx : (ev (lk tm) x).bind slot1 = some (.own q)) (hb : lko bo q = some (.fz sz rows)) (hi : intV (ev (lk tm) ix) = some n) (hr : 0 ≤ n ∧ rows[n.toNat]? = some row) (h : W P lend N ops dr cs R (i + 1) os ((d, .one false [.rptr row 0]) :: tm) bo nx (ns ++ [⟨opKeys (lk tm) (lko bo) ⟨some d, .indexAddr t x ix, ty, pos, af, none⟩, []⟩])) : W P lend N ops dr cs R i (⟨some d, .indexAddr t x ix, ty, pos, af, none⟩ :: os) tm bo nx ns := by
 obtain ⟨e, h1, h2⟩ := elI_some he
 refine W.val hd ?_ h
 simp only [effOf]
 unfold effIndexAddr
 rw [ev_only (x := x) (by simp [Op.operands]), hx, ev_only (x := ix) (by simp [Op.operands]), hi, h1]
 simp only [own_only (o := ⟨some d, .indexAddr t x ix, ty, pos, af, none⟩) rfl (by simp [Op.operands]) hx (List.mem_singleton.2 rfl : q ∈ keysC (.own q)), hb, h2, true_and, if_pos hr.1, hr.2, Option.map_some]
theorem W.idxO {t : TypeId} {x ix : Operand} {q : Key} {e' : TypeId} {rows : List (List D)} {sz : Nat} {n : Int} (hd : Nat.blt d N = true) (he : ElI P t sz) (hx : (ev (lk tm) x).bind slot1 = some (.own q)) (hb : lko bo q = some (.sl e' sz rows)) (hi : intV (ev (lk tm) ix) = some n) (hr : 0 ≤ n ∧ n.toNat < rows.length) (h : W P lend N ops dr cs R (i + 1) os ((d, .one false [.eptr q n.toNat 0]) :: tm) bo nx (ns ++ [⟨opKeys (lk tm) (lko bo) ⟨some d, .indexAddr t x ix, ty, pos, af, none⟩, []⟩])) : W P lend N ops dr cs R i (⟨some d, .indexAddr t x ix, ty, pos, af, none⟩ :: os) tm bo nx ns := by
 obtain ⟨e, h1, h2⟩ := elI_some he
 refine W.val hd ?_ h
 simp only [effOf]
 unfold effIndexAddr
 rw [ev_only (x := x) (by simp [Op.operands]), hx, ev_only (x := ix) (by simp [Op.operands]), hi, h1]
 simp only [own_only (o := ⟨some d, .indexAddr t x ix, ty, pos, af, none⟩) rfl (by simp [Op.operands]) hx (List.mem_singleton.2 rfl : q ∈ keysC (.own q)), hb, h2, true_and, if_pos hr]
theorem behind_el {lb : Key → Option Box} {q : Key} {e' : TypeId} {sz j off : Nat} {rows : List (List D)} {row : List D} (hb : lb q = some (.sl e' sz rows)) (hr : rows[j]? = some row) : behind lb (.eptr q j off) = some (row.map .d, off) := by
 simp only [behind, hb, hr, Option.map_some]
theorem lenC_own {lb : Key → Option Box} {q : Key} {n : Nat} (h : lenC lb (.own q) = some n) : ∀ lb', lb' q = lb q → lenC lb' (.own q) = some n := by
 intro lb' e
 simp only [lenC, rowsOf, e] at h ⊢
 exact h
theorem W.len {t : TypeId} {x : Operand} {c : C} {sz n m : Nat} (hd : Nat.blt d N = true) (he : ElI P t sz) (hx : (ev (lk tm) x).bind slot1 = some c) (hn : lenC (lko bo) c = some n) (hm : n = m) (h : W P lend N ops dr cs R (i + 1) os ((d, .one false [.d (.v (.int .i64 (m : Int)))]) :: tm) bo nx (ns ++ [⟨opKeys (lk tm) (lko bo) ⟨some d, .call ⟨.builtin .len, #[x], #[t]⟩, ty, pos, af, none⟩, []⟩])) : W P lend N ops dr cs R i (⟨some d, .call ⟨.builtin .len, #[x], #[t]⟩, ty, pos, af, none⟩ :: os) tm bo nx ns := by
 subst hm
 obtain ⟨e, h1, h2⟩ := elI_some he
 refine W.val hd ?_ h
 simp only [effOf, h1]
 rw [ev_only (x := x) (by simp [Op.operands, Call.operands]), hx]
 have : lenC (onlyB (opKeys (lk tm) (lko bo) ⟨some d, .call ⟨.builtin .len, #[x], #[t]⟩, ty, pos, af, none⟩) (lko bo)) c = some n := by
  cases c with
  | own q => exact lenC_own hn _ (own_only rfl (by simp [Op.operands, Call.operands]) hx (List.mem_singleton.2 rfl : q ∈ keysC (.own q)))
  | d y => cases y <;> exact hn
  | _ => exact hn
 simp only [Option.bind_some, this, Option.map_some]
end
end Go.Proofs.YtjpdemikmdfonaaGreatDoor

