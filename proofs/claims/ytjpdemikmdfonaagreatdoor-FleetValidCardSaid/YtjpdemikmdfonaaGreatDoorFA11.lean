/- Rules of runs and contracts of functions, for the claims of one seat. -/
import Derived.Test.YtjpdemikmdfonaaGreatDoorFA1
import Derived.Test.YtjpdemikmdfonaaGreatDoorFA10
import Derived.Test.YtjpdemikmdfonaaGreatDoorFA8
import Derived.Test.YtjpdemikmdfonaaGreatDoorFA9
namespace Go.Proofs.YtjpdemikmdfonaaGreatDoor
open Go Go.RowKit
set_option linter.unusedSimpArgs false
set_option linter.unusedVariables false
theorem Sub.sem {N : Nat} {st st' : St} (φ : List (Key × Key)) (h0 : φ.all (fun x => x.1.2 != 0) = true) (h1' : 0 < st'.nx)
    (ht : ∀ t av, lk st'.tm t = some av → (∃ bv, lk st.tm t = some bv ∧ avTo (lk st.bx) (renF φ) av bv) ∧ ∀ q ∈ keysAV av, q.2 < st'.nx)
    (hb : ∀ q box, lk st'.bx q = some box → (∃ y, lk st.bx (renF φ q) = some y ∧ boxTo (lk st.bx) (renF φ) box y) ∧ q.2 < st'.nx ∧ ∀ k ∈ keysB (some box), k.2 < st'.nx)
    (hi : ∀ q q' b b', lk st'.bx q = some b → lk st'.bx q' = some b' → renF φ q = renF φ q' → q = q') : Sub N st st' := by
 intro V X Z w0 a w ⟨ρ, h⟩
 have him : ∀ b, b < w.heap.size → Im V ρ (lk st.bx) b → Im V (fun q => ρ (renF φ q)) (lk st'.bx) b := fun b _ hi' => ⟨hi'.1, fun q box hq hl => by
  obtain ⟨⟨y, k1, k2⟩, _⟩ := hb q box hq
  exact hi'.2 _ _ k1 (by rw [boxTo_live k2]; exact hl)⟩
 have hz : ∀ q : Key, q.2 = 0 → renF φ q = q := fun q hq => by
  unfold renF
  have : lk φ q = none := by
   clear ht hb hi him
   induction φ with
   | nil => rfl
   | cons x r ih =>
    obtain ⟨k, v⟩ := x
    simp only [List.all_cons, Bool.and_eq_true, bne_iff_ne] at h0
    show (if q = k then some v else lk r q) = none
    rw [if_neg (fun e => h0.1 (by rw [← e]; exact hq))]
    exact ih h0.2
  rw [this]
 refine ⟨fun q => ρ (renF φ q), h.size, h.defers, fun t av hq => ?_, fun q box hq => ?_, fun q b1 q' b2 b e1 l1 e2 l2 g1 g2 => ?_, fun q box b hq hl hg => ?_, h.fr, h.va, fun q hq => ?_⟩
 ·obtain ⟨⟨bv, k0, k1⟩, k2⟩ := ht t av hq
  obtain ⟨k3, k4⟩ := h.tm t _ k0
  exact ⟨k3, AVRel.to h him k4 k1 k2⟩
 ·obtain ⟨⟨y, k0, k1⟩, k2, k3⟩ := hb q box hq
  exact ⟨k2, BoxRel.to h him (h.bx _ _ k0).2 k1 k3⟩
 ·obtain ⟨⟨y1, k0, k1⟩, _⟩ := hb q b1 e1
  obtain ⟨⟨y2, m0, m1⟩, _⟩ := hb q' b2 e2
  exact hi q q' b1 b2 e1 e2 (h.ap _ _ _ _ b k0 (by rw [boxTo_live k1]; exact l1) m0 (by rw [boxTo_live m1]; exact l2) g1 g2)
 ·obtain ⟨⟨y1, k0, k1⟩, _⟩ := hb q box hq
  exact h.lo _ _ b k0 (by rw [boxTo_live k1]; exact hl) hg
 ·refine ⟨by omega, ?_⟩
  show ρ (renF φ q) = Z q
  rw [hz q hq]
  exact (h.zz q hq).2
def chkT (φ : List (Key × Key)) (tm : List (Nat × AV)) (bo : BO) (nx : Nat) : List Nat → List (Nat × AV) → Prop
 | _, [] => True
 | sn, (t, av) :: r => (sn.contains t = true ∨ ((∃ bv, lk tm t = some bv ∧ avTo (lko bo) (renF φ) av bv) ∧ (keysAV av).all (fun q => Nat.blt q.2 nx) = true)) ∧ chkT φ tm bo nx (t :: sn) r
def chkB (φ : List (Key × Key)) (bo : BO) (nx : Nat) : List Key → BO → Prop
 | _, [] => True
 | sn, (q, none) :: r => chkB φ bo nx (q :: sn) r
 | sn, (q, some box) :: r => (sn.contains q = true ∨ ((∃ y, lko bo (renF φ q) = some y ∧ boxTo (lko bo) (renF φ) box y) ∧ Nat.blt q.2 nx = true ∧ (keysB (some box)).all (fun q => Nat.blt q.2 nx) = true)) ∧ chkB φ bo nx (q :: sn) r
def liveK : List Key → BO → List Key
 | _, [] => []
 | sn, (q, none) :: r => liveK (q :: sn) r
 | sn, (q, some _) :: r => if sn.contains q then liveK sn r else q :: liveK (q :: sn) r
theorem lko_live : ∀ (bo : BO) (sn : List Key) (q : Key) (box : Box), lko bo q = some box → sn.contains q = false → q ∈ liveK sn bo
 | [], _, q, box, h, _ => by cases h
 | (k, none) :: r, sn, q, box, h, hs => by
  unfold lko at h
  have h' : (match (if q = k then some none else lk r q) with | some ob => ob | none => none) = some box := h
  by_cases e : q = k
  ·rw [if_pos e] at h'; cases h'
  ·rw [if_neg e] at h'
   refine lko_live r (k :: sn) q box h' ?_
   rw [List.contains_cons, hs]; simp [e]
 | (k, some b) :: r, sn, q, box, h, hs => by
  unfold lko at h
  have h' : (match (if q = k then some (some b) else lk r q) with | some ob => ob | none => none) = some box := h
  unfold liveK
  by_cases e : q = k
  ·subst e; rw [hs]; simp
  ·rw [if_neg e] at h'
   have h2 : sn.contains k = false → q ∈ liveK (k :: sn) r := fun _ => lko_live r (k :: sn) q box h' (by rw [List.contains_cons, hs]; simp [e])
   cases hk : sn.contains k with
   | true => simp only [if_true]; exact lko_live r sn q box h' hs
   | false => simp only [Bool.false_eq_true, if_false]; exact List.mem_cons_of_mem _ (h2 hk)
theorem nodup_map_inj {f : Key → Key} : ∀ {l : List Key}, nodup (l.map f) = true → ∀ q q', q ∈ l → q' ∈ l → f q = f q' → q = q'
 | x :: l, h, q, q', h1, h2, he => by
  simp only [List.map_cons, nodup, Bool.and_eq_true, Bool.not_eq_true', List.contains_eq_mem, decide_eq_false_iff_not] at h
  rcases List.mem_cons.1 h1 with rfl | g1
  ·rcases List.mem_cons.1 h2 with e | g2
   ·exact e.symm
   ·exact absurd (List.mem_map.2 ⟨_, g2, he.symm⟩) h.1
  ·rcases List.mem_cons.1 h2 with e | g2
   ·subst e; exact absurd (List.mem_map.2 ⟨_, g1, he⟩) h.1
   ·exact nodup_map_inj h.2 q q' g1 g2 he
theorem chkT_lk {φ : List (Key × Key)} {tm : List (Nat × AV)} {bo : BO} {nx : Nat} : ∀ {l : List (Nat × AV)} {sn : List Nat}, chkT φ tm bo nx sn l → ∀ t av, lk l t = some av → sn.contains t = false → (∃ bv, lk tm t = some bv ∧ avTo (lko bo) (renF φ) av bv) ∧ ∀ q ∈ keysAV av, q.2 < nx
 | [], _, _, t, av, h, _ => by cases h
 | (k, v) :: r, sn, hc, t, av, h, hs => by
  have h' : (if t = k then some v else lk r t) = some av := h
  by_cases e : t = k
  ·subst e
   rw [if_pos rfl] at h'
   cases h'
   rcases hc.1 with h1 | ⟨h1, h2⟩
   ·rw [hs] at h1; cases h1
   ·exact ⟨h1, fun q hq => Nat.le_of_ble_eq_true (List.all_eq_true.1 h2 q hq)⟩
  ·rw [if_neg e] at h'
   exact chkT_lk hc.2 t av h' (by rw [List.contains_cons, hs]; simp [e])
theorem chkB_lk {φ : List (Key × Key)} {bo : BO} {nx : Nat} : ∀ {l : BO} {sn : List Key}, chkB φ bo nx sn l → ∀ q box, lko l q = some box → sn.contains q = false → (∃ y, lko bo (renF φ q) = some y ∧ boxTo (lko bo) (renF φ) box y) ∧ q.2 < nx ∧ ∀ k ∈ keysB (some box), k.2 < nx
 | [], _, _, q, box, h, _ => by cases h
 | (k, none) :: r, sn, hc, q, box, h, hs => by
  have h' : (match (if q = k then some none else lk r q) with | some ob => ob | none => none) = some box := h
  by_cases e : q = k
  ·rw [if_pos e] at h'; cases h'
  ·rw [if_neg e] at h'
   exact chkB_lk (l := r) (sn := k :: sn) hc q box h' (by rw [List.contains_cons, hs]; simp [e])
 | (k, some b) :: r, sn, hc, q, box, h, hs => by
  have h' : (match (if q = k then some (some b) else lk r q) with | some ob => ob | none => none) = some box := h
  by_cases e : q = k
  ·subst e
   rw [if_pos rfl] at h'
   cases h'
   rcases hc.1 with h1 | ⟨h1, h2, h3⟩
   ·rw [hs] at h1; cases h1
   ·exact ⟨h1, Nat.le_of_ble_eq_true h2, fun q hq => Nat.le_of_ble_eq_true (List.all_eq_true.1 h3 q hq)⟩
  ·rw [if_neg e] at h'
   exact chkB_lk (l := r) (sn := k :: sn) hc.2 q box h' (by rw [List.contains_cons, hs]; simp [e])
inductive SubI (N : Nat) (st st' : St) : Prop
 | mk (h : Sub N st st')
inductive ND (l : List Key) : Prop
 | mk (h : nodup l = true)
theorem SubW {N : Nat} {tm tm' : List (Nat × AV)} {bo bo' : BO} {nx nx' : Nat} (φ : List (Key × Key)) (hn : Nat.blt 0 nx' = true) (hT : chkT φ tm bo nx' [] tm') (hB : chkB φ bo nx' [] bo') (h0 : φ.all (fun x => x.1.2 != 0) = true) (hi : ND ((liveK [] bo').map (renF φ))) : SubI N ⟨tm, clean bo, nx⟩ ⟨tm', clean bo', nx'⟩ := by
 constructor
 have e1 : lk (clean bo) = lko bo := funext (lk_clean bo)
 have e2 : lk (clean bo') = lko bo' := funext (lk_clean bo')
 refine Sub.sem φ h0 (Nat.le_of_ble_eq_true hn) (fun t av h => ?_) (fun q box h => ?_) (fun q q' b b' h1 h2 e => ?_)
 ·show (∃ bv, lk tm t = some bv ∧ avTo (lk (clean bo)) (renF φ) av bv) ∧ _
  rw [e1]
  exact chkT_lk hT t av h rfl
 ·show (∃ y, lk (clean bo) (renF φ q) = some y ∧ boxTo (lk (clean bo)) (renF φ) box y) ∧ _
  rw [e1]
  exact chkB_lk hB q box (by rw [← e2]; exact h) rfl
 ·have h1' : lko bo' q = some b := by rw [← e2]; exact h1
  have h2' : lko bo' q' = some b' := by rw [← e2]; exact h2
  exact nodup_map_inj hi.1 q q' (lko_live bo' [] q b h1' rfl) (lko_live bo' [] q' b' h2' rfl) e
section
variable {φ : List (Key × Key)} {tm : List (Nat × AV)} {bo : BO} {nx : Nat} {lb : Key → Option Box} {f : Key → Key}
theorem chkT_nil {sn : List Nat} : chkT φ tm bo nx sn [] := trivial
theorem chkT_skip {sn : List Nat} {t : Nat} {av : AV} {r : List (Nat × AV)} (h : sn.contains t = true) (hr : chkT φ tm bo nx (t :: sn) r) : chkT φ tm bo nx sn ((t, av) :: r) := ⟨.inl h, hr⟩
theorem chkT_cons {sn : List Nat} {t : Nat} {av bv : AV} {r : List (Nat × AV)} (h1 : lk tm t = some bv) (h2 : avTo (lko bo) (renF φ) av bv) (h3 : (keysAV av).all (fun q => Nat.blt q.2 nx) = true) (hr : chkT φ tm bo nx (t :: sn) r) : chkT φ tm bo nx sn ((t, av) :: r) := ⟨.inr ⟨⟨bv, h1, h2⟩, h3⟩, hr⟩
theorem chkB_nil {sn : List Key} : chkB φ bo nx sn [] := trivial
theorem chkB_none {sn : List Key} {q : Key} {r : BO} (hr : chkB φ bo nx (q :: sn) r) : chkB φ bo nx sn ((q, none) :: r) := hr
theorem chkB_skip {sn : List Key} {q : Key} {b : Box} {r : BO} (h : sn.contains q = true) (hr : chkB φ bo nx (q :: sn) r) : chkB φ bo nx sn ((q, some b) :: r) := ⟨.inl h, hr⟩
theorem chkB_cons {sn : List Key} {q : Key} {b y : Box} {r : BO} (h1 : lko bo (renF φ q) = some y) (h2 : boxTo (lko bo) (renF φ) b y) (h3 : Nat.blt q.2 nx = true) (h4 : (keysB (some b)).all (fun q => Nat.blt q.2 nx) = true) (hr : chkB φ bo nx (q :: sn) r) : chkB φ bo nx sn ((q, some b) :: r) := ⟨.inr ⟨⟨y, h1, h2⟩, h3, h4⟩, hr⟩
theorem avTo_w {b : Bool} {cs cs' : List C} (h : cellsTo lb f cs cs') : avTo lb f (.one b cs) (.one b cs') := ⟨rfl, h⟩
theorem avTo_dead {bv : AV} : avTo lb f .dead bv := by cases bv <;> trivial
theorem avTo_un : avTo lb f .un .un := rfl
theorem avTo_tup {xs : List (Bool × List C)} (h : (xs.map fun (b, cs) => (b, cs.map (renC f))) = xs) : avTo lb f (.tup xs) (.tup xs) := by
 show AV.tup xs = renAV f (.tup xs)
 simp only [renAV, h]
theorem cellsTo_nl : cellsTo lb f [] [] := trivial
theorem cellsTo_cn {c d : C} {cs ds : List C} (h : cellTo lb f c d) (t : cellsTo lb f cs ds) : cellsTo lb f (c :: cs) (d :: ds) := ⟨h, t⟩
theorem cellTo_same {x : D} : cellTo lb f (.d x) (.d x) := .inl rfl
theorem cellTo_int {k : IntKind} {a b : Int} (h : b = a) : cellTo lb f (.d (.v (.int k a))) (.d (.v (.int k b))) := by subst h; exact .inl rfl
theorem cellTo_bool {a b : Bool} (h : b = a) : cellTo lb f (.d (.v (.bool a))) (.d (.v (.bool b))) := by subst h; exact .inl rfl
theorem cellTo_sl {sz : Nat} {a b : List (List D)} (h : b = a) : cellTo lb f (.d (.sl sz a)) (.d (.sl sz b)) := by subst h; exact .inl rfl
theorem cellTo_zd {sz : Nat} {a : List (List D)} (h : a = []) : cellTo lb f (.d (.sl sz a)) .zero := by subst h; exact .inr (.inl ⟨rfl, sz, rfl⟩)
theorem cellTo_zz : cellTo lb f .zero .zero := .inl rfl
theorem cellTo_fz {q : Key} {sz : Nat} {a b : List (List D)} (hq : lb q = some (.fz sz b)) (h : b = a) : cellTo lb f (.d (.sl sz a)) (.own q) := by subst h; exact .inr (.inr ⟨q, sz, b, rfl, hq, rfl⟩)
theorem cellTo_ow {q q' : Key} (h : f q = q') : cellTo lb f (.own q) (.own q') := by subst h; exact .inl rfl
theorem cellTo_pt {q q' : Key} {o : Nat} (h : f q = q') : cellTo lb f (.ptr q o) (.ptr q' o) := by subst h; exact .inl rfl
theorem cellTo_rn {c d : C} (h : d = renC f c) : cellTo lb f c d := .inl h
def plainCs : List C → Bool
 | [] => true
 | .d _ :: r => plainCs r
 | .zero :: r => plainCs r
 | _ :: _ => false
theorem cellsTo_same : ∀ {cs : List C}, plainCs cs = true → cellsTo lb f cs cs
 | [], _ => trivial
 | .d x :: r, h => ⟨.inl rfl, cellsTo_same h⟩
 | .zero :: r, h => ⟨.inl rfl, cellsTo_same h⟩
theorem CS_at {cs ds : List C} (h : cellsTo lb f cs ds) : cellsTo lb f cs ds := h
theorem T_at {sn : List Nat} {x : Nat × AV} {r : List (Nat × AV)} (h : chkT φ tm bo nx sn (x :: r)) : chkT φ tm bo nx sn (x :: r) := h
theorem B_at {sn : List Key} {q : Key} {b : Box} {r : BO} (h : chkB φ bo nx sn ((q, some b) :: r)) : chkB φ bo nx sn ((q, some b) :: r) := h
theorem CE_at {c d : C} (h : cellTo lb f c d) : cellTo lb f c d := h
theorem boxTo_stw {ty : TypeId} {cs cs' : List C} (h : cellsTo lb f cs cs') : boxTo lb f (.st ty cs) (.st ty cs') := ⟨rfl, h⟩
theorem boxTo_slw {ty : TypeId} {sz : Nat} {rows rows' : List (List D)} (h : rows' = rows) : boxTo lb f (.sl ty sz rows) (.sl ty sz rows') := by subst h; rfl
theorem boxTo_fzw {sz : Nat} {rows rows' : List (List D)} (h : rows' = rows) : boxTo lb f (.fz sz rows) (.fz sz rows') := by subst h; rfl
end
section
variable {P : Program} {N : Nat} {cs : List Code} {R : AX → St → Prop} {tm : List (Nat × AV)} {bo : BO} {nx : Nat}
theorem JL.loopW {ι : Type} (id nx1 : Nat) (U : ι → List (Nat × AV) → List (Nat × AV)) (B : ι → BO → BO) (I : ι → Prop) (μ : ι → Nat) {b : Code} (i0 : ι) (hs0 : SubI N ⟨tm, clean bo, nx⟩ ⟨U i0 tm, clean (B i0 bo), nx1⟩)
    (hb : ∀ i, I i → JL P N [b] ⟨U i tm, clean (B i bo), nx1⟩ (roundOf N (fun i => ⟨U i tm, clean (B i bo), nx1⟩) I μ i (thenL P N [] (outOf id (thenL P N cs R))))) (h0 : I i0) : JL P N (.block id (.loop b) :: cs) ⟨tm, clean bo, nx⟩ R :=
 JL.block (JL.loop (fun i => ⟨U i tm, clean (B i bo), nx1⟩) I μ i0 h0 hs0.1 hb)
theorem round_next {ι : Type} {S : ι → St} {I : ι → Prop} {μ : ι → Nat} {i : ι} {s : St} (j : ι) (h3 : SubI N s (S j)) (h1 : I j) (h2 : μ j < μ i) : roundOf N S I μ i R .normal s := ⟨j, h1, h2, h3.1⟩
theorem JL.zeroW {c : Code} (t : Nat) (q : Key) (ty : TypeId) (sz : Nat) (hq : q = (0, nx)) (h : lk tm t = some (.one false [.zero])) (hr : JL P N (c :: cs) ⟨(t, .one false [.own q]) :: tm, clean ((q, some (.sl ty sz [])) :: bo), nx + 1⟩ R) : JL P N (c :: cs) ⟨tm, clean bo, nx⟩ R := by
 subst hq
 have hs := Sub.zeroT (N := N) (st := ⟨tm, clean bo, nx⟩) t ty sz h
 refine JL.sub (st' := ⟨(t, .one false [.own (0, nx)]) :: tm, clean (((0, nx), some (.sl ty sz [])) :: bo), nx + 1⟩) (fun V X Z w0 a w hh => ?_) hr
 obtain ⟨ρ, hR⟩ := hs V X Z w0 a w hh
 refine ⟨ρ, ?_⟩
 have e : lk (setT (some t) (.one false [.own (0, nx)]) tm) = lk ((t, .one false [.own (0, nx)]) :: tm) := by rw [lk_setT, updT_cons]
 have hR' : Rel V X Z w0 N ρ (fun q => q.2 < nx + 1) (lk (setT (some t) (.one false [.own (0, nx)]) tm)) (lk (((0, nx), .sl ty sz []) :: clean bo)) a w := hR
 rw [e] at hR'
 exact hR'
inductive OutC (lb : Key → Option Box) : C → C → Prop
 | d {x y : D} (h : x = y) : OutC lb (.d x) (.d y)
 | own {q : Key} {ty : TypeId} {sz : Nat} {rows rows' : List (List D)} (hq : lb q = some (.sl ty sz rows)) (h : rows = rows') : OutC lb (.own q) (.d (.sl sz rows'))
 | fz {q : Key} {sz : Nat} {rows rows' : List (List D)} (hq : lb q = some (.fz sz rows)) (h : rows = rows') : OutC lb (.own q) (.d (.sl sz rows'))
 | zero {sz : Nat} {rows : List (List D)} (h : rows = []) : OutC lb .zero (.d (.sl sz rows))
 | zz : OutC lb .zero .zero
 | rp {row : List D} {o : Nat} : OutC lb (.rptr row o) (.rptr row o)
theorem OutC.int {lb : Key → Option Box} {k : IntKind} {a b : Int} (h : a = b) : OutC lb (.d (.v (.int k a))) (.d (.v (.int k b))) := by subst h; exact .d rfl
theorem OutC.bool {lb : Key → Option Box} {a b : Bool} (h : a = b) : OutC lb (.d (.v (.bool a))) (.d (.v (.bool b))) := by subst h; exact .d rfl
theorem OutC.sl {lb : Key → Option Box} {sz : Nat} {a b : List (List D)} (h : a = b) : OutC lb (.d (.sl sz a)) (.d (.sl sz b)) := by subst h; exact .d rfl
inductive OutCs (lb : Key → Option Box) : List C → List C → Prop
 | nil : OutCs lb [] []
 | cons {c d : C} {cs ds : List C} (h : OutC lb c d) (t : OutCs lb cs ds) : OutCs lb (c :: cs) (d :: ds)
inductive OutVs (lb : Key → Option Box) : List (Bool × List C) → List (Bool × List C) → Prop
 | nil : OutVs lb [] []
 | cons {b : Bool} {cs ds : List C} {xs ys : List (Bool × List C)} (h : OutCs lb cs ds) (t : OutVs lb xs ys) : OutVs lb ((b, cs) :: xs) ((b, ds) :: ys)
theorem OutC.out {lb : Key → Option Box} {c d : C} (h : OutC lb c d) : ∃ c' k, outC false lb c = some (c', k) ∧ cellZ c' d ∧ keysC c' = [] := by
 cases h with
 | d h => subst h; exact ⟨_, _, rfl, .inl rfl, rfl⟩
 | @own q ty sz rows _ hq h => subst h; exact ⟨.d (.sl sz rows), [q], by simp [outC, hq], .inl rfl, rfl⟩
 | @fz q sz rows _ hq h => subst h; exact ⟨.d (.sl sz rows), [], by simp [outC, hq], .inl rfl, rfl⟩
 | zero h => subst h; exact ⟨_, _, rfl, .inr ⟨rfl, _, rfl⟩, rfl⟩
 | zz => exact ⟨_, _, rfl, .inl rfl, rfl⟩
 | rp => exact ⟨_, _, rfl, .inl rfl, rfl⟩
theorem OutCs.out {lb : Key → Option Box} {cs ds : List C} (h : OutCs lb cs ds) : ∃ cs' k, outCs false lb cs = some (cs', k) ∧ cellsZ cs' ds ∧ cs'.flatMap keysC = [] := by
 induction h with
 | nil => exact ⟨_, _, rfl, trivial, rfl⟩
 | cons h t ih =>
  obtain ⟨c', k, h1, h2, h3⟩ := h.out
  obtain ⟨cs', k', h4, h5, h6⟩ := ih
  exact ⟨c' :: cs', k ++ k', by simp only [outCs, h1, h4], ⟨h2, h5⟩, by rw [List.flatMap_cons, h3, h6]; rfl⟩
theorem OutVs.out {lb : Key → Option Box} {xs ys : List (Bool × List C)} (h : OutVs lb xs ys) : ∃ vs k, outVals false lb xs = some (vs, k) ∧ valsZ vs ys ∧ vs.flatMap (fun (_, cs) => cs.flatMap keysC) = [] := by
 induction h with
 | nil => exact ⟨_, _, rfl, trivial, rfl⟩
 | cons h t ih =>
  obtain ⟨c', k, h1, h2, h3⟩ := h.out
  obtain ⟨cs', k', h4, h5, h6⟩ := ih
  refine ⟨(_, c') :: cs', k ++ k', by simp only [outVals, h1, h4], ⟨⟨rfl, h2⟩, h5⟩, ?_⟩
  rw [List.flatMap_cons, h6, List.append_nil]
  exact h3
inductive ResW (P : Program) (tm : List (Nat × AV)) (bo : BO) : List ResultVar → List (Bool × List C) → Prop
 | nil : ResW P tm bo [] []
 | tmp {t : Nat} {b : Bool} {cs : List C} {l : List ResultVar} {r : List (Bool × List C)} (h : lk tm t = some (.one b cs)) (hr : ResW P tm bo l r) : ResW P tm bo (.tmp t :: l) ((b, cs) :: r)
 | cell {a t off : Nat} {c c' : C} {cs : List C} {l : List ResultVar} {r : List (Bool × List C)} (ht : LdI P t none) (h : ((lk tm a).bind slot1) = some c) (hb : behind (lko bo) c = some (cs, off)) (hc : cs[off]? = some c') (hr : ResW P tm bo l r) : ResW P tm bo (.cell a t :: l) ((false, [c']) :: r)
 | cellA {a t off n : Nat} {c : C} {cs cs' : List C} {l : List ResultVar} {r : List (Bool × List C)} (ht : LdI P t (some n)) (h : ((lk tm a).bind slot1) = some c) (hb : behind (lko bo) c = some (cs, off)) (hc : subC off n cs = some cs') (hr : ResW P tm bo l r) : ResW P tm bo (.cell a t :: l) ((true, cs') :: r)
theorem ResW.res {l : List ResultVar} {r : List (Bool × List C)} (h : ResW P tm bo l r) : l.mapM (resOf P ⟨tm, clean bo, nx⟩) = some r := by
 have e1 : lk (clean bo) = lko bo := funext (lk_clean bo)
 induction h with
 | nil => rfl
 | tmp h hr ih => simp [List.mapM_cons, ih, resOf, h]
 | cell ht h hb hc hr ih =>
  obtain ⟨h1, n, h2⟩ := ldI_none ht
  simp [List.mapM_cons, ih, resOf, h, e1, hb, h1, h2, hc]
 | cellA ht h hb hc hr ih =>
  obtain ⟨h1, h2⟩ := ldI_some ht
  obtain ⟨h3, h4⟩ := subC_some hc
  simp [List.mapM_cons, ih, resOf, h, e1, hb, h1, h2, h3, h4]
theorem noIos : ∀ {lb : Key → Option Box} {args : List Arg} {k : Nat}, args.all (fun a => !isIo a) = true → outIos lb k args = some []
 | _, [], _, _ => rfl
 | lb, .val _ _ :: r, k, h => by
  simp only [List.all_cons, Bool.and_eq_true] at h
  exact noIos (lb := lb) (args := r) (k := k + 1) h.2
 | _, .io _ _ :: _, _, h => by simp [isIo] at h
inductive FinW (P : Program) (fn : Func) (args : List Arg) (r : ARes) (ax : AX) (st : St) : Prop
 | mk (h : fnEndZ P false fn args r ax st)
theorem endW {fn : Func} {args : List Arg} {vs ys : List (Bool × List C)} {l : List ResultVar} (hfr : fn.results = l.toArray) (hr : ResW P tm bo l vs) (ho : OutVs (lko bo) vs ys) (hio : args.all (fun a => !isIo a) = true) : FinW P fn args { vals := ys } .ret ⟨tm, clean bo, nx⟩ := by
 constructor
 have e1 : lk (clean bo) = lko bo := funext (lk_clean bo)
 have hr : ResW P tm bo fn.results.toList vs := by rw [hfr, List.toList_toArray]; exact hr
 obtain ⟨vals, k, h1, h2, h3⟩ := ho.out
 show match outR P false fn args ⟨tm, clean bo, nx⟩ with | some r0 => resZ r0 { vals := ys } | none => False
 have h4 : outR P false fn args ⟨tm, clean bo, nx⟩ = some { vals := vals } := by
  unfold outR
  simp only [hr.res, e1, h1, noIos hio, h3, List.flatMap_nil, List.append_nil]
  have : leadK (freezeB k (clean bo)) 4 [] = [] := rfl
  rw [this]
  rfl
 rw [h4]
 exact ⟨h2, rfl, rfl⟩
theorem blk_at {id : Nat} {b : Code} {st : St} (h : JL P N (.block id (.loop b) :: cs) st R) : JL P N (.block id (.loop b) :: cs) st R := h
theorem reg_at {id : Nat} {ops : Array Oper} {dr : Bool} {st : St} (h : JL P N (.region id ops dr :: cs) st R) : JL P N (.region id ops dr :: cs) st R := h
theorem JL.zeroBW {c : Code} (q0 : Key) (j : Nat) (q : Key) (ty : TypeId) (sz : Nat) {ty0 : TypeId} {cs1 cs2 : List C} (hq : q = (0, nx)) (h : lko bo q0 = some (.st ty0 cs1)) (hj : cs1[j]? = some .zero) (hs : cs1.set j (.own q) = cs2) (hr : JL P N (c :: cs) ⟨tm, clean ((q, some (.sl ty sz [])) :: (q0, some (.st ty0 cs2)) :: bo), nx + 1⟩ R) : JL P N (c :: cs) ⟨tm, clean bo, nx⟩ R := by
 subst hq hs
 have hs := Sub.zeroB (N := N) (st := ⟨tm, clean bo, nx⟩) q0 j ty sz ((lk_clean bo q0).trans h) hj
 refine JL.sub (st' := ⟨tm, clean (((0, nx), some (.sl ty sz [])) :: (q0, some (.st ty0 (cs1.set j (.own (0, nx))))) :: bo), nx + 1⟩) (fun V X Z w0 a w hh => ?_) hr
 obtain ⟨ρ, hR⟩ := hs V X Z w0 a w hh
 refine ⟨ρ, ?_⟩
 have e : lk (((0, nx), Box.sl ty sz []) :: (q0, .st ty0 (cs1.set j (.own (0, nx)))) :: (clean bo).filter (·.1 != q0)) = lk (clean (((0, nx), some (.sl ty sz [])) :: (q0, some (.st ty0 (cs1.set j (.own (0, nx))))) :: bo)) := by
  funext p
  show (if p = (0, nx) then _ else if p = q0 then _ else lk _ p) = (if p = (0, nx) then _ else if p = q0 then _ else lk (clean bo) p)
  rw [lk_filterK]
  split
  ·rfl
  ·split
   ·rfl
   ·rfl
 have hR' : Rel V X Z w0 N ρ (fun q => q.2 < nx + 1) (lk tm) (lk (((0, nx), Box.sl ty sz []) :: (q0, .st ty0 (cs1.set j (.own (0, nx)))) :: (clean bo).filter (·.1 != q0))) a w := hR
 rw [e] at hR'
 exact hR'
theorem JL.rekW {c : Code} {q : Key} {ty : TypeId} {sz : Nat} {rows : List (List D)} (t : Nat) (K : Key) (h : lk tm t = some (.one false [.own q])) (hq : lko bo q = some (.sl ty sz rows)) (hn : Nat.ble nx K.2 = true) (h0 : Nat.blt 0 K.2 = true) (hr : JL P N (c :: cs) ⟨(t, .one false [.own K]) :: tm, clean ((K, some (.sl ty sz rows)) :: (q, none) :: bo), K.2 + 1⟩ R) : JL P N (c :: cs) ⟨tm, clean bo, nx⟩ R := by
 refine JL.sub (st' := ⟨(t, .one false [.own K]) :: tm, clean ((K, some (.sl ty sz rows)) :: (q, none) :: bo), K.2 + 1⟩) (fun V X Z w0 a w hh => ?_) hr
 have hn' := Nat.le_of_ble_eq_true hn
 have h0' : 0 < K.2 := Nat.le_of_ble_eq_true h0
 obtain ⟨ρ, hR⟩ := hh
 have e1 : lk (clean bo) = lko bo := funext (lk_clean bo)
 have e2 : lk (clean ((K, some (Box.sl ty sz rows)) :: (q, none) :: bo)) = lko ((K, some (Box.sl ty sz rows)) :: (q, none) :: bo) := funext (lk_clean _)
 have hR : Rel V X Z w0 N ρ (fun q => q.2 < nx) (lk tm) (lko bo) a w := by rw [← e1]; exact hR
 obtain ⟨hq1, hq2⟩ := hR.bx q _ hq
 have hqK : q ≠ K := fun e => by rw [e] at hq1; omega
 have hl : ∀ k, lko ((K, some (Box.sl ty sz rows)) :: (q, none) :: bo) k = if k = K then some (.sl ty sz rows) else if k = q then none else lko bo k := by
  intro k
  unfold lko
  show (match (if k = K then some (some (Box.sl ty sz rows)) else if k = q then some none else lk bo k) with | some ob => ob | none => none) = _
  split
  ·rename_i e; split at e
   ·cases e; rw [if_pos (by assumption)]
   ·split at e
    ·cases e; rw [if_neg (by assumption), if_pos (by assumption)]
    ·rw [if_neg (by assumption), if_neg (by assumption), e]
  ·rename_i e; split at e
   ·cases e
   ·split at e
    ·cases e
    ·rw [if_neg (by assumption), if_neg (by assumption), e]
 have hρ : ∀ k : Key, k.2 < nx → updR ρ K (ρ q) k = ρ k := fun k hk => updR_old (ok := fun q => q.2 < nx) (by omega) _ k hk
 have hlive : ∀ (k : Key) (box : Box) (b : Nat), lko ((K, some (Box.sl ty sz rows)) :: (q, none) :: bo) k = some box → box.live = true → (updR ρ K (ρ q) k).g = some b → ∃ k0 box0, lko bo k0 = some box0 ∧ box0.live = true ∧ (ρ k0).g = some b ∧ (k = K ∧ k0 = q ∨ k = k0 ∧ k ≠ q ∧ k ≠ K) := fun k box b hk hlv hg => by
  rw [hl] at hk
  by_cases e : k = K
  ·subst e; rw [updR_same] at hg; exact ⟨q, _, hq, rfl, hg, .inl ⟨rfl, rfl⟩⟩
  ·rw [if_neg e] at hk
   by_cases e3 : k = q
   ·rw [if_pos e3] at hk; cases hk
   ·rw [if_neg e3] at hk
    have hg' : (ρ k).g = some b := by unfold updR at hg; rw [if_neg e] at hg; exact hg
    exact ⟨k, box, hk, hlv, hg', .inr ⟨rfl, e3, e⟩⟩
 have him : ∀ b, b < w.heap.size → Im V ρ (lko bo) b → Im V (updR ρ K (ρ q)) (lko ((K, some (Box.sl ty sz rows)) :: (q, none) :: bo)) b := fun b _ hi => ⟨hi.1, fun k box hk hlv hg => by
  obtain ⟨k0, box0, g1, g2, g3, _⟩ := hlive k box b hk hlv hg
  exact hi.2 k0 box0 g1 g2 g3⟩
 refine ⟨updR ρ K (ρ q), ?_⟩
 show Rel V X Z w0 N (updR ρ K (ρ q)) (fun k => k.2 < K.2 + 1) (lk ((t, .one false [.own K]) :: tm)) (lk (clean ((K, some (Box.sl ty sz rows)) :: (q, none) :: bo))) a w
 rw [e2]
 refine ⟨hR.size, hR.defers, fun t' av ht => ?_, fun k box hk => ?_, fun k b1 k' b2 b g1 l1 g2 l2 m1 m2 => ?_, fun k box b hk hlv hg => ?_, hR.fr, hR.va, fun k hk => ?_⟩
 ·have ht' : (if t' = t then some (AV.one false [.own K]) else lk tm t') = some av := ht
  by_cases e : t' = t
  ·subst e
   rw [if_pos rfl] at ht'
   cases ht'
   obtain ⟨g1, vs, g2, g3⟩ := hR.tm t' _ h
   refine ⟨g1, vs, ?_, g3⟩
   cases g2 with
   | cons x y =>
    cases y
    exact .cons ⟨by omega, by rw [updR_same]; exact x.2⟩ .nil
  ·rw [if_neg e] at ht'
   obtain ⟨g1, g2⟩ := hR.tm t' av ht'
   exact ⟨g1, g2.imp fun c v hc => hc.keep (Keep.refl _ _) him hρ (fun k hk => by omega)⟩
 ·rw [hl] at hk
  by_cases e : k = K
  ·subst e
   rw [if_pos rfl] at hk
   cases hk
   refine ⟨by omega, ?_⟩
   simp only [BoxRel] at hq2 ⊢
   rw [updR_same]
   refine ⟨hq2.1, hq2.2.1, hq2.2.2.1, hq2.2.2.2.1, hq2.2.2.2.2.1, hq2.2.2.2.2.2.imp id ?_⟩
   rintro ⟨b, vs, sp, g1, g2, g3, g4, g5⟩
   exact ⟨b, vs, sp, g1, g2, g3, g4.imp fun c v _ hc => hc.keep (Keep.refl _ _) him hρ (fun k hk => by omega), g5⟩
  ·rw [if_neg e] at hk
   by_cases e3 : k = q
   ·rw [if_pos e3] at hk; cases hk
   ·rw [if_neg e3] at hk
    obtain ⟨g1, g2⟩ := hR.bx k box hk
    exact ⟨by omega, g2.keep (Keep.refl _ _) him hρ (fun k hk => by omega) g1 (fun _ _ _ => rfl)⟩
 ·obtain ⟨k0, x0, y1, y2, y3, y4⟩ := hlive k b1 b g1 l1 m1
  obtain ⟨k0', x0', z1, z2, z3, z4⟩ := hlive k' b2 b g2 l2 m2
  have hk0 := hR.ap k0 x0 k0' x0' b y1 y2 z1 z2 y3 z3
  rcases y4 with ⟨rfl, rfl⟩ | ⟨rfl, y5, y6⟩
  ·rcases z4 with ⟨rfl, rfl⟩ | ⟨rfl, z5, z6⟩
   ·rfl
   ·exact absurd hk0.symm z5
  ·rcases z4 with ⟨rfl, rfl⟩ | ⟨rfl, z5, z6⟩
   ·exact absurd hk0 y5
   ·exact hk0
 ·obtain ⟨k0, x0, y1, y2, y3, y4⟩ := hlive k box b hk hlv hg
  exact hR.lo k0 x0 b y1 y2 y3
 ·obtain ⟨g1, g2⟩ := hR.zz k hk
  exact ⟨by omega, by rw [hρ k g1]; exact g2⟩
theorem JL.rekBW {c : Code} {q : Key} {ty ty0 : TypeId} {sz : Nat} {rows : List (List D)} {cs1 cs2 : List C} (q0 : Key) (j : Nat) (K : Key) (h : lko bo q0 = some (.st ty0 cs1)) (hj : cs1[j]? = some (.own q)) (hs : cs1.set j (.own K) = cs2) (hq : lko bo q = some (.sl ty sz rows)) (hn : Nat.ble nx K.2 = true) (h0 : Nat.blt 0 K.2 = true) (hr : JL P N (c :: cs) ⟨tm, clean ((K, some (.sl ty sz rows)) :: (q, none) :: (q0, some (.st ty0 (cs1.set j (.own K)))) :: bo), K.2 + 1⟩ R) : JL P N (c :: cs) ⟨tm, clean bo, nx⟩ R := by
 refine JL.sub (st' := ⟨tm, clean ((K, some (.sl ty sz rows)) :: (q, none) :: (q0, some (.st ty0 (cs1.set j (.own K)))) :: bo), K.2 + 1⟩) (fun V X Z w0 a w hh => ?_) hr
 have hn' := Nat.le_of_ble_eq_true hn
 have h0' : 0 < K.2 := Nat.le_of_ble_eq_true h0
 obtain ⟨ρ, hR⟩ := hh
 have e1 : lk (clean bo) = lko bo := funext (lk_clean bo)
 have e2 : lk (clean ((K, some (Box.sl ty sz rows)) :: (q, none) :: (q0, some (Box.st ty0 (cs1.set j (.own K)))) :: bo)) = lko ((K, some (Box.sl ty sz rows)) :: (q, none) :: (q0, some (Box.st ty0 (cs1.set j (.own K)))) :: bo) := funext (lk_clean _)
 have hR : Rel V X Z w0 N ρ (fun q => q.2 < nx) (lk tm) (lko bo) a w := by rw [← e1]; exact hR
 obtain ⟨hq1, hq2⟩ := hR.bx q _ hq
 subst hs
 obtain ⟨hp1, b0, vs0, hp2, hp3, hp4⟩ := hR.bx q0 _ h
 have hqq : q0 ≠ q := fun e => by rw [e, hq] at h; cases h
 have hqK : q ≠ K := fun e => by rw [e] at hq1; omega
 have hl : ∀ k, lko ((K, some (Box.sl ty sz rows)) :: (q, none) :: (q0, some (Box.st ty0 (cs1.set j (.own K)))) :: bo) k = if k = K then some (.sl ty sz rows) else if k = q then none else if k = q0 then some (.st ty0 (cs1.set j (.own K))) else lko bo k := by
  intro k
  unfold lko
  show (match (if k = K then some (some (Box.sl ty sz rows)) else if k = q then some none else if k = q0 then some (some (Box.st ty0 (cs1.set j (.own K)))) else lk bo k) with | some ob => ob | none => none) = _
  by_cases e1 : k = K
  ·rw [if_pos e1, if_pos e1]
  ·rw [if_neg e1, if_neg e1]
   by_cases e2 : k = q
   ·rw [if_pos e2, if_pos e2]
   ·rw [if_neg e2, if_neg e2]
    by_cases e3 : k = q0
    ·rw [if_pos e3, if_pos e3]
    ·rw [if_neg e3, if_neg e3]; rfl
 have hρ : ∀ k : Key, k.2 < nx → updR ρ K (ρ q) k = ρ k := fun k hk => updR_old (ok := fun q => q.2 < nx) (by omega) _ k hk
 have hlive : ∀ (k : Key) (box : Box) (b : Nat), lko ((K, some (Box.sl ty sz rows)) :: (q, none) :: (q0, some (Box.st ty0 (cs1.set j (.own K)))) :: bo) k = some box → box.live = true → (updR ρ K (ρ q) k).g = some b → ∃ k0 box0, lko bo k0 = some box0 ∧ box0.live = true ∧ (ρ k0).g = some b ∧ (k = K ∧ k0 = q ∨ k = k0 ∧ k ≠ q ∧ k ≠ K) := fun k box b hk hlv hg => by
  rw [hl] at hk
  by_cases e : k = K
  ·subst e; rw [updR_same] at hg; exact ⟨q, _, hq, rfl, hg, .inl ⟨rfl, rfl⟩⟩
  ·rw [if_neg e] at hk
   by_cases e3 : k = q
   ·rw [if_pos e3] at hk; cases hk
   ·rw [if_neg e3] at hk
    have hg' : (ρ k).g = some b := by unfold updR at hg; rw [if_neg e] at hg; exact hg
    by_cases e4 : k = q0
    ·subst e4; exact ⟨k, _, h, rfl, hg', .inr ⟨rfl, e3, e⟩⟩
    ·rw [if_neg e4] at hk
     exact ⟨k, box, hk, hlv, hg', .inr ⟨rfl, e3, e⟩⟩
 have him : ∀ b, b < w.heap.size → Im V ρ (lko bo) b → Im V (updR ρ K (ρ q)) (lko ((K, some (Box.sl ty sz rows)) :: (q, none) :: (q0, some (Box.st ty0 (cs1.set j (.own K)))) :: bo)) b := fun b _ hi => ⟨hi.1, fun k box hk hlv hg => by
  obtain ⟨k0, box0, g1, g2, g3, _⟩ := hlive k box b hk hlv hg
  exact hi.2 k0 box0 g1 g2 g3⟩
 refine ⟨updR ρ K (ρ q), ?_⟩
 show Rel V X Z w0 N (updR ρ K (ρ q)) (fun k => k.2 < K.2 + 1) (lk tm) (lk (clean ((K, some (Box.sl ty sz rows)) :: (q, none) :: (q0, some (Box.st ty0 (cs1.set j (.own K)))) :: bo))) a w
 rw [e2]
 refine ⟨hR.size, hR.defers, fun t' av ht => ?_, fun k box hk => ?_, fun k b1 k' b2 b g1 l1 g2 l2 m1 m2 => ?_, fun k box b hk hlv hg => ?_, hR.fr, hR.va, fun k hk => ?_⟩
 ·obtain ⟨g1, g2⟩ := hR.tm t' av ht
  exact ⟨g1, g2.imp fun c v hc => hc.keep (Keep.refl _ _) him hρ (fun k hk => by omega)⟩
 ·rw [hl] at hk
  by_cases e : k = K
  ·subst e
   rw [if_pos rfl] at hk
   cases hk
   refine ⟨by omega, ?_⟩
   simp only [BoxRel] at hq2 ⊢
   rw [updR_same]
   refine ⟨hq2.1, hq2.2.1, hq2.2.2.1, hq2.2.2.2.1, hq2.2.2.2.2.1, hq2.2.2.2.2.2.imp id ?_⟩
   rintro ⟨b, vs, sp, g1, g2, g3, g4, g5⟩
   exact ⟨b, vs, sp, g1, g2, g3, g4.imp fun c v _ hc => hc.keep (Keep.refl _ _) him hρ (fun k hk => by omega), g5⟩
  ·rw [if_neg e] at hk
   by_cases e3 : k = q
   ·rw [if_pos e3] at hk; cases hk
   ·rw [if_neg e3] at hk
    by_cases e4 : k = q0
    ·rw [if_pos e4] at hk
     cases hk
     rw [e4]
     refine ⟨by omega, b0, vs0, by rw [hρ q0 hp1]; exact hp2, hp3, ?_⟩
     obtain ⟨v, hv, hv2⟩ := hp4.get hj
     exact hp4.setv (fun c v hc => hc.keep (Keep.refl _ _) him hρ (fun k hk => by omega)) hv ⟨by omega, by rw [updR_same]; exact hv2.2⟩
    rw [if_neg e4] at hk
    obtain ⟨g1, g2⟩ := hR.bx k box hk
    exact ⟨by omega, g2.keep (Keep.refl _ _) him hρ (fun k hk => by omega) g1 (fun _ _ _ => rfl)⟩
 ·obtain ⟨k0, x0, y1, y2, y3, y4⟩ := hlive k b1 b g1 l1 m1
  obtain ⟨k0', x0', z1, z2, z3, z4⟩ := hlive k' b2 b g2 l2 m2
  have hk0 := hR.ap k0 x0 k0' x0' b y1 y2 z1 z2 y3 z3
  rcases y4 with ⟨rfl, rfl⟩ | ⟨rfl, y5, y6⟩
  ·rcases z4 with ⟨rfl, rfl⟩ | ⟨rfl, z5, z6⟩
   ·rfl
   ·exact absurd hk0.symm z5
  ·rcases z4 with ⟨rfl, rfl⟩ | ⟨rfl, z5, z6⟩
   ·exact absurd hk0 y5
   ·exact hk0
 ·obtain ⟨k0, x0, y1, y2, y3, y4⟩ := hlive k box b hk hlv hg
  exact hR.lo k0 x0 b y1 y2 y3
 ·obtain ⟨g1, g2⟩ := hR.zz k hk
  exact ⟨by omega, by rw [hρ k g1]; exact g2⟩
theorem JL.out {st : St} (h : JL P N [] st R) : R .normal st := by unfold JL at h; exact h
theorem startW {f : FuncId} {fn : Func} {body : Code} {args : List Arg} {r : ARes} (hf : P.funcs[f]? = some fn) (hbody : fn.body = some body) (hN : fn.ntmps = N) (hp : decide (fn.params.size ≤ args.length) = true) (hn : decide (args.length ≤ N) = true) (hio : argBx 0 args = []) (htm : argTm 0 args = tm)
    (h : JL P N [body] ⟨tm, clean [], 1⟩ (FinW P fn args r)) : FnSound P f args [] r := by
 subst htm
 refine fn_of_JLZ (own := false) hf hbody hN hp hn ?_
 rw [hio]
 rw [JL_cons] at h ⊢
 refine J.mono h fun ax s hs => ?_
 cases ax with
 | normal => have hs' : JL P N [] s (FinW P fn args r) := hs; exact (show JL P N [] s (fnEndZ P false fn args r) from JL.nil (JL.out hs').1)
 | exit i => exact hs.1
 | ret => exact hs.1
end
end Go.Proofs.YtjpdemikmdfonaaGreatDoor

namespace Go.Proofs.YtjpdemikmdfonaaGreatDoor
open Go Go.RowKit
set_option linter.unusedSimpArgs false
set_option linter.unusedVariables false
def dInts (xs : List Int) : List (List D) := xs.map fun x => [.v (.int .i64 x)]
def dSets (xs : List Int) : List (List D) := xs.map fun x => [.v (.int .u8 x)]
theorem wrap_i64 {n : Int} (h : -9223372036854775808 ≤ n ∧ n ≤ 9223372036854775807) : IntKind.i64.wrap n = n := by
 simp [IntKind.wrap, IntKind.signed, IntKind.bits]; omega
end Go.Proofs.YtjpdemikmdfonaaGreatDoor

namespace Go.Proofs.YtjpdemikmdfonaaGreatDoor
open Go Go.RowKit
set_option linter.unusedSimpArgs false
set_option linter.unusedVariables false
def dBools (xs : List Bool) : List (List D) := xs.map fun x => [.v (.bool x)]
def dMat (m : List (List Bool)) : List (List D) := m.map fun r => [.sl 1 (dBools r)]
def tabRow (t : Tab) : List D := [.v (.int .i64 t.kind), .v (.int .i64 t.frm), .v (.int .i64 t.tto), .v (.bool t.aware), .sl 1 (dMat t.ok), .sl 1 (dMat t.rw)]
def dTabs (ts : List Tab) : List (List D) := ts.map tabRow
end Go.Proofs.YtjpdemikmdfonaaGreatDoor

namespace Go.Proofs.YtjpdemikmdfonaaGreatDoor
open Go Go.RowKit
set_option linter.unusedSimpArgs false
set_option linter.unusedVariables false
def firstErr (f : Nat → Int) : Nat → Nat → Int
 | _, 0 => 0
 | k, r + 1 => if f k ≠ 0 then f k else firstErr f (k + 1) r
structure MixD where
 base : List Int
 next : List Int
 held : List Int
deriving DecidableEq
structure StepD where
 kind : Int
 idx : Int
 ver : Int
deriving DecidableEq
structure ConfD where
 tab : Int
 wri : Int
 rea : Int
deriving DecidableEq
def nilM : MixD := ⟨[], [], []⟩
def nilT : Tab := ⟨0, 0, 0, false, [], []⟩
def nilS : StepD := ⟨0, 0, 0⟩
def mixRow (m : MixD) : List D := [.sl 1 (dInts m.base), .sl 1 (dInts m.next), .sl 1 (dSets m.held)]
def dMixes (l : List MixD) : List (List D) := l.map mixRow
def stepRow (s : StepD) : List D := [.v (.int .i64 s.kind), .v (.int .i64 s.idx), .v (.int .i64 s.ver)]
def dSteps (l : List StepD) : List (List D) := l.map stepRow
def confRow (c : ConfD) : List D := [.v (.int .i64 c.tab), .v (.int .i64 c.wri), .v (.int .i64 c.rea)]
def dConfs (l : List ConfD) : List (List D) := l.map confRow
theorem row_get {α : Type} {f : α → List D} {xs : List α} {d : α} {x : Int} (h : 0 ≤ x ∧ x < xs.length) : (xs.map f)[x.toNat]? = some (f (xs.getD x.toNat d)) := by
 have h' : x.toNat < xs.length := by omega
 rw [List.getElem?_map, List.getElem?_eq_getElem h', List.getD_eq_getElem?_getD, List.getElem?_eq_getElem h']
 rfl
theorem row_getN {α : Type} {f : α → List D} {xs : List α} {d : α} {k : Nat} (h : k < xs.length) : (xs.map f)[k]? = some (f (xs.getD k d)) := by
 rw [List.getElem?_map, List.getElem?_eq_getElem h, List.getD_eq_getElem?_getD, List.getElem?_eq_getElem h]
 rfl
def one8 (v : Int) : Int := IntKind.u8.wrap (1 * 2 ^ v.toNat)
def bitOf (s v : Int) : Int := bits BinOp.and IntKind.u8 (s / 2 ^ v.toNat) 1
def hasV (s v : Int) : Bool := decide (bitOf s v = 1)
def runV (b n : Int) : Int := if 0 ≤ n then bits BinOp.or IntKind.u8 (one8 b) (one8 n) else one8 b
def runS (m : MixD) (s : Int) : Int := runV (m.base.getD s.toNat 0) (m.next.getD s.toNat 0)
def allV (n : Int) : Int := IntKind.u8.wrap (one8 n - 1)
def svcE (n b x : Int) : Int := if b < 0 ∨ n ≤ b ∨ x < -1 ∨ n ≤ x then 7 else if b = x then 1 else 0
def svcI (vs base next : List Int) (i : Nat) : Int := svcE (vs.getD i 0) (base.getD i 0) (next.getD i 0)
def heldB (p : Prob) (m : MixD) (t : Tab) (h : Int) : Bool :=
 if storedB t.kind = true then decide (¬ bits BinOp.andNot IntKind.u8 h (allV (p.vs.getD t.frm.toNat 0)) = 0) || decide (¬ bits BinOp.andNot IntKind.u8 (runS m t.frm) h = 0) else decide (¬ h = 0)
def heldI (p : Prob) (m : MixD) (i : Nat) : Int := if heldB p m (p.tabs.getD i nilT) (m.held.getD i 0) = true then 1 else 0
def mixErr (p : Prob) (m : MixD) : Int :=
 if ¬ vpErr p = 0 then vpErr p
 else if ¬ m.base.length = p.vs.length ∨ ¬ m.next.length = p.vs.length ∨ ¬ m.held.length = p.tabs.length then 6
 else if ¬ firstErr (svcI p.vs m.base m.next) 0 p.vs.length = 0 then firstErr (svcI p.vs m.base m.next) 0 p.vs.length
 else firstErr (heldI p m) 0 p.tabs.length
structure MixIn (p : Prob) (m : MixD) : Prop where
 vp : vpErr p = 0
 lb : m.base.length = p.vs.length
 ln : m.next.length = p.vs.length
 lh : m.held.length = p.tabs.length
 rng : ∀ i, i < p.vs.length → (0 ≤ m.base.getD i 0 ∧ m.base.getD i 0 < p.vs.getD i 0) ∧ (-1 ≤ m.next.getD i 0 ∧ m.next.getD i 0 < p.vs.getD i 0)
def openN : List Int → Nat
 | [] => 0
 | x :: xs => (if 0 ≤ x then 1 else 0) + openN xs
def abn : List Int → Nat → List Int
 | [], _ => []
 | x :: xs, k => if 0 ≤ x then (if k % 2 = 1 then -1 else x) :: abn xs (k / 2) else x :: abn xs k
def abM (m : MixD) (k : Nat) : MixD := { m with next := abn m.next k }
def allP (m : MixD) : List MixD := (List.range (2 ^ openN m.next)).map (abM m)
def okAt (t : Tab) (u v : Nat) : Bool := (t.ok.getD u []).getD v false
def confU (p : Prob) (m : MixD) (i : Nat) (t : Tab) (u : Nat) : List ConfD :=
 ((List.range (p.vs.getD t.tto.toNat 0).toNat).flatMap fun (v : Nat) => if (hasV (runS m t.tto) v && (!t.aware && !okAt t u v)) = true then [⟨i, u, v⟩] else [])
 ++ (if (t.aware && !((List.range (p.vs.getD t.tto.toNat 0).toNat).any fun (v : Nat) => hasV (runS m t.tto) v && okAt t u v)) = true then [⟨i, u, -1⟩] else [])
def writers (p : Prob) (m : MixD) (i : Nat) (t : Tab) : Int := if storedB t.kind = true then m.held.getD i 0 else runS m t.frm
def confT (p : Prob) (m : MixD) (i : Nat) : List ConfD :=
 (List.range (p.vs.getD (p.tabs.getD i nilT).frm.toNat 0).toNat).flatMap fun (u : Nat) => if hasV (writers p m i (p.tabs.getD i nilT)) u = true then confU p m i (p.tabs.getD i nilT) u else []
def foundP (p : Prob) (m : MixD) : List ConfD := (List.range p.tabs.length).flatMap (confT p m)
def safeP (p : Prob) (m : MixD) : Bool := (foundP p m).isEmpty
def robustP (p : Prob) (m : MixD) : Bool := (allP m).all (safeP p)
def stepOK (s : StepD) : Bool := decide (1 ≤ s.kind ∧ s.kind ≤ 4 ∧ 0 ≤ s.idx ∧ 0 ≤ s.ver ∧ (s.kind = 1 ∨ s.ver = 0))
def heldUp (p : Prob) (i v : Int) (t : Tab) (h : Int) : Int := if t.frm = i ∧ storedB t.kind = true then bits BinOp.or IntKind.u8 h (one8 v) else h
def startedM (p : Prob) (m : MixD) (s : StepD) : MixD := ⟨m.base, m.next.set s.idx.toNat s.ver, (List.range m.held.length).map fun k => heldUp p s.idx s.ver (p.tabs.getD k nilT) (m.held.getD k 0)⟩
def rwAt (t : Tab) (u : Nat) (b : Int) : Bool := (t.rw.getD u []).getD b.toNat false
def clearB (p : Prob) (m : MixD) (t : Tab) (h : Int) : Bool := (List.range (p.vs.getD t.frm.toNat 0).toNat).all fun (u : Nat) => !(hasV h u && !hasV (runS m t.frm) u && (decide (t.kind = 4) && !rwAt t u (m.base.getD t.frm.toNat 0)))
def afterP (p : Prob) (m : MixD) (s : StepD) : Option MixD :=
 if s.kind = 1 then (if 0 ≤ m.next.getD s.idx.toNat 0 ∨ s.ver = m.base.getD s.idx.toNat 0 then none else some (startedM p m s))
 else if s.kind = 2 then (if m.next.getD s.idx.toNat 0 < 0 then none else some ⟨m.base.set s.idx.toNat (m.next.getD s.idx.toNat 0), m.next.set s.idx.toNat (-1), m.held⟩)
 else if s.kind = 3 then
  (if storedB (p.tabs.getD s.idx.toNat nilT).kind = false then none
   else if m.held.getD s.idx.toNat 0 = runS m (p.tabs.getD s.idx.toNat nilT).frm then none
   else if clearB p m (p.tabs.getD s.idx.toNat nilT) (m.held.getD s.idx.toNat 0) = false then none
   else some ⟨m.base, m.next, m.held.set s.idx.toNat (runS m (p.tabs.getD s.idx.toNat nilT).frm)⟩)
 else (if m.next.getD s.idx.toNat 0 < 0 then none else some ⟨m.base, m.next.set s.idx.toNat (-1), m.held⟩)
def thereB (p : Prob) (s : StepD) : Bool := if s.kind = 3 then decide (s.idx < p.tabs.length) else decide (s.idx < p.vs.length) && (decide (¬ s.kind = 1) || decide (s.ver < p.vs.getD s.idx.toNat 0))
def applyP (p : Prob) (m : MixD) (s : StepD) : MixD × Int :=
 if ¬ mixErr p m = 0 then (nilM, mixErr p m)
 else if stepOK s = false then (nilM, 1)
 else if thereB p s = false then (nilM, 4)
 else match afterP p m s with
  | none => (nilM, 11)
  | some x => (x, 0)
def stepsP (p : Prob) (m : MixD) : List StepD := (List.range 3).flatMap fun (kind : Nat) => (List.range (max p.vs.length p.tabs.length)).flatMap fun (i : Nat) => (List.range 6).flatMap fun (v : Nat) => if (applyP p m ⟨(kind : Int) + 1, i, v⟩).2 = 0 then [⟨(kind : Int) + 1, i, v⟩] else []
structure NodeD where
 mix : MixD
 before : Int
 by_ : StepD
def nilN : NodeD := ⟨nilM, 0, nilS⟩
def nodeRow (n : NodeD) : List D := mixRow n.mix ++ [.v (.int .i64 n.before)] ++ stepRow n.by_
def dNodes (l : List NodeD) : List (List D) := l.map nodeRow
end Go.Proofs.YtjpdemikmdfonaaGreatDoor

namespace Go.Proofs.YtjpdemikmdfonaaGreatDoor
open Go Go.RowKit
set_option linter.unusedSimpArgs false
set_option linter.unusedVariables false
structure NodesOK (p : Prob) (m0 : MixD) (l : List NodeD) : Prop where
 pos : 0 < l.length
 first : l.getD 0 nilN = ⟨m0, -1, nilS⟩
 rob : robustP p m0 = true
 up : ∀ k, 0 < k → k < l.length → ∃ j : Nat, j < k ∧ (l.getD k nilN).before = (j : Int) ∧ (l.getD k nilN).by_ ∈ stepsP p (l.getD j nilN).mix ∧ (l.getD k nilN).mix = ((afterP p (l.getD j nilN).mix (l.getD k nilN).by_).getD nilM) ∧ robustP p (l.getD k nilN).mix = true
theorem getD_app {α : Type} {l r : List α} {d : α} {k : Nat} (h : k < l.length) : (l ++ r).getD k d = l.getD k d := by
 rw [List.getD_eq_getElem?_getD, List.getD_eq_getElem?_getD, List.getElem?_append_left h]
theorem getD_last {α : Type} {l : List α} {x d : α} : (l ++ [x]).getD l.length d = x := by
 rw [List.getD_eq_getElem?_getD, List.getElem?_append_right (Nat.le_refl _)]
 simp
theorem NodesOK.add {p : Prob} {m0 : MixD} {l : List NodeD} (h : NodesOK p m0 l) {i : Nat} (hi : i < l.length) {s : StepD} (hs : s ∈ stepsP p (l.getD i nilN).mix) (hr : robustP p ((afterP p (l.getD i nilN).mix s).getD nilM) = true) :
    NodesOK p m0 (l ++ [⟨(afterP p (l.getD i nilN).mix s).getD nilM, i, s⟩]) := by
 refine ⟨by simp, by rw [getD_app h.pos]; exact h.first, h.rob, fun k hk hl => ?_⟩
 by_cases e : k < l.length
 ·obtain ⟨j, h1, h2, h3, h4, h5⟩ := h.up k hk e
  exact ⟨j, h1, by rw [getD_app e]; exact h2, by rw [getD_app e, getD_app (by omega)]; exact h3, by rw [getD_app e, getD_app (by omega)]; exact h4, by rw [getD_app e]; exact h5⟩
 ·have : k = l.length := by simp at hl; omega
  subst this
  exact ⟨i, hi, by rw [getD_last], by rw [getD_last, getD_app hi]; exact hs, by rw [getD_last, getD_app hi], by rw [getD_last]; exact hr⟩
end Go.Proofs.YtjpdemikmdfonaaGreatDoor

namespace Go.Proofs.YtjpdemikmdfonaaGreatDoor
open Go Go.RowKit
set_option linter.unusedSimpArgs false
set_option linter.unusedVariables false
structure CtlD where
 plan : List StepD
 at_ : Int
 phase : Int
 replica : Int
 round : Int
 token : Int
 mix : MixD
deriving DecidableEq
def ctlRow (c : CtlD) : List D := [.sl 3 (dSteps c.plan), .v (.int .i64 c.at_), .v (.int .i64 c.phase), .v (.int .i64 c.replica), .v (.int .i64 c.round), .v (.int .i64 c.token), .sl 1 (dInts c.mix.base), .sl 1 (dInts c.mix.next), .sl 1 (dSets c.mix.held)]
structure SigD where
 kind : Int
 token : Int
 round : Int
 replica : Int
 ver : Int
 pass : Bool
 table : Int
structure EntD where
 kind : Int
 token : Int
 idx : Int
 data : ByteArray
def entRow (e : EntD) : List D := [.v (.int .i64 e.kind), .v (.int .i64 e.token), .v (.int .i64 e.idx), .v (.string e.data)]
def dEnts (l : List EntD) : List (List D) := l.map entRow
def nilE : EntD := ⟨0, 0, 0, ByteArray.empty⟩
structure ActD where
 kind : Int
 ent : EntD
 round : Int
 replica : Int
 ver : Int
 service : Int
 table : Int
def actRow (a : ActD) : List D := [.v (.int .i64 a.kind)] ++ entRow a.ent ++ [.v (.int .i64 a.round), .v (.int .i64 a.replica), .v (.int .i64 a.ver), .v (.int .i64 a.service), .v (.int .i64 a.table)]
def dActs (l : List ActD) : List (List D) := l.map actRow
end Go.Proofs.YtjpdemikmdfonaaGreatDoor

namespace Go.Proofs.YtjpdemikmdfonaaGreatDoor
open Go Go.RowKit
set_option linter.unusedSimpArgs false
set_option linter.unusedVariables false
theorem vp_parts {p : Prob} : vpErr p = 0 ↔ (p.vs.length ≤ 6 ∧ p.tabs.length ≤ 12) ∧ (p.now.length = p.vs.length ∧ p.tgt.length = p.vs.length) ∧ rngOK p.vs p.now p.tgt = true ∧ tabsErr p.vs p.tabs = 0 := by
 unfold vpErr
 constructor
 ·intro h
  split at h
  ·cases h
  ·split at h
   ·cases h
   ·split at h
    ·cases h
    ·rename_i h1 h2 h3
     exact ⟨by omega, by omega, by simpa using h3, h⟩
 ·rintro ⟨h1, h2, h3, h4⟩
  rw [if_neg (by omega), if_neg (by omega), if_neg (by simp [h3])]
  exact h4
theorem rngOK_get : ∀ {vs now tgt : List Int}, now.length = vs.length → tgt.length = vs.length → (rngOK vs now tgt = true ↔ ∀ i (h : i < vs.length), (1 ≤ vs[i] ∧ vs[i] ≤ 6) ∧ withinB (now.getD i 0) vs[i] = true ∧ withinB (tgt.getD i 0) vs[i] = true)
 | [], [], [], _, _ => by simp [rngOK]
 | n :: vs, a :: now, b :: tgt, h1, h2 => by
  have ih := rngOK_get (vs := vs) (now := now) (tgt := tgt) (by simpa using h1) (by simpa using h2)
  simp only [rngOK, Bool.and_eq_true, decide_eq_true_eq]
  rw [ih]
  constructor
  ·rintro ⟨⟨⟨k1, k2⟩, k3⟩, k4⟩ i hi
   rcases i with _ | i
   ·exact ⟨k1, by simpa using k2, by simpa using k3⟩
   ·simpa using k4 i (by simpa using hi)
  ·intro h
   have h0 := h 0 (by simp)
   exact ⟨⟨⟨h0.1, by simpa using h0.2.1⟩, by simpa using h0.2.2⟩, fun i hi => h (i + 1) (by simpa using hi)⟩
 | [], _ :: _, _, h, _ => by simp at h
 | [], [], _ :: _, _, h => by simp at h
 | _ :: _, [], _, h, _ => by simp at h
 | _ :: _, _ :: _, [], _, h => by simp at h
structure LinkD where
 kind : Int
 frm : Int
 tto : Int
 aware : Bool
 bad : Int
 lost : Int
structure DraftD where
 vs : List Int
 now : List Int
 tgt : List Int
 links : List LinkD
end Go.Proofs.YtjpdemikmdfonaaGreatDoor

