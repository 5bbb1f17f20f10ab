/-
  The abstract machine is right: a region that draws its order.
-/
import Derived.Test.YtnaknldbmapolaaGreatDoorAbsR
namespace Go.Proofs.YtnaknldbmapolaaGreatDoor
open Go Go.RowKit
set_option linter.unusedSimpArgs false
set_option linter.unusedVariables false
def dK (l : List Oper) (k : Nat) : Option Nat := (l[k]?).bind (·.dst)
def vK (rs : List Rec) (k : Nat) : AV := ((rs[k]?).map (·.av)).getD .un
def uK (rs : List Rec) (k : Nat) : List (Key × Option Box) := ((rs[k]?).map (·.up)).getD []
def kK (rs : List Rec) (k : Nat) : List Key := ((rs[k]?).map (·.keys)).getD []
/-- The slots behind those of the first operations that are done. -/
def ltS (l : List Oper) (rs : List Rec) (S : Nat → Bool) (lt : Nat → Option AV) : Nat → Nat → Option AV
  | 0 => lt
  | k + 1 => if S k = true then updT (ltS l rs S lt k) (dK l k) (vK rs k) else ltS l rs S lt k
def lbS (rs : List Rec) (S : Nat → Bool) (lb : Key → Option Box) : Nat → Key → Option Box
  | 0 => lb
  | k + 1 => if S k = true then updB (lbS rs S lb k) (uK rs k) else lbS rs S lb k
section
variable {l : List Oper} {rs : List Rec} {S T : Nat → Bool} {lt : Nat → Option AV} {lb : Key → Option Box}
theorem ltS_eq {t : Nat} : ∀ (n : Nat), (∀ j, j < n → dK l j = some t → S j = T j) → ltS l rs S lt n t = ltS l rs T lt n t
  | 0, _ => rfl
  | n + 1, h => by
    have ih := ltS_eq n (fun j hj => h j (by omega))
    unfold ltS
    by_cases hd : dK l n = some t
    · rw [h n (by omega) hd]
      split
      · unfold updT; rw [if_pos hd, if_pos hd]
      · exact ih
    · have e1 : ∀ f : Nat → Option AV, updT f (dK l n) (vK rs n) t = f t := fun f => by unfold updT; rw [if_neg hd]
      split <;> split <;> simp only [e1, ih]
theorem lk_none {k : Key} : ∀ {up : List (Key × Option Box)}, k ∉ up.map (·.1) → lk up k = none
  | [], _ => rfl
  | (q, b) :: r, h => by
    show (if k = q then some b else lk r k) = none
    rw [if_neg (fun e => h (by simp [e]))]
    exact lk_none (fun hm => h (by simp only [List.map_cons, List.mem_cons]; exact .inr hm))
theorem lk_some {k : Key} : ∀ {up : List (Key × Option Box)}, k ∈ up.map (·.1) → ∃ b, lk up k = some b
  | [], h => by simp at h
  | (q, b) :: r, h => by
    by_cases e : k = q
    · exact ⟨b, by show (if k = q then some b else lk r k) = some b; rw [if_pos e]⟩
    · obtain ⟨b', hb⟩ := lk_some (up := r) (by simpa [e] using h)
      exact ⟨b', by show (if k = q then some b else lk r k) = some b'; rw [if_neg e]; exact hb⟩
theorem lbS_eq {k : Key} : ∀ (n : Nat), (∀ j, j < n → k ∈ (uK rs j).map (·.1) → S j = T j) → lbS rs S lb n k = lbS rs T lb n k
  | 0, _ => rfl
  | n + 1, h => by
    have ih := lbS_eq n (fun j hj => h j (by omega))
    unfold lbS
    by_cases hd : k ∈ (uK rs n).map (·.1)
    · rw [h n (by omega) hd]
      obtain ⟨b, hb⟩ := lk_some hd
      split
      · unfold updB; simp only [hb]
      · exact ih
    · have e1 : ∀ f : Key → Option Box, updB f (uK rs n) k = f k := fun f => by unfold updB; rw [lk_none hd]
      split <;> split <;> simp only [e1, ih]
theorem ltS_last {t i : Nat} (hd : dK l i = some t) : ∀ (n : Nat), i < n → S i = true → (∀ j, j < n → i < j → dK l j = some t → S j = false) → ltS l rs S lt n t = some (vK rs i)
  | 0, h, _, _ => absurd h (by omega)
  | n + 1, h, hs, hl => by
    unfold ltS
    by_cases e : i = n
    · subst e
      rw [if_pos hs]
      unfold updT
      rw [if_pos hd]
    · have ih := ltS_last hd n (by omega) hs (fun j hj => hl j (by omega))
      by_cases hd2 : dK l n = some t
      · rw [if_neg (by rw [hl n (by omega) (by omega) hd2]; decide)]; exact ih
      · split
        · unfold updT; rw [if_neg hd2]; exact ih
        · exact ih
theorem lbS_last {k : Key} {i : Nat} {ob : Option Box} (hd : lk (uK rs i) k = some ob) : ∀ (n : Nat), i < n → S i = true → (∀ j, j < n → i < j → k ∈ (uK rs j).map (·.1) → S j = false) → lbS rs S lb n k = ob
  | 0, h, _, _ => absurd h (by omega)
  | n + 1, h, hs, hl => by
    unfold lbS
    by_cases e : i = n
    · subst e
      rw [if_pos hs]
      unfold updB
      rw [hd]
    · have ih := lbS_last hd n (by omega) hs (fun j hj => hl j (by omega))
      by_cases hd2 : k ∈ (uK rs n).map (·.1)
      · rw [if_neg (by rw [hl n (by omega) (by omega) hd2]; decide)]; exact ih
      · split
        · unfold updB; rw [lk_none hd2]; exact ih
        · exact ih
end
section
variable {P : Program} {E : Env} {ops : Array Oper} {nx : Nat}
theorem ltS_shift (o : Oper) (l : List Oper) (r : Rec) (rs : List Rec) (lt : Nat → Option AV) : ∀ j, ltS (o :: l) (r :: rs) (fun _ => true) lt (j + 1) = ltS l rs (fun _ => true) (updT lt o.dst r.av) j
  | 0 => by simp [ltS, dK, vK]
  | j + 1 => by
    have ih := ltS_shift o l r rs lt j
    unfold ltS
    rw [ih]
    simp [dK, vK]
theorem lbS_shift (r : Rec) (rs : List Rec) (lb : Key → Option Box) : ∀ j, lbS (r :: rs) (fun _ => true) lb (j + 1) = lbS rs (fun _ => true) (updB lb r.up) j
  | 0 => by simp [lbS, uK]
  | j + 1 => by
    have ih := lbS_shift r rs lb j
    unfold lbS
    rw [ih]
    simp [uK]
/-- What stands at one operation of a run. -/
def At (P : Program) (E : Env) (ops : Array Oper) (nx i : Nat) (o : Oper) (r : Rec) (lt : Nat → Option AV) (lb : Key → Option Box) : Prop :=
  (∀ k, o.dst = some k → k < E.N) ∧ ((wantA ops o lt = some true ∧ (∃ e, effAt P E i o lt lb nx = some e ∧ e.needs = [] ∧ e.av = r.av ∧ e.up = r.up) ∧ r.keys = opKeys lt lb o) ∨ (wantA ops o lt = some false ∧ r.av = .un ∧ r.up = []))
theorem run_at {i : Nat} {l : List Oper} {lt lt' : Nat → Option AV} {lb lb' : Key → Option Box} {rs : List Rec} (h : Run P E ops nx i l lt lb rs lt' lb') :
    rs.length = l.length ∧ (∀ j o, l[j]? = some o → ∃ r, rs[j]? = some r ∧ At P E ops nx (i + j) o r (ltS l rs (fun _ => true) lt j) (lbS rs (fun _ => true) lb j)) ∧ lt' = ltS l rs (fun _ => true) lt l.length ∧ lb' = lbS rs (fun _ => true) lb l.length := by
  induction h with
  | nil => exact ⟨rfl, fun j o hj => by simp at hj, rfl, rfl⟩
  | @op i o rest lt lt' lb lb' e rs hd hw he hn t ih =>
    obtain ⟨h1, h2, h3, h4⟩ := ih
    refine ⟨by simp [h1], fun j o' hj => ?_, ?_, ?_⟩
    · cases j with
      | zero =>
        simp at hj
        subst hj
        exact ⟨⟨e.av, e.up, opKeys lt lb o⟩, rfl, hd, .inl ⟨hw, ⟨e, he, hn, rfl, rfl⟩, rfl⟩⟩
      | succ j =>
        obtain ⟨r, g1, g2⟩ := h2 j o' (by simpa using hj)
        refine ⟨r, by simpa using g1, ?_⟩
        rw [ltS_shift, lbS_shift, show i + (j + 1) = i + 1 + j by omega]
        exact g2
    · rw [List.length_cons, ltS_shift]; exact h3
    · rw [List.length_cons, lbS_shift]; exact h4
  | @no i o rest lt lt' lb lb' rs hd hw t ih =>
    obtain ⟨h1, h2, h3, h4⟩ := ih
    refine ⟨by simp [h1], fun j o' hj => ?_, ?_, ?_⟩
    · cases j with
      | zero =>
        simp at hj
        subst hj
        exact ⟨⟨.un, [], []⟩, rfl, hd, .inr ⟨hw, rfl, rfl⟩⟩
      | succ j =>
        obtain ⟨r, g1, g2⟩ := h2 j o' (by simpa using hj)
        refine ⟨r, by simpa using g1, ?_⟩
        rw [ltS_shift, lbS_shift, show i + (j + 1) = i + 1 + j by omega]
        exact g2
    · rw [List.length_cons, ltS_shift]; exact h3
    · rw [List.length_cons, lbS_shift]; exact h4
theorem masks_len (ops : Array Oper) : ∀ k, (masks ops k).length = k
  | 0 => rfl
  | k + 1 => by simp [masks, masks_len ops k]
theorem masks_pre (ops : Array Oper) (i : Nat) : ∀ k, i < k → (masks ops k).getD i 0 = (masks ops (i + 1)).getD i 0
  | 0, h => absurd h (by omega)
  | k + 1, h => by
    by_cases e : i = k
    · rw [e]
    · have ih := masks_pre ops i k (by omega)
      rw [← ih]
      have hl := masks_len ops k
      rw [show masks ops (k + 1) = masks ops k ++ [match ops[k]? with
        | some o => o.after.toList.foldl (fun s e => if Region.binds .any e then s ||| (2 ^ e.on ||| (masks ops k).getD e.on 0) else s) 0
        | none => 0] from rfl]
      rw [List.getD_eq_getElem?_getD, List.getD_eq_getElem?_getD, List.getElem?_append_left (by omega)]
/-- What stands before an operation is one of its edges, or stands before one. -/
theorem mask_edge {i j : Nat} {o : Oper} (ho : ops[i]? = some o) (h : ((masks ops (i + 1)).getD i 0).testBit j = true) : ∃ e ∈ o.after, Region.binds .any e = true ∧ (e.on = j ∨ ((masks ops i).getD e.on 0).testBit j = true) := by
  have hl := masks_len ops i
  rw [show masks ops (i + 1) = masks ops i ++ [match ops[i]? with
        | some o => o.after.toList.foldl (fun s e => if Region.binds .any e then s ||| (2 ^ e.on ||| (masks ops i).getD e.on 0) else s) 0
        | none => 0] from rfl, List.getD_eq_getElem?_getD, List.getElem?_append_right (by omega), hl, Nat.sub_self, ho] at h
  simp only [List.getElem?_cons_zero, Option.getD_some] at h
  have key : ∀ (es : List Edge) (s : Nat), (es.foldl (fun s e => if Region.binds .any e then s ||| (2 ^ e.on ||| (masks ops i).getD e.on 0) else s) s).testBit j = true → s.testBit j = true ∨ ∃ e ∈ es, Region.binds .any e = true ∧ (e.on = j ∨ ((masks ops i).getD e.on 0).testBit j = true) := by
    intro es
    induction es with
    | nil => intro s hs; exact .inl hs
    | cons e es ih =>
      intro s hs
      rw [List.foldl_cons] at hs
      rcases ih _ hs with h1 | ⟨e', h1, h2⟩
      · by_cases hb : Region.binds .any e = true
        · rw [if_pos hb, Nat.testBit_or, Nat.testBit_or, Nat.testBit_two_pow] at h1
          simp only [Bool.or_eq_true, decide_eq_true_eq] at h1
          rcases h1 with h1 | h1 | h1
          · exact .inl h1
          · exact .inr ⟨e, by simp, hb, .inl h1⟩
          · exact .inr ⟨e, by simp, hb, .inr h1⟩
        · rw [if_neg hb] at h1; exact .inl h1
      · exact .inr ⟨e', by simp [h1], h2⟩
  rcases key _ 0 h with h1 | ⟨e, h1, h2⟩
  · simp at h1
  · exact ⟨e, by simpa using h1, h2⟩
theorem opKeys_congr {lt lt' : Nat → Option AV} {lb lb' : Key → Option Box} {o : Oper} (h1 : ∀ t ∈ opTmps o, lt t = lt' t) (h2 : ∀ k ∈ opKeys lt' lb' o, lb k = lb' k) : opKeys lt lb o = opKeys lt' lb' o := by
  unfold opKeys at h2 ⊢
  split
  · rename_i hl
    rw [if_pos hl] at h2
    have e1 : (opTmps o).flatMap (keysT lt) = (opTmps o).flatMap (keysT lt') := by
      simp only [List.flatMap]
      congr 1
      apply List.map_congr_left
      intro t ht
      unfold keysT
      rw [h1 t ht]
    have fc : ∀ ks : List Key, (∀ q ∈ ks, lb q = lb' q) → ks.flatMap (fun q => keysB (lb q)) = ks.flatMap (fun q => keysB (lb' q)) := fun ks hk => by
      simp only [List.flatMap]
      congr 1
      apply List.map_congr_left
      intro q hq
      rw [hk q hq]
    show (opTmps o).flatMap (keysT lt) ++ (((opTmps o).flatMap (keysT lt)).flatMap (fun q => keysB (lb q)) ++ (((opTmps o).flatMap (keysT lt)).flatMap (fun q => keysB (lb q))).flatMap (fun q => keysB (lb q))) = (opTmps o).flatMap (keysT lt') ++ (((opTmps o).flatMap (keysT lt')).flatMap (fun q => keysB (lb' q)) ++ (((opTmps o).flatMap (keysT lt')).flatMap (fun q => keysB (lb' q))).flatMap (fun q => keysB (lb' q)))
    rw [e1]
    have h2' : ∀ k ∈ (opTmps o).flatMap (keysT lt') ++ (((opTmps o).flatMap (keysT lt')).flatMap (fun q => keysB (lb' q)) ++ (((opTmps o).flatMap (keysT lt')).flatMap (fun q => keysB (lb' q))).flatMap (fun q => keysB (lb' q))), lb k = lb' k := h2
    rw [fc _ (fun q hq => h2' q (List.mem_append_left _ hq))]
    rw [fc _ (fun q hq => h2' q (List.mem_append_right _ (List.mem_append_left _ hq)))]
  · rfl
theorem effAt_congr {i : Nat} {o : Oper} {lt lt' : Nat → Option AV} {lb lb' : Key → Option Box} (h1 : ∀ t ∈ opTmps o, lt t = lt' t) (h2 : ∀ k ∈ opKeys lt' lb' o, lb k = lb' k) : effAt P E i o lt lb nx = effAt P E i o lt' lb' nx := by
  unfold effAt
  rw [opKeys_congr h1 h2]
  have e1 : onlyT o lt = onlyT o lt' := by
    funext t
    unfold onlyT
    split
    · rename_i h; exact h1 t (by simpa using h)
    · rfl
  have e2 : onlyB (opKeys lt' lb' o) lb = onlyB (opKeys lt' lb' o) lb' := by
    funext k
    unfold onlyB
    split
    · rename_i h; exact h2 k (by simpa using h)
    · rfl
  rw [e1, e2]
theorem wantA_congr {o : Oper} {lt lt' : Nat → Option AV} (h : ∀ t ∈ guardTmps ops o, lt t = lt' t) : wantA ops o lt = wantA ops o lt' := by
  unfold wantA
  unfold guardTmps at h
  split
  · rfl
  · rename_i j b hg
    simp only [hg] at h
    cases hd : (ops[j]?).bind (·.dst) with
    | none => rfl
    | some t => simp only [Option.bind_some]; rw [h t (by simp [hd])]
section
variable {V X : Nat → Prop} {Z : Key → Option Nat} {w0 : World} {N : Nat} {Q : Exit → Act → World → Prop}
/-- The region, for every order. -/
theorem any_order (hop : ∀ i, OpSound P (E.call i) E.lend) (hN : E.N = N) {lt0 ltf : Nat → Option AV} {lb0 lbf : Key → Option Box} {rs : List Rec} (hrun : Run P E ops nx 0 ops.toList lt0 lb0 rs ltf lbf) (hord : orderOk ops (masks ops ops.size) (rs.map fun r => ⟨r.keys, r.up.map (·.1)⟩) = true)
    (hQ : ∀ a w, (∃ ρ, Rel V X Z w0 N ρ (fun q => q.2 < nx + 1) ltf lbf a w) → Q .normal a w) :
    ∀ (f : Nat) (listed : Array Bool) (ρ : Key → Hd) (a : Act) (w : World), listed.size = ops.size → undone listed ops.size = f → (∀ i o, ops[i]? = some o → listed.getD i false = true → ∀ e ∈ o.after, Region.binds .any e = true → listed.getD e.on false = true) →
      Rel V X Z w0 N ρ (fun q => q.2 < nx ∨ (q.2 = nx ∧ listed.getD (q.1 / 64) false = true)) (ltS ops.toList rs (fun i => listed.getD i false) lt0 ops.size) (lbS rs (fun i => listed.getD i false) lb0 ops.size) a w → wpAny P .any ops Q f listed a w := by
  obtain ⟨hlen, hat, hltf, hlbf⟩ := run_at hrun
  rw [Array.length_toList] at hlen hltf hlbf
  unfold orderOk at hord
  rw [List.all_eq_true] at hord
  have hE : ∀ i o, ops[i]? = some o → ∀ e ∈ o.after, Region.binds .any e = true → e.on < i := by
    intro i o ho e he hb
    have := hord i (List.mem_range.2 (opt_lt ho))
    rw [Bool.and_eq_true] at this
    have h1 := this.1
    simp only [ho] at h1
    have h2 := List.all_eq_true.1 h1 e (by simpa using he)
    rw [hb] at h2
    simpa using h2
  have hap : ∀ i j, i < j → j < ops.size → ((masks ops ops.size).getD j 0).testBit i = true ∨ ∃ o o' r r', ops[i]? = some o ∧ ops[j]? = some o' ∧ rs[i]? = some r ∧ rs[j]? = some r' ∧ apartOk ops o o' ⟨r.keys, r.up.map (·.1)⟩ ⟨r'.keys, r'.up.map (·.1)⟩ = true ∧ apartOk ops o' o ⟨r'.keys, r'.up.map (·.1)⟩ ⟨r.keys, r.up.map (·.1)⟩ = true := by
    intro i j hij hj
    have := hord j (List.mem_range.2 hj)
    rw [Bool.and_eq_true] at this
    have h1 := List.all_eq_true.1 this.2 i (List.mem_range.2 hij)
    rw [Bool.or_eq_true] at h1
    rcases h1 with h1 | h1
    · exact .inl h1
    · right
      split at h1
      · rename_i o o' n n' e1 e2 e3 e4
        rw [List.getElem?_map] at e3 e4
        obtain ⟨r, k1, rfl⟩ := Option.map_eq_some_iff.1 e3
        obtain ⟨r', k2, rfl⟩ := Option.map_eq_some_iff.1 e4
        rw [Bool.and_eq_true] at h1
        exact ⟨o, o', r, r', e1, e2, k1, k2, h1.1, h1.2⟩
      · cases h1
  intro f
  induction f with
  | zero =>
    intro listed ρ a w hs hu hcl hR
    have hall := undone_zero hu
    refine ⟨?_, hQ a w ⟨ρ, ?_⟩⟩
    · cases hr : Region.ready .any ops listed with
      | nil => rfl
      | cons x xs =>
        have hx : x ∈ Region.ready .any ops listed := by rw [hr]; simp
        obtain ⟨h1, o, h2, _⟩ := mem_ready.1 hx
        rw [getD_true (by rw [hs]; exact opt_lt h2), hall x (opt_lt h2)] at h1
        cases h1
    · have e1 : ltS ops.toList rs (fun i => listed.getD i false) lt0 ops.size = ltf := by
        rw [hltf]; funext t; exact ltS_eq _ (fun j hj _ => hall j hj)
      have e2 : lbS rs (fun i => listed.getD i false) lb0 ops.size = lbf := by
        rw [hlbf]; funext k; exact lbS_eq _ (fun j hj _ => hall j hj)
      rw [e1, e2] at hR
      exact hR.okmono fun q hq => by rcases hq with h | h <;> omega
  | succ f ih =>
    intro listed ρ a w hs hu hcl hR
    refine ⟨fun h0 => ?_, fun i hi => ?_⟩
    · obtain ⟨i, k1, k2, k3⟩ := undone_pos (listed := listed) (m := ops.size) (by omega)
      have hio : ops[i]? = some (ops[i]'k1) := Array.getElem?_eq_getElem k1
      have : i ∈ Region.ready .any ops listed := mem_ready.2 ⟨by rw [getD_true (by omega)]; exact k2, _, hio, fun e he hb => k3 _ (hE i _ hio e he hb)⟩
      rw [h0] at this
      cases this
    · obtain ⟨g1, o, g2, g3⟩ := mem_ready.1 hi
      have hlt := opt_lt g2
      rw [getD_true (by omega)] at g1
      have hclosed : ∀ (j : Nat), listed.getD j false = true → j < ops.size → ∀ k, ((masks ops ops.size).getD j 0).testBit k = true → listed.getD k false = true := by
        intro j
        induction j using Nat.strongRecOn with
        | _ j ihj =>
          intro hj hjs k hk
          have hjo : ops[j]? = some (ops[j]'hjs) := Array.getElem?_eq_getElem hjs
          rw [masks_pre ops j ops.size hjs] at hk
          obtain ⟨e, he, hb, h1⟩ := mask_edge hjo hk
          have hel := hE j _ hjo e he hb
          have hle := hcl j _ hjo hj e he hb
          rcases h1 with h1 | h1
          · rw [← h1]; exact hle
          · rw [masks_pre ops e.on j hel, ← masks_pre ops e.on ops.size (by omega)] at h1
            exact ihj e.on hel hle (by omega) k h1
      have hpred : ∀ k, ((masks ops ops.size).getD i 0).testBit k = true → listed.getD k false = true := by
        intro k hk
        rw [masks_pre ops i ops.size hlt] at hk
        obtain ⟨e, he, hb, h1⟩ := mask_edge g2 hk
        have hel := hE i _ g2 e he hb
        have hle := g3 e he hb
        rcases h1 with h1 | h1
        · rw [← h1]; exact hle
        · rw [masks_pre ops e.on i hel, ← masks_pre ops e.on ops.size (by omega)] at h1
          exact hclosed e.on hle (by omega) k h1
      obtain ⟨r, hri, hAt⟩ := hat i o (by simpa using g2)
      rw [Nat.zero_add] at hAt
      -- the state before operation i in the order of the text, as a set of done ones
      have etT : ∀ t, ltS ops.toList rs (fun _ => true) lt0 i t = ltS ops.toList rs (fun j => decide (j < i)) lt0 ops.size t := by
        intro t
        have e1 : ∀ n, i ≤ n → ltS ops.toList rs (fun j => decide (j < i)) lt0 n t = ltS ops.toList rs (fun j => decide (j < i)) lt0 i t := by
          intro n hn
          induction n with
          | zero => obtain rfl : i = 0 := by omega
                    rfl
          | succ n ihn =>
            by_cases e : i = n + 1
            · rw [e]
            · rw [← ihn (by omega)]
              show (if decide (n < i) = true then _ else _ : Nat → Option AV) t = _
              rw [if_neg (by simp; omega)]
        rw [e1 ops.size (by omega)]
        exact ltS_eq i (fun j hj _ => by simp [hj])
      have etB : ∀ k, lbS rs (fun _ => true) lb0 i k = lbS rs (fun j => decide (j < i)) lb0 ops.size k := by
        intro k
        have e1 : ∀ n, i ≤ n → lbS rs (fun j => decide (j < i)) lb0 n k = lbS rs (fun j => decide (j < i)) lb0 i k := by
          intro n hn
          induction n with
          | zero => obtain rfl : i = 0 := by omega
                    rfl
          | succ n ihn =>
            by_cases e : i = n + 1
            · rw [e]
            · rw [← ihn (by omega)]
              show (if decide (n < i) = true then _ else _ : Key → Option Box) k = _
              rw [if_neg (by simp; omega)]
        rw [e1 ops.size (by omega)]
        exact lbS_eq i (fun j hj _ => by simp [hj])
      -- an operation that has to do with i, before it or behind it, is done just if it stands before
      have hside : ∀ j, j < ops.size → (∀ oj rj, ops[j]? = some oj → rs[j]? = some rj → ¬ (apartOk ops oj o ⟨rj.keys, rj.up.map (·.1)⟩ ⟨r.keys, r.up.map (·.1)⟩ = true)) → j ≠ i → listed.getD j false = decide (j < i) := by
        intro j hj hnot hne
        rcases Nat.lt_or_gt_of_ne hne with hlt' | hgt
        · rw [decide_eq_true hlt']
          rcases hap j i hlt' hlt with h1 | ⟨oj, o', rj, r', k1, k2, k3, k4, k5, k6⟩
          · exact hpred j h1
          · rw [g2] at k2; cases k2; rw [hri] at k4; cases k4
            exact absurd k5 (hnot oj rj k1 k3)
        · rw [decide_eq_false (by omega)]
          rcases hap i j hgt hj with h1 | ⟨o', oj, r', rj, k1, k2, k3, k4, k5, k6⟩
          · cases hb : listed.getD j false with
            | false => rfl
            | true => have := hclosed j hb hj i h1; rw [g1] at this; cases this
          · rw [g2] at k1; cases k1; rw [hri] at k3; cases k3
            exact absurd k6 (hnot oj rj k2 k4)
      have hdstSide : ∀ t, (t ∈ opTmps o ∨ t ∈ guardTmps ops o ∨ o.dst = some t) → ∀ j, j < ops.size → j ≠ i → dK ops.toList j = some t → listed.getD j false = decide (j < i) := by
        intro t ht j hj hne hd
        refine hside j hj (fun oj rj h1 h2 hap' => ?_) hne
        have hdj : oj.dst = some t := by simpa [dK, h1] using hd
        unfold apartOk at hap'
        rw [hdj] at hap'
        simp only [Bool.and_eq_true, Bool.not_eq_true', bne_iff_ne, ne_eq] at hap'
        rcases ht with h3 | h3 | h3
        · have := hap'.1.1.1; simp [h3] at this
        · have := hap'.1.1.2; simp [h3] at this
        · exact hap'.1.2 h3
      have hkeySide : ∀ k, (k ∈ r.keys ∨ k ∈ r.up.map (·.1)) → ∀ j, j < ops.size → j ≠ i → k ∈ (uK rs j).map (·.1) → listed.getD j false = decide (j < i) := by
        intro k hk j hj hne hd
        refine hside j hj (fun oj rj h1 h2 hap' => ?_) hne
        have huj : k ∈ rj.up.map (·.1) := by simpa [uK, h2] using hd
        unfold apartOk at hap'
        rw [Bool.and_eq_true] at hap'
        have := List.all_eq_true.1 hap'.2 k huj
        simp only [Bool.and_eq_true, Bool.not_eq_true'] at this
        rcases hk with h3 | h3
        · have := this.1; simp [h3] at this
        · have := this.2
          have h4 : (r.up.map (·.1)).contains k = true := by simpa using h3
          rw [h4] at this
          cases this
      have hT : ∀ t, (t ∈ opTmps o ∨ t ∈ guardTmps ops o) → ltS ops.toList rs (fun i => listed.getD i false) lt0 ops.size t = ltS ops.toList rs (fun _ => true) lt0 i t := by
        intro t ht
        rw [etT]
        refine ltS_eq _ (fun j hj hd => ?_)
        by_cases e : j = i
        · subst e; rw [g1]; simp
        · exact hdstSide t (by rcases ht with h | h <;> simp [h]) j hj e hd
      have hK : ∀ k, k ∈ r.keys → lbS rs (fun i => listed.getD i false) lb0 ops.size k = lbS rs (fun _ => true) lb0 i k := by
        intro k hk
        rw [etB]
        refine lbS_eq _ (fun j hj hd => ?_)
        by_cases e : j = i
        · subst e; rw [g1]; simp
        · exact hkeySide k (.inl hk) j hj e hd
      have hdi : dK ops.toList i = o.dst := by simp [dK, g2]
      have hvi : vK rs i = r.av := by simp [vK, hri]
      have hui : uK rs i = r.up := by simp [uK, hri]
      have hset : ∀ j, (listed.setIfInBounds i true).getD j false = if j = i then true else listed.getD j false := fun j => getD_set (by omega)
      have eT : updT (ltS ops.toList rs (fun i => listed.getD i false) lt0 ops.size) o.dst r.av = ltS ops.toList rs (fun j => (listed.setIfInBounds i true).getD j false) lt0 ops.size := by
        funext t
        unfold updT
        by_cases hd : o.dst = some t
        · rw [if_pos hd, ← hvi]
          refine (ltS_last (i := i) (hdi.trans hd) _ hlt (by rw [hset, if_pos rfl]) (fun j hj hij hdj => ?_)).symm
          rw [hset, if_neg (by omega), hdstSide t (.inr (.inr hd)) j hj (by omega) hdj]
          simp
          omega
        · rw [if_neg hd]
          refine ltS_eq _ (fun j hj hdj => ?_)
          rw [hset, if_neg (fun e => hd (by rw [← hdi, ← e]; exact hdj))]
      have eB : updB (lbS rs (fun i => listed.getD i false) lb0 ops.size) r.up = lbS rs (fun j => (listed.setIfInBounds i true).getD j false) lb0 ops.size := by
        funext k
        by_cases hd : k ∈ r.up.map (·.1)
        · obtain ⟨b, hb⟩ := lk_some hd
          have h1 : updB (lbS rs (fun i => listed.getD i false) lb0 ops.size) r.up k = b := by unfold updB; rw [hb]
          rw [h1]
          refine (lbS_last (i := i) (by rw [hui]; exact hb) _ hlt (by rw [hset, if_pos rfl]) (fun j hj hij hdj => ?_)).symm
          rw [hset, if_neg (by omega), hkeySide k (.inr hd) j hj (by omega) hdj]
          simp
          omega
        · have h1 : updB (lbS rs (fun i => listed.getD i false) lb0 ops.size) r.up k = lbS rs (fun i => listed.getD i false) lb0 ops.size k := by unfold updB; rw [lk_none hd]
          rw [h1]
          refine lbS_eq _ (fun j hj hdj => ?_)
          rw [hset, if_neg (fun e => hd (by rw [← hui, ← e]; exact hdj))]
      have hnext : ∀ (ρ' : Key → Hd) (a' : Act) (w' : World), Rel V X Z w0 N ρ' (fun q => q.2 < nx ∨ (q.2 = nx ∧ (listed.setIfInBounds i true).getD (q.1 / 64) false = true)) (updT (ltS ops.toList rs (fun i => listed.getD i false) lt0 ops.size) o.dst r.av) (updB (lbS rs (fun i => listed.getD i false) lb0 ops.size) r.up) a' w' →
          wpAny P .any ops Q f (listed.setIfInBounds i true) a' w' := by
        intro ρ' a' w' hR'
        rw [eT, eB] at hR'
        refine ih _ ρ' a' w' (by simp [hs]) (by have := undone_set (listed := listed) (i := i) (by omega) g1 (m := ops.size) hlt; omega) (fun j oj hoj hj e he hb => ?_) hR'
        rw [hset] at hj ⊢
        by_cases e1 : e.on = i
        · rw [if_pos e1]
        · rw [if_neg e1]
          by_cases e2 : j = i
          · subst e2; rw [g2] at hoj; cases hoj; exact g3 e he hb
          · rw [if_neg e2] at hj; exact hcl j oj hoj hj e he hb
      unfold wpOp
      simp only [g2]
      obtain ⟨hd, hcase⟩ := hAt
      rcases hcase with ⟨hw, ⟨e, he, hn, hav, hup⟩, hkeys⟩ | ⟨hw, hav, hup⟩
      · rw [if_pos (by rw [wantA_sound hR (b := true) (by rw [wantA_congr (fun t ht => hT t (.inr ht))]; exact hw)])]
        left
        have he' : effAt P E i o (ltS ops.toList rs (fun i => listed.getD i false) lt0 ops.size) (lbS rs (fun i => listed.getD i false) lb0 ops.size) nx = some e := by
          rw [effAt_congr (fun t ht => hT t (.inl ht)) (fun k hk => hK k (by rw [hkeys]; exact hk))]
          exact he
        refine Oper.wp_mono (fun a' w' ⟨ρ', h'⟩ => hnext ρ' a' w' (by rw [← hav, ← hup]; exact h')) (hop i hR (ok' := fun q => q.2 < nx ∨ (q.2 = nx ∧ (listed.setIfInBounds i true).getD (q.1 / 64) false = true)) (fun q hq => ?_) (fun k hk => hN ▸ hd k hk) (onlyT_sub o _) (onlyB_sub _ _) (keyAt_inj i nx) (fun j hj => ?_) he' hn)
        · rcases hq with h1 | ⟨h1, h2⟩
          · exact .inl h1
          · refine .inr ⟨h1, ?_⟩
            rw [hset]
            split
            · rfl
            · exact h2
        · show ¬ (nx < nx ∨ (nx = nx ∧ listed.getD ((i * 64 + j) / 64) false = true)) ∧ (nx < nx ∨ (nx = nx ∧ (listed.setIfInBounds i true).getD ((i * 64 + j) / 64) false = true))
          have e1 : (i * 64 + j) / 64 = i := by omega
          rw [e1, g1, hset, if_pos rfl]
          simp
      · rw [if_neg (by rw [wantA_sound hR (b := false) (by rw [wantA_congr (fun t ht => hT t (.inr ht))]; exact hw)]; simp)]
        refine hnext ρ _ w ?_
        rw [hav, hup]
        refine hR.pure o.dst .un undef (fun k hk => hN ▸ hd k hk) (fun q hq => ?_) rfl
        rcases hq with h1 | ⟨h1, h2⟩
        · exact .inl h1
        · refine .inr ⟨h1, ?_⟩
          rw [hset]
          split
          · rfl
          · exact h2
end
end
end Go.Proofs.YtnaknldbmapolaaGreatDoor
