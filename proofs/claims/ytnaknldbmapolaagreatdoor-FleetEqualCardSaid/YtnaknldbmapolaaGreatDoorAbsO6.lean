/-
  The abstract machine is right: append.
-/
import Derived.Test.YtnaknldbmapolaaGreatDoorAbsO5
namespace Go.Proofs.YtnaknldbmapolaaGreatDoor
open Go Go.RowKit
set_option linter.unusedSimpArgs false
set_option linter.unusedVariables false
theorem run_own3 {P : Program} {w : World} (t tx ty e : TypeId) (i : TypeInfo) (z : Value) (ht : P.underlying t = some (.slice e)) (hi : P.info? e = some i) (hz : i.zero = some z) (hzs : z.cells.size = i.size) (A : Option Addr) (m c : Nat) (olds : List Value)
    (ho : Own 0 w e i.size A m c olds) (x : Value) (n : Nat) (news : List Value) (hs : Src P i.size tx x n news w)
    (hb : (m + n) * i.bytes ≤ 140737488355328) (hm : m + n ≤ 4611686018427387904) :
    ∃ A' c' w', (Builtin.append_ #[t, tx] ty #[.slice A m c, x]).run P w = .ok (.slice A' (m + n) c') w' ∧
      ((n = 0 ∧ A' = A ∧ c' = c ∧ w' = w) ∨
       ∃ g sp, 0 < n ∧ A' = some ⟨g, 0, none⟩ ∧ m + n ≤ c' ∧ Blk w' g e (olds ++ news ++ sp).toArray ∧ sp.length = (c' - (m + n)) * i.size ∧ Keep (fun k => k ≠ g) w w' ∧ (w.heap.size ≤ g ∨ (A = some ⟨g, 0, none⟩ ∧ 0 < c))) := by
  have hnl := hs.newsLen
  rcases Nat.eq_zero_or_pos n with hn | hn
  · subst hn
    obtain rfl : news = [] := List.length_eq_zero_iff.1 (by simpa using hnl)
    refine ⟨A, c, w, ?_, .inl ⟨rfl, rfl, rfl, rfl⟩⟩
    rcases hs.kind with ⟨e', hk⟩ | hk <;> cases A <;> simp [Builtin.append_, run_underlying ht, run_underlying hk, sizeOf, typeInfo, hi, hs.len, ho.1, hs.cells, storeCells]
  by_cases hr : m + n ≤ c
  · obtain ⟨g, sp, rfl, hg, hsp, hB⟩ := ho.2.2.resolve_left (by omega)
    have hlen : (olds ++ sp).length = c * i.size := by
      rw [List.length_append, ho.2.1, hsp, ← Nat.add_mul]
      congr 1
      omega
    have hfit : (m + n) * i.size ≤ c * i.size := Nat.mul_le_mul_right _ hr
    rw [Nat.add_mul] at hfit
    have hol := ho.2.1
    rw [List.length_append] at hlen
    refine ⟨_, c, _, run_append_room_src w t tx ty e i ht hi g 0 m c x n news hs hr (fun j hj => ?_) (fun j hj => hB.frozen _), .inr ⟨g, sp.drop news.length, hn, rfl, hr, ?_, ?_, keep_puts' g _ _ _, .inr ⟨rfl, by omega⟩⟩⟩
    · rw [hB.cell]
      simp
      omega
    · have := blk_puts g e news w olds sp hB (by omega)
      rw [Nat.zero_add, ← ho.2.1, List.append_assoc]
      exact this
    · rw [List.length_drop, hsp, hnl, ← Nat.sub_mul]
      congr 1
      omega
  · have hold : (Builtin.firstCells i.size m (.slice A m c)).run P w.drew = .ok olds.toArray w.drew := by
      cases A with
      | none =>
        rcases ho.2.2 with ⟨h0, hc⟩ | ⟨g, sp, h1, _⟩
        · have h1 := ho.2.1
          subst h0
          obtain rfl : olds = [] := List.length_eq_zero_iff.1 (by simpa using h1)
          exact run_firstCells_none _ _ _ _ _
        · cases h1
      | some a =>
        refine run_firstCells_some _ _ _ _ _ _ _ ho.2.1 (fun j u hu => ?_)
        obtain ⟨hj, rfl⟩ := List.getElem?_eq_some_iff.1 hu
        obtain ⟨b, off, e, _, h3⟩ := ho.drew.cells j hj
        cases e
        rw [Addr.add_lit]
        exact h3
    obtain ⟨A', c', w', h1, h2, h3⟩ := run_grow w.heap.size (Nat.le_refl _) t tx ty e i z ht hi hz hzs A m c olds ho.2.1 hold x n news hs (by omega) hb hm
    obtain ⟨g, sp, e1, e2, e3, e4⟩ := h2.blk (by omega)
    exact ⟨A', c', w', h1, .inr ⟨g, sp, hn, e1, h2.1, e4, e3, Keep.of_below h3 (fun b hb _ => hb), .inl e2⟩⟩
theorem All2.of_get {R : C → Value → Prop} : ∀ {cs : List C} {vs : List Value}, cs.length = vs.length → (∀ (i : Nat) (c : C), cs[i]? = some c → ∃ v, vs[i]? = some v ∧ R c v) → All2 R cs vs
  | [], [], _, _ => .nil
  | [], _ :: _, h, _ => by simp at h
  | _ :: _, [], h, _ => by simp at h
  | c :: cs, v :: vs, h, hg => by
    obtain ⟨v', h1, h2⟩ := hg 0 c (by simp)
    simp at h1
    subst h1
    exact .cons h2 (All2.of_get (by simpa using h) fun i c hc => by simpa using hg (i + 1) c (by simpa using hc))
section
variable {V X : Nat → Prop} {Z : Key → Option Nat} {w0 w w' : World} {N : Nat} {ρ : Key → Hd} {ok ok' : Key → Prop} {lt lt' : Nat → Option AV} {lb lb' lb2 : Key → Option Box} {a : Act} {P : Program} {o : Oper} {e : Eff} {Q : Exit → Act → World → Prop}
/-- Data's rows, cell by cell. -/
theorem rd_cells {S : Nat → Prop} {sz : Nat} {rows : List (List D)} {v : Value} (hz : 0 < sz) (h : Rd S w (.sl sz rows) v) : ∃ A c us, v = .slice A rows.length c ∧ us.length = rows.length * sz ∧ Cells w A us ∧ All2 (CRel S ρ ok w) (rows.flatten.map .d) us ∧ (A = none → rows.length = 0) ∧ (∀ (i : Nat) (row : List D), rows[i]? = some row → row.length = sz) := by
  cases h with
  | @sl _ _ A c b o' cv hc hb hA hl hcell hrd =>
    have hfl := flat_len hl
    have hat : ∀ k, k < rows.length * sz → ∃ row d, rows[k / sz]? = some row ∧ row[k % sz]? = some d ∧ rows.flatten[k]? = some d := by
      intro k hk
      have h1 : k / sz < rows.length := (Nat.div_lt_iff_lt_mul hz).2 hk
      have h2 : k % sz < sz := Nat.mod_lt _ hz
      have h3 : rows[k / sz]? = some rows[k / sz] := List.getElem?_eq_getElem h1
      have h4 := hl _ _ h3
      have h5 : (rows[k / sz])[k % sz]? = some ((rows[k / sz])[k % sz]'(by omega)) := List.getElem?_eq_getElem (by omega)
      refine ⟨_, _, h3, h5, ?_⟩
      have h6 := mk_flat hl h3 h2
      rw [show k / sz * sz + k % sz = k from by rw [Nat.mul_comm]; exact Nat.div_add_mod _ _] at h6
      rw [h6, h5]
    refine ⟨A, c, (List.range (rows.length * sz)).map (fun k => cv (k / sz) (k % sz)), rfl, by simp, fun j hj => ?_, All2.of_get (by rw [List.length_map, hfl, List.length_map, List.length_range]) (fun k cc hk => ?_), fun hn => ?_, hl⟩
    · simp at hj
      obtain ⟨row, d, h1, h2, h3⟩ := hat j hj
      obtain ⟨g1, g2, g3⟩ := hA (ne_nil_of_get h1)
      refine ⟨b, o', g1, g2, ?_⟩
      have := hcell _ _ _ _ h1 h2
      rw [show j / sz * sz + j % sz = j from by rw [Nat.mul_comm]; exact Nat.div_add_mod _ _] at this
      simpa using this
    · have hkl : k < rows.length * sz := by
        rcases Nat.lt_or_ge k (rows.length * sz) with g | g
        · exact g
        · rw [List.getElem?_eq_none (by rw [List.length_map, hfl]; exact g)] at hk; cases hk
      obtain ⟨row, d, h1, h2, h3⟩ := hat k hkl
      rw [List.getElem?_map, h3] at hk
      simp at hk
      subst hk
      exact ⟨cv (k / sz) (k % sz), by simp [hkl], hrd _ _ _ _ h1 h2⟩
    · rcases Nat.eq_zero_or_pos rows.length with g | g
      · exact g
      · have := (hA (by intro e; simp [e] at g)).1
        rw [hn] at this
        cases this
theorem look_sound (h : Rel V X Z w0 N ρ ok lt lb a w) (hb : ∀ t x, lb' t = some x → lb t = some x) {sz : Nat} (hz : 0 < sz) {c : C} {v : Value} {new : List (List D)} (he : lookRows lb' sz c = some new) (hv : CRel (Im V ρ lb) ρ ok w c v) :
    ∃ A cp us, v = .slice A new.length cp ∧ us.length = new.length * sz ∧ Cells w A us ∧ All2 (CRel (Im V ρ lb) ρ ok w) (new.flatten.map .d) us ∧ (A = none → new.length = 0) ∧ (∀ (i : Nat) (row : List D), new[i]? = some row → row.length = sz) := by
  have hnil : ∀ (A : Option Addr) (cp : Nat), ∃ A' cp' us, Value.slice A 0 cp = .slice A' ([] : List (List D)).length cp' ∧ us.length = ([] : List (List D)).length * sz ∧ Cells w A' us ∧ All2 (CRel (Im V ρ lb) ρ ok w) (([] : List (List D)).flatten.map .d) us ∧ (A' = none → ([] : List (List D)).length = 0) ∧ (∀ (i : Nat) (row : List D), ([] : List (List D))[i]? = some row → row.length = sz) :=
    fun A cp => ⟨A, cp, [], rfl, by simp, Cells.nil, .nil, fun _ => rfl, by simp⟩
  cases c with
  | zero => simp [lookRows] at he; subst he; obtain ⟨A, rfl⟩ := hv; exact hnil A 0
  | d d =>
    cases d with
    | v x => simp [lookRows] at he
    | sl s rows =>
      simp only [lookRows] at he
      split at he
      · rename_i hc
        cases he
        simp at hc
        rcases hc with rfl | rfl
        · exact rd_cells hz hv
        · cases hv with | sl => exact hnil _ _
      · cases he
  | own q =>
    simp only [lookRows] at he
    split at he
    · rename_i s rows hq
      split at he
      · rename_i hc
        cases he
        simp at hc
        obtain ⟨_, rfl⟩ := hv
        have hn := rowsOf_sound h hb hq
        rcases hc with rfl | rfl
        · unfold rowsOf at hq
          split at hq
          · rename_i ty sz' rows' hq'
            cases hq
            obtain ⟨n1, n2, n3, n4, n5, n6⟩ := (h.bx q _ (hb _ _ hq')).2
            rw [hn]
            rcases n6 with ⟨_, rfl, _⟩ | ⟨b, vs, sp, g1, g2, g3, g5, g6⟩
            · exact hnil _ _
            · have hvl := g5.length
              rw [List.length_map, flat_len n5] at hvl
              refine ⟨_, _, vs, rfl, hvl.symm, fun j hj => ⟨b, 0, g2, g3.lt, ?_⟩, g5, (fun hA => by rw [g2] at hA; cases hA), n5⟩
              rw [g3.cell]
              simp [List.getElem?_append_left hj]
          · rename_i sz' rows' hq'
            cases hq
            exact rd_cells hz (h.bx q _ (hb _ _ hq')).2
          · cases hq
        · rw [hn]; exact hnil _ _
      · cases he
    · cases he
  | ptr => simp [lookRows] at he
  | eptr => simp [lookRows] at he
  | rptr => simp [lookRows] at he
  | arr => simp [lookRows] at he
  | mp => simp [lookRows] at he
  | fn => simp [lookRows] at he
  | dead => simp [lookRows] at he
/-- An own slice is used up; another one takes its place. -/
theorem Rel.app (h : Rel V X Z w0 N ρ ok lt lb a w) (d : Option Nat) (av : AV) (v : Value) (hd : ∀ k, d = some k → k < N) (k q : Key) (hk : ¬ ok k) {box0 : Box} (hq : lb q = some box0) (l0 : box0.live = true) (hd' : Hd) (box : Box) (hk' : ok' k) (ho : ∀ q : Key, ok q → ok' q)
    (hg : ∀ b, hd'.g = some b → b < w'.heap.size ∧ (w.heap.size ≤ b ∨ (ρ q).g = some b))
    (hw : Keep (fun b => hd'.g ≠ some b) w w')
    (hv : AVRel (CRel (Im V (updR ρ k hd') (updB lb [(k, some box), (q, none)])) (updR ρ k hd') ok' w') av v)
    (hB : (∀ b, b < w.heap.size → Im V ρ lb b → Im V (updR ρ k hd') (updB lb [(k, some box), (q, none)]) b) → Keep (Im V (updR ρ k hd') (updB lb [(k, some box), (q, none)])) w w' → BoxRel (Im V (updR ρ k hd') (updB lb [(k, some box), (q, none)])) (updR ρ k hd') ok' w' k box) (hl : box.live = true) :
    Rel V X Z w0 N (updR ρ k hd') ok' (updT lt d av) (updB lb [(k, some box), (q, none)]) (a.put d v) w' := by
  have hbb : ∀ q' : Key, updB lb [(k, some box), (q, none)] q' = if q' = k then some box else if q' = q then none else lb q' := fun q' => by
    rw [updB_cons, updB_one, updB_one]
  have hqk : q ≠ k := fun e => hk (e ▸ (h.bx q _ hq).1)
  have hs : ∀ b, b < w.heap.size → Im V ρ lb b → Im V (updR ρ k hd') (updB lb [(k, some box), (q, none)]) b := by
    intro b hb hi
    refine ⟨hi.1, fun q' box' hq' hl' => ?_⟩
    rw [hbb] at hq'
    unfold updR
    by_cases e : q' = k
    · rw [if_pos e]
      intro hh
      rcases (hg b hh).2 with h1 | h1
      · omega
      · exact hi.2 q box0 hq l0 h1
    · rw [if_neg e] at hq' ⊢
      by_cases e2 : q' = q
      · rw [if_pos e2] at hq'; cases hq'
      · rw [if_neg e2] at hq'
        exact hi.2 q' box' hq' hl'
  have hkk : Keep (Im V (updR ρ k hd') (updB lb [(k, some box), (q, none)])) w w' := hw.mono fun b _ hi hh => hi.2 k box (by rw [hbb, if_pos rfl]) hl (by rw [updR_same]; exact hh)
  refine h.step d av v hd hkk hs (updR_old hk _) ho hv (fun q' box' hq' => ?_) (fun q1 b1 q2 b2 b e1 l1 e2 l2 g1 g2 => ?_) (fun q' box' b hq' hl' hgb => ?_) ?_
  · rw [hbb] at hq'
    by_cases e : q' = k
    · subst e
      rw [if_pos rfl] at hq'
      cases hq'
      exact .inr ⟨hk', hB hs hkk⟩
    · rw [if_neg e] at hq'
      by_cases e2 : q' = q
      · rw [if_pos e2] at hq'; cases hq'
      · rw [if_neg e2] at hq'
        refine .inl ⟨hq', fun hl' b hb => hw.block b (h.lo q' box' b hq' hl' hb).1 (fun hh => ?_)⟩
        have h1 := (h.lo q' box' b hq' hl' hb).1
        rcases (hg b hh).2 with h2 | h2
        · omega
        · exact e2 (h.ap q' box' q box0 b hq' hl' hq l0 hb h2)
  · have key : ∀ q1 b1 q2 b2, updB lb [(k, some box), (q, none)] q1 = some b1 → b1.live = true → updB lb [(k, some box), (q, none)] q2 = some b2 → b2.live = true → (updR ρ k hd' q1).g = some b → (updR ρ k hd' q2).g = some b → q1 = k → q2 = k := by
      intro q1 b1 q2 b2 e1 l1 e2 l2 g1 g2 c1
      by_cases c2 : q2 = k
      · exact c2
      · exfalso
        rw [hbb, if_neg c2] at e2
        by_cases c3 : q2 = q
        · rw [if_pos c3] at e2; cases e2
        · rw [if_neg c3] at e2
          unfold updR at g1 g2
          rw [if_pos c1] at g1
          rw [if_neg c2] at g2
          have h1 := (h.lo q2 b2 b e2 l2 g2).1
          rcases (hg b g1).2 with h2 | h2
          · omega
          · exact c3 (h.ap q2 b2 q box0 b e2 l2 hq l0 g2 h2)
    by_cases c1 : q1 = k
    · rw [c1, key q1 b1 q2 b2 e1 l1 e2 l2 g1 g2 c1]
    · by_cases c2 : q2 = k
      · exact absurd (key q2 b2 q1 b1 e2 l2 e1 l1 g2 g1 c2) c1
      · rw [hbb, if_neg c1] at e1
        rw [hbb, if_neg c2] at e2
        by_cases c3 : q1 = q
        · rw [if_pos c3] at e1; cases e1
        · by_cases c4 : q2 = q
          · rw [if_pos c4] at e2; cases e2
          · rw [if_neg c3] at e1
            rw [if_neg c4] at e2
            unfold updR at g1 g2
            rw [if_neg c1] at g1
            rw [if_neg c2] at g2
            exact h.ap q1 b1 q2 b2 b e1 l1 e2 l2 g1 g2
  · rw [hbb] at hq'
    unfold updR at hgb
    by_cases e : q' = k
    · rw [if_pos e] at hgb
      have h1 := hg b hgb
      refine ⟨h1.1, ?_⟩
      rcases h1.2 with h2 | h2
      · exact .inl (Nat.le_trans h.fr.size h2)
      · exact (h.lo q box0 b hq l0 h2).2
    · rw [if_neg e] at hq' hgb
      by_cases e2 : q' = q
      · rw [if_pos e2] at hq'; cases hq'
      · rw [if_neg e2] at hq'
        have := h.lo q' box' b hq' hl' hgb
        exact ⟨Nat.lt_of_lt_of_le this.1 hw.size, this.2⟩
  · refine Keep.out h (hw.mono fun b hb hi hh => ?_)
    rcases (hg b hh).2 with h2 | h2
    · omega
    · exact hi q box0 hq l0 h2
theorem effAppend_sound (h : Rel V X Z w0 N ρ ok lt lb a w) (ho : ∀ q : Key, ok q → ok' q) (hd : ∀ k, o.dst = some k → k < N) (hl : ∀ t x, lt' t = some x → lt t = some x) (hb : ∀ t x, lb' t = some x → lb t = some x) {key : Nat → Key} (hk : ¬ ok (key 0)) (hk' : ok' (key 0))
    {t tx : TypeId} {s x : Operand} (hop : o.op = .call { callee := .builtin .append, args := #[s, x], argTypes := #[t, tx] }) (he : effAppend P key t tx s x lt' lb' = some e) : o.wp P a w (Aft V X Z w0 N ok' lt lb o.dst e) Q := by
  unfold effAppend at he
  split at he
  · rename_i el el2 cs cx hu hux hcs hcx
    split at he
    · rename_i ie hie
      split at he
      · rename_i z hz
        split at he
        · rename_i hc
          split at he
          · rename_i new hnew
            obtain ⟨avs, es1, es2⟩ := Option.bind_eq_some_iff.1 hcs
            obtain ⟨avx, ex1, ex2⟩ := Option.bind_eq_some_iff.1 hcx
            have hvs := slot1_sound es2 (ev_sound h hl es1)
            have hvx := slot1_sound ex2 (ev_sound h hl ex1)
            obtain ⟨Ax, cpx, us, x1, x2, x3, x4, x5, x6⟩ := look_sound h hb hc.2 hnew hvx
            have hsrc : Src P ie.size tx (.slice Ax new.length cpx) new.length us w := src_cells hux x3 x2 x5 x4.ones
            have fin : ∀ (A : Option Addr) (m c : Nat) (rows : List (List D)) (olds : List Value) (lbq : Option (Key × Box)), a.eval s = .slice A m c → m = rows.length → Own 0 w el ie.size A m c olds → All2 (CRel (Im V ρ lb) ρ ok w) (rows.flatten.map .d) olds →
                (∀ (i : Nat) (row : List D), rows[i]? = some row → row.length = ie.size) → (rows.length + new.length) * ie.bytes ≤ 140737488355328 → rows.length + new.length ≤ 4611686018427387904 →
                (match lbq with
                  | none => m = 0 ∧ c = 0
                  | some (q, b0) => lb q = some b0 ∧ b0.live = true ∧ (ρ q).A = A ∧ (ρ q).n = m ∧ (ρ q).cap = c ∧ (ρ q).sz = ie.size ∧ ((ρ q).g = none ∧ rows = [] ∧ c = 0 ∨ ∃ b sp, (ρ q).g = some b ∧ A = some ⟨b, 0, none⟩ ∧ Blk w b el (olds ++ sp).toArray ∧ sp.length = (c - m) * ie.size)) →
                e = { av := .one false [.own (key 0)], up := (key 0, some (.sl el ie.size (rows ++ new))) :: (match lbq with | none => [] | some (q, _) => [(q, none)]) } → o.wp P a w (Aft V X Z w0 N ok' lt lb o.dst e) Q := by
              intro A m c rows olds lbq hsv hm hOwn hold hrl hb1 hb2 hlbq hee
              subst hm
              obtain ⟨A', c', w', hrun, hres⟩ := run_own3 (P := P) t tx o.type el ie z hu hie hz hc.1 A rows.length c olds hOwn (.slice Ax new.length cpx) new.length us hsrc hb1 hb2
              have hrows' : ∀ (i : Nat) (row : List D), (rows ++ new)[i]? = some row → row.length = ie.size := by
                intro i row hi
                rw [List.getElem?_append] at hi
                split at hi
                · exact hrl _ _ hi
                · exact x6 _ _ hi
              have hopr : (execOp a.eval o).run P w = .ok (.value (.slice A' (rows.length + new.length) c')) w' := by
                simp [execOp, hop, resolve, invoke, builtin, hsv, x1, hrun]
              have hflat : (rows ++ new).flatten.map C.d = rows.flatten.map C.d ++ new.flatten.map C.d := by simp
              have hall : All2 (CRel (Im V ρ lb) ρ ok w) ((rows ++ new).flatten.map C.d) (olds ++ us) := by rw [hflat]; exact hold.append x4
              subst hee
              cases lbq with
              | none =>
                obtain ⟨hm0, rfl⟩ := hlbq
                have hr0 : rows = [] := List.length_eq_zero_iff.1 hm0
                subst hr0
                rcases hres with ⟨hn0, rfl, rfl, rfl⟩ | ⟨g, sp, hn, rfl, hcap, hB, hsp, hw, hloc⟩
                · have hnn : new = [] := List.length_eq_zero_iff.1 hn0
                  subst hnn
                  refine wp_val hopr ⟨_, h.new (hd' := ⟨A', none, 0, 0, ie.size⟩) o.dst _ _ hd (key 0) hk _ (fun b hb => by cases hb) hk' ho (Keep.refl _ _) (one1 ⟨hk', by rw [updR_same]; simp⟩) ?_⟩
                  simp only [BoxRel]
                  rw [updR_same]
                  exact ⟨by simp, rfl, by simp, by simp, by simp, .inl ⟨rfl, by simp, rfl⟩⟩
                · have hgn : w.heap.size ≤ g := by
                    rcases hloc with h1 | h1
                    · exact h1
                    · omega
                  have hwb : Keep (fun b => b < w.heap.size) w w' := hw.mono fun b hb hb2 e => by omega
                  refine wp_val hopr ⟨_, h.new (hd' := ⟨some ⟨g, 0, none⟩, some g, ([] : List (List D)).length + new.length, c', ie.size⟩) o.dst _ _ hd (key 0) hk _ (fun b hb => by cases hb; exact ⟨hgn, hB.lt⟩) hk' ho hwb (one1 ⟨hk', by rw [updR_same]⟩) ?_⟩
                  simp only [BoxRel]
                  rw [updR_same]
                  refine ⟨by simp, rfl, by simpa using hcap, by simpa using hb2, hrows', .inr ⟨g, olds ++ us, sp, rfl, rfl, hB, ?_, by simpa using hsp⟩⟩
                  exact hall.imp fun cc v _ hcc => hcc.keep (hwb.mono fun b hb _ => hb) (im_new h hk (fun b hb => by cases hb; exact hgn)) (updR_old hk _) ho
              | some p =>
                obtain ⟨q, b0⟩ := p
                obtain ⟨hq, hl0, r1, r2, r3, r4, r5⟩ := hlbq
                rcases hres with ⟨hn0, rfl, rfl, rfl⟩ | ⟨g, sp, hn, rfl, hcap, hB, hsp, hw, hloc⟩
                · have hnn : new = [] := List.length_eq_zero_iff.1 hn0
                  subst hnn
                  refine wp_val hopr ⟨_, h.app (hd' := ⟨A', (ρ q).g, rows.length, c', ie.size⟩) o.dst _ _ hd (key 0) q hk hq hl0 _ hk' ho (fun b hb => ⟨(h.lo q b0 b hq hl0 hb).1, .inr hb⟩) (Keep.refl _ _) (one1 ⟨hk', by rw [updR_same]; simp⟩) (fun hs hkk => ?_) rfl⟩
                  simp only [BoxRel]
                  rw [updR_same]
                  rcases r5 with ⟨y1, rfl, rfl⟩ | ⟨b, sp, y1, y2, y3, y4⟩
                  · exact ⟨by simp, rfl, by simp, by simp, by simp, .inl ⟨y1, by simp, rfl⟩⟩
                  · refine ⟨by simp, rfl, by simpa using hOwn.1, by simpa using hb2, by simpa using hrl, .inr ⟨b, olds, sp, y1, y2, y3, ?_, by simpa using y4⟩⟩
                    rw [show (rows ++ ([] : List (List D))).flatten = rows.flatten by simp]
                    exact hold.imp fun cc v _ hcc => hcc.keep hkk hs (updR_old hk _) ho
                · have hgl : w.heap.size ≤ g ∨ (ρ q).g = some g := by
                    rcases hloc with h1 | ⟨h1, h2⟩
                    · exact .inl h1
                    · rcases r5 with ⟨y1, y2, y3⟩ | ⟨b, sp', y1, y2, y3, y4⟩
                      · omega
                      · rw [h1] at y2; cases y2; exact .inr y1
                  refine wp_val hopr ⟨_, h.app (hd' := ⟨some ⟨g, 0, none⟩, some g, rows.length + new.length, c', ie.size⟩) o.dst _ _ hd (key 0) q hk hq hl0 _ hk' ho (fun b hb => by cases hb; exact ⟨hB.lt, hgl⟩) (hw.mono fun b _ hb e => hb (by rw [e])) (one1 ⟨hk', by rw [updR_same]⟩) (fun hs hkk => ?_) rfl⟩
                  simp only [BoxRel]
                  rw [updR_same]
                  refine ⟨by simp, rfl, by simpa using hcap, by simpa using hb2, hrows', .inr ⟨g, olds ++ us, sp, rfl, rfl, hB, ?_, by simpa using hsp⟩⟩
                  exact hall.imp fun cc v _ hcc => hcc.keep hkk hs (updR_old hk _) ho
            split at he
            · split at he
              · rename_i hcc
                obtain ⟨A, hA⟩ := hvs
                exact fin A 0 0 [] [] none hA rfl (Own.nil _ _ _ _ _) .nil (by simp) (by simpa using hcc.1) (by simpa using hcc.2) ⟨rfl, rfl⟩ (by cases he; simp)
              · cases he
            · rename_i q
              split at he
              · rename_i e' sz rows hq
                split at he
                · rename_i hcc
                  obtain ⟨rfl, rfl, c1, c2⟩ := hcc
                  obtain ⟨n1, n2, n3, n4, n5, n6⟩ := (h.bx q _ (hb _ _ hq)).2
                  obtain ⟨hok, hsv⟩ := hvs
                  rw [n1] at hsv
                  rcases n6 with ⟨y1, rfl, y3⟩ | ⟨b, vs, sp, y1, y2, y3, y4, y5⟩
                  · exact fin (ρ q).A 0 (ρ q).cap [] [] (some (q, .sl e' ie.size [])) hsv rfl (by rw [y3]; exact Own.nil _ _ _ _ _) .nil (by simp) c1 c2 ⟨hb _ _ hq, rfl, rfl, n1, rfl, n2, .inl ⟨y1, rfl, y3⟩⟩ (by cases he; rfl)
                  · have hvl := y4.length
                    rw [List.length_map, flat_len n5] at hvl
                    exact fin (ρ q).A rows.length (ρ q).cap rows vs (some (q, .sl e' ie.size rows)) hsv rfl ⟨n3, hvl.symm, .inr ⟨b, sp, y2, Nat.zero_le _, y5, y3⟩⟩ y4 n5 c1 c2 ⟨hb _ _ hq, rfl, rfl, n1, rfl, n2, .inr ⟨b, sp, y1, y2, y3, y5⟩⟩ (by cases he; rfl)
                · cases he
              · cases he
            · cases he
          · cases he
        · cases he
      · cases he
    · cases he
  · cases he
end
end Go.Proofs.YtnaknldbmapolaaGreatDoor
