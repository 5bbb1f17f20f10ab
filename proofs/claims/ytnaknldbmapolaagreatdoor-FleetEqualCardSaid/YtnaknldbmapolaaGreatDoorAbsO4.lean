/-
  The abstract machine is right: slice literals, make, slices of slices, stores.
-/
import Derived.Test.YtnaknldbmapolaaGreatDoorAbsO3
namespace Go.Proofs.YtnaknldbmapolaaGreatDoor
open Go Go.RowKit
set_option linter.unusedSimpArgs false
set_option linter.unusedVariables false
theorem zeros_flat (z : Array Value) (n : Nat) (hz : 0 < z.size) : ((Array.range (n * z.size)).map (z[· % z.size]!)).toList = (List.replicate n z.toList).flatten := by
  apply List.ext_getElem?
  intro i
  by_cases hi : i < n * z.size
  · have h1 : i / z.size < n := (Nat.div_lt_iff_lt_mul hz).2 hi
    have h2 : i % z.size < z.size := Nat.mod_lt _ hz
    have h3 := mk_flat (sz := z.size) (rows := List.replicate n z.toList) (fun k row hk => by
      have := List.mem_of_getElem? hk
      rw [List.eq_of_mem_replicate this]
      simp) (i := i / z.size) (j := i % z.size) (row := z.toList) (by rw [List.getElem?_replicate]; simp [h1]) h2
    rw [show i / z.size * z.size + i % z.size = i from by rw [Nat.mul_comm]; exact Nat.div_add_mod _ _] at h3
    rw [h3]
    simp [Array.getElem?_range, hi, h2, getElem!_pos]
  · have h1 : (List.replicate n z.toList).flatten.length = n * z.size := by simp
    rw [List.getElem?_eq_none (by simp; omega), List.getElem?_eq_none (by omega)]
section
variable {V X : Nat → Prop} {Z : Key → Option Nat} {w0 w w' : World} {N : Nat} {ρ : Key → Hd} {ok ok' : Key → Prop} {lt lt' : Nat → Option AV} {lb lb' lb2 : Key → Option Box} {a : Act} {P : Program} {o : Oper} {e : Eff} {Q : Exit → Act → World → Prop}
theorem Rel.newSl (h : Rel V X Z w0 N ρ ok lt lb a w) {k : Key} (hk : ¬ ok k) (hk' : ok' k) (ho : ∀ q : Key, ok q → ok' q) (el : TypeId) (sz : Nat) {rows : List (List D)} {vs : List Value} (hr : ∀ (i : Nat) (row : List D), rows[i]? = some row → row.length = sz) (hb : rows.length ≤ 4611686018427387904)
    (hA : All2 (CRel (Im V ρ lb) ρ ok w) (rows.flatten.map .d) vs) (d : Option Nat) (hd : ∀ k, d = some k → k < N) :
    ∃ ρ', Rel V X Z w0 N ρ' ok' (updT lt d (.one false [.own k])) (updB lb [(k, some (.sl el sz rows))]) (a.put d (.slice (some ⟨w.heap.size, 0, none⟩) rows.length rows.length)) (w.alloc (.cells vs.toArray el)) := by
  refine ⟨updR ρ k ⟨some ⟨w.heap.size, 0, none⟩, some w.heap.size, rows.length, rows.length, sz⟩, h.new d _ _ hd k hk _ _ (fun b hb => by cases hb; simp) hk' ho (Keep.alloc _ _ _) (one1 ⟨hk', by rw [updR_same]⟩) ?_⟩
  simp only [BoxRel]
  rw [updR_same]
  refine ⟨rfl, rfl, Nat.le_refl _, hb, hr, .inr ⟨w.heap.size, vs, [], rfl, rfl, by rw [List.append_nil]; exact Blk.new _ _ _, ?_, by simp⟩⟩
  exact hA.imp fun c v _ hc => hc.keep (Keep.alloc _ _ _) (im_new h hk (fun b hb => by cases hb; exact Nat.le_refl _)) (updR_old hk _) ho
theorem All2.rep {R : C → Value → Prop} {zs : List C} {us : List Value} (h : All2 R zs us) : ∀ n, All2 R (List.replicate n zs).flatten (List.replicate n us).flatten
  | 0 => .nil
  | n + 1 => by rw [List.replicate_succ, List.replicate_succ, List.flatten_cons, List.flatten_cons]; exact h.append (All2.rep h n)
theorem effBuildSlice_sound (h : Rel V X Z w0 N ρ ok lt lb a w) (ho : ∀ q : Key, ok q → ok' q) (hd : ∀ k, o.dst = some k → k < N) (hl : ∀ t x, lt' t = some x → lt t = some x) (hb : ∀ t x, lb' t = some x → lb t = some x) {cur : Nat} {key : Nat → Key} (hk : ¬ ok (key 0)) (hk' : ok' (key 0))
    {t : TypeId} {len : Nat} {parts : Array (Nat × Operand)} (hop : o.op = .buildSlice t len parts) (he : effBuildSlice P cur key t len parts.toList lt' lb' = some e) (hn : e.needs = []) : o.wp P a w (Aft V X Z w0 N ok' lt lb o.dst e) Q := by
  unfold effBuildSlice at he
  split at he
  · rename_i el hu
    split at he
    · rename_i ie hie
      split at he
      · rename_i z hz
        split at he
        · rename_i hc
          split at he
          · rename_i zs ps hm hp
            split at he
            · rename_i cs hf
              split at he
              · rename_i ds ks hds
                cases he
                have hzs : All2 (CRel (Im V ρ lb) ρ ok w) zs z.cells.toList := cellCs_sound hm
                have hpr := evParts_sound h hl hp
                obtain ⟨vs, h1, h2⟩ := afill_sound _ hpr hf (hzs.rep len)
                have hA := toDs_shut h hb hds hn h2
                have hR := h.shut (shut_Shut (lb := lb) hb cur ks)
                have hlen : ds.length = len * ie.size := by
                  rw [toDs_len hds, h2.length]
                  have h3 : ∀ {place : Nat → Option (Nat × Nat)} {vps : List (Nat × Value)} {c1 c2 : Array Value}, Instr.fill place c1 vps = some c2 → c2.size = c1.size := by
                    intro place vps
                    induction vps with
                    | nil => intro c1 c2 hh; simp [Instr.fill] at hh; rw [hh]
                    | cons p r ih =>
                      intro c1 c2 hh
                      obtain ⟨i, v⟩ := p
                      unfold Instr.fill at hh
                      split at hh
                      · cases hh
                      · split at hh
                        · cases hh
                        · rw [ih hh]
                          have : ∀ (l : List (Value × Nat)) (c : Array Value) (off : Nat), (l.foldl (fun (cs : Array Value) (x : Value × Nat) => cs.setIfInBounds (off + x.2) x.1) c).size = c.size := by
                            intro l
                            induction l with
                            | nil => intro c off; rfl
                            | cons y l ih2 => intro c off; rw [List.foldl_cons, ih2]; simp
                          rename_i off _ _ _
                          have h4 := this v.cells.zipIdx.toList c1 off
                          rw [← h4, ← Array.foldl_toList]
                  have := h3 h1
                  simp [hc.2.1] at this
                  simpa using this
                have e1 : updB lb ((key 0, some (.sl el ie.size (chunks ie.size len ds))) :: shut cur lb' ks) = updB (updB lb (shut cur lb' ks)) [(key 0, some (.sl el ie.size (chunks ie.size len ds)))] := updB_cons _ _ _ _
                obtain ⟨ρ', hfin⟩ := hR.newSl (el := el) (sz := ie.size) hk hk' ho (chunks_row ie.size len ds hlen) (by rw [chunks_len]; have := Nat.le_mul_of_pos_right len hc.2.2; omega) (by rw [chunks_flat ie.size len ds hlen]; exact hA) o.dst hd
                rw [chunks_len] at hfin
                refine wp_val (v := .slice (some ⟨w.heap.size, 0, none⟩) len len) (w' := w.alloc (.cells vs.toArray el)) ?_ ⟨ρ', by rw [e1]; exact hfin⟩
                have hfill : Instr.fill (fun i => some (i * ie.size, ie.size)) ((Array.range (len * ie.size)).map (z.cells[· % z.cells.size]!)) (parts.map fun (i, x) => (i, a.eval x)).toList = some vs.toArray := by
                  have := congrArg List.toArray (zeros_flat z.cells len (by omega))
                  rw [Array.toArray_toList, hc.2.1] at this
                  rw [hc.2.1, this, Array.toList_map]
                  exact h1
                by_cases h0 : len * ie.size = 0
                · have hl0 : len = 0 := by rcases Nat.mul_eq_zero.1 h0 with h | h <;> omega
                  subst hl0
                  have e4 : ((Array.range (0 * ie.size)).map (z.cells[· % z.cells.size]!)) = #[] := by apply Array.ext <;> simp
                  rw [e4, Array.toList_map] at hfill
                  have e5 : ∀ f : Nat → Value, Array.map f (Array.range 0) = #[] := fun f => by apply Array.ext <;> simp
                  simp [execOp, hop, Instr.buildSlice, run_underlying hu, sizeOf, typeInfo, hie, newRow]
                  simp only [e5]
                  simp at hfill
                  simp [hfill, newObj, Sem.run]
                · have := run_buildSlice (P := P) w t el len (parts.map fun (i, x) => (i, a.eval x)) vs.toArray ie z hu hie hz (by omega) h0 hfill
                  simp [execOp, hop, this]
              · cases he
            · cases he
          · cases he
        · cases he
      · cases he
    · cases he
  · cases he
theorem wrap_nat {n : Int} (h0 : 0 ≤ n) (h1 : n ≤ 4611686018427387904) : IntKind.i64.wrap n = n := by
  exact IntWalk.i64_in n ⟨by omega, by omega⟩
theorem Rel.newSlCap (h : Rel V X Z w0 N ρ ok lt lb a w) {k : Key} (hk : ¬ ok k) (hk' : ok' k) (ho : ∀ q : Key, ok q → ok' q) (el : TypeId) (sz cap : Nat) {rows : List (List D)} {vs sp : List Value} (hr : ∀ (i : Nat) (row : List D), rows[i]? = some row → row.length = sz) (hb : rows.length ≤ 4611686018427387904) (hcap : rows.length ≤ cap) (hsp : sp.length = (cap - rows.length) * sz)
    (hA : All2 (CRel (Im V ρ lb) ρ ok w) (rows.flatten.map .d) vs) (d : Option Nat) (hd : ∀ k, d = some k → k < N) :
    ∃ ρ', Rel V X Z w0 N ρ' ok' (updT lt d (.one false [.own k])) (updB lb [(k, some (.sl el sz rows))]) (a.put d (.slice (some ⟨w.heap.size, 0, none⟩) rows.length cap)) (w.alloc (.cells (vs ++ sp).toArray el)) := by
  refine ⟨updR ρ k ⟨some ⟨w.heap.size, 0, none⟩, some w.heap.size, rows.length, cap, sz⟩, h.new d _ _ hd k hk _ _ (fun b hb => by cases hb; simp) hk' ho (Keep.alloc _ _ _) (one1 ⟨hk', by rw [updR_same]⟩) ?_⟩
  simp only [BoxRel]
  rw [updR_same]
  refine ⟨rfl, rfl, hcap, hb, hr, .inr ⟨w.heap.size, vs, sp, rfl, rfl, Blk.new _ _ _, ?_, hsp⟩⟩
  exact hA.imp fun c v _ hc => hc.keep (Keep.alloc _ _ _) (im_new h hk (fun b hb => by cases hb; exact Nat.le_refl _)) (updR_old hk _) ho
theorem Rel.newArr (h : Rel V X Z w0 N ρ ok lt lb a w) {k : Key} (hk : ¬ ok k) (hk' : ok' k) (ho : ∀ q : Key, ok q → ok' q) (ty : TypeId) (n z : Nat) {cs : List C} {vs : List Value} (hA : All2 (CRel (Im V ρ lb) ρ ok w) cs vs) (d : Option Nat) (hd : ∀ k, d = some k → k < N) :
    ∃ ρ', Rel V X Z w0 N ρ' ok' (updT lt d (.one false [.arr k n z])) (updB lb [(k, some (.st ty cs))]) (a.put d (.slice (some ⟨w.heap.size, 0, none⟩) n n)) (w.alloc (.cells vs.toArray ty)) := by
  refine ⟨updR ρ k ⟨none, some w.heap.size, 0, 0, 0⟩, h.new d _ _ hd k hk _ _ (fun b hb => by cases hb; simp) hk' ho (Keep.alloc _ _ _) (one1 ⟨hk', w.heap.size, by rw [updR_same], rfl⟩) ⟨w.heap.size, vs, by rw [updR_same], Blk.new _ _ _, ?_⟩⟩
  exact hA.imp fun c v _ hc => hc.keep (Keep.alloc _ _ _) (im_new h hk (fun b hb => by cases hb; exact Nat.le_refl _)) (updR_old hk _) ho
theorem repl_split {α : Type} (l : List α) {n m : Nat} (h : n ≤ m) : (List.replicate m l).flatten = (List.replicate n l).flatten ++ (List.replicate (m - n) l).flatten := by
  rw [← List.flatten_append, List.replicate_append_replicate]
  congr 2
  omega
theorem repl_len {α : Type} (l : List α) (n : Nat) : (List.replicate n l).flatten.length = n * l.length := by
  induction n with
  | zero => simp
  | succ n ih => rw [List.replicate_succ, List.flatten_cons, List.length_append, ih, Nat.succ_mul]; omega
theorem effMakeSlice_sound (h : Rel V X Z w0 N ρ ok lt lb a w) (ho : ∀ q : Key, ok q → ok' q) (hd : ∀ k, o.dst = some k → k < N) (hl : ∀ t x, lt' t = some x → lt t = some x) {key : Nat → Key} (hk : ¬ ok (key 0)) (hk' : ok' (key 0))
    {t : TypeId} {l c : Operand} (hop : o.op = .makeSlice t l c) (he : effMakeSlice P key t l c lt' = some e) : o.wp P a w (Aft V X Z w0 N ok' lt lb o.dst e) Q := by
  unfold effMakeSlice at he
  split at he
  · rename_i el n m hu hn hm
    split at he
    · rename_i ie hie
      split at he
      · rename_i z hz
        split at he
        · rename_i hc
          obtain ⟨cnm, c0, c1, c2, c3, c4⟩ := hc
          obtain ⟨k1, hl1⟩ := intV_sound h hl hn
          obtain ⟨k2, hl2⟩ := intV_sound h hl hm
          have hrun : (execOp a.eval o).run P w = .ok (.value (.slice (some ⟨w.heap.size, 0, none⟩) n.toNat m.toNat)) (w.alloc (.cells (List.replicate m.toNat z.cells.toList).flatten.toArray el)) := by
            have hw := wrap_nat (n := n) c0 (by omega)
            have hw2 := wrap_nat (n := m) (by omega) c2
            have hz2 := zeros_flat z.cells m.toNat (by omega)
            have hz3 := congrArg List.toArray hz2
            rw [Array.toArray_toList] at hz3
            rw [c3] at hz3
            have hb0 : ¬ (n < 0) := by omega
            have hb1 : ¬ (m < 0) := by omega
            have hb3 : ¬ (m < n) := by omega
            have hb2 : ¬ ((281474976710656 : Int) < (ie.bytes : Int) * m) := by rw [Int.mul_comm]; omega
            have ask : ∀ b, (askRoom b).run P w = .ok () w := fun b => by unfold askRoom; split <;> simp [mark, Sem.run]
            by_cases h0 : m.toNat * ie.size = 0
            · have hn0 : m.toNat = 0 := by rcases Nat.mul_eq_zero.1 h0 with h | h <;> omega
              have e5 : ∀ f : Nat → Value, Array.map f (Array.range 0) = #[] := fun f => by apply Array.ext <;> simp
              simp [execOp, hop, Instr.makeSlice, run_underlying hu, asInt, asIntOf, hl1, hl2, typeInfo, sizeOf, hie, hw, hw2, hb0, hb1, hb2, hb3, ask, newRow, h0, hn0]
              simp only [e5]
            · simp [execOp, hop, Instr.makeSlice, run_underlying hu, asInt, asIntOf, hl1, hl2, typeInfo, sizeOf, hie, hw, hw2, hb0, hb1, hb2, hb3, ask, newRow, h0, zeroValue, hz]
              rw [c3, hz3]
          split at he
          · split at he
            · rename_i zs hzs
              split at he
              · rename_i hnm
                cases he
                obtain ⟨_, rfl⟩ := hnm
                have hA0 : All2 (CRel (Im V ρ lb) ρ ok w) zs z.cells.toList := cellCs_sound hzs
                obtain ⟨ρ', hfin⟩ := h.newArr hk hk' ho el n.toNat ie.size (hA0.rep n.toNat) o.dst hd
                exact wp_val hrun ⟨ρ', hfin⟩
              · cases he
            · cases he
          · split at he
            · rename_i row ks hrow
              cases he
              obtain ⟨zs, hzs, hds⟩ := Option.bind_eq_some_iff.1 hrow
              have hA0 : All2 (CRel (Im V ρ lb) ρ ok w) zs z.cells.toList := cellCs_sound hzs
              have hA : All2 (CRel (Im V ρ lb) ρ ok w) (row.map .d) z.cells.toList := toDs_sound h (lb' := fun _ => none) (fun _ _ h => by cases h) (fun b _ hi => hi) hds (fun q box b _ hq => by cases hq) hA0
              have hrl : row.length = ie.size := by rw [toDs_len hds, hA0.length]; simp [c3]
              have hzl : z.cells.toList.length = ie.size := by simpa using c3
              rw [repl_split _ (show n.toNat ≤ m.toNat by omega)] at hrun
              obtain ⟨ρ', hfin⟩ := h.newSlCap (el := el) (sz := ie.size) (cap := m.toNat) (rows := List.replicate n.toNat row) (vs := (List.replicate n.toNat z.cells.toList).flatten) (sp := (List.replicate (m.toNat - n.toNat) z.cells.toList).flatten) hk hk' ho (fun i r hi => by rw [List.eq_of_mem_replicate (List.mem_of_getElem? hi)]; exact hrl) (by simp; omega) (by simp; omega) (by rw [repl_len, hzl, List.length_replicate])
                (by
                  have : (List.replicate n.toNat row).flatten.map C.d = (List.replicate n.toNat (row.map C.d)).flatten := by rw [List.map_flatten, List.map_replicate]
                  rw [this]
                  exact hA.rep _) o.dst hd
              rw [List.length_replicate] at hfin
              exact wp_val hrun ⟨ρ', hfin⟩
            · cases he
        · cases he
      · cases he
    · cases he
  · cases he
theorem effSlice_sound (h : Rel V X Z w0 N ρ ok lt lb a w) (ho : ∀ q : Key, ok q → ok' q) (hd : ∀ k, o.dst = some k → k < N) (hl : ∀ t x, lt' t = some x → lt t = some x)
    {t : TypeId} {x : Operand} {lo hi mx : Option Operand} (hop : o.op = .slice t x lo hi mx) (he : effSlice P t x lo hi mx o lt' lb' = some e) : o.wp P a w (Aft V X Z w0 N ok' lt lb o.dst e) Q := by
  unfold effSlice at he
  split at he
  · rename_i el hu
    split at he
    · rename_i _ sz rows hx
      split at he
      · rename_i l hh hlo hhi
        split at he
        · rename_i hc
          cases he
          obtain ⟨c1, c2, c3, c4⟩ := hc
          cases h1 : ev lt' x with
          | none => simp [h1] at hx
          | some av =>
            simp [h1] at hx
            have hv := slot1_sound hx (ev_sound h hl h1)
            generalize hvx : a.eval x = vx at hv
            cases hv with
            | @sl _ _ A c b o' cv hcc hbb hA hrl hcell hrd =>
              have hlow : ∃ L, (lo.map a.eval = some (.int L l)) ∨ (lo = none ∧ l = 0) := by
                cases lo with
                | none => simp [bound] at hlo; exact ⟨.i64, .inr ⟨rfl, hlo.symm⟩⟩
                | some lx => obtain ⟨k, hk⟩ := intV_sound h hl hlo; exact ⟨k, .inl (by simp [hk])⟩
              have hhig : ∃ L, (hi.map a.eval = some (.int L hh)) ∨ (hi = none ∧ hh = rows.length) := by
                cases hi with
                | none => simp [bound] at hhi; exact ⟨.i64, .inr ⟨rfl, hhi.symm⟩⟩
                | some hx => obtain ⟨k, hk⟩ := intV_sound h hl hhi; exact ⟨k, .inl (by simp [hk])⟩
              obtain ⟨Lk, hlow⟩ := hlow
              obtain ⟨Hk, hhig⟩ := hhig
              have hb1 : (Instr.sliceBounds true rows.length c (lo.map a.eval) (hi.map a.eval) none).run P w = .ok (l.toNat, hh.toNat, c) w := by
                have e1 : 0 ≤ hh ∧ hh ≤ (c : Int) := ⟨by omega, by omega⟩
                have e2 : 0 ≤ l ∧ l ≤ (hh.toNat : Int) := ⟨by omega, by omega⟩
                rcases hlow with g1 | ⟨g1, g2⟩ <;> rcases hhig with g3 | ⟨g3, g4⟩
                · simp [Instr.sliceBounds, g1, g3, Instr.sliceBound, asIntOf, e1, e2]
                  intro hcon
                  exact absurd hcon (by omega)
                · subst g3; subst g4
                  have e2' : 0 ≤ l ∧ l ≤ (rows.length : Int) := ⟨by omega, by omega⟩
                  simp [Instr.sliceBounds, g1, Instr.sliceBound, asIntOf, e2']
                · subst g1; subst g2
                  simp [Instr.sliceBounds, g3, Instr.sliceBound, asIntOf, e1]
                · subst g1; subst g2; subst g3; subst g4
                  simp [Instr.sliceBounds]
              refine sound_pure h ho hd rfl (v := .slice (if c = l.toNat then A else A.map (·.add (l.toNat * sz))) (hh.toNat - l.toNat) (c - l.toNat)) ?_ (one1 ?_)
              · have hun : (match (TypeDesc.slice el : TypeDesc) with | .array n elem => true | _ => false) = false := rfl
                simp [execOp, hop, Instr.sliceAt, Instr.slice, run_underlying hu, hvx, hb1, size_run c1]
              · have hlen : ((rows.drop l.toNat).take (hh.toNat - l.toNat)).length = hh.toNat - l.toNat := by simp; omega
                have hget : ∀ (i : Nat) (row : List D), ((rows.drop l.toNat).take (hh.toNat - l.toNat))[i]? = some row → rows[l.toNat + i]? = some row := by
                  intro i row hi
                  rw [List.getElem?_take] at hi
                  split at hi
                  · rw [List.getElem?_drop] at hi; exact hi
                  · cases hi
                suffices key : Rd (Im V ρ lb) w (.sl sz ((rows.drop l.toNat).take (hh.toNat - l.toNat))) (.slice (if c = l.toNat then A else A.map (·.add (l.toNat * sz))) ((rows.drop l.toNat).take (hh.toNat - l.toNat)).length (c - l.toNat)) by
                  rw [hlen] at key
                  exact key
                refine .sl (c := c - l.toNat) (b := b) (o := o' + l.toNat * sz) (cv := fun i j => cv (l.toNat + i) j) (by rw [hlen]; omega) (by rw [hlen]; omega) (fun hne => ?_) (fun i row hi => hrl _ _ (hget i row hi)) (fun i row j d hi hj => ?_) (fun i row j d hi hj => hrd _ _ _ _ (hget i row hi) hj)
                · have hne' : rows ≠ [] := fun e => hne (by simp [e])
                  obtain ⟨g1, g2, g3⟩ := hA hne'
                  have hlt : l.toNat < rows.length := by
                    rcases Nat.lt_or_ge l.toNat rows.length with g | g
                    · exact g
                    · exact absurd (by rw [List.drop_eq_nil_of_le g]; simp) hne
                  rw [if_neg (by omega), g1]
                  exact ⟨by simp [Addr.add_lit], g2, g3⟩
                · have := hcell _ _ _ _ (hget i row hi) hj
                  rw [show o' + l.toNat * sz + (i * sz + j) = o' + ((l.toNat + i) * sz + j) by rw [Nat.add_mul]; omega]
                  exact this
        · cases he
      · cases he
    · cases he
  · obtain ⟨h1, v, h2, h3⟩ := effPlain_sound h hl he
    exact sound_pure h ho hd h1 h2 h3
  · cases he
end
end Go.Proofs.YtnaknldbmapolaaGreatDoor
