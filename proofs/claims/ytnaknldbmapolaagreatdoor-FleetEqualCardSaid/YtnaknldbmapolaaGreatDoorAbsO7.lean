/-
  The abstract machine is right: closures and maps.
-/
import Derived.Test.YtnaknldbmapolaaGreatDoorAbsK4
import Derived.WideLaws
namespace Go.Proofs.YtnaknldbmapolaaGreatDoor
open Go Go.RowKit
set_option linter.unusedSimpArgs false
set_option linter.unusedVariables false
section
variable {V X : Nat → Prop} {Z : Key → Option Nat} {w0 w : World} {N : Nat} {ρ : Key → Hd} {ok ok' : Key → Prop} {lt lt' : Nat → Option AV} {lb lb' : Key → Option Box} {a : Act} {P : Program} {o : Oper} {e : Eff} {Q : Exit → Act → World → Prop}
theorem capOf_sound {S : Nat → Prop} {c : C} {p : Cap} {v : Value} (he : capOf c = some p) (hv : CRel S ρ ok w c v) : CapRel S ρ ok w p v := by
  cases c <;> simp [capOf] at he <;> subst he <;> exact hv
theorem caps_sound (h : Rel V X Z w0 N ρ ok lt lb a w) (hl : ∀ t x, lt' t = some x → lt t = some x) : ∀ {xs : List Operand} {caps : List Cap}, (xs.mapM fun x => ((ev lt' x).bind slot1).bind capOf) = some caps → Caps (CapRel (Im V ρ lb) ρ ok w) caps (xs.map a.eval)
  | [], caps, he => by simp at he; subst he; exact .nil
  | x :: xs, caps, he => by
    simp only [List.mapM_cons, Option.bind_eq_bind, Option.pure_def] at he
    obtain ⟨p, h1, he⟩ := Option.bind_eq_some_iff.1 he
    obtain ⟨ps, h2, he⟩ := Option.bind_eq_some_iff.1 he
    cases he
    obtain ⟨c, h3, h4⟩ := Option.bind_eq_some_iff.1 h1
    obtain ⟨av, h5, h6⟩ := Option.bind_eq_some_iff.1 h3
    exact .cons (capOf_sound h4 (slot1_sound h6 (ev_sound h hl h5))) (caps_sound h hl h2)
theorem effMakeFunc_sound (h : Rel V X Z w0 N ρ ok lt lb a w) (ho : ∀ q : Key, ok q → ok' q) (hd : ∀ k, o.dst = some k → k < N) (hl : ∀ t x, lt' t = some x → lt t = some x)
    {fn : Fn} {first captured : Array Operand} (hop : o.op = .makeFunc fn first captured) (he : effMakeFunc fn first.toList captured.toList lt' = some e) : o.wp P a w (Aft V X Z w0 N ok' lt lb o.dst e) Q := by
  unfold effMakeFunc at he
  split at he
  · rename_i g hf
    have hf' : first = #[] := by apply Array.ext'; exact hf
    split at he
    · rename_i hemp
      cases he
      have hc' : captured = #[] := by apply Array.ext'; simpa using hemp
      refine sound_pure h ho hd rfl (v := .func (.func g) #[] #[]) ?_ (one1 (.v rfl))
      simp [execOp, hop, Instr.makeFunc, hf', hc']
    · obtain ⟨caps, h1, rfl⟩ := Option.map_eq_some_iff.1 he
      refine sound_pure h ho hd rfl (v := .func (.func g) #[] (captured.toList.map a.eval).toArray) ?_ (one1 ⟨_, rfl, caps_sound h hl h1⟩)
      have e1 : (captured.toList.map a.eval).toArray = captured.map a.eval := by rw [← Array.toList_map]
      rw [e1]
      simp [execOp, hop, Instr.makeFunc, hf']
  · cases he
theorem effMakeMap_sound (h : Rel V X Z w0 N ρ ok lt lb a w) (ho : ∀ q : Key, ok q → ok' q) (hd : ∀ k, o.dst = some k → k < N) {key : Nat → Key} (hk : ¬ ok (key 0)) (hk' : ok' (key 0)) {t : TypeId} (hop : o.op = .makeMap t none) : o.wp P a w (Aft V X Z w0 N ok' lt lb o.dst { av := .one false [.mp (key 0)], up := [(key 0, some (.mp #[] 0))] }) Q := by
  have hfin : ∃ ρ', Rel V X Z w0 N ρ' ok' (updT lt o.dst (.one false [.mp (key 0)])) (updB lb [(key 0, some (.mp #[] 0))]) (a.put o.dst (.map (some w.heap.size))) (w.alloc (.map #[] 0)) :=
    ⟨updR ρ (key 0) ⟨none, some w.heap.size, 0, 0, 0⟩, h.new o.dst _ _ hd (key 0) hk _ _ (fun b hb => by cases hb; simp) hk' ho (Keep.alloc _ _ _) (one1 ⟨hk', w.heap.size, by rw [updR_same], rfl⟩) ⟨w.heap.size, by rw [updR_same], by show (w.heap.push (Obj.map #[] 0))[w.heap.size]? = _; simp⟩⟩
  obtain ⟨ρ', hfin⟩ := hfin
  refine wp_val ?_ ⟨ρ', hfin⟩
  simp [execOp, hop, Instr.makeMap, newObj, Sem.run]
theorem mapFind_sound {t : TypeId} {empty : Bool} {k : Value} {es : List MapEntry} {et : TypeId} {r : Option (Nat × Value)} (he : mapFind P t empty k es = some (et, r)) (w : World) : ∃ kt, P.underlying t = some (.map kt et) ∧ (Instr.checkKey empty 10000 kt k).run P w = .ok () w ∧ (Instr.findKey kt k es).run P w = .ok r w := by
  unfold mapFind at he
  split at he
  · rename_i kt et' hu
    split at he
    · rename_i u r' h1 h2
      cases he
      exact ⟨kt, hu, semVal_run h1 w, semVal_run h2 w⟩
    · cases he
  · cases he
theorem lookup_run {t kt et : TypeId} {b : Nat} {k v : Value} {cok bb : Bool} {es : Array MapEntry} {ck : Nat} {r : Option (Nat × Value)} (f1 : P.underlying t = some (.map kt et)) (hobj : w.heap[b]? = some (.map es ck)) (f2 : (Instr.checkKey es.isEmpty 10000 kt k).run P w = .ok () w) (f3 : (Instr.findKey kt k es.toList).run P w = .ok r w)
    (hr : (∃ i, r = some (i, v) ∧ bb = true) ∨ (r = none ∧ (zeroValue et).run P w = .ok v w ∧ bb = false)) : (Instr.lookup t (.map (some b)) k cok).run P w = .ok (if cok then .tuple #[v, .bool bb] else v) w := by
  have hobj' : (getObj b).run P w = .ok (.map es ck) w := by simp [getObj, Sem.run, hobj]
  unfold Instr.lookup
  rcases hr with ⟨i, rfl, rfl⟩ | ⟨rfl, hz, rfl⟩
  · simp [run_underlying f1, hobj', f2, f3]
  · simp [run_underlying f1, hobj', f2, f3, hz]
theorem effLookup_sound (h : Rel V X Z w0 N ρ ok lt lb a w) (ho : ∀ q : Key, ok q → ok' q) (hd : ∀ k, o.dst = some k → k < N) (hl : ∀ t x, lt' t = some x → lt t = some x) (hb : ∀ t x, lb' t = some x → lb t = some x)
    {t : TypeId} {x ix : Operand} {cok : Bool} (hop : o.op = .lookup t x ix cok) (he : effLookup P t x ix cok lt' lb' = some e) : o.wp P a w (Aft V X Z w0 N ok' lt lb o.dst e) Q := by
  unfold effLookup at he
  split at he
  · rename_i q k hx hk
    obtain ⟨av, h1, h2⟩ := Option.bind_eq_some_iff.1 hx
    obtain ⟨av2, h3, h4⟩ := Option.bind_eq_some_iff.1 hk
    obtain ⟨hok, b, g1, hxv⟩ := slot1_sound h2 (ev_sound h hl h1)
    have hkv := conV_sound h4 (ev_sound h hl h3)
    split at he
    · rename_i es ck hq
      obtain ⟨b', g2, g3⟩ := (h.bx q _ (hb _ _ hq)).2
      obtain rfl : b' = b := by rw [g1] at g2; cases g2; rfl
      split at he
      · rename_i et r hfind
        obtain ⟨kt, f1, f2, f3⟩ := mapFind_sound hfind w
        split at he
        · rename_i v bb hvb
          have hr : (∃ i, r = some (i, v) ∧ bb = true) ∨ (r = none ∧ (zeroValue et).run P w = .ok v w ∧ bb = false) := by
            cases r with
            | some p => simp at hvb; exact .inl ⟨p.1, by rw [← hvb.1], hvb.2⟩
            | none =>
              obtain ⟨v', z1, z2⟩ := Option.map_eq_some_iff.1 hvb
              cases z2
              exact .inr ⟨rfl, semVal_run z1 w, rfl⟩
          have hrun := lookup_run (cok := cok) f1 g3 f2 f3 hr
          have fin : ∀ c, cellC v = some c → e = { av := if cok then .tup [(false, [c]), (false, [.d (.v (.bool bb))])] else .one false [c] } → o.wp P a w (Aft V X Z w0 N ok' lt lb o.dst e) Q := by
            intro c hc hee
            have hcv : CRel (Im V ρ lb) ρ ok w c v := cellC_sound hc
            subst hee
            refine sound_pure h ho hd rfl (v := if cok then .tuple #[v, .bool bb] else v) ?_ ?_
            · simp [execOp, hop, hxv, hkv, hrun]
            · cases cok with
              | true => exact ⟨[v, .bool bb], rfl, .cons ⟨[v], .cons hcv .nil, by simp⟩ (.cons ⟨[.bool bb], .cons (.v rfl) .nil, by simp⟩ .nil)⟩
              | false => exact one1 hcv
          split at he
          · cases he
          · obtain ⟨c, hc, hee⟩ := Option.map_eq_some_iff.1 he
            exact fin c hc hee.symm
        · cases he
      · cases he
    · cases he
  · cases he
theorem effMapUpdate_sound (h : Rel V X Z w0 N ρ ok lt lb a w) (ho : ∀ q : Key, ok q → ok' q) (hd : ∀ k, o.dst = some k → k < N) (hl : ∀ t x, lt' t = some x → lt t = some x) (hb : ∀ t x, lb' t = some x → lb t = some x)
    {t : TypeId} {x ix y : Operand} (hop : o.op = .mapUpdate t x ix y ∨ o.op = .insert t x ix y) (he : effMapUpdate P t x ix y lt' lb' = some e) : o.wp P a w (Aft V X Z w0 N ok' lt lb o.dst e) Q := by
  unfold effMapUpdate at he
  split at he
  · rename_i q k v hx hk hy
    obtain ⟨av, h1, h2⟩ := Option.bind_eq_some_iff.1 hx
    obtain ⟨av2, h3, h4⟩ := Option.bind_eq_some_iff.1 hk
    obtain ⟨av3, h5, h6⟩ := Option.bind_eq_some_iff.1 hy
    obtain ⟨hok, b, g1, hxv⟩ := slot1_sound h2 (ev_sound h hl h1)
    have hkv := conV_sound h4 (ev_sound h hl h3)
    have hyv := conV_sound h6 (ev_sound h hl h5)
    split at he
    · rename_i es ck hq
      obtain ⟨b', g2, g3⟩ := (h.bx q _ (hb _ _ hq)).2
      obtain rfl : b' = b := by rw [g1] at g2; cases g2; rfl
      have hobj' : (getObj b').run P w = .ok (.map es ck) w := by simp [getObj, Sem.run, g3]
      have hlt : b' < w.heap.size := (h.lo q _ b' (hb _ _ hq) rfl g1).1
      have fin : ∀ (es' : Array MapEntry) (ck' : Nat), (Instr.mapUpdate t (.map (some b')) k v).run P w = .ok () { w with heap := w.heap.setIfInBounds b' (.map es' ck') } → e = { av := .un, up := [(q, some (.mp es' ck'))] } → o.wp P a w (Aft V X Z w0 N ok' lt lb o.dst e) Q := by
        intro es' ck' hrun hee
        subst hee
        have hw : Keep (fun k => k ≠ b') w { w with heap := w.heap.setIfInBounds b' (.map es' ck') } := ⟨rfl, rfl, rfl, by simp, fun k _ hk => by simp [Array.getElem?_setIfInBounds_ne (Ne.symm hk)]⟩
        refine wp_no (w' := { w with heap := w.heap.setIfInBounds b' (.map es' ck') }) ?_ ⟨ρ, h.set (box1 := .mp es' ck') ho (hb _ _ hq) rfl rfl g1 hw ⟨b', g1, by simp [hlt]⟩ o.dst hd⟩
        rcases hop with hop | hop <;> simp [execOp, hop, hxv, hkv, hyv, hrun]
      split at he
      · rename_i et i old hfind
        obtain ⟨kt, f1, f2, f3⟩ := mapFind_sound hfind w
        split at he
        · rename_i hsb
          cases he
          refine fin _ _ ?_ rfl
          unfold Instr.mapUpdate
          simp [run_underlying f1, hobj', f2, f3, Instr.keyThatStays, hsb, setObj, Sem.run, g3]
        · cases he
      · rename_i et hfind
        cases he
        obtain ⟨kt, f1, f2, f3⟩ := mapFind_sound hfind w
        refine fin _ _ ?_ rfl
        unfold Instr.mapUpdate
        simp [run_underlying f1, hobj', f2, f3, setObj, Sem.run, g3]
      · cases he
    · cases he
  · cases he
end
end Go.Proofs.YtnaknldbmapolaaGreatDoor
