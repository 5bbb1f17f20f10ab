/- Rules of runs and contracts of functions, for the claims of one seat. -/
import Derived.Shelf.SlSortCmp.NoneTotal
import Derived.Test.YtjpdemikmdfonaaGreatDoorFA15
import Derived.Test.YtjpdemikmdfonaaGreatDoorFA26
import Derived.Test.YtjpdemikmdfonaaGreatDoorFA28
import Derived.Test.YtjpdemikmdfonaaGreatDoorFA29
import Derived.Test.YtjpdemikmdfonaaGreatDoorFA30
import Derived.Test.YtjpdemikmdfonaaGreatDoorFA31
namespace Go.Proofs.YtjpdemikmdfonaaGreatDoor
open Go Go.RowKit
set_option maxRecDepth 100000
set_option maxHeartbeats 8000000
set_option linter.unusedSimpArgs false
set_option linter.unusedVariables false
open Go.Sort (grow HoldsK SWO)
instance : Inhabited EdgeD := ⟨nilEd⟩
def encE (e : EdgeD) : List Value := [.int .i64 e.frm, .bool e.send, .int .i64 e.label, .int .i64 e.to]
theorem edge_agg (x : EdgeD) (S : Nat → Prop) (ρ : Key → Hd) (ok : Key → Prop) (w : World) : AVRel (CRel S ρ ok w) (.one true (edgeC x)) (.agg (encE x).toArray) :=
 ⟨encE x, .cons (.v rfl) (.cons (.v rfl) (.cons (.v rfl) (.cons (.v rfl) .nil))), rfl⟩
theorem world_grown {w w' : World} (hk : Keep (fun _ => True) w w') (hd : w.drawn ≤ w'.drawn) : ∃ q os', w' = grow (w.drewN q) os' := by
 refine ⟨w'.drawn - w.drawn, w'.heap.extract w.heap.size w'.heap.size, ?_⟩
 have hh : w'.heap = w.heap ++ w'.heap.extract w.heap.size w'.heap.size := by
  refine Array.ext_getElem? fun i => ?_
  have hs := hk.size
  rcases Nat.lt_or_ge i w.heap.size with h | h
  ·rw [Array.getElem?_append_left h]; exact hk.block i h trivial
  ·rw [Array.getElem?_append_right h, Array.getElem?_extract]
   by_cases h2 : i < w'.heap.size
   ·rw [if_pos (by omega), show w.heap.size + (i - w.heap.size) = i by omega]
   ·rw [if_neg (by omega), Array.getElem?_eq_none (by omega)]
 obtain ⟨hp, tp, dr, os, ou⟩ := w
 obtain ⟨hp', tp', dr', os', ou'⟩ := w'
 have h1 := hk.os
 have h2 := hk.tape
 have h3 := hk.output
 simp only at h1 h2 h3 hd hh
 subst h1 h2 h3
 unfold grow World.drewN
 simp only [World.mk.injEq]
 exact ⟨hh, trivial, by omega, trivial, trivial⟩
theorem pcmpE_calls (x y : EdgeD) (W : World) (hg : Gl (fun _ => False) W) : Calls Tryz.prog 147 #[.agg (encE x).toArray, .agg (encE y).toArray] W fun e w' => e = .returned (.int .i64 (cmpE x y)) ∧ ∃ q os', w' = grow (W.drewN q) os' := by
 have hR0 : Rel (fun _ => False) (fun _ => False) (fun _ => ⟨none, none, 0, 0, 0⟩) W 2 (fun _ => ⟨none, none, 0, 0, 0⟩) (fun q => q.2 < 1) (lk (argTm 0 [.val true (edgeC x), .val true (edgeC y)])) (lk (argBx 0 [.val true (edgeC x), .val true (edgeC y)] ++ [])) ⟨[.agg (encE x).toArray, .agg (encE y).toArray].toArray, []⟩ W := by
  refine ⟨rfl, rfl, fun t av ht => ?_, fun q box hq => (by cases hq), fun q box q' box' b hq => (by cases hq), fun q box b hq => (by cases hq), Keep.refl _ _, ⟨fun b hb => hb.elim, hg⟩, fun q hq => ⟨by show q.2 < 1; omega, rfl⟩⟩
  have hlt : t = 0 ∨ t = 1 := by
   by_cases h0 : t = 0
   ·exact .inl h0
   ·by_cases h1 : t = 1
    ·exact .inr h1
    ·simp [argTm, lk, h0, h1] at ht
  rcases hlt with rfl | rfl
  ·cases ht; exact ⟨by decide, edge_agg x _ _ _ _⟩
  ·cases ht; exact ⟨by decide, edge_agg y _ _ _ _⟩
 refine (Drw.calls_up (pcmpE_fn x y _ _ _ _ W [.agg (encE x).toArray, .agg (encE y).toArray] rfl hR0)).mono ?_
 rintro e w' ⟨⟨v, ρ', rfl, hR⟩, hd⟩
 have hd := hd (by simp)
 refine ⟨?_, world_grown (hR.fr.mono fun _ _ _ h => h) hd⟩
 have ht := (hR.tm 0 _ rfl).2
 obtain ⟨vs, hc, hv⟩ := ht
 cases hc with
 | cons a b => cases b; have := (Rd.val a).1; subst this; (cases hv; rfl)
theorem befE_iff (a b : EdgeD) : ltOf cmpE a b = befE a b := by
 unfold ltOf
 cases e : befE a b with
 | true => exact decide_eq_true ((cmpE_lt a b).2 e)
 | false => exact decide_eq_false fun h => by rw [(cmpE_lt a b).1 h] at e; cases e
theorem befE_true {a b : EdgeD} : befE a b = true ↔ a.frm < b.frm ∨ (a.frm = b.frm ∧ (sideE a < sideE b ∨ (sideE a = sideE b ∧ a.label < b.label))) := by
 unfold befE sideE
 rw [decide_eq_true_eq]
 cases a.send <;> cases b.send <;> simp
theorem befE_false {a b : EdgeD} : befE a b = false ↔ ¬ (a.frm < b.frm ∨ (a.frm = b.frm ∧ (sideE a < sideE b ∨ (sideE a = sideE b ∧ a.label < b.label)))) := by
 rw [← befE_true, Bool.not_eq_true]
theorem swoE : SWO (ltOf cmpE) where
 irrefl x := by rw [befE_iff, befE_false]; omega
 trans x y z h1 h2 := by rw [befE_iff, befE_true] at *; omega
 ntrans x y z h1 h2 := by rw [befE_iff, befE_false] at *; omega
def srtE (es : List EdgeD) : List EdgeD := (Go.Sort.pdq (ltOf cmpE) es.toArray 0 es.toArray.size (Go.Lib.bitLen es.toArray.size) true true).toList
theorem srtE_all (es : List EdgeD) : Go.Sort.PermIn 0 es.toArray.size es.toArray (Go.Sort.pdq (ltOf cmpE) es.toArray 0 es.toArray.size (Go.Lib.bitLen es.toArray.size) true true) :=
 (Go.Sort.pdq_sorts (ltOf cmpE) swoE es.toArray 0 es.toArray.size (Go.Lib.bitLen es.toArray.size) true true (Nat.zero_le _) (Nat.le_refl _) (Or.inl rfl)).1
theorem srtE_len (es : List EdgeD) : (srtE es).length = es.length := by
 unfold srtE
 rw [Array.length_toList, (srtE_all es).1]; rfl
theorem srtE_nil : srtE [] = [] := List.length_eq_zero_iff.1 (srtE_len [])
theorem flat_get : ∀ (es : List EdgeD) (t : Nat), t < es.length * 4 → (es.flatMap encE)[t]? = some ((encE (es.getD (t / 4) nilEd))[t % 4]!)
 | [], t, h => absurd h (by simp)
 | e :: es, t, h => by
  rw [List.flatMap_cons]
  rcases Nat.lt_or_ge t 4 with h4 | h4
  ·rw [List.getElem?_append_left (by simpa [encE] using h4)]
   have : t = 0 ∨ t = 1 ∨ t = 2 ∨ t = 3 := by omega
   rcases this with rfl | rfl | rfl | rfl <;> rfl
  ·rw [List.getElem?_append_right (by simpa [encE] using h4), show (encE e).length = 4 from rfl]
   obtain ⟨u, rfl⟩ : ∃ u, t = u + 4 := ⟨t - 4, by omega⟩
   rw [List.length_cons] at h
   rw [Nat.add_sub_cancel, flat_get es u (by omega), Nat.add_div_right u (by omega : 0 < 4), Nat.add_mod_right, List.getD_cons_succ]
theorem lenE (es : List EdgeD) : (es.flatMap encE).length = es.length * 4 := by
 induction es with
 | nil => rfl
 | cons e es ih => rw [List.flatMap_cons, List.length_append, ih, List.length_cons, show (encE e).length = 4 from rfl]; omega
theorem flatE (d : Array EdgeD) : (Go.Sort.flatK encE 4 d).toList = d.toList.flatMap encE := by
 refine List.ext_getElem? fun t => ?_
 rcases Nat.lt_or_ge t (d.toList.length * 4) with h | h
 ·rw [flat_get _ _ h]
  have hs : t < d.size * 4 := h
  have hs2 : t / 4 < d.size := by omega
  simp only [Go.Sort.flatK, Array.getElem?_toList, Array.getElem?_map, Array.getElem?_range, hs, if_true, Option.map_some]
  rw [getElem!_pos d _ hs2, List.getD_eq_getElem?_getD, Array.getElem?_toList, Array.getElem?_eq_getElem hs2, Option.getD_some]
 ·rw [List.getElem?_eq_none (l := d.toList.flatMap encE) (by rw [lenE]; exact h), List.getElem?_eq_none (by simpa using h)]
theorem rowsE (es : List EdgeD) : (dEdges es).flatten.map C.d = es.flatMap fun e => edgeC e := by
 unfold dEdges
 induction es with
 | nil => rfl
 | cons e es ih => rw [List.map_cons, List.flatten_cons, List.map_append, ih, List.flatMap_cons]; rfl
theorem cellsE {S : Nat → Prop} {ρ : Key → Hd} {ok : Key → Prop} {w : World} : ∀ {es : List EdgeD} {vs : List Value}, All2 (CRel S ρ ok w) ((dEdges es).flatten.map .d) vs → vs = es.flatMap encE
 | [], vs, h => by cases h; rfl
 | e :: es, vs, h => by
  rw [rowsE, List.flatMap_cons, ← rowsE] at h
  cases h with | cons a h => cases h with | cons b h => cases h with | cons c h => cases h with | cons d h =>
   rw [cellsE h, (Rd.val a).1, (Rd.val b).1, (Rd.val c).1, (Rd.val d).1]; rfl
theorem cellsE' {S : Nat → Prop} {ρ : Key → Hd} {ok : Key → Prop} {w : World} : ∀ es : List EdgeD, All2 (CRel S ρ ok w) ((dEdges es).flatten.map .d) (es.flatMap encE)
 | [] => .nil
 | e :: es => by
  rw [rowsE, List.flatMap_cons, ← rowsE]
  exact .cons (.v rfl) (.cons (.v rfl) (.cons (.v rfl) (.cons (.v rfl) (cellsE' es))))
theorem holdsE {w : World} {b : Nat} {ty : TypeId} {es : List EdgeD} {sp : List Value} (h : Blk w b ty (es.flatMap encE ++ sp).toArray) : HoldsK encE 4 w b 0 es.toArray := by
 intro j hj
 have hj' : j < es.length * 4 := by simpa using hj
 refine ⟨?_, h.frozen _⟩
 rw [h.cell, Nat.zero_add, List.getElem?_toArray, List.getElem?_append_left (by rw [lenE]; exact hj')]
 have := flatE es.toArray
 rw [List.toList_toArray] at this
 rw [← this, Array.getElem?_toList, Array.getElem?_eq_getElem hj, getElem!_pos (Go.Sort.flatK encE 4 es.toArray) j hj]
 rfl
theorem blk_sort {w : World} {b : Nat} {ty : TypeId} {cs : List Value} {sp : List Value} (h : Blk w b ty (cs ++ sp).toArray) (n : Nat) (d : Array EdgeD) (hd : d.size * 4 = cs.length) (os : Array Obj) :
    Blk (sortWorldK encE 4 w b 0 n d os) b ty (d.toList.flatMap encE ++ sp).toArray := by
 have hb := h.lt
 unfold sortWorldK Blk
 rw [Go.Sort.heap_grow_old _ _ (by unfold Go.Sort.putRowK; simpa [Go.Sort.putRow, Go.Sort.mapBlock, Go.Sort.ahead] using hb)]
 unfold Blk at h
 unfold Go.Sort.putRowK Go.Sort.putRow Go.Sort.mapBlock Go.Sort.ahead
 simp only [Array.getElem?_modify, if_true, h, Option.map_some, Go.Sort.onCells]
 congr 2
 refine Array.ext_getElem? fun i => ?_
 simp only [Go.Sort.putCells, Array.getElem?_mapIdx, List.getElem?_toArray, Nat.zero_le, true_and, Nat.zero_add, Nat.sub_zero, Go.Sort.size_flatK, id]
 rw [← flatE]
 rcases Nat.lt_or_ge i (d.size * 4) with h1 | h1
 ·rw [List.getElem?_append_left (by rw [← hd]; exact h1), List.getElem?_append_left (by simpa using h1), List.getElem?_eq_getElem (by rw [← hd]; exact h1), Option.map_some, if_pos h1, Array.getElem?_toList, Array.getElem?_eq_getElem (by simpa using h1), getElem!_pos _ _ (by simpa using h1)]
 ·rw [List.getElem?_append_right (by rw [← hd]; exact h1), List.getElem?_append_right (by simpa using h1)]
  have h2 : ¬ i < cs.length := by omega
  simp only [h2, if_false, Option.map_id', Option.map_id_fun', id, Array.length_toList, Go.Sort.size_flatK, hd]
theorem keep_sort {w : World} {b : Nat} (n : Nat) (d : Array EdgeD) (os : Array Obj) : Keep (fun k => k ≠ b) w (sortWorldK encE 4 w b 0 n d os) := by
 have hs : (Go.Sort.putRowK encE 4 (Go.Sort.ahead w n) b 0 d).heap.size = w.heap.size := by
  unfold Go.Sort.putRowK; simp [Go.Sort.putRow, Go.Sort.mapBlock, Go.Sort.ahead]
 refine ⟨rfl, rfl, rfl, ?_, fun k hk hn => ?_⟩
 ·unfold sortWorldK
  have : (grow (Go.Sort.putRowK encE 4 (Go.Sort.ahead w n) b 0 d) os).heap.size = w.heap.size + os.size := by unfold grow; simp [hs]
  omega
 ·unfold sortWorldK
  rw [Go.Sort.heap_grow_old _ _ (by rw [hs]; exact hk)]
  unfold Go.Sort.putRowK Go.Sort.putRow Go.Sort.mapBlock Go.Sort.ahead
  simp only [Array.getElem?_modify]
  rw [if_neg (Ne.symm hn)]
theorem psort_fn {ty : TypeId} (es : List EdgeD) (h : es.length < 4611686018427387904) :
    FnSound Tryz.prog 146 [.val false [.own (0, 0)], .val false [.d (.v (.func (.func 147) #[] #[]))]] [((0, 0), .sl ty 4 (dEdges es))]
     { vals := [], bx := [((0, 0), .sl ty 4 (dEdges (srtE es)))] } := by
 intro V X Z ρ w vals hl hR
 obtain ⟨v0, v1, rfl⟩ : ∃ v0 v1, vals = [v0, v1] := by
  match vals, hl with
  | [a, b], _ => exact ⟨a, b, rfl⟩
 obtain ⟨vs0, a0, b0⟩ := (hR.tm 0 _ rfl).2
 obtain ⟨vs1, a1, b1⟩ := (hR.tm 1 _ rfl).2
 have b0 : vs0 = [v0] := b0
 have b1 : vs1 = [v1] := b1
 subst b0 b1
 have c0 : CRel (Im V ρ (lk [((0, 0), Box.sl ty 4 (dEdges es))])) ρ (fun q => q.2 < 1) w (.own (0, 0)) v0 := by cases a0 with | cons a _ => exact a
 have c1 : v1 = .func (.func 147) #[] #[] := by cases a1 with | cons a _ => exact (Rd.val a).1
 obtain ⟨_, rfl⟩ := c0
 subst c1
 obtain ⟨h1, h2, h3, h4, h5, h6⟩ := (hR.bx (0, 0) _ rfl).2
 have hlen : (dEdges es).length = es.length := by simp [dEdges]
 have hlen' : (dEdges (srtE es)).length = es.length := by simp [dEdges, srtE_len]
 have hone : ∀ (q : Key) (box : Box), lk [((0, 0), Box.sl ty 4 (dEdges (srtE es)))] q = some box → q = (0, 0) ∧ box = .sl ty 4 (dEdges (srtE es)) := by
  intro q box hq
  by_cases e : q = (0, 0)
  ·subst e; cases hq; exact ⟨rfl, rfl⟩
  ·simp [lk, e] at hq
 have hrow : ∀ (i : Nat) (row : List D), (dEdges (srtE es))[i]? = some row → row.length = 4 := by
  intro i row hi
  unfold dEdges at hi
  rw [List.getElem?_map] at hi
  obtain ⟨x, _, rfl⟩ := Option.map_eq_some_iff.1 hi
  rfl
 have htup : ∀ (S : Nat → Prop) (ok : Key → Prop) (w' : World) (t : Nat) (av : AV), ltOne (resAV id []) t = some av → t < 1 ∧ AVRel (CRel S ρ ok w') av ((#[Value.tuple #[]] : Array Value).getD t undef) := by
  intro S ok w' t av ht
  unfold ltOne at ht
  split at ht
  ·rename_i h0; subst h0; cases ht
   exact ⟨by omega, [], rfl, .nil⟩
  ·cases ht
 rcases h6 with ⟨g0, g1, g2⟩ | ⟨b, vs, sp, g1, g2, g3, g4, g5⟩
 ·have hes : es = [] := by
    cases es with
    | nil => rfl
    | cons e r => cases g1
  subst hes
  have hn : (ρ (0, 0)).n = 0 := h1
  rw [show (#[Value.slice (ρ (0, 0)).A (ρ (0, 0)).n (ρ (0, 0)).cap, .func (.func 147) #[] #[]] : Array Value) = #[.slice (ρ (0, 0)).A 0 (ρ (0, 0)).cap, .func (.func 147) #[] #[]] by rw [hn]]
  refine (AnyF.slices_SortFunc_none Tryz.sortE (ρ (0, 0)).A (ρ (0, 0)).cap (.func (.func 147) #[] #[]) w).mono ?_
  rintro e w' ⟨rfl, rfl⟩
  refine ⟨_, ρ, rfl, rfl, rfl, htup _ _ _, fun q box hq => ?_, fun q1 x1 q2 x2 b e1 l1 e2 l2 k1 k2 => ?_, fun q box b hq hl hb => ?_, Keep.refl _ _, hR.va, fun q hq => ⟨trivial, (hR.zz q hq).2⟩⟩
  ·obtain ⟨rfl, rfl⟩ := hone q box hq
   rw [srtE_nil]
   exact ⟨trivial, h1, h2, h3, h4, h5, .inl ⟨g0, rfl, g2⟩⟩
  ·rw [(hone q1 x1 e1).1, (hone q2 x2 e2).1]
  ·obtain ⟨rfl, rfl⟩ := hone q box hq
   rw [g0] at hb; cases hb
 ·have hvs := cellsE g4
  subst hvs
  have hlo := hR.lo (0, 0) _ b rfl rfl g1
  have hXb : X b := by
   rcases hlo.2 with h | h
   ·omega
   ·exact h
  have hgl : ∀ (m : Nat) (os : Array Obj) (dk : Array EdgeD), Gl (fun _ => False) (sortWorldK encE 4 w b 0 m dk os) := by
   intro m os dk c hc
   obtain ⟨x1, x2, y, x3⟩ := hR.va.gl c hc
   have hk := keep_sort (w := w) (b := b) m dk os
   have hne : c ≠ b := fun e => x1 (by rw [e]; exact hXb)
   exact ⟨fun h => h.elim, Nat.lt_of_lt_of_le x2 hk.size, y, hk.cell hne x3⟩
  have hn : (ρ (0, 0)).n = es.toArray.size := by rw [h1, hlen]; rfl
  rw [show (#[Value.slice (ρ (0, 0)).A (ρ (0, 0)).n (ρ (0, 0)).cap, .func (.func 147) #[] #[]] : Array Value) = #[.slice (some ⟨b, 0, none⟩) es.toArray.size (ρ (0, 0)).cap, .func (.func 147) #[] #[]] by rw [hn, g2]]
  refine (AnyQ.slices_SortFunc_eq Tryz.sortE 4 Tryz.isAgg193 Tryz.sizeOf193 encE (fun _ => rfl) (fun x v hv => by simp [encE] at hv; rcases hv with rfl | rfl | rfl | rfl <;> rfl) cmpE swoE 147 #[] b 0 (ρ (0, 0)).cap es.toArray w
   (enters_of Tryz.func147 (by kernel_rfl) rfl) (fun m os dk _ x y => pcmpE_calls x y _ (hgl m os dk)) (holdsE g3) hlo.1 h).mono ?_
  rintro e w' ⟨rfl, n, os, rfl⟩
  have hk := keep_sort (w := w) (b := b) n (Go.Sort.pdq (ltOf cmpE) es.toArray 0 es.toArray.size (Go.Lib.bitLen es.toArray.size) true true) os
  have hB := blk_sort g3 n (Go.Sort.pdq (ltOf cmpE) es.toArray 0 es.toArray.size (Go.Lib.bitLen es.toArray.size) true true) (by rw [(srtE_all es).1, lenE]; rfl) os
  refine ⟨_, ρ, rfl, rfl, rfl, htup _ _ _, fun q box hq => ?_, fun q1 x1 q2 x2 b e1 l1 e2 l2 k1 k2 => ?_, fun q box b' hq hl hb => ?_, hk.mono fun c _ hc e => hc (by rw [e]; exact hXb), hR.va, fun q hq => ⟨trivial, (hR.zz q hq).2⟩⟩
  ·obtain ⟨rfl, rfl⟩ := hone q box hq
   refine ⟨trivial, by rw [hlen', h1, hlen], h2, by rw [hlen', ← hlen]; exact h3, by rw [hlen', ← hlen]; exact h4, hrow, .inr ⟨b, (srtE es).flatMap encE, sp, g1, g2, hB, cellsE' _, by rw [hlen', ← hlen]; exact g5⟩⟩
  ·rw [(hone q1 x1 e1).1, (hone q2 x2 e2).1]
  ·obtain ⟨rfl, rfl⟩ := hone q box hq
   rw [g1] at hb; cases hb
   exact ⟨Nat.lt_of_lt_of_le hlo.1 hk.size, hlo.2⟩
end Go.Proofs.YtjpdemikmdfonaaGreatDoor

namespace Go.Proofs.YtjpdemikmdfonaaGreatDoor
open Go Go.RowKit
set_option linter.unusedSimpArgs false
set_option linter.unusedVariables false
section
variable {P : Program} {lend : FuncId → Bool} {N : Nat} {ops : Array Oper} {cs : List Code} {R : AX → St → Prop} {i : Nat} {os : List Oper} {tm : List (Nat × AV)} {bo : BO} {nx : Nat} {ns ns' : List Note} {d : Nat} {pos : String} {ty : TypeId} {af : Array Edge}
theorem W.anyNs (h : W P lend N ops false cs R i os tm bo nx ns) : W P lend N ops false cs R i os tm bo nx ns' := by
 obtain ⟨call, hcall, rs, lt', lb', tm', bo', hrun, e1, e2, _, hJ⟩ := h
 exact ⟨call, hcall, rs, lt', lb', tm', bo', hrun, e1, e2, .inl rfl, hJ⟩
theorem effG_sort {call : CallF} {key : Nat → Key} {g F : FuncId} {lb : Key → Option Box} {q : Key} {e : TypeId} {sz : Nat} {rows rows' : List (List D)} (hq : lb q = some (.sl e sz rows))
    (hc : call g [.val false [.own (0, 0)], .val false [.d (.v (.func (.func F) #[] #[]))]] [((0, 0), .sl e sz rows)] = some { vals := [], bx := [((0, 0), .sl e sz rows')] }) :
    effG call key g [(false, [.own q]), (false, [.d (.v (.func (.func F) #[] #[]))])] lb = some { av := .tup [], up := [(q, some (.sl e sz rows')), (q, none)] } := by
 have hr : ∀ n, reachK lb n [q] = [q] := fun n => by
  induction n with
  | zero => rfl
  | succ n ih =>
   unfold reachK
   simp only [List.flatMap_cons, List.flatMap_nil, hq, keysBx, List.append_nil, List.foldl_nil]
   exact ih
 unfold effG
 have h0 : ([(false, [C.own q]), (false, [C.d (.v (.func (.func F) #[] #[]))])].flatMap fun x : Bool × List C => x.2.flatMap keysC).foldl addK [] = [q] := by
  simp [keysC, addK]
 rw [h0, hr]
 have hb : gBs lb (idxK [q] 0) 0 [q] = some [(q, (0, 0), .sl e sz rows)] := by
  simp [gBs, hq, Box.okRes, renBx]
 simp only [hb]
 rw [if_pos]
 ·have ha : ([(false, [C.own q]), (false, [C.d (.v (.func (.func F) #[] #[]))])].map fun x : Bool × List C => Arg.val x.1 (x.2.map (renC (idxK [q] 0)))) = [.val false [.own (0, 0)], .val false [.d (.v (.func (.func F) #[] #[]))]] := by
    simp [renC, idxK]
  rw [ha]
  simp only [List.map_cons, List.map_nil, hc]
  rw [if_pos]
  ·simp [gUps, gDict, lkD, renBx, resAV]
  ·refine ⟨rfl, by simp, ?_, by simp [nodup], by simp [Box.okRes]⟩
   simp [ARes.closed, keysBx]
 ·refine ⟨by simp [nodup], by simp [nodup], by simp [idxK], by simp [keysC], by simp [hq, keysBx]⟩
theorem W.callSort {g F : FuncId} {x : Operand} {tyq : Array TypeId} {q : Key} {e : TypeId} {sz : Nat} {rows rows' : List (List D)} (hd : Nat.blt d N = true) (hbod : BoI P g) (hx : (ev (lk tm) x).bind slot1 = some (.own q)) (hq : lko bo q = some (.sl e sz rows))
    (hK : FnSound P g [.val false [.own (0, 0)], .val false [.d (.v (.func (.func F) #[] #[]))]] [((0, 0), .sl e sz rows)] { vals := [], bx := [((0, 0), .sl e sz rows')] })
    (h : W P lend N ops false cs R (i + 1) os ((d, .tup []) :: tm) ((q, some (.sl e sz rows')) :: bo) nx ns) : W P lend N ops false cs R i (⟨some d, .call ⟨.value (.func g), #[x, .func F], tyq⟩, ty, pos, af, none⟩ :: os) tm bo nx ns := by
 obtain ⟨hbod⟩ := hbod
 have hlbq : onlyB (opKeys (lk tm) (lko bo) ⟨some d, .call ⟨.value (.func g), #[x, .func F], tyq⟩, ty, pos, af, none⟩) (lko bo) q = some (.sl e sz rows) := by
  rw [own_only (by rfl) (by simp [Op.operands, Call.operands]) hx (List.mem_singleton.2 rfl : q ∈ keysC (.own q)), hq]
 have hev : ev (onlyT ⟨some d, .call ⟨.value (.func g), #[x, .func F], tyq⟩, ty, pos, af, none⟩ (lk tm)) x = some (.one false [.own q]) := by
  rw [ev_only (x := x) (by simp [Op.operands, Call.operands])]
  obtain ⟨av, h1, h2⟩ := Option.bind_eq_some_iff.1 hx
  rw [h1, slot1_of h2]
 generalize hlb : onlyB (opKeys (lk tm) (lko bo) ⟨some d, .call ⟨.value (.func g), #[x, .func F], tyq⟩, ty, pos, af, none⟩) (lko bo) = lb at hlbq
 generalize hlt : onlyT ⟨some d, .call ⟨.value (.func g), #[x, .func F], tyq⟩, ty, pos, af, none⟩ (lk tm) = lt at hev
 refine W.anyNs (ns := ns) (W.eff (call := fun f a b => open Classical in if f = g ∧ a = [.val false [.own (0, 0)], .val false [.d (.v (.func (.func F) #[] #[]))]] ∧ b = [((0, 0), .sl e sz rows)] then some { vals := [], bx := [((0, 0), .sl e sz rows')] } else none) (av := .tup []) (up := if boxEq (.sl e sz rows) (.sl e sz rows') = true then [] else [(q, some (.sl e sz rows')), (q, none)]) (bo' := (q, some (.sl e sz rows')) :: bo) (fun f a b r' he => ?_) rfl (fun k hk => by cases hk; exact Nat.le_of_ble_eq_true hd) ?_ (updT_cons _ _ _) ?_ (W.anyNs h))
 ·simp only at he
  split at he
  ·rename_i hc
   obtain ⟨rfl, rfl, rfl⟩ := hc
   cases he
   exact hK
  ·cases he
 ·rw [hlb, hlt]
  simp only [effOf]
  unfold effCall
  have hcal : calleeOf lt (.func g) = some (g, []) := rfl
  have hevF : ev lt (.func F) = some (.one false [.d (.v (.func (.func F) #[] #[]))]) := rfl
  have h0 : effCall0 P (fun f a b => open Classical in if f = g ∧ a = [.val false [.own (0, 0)], .val false [.d (.v (.func (.func F) #[] #[]))]] ∧ b = [((0, 0), .sl e sz rows)] then some { vals := [], bx := [((0, 0), .sl e sz rows')] } else none) lend nx (keyAt i nx) (.func g) #[x, .func F].toList lt lb = none := by
   unfold effCall0
   simp only [hcal, hbod, if_true]
   have ha : argsOf lt lb (lend g || !([] : List C).isEmpty) #[x, Operand.func F].toList = some ([(false, [.d (.sl sz rows)]), (false, [.d (.v (.func (.func F) #[] #[]))])], (if (lend g || !([] : List C).isEmpty) = true then [] else [q]) ++ []) := by
    simp only [argsOf, hev, hevF, argVals, argVal, toD, hlbq, Option.map_some, List.append_nil]
   rw [ha]
   simp only [argVals]
   unfold effVal
   simp
  rw [h0]
  simp only [hcal, hbod, if_true]
  have hg : argsG lt #[x, Operand.func F].toList = some [(false, [.own q]), (false, [.d (.v (.func (.func F) #[] #[]))])] := by
   simp only [argsG, hev, hevF]
  simp only [hg, List.map_nil, List.append_nil]
  rw [effG_sort (rows' := rows') hlbq (by simp)]
  simp only [Option.map_some]
  unfold dropUp
  have hs : sameUp lb [(q, some (.sl e sz rows')), (q, none)] q = boxEq (.sl e sz rows) (.sl e sz rows') := by
   unfold sameUp
   rw [hlbq]
   simp [lk]
  simp only [List.filter_cons, List.filter_nil, hs]
  cases hbq : boxEq (.sl e sz rows) (.sl e sz rows') <;> simp
 ·split
  ·rename_i hb
   have e1 := boxEq_ok hb
   funext k
   rw [← e1]
   have e3 := congrFun (lko_app [(q, some (.sl e sz rows))] bo) k
   refine e3.trans ?_
   unfold updB lk lk
   by_cases hk : k = q
   ·subst hk; simp [hq]
   ·simp [hk]
  ·have e2 := lko_app [(q, some (.sl e sz rows')), (q, none)] bo
   have e3 := lko_app [(q, some (.sl e sz rows'))] bo
   refine e3.trans ?_
   funext k
   unfold updB lk lk
   by_cases hk : k = q
   ·simp [hk]
   ·simp [hk, lk]
end
end Go.Proofs.YtjpdemikmdfonaaGreatDoor

namespace Go.Proofs.YtjpdemikmdfonaaGreatDoor
open Go Go.RowKit
set_option maxRecDepth 100000
set_option maxHeartbeats 8000000
set_option linter.unusedSimpArgs false
set_option linter.unusedVariables false
def trimS (a : AutD) : AutD := if autErr a = 0 then ⟨((ordP a).length : Int), 0, srtE (trimN a.edges (ordP a) a.edges.length)⟩ else ⟨0, 0, []⟩
theorem trimS_states {a : AutD} (h : autErr a = 0) : (trimS a).states = ((ordP a).length : Int) := by unfold trimS; rw [if_pos h]
theorem trimS_lt {a : AutD} (h : autErr a = 0) (hc : (trimS a).states < a.states) : ¬ ((ordP a).length : Int) = a.states := by
 rw [trimS_states h] at hc; omega
theorem trimS_eq {a : AutD} (h : autErr a = 0) (hc : ¬ (trimS a).states < a.states) : ((ordP a).length : Int) = a.states := by
 rw [trimS_states h] at hc
 have h1 := (ordP_in (autIn_of h)).len
 have h2 := (autIn_of h).start
 omega
theorem bo_sort : BoI Tryz.prog 146 := ⟨by kernel_rfl⟩
theorem ptrim_no (a : AutD) (hl : a.edges.length ≤ 5900000000000) (h : ¬ autErr a = 0) : FnSound Tryz.prog 106 [.val true (autC a)] [] { vals := [(true, autC ⟨0, 0, []⟩), (false, [.d (.v (.int .i64 (autErr a)))])] } := by
 refine startW (tm := [(0, _)]) Tryz.func106 rfl Tryz.ntmps106 rfl rfl rfl rfl ?_
 repeat' (first
 |(with_reducible refine K_ca 144 ?_); refine zC (pautvalid_fn a hl) ?_
 |refine wA ?_
 |(refine wC ?_ ?_ <;> intro hc)
 |refine wB ?_ ?_
 |(with_reducible refine JL.block ?_)
 |(with_reducible refine F_at ?_); refine eW (vs := [(_, _), (_, _)]) Tryz.results106 ?_; (focus (repeat' (first | exact oA | refine oB ?_ | refine oC ?_ ?_ | fail)))
 |exact oM
 |fail)
 all_goals first | rfl | exact absurd (by assumption) h | trace_state
theorem pos_in {o : List Int} {x : Int} (h : 0 ≤ posI o x) : x ∈ o := by
 refine Decidable.by_contra fun g => ?_
 have := posI_neg.2 g
 omega
theorem trim_y {es : List EdgeD} {o : List Int} {S : Int} {k : Nat} (hk : k < es.length) (hf : 0 ≤ (es.getD k nilEd).frm ∧ (es.getD k nilEd).frm < S) (ht : 0 ≤ (es.getD k nilEd).to ∧ (es.getD k nilEd).to < S) (h : 0 ≤ (placeOf S o).getD (es.getD k nilEd).frm.toNat 0) :
    dEdges (trimN es o k ++ [{ frm := (placeOf S o).getD (es.getD k nilEd).frm.toNat 0, send := (es.getD k nilEd).send, label := (es.getD k nilEd).label, to := (placeOf S o).getD (es.getD k nilEd).to.toNat 0 }]) = dEdges (trimN es o (k + 1)) := by
 rw [placeOf_get hf] at h
 rw [placeOf_get hf, placeOf_get ht]
 exact congrArg dEdges (trimN_yes hk (pos_in h)).symm
theorem trim_n {es : List EdgeD} {o : List Int} {S : Int} {k : Nat} (hk : k < es.length) (hf : 0 ≤ (es.getD k nilEd).frm ∧ (es.getD k nilEd).frm < S) (h : ¬ 0 ≤ (placeOf S o).getD (es.getD k nilEd).frm.toNat 0) :
    dEdges (trimN es o k) = dEdges (trimN es o (k + 1)) := by
 rw [placeOf_get hf] at h
 exact congrArg dEdges (trimN_no hk (posI_neg.1 (by omega))).symm
theorem ptrim_fn (a : AutD) (h : autErr a = 0) : FnSound Tryz.prog 106 [.val true (autC a)] [] { vals := [(true, autC ⟨((ordP a).length : Int), 0, srtE (trimN a.edges (ordP a) a.edges.length)⟩), (false, [.d (.v (.int .i64 0))])] } := by
 have hs := autIn_of h
 have hfe := hs.few
 have hmo := hs.most
 have hst := hs.start
 have hol := (ordP_in hs).len
 have ht := fun k => trimN_len (es := a.edges) (o := ordP a) (k := k)
 have hed := fun (k : Nat) (hk : k < a.edges.length) => of_decide_eq_true (hs.edges k hk)
 have hpl := placeOf_len (S := a.states) (o := ordP a)
 have hv := pautvalid_fn a (by omega)
 rw [h] at hv
 refine startW (tm := [(0, _)]) Tryz.func106 rfl Tryz.ntmps106 rfl rfl rfl rfl ?_
 repeat' (first
 |(with_reducible refine K_ca 144 ?_); refine zC (hv) ?_
 |(with_reducible refine K_ca 145 ?_); refine zC (pfound_fn a hs) ?_
 |(with_reducible refine W_at ?_); (first
 |(refine W.callSort rfl bo_sort rfl rfl (psort_fn (trimN a.edges (ordP a) k) (by have := ht k; omega)) ?_))
 |(with_reducible refine blk_at (id := 0) ?_); (try (refine JL.zeroBW (cs2 := [_, _, _]) (192, 600) 2 _ 193 4 rfl rfl rfl rfl ?_)); (refine JL.rekBW (cs2 := [_, _, _]) (192, 600) 2 (1114, 751) rfl rfl rfl rfl rfl rfl ?_); ((with_reducible refine JL.loopW 0 799 (fun (k : Nat) tm => (27, .one false [.d (.v (.int .i64 ((k : Int))))]) :: tm) (fun (k : Nat) bo => ((192, 600), some (.st 92 [.d (.v (.int .i64 (((ordP a).length : Int)))), .d (.v (.int .i64 (0))), .own (1114, 751)])) :: ((1114, 751), some (.sl 193 4 ((dEdges (trimN a.edges (ordP a) k))))) :: bo) (fun (k : Nat) => k ≤ a.edges.length) (fun (k : Nat) => a.edges.length - k) (0) ?_ (fun k hk => have htk := ht k; have hek := hed k; ?_) ?_); (focus (apply SubW [((1114, 751), _)] rfl ?_ ?_ rfl ?_; (repeat' (first | exact kA | refine kB ?_ | refine kC ?_ ?_ | exact kD | fail)))))
 |((with_reducible refine round_next (i := k) (k + 1) ?_ ?_ ?_); (focus (apply SubW [((1114, 751), _)] rfl ?_ ?_ rfl ?_; (repeat' (first | exact kA | refine kB ?_ | refine kC ?_ ?_ | exact kD | fail)))))
 |refine wA ?_
 |(refine wC ?_ ?_ <;> intro hc)
 |refine wB ?_ ?_
 |(with_reducible refine JL.block ?_)
 |(with_reducible refine F_at ?_); refine eW (vs := [(_, _), (_, _)]) Tryz.results106 ?_; (focus (repeat' (first | exact oA | refine oB ?_ | refine oC ?_ ?_ | fail)))
 |exact oM
 |fail)
 all_goals first
  | with_reducible rfl
  | omega
  | rfl
  | (refine trim_y (by omega) ?_ ?_ (by assumption) <;> (have hh := hed k (by omega); omega))
  | (refine trim_n (by omega) ?_ (by assumption); have hh := hed k (by omega); omega)
  | (have hkk : k = a.edges.length := by omega
     subst hkk
     rfl)
  | trace_state
theorem ptrim_all (a : AutD) (hl : a.edges.length ≤ 5900000000000) : FnSound Tryz.prog 106 [.val true (autC a)] [] { vals := [(true, autC (trimS a)), (false, [.d (.v (.int .i64 (autErr a)))])] } := by
 unfold trimS
 by_cases h : autErr a = 0
 ·rw [if_pos h, h]; exact ptrim_fn a h
 ·rw [if_neg h]; exact ptrim_no a hl h
end Go.Proofs.YtjpdemikmdfonaaGreatDoor

namespace Go.Proofs.YtjpdemikmdfonaaGreatDoor
open Go Go.RowKit
set_option maxRecDepth 100000
set_option maxHeartbeats 8000000
set_option linter.unusedSimpArgs false
set_option linter.unusedVariables false
theorem ses_bad {n : Nat} {x : SesD} {i : Nat} (hf : ¬ (16 : Int) < x.msgs.length) (h0 : leftQ (msgQ x.msgs) 0 = leftQ (msgQ x.msgs) i) (h : leftQ (msgQ x.msgs) i = false) : 1 = sesErr n x := ses_1 hf (names_no h0 h).symm
theorem ses_nm {n : Nat} {x : SesD} {i : Nat} (hf : ¬ (16 : Int) < x.msgs.length) (h0 : leftQ (msgQ x.msgs) 0 = leftQ (msgQ x.msgs) i) (hi : i = x.msgs.length) (h : isNameP x.name = false) : 1 = sesErr n x := ses_1 hf (by rw [← names_end h0 hi]; exact h)
theorem sesGo_of {n : Nat} {x : SesD} {i : Nat} (hf : ¬ (16 : Int) < x.msgs.length) (h0 : leftQ (msgQ x.msgs) 0 = leftQ (msgQ x.msgs) i) (hi : i = x.msgs.length) (h : isNameP x.name = true) : SesGo n x := ⟨hf, by rw [← names_end h0 hi]; exact h⟩
theorem pproper31_fn (l : List TypD) (x : SesD) (hl : l.length ≤ 5900000000000) (hx : x.msgs.length ≤ 5900000000000 ∧ x.auto.edges.length ≤ 5900000000000) : FnSound Tryz.prog 80 [.val true (schC l), .val true (sesC x)] [] { vals := [(false, [.d (.v (.int .i64 (sesErr l.length x)))])] } := by
 have hn := msgQ_len x.msgs
 have gm := fun (k : Nat) (h : k < x.msgs.length) => msgQ_get (l := x.msgs) h
 refine startW (tm := [(0, _), (1, _)]) Tryz.func80 rfl Tryz.ntmps80 rfl rfl rfl rfl ?_
 repeat' (first
 |(with_reducible refine K_ca 15 ?_); refine zC (pname_fn _) ?_
 |(with_reducible refine K_ca 106 ?_); refine zC (ptrim_all x.auto hx.2) ?_
 |(with_reducible refine K_ca 107 ?_); refine zC (pmsg_fn x _ hx.1) ?_
 |(with_reducible refine W_at ?_); (first
 |(refine W.mapNew _ rfl m64 ?_)
 |(refine W.mapGet mp_sb rfl rfl rfl rfl ?_)
 |(refine W.mapPut mp_sb rfl rfl rfl rfl ?_))
 |(with_reducible refine blk_at (id := 0) ?_); ((with_reducible refine JL.loopW 0 699 (fun (i : Nat) tm => (25, .one false [.d (.v (.int .i64 ((i : Int))))]) :: (6, .one false [.d (.v (.int .i64 ((befQ (msgQ x.msgs) i))))]) :: tm) (fun (i : Nat) bo => ((0, 400), some (.mp (mEnts 0 (seenN (msgQ x.msgs) i)).toArray (seenN (msgQ x.msgs) i).length)) :: bo) (fun (i : Nat) => i ≤ x.msgs.length ∧ leftQ (msgQ x.msgs) 0 = leftQ (msgQ x.msgs) i ∧ 0 ≤ befQ (msgQ x.msgs) i) (fun (i : Nat) => x.msgs.length - i) (0) ?_ (fun i hi => ?_) ?_); (focus (apply SubW [] rfl ?_ ?_ rfl ?_; (repeat' (first | exact kA | refine kB ?_ | refine kC ?_ ?_ | exact kD | fail)))))
 |((with_reducible refine round_next (i := i) (i + 1) ?_ ?_ ?_); (focus (apply SubW [] rfl ?_ ?_ rfl ?_; (repeat' (first | exact kA | refine kB ?_ | refine kC ?_ ?_ | exact kD | fail)))))
 |(with_reducible refine blk_at (id := 2) ?_); ((with_reducible refine JL.loopW 2 1699 (fun (k : Nat) tm => (63, .one false [.d (.v (.int .i64 ((k : Int))))]) :: tm) (fun (k : Nat) bo => bo) (fun (k : Nat) => k ≤ x.msgs.length ∧ ∀ j, j < k → outT l.length (x.msgs.getD j nilMs).typ = false) (fun (k : Nat) => x.msgs.length - k) (0) ?_ (fun k hk => ?_) ?_); (focus (apply SubW [] rfl ?_ ?_ rfl ?_; (repeat' (first | exact kA | refine kB ?_ | refine kC ?_ ?_ | exact kD | fail)))))
 |((with_reducible refine round_next (i := k) (k + 1) ?_ ?_ ?_); (focus (apply SubW [] rfl ?_ ?_ rfl ?_; (repeat' (first | exact kA | refine kB ?_ | refine kC ?_ ?_ | exact kD | fail)))))
 |(with_reducible refine blk_at (id := 4) ?_); ((with_reducible refine JL.loopW 4 2599 (fun (u : Nat) tm => (92, .one false [.d (.v (.int .i64 ((u : Int))))]) :: tm) (fun (u : Nat) bo => bo) (fun (u : Nat) => u ≤ x.auto.edges.length ∧ ∀ j, j < u → (msgAt x.msgs (x.auto.edges.getD j nilEd).label).isSome = true) (fun (u : Nat) => x.auto.edges.length - u) (0) ?_ (fun u hu => ?_) ?_); (focus (apply SubW [] rfl ?_ ?_ rfl ?_; (repeat' (first | exact kA | refine kB ?_ | refine kC ?_ ?_ | exact kD | fail)))))
 |((with_reducible refine round_next (i := u) (u + 1) ?_ ?_ ?_); (focus (apply SubW [] rfl ?_ ?_ rfl ?_; (repeat' (first | exact kA | refine kB ?_ | refine kC ?_ ?_ | exact kD | fail)))))
 |refine wA ?_
 |(refine wC ?_ ?_ <;> intro hc)
 |refine wB ?_ ?_
 |(with_reducible refine JL.block ?_)
 |(with_reducible refine F_at ?_); refine eW (vs := [(_, _)]) Tryz.results80 ?_; (focus (repeat' (first | exact oA | refine oB ?_ | refine oC ?_ ?_ | fail)))
 |exact oM
 |fail)
 all_goals first
  | with_reducible rfl
  | omega
  | rfl
  | exact ⟨Nat.zero_le _, rfl, by show (0 : Int) ≤ 0; omega⟩
  | exact ⟨Nat.zero_le _, fun j hj => absurd hj (Nat.not_lt_zero j)⟩
  | exact ses_3 hc
  | (refine ses_bad (by assumption) hi.2.1 (q_id (by omega) ?_); rw [gm i (by omega)]; omega)
  | (refine ses_bad (by assumption) hi.2.1 (q_nm (by omega) ?_); rw [gm i (by omega)]; exact hc)
  | (refine ses_bad (by assumption) hi.2.1 (q_dup2 (by omega) ?_); rw [gm i (by omega)]; exact hc)
  | (refine (congrArg (addS _) ?_).trans (seenN_add (by omega) ?_) <;> rw [gm i (by omega)]; assumption)
  | (show _ = ((msgQ x.msgs).getD i nilQ).1; rw [gm i (by omega)]; done)
  | (refine ⟨by omega, hi.2.1.trans (q_ok2 (by omega) ?_ ?_ ?_), ?_⟩
     ·rw [gm i (by omega)]; omega
     ·rw [gm i (by omega)]; exact nf (by assumption)
     ·rw [gm i (by omega)]; assumption
     ·show 0 ≤ ((msgQ x.msgs).getD i nilQ).1; rw [gm i (by omega)]; omega)
  | exact ses_nm (by assumption) hi.2.1 (by omega) (nt hc)
  | (have G := sesGo_of (n := l.length) (by assumption) hi.2.1 (by omega) (nf (b := isNameP x.name) (by assumption))
     first
      | exact ses_4 (j := k) G (by omega) (decide_eq_true (by omega))
      | exact ⟨by omega, lt_next hk.2 (decide_eq_false (by omega))⟩
      | exact ses_a G (fun j hj => hk.2 j (by omega)) hc
      | exact ses_l (j := u) G (fun j hj => hk.2 j (by omega)) (by omega) (by omega) (nt hc)
      | exact ⟨by omega, lt_next hu.2 (nf hc)⟩
      | (rw [← ses_end G (fun j hj => hk.2 j (by omega)) (by omega) (fun j hj => hu.2 j (by omega)), if_neg (trimS_lt (by omega) hc)]; done)
      | (rw [← ses_end G (fun j hj => hk.2 j (by omega)) (by omega) (fun j hj => hu.2 j (by omega)), if_pos (trimS_eq (by omega) hc)]; done)
      | fail)
  | trace_state
theorem pses_fn (l : List TypD) (x : SesD) (hs : smTs l) (h : schemaErr l = 0) (hx : x.msgs.length ≤ 5900000000000 ∧ x.auto.edges.length ≤ 5900000000000) : FnSound Tryz.prog 62 [.val true (schC l), .val true (sesC x)] [] { vals := [(false, [.d (.v (.int .i64 (sesErr l.length x)))])] } := by
 have hv := pschema_fn l hs
 rw [h] at hv
 have hl := hs.1
 refine startW (tm := [(0, _), (1, _)]) Tryz.func62 rfl Tryz.ntmps62 rfl rfl rfl rfl ?_
 repeat' (first
 |(with_reducible refine K_ca 79 ?_); refine zC (hv) ?_
 |(with_reducible refine K_ca 80 ?_); refine zC (pproper31_fn l x hl hx) ?_
 |refine wA ?_
 |(refine wC ?_ ?_ <;> intro hc)
 |refine wB ?_ ?_
 |(with_reducible refine JL.block ?_)
 |(with_reducible refine F_at ?_); refine eW (vs := [(_, _)]) Tryz.results62 ?_; (focus (repeat' (first | exact oA | refine oB ?_ | refine oC ?_ ?_ | fail)))
 |exact oM
 |fail)
 all_goals first | with_reducible rfl | trace_state
end Go.Proofs.YtjpdemikmdfonaaGreatDoor

