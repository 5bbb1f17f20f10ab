/-
  A region that draws its order, whose operations read and whose callees only make memory: one walk in the order of the text serves every order. The library's theorem on quiet regions, at the class of all worlds that have grown out of one.
-/
import Derived.Test.YtnaknldbmapolaaGreatDoorData
import Derived.BigQuiet
namespace Go.Proofs.YtnaknldbmapolaaGreatDoor
open Go.RowKit
set_option linter.unusedSimpArgs false
set_option linter.unusedVariables false
/-- The worlds that have grown out of W. -/
structure Gr (W : World) where
  w : World
  ok : Below W.heap.size W w
instance (W : World) : Nonempty (Gr W) := ⟨⟨W, ext_refl W⟩⟩
theorem wp_region_gr {P : Program} {id : Nat} {Q : Exit → Act → World → Prop} {a : Act} {w : World} {l : List Oper} (hm : P.follows .mixedOrders = true) (hB : Region.lexB .any l.toArray = true)
    (h : wpQuiet P l.toArray (fun w' => ∃ x : Gr w, w' = x.w) (fun a' => ∀ w', (∃ x : Gr w, w' = x.w) → Q .normal a' w') l a) : (Code.region id l.toArray true).wp P Q a w :=
  wp_region_quiet (C := fun w' => ∃ x : Gr w, w' = x.w) hm hB ⟨⟨_, ext_drew (ext_refl _)⟩, rfl⟩ (by simpa using h)
theorem gr_of {P : Program} {f : FuncId} {args : Array Value} {W : World} {x : Gr W} {v : Value}
    (h : Calls P f args x.w fun e w' => e = .returned v ∧ Below x.w.heap.size x.w w') : Calls P f args x.w fun e w'' => e = .returned v ∧ ∃ m : Gr W, w'' = m.w :=
  h.mono fun _ _ ⟨he, hb⟩ => ⟨he, ⟨_, ext_step x.ok hb⟩, rfl⟩
theorem gr_out {W w4 : World} (h : ∃ x : Gr W, w4 = x.w) : Below W.heap.size W w4 := by obtain ⟨x, hx⟩ := h; rw [hx]; exact x.ok
theorem gr_cell {W : World} {b o : Nat} {v : Value} (hlt : b < W.heap.size) (h : W.cell? ⟨b, o, none⟩ = some v) (x : Gr W) : x.w.cell? ⟨b, o, none⟩ = some v := (x.ok.cell (p := ⟨b, o, none⟩) hlt).trans h
theorem gr_cell0 {W w' : World} (hB : Below W.heap.size W w') {b o : Nat} {v : Value} (hlt : b < W.heap.size) (h : W.cell? ⟨b, o, none⟩ = some v) : w'.cell? ⟨b, o, none⟩ = some v := (hB.cell (p := ⟨b, o, none⟩) hlt).trans h
theorem gr_blk {W : World} {g : Nat} {t : TypeId} {cs : Array Value} (h : Blk W g t cs) (x : Gr W) (i : Nat) : x.w.cell? ⟨g, i, none⟩ = cs[i]? := (h.ext x.ok).cell i
end Go.Proofs.YtnaknldbmapolaaGreatDoor
