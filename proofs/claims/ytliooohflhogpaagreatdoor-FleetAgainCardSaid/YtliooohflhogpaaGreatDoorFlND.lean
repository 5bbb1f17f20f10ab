/-
  Drafts of problems as arguments.
-/
import Derived.Test.YtliooohflhogpaaGreatDoorRowD
import Derived.Test.YtliooohflhogpaaGreatDoorFlOP
import Derived.Test.YtliooohflhogpaaGreatDoorFlW
namespace Go.Proofs.YtliooohflhogpaaGreatDoor
open Go.ChangeShapes Go.WideShapes Go.ChangeAt Go.RowKit Go.Joins Go.Deep
set_option linter.unusedSimpArgs false
set_option linter.unusedVariables false
set_option maxRecDepth 100000
section
variable {H : Type} {enc : TypeId × Value → H} {w : World} {base : Nat} {spare : Nat → Bool} {held : Bool} {S : Nat → Prop}
theorem trod_u16 {P : Program} {n : Nat} {t : TypeId} {v : Value} {y : DataW H × List MemPlace} (ht : P.underlying t = some (.int .u16)) (h : DataW.trod enc P w base spare held n t [v] = some y) : ∃ z, v = .int .u16 z ∧ (0 ≤ z ∧ z < 65536) := by
  obtain ⟨z, h1, _, h2⟩ := DataW.trod_int ht h
  simp at h1
  refine ⟨z, h1, ?_⟩
  simp [Lit.wf, IntKind.min, IntKind.max, IntKind.signed, IntKind.bits] at h2
  omega
theorem open_setsD (hS : ∀ b, S b) {fuel : Nat} {v : Value} {x : DataW H × List MemPlace} (hs : Sz Tryz.prog 37 x.1) (hf : DataW.trod enc Tryz.prog w base spare held fuel 37 [v] = some x) : ∃ l : List Int, Rd S w (.sl 1 (dSets l)) v ∧ u8s l := by
  obtain ⟨l, h1, h2, h3⟩ := open_rd (S := S) hS (fun x : Int => [.v (.int .u8 x)]) (fun x => 0 ≤ x ∧ x < 256) Tryz.underlying37 (k := 1) (by kernel_rfl) (by decide) hs (by kernel_rfl) hf (fun cs y m hl ht hsy => by
    match cs, hl with
    | [u], _ =>
      obtain ⟨z, rfl, hz⟩ := trod_u8 Tryz.underlying5 ht
      exact ⟨z, RowAt.one (.v rfl), by omega⟩)
  exact ⟨l, h1, h3⟩
theorem open_linksD (hS : ∀ b, S b) {fuel : Nat} {v : Value} {x : DataW H × List MemPlace} (hs : Sz Tryz.prog 38 x.1) (hf : DataW.trod enc Tryz.prog w base spare held fuel 38 [v] = some x) : ∃ l : List LinkD, Rd S w (.sl 6 (dLinks l)) v ∧ ∀ t ∈ l, linkOK t := by
  have cI : Tryz.prog.cellsOf 5 = 1 := by kernel_rfl
  have cB : Tryz.prog.cellsOf 4 = 1 := by kernel_rfl
  have cM : Tryz.prog.cellsOf 68 = 1 := by kernel_rfl
  obtain ⟨l, h1, h2, h3⟩ := open_rd (S := S) hS linkRow linkOK Tryz.underlying38 (k := 6) (by kernel_rfl) (by decide) hs (by kernel_rfl) hf (fun cs y m hl ht hsy => by
    obtain ⟨n', _, hfd⟩ := trod_fields Tryz.underlying70 hsy ht
    match cs, hl with
    | [u0, u1, u2, u3, u4, u5], _ =>
      obtain ⟨y0, t0, _⟩ := hfd 0 _ rfl
      obtain ⟨y1, t1, _⟩ := hfd 1 _ rfl
      obtain ⟨y2, t2, _⟩ := hfd 2 _ rfl
      obtain ⟨y3, t3, _⟩ := hfd 3 _ rfl
      obtain ⟨y4, t4, s4⟩ := hfd 4 _ rfl
      obtain ⟨y5, t5, s5⟩ := hfd 5 _ rfl
      simp [cI, cB, cM] at t0 t1 t2 t3 t4 t5
      obtain ⟨z0, rfl, a0⟩ := trod_u8 Tryz.underlying5 t0
      obtain ⟨z1, rfl, a1⟩ := trod_u8 Tryz.underlying5 t1
      obtain ⟨z2, rfl, a2⟩ := trod_u8 Tryz.underlying5 t2
      obtain ⟨z3, rfl⟩ := trod_bool' Tryz.underlying4 t3
      obtain ⟨z4, rfl, a4⟩ := trod_u16 Tryz.underlying68 t4
      obtain ⟨z5, rfl, a5⟩ := trod_u16 Tryz.underlying68 t5
      exact ⟨⟨z0, z1, z2, z3, z4, z5⟩, .cons (.v rfl) (.cons (.v rfl) (.cons (.v rfl) (.cons (.v rfl) (.cons (.v rfl) (.one (.v rfl)))))), ⟨by simp only; omega, by simp only; omega⟩, ⟨by simp only; omega, by simp only; omega⟩, ⟨by simp only; omega, by simp only; omega⟩, ⟨by simp only; omega, by simp only; omega⟩, ⟨by simp only; omega, by simp only; omega⟩⟩)
  exact ⟨l, h1, h3⟩
theorem open_draftD (hS : ∀ b, S b) {r : Reach} {b0 : Nat} {v : Value} {d : DataW H} {p : List MemPlace} (hv : Value.okWide Tryz.prog w r b0 40 v) (hs : Sz Tryz.prog 40 d) (h : DataW.Trod enc Tryz.prog w base spare held 40 v d p) :
    ∃ x : DraftD, (∀ (ρ : Key → Hd) (ok : Key → Prop), AVRel (CRel S ρ ok w) (.one true (draftC x)) v) ∧ draftOK x := by
  have cI : Tryz.prog.cellsOf 37 = 1 := by kernel_rfl
  have cT : Tryz.prog.cellsOf 38 = 1 := by kernel_rfl
  have c4 : Tryz.prog.cellsOf 40 = 4 := by kernel_rfl
  unfold Value.okWide at hv
  rw [Tryz.underlying40] at hv
  obtain ⟨cs, rfl, hsz, _⟩ := hv
  obtain ⟨fuel, hf⟩ := h
  obtain ⟨n, hl, hfd⟩ := trod_fields Tryz.underlying40 (by exact hs) hf
  rw [c4] at hsz
  obtain ⟨cs⟩ := cs
  match cs, hsz with
  | [u0, u1, u2, u3], _ =>
    obtain ⟨y0, t0, s0⟩ := hfd 0 _ rfl
    obtain ⟨y1, t1, s1⟩ := hfd 1 _ rfl
    obtain ⟨y2, t2, s2⟩ := hfd 2 _ rfl
    obtain ⟨y3, t3, s3⟩ := hfd 3 _ rfl
    clear hfd hf hl
    simp [cI, cT, Value.cells] at t0 t1 t2 t3
    obtain ⟨l0, r0, q0⟩ := open_setsD hS s0 t0
    obtain ⟨l1, r1, q1⟩ := open_setsD hS s1 t1
    obtain ⟨l2, r2, q2⟩ := open_setsD hS s2 t2
    obtain ⟨l3, r3, q3⟩ := open_linksD hS s3 t3
    exact ⟨⟨l0, l1, l2, l3⟩, fun ρ ok => ⟨[u0, u1, u2, u3], .cons r0 (.cons r1 (.cons r2 (.cons r3 .nil))), by simp⟩, q0, q1, q2, q3⟩
theorem open_u8A (hS : ∀ b, S b) {r : Reach} {b0 : Nat} {v : Value} {d : DataW H} {p : List MemPlace} (hv : Value.okWide Tryz.prog w r b0 5 v) (hs : Sz Tryz.prog 5 d) (h : DataW.Trod enc Tryz.prog w base spare held 5 v d p) :
    ∃ x : Int, (∀ (ρ : Key → Hd) (ok : Key → Prop), AVRel (CRel S ρ ok w) (.one false [.d (.v (.int .u8 x))]) v) ∧ (0 ≤ x ∧ x < 256) := by
  obtain ⟨z, rfl⟩ := okWide_int Tryz.underlying5 hv
  obtain ⟨fuel, hf⟩ := h
  obtain ⟨z', h1, h2⟩ := trod_u8 (v := .int .u8 z) Tryz.underlying5 hf
  cases h1
  exact ⟨z, fun ρ ok => ⟨[_], .cons (.v rfl) .nil, by simp⟩, by omega⟩
end
end Go.Proofs.YtliooohflhogpaaGreatDoor
