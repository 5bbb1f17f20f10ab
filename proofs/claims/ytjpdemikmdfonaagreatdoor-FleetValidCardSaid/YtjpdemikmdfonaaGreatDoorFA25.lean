/- Rules of runs and contracts of functions, for the claims of one seat. -/
import Derived.Test.YtjpdemikmdfonaaGreatDoorFA23
import Derived.Test.YtjpdemikmdfonaaGreatDoorFA24
namespace Go.Proofs.YtjpdemikmdfonaaGreatDoor
open Go.ChangeShapes Go.WideShapes Go.ChangeAt Go.RowKit Go.Joins Go.Deep
set_option maxRecDepth 100000
set_option maxHeartbeats 8000000
set_option linter.unusedSimpArgs false
set_option linter.unusedVariables false
section
variable {H : Type} {enc : TypeId × Value → H} {w : World} {base : Nat} {spare : Nat → Bool} {held : Bool} {S : Nat → Prop}
theorem cellsX0 : Tryz.prog.cellsOf 44 = 1 := by kernel_rfl
theorem cellsX1 : Tryz.prog.cellsOf 22 = 1 := by kernel_rfl
theorem cellsX2 : Tryz.prog.cellsOf 23 = 1 := by kernel_rfl
theorem open_vers (hS : ∀ b, S b) {fuel : Nat} {v : Value} {x : DataW H × List MemPlace} (hs : Sz Tryz.prog 44 x.1) (hf : DataW.trod enc Tryz.prog w base spare held fuel 44 [v] = some x) : ∃ l : List VerD, Rd S w (.sl 5 (dVers l)) v ∧ l.length ≤ 5900000000000 ∧ ∀ x ∈ l, SmV x := by
 obtain ⟨l, h1, h2, h3⟩ := open_rdL (S := S) hS verRow SmV Tryz.underlying44 (k := 5) (by kernel_rfl) (by decide) hs (by kernel_rfl) hf (fun cs y m hl ht hsy _ => by
  obtain ⟨n', _, hfd⟩ := trod_fields Tryz.underlying55 hsy ht
  match cs, hl with
  | [u0, u1, u2, u3, u4], _ =>
   obtain ⟨y0, t0, s0⟩ := hfd 0 _ rfl
   obtain ⟨y1, t1, s1⟩ := hfd 1 _ rfl
   obtain ⟨y2, t2, s2⟩ := hfd 2 _ rfl
   obtain ⟨y3, t3, s3⟩ := hfd 3 _ rfl
   obtain ⟨y4, t4, s4⟩ := hfd 4 _ rfl
   simp [cellsS, cellsD, cellsL5, cellsL8, cellsL9] at t0 t1 t2 t3 t4
   obtain ⟨n1, _, hfe⟩ := trod_fields Tryz.underlying50 s1 t1
   obtain ⟨y5, t5, s5⟩ := hfe 0 _ rfl
   simp [cellsL4] at t5
   obtain ⟨v0, rfl⟩ := trod_str' Tryz.underlying9 t0
   obtain ⟨l1, r1, q1⟩ := open_types hS s5 t5
   obtain ⟨l2, r2, q2⟩ := open_calls hS s2 t2
   obtain ⟨l3, r3, q3, b3⟩ := open_sess hS s3 t3
   obtain ⟨l4, r4, q4⟩ := open_tops hS s4 t4
   exact ⟨⟨v0, l1, l2, l3, l4⟩, .cons (.v rfl) (.cons r1 (.cons r2 (.cons r3 (.one r4)))), ⟨q1, q2, q4, q3, fun i hi => b3 _ (getD_inV hi)⟩⟩)
 exact ⟨l, h1, h2, h3⟩
theorem open_srvs (hS : ∀ b, S b) {fuel : Nat} {v : Value} {x : DataW H × List MemPlace} (hs : Sz Tryz.prog 22 x.1) (hf : DataW.trod enc Tryz.prog w base spare held fuel 22 [v] = some x) : ∃ l : List SrvD, Rd S w (.sl 4 (dSrvs l)) v ∧ l.length ≤ 5900000000000 ∧ ∀ x ∈ l, SmSrv x := by
 obtain ⟨l, h1, h2, h3⟩ := open_rdL (S := S) hS srvRow SmSrv Tryz.underlying22 (k := 4) (by kernel_rfl) (by decide) hs (by kernel_rfl) hf (fun cs y m hl ht hsy _ => by
  obtain ⟨n', _, hfd⟩ := trod_fields Tryz.underlying46 hsy ht
  match cs, hl with
  | [u0, u1, u2, u3], _ =>
   obtain ⟨y0, t0, s0⟩ := hfd 0 _ rfl
   obtain ⟨y1, t1, s1⟩ := hfd 1 _ rfl
   obtain ⟨y2, t2, s2⟩ := hfd 2 _ rfl
   obtain ⟨y3, t3, s3⟩ := hfd 3 _ rfl
   simp [cellsI, cellsS, cellsX0] at t0 t1 t2 t3
   obtain ⟨v0, rfl⟩ := trod_str' Tryz.underlying9 t0
   obtain ⟨l1, r1, q1, b1⟩ := open_vers hS s1 t1
   obtain ⟨v2, rfl, _⟩ := trod_i64 Tryz.underlying3 t2
   obtain ⟨v3, rfl, _⟩ := trod_i64 Tryz.underlying3 t3
   exact ⟨⟨v0, l1, v2, v3⟩, .cons (.v rfl) (.cons r1 (.cons (.v rfl) (.one (.v rfl)))), ⟨q1, fun i hi => b1 _ (getD_inV hi)⟩⟩)
 exact ⟨l, h1, h2, h3⟩
theorem open_lnks (hS : ∀ b, S b) {fuel : Nat} {v : Value} {x : DataW H × List MemPlace} (hs : Sz Tryz.prog 23 x.1) (hf : DataW.trod enc Tryz.prog w base spare held fuel 23 [v] = some x) : ∃ l : List LnkD, Rd S w (.sl 6 (dLnks l)) v ∧ l.length ≤ 5900000000000 := by
 obtain ⟨l, h1, h2, _⟩ := open_rdL (S := S) hS lnkRow (fun _ => True) Tryz.underlying23 (k := 6) (by kernel_rfl) (by decide) hs (by kernel_rfl) hf (fun cs y m hl ht hsy _ => by
  obtain ⟨n', _, hfd⟩ := trod_fields Tryz.underlying60 hsy ht
  match cs, hl with
  | [u0, u1, u2, u3, u4, u5], _ =>
   obtain ⟨y0, t0, _⟩ := hfd 0 _ rfl
   obtain ⟨y1, t1, _⟩ := hfd 1 _ rfl
   obtain ⟨y2, t2, _⟩ := hfd 2 _ rfl
   obtain ⟨y3, t3, _⟩ := hfd 3 _ rfl
   obtain ⟨y4, t4, _⟩ := hfd 4 _ rfl
   obtain ⟨y5, t5, _⟩ := hfd 5 _ rfl
   simp [cellsI, cellsB, cellsS] at t0 t1 t2 t3 t4 t5
   obtain ⟨z0, rfl, _⟩ := trod_i64 Tryz.underlying3 t0
   obtain ⟨z1, rfl⟩ := trod_str' Tryz.underlying9 t1
   obtain ⟨z2, rfl, _⟩ := trod_i64 Tryz.underlying3 t2
   obtain ⟨z3, rfl, _⟩ := trod_i64 Tryz.underlying3 t3
   obtain ⟨z4, rfl⟩ := trod_bool' Tryz.underlying4 t4
   obtain ⟨z5, rfl, _⟩ := trod_i64 Tryz.underlying3 t5
   exact ⟨⟨z0, z1, z2, z3, z4, z5⟩, .cons (.v rfl) (.cons (.v rfl) (.cons (.v rfl) (.cons (.v rfl) (.cons (.v rfl) (.one (.v rfl)))))), trivial⟩)
 exact ⟨l, h1, h2⟩
theorem open_flt (hS : ∀ b, S b) {r : Reach} {b0 : Nat} {v : Value} {d : DataW H} {p : List MemPlace} (hv : Value.okWide Tryz.prog w r b0 25 v) (hs : Sz Tryz.prog 25 d) (h : DataW.Trod enc Tryz.prog w base spare held 25 v d p) :
    ∃ (s : List SrvD) (l : List LnkD), (∀ (ρ : Key → Hd) (ok : Key → Prop), AVRel (CRel S ρ ok w) (.one true (fltC s l)) v) ∧ SmF s l := by
 have c2 : Tryz.prog.cellsOf 25 = 2 := by kernel_rfl
 unfold Value.okWide at hv
 rw [Tryz.underlying25] at hv
 obtain ⟨cs, rfl, hsz, _⟩ := hv
 obtain ⟨fuel, hf⟩ := h
 obtain ⟨n, hl, hfd⟩ := trod_fields Tryz.underlying25 (by exact hs) hf
 rw [c2] at hsz
 obtain ⟨cs⟩ := cs
 match cs, hsz with
 | [u0, u1], _ =>
  obtain ⟨y0, t0, s0⟩ := hfd 0 _ rfl
  obtain ⟨y1, t1, s1⟩ := hfd 1 _ rfl
  clear hfd hf hl
  simp [cellsX1, cellsX2, Value.cells] at t0 t1
  obtain ⟨l0, r0, q0, b0⟩ := open_srvs hS s0 t0
  obtain ⟨l1, r1, q1⟩ := open_lnks hS s1 t1
  exact ⟨l0, l1, fun ρ ok => ⟨[u0, u1], .cons r0 (.cons r1 .nil), by simp⟩, ⟨q0, q1, fun i hi => b0 _ (getD_inV hi)⟩⟩
end
end Go.Proofs.YtjpdemikmdfonaaGreatDoor

