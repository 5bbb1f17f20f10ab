/- Rules of runs and contracts of functions, for the claims of one seat. -/
import Derived.Deep.Cut
import Derived.Deep.OwnRows
import Derived.Laws.CopyRow
import Derived.Lib.SliceRun
import Derived.StillTailTactics
import Derived.Test.YtfnljcallbalgaaGreatDoorUA14
import Derived.Test.YtfnljcallbalgaaGreatDoorUA2
import Derived.Test.YtfnljcallbalgaaGreatDoorUA6
import Derived.Test.YtfnljcallbalgaaGreatDoorUA8
namespace Go.Proofs.YtfnljcallbalgaaGreatDoor
open Go.RowKit
set_option linter.unusedSimpArgs false
set_option linter.unusedVariables false
set_option maxHeartbeats 1000000
set_option maxRecDepth 100000
def NewSl (w : World) (t : TypeId) (sz n : Nat) (xs : List Value) (e : Ending) (w' : World) : Prop :=
 ∃ A c, e = .returned (.slice A n c) ∧ Own w.heap.size w' t sz A n c xs ∧ (n = 0 → c = 0) ∧ Below w.heap.size w w'
theorem infoInt : (Tryz.prog.info? 3).map (fun i => (i.zero, i.size, i.bytes)) = some (some (.int .i64 0), 1, 8) := by kernel_rfl
theorem cloneInt (A : Option Addr) (n c : Nat) (xs : List Value) (w : World) (h : Cells w A xs) (hl : xs.length = n * 1) (h1 : ∀ u ∈ xs, u.oneCell' = true) (hb : n * 8 ≤ 140737488355328) :
    Calls Tryz.prog 54 #[.slice A n c] w (NewSl w 3 1 n xs) := by
 obtain ⟨i, hi, hz0, hz1, hz2⟩ := info_parts infoInt
 have HC := hid h
 have qn : ∀ (w : World) (a : Option Addr) (n c n' c' : Nat), (binOp .eql 22 (.slice a n c) (.slice none n' c')).run Tryz.prog w = .ok (.bool a.isNone) w := fun w a n c n' c' => Lib.run_eql_slice_nil w _ _ a n c n' c' Tryz.underlying22
 clear h
 cases A with
 | none =>
  have hx0 : xs.length = 0 := HC.out.none rfl
  obtain rfl : n = 0 := by omega
  obtain rfl : xs = [] := List.length_eq_zero_iff.1 hx0
  go_enter Tryz.func54, Tryz.ntmps54
  go_wp2
  go_ret
  exact ⟨none, 0, rfl, Own.nil _ _ _ _ _, fun _ => rfl, ext_refl _⟩
 | some a =>
  go_enter Tryz.func54, Tryz.ntmps54
  have hW : (w.alloc (.cells #[] 3)).heap.size = w.heap.size + 1 := by simp
  go_wp2_with (at_builtin; refine wpList_app rfl (.tmp 5) (.tmp 6) 22 22 rfl _ 0 0 (0 + n) (.slice (some a) n c) (by rfl) (by rfl) (run_own0 (w := w.alloc (.cells #[] 3)) w.heap.size (by omega) 22 22 _ 3 i _ Tryz.underlying22 hi hz0 (by rw [hz1]; rfl) _ _ n xs (by rw [hz1]; exact src_cells Tryz.underlying22 (HC.out.ext (ext_alloc (ext_refl _) _)) hl (fun e => by cases e) h1) (by rw [hz2]; omega) (by omega)) ?_; intro A' c' w' hR; have HR := hid hR; clear hR)
  obtain ⟨hO, hC, hB⟩ := HR.out
  rw [hz1, Nat.zero_add] at hO
  go_ret
  exact ⟨A', c', by simp, hO, hC, (ext_alloc (ext_refl _) _).trans hB⟩
theorem infoSet : (Tryz.prog.info? 183).map (fun i => (i.zero, i.size, i.bytes)) = some (some (.int .u8 0), 1, 1) := by kernel_rfl
theorem cloneSet (A : Option Addr) (n c : Nat) (xs : List Value) (w : World) (h : Cells w A xs) (hl : xs.length = n * 1) (h1 : ∀ u ∈ xs, u.oneCell' = true) (hb : n * 1 ≤ 140737488355328) :
    Calls Tryz.prog 310 #[.slice A n c] w (NewSl w 183 1 n xs) := by
 obtain ⟨i, hi, hz0, hz1, hz2⟩ := info_parts infoSet
 have HC := hid h
 have qn : ∀ (w : World) (a : Option Addr) (n c n' c' : Nat), (binOp .eql 55 (.slice a n c) (.slice none n' c')).run Tryz.prog w = .ok (.bool a.isNone) w := fun w a n c n' c' => Lib.run_eql_slice_nil w _ _ a n c n' c' Tryz.underlying55
 clear h
 cases A with
 | none =>
  have hx0 : xs.length = 0 := HC.out.none rfl
  obtain rfl : n = 0 := by omega
  obtain rfl : xs = [] := List.length_eq_zero_iff.1 hx0
  go_enter Tryz.func310, Tryz.ntmps310
  go_wp2
  go_ret
  exact ⟨none, 0, rfl, Own.nil _ _ _ _ _, fun _ => rfl, ext_refl _⟩
 | some a =>
  go_enter Tryz.func310, Tryz.ntmps310
  have hW : (w.alloc (.cells #[] 183)).heap.size = w.heap.size + 1 := by simp
  go_wp2_with (at_builtin; refine wpList_app rfl (.tmp 5) (.tmp 6) 55 55 rfl _ 0 0 (0 + n) (.slice (some a) n c) (by rfl) (by rfl) (run_own0 (w := w.alloc (.cells #[] 183)) w.heap.size (by omega) 55 55 _ 183 i _ Tryz.underlying55 hi hz0 (by rw [hz1]; rfl) _ _ n xs (by rw [hz1]; exact src_cells Tryz.underlying55 (HC.out.ext (ext_alloc (ext_refl _) _)) hl (fun e => by cases e) h1) (by rw [hz2]; omega) (by omega)) ?_; intro A' c' w' hR; have HR := hid hR; clear hR)
  obtain ⟨hO, hC, hB⟩ := HR.out
  rw [hz1, Nat.zero_add] at hO
  go_ret
  exact ⟨A', c', by simp, hO, hC, (ext_alloc (ext_refl _) _).trans hB⟩
theorem infoStep : (Tryz.prog.info? 104).map (fun i => (i.zero, i.size, i.bytes)) = some (some (.agg #[.int .i64 0, .int .i64 0, .int .i64 0]), 3, 24) := by kernel_rfl
theorem cloneStep (A : Option Addr) (n c : Nat) (xs : List Value) (w : World) (h : Cells w A xs) (hl : xs.length = n * 3) (h1 : ∀ u ∈ xs, u.oneCell' = true) (hb : n * 24 ≤ 140737488355328) :
    Calls Tryz.prog 55 #[.slice A n c] w (NewSl w 104 3 n xs) := by
 obtain ⟨i, hi, hz0, hz1, hz2⟩ := info_parts infoStep
 have HC := hid h
 have qn : ∀ (w : World) (a : Option Addr) (n c n' c' : Nat), (binOp .eql 26 (.slice a n c) (.slice none n' c')).run Tryz.prog w = .ok (.bool a.isNone) w := fun w a n c n' c' => Lib.run_eql_slice_nil w _ _ a n c n' c' Tryz.underlying26
 clear h
 cases A with
 | none =>
  have hx0 : xs.length = 0 := HC.out.none rfl
  obtain rfl : n = 0 := by omega
  obtain rfl : xs = [] := List.length_eq_zero_iff.1 hx0
  go_enter Tryz.func55, Tryz.ntmps55
  go_wp2
  go_ret
  exact ⟨none, 0, rfl, Own.nil _ _ _ _ _, fun _ => rfl, ext_refl _⟩
 | some a =>
  go_enter Tryz.func55, Tryz.ntmps55
  have hW : (w.alloc (.cells #[] 104)).heap.size = w.heap.size + 1 := by simp
  go_wp2_with (at_builtin; refine wpList_app rfl (.tmp 5) (.tmp 6) 26 26 rfl _ 0 0 (0 + n) (.slice (some a) n c) (by rfl) (by rfl) (run_own0 (w := w.alloc (.cells #[] 104)) w.heap.size (by omega) 26 26 _ 104 i _ Tryz.underlying26 hi hz0 (by rw [hz1]; rfl) _ _ n xs (by rw [hz1]; exact src_cells Tryz.underlying26 (HC.out.ext (ext_alloc (ext_refl _) _)) hl (fun e => by cases e) h1) (by rw [hz2]; omega) (by omega)) ?_; intro A' c' w' hR; have HR := hid hR; clear hR)
  obtain ⟨hO, hC, hB⟩ := HR.out
  rw [hz1, Nat.zero_add] at hO
  go_ret
  exact ⟨A', c', by simp, hO, hC, (ext_alloc (ext_refl _) _).trans hB⟩
theorem infoRep : (Tryz.prog.info? 138).map (fun i => (i.zero, i.size, i.bytes)) = some (some (.agg #[.int .i64 0, .int .i64 0, .bool false, .int .i64 0]), 4, 32) := by kernel_rfl
theorem cloneRep (A : Option Addr) (n c : Nat) (xs : List Value) (w : World) (h : Cells w A xs) (hl : xs.length = n * 4) (h1 : ∀ u ∈ xs, u.oneCell' = true) (hb : n * 32 ≤ 140737488355328) :
    Calls Tryz.prog 222 #[.slice A n c] w (NewSl w 138 4 n xs) := by
 obtain ⟨i, hi, hz0, hz1, hz2⟩ := info_parts infoRep
 have HC := hid h
 have qn : ∀ (w : World) (a : Option Addr) (n c n' c' : Nat), (binOp .eql 62 (.slice a n c) (.slice none n' c')).run Tryz.prog w = .ok (.bool a.isNone) w := fun w a n c n' c' => Lib.run_eql_slice_nil w _ _ a n c n' c' Tryz.underlying62
 clear h
 cases A with
 | none =>
  have hx0 : xs.length = 0 := HC.out.none rfl
  obtain rfl : n = 0 := by omega
  obtain rfl : xs = [] := List.length_eq_zero_iff.1 hx0
  go_enter Tryz.func222, Tryz.ntmps222
  go_wp2
  go_ret
  exact ⟨none, 0, rfl, Own.nil _ _ _ _ _, fun _ => rfl, ext_refl _⟩
 | some a =>
  go_enter Tryz.func222, Tryz.ntmps222
  have hW : (w.alloc (.cells #[] 138)).heap.size = w.heap.size + 1 := by simp
  go_wp2_with (at_builtin; refine wpList_app rfl (.tmp 5) (.tmp 6) 62 62 rfl _ 0 0 (0 + n) (.slice (some a) n c) (by rfl) (by rfl) (run_own0 (w := w.alloc (.cells #[] 138)) w.heap.size (by omega) 62 62 _ 138 i _ Tryz.underlying62 hi hz0 (by rw [hz1]; rfl) _ _ n xs (by rw [hz1]; exact src_cells Tryz.underlying62 (HC.out.ext (ext_alloc (ext_refl _) _)) hl (fun e => by cases e) h1) (by rw [hz2]; omega) (by omega)) ?_; intro A' c' w' hR; have HR := hid hR; clear hR)
  obtain ⟨hO, hC, hB⟩ := HR.out
  rw [hz1, Nat.zero_add] at hO
  go_ret
  exact ⟨A', c', by simp, hO, hC, (ext_alloc (ext_refl _) _).trans hB⟩
theorem infoPkt : (Tryz.prog.info? 198).map (fun i => (i.zero, i.size, i.bytes)) = some (some (.agg #[.int .i64 0, .int .i64 0, .bool false, .int .i64 0, .int .i64 0, .int .i64 0]), 6, 48) := by kernel_rfl
theorem clonePkt (A : Option Addr) (n c : Nat) (xs : List Value) (w : World) (h : Cells w A xs) (hl : xs.length = n * 6) (h1 : ∀ u ∈ xs, u.oneCell' = true) (hb : n * 48 ≤ 140737488355328) :
    Calls Tryz.prog 164 #[.slice A n c] w (NewSl w 198 6 n xs) := by
 obtain ⟨i, hi, hz0, hz1, hz2⟩ := info_parts infoPkt
 have HC := hid h
 have qn : ∀ (w : World) (a : Option Addr) (n c n' c' : Nat), (binOp .eql 141 (.slice a n c) (.slice none n' c')).run Tryz.prog w = .ok (.bool a.isNone) w := fun w a n c n' c' => Lib.run_eql_slice_nil w _ _ a n c n' c' Tryz.underlying141
 clear h
 cases A with
 | none =>
  have hx0 : xs.length = 0 := HC.out.none rfl
  obtain rfl : n = 0 := by omega
  obtain rfl : xs = [] := List.length_eq_zero_iff.1 hx0
  go_enter Tryz.func164, Tryz.ntmps164
  go_wp2
  go_ret
  exact ⟨none, 0, rfl, Own.nil _ _ _ _ _, fun _ => rfl, ext_refl _⟩
 | some a =>
  go_enter Tryz.func164, Tryz.ntmps164
  have hW : (w.alloc (.cells #[] 198)).heap.size = w.heap.size + 1 := by simp
  go_wp2_with (at_builtin; refine wpList_app rfl (.tmp 5) (.tmp 6) 141 141 rfl _ 0 0 (0 + n) (.slice (some a) n c) (by rfl) (by rfl) (run_own0 (w := w.alloc (.cells #[] 198)) w.heap.size (by omega) 141 141 _ 198 i _ Tryz.underlying141 hi hz0 (by rw [hz1]; rfl) _ _ n xs (by rw [hz1]; exact src_cells Tryz.underlying141 (HC.out.ext (ext_alloc (ext_refl _) _)) hl (fun e => by cases e) h1) (by rw [hz2]; omega) (by omega)) ?_; intro A' c' w' hR; have HR := hid hR; clear hR)
  obtain ⟨hO, hC, hB⟩ := HR.out
  rw [hz1, Nat.zero_add] at hO
  go_ret
  exact ⟨A', c', by simp, hO, hC, (ext_alloc (ext_refl _) _).trans hB⟩
theorem infoPnt : (Tryz.prog.info? 90).map (fun i => (i.zero, i.size, i.bytes)) = some (some (.agg #[.int .i64 0, .int .i64 0, .int .i64 0, .int .i64 0, .int .i64 0, .int .i64 0, .int .i64 0, .int .i64 0, .int .i64 0, .int .i64 0, .int .i64 0]), 11, 88) := by kernel_rfl
theorem clonePnt (A : Option Addr) (n c : Nat) (xs : List Value) (w : World) (h : Cells w A xs) (hl : xs.length = n * 11) (h1 : ∀ u ∈ xs, u.oneCell' = true) (hb : n * 88 ≤ 140737488355328) :
    Calls Tryz.prog 60 #[.slice A n c] w (NewSl w 90 11 n xs) := by
 obtain ⟨i, hi, hz0, hz1, hz2⟩ := info_parts infoPnt
 have HC := hid h
 have qn : ∀ (w : World) (a : Option Addr) (n c n' c' : Nat), (binOp .eql 40 (.slice a n c) (.slice none n' c')).run Tryz.prog w = .ok (.bool a.isNone) w := fun w a n c n' c' => Lib.run_eql_slice_nil w _ _ a n c n' c' Tryz.underlying40
 clear h
 cases A with
 | none =>
  have hx0 : xs.length = 0 := HC.out.none rfl
  obtain rfl : n = 0 := by omega
  obtain rfl : xs = [] := List.length_eq_zero_iff.1 hx0
  go_enter Tryz.func60, Tryz.ntmps60
  go_wp2
  go_ret
  exact ⟨none, 0, rfl, Own.nil _ _ _ _ _, fun _ => rfl, ext_refl _⟩
 | some a =>
  go_enter Tryz.func60, Tryz.ntmps60
  have hW : (w.alloc (.cells #[] 90)).heap.size = w.heap.size + 1 := by simp
  go_wp2_with (at_builtin; refine wpList_app rfl (.tmp 5) (.tmp 6) 40 40 rfl _ 0 0 (0 + n) (.slice (some a) n c) (by rfl) (by rfl) (run_own0 (w := w.alloc (.cells #[] 90)) w.heap.size (by omega) 40 40 _ 90 i _ Tryz.underlying40 hi hz0 (by rw [hz1]; rfl) _ _ n xs (by rw [hz1]; exact src_cells Tryz.underlying40 (HC.out.ext (ext_alloc (ext_refl _) _)) hl (fun e => by cases e) h1) (by rw [hz2]; omega) (by omega)) ?_; intro A' c' w' hR; have HR := hid hR; clear hR)
  obtain ⟨hO, hC, hB⟩ := HR.out
  rw [hz1, Nat.zero_add] at hO
  go_ret
  exact ⟨A', c', by simp, hO, hC, (ext_alloc (ext_refl _) _).trans hB⟩
end Go.Proofs.YtfnljcallbalgaaGreatDoor

namespace Go.Proofs.YtfnljcallbalgaaGreatDoor
open Go Go.RowKit
set_option linter.unusedSimpArgs false
set_option linter.unusedVariables false
theorem args_val {V X : Nat → Prop} {Z : Key → Hd} {w : World} {N : Nat} {ρ : Key → Hd} {lb : Key → Option Box} {args : List Arg} {vals : List Value} (hR : Rel V X Z w N ρ (fun q => q.2 < 1) (lk (argTm 0 args)) lb ⟨vals.toArray, []⟩ w) {i : Nat} {av : AV} (hi : lk (argTm 0 args) i = some av) :
    i < N ∧ AVRel (CRel (Im V ρ lb) ρ (fun q => q.2 < 1) w) av (vals.getD i undef) := by
 obtain ⟨h1, h2⟩ := hR.tm i av hi
 refine ⟨h1, ?_⟩
 have e1 : (⟨vals.toArray, []⟩ : Act).tmps.getD i undef = vals.getD i undef := by simp [Array.getD_eq_getD_getElem?]
 rw [e1] at h2
 exact h2
theorem fn_newSl {P : Program} {f : FuncId} {args : List Arg} {el : TypeId} {sz : Nat} {rows : List (List D)} (hz : 0 < sz) (hnb : argBx 0 args = []) (hni : ioBx 0 args [] = [])
    (h : ∀ (V X : Nat → Prop) (Z : Key → Hd) (ρ : Key → Hd) (w : World) (vals : List Value), vals.length = args.length → Rel V X Z w vals.length ρ (fun q => q.2 < 1) (lk (argTm 0 args)) (lk (argBx 0 args ++ [])) ⟨vals.toArray, []⟩ w →
     ∃ us, All2 (CRel (fun b => ¬ V b ∧ b < w.heap.size) ρ (fun q => q.2 < 1) w) (rows.flatten.map .d) us ∧ us.length = rows.length * sz ∧ (∀ (i : Nat) (row : List D), rows[i]? = some row → row.length = sz) ∧ rows.length ≤ 4611686018427387904 ∧ Calls P f vals.toArray w (NewSl w el sz rows.length us)) :
    FnSound P f args [] { vals := [(false, [.own (0, 1)])], bx := [((0, 1), .sl el sz rows)] } := by
 intro V X Z ρ w vals hl hR
 obtain ⟨us, hA, hul, hrl, hlen, hC⟩ := h V X Z ρ w vals hl hR
 refine hC.mono ?_
 rintro e w' ⟨A, c, rfl, hO, hc0, hB⟩
 have hv : ∀ b, V b → b < w.heap.size := fun b hb => (hR.va.lt b hb).1
 let g : Option Nat := if rows.length = 0 then none else A.map (·.block)
 let ρ' : Key → Hd := updR ρ (0, 1) ⟨A, g, rows.length, c, sz⟩
 have hg : ∀ b, g = some b → w.heap.size ≤ b ∧ b < w'.heap.size ∧ A = some ⟨b, 0, none⟩ := by
  intro b hb
  have hb' : (if rows.length = 0 then none else A.map (·.block)) = some b := hb
  split at hb'
  ·cases hb'
  ·rename_i hne
   obtain ⟨g', sp, h1, h2, h3, h4⟩ := hO.blk (by omega)
   rw [h1] at hb'
   cases hb'
   exact ⟨h2, h4.lt, h1⟩
 have hlb : ∀ q box, lk ([((0, 1), Box.sl el sz rows)] : List (Key × Box)) q = some box → q = (0, 1) ∧ box = .sl el sz rows := by
  intro q box hq
  have := mem_of_lk hq
  simp at this
  exact ⟨this.1, this.2⟩
 have him : ∀ b, b < w.heap.size → ¬ V b → Im V ρ' (lk ([((0, 1), Box.sl el sz rows)] : List (Key × Box))) b := by
  intro b hb hnv
  refine ⟨hnv, fun q box hq hl' hgb => ?_⟩
  obtain ⟨rfl, rfl⟩ := hlb q box hq
  rw [show ρ' (0, 1) = ⟨A, g, rows.length, c, sz⟩ from updR_same _ _ _] at hgb
  have := (hg b hgb).1
  omega
 refine ⟨_, ρ', rfl, rfl, rfl, fun t av ht => ?_, fun q box hq => ?_, fun q1 b1 q2 b2 b e1 l1 e2 l2 g1 g2 => ?_, fun q box b hq hl' hgb => ?_, ?_, hR.va, fun q hq => ⟨trivial, ?_⟩⟩
 ·unfold ltOne at ht
  split at ht
  ·rename_i h0
   subst h0
   cases ht
   refine ⟨by omega, ?_⟩
   rw [resAV_id_one]
   exact one1 ⟨trivial, by rw [show ρ' (0, 1) = ⟨A, g, rows.length, c, sz⟩ from updR_same _ _ _]; rfl⟩
  ·cases ht
 ·rw [hni] at hq
  obtain ⟨rfl, rfl⟩ := hlb q box hq
  refine ⟨trivial, ?_⟩
  rw [hni]
  simp only [BoxRel]
  rw [show ρ' (0, 1) = ⟨A, g, rows.length, c, sz⟩ from updR_same _ _ _]
  refine ⟨rfl, rfl, hO.1, hlen, hrl, ?_⟩
  by_cases h0 : rows.length = 0
  ·left
   have : us.length = 0 := by rw [hul, h0, Nat.zero_mul]
   exact ⟨if_pos h0, List.length_eq_zero_iff.1 h0, hc0 h0⟩
  ·right
   obtain ⟨g', sp, h1, h2, h3, h4⟩ := hO.blk (by omega)
   refine ⟨g', us, sp, ?_, h1, h4, ?_, h3⟩
   ·show (if rows.length = 0 then none else A.map (·.block)) = some g'
    rw [if_neg h0, h1]
    rfl
   ·exact data_list (hA.imp fun cc v _ hcc => hcc.keep (Keep.of_below hB (fun b hb _ => hb)) (fun b _ h => h) (fun _ _ => rfl) (fun _ h => h)) (fun cc hcc => by obtain ⟨dd, _, rfl⟩ := List.mem_map.1 hcc; rfl) (fun b hb hnv => him b hnv.2 hnv.1)
 ·rw [hni] at e1 e2
  rw [(hlb q1 b1 e1).1, (hlb q2 b2 e2).1]
 ·rw [hni] at hq
  obtain ⟨rfl, rfl⟩ := hlb q box hq
  rw [show ρ' (0, 1) = ⟨A, g, rows.length, c, sz⟩ from updR_same _ _ _] at hgb
  exact ⟨(hg b hgb).2.1, .inl (hg b hgb).1⟩
 ·exact Keep.of_below hB (fun b hb _ => hb)
 ·rw [show ρ' q = ρ q from if_neg (fun e => by rw [e] at hq; cases hq)]
  exact (hR.zz q hq).2
def cloneX (el : TypeId) (sz bytes : Nat) (args : List Arg) : Option ARes :=
 match args with
 | [.val false [c]] => match lookRows (fun _ => none) sz c with
  | some rows => if rows.length * bytes ≤ 140737488355328 ∧ rows.length ≤ 4611686018427387904 then some { vals := [(false, [.own (0, 1)])], bx := [((0, 1), .sl el sz rows)] } else none
  | none => none
 | _ => none
theorem vals_one {vals : List Value} (h : vals.length = 1) : vals = [vals.getD 0 undef] := by
 match vals, h with
 | [v], _ => rfl
theorem clone_fn {P : Program} {f : FuncId} {el : TypeId} {sz bytes : Nat} (hz : 0 < sz) (hC : ∀ (A : Option Addr) (n c : Nat) (xs : List Value) (w : World), Cells w A xs → xs.length = n * sz → (∀ u ∈ xs, u.oneCell' = true) → n * bytes ≤ 140737488355328 → Calls P f #[.slice A n c] w (NewSl w el sz n xs))
    {args : List Arg} {r : ARes} (he : cloneX el sz bytes args = some r) : FnSound P f args [] r := by
 unfold cloneX at he
 split at he
 ·rename_i c
  split at he
  ·rename_i rows hrows
   split at he
   ·rename_i hcnd
    cases he
    refine fn_newSl hz rfl rfl (fun V X Z ρ w vals hl hR => ?_)
    obtain ⟨_, hv⟩ := args_val hR (i := 0) (av := .one false [c]) rfl
    obtain ⟨A, cp, us, x1, x2, x3, x4, x5, x6⟩ := look_sound hR (lb' := fun _ => none) (fun _ _ h => by cases h) hz hrows (slot1_sound rfl hv)
    refine ⟨us, x4.imp fun cc v _ hcc => hcc.keep (Keep.refl _ _) (fun b hb hi => ⟨hi.1, hb⟩) (fun _ _ => rfl) (fun _ h => h), x2, x6, hcnd.2, ?_⟩
    have e1 : vals.toArray = #[.slice A rows.length cp] := by rw [vals_one hl, x1]
    rw [e1]
    exact hC A rows.length cp us w x3 x2 x4.ones hcnd.1
   ·cases he
  ·cases he
 ·cases he
theorem vals_two {vals : List Value} (h : vals.length = 2) : vals = [vals.getD 0 undef, vals.getD 1 undef] := by
 match vals, h with
 | [v, u], _ => rfl
theorem fn_data {P : Program} {f : FuncId} {args : List Arg} {vals0 : List (Bool × List C)} (hni : ioBx 0 args [] = [])
    (h : ∀ (V X : Nat → Prop) (Z : Key → Hd) (ρ : Key → Hd) (w : World) (vals : List Value), vals.length = args.length → Rel V X Z w vals.length ρ (fun q => q.2 < 1) (lk (argTm 0 args)) (lk (argBx 0 args ++ [])) ⟨vals.toArray, []⟩ w →
     Calls P f vals.toArray w fun e w' => ∃ v, e = .returned v ∧ Below w.heap.size w w' ∧ ∀ S : Nat → Prop, (∀ b, w.heap.size ≤ b → S b) → ∀ ρ' ok', AVRel (CRel S ρ' ok' w') (resAV id vals0) v) :
    FnSound P f args [] { vals := vals0 } := by
 intro V X Z ρ w vals hl hR
 refine (h V X Z ρ w vals hl hR).mono ?_
 rintro e w' ⟨v, rfl, hB, hv⟩
 refine ⟨v, ρ, rfl, rfl, rfl, fun t av ht => ?_, fun q box hq => ?_, fun q1 b1 q2 b2 b e1 => ?_, fun q box b hq => ?_, Keep.of_below hB (fun b hb _ => hb), hR.va, fun q hq => ⟨trivial, (hR.zz q hq).2⟩⟩
 ·unfold ltOne at ht
  split at ht
  ·rename_i h0
   subst h0
   cases ht
   refine ⟨by omega, hv _ (fun b hb => ⟨fun hvb => ?_, fun q box hq => ?_⟩) _ _⟩
   ·have := (hR.va.lt b hvb).1
    omega
   ·rw [hni] at hq; cases hq
  ·cases ht
 ·rw [hni] at hq; cases hq
 ·rw [hni] at e1; cases e1
 ·rw [hni] at hq; cases hq
end Go.Proofs.YtfnljcallbalgaaGreatDoor

namespace Go.Proofs.YtfnljcallbalgaaGreatDoor
open Go.RowKit
set_option linter.unusedSimpArgs false
set_option linter.unusedVariables false
set_option maxHeartbeats 2000000
set_option maxRecDepth 100000
theorem mul64_any (n : Int) (w : World) (h0 : 0 ≤ n) (h1 : n ≤ 6) : Calls Tryz.prog 147 #[.int .u64 1, .int .u64 n] w fun e w' => e = .returned (.tuple #[.int .u64 0, .int .u64 n]) ∧ Below w.heap.size w w' := by
 rcases (by omega : n = 0 ∨ n = 1 ∨ n = 2 ∨ n = 3 ∨ n = 4 ∨ n = 5 ∨ n = 6) with h | h | h | h | h | h | h <;> subst h
 all_goals go_enter Tryz.func147, Tryz.ntmps147
 all_goals go_wp2
 all_goals go_ret2
 all_goals exact ⟨rfl, ext_refl _⟩
theorem mul_any (n : Int) (w : World) (h0 : 0 ≤ n) (h1 : n ≤ 6) : Calls Tryz.prog 98 #[.int .u64 1, .int .u64 n] w fun e w' => e = .returned (.tuple #[.int .u64 0, .int .u64 n]) ∧ Below w.heap.size w w' := by
 go_enter Tryz.func98, Tryz.ntmps98
 go_wp2_with fail
 refine (mul64_any n _ h0 h1).mono ?_
 rintro e w1 ⟨rfl, hb1⟩
 go_wp2_with fail
 go_ret2
 exact ⟨rfl, hb1⟩
theorem blk_row {w : World} {g : Nat} {t : TypeId} {cs : Array Value} (h : Blk w g t cs) (ds : Array Value) : Blk (w.setRow g ds) g t ds := setRow_heap w g cs ds t (0, 0) h
theorem row_below {B g : Nat} (w : World) (hg : B ≤ g) (ds : Array Value) : Below B w (w.setRow g ds) := by
 refine ⟨rfl, rfl, rfl, by simp [World.setRow], fun k hk => ?_⟩
 simp only [World.setRow, Array.getElem?_modify]
 rw [if_neg (by omega)]
theorem wpList_cp {P : Program} {w w' : World} {ops : Array Oper} {rest : List Oper} {o : Oper} {a : Act} {Q : Exit → Act → World → Prop} (hgd : o.guard = none) (s x : Operand) (t tx : TypeId)
    (ho : o.op = .call { callee := .builtin .copy, args := #[s, x], argTypes := #[t, tx] }) (sv xv v : Value) (hv : a.eval s = sv) (hx : a.eval x = xv)
    (h : (Builtin.copy_ #[t, tx] o.type #[sv, xv]).run P w = .ok v w')
    (hK : wpList P ops Q rest (a.put o.dst v) w') : wpList P ops Q (o :: rest) a w := by
 refine wpList_plain hgd fun K hK' => ?_
 unfold Oper.wp
 simp [execOp, ho, resolve, invoke, builtin, hv, hx, h, Result.andThen]
 exact hK' _ _ hK
theorem made_zeros (n : Nat) : madeCells #[.int .i64 0] n = (List.replicate n (Value.int .i64 0)).toArray := by
 apply Array.ext
 ·simp [madeCells]
 ·intro i h1 h2
  simp [madeCells, Nat.mod_one]
def rep (n j : Nat) : List Int := List.replicate j (-1) ++ List.replicate (n - j) 0
theorem rep_copy0 {n j : Nat} (h : j ≤ n) : (List.take 0 (ints (rep n 0)).toArray.toList ++ List.replicate j (Value.int .i64 (-1)) ++ List.drop (0 + j) (ints (rep n 0)).toArray.toList).toArray = (ints (rep n j)).toArray := by
 simp [rep, ints, List.drop_replicate]
theorem rep_copy {n j k : Nat} (h : j + k ≤ n) (hk : k ≤ j) : (List.take j (ints (rep n j)).toArray.toList ++ List.replicate k (Value.int .i64 (-1)) ++ List.drop (j + k) (ints (rep n j)).toArray.toList).toArray = (ints (rep n (j + k))).toArray := by
 have e1 : List.take j (rep n j) = List.replicate j (-1) := by simp [rep, List.take_append]
 have e2 : List.drop (j + k) (rep n j) = List.replicate (n - (j + k)) 0 := by
  simp [rep, List.drop_append, List.drop_replicate]
  omega
 simp only [ints, List.toList_toArray, ← List.map_take, ← List.map_drop, e1, e2]
 rw [show rep n (j + k) = List.replicate j (-1) ++ List.replicate k (-1) ++ List.replicate (n - (j + k)) 0 from by rw [List.replicate_append_replicate]; rfl]
 simp
theorem repeat_any (A : Option Addr) (c n : Nat) (w : World) (hA : Cells w A (ints [-1])) (hn : n ≤ 6) :
    Calls Tryz.prog 144 #[.slice A 1 c, .int .i64 n] w (NewSl w 3 1 n (ints (List.replicate n (-1)))) := by
 obtain ⟨b0, o0, rfl, hb0, p0⟩ := hA.at_int (k := 0) (by simp)
 simp at p0
 have hmk := run_make_row' (P := Tryz.prog) 22 3 (.int .i64 0) 8 Tryz.underlying22 infoInt rfl .i64 .i64 n (by omega) (by omega)
 have hsz : (Tryz.prog.info? 3).map (·.size) = some 1 := by kernel_rfl
 have d1 : decide ((9223372036854775807 : Int) < (n : Int)) = false := by simp; omega
 go_enter Tryz.func144, Tryz.ntmps144
 go_wp2_with fail
 refine (mul_any n _ (by omega) (by omega)).mono ?_
 rintro e w1 ⟨rfl, hb1⟩
 have q0 := ext_cell hb1 hb0 p0
 have zb : b0 < w1.heap.size := Nat.lt_of_lt_of_le hb0 hb1.size
 go_upto_region 7 with (fail)
 have B2 : Blk (w1.alloc (.cells (madeCells #[.int .i64 0] n) 3)) w1.heap.size 3 (ints (rep n 0)).toArray := by
  rw [made_zeros, show ints (rep n 0) = List.replicate n (Value.int .i64 0) from by simp [rep, ints]]
  exact Blk.new _ _ _
 have X2 := hid (ext_alloc hb1 (.cells (madeCells #[.int .i64 0] n) 3))
 have q2 := ext_cell (ext_alloc (ext_refl w1) (.cells (madeCells #[.int .i64 0] n) 3)) zb q0
 have z1 := hb1.size
 have Z2 : (w1.alloc (.cells (madeCells #[.int .i64 0] n) 3)).heap.size = w1.heap.size + 1 := by simp
 generalize (w1.alloc (.cells (madeCells #[.int .i64 0] n) 3)) = w2 at B2 X2 q2 Z2 ⊢
 obtain ⟨j0, hj0⟩ : ∃ j0 : Nat, j0 = Nat.min 1 n := ⟨_, rfl⟩
 have hj1 : j0 ≤ 1 ∧ j0 ≤ n ∧ (0 < n → j0 = 1) := by rw [hj0]; simp only [Nat.min_def]; split <;> omega
 have hcp : ∀ ty, (Builtin.copy_ #[22, 22] ty #[.slice (some ⟨w1.heap.size, 0, none⟩) n n, .slice (some ⟨b0, o0, none⟩) 1 c]).run Tryz.prog w2 = .ok (goInt j0) (w2.setRow w1.heap.size (ints (rep n j0)).toArray) := by
  intro ty
  have := run_copy_row (P := Tryz.prog) w2 22 22 ty 3 w1.heap.size 0 n n ⟨b0, o0, none⟩ 1 c (ints (rep n 0)).toArray 3 (List.replicate j0 (.int .i64 (-1))) Tryz.underlying22 hsz B2 (by simp [hj0]) (fun j v hv => by
   rw [List.getElem?_replicate] at hv
   split at hv
   ·cases hv
    obtain rfl : j = 0 := by omega
    simpa [Addr.add] using q2
   ·cases hv) (by simp [rep]; omega) (by intro v hv; rw [List.eq_of_mem_replicate hv]; rfl)
  rw [this]
  simp only [List.length_replicate]
  rw [rep_copy0 hj1.2.1]
 clear hj0
 have B3 := blk_row B2 (ints (rep n j0)).toArray
 have X3 := hid (X2.out.trans (row_below (B := w.heap.size) w2 (show w.heap.size ≤ w1.heap.size from z1) (ints (rep n j0)).toArray))
 go_wp2_with (refine wpList_cp rfl (.tmp 31) (.tmp 32) 22 22 rfl (.slice (some ⟨w1.heap.size, 0, none⟩) n n) (.slice (some ⟨b0, o0, none⟩) 1 c) (goInt j0) (by rfl) (by rfl) (hcp _) ?_)
 clear hcp
 go_loopw [8] (fun iv wr => ∃ j : Nat, j ≤ n ∧ (0 < n → 1 ≤ j) ∧ iv = .int .i64 j ∧ Hid (Blk wr w1.heap.size 3 (ints (rep n j)).toArray) ∧ Hid (Below w.heap.size w wr)) (fun iv _ => n - (intOf iv).toNat)
 case atStart => exact ⟨j0, hj1.2.1, fun h => by have := hj1.2.2 h; omega, rfl, B3, X3⟩
 case round =>
  obtain ⟨j, hj, hj2, rfl, B4, X4⟩ := hrel
  by_cases hlt : j < n
  ·have hpos := hj2 (by omega)
   obtain ⟨k, hk⟩ : ∃ k : Nat, k = Nat.min j (n - j) := ⟨_, rfl⟩
   have hk1 : k ≤ j ∧ k ≤ n - j ∧ 1 ≤ k := by rw [hk]; simp only [Nat.min_def]; split <;> omega
   have hcp : ∀ ty, (Builtin.copy_ #[22, 22] ty #[.slice (some ⟨w1.heap.size, j, none⟩) (n - j) (n - j), .slice (some ⟨w1.heap.size, 0, none⟩) j n]).run Tryz.prog wr.drew = .ok (goInt k) (wr.drew.setRow w1.heap.size (ints (rep n (j + k))).toArray) := by
    intro ty
    have := run_copy_row (P := Tryz.prog) wr.drew 22 22 ty 3 w1.heap.size j (n - j) (n - j) ⟨w1.heap.size, 0, none⟩ j n (ints (rep n j)).toArray 3 (List.replicate k (.int .i64 (-1))) Tryz.underlying22 hsz B4.out.drew (by simp [hk]) (fun i v hv => by
     rw [List.getElem?_replicate] at hv
     split at hv
     ·cases hv
      rw [Addr.add_lit, Nat.zero_add, B4.out.drew.cell]
      have hij : i < j := by omega
      simp [rep, ints, List.getElem?_append, List.getElem?_replicate, hij]
     ·cases hv) (by simp [rep]; omega) (by intro v hv; rw [List.eq_of_mem_replicate hv]; rfl)
    rw [this]
    simp only [List.length_replicate]
    rw [rep_copy (by omega) (by omega)]
   have B5 := blk_row B4.out.drew (ints (rep n (j + k))).toArray
   have X5 := hid (X4.out.drew.trans (row_below (B := w.heap.size) wr.drew (show w.heap.size ≤ w1.heap.size from z1) (ints (rep n (j + k))).toArray))
   clear hk
   have hjk : j + k ≤ n := by omega
   go_wp2_with fail
   go_region
   go_wp2_with fail
   go_roundw
   case rel => exact ⟨j + k, hjk, fun _ => by omega, by simp, B5, X5⟩
   case measure => simp [intOf]; omega
  ·obtain rfl : j = n := by omega
   go_wp2_with fail
   go_ret
   refine ⟨some ⟨w1.heap.size, 0, none⟩, j, rfl, ⟨Nat.le_refl _, by simp, .inr ⟨w1.heap.size, [], rfl, z1, by simp, ?_⟩⟩, fun h => h, X4.out⟩
   rw [List.append_nil, show ints (List.replicate j (-1)) = ints (rep j j) from by simp [rep]]
   exact B4.out
end Go.Proofs.YtfnljcallbalgaaGreatDoor
namespace Go.Proofs.YtfnljcallbalgaaGreatDoor
open Go Go.RowKit
set_option linter.unusedSimpArgs false
set_option linter.unusedVariables false
def repeatX (el : TypeId) (args : List Arg) : Option ARes :=
 match args with
 | [.val false [.d (.sl 1 [[.v (.int .i64 (-1))]])], .val false [.d (.v (.int .i64 n))]] => if 0 ≤ n ∧ n ≤ 6 then some { vals := [(false, [.own (0, 1)])], bx := [((0, 1), .sl el 1 (List.replicate n.toNat [.v (.int .i64 (-1))]))] } else none
 | _ => none
theorem flat_one (n : Nat) (d : D) : (List.replicate n [d]).flatten = List.replicate n d := by
 induction n with
 | zero => rfl
 | succ n ih => rw [List.replicate_succ, List.flatten_cons, ih, List.replicate_succ]; rfl
theorem repeat_fn {args : List Arg} {r : ARes} (he : repeatX 3 args = some r) : FnSound Tryz.prog 144 args [] r := by
 unfold repeatX at he
 split at he
 ·rename_i n
  split at he
  ·rename_i hcnd
   cases he
   refine fn_newSl (by omega) rfl rfl (fun V X Z ρ w vals hl hR => ?_)
   obtain ⟨_, hv0⟩ := args_val hR (i := 0) (av := .one false [.d (.sl 1 [[.v (.int .i64 (-1))]])]) rfl
   obtain ⟨_, hv1⟩ := args_val hR (i := 1) (av := .one false [.d (.v (.int .i64 n))]) rfl
   obtain ⟨A, cp, us, x1, x2, x3, x4, x5, x6⟩ := rd_cells (ρ := ρ) (ok := fun q => q.2 < 1) (by omega) (slot1_sound (c := .d (.sl 1 [[.v (.int .i64 (-1))]])) rfl hv0)
   have hn : vals.getD 1 undef = .int .i64 n := conV_sound (x := .int .i64 n) rfl hv1
   have hus : us = ints [-1] := by
    cases x4 with
    | cons x y => cases y; rw [(Rd.val x).1]; rfl
   have hlen : (List.replicate n.toNat [D.v (.int .i64 (-1))]).length = n.toNat := by simp
   refine ⟨ints (List.replicate n.toNat (-1)), ?_, by simp, fun i row hi => by rw [List.eq_of_mem_replicate (List.mem_of_getElem? hi)]; rfl, by rw [hlen]; omega, ?_⟩
   ·rw [flat_one, List.map_replicate]
    unfold ints
    rw [List.map_replicate]
    generalize n.toNat = k
    induction k with
    | zero => exact .nil
    | succ k ih => rw [List.replicate_succ, List.replicate_succ]; exact .cons (.v rfl) ih
   ·have e1 : vals.toArray = #[.slice A 1 cp, .int .i64 (n.toNat : Int)] := by
      rw [vals_two hl, x1, hn, Int.toNat_of_nonneg hcnd.1]
      rfl
    rw [e1, hlen]
    exact repeat_any A cp n.toNat w (hus ▸ x3) (by omega)
  ·cases he
 ·cases he
end Go.Proofs.YtfnljcallbalgaaGreatDoor

namespace Go.Proofs.YtfnljcallbalgaaGreatDoor
open Go Go.RowKit
set_option linter.unusedSimpArgs false
set_option linter.unusedVariables false
theorem tabLen {p : Prob} (h : vpErr p = 0) (k : Nat) (hk : k < p.tabs.length) : ((p.tabs.getD k nilT).ok.length : Int) = p.vs.getD (p.tabs.getD k nilT).frm.toNat 0 := by
 have h4 := tabsErr_zero.1 (vp_parts.1 h).2.2.2
 have h := h4 (p.tabs.getD k nilT) (by rw [List.getD_eq_getElem?_getD, List.getElem?_eq_getElem hk]; exact List.getElem_mem hk)
 unfold tabErr at h
 split at h
 ·cases h
 ·rename_i h1
  split at h
  ·cases h
  ·rename_i h2
   split at h
   ·cases h
   ·rename_i h3
    simp only [Bool.not_eq_false, not_or, not_and] at h3
    have := h3.1
    simp only [sq, Bool.and_eq_true, beq_iff_eq] at this
    omega
theorem and_one (n : Nat) (x : Int) : ((BitVec.ofInt n x &&& BitVec.ofInt n 1).toNat) = (BitVec.ofInt n x).toNat &&& (BitVec.ofInt n 1).toNat := BitVec.toNat_and _ _
theorem bit01 (s v : Int) : bitOf s v = 0 ∨ bitOf s v = 1 := by
 show IntKind.u8.wrap (((BitVec.ofInt 8 (s / 2 ^ v.toNat) &&& BitVec.ofInt 8 1).toNat : Nat) : Int) = 0 ∨ IntKind.u8.wrap (((BitVec.ofInt 8 (s / 2 ^ v.toNat) &&& BitVec.ofInt 8 1).toNat : Nat) : Int) = 1
 rw [and_one, show (BitVec.ofInt 8 1).toNat = 1 from rfl, Nat.and_one_is_mod]
 generalize (BitVec.ofInt 8 (s / 2 ^ v.toNat)).toNat = z
 have : z % 2 = 0 ∨ z % 2 = 1 := by omega
 rcases this with e | e <;> rw [e]
 ·left; rfl
 ·right; rfl
theorem hasV_no {s v : Int} : bitOf s v = 0 ↔ hasV s v = false := by
 have := bit01 s v
 unfold hasV
 rw [decide_eq_false_iff_not]
 omega
theorem andI1 (k b : Nat) : bits BinOp.and IntKind.i64 ((k : Int) / 2 ^ ((b : Nat) : Int).toNat) 1 = 1 ↔ (k / 2 ^ b) % 2 = 1 := by
 rw [Int.toNat_natCast]
 have h1 : ((k : Int) / 2 ^ b) = ((k / 2 ^ b : Nat) : Int) := by push_cast; rfl
 rw [h1]
 show IntKind.i64.wrap (((BitVec.ofInt 64 ((k / 2 ^ b : Nat) : Int) &&& BitVec.ofInt 64 1).toNat : Nat) : Int) = 1 ↔ _
 rw [and_one, show (BitVec.ofInt 64 1).toNat = 1 from rfl, Nat.and_one_is_mod, BitVec.toNat_ofInt]
 generalize k / 2 ^ b = z
 have e : (((z : Int) % ((2 ^ 64 : Nat) : Int)).toNat) % 2 = z % 2 := by
  have : ((2 ^ 64 : Nat) : Int) = 18446744073709551616 := by decide
  rw [this]
  omega
 rw [e]
 have : z % 2 = 0 ∨ z % 2 = 1 := by omega
 rcases this with e | e <;> rw [e] <;> simp [IntKind.wrap, IntKind.bits, IntKind.signed]
def openI (l : List Int) (n : Nat) : List Int := (List.range n).flatMap fun i => if 0 ≤ l.getD i 0 then [(i : Int)] else []
theorem openI_yes {l : List Int} {n : Nat} (h : 0 ≤ l.getD n 0) : openI l (n + 1) = openI l n ++ [(n : Int)] := by
 unfold openI; rw [range_fm, if_pos h]
theorem openI_no {l : List Int} {n : Nat} (h : ¬ 0 ≤ l.getD n 0) : openI l (n + 1) = openI l n := by
 unfold openI; rw [range_fm, if_neg h, List.append_nil]
theorem openI_len {l : List Int} : ∀ {n : Nat}, n ≤ l.length → (openI l n).length = openN (l.take n)
 | 0, _ => by simp [openI, openN]
 | n + 1, h => by
  rw [openN_step (by omega)]
  by_cases h0 : 0 ≤ l.getD n 0
  ·rw [openI_yes h0, if_pos h0, List.length_append, openI_len (by omega)]; rfl
  ·rw [openI_no h0, if_neg h0, openI_len (by omega)]; rfl
theorem openI_at {l : List Int} : ∀ {n b : Nat}, n ≤ l.length → b < (openI l n).length → ∃ i : Nat, (openI l n).getD b 0 = (i : Int) ∧ i < n ∧ 0 ≤ l.getD i 0 ∧ openN (l.take i) = b
 | 0, b, _, hb => by simp [openI] at hb
 | n + 1, b, h, hb => by
  by_cases h0 : 0 ≤ l.getD n 0
  ·rw [openI_yes h0] at hb ⊢
   by_cases e : b < (openI l n).length
   ·obtain ⟨i, h1, h2, h3, h4⟩ := openI_at (by omega) e
    refine ⟨i, ?_, by omega, h3, h4⟩
    rw [List.getD_eq_getElem?_getD, List.getElem?_append_left e, ← List.getD_eq_getElem?_getD]; exact h1
   ·rw [List.length_append] at hb
    have e : b = (openI l n).length := by simp at hb; omega
    refine ⟨n, ?_, by omega, h0, ?_⟩
    ·rw [e, List.getD_eq_getElem?_getD, List.getElem?_append_right (Nat.le_refl _), Nat.sub_self]; rfl
    ·rw [e, openI_len (by omega)]
  ·rw [openI_no h0] at hb ⊢
   obtain ⟨i, h1, h2, h3, h4⟩ := openI_at (by omega) hb
   exact ⟨i, h1, by omega, h3, h4⟩
theorem openN_mono (l : List Int) : ∀ n, openN (l.take n) ≤ openN l := by
 induction l with
 | nil => intro n; simp
 | cons x l ih =>
  intro n
  cases n with
  | zero => simp [openN]
  | succ n =>
   rw [List.take_succ_cons]
   unfold openN
   have := ih n
   omega
theorem openN_lt {l : List Int} {j : Nat} (hj : j < l.length) (h : 0 ≤ l.getD j 0) : openN (l.take j) < openN l := by
 have h1 := openN_step hj
 rw [if_pos h] at h1
 have := openN_mono l (j + 1)
 omega
theorem openN_inj {l : List Int} {i j : Nat} (hi : i < l.length) (hj : j < l.length) (h1 : 0 ≤ l.getD i 0) (h2 : 0 ≤ l.getD j 0) (h : openN (l.take i) = openN (l.take j)) : i = j := by
 have key : ∀ {a b : Nat}, a < b → b < l.length → 0 ≤ l.getD a 0 → openN (l.take a) < openN (l.take b) := by
  intro a b hab hb h0
  have e := openN_lt (l := l.take b) (j := a) (by rw [List.length_take]; omega) (by
   rw [List.getD_eq_getElem?_getD, List.getElem?_take_of_lt hab, ← List.getD_eq_getElem?_getD]; exact h0)
  rwa [List.take_take, Nat.min_eq_left (by omega)] at e
 rcases Nat.lt_trichotomy i j with g | g | g
 ·have := key g hj h1; omega
 ·exact g
 ·have := key g hi h2; omega
def abB (l : List Int) (k b : Nat) : List Int := (List.range l.length).map fun j => if 0 ≤ l.getD j 0 ∧ openN (l.take j) < b ∧ (k / 2 ^ openN (l.take j)) % 2 = 1 then -1 else l.getD j 0
theorem abB_len {l : List Int} {k b : Nat} : (abB l k b).length = l.length := by simp [abB]
theorem map_range_get {α : Type} {f : Nat → α} {n j : Nat} {d : α} (h : j < n) : ((List.range n).map f).getD j d = f j := by
 rw [List.getD_eq_getElem?_getD, List.getElem?_map, List.getElem?_range h]; rfl
theorem list_ext {l r : List Int} (h : l.length = r.length) (hh : ∀ j, j < l.length → l.getD j 0 = r.getD j 0) : l = r := by
 apply List.ext_getElem h
 intro j h1 h2
 have := hh j h1
 rwa [List.getD_eq_getElem?_getD, List.getElem?_eq_getElem h1, List.getD_eq_getElem?_getD, List.getElem?_eq_getElem h2] at this
theorem abB_get {l : List Int} {k b j : Nat} (h : j < l.length) : (abB l k b).getD j 0 = if 0 ≤ l.getD j 0 ∧ openN (l.take j) < b ∧ (k / 2 ^ openN (l.take j)) % 2 = 1 then -1 else l.getD j 0 := map_range_get h
theorem abB_0 {l : List Int} {k : Nat} : abB l k 0 = l := by
 refine list_ext abB_len fun j hj => ?_
 rw [abB_len] at hj
 rw [abB_get hj, if_neg (by omega)]
theorem abn_take {l : List Int} {k : Nat} : ∀ n, n ≤ l.length → abn (l.take n) k = (List.range n).map fun j => if 0 ≤ l.getD j 0 ∧ (k / 2 ^ openN (l.take j)) % 2 = 1 then -1 else l.getD j 0
 | 0, _ => by simp [abn]
 | n + 1, h => by rw [abn_step (by omega), abn_take n (by omega), List.range_succ, List.map_append]; rfl
theorem abB_all {l : List Int} {k b : Nat} (hb : openN l ≤ b) : abB l k b = abn l k := by
 have h1 := abn_take (l := l) (k := k) l.length (Nat.le_refl _)
 rw [List.take_length] at h1
 rw [h1]
 unfold abB
 refine List.map_congr_left fun j hj => ?_
 have hj := List.mem_range.1 hj
 by_cases h0 : 0 ≤ l.getD j 0
 ·have := openN_lt hj h0
  by_cases h2 : (k / 2 ^ openN (l.take j)) % 2 = 1
  ·rw [if_pos ⟨h0, by omega, h2⟩, if_pos ⟨h0, h2⟩]
  ·rw [if_neg (fun a => h2 a.2.2), if_neg (fun a => h2 a.2)]
 ·rw [if_neg (fun a => h0 a.1), if_neg (fun a => h0 a.1)]
theorem abB_keep {l : List Int} {k b i : Nat} (hi : i < l.length) (h0 : 0 ≤ l.getD i 0) (hb : openN (l.take i) = b) (hn : ¬ (k / 2 ^ b) % 2 = 1) : abB l k (b + 1) = abB l k b := by
 refine list_ext (by rw [abB_len, abB_len]) fun j hj => ?_
 rw [abB_len] at hj
 rw [abB_get hj, abB_get hj]
 by_cases e : 0 ≤ l.getD j 0 ∧ openN (l.take j) = b
 ·have := openN_inj hi hj h0 e.1 (by omega)
  subst this
  rw [if_neg (by rw [hb]; exact fun a => hn a.2.2), if_neg (by rw [hb]; exact fun a => hn a.2.2)]
 ·by_cases c : 0 ≤ l.getD j 0 ∧ openN (l.take j) < b ∧ (k / 2 ^ openN (l.take j)) % 2 = 1
  ·rw [if_pos c, if_pos ⟨c.1, by omega, c.2.2⟩]
  ·rw [if_neg c, if_neg (fun a => c ⟨a.1, by have := a.2.1; have : ¬ openN (l.take j) = b := fun q => e ⟨a.1, q⟩; omega, a.2.2⟩)]
theorem abB_set {l : List Int} {k b i : Nat} (hi : i < l.length) (h0 : 0 ≤ l.getD i 0) (hb : openN (l.take i) = b) (hn : (k / 2 ^ b) % 2 = 1) : abB l k (b + 1) = (abB l k b).set i (-1) := by
 refine list_ext (by rw [List.length_set, abB_len, abB_len]) fun j hj => ?_
 rw [abB_len] at hj
 rw [abB_get hj]
 by_cases e : j = i
 ·subst e
  rw [if_pos ⟨h0, by omega, by rw [hb]; exact hn⟩, List.getD_eq_getElem?_getD, List.getElem?_set_self (by rw [abB_len]; exact hj)]; rfl
 ·have e5 : ((abB l k b).set i (-1)).getD j 0 = (abB l k b).getD j 0 := by rw [List.getD_eq_getElem?_getD, List.getElem?_set_ne (fun a => e a.symm), ← List.getD_eq_getElem?_getD]
  rw [e5, abB_get hj]
  by_cases c : 0 ≤ l.getD j 0 ∧ openN (l.take j) < b ∧ (k / 2 ^ openN (l.take j)) % 2 = 1
  ·rw [if_pos c, if_pos ⟨c.1, by omega, c.2.2⟩]
  ·rw [if_neg c, if_neg (fun a => c ⟨a.1, by
     have h1 := a.2.1
     have : ¬ openN (l.take j) = b := fun q => e (openN_inj hj hi a.1 h0 (by omega))
     omega, a.2.2⟩)]
end Go.Proofs.YtfnljcallbalgaaGreatDoor

