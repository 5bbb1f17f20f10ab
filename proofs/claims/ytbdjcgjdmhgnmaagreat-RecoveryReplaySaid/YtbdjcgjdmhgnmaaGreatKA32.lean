import Derived.Lib.SliceRun
import Derived.Test.YtbdjcgjdmhgnmaaGreatKA2
import Derived.Test.YtbdjcgjdmhgnmaaGreatKA6
namespace Go.Proofs.YtbdjcgjdmhgnmaaGreat
open Go.RowKit
set_option linter.unusedSimpArgs false
set_option linter.unusedVariables false
set_option maxHeartbeats 1000000
set_option maxRecDepth 100000
def NewSl (w : World) (t : TypeId) (sz n : Nat) (xs : List Value) (e : Ending) (w' : World) : Prop :=
 ∃ A c, e = .returned (.slice A n c) ∧ Own w.heap.size w' t sz A n c xs ∧ (n = 0 → c = 0) ∧ Below w.heap.size w w'
theorem infoInt : (Tryz.prog.info? 3).map (fun i => (i.zero, i.size, i.bytes)) = some (some (.int .i64 0), 1, 8) := by kernel_rfl
theorem cloneInt (A : Option Addr) (n c : Nat) (xs : List Value) (w : World) (h : Cells w A xs) (hl : xs.length = n * 1) (h1 : ∀ u ∈ xs, u.oneCell' = true) (hb : n * 8 ≤ 140737488355328) :
    Calls Tryz.prog 90 #[.slice A n c] w (NewSl w 3 1 n xs) := by
  obtain ⟨i, hi, hz0, hz1, hz2⟩ := info_parts infoInt
  have HC := hid h
  have qn : ∀ (w : World) (a : Option Addr) (n c n' c' : Nat), (binOp .eql 29 (.slice a n c) (.slice none n' c')).run Tryz.prog w = .ok (.bool a.isNone) w := fun w a n c n' c' => Lib.run_eql_slice_nil w _ _ a n c n' c' Tryz.underlying29
  clear h
  cases A with
  | none =>
    have hx0 : xs.length = 0 := HC.out.none rfl
    obtain rfl : n = 0 := by omega
    obtain rfl : xs = [] := List.length_eq_zero_iff.1 hx0
    go_enter Tryz.func90, Tryz.ntmps90
    go_wp2
    go_ret
    exact ⟨none, 0, rfl, Own.nil _ _ _ _ _, fun _ => rfl, ext_refl _⟩
  | some a =>
    go_enter Tryz.func90, Tryz.ntmps90
    have hW : (w.alloc (.cells #[] 3)).heap.size = w.heap.size + 1 := by simp
    go_wp2_with (at_builtin; refine wpList_app rfl (.tmp 5) (.tmp 6) 29 29 rfl _ 0 0 (0 + n) (.slice (some a) n c) (by rfl) (by rfl) (run_own0 (w := w.alloc (.cells #[] 3)) w.heap.size (by omega) 29 29 _ 3 i _ Tryz.underlying29 hi hz0 (by rw [hz1]; rfl) _ _ n xs (by rw [hz1]; exact src_cells Tryz.underlying29 (HC.out.ext (ext_alloc (ext_refl _) _)) hl (fun e => by cases e) h1) (by rw [hz2]; omega) (by omega)) ?_; intro A' c' w' hR; have HR := hid hR; clear hR)
    obtain ⟨hO, hC, hB⟩ := HR.out
    rw [hz1, Nat.zero_add] at hO
    go_ret
    exact ⟨A', c', by simp, hO, hC, (ext_alloc (ext_refl _) _).trans hB⟩
theorem infoSet : (Tryz.prog.info? 162).map (fun i => (i.zero, i.size, i.bytes)) = some (some (.int .u8 0), 1, 1) := by kernel_rfl
theorem cloneSet (A : Option Addr) (n c : Nat) (xs : List Value) (w : World) (h : Cells w A xs) (hl : xs.length = n * 1) (h1 : ∀ u ∈ xs, u.oneCell' = true) (hb : n * 1 ≤ 140737488355328) :
    Calls Tryz.prog 91 #[.slice A n c] w (NewSl w 162 1 n xs) := by
  obtain ⟨i, hi, hz0, hz1, hz2⟩ := info_parts infoSet
  have HC := hid h
  have qn : ∀ (w : World) (a : Option Addr) (n c n' c' : Nat), (binOp .eql 40 (.slice a n c) (.slice none n' c')).run Tryz.prog w = .ok (.bool a.isNone) w := fun w a n c n' c' => Lib.run_eql_slice_nil w _ _ a n c n' c' Tryz.underlying40
  clear h
  cases A with
  | none =>
    have hx0 : xs.length = 0 := HC.out.none rfl
    obtain rfl : n = 0 := by omega
    obtain rfl : xs = [] := List.length_eq_zero_iff.1 hx0
    go_enter Tryz.func91, Tryz.ntmps91
    go_wp2
    go_ret
    exact ⟨none, 0, rfl, Own.nil _ _ _ _ _, fun _ => rfl, ext_refl _⟩
  | some a =>
    go_enter Tryz.func91, Tryz.ntmps91
    have hW : (w.alloc (.cells #[] 162)).heap.size = w.heap.size + 1 := by simp
    go_wp2_with (at_builtin; refine wpList_app rfl (.tmp 5) (.tmp 6) 40 40 rfl _ 0 0 (0 + n) (.slice (some a) n c) (by rfl) (by rfl) (run_own0 (w := w.alloc (.cells #[] 162)) w.heap.size (by omega) 40 40 _ 162 i _ Tryz.underlying40 hi hz0 (by rw [hz1]; rfl) _ _ n xs (by rw [hz1]; exact src_cells Tryz.underlying40 (HC.out.ext (ext_alloc (ext_refl _) _)) hl (fun e => by cases e) h1) (by rw [hz2]; omega) (by omega)) ?_; intro A' c' w' hR; have HR := hid hR; clear hR)
    obtain ⟨hO, hC, hB⟩ := HR.out
    rw [hz1, Nat.zero_add] at hO
    go_ret
    exact ⟨A', c', by simp, hO, hC, (ext_alloc (ext_refl _) _).trans hB⟩
theorem infoStep : (Tryz.prog.info? 78).map (fun i => (i.zero, i.size, i.bytes)) = some (some (.agg #[.int .i64 0, .int .i64 0, .int .i64 0]), 3, 24) := by kernel_rfl
theorem cloneStep (A : Option Addr) (n c : Nat) (xs : List Value) (w : World) (h : Cells w A xs) (hl : xs.length = n * 3) (h1 : ∀ u ∈ xs, u.oneCell' = true) (hb : n * 24 ≤ 140737488355328) :
    Calls Tryz.prog 58 #[.slice A n c] w (NewSl w 78 3 n xs) := by
  obtain ⟨i, hi, hz0, hz1, hz2⟩ := info_parts infoStep
  have HC := hid h
  have qn : ∀ (w : World) (a : Option Addr) (n c n' c' : Nat), (binOp .eql 33 (.slice a n c) (.slice none n' c')).run Tryz.prog w = .ok (.bool a.isNone) w := fun w a n c n' c' => Lib.run_eql_slice_nil w _ _ a n c n' c' Tryz.underlying33
  clear h
  cases A with
  | none =>
    have hx0 : xs.length = 0 := HC.out.none rfl
    obtain rfl : n = 0 := by omega
    obtain rfl : xs = [] := List.length_eq_zero_iff.1 hx0
    go_enter Tryz.func58, Tryz.ntmps58
    go_wp2
    go_ret
    exact ⟨none, 0, rfl, Own.nil _ _ _ _ _, fun _ => rfl, ext_refl _⟩
  | some a =>
    go_enter Tryz.func58, Tryz.ntmps58
    have hW : (w.alloc (.cells #[] 78)).heap.size = w.heap.size + 1 := by simp
    go_wp2_with (at_builtin; refine wpList_app rfl (.tmp 5) (.tmp 6) 33 33 rfl _ 0 0 (0 + n) (.slice (some a) n c) (by rfl) (by rfl) (run_own0 (w := w.alloc (.cells #[] 78)) w.heap.size (by omega) 33 33 _ 78 i _ Tryz.underlying33 hi hz0 (by rw [hz1]; rfl) _ _ n xs (by rw [hz1]; exact src_cells Tryz.underlying33 (HC.out.ext (ext_alloc (ext_refl _) _)) hl (fun e => by cases e) h1) (by rw [hz2]; omega) (by omega)) ?_; intro A' c' w' hR; have HR := hid hR; clear hR)
    obtain ⟨hO, hC, hB⟩ := HR.out
    rw [hz1, Nat.zero_add] at hO
    go_ret
    exact ⟨A', c', by simp, hO, hC, (ext_alloc (ext_refl _) _).trans hB⟩
theorem infoEntry : (Tryz.prog.info? 50).map (fun i => (i.zero, i.size, i.bytes)) = some (some (.agg #[.int .i64 0, .int .i64 0, .int .i64 0, .string ⟨#[]⟩]), 4, 40) := by kernel_rfl
theorem cloneEntry (A : Option Addr) (n c : Nat) (xs : List Value) (w : World) (h : Cells w A xs) (hl : xs.length = n * 4) (h1 : ∀ u ∈ xs, u.oneCell' = true) (hb : n * 40 ≤ 140737488355328) :
    Calls Tryz.prog 11 #[.slice A n c] w (NewSl w 50 4 n xs) := by
  obtain ⟨i, hi, hz0, hz1, hz2⟩ := info_parts infoEntry
  have HC := hid h
  have qn : ∀ (w : World) (a : Option Addr) (n c n' c' : Nat), (binOp .eql 28 (.slice a n c) (.slice none n' c')).run Tryz.prog w = .ok (.bool a.isNone) w := fun w a n c n' c' => Lib.run_eql_slice_nil w _ _ a n c n' c' Tryz.underlying28
  clear h
  cases A with
  | none =>
    have hx0 : xs.length = 0 := HC.out.none rfl
    obtain rfl : n = 0 := by omega
    obtain rfl : xs = [] := List.length_eq_zero_iff.1 hx0
    go_enter Tryz.func11, Tryz.ntmps11
    go_wp2
    go_ret
    exact ⟨none, 0, rfl, Own.nil _ _ _ _ _, fun _ => rfl, ext_refl _⟩
  | some a =>
    go_enter Tryz.func11, Tryz.ntmps11
    have hW : (w.alloc (.cells #[] 50)).heap.size = w.heap.size + 1 := by simp
    go_wp2_with (at_builtin; refine wpList_app rfl (.tmp 5) (.tmp 6) 28 28 rfl _ 0 0 (0 + n) (.slice (some a) n c) (by rfl) (by rfl) (run_own0 (w := w.alloc (.cells #[] 50)) w.heap.size (by omega) 28 28 _ 50 i _ Tryz.underlying28 hi hz0 (by rw [hz1]; rfl) _ _ n xs (by rw [hz1]; exact src_cells Tryz.underlying28 (HC.out.ext (ext_alloc (ext_refl _) _)) hl (fun e => by cases e) h1) (by rw [hz2]; omega) (by omega)) ?_; intro A' c' w' hR; have HR := hid hR; clear hR)
    obtain ⟨hO, hC, hB⟩ := HR.out
    rw [hz1, Nat.zero_add] at hO
    go_ret
    exact ⟨A', c', by simp, hO, hC, (ext_alloc (ext_refl _) _).trans hB⟩
end Go.Proofs.YtbdjcgjdmhgnmaaGreat

namespace Go.Proofs.YtbdjcgjdmhgnmaaGreat
open Go Go.RowKit
set_option linter.unusedSimpArgs false
set_option linter.unusedVariables false
theorem args_val {V X : Nat → Prop} {Z : Key → Hd} {w : World} {N : Nat} {ρ : Key → Hd} {lb : Key → Option Box} {args : List Arg} {vals : List Value} (hR : Rel V X Z w N ρ (fun q => q.2 < 1) (lk (argTm 0 args)) lb ⟨vals.toArray, []⟩ w) {i : Nat} {av : AV} (hi : lk (argTm 0 args) i = some av) :
    i < N ∧ AVRel (CRel (Im V ρ lb) ρ (fun q => q.2 < 1) w) av (vals.getD i undef) := by
  obtain ⟨h1, h2⟩ := hR.tm i av hi
  refine ⟨h1, ?_⟩
  have e1 : (⟨vals.toArray, []⟩ : Act).tmps.getD i undef = vals.getD i undef := by simp [Array.getD_eq_getD_getElem?]
  rw [e1] at h2
  exact h2
theorem fn_newSl {P : Program} {f : FuncId} {args : List Arg} {el : TypeId} {sz : Nat} {rows : List (List D)} (hz : 0 < sz) (hnb : argBx 0 args = []) (hni : ioBx 0 args [] = [])
    (h : ∀ (V X : Nat → Prop) (Z : Key → Hd) (ρ : Key → Hd) (w : World) (vals : List Value), vals.length = args.length → Rel V X Z w vals.length ρ (fun q => q.2 < 1) (lk (argTm 0 args)) (lk (argBx 0 args ++ [])) ⟨vals.toArray, []⟩ w →
      ∃ us, All2 (CRel (fun b => ¬ V b ∧ b < w.heap.size) ρ (fun q => q.2 < 1) w) (rows.flatten.map .d) us ∧ us.length = rows.length * sz ∧ (∀ (i : Nat) (row : List D), rows[i]? = some row → row.length = sz) ∧ rows.length ≤ 4611686018427387904 ∧ Calls P f vals.toArray w (NewSl w el sz rows.length us)) :
    FnSound P f args [] { vals := [(false, [.own (0, 1)])], bx := [((0, 1), .sl el sz rows)] } := by
  intro V X Z ρ w vals hl hR
  obtain ⟨us, hA, hul, hrl, hlen, hC⟩ := h V X Z ρ w vals hl hR
  refine hC.mono ?_
  rintro e w' ⟨A, c, rfl, hO, hc0, hB⟩
  have hv : ∀ b, V b → b < w.heap.size := fun b hb => (hR.va b hb).1
  let g : Option Nat := if rows.length = 0 then none else A.map (·.block)
  let ρ' : Key → Hd := updR ρ (0, 1) ⟨A, g, rows.length, c, sz⟩
  have hg : ∀ b, g = some b → w.heap.size ≤ b ∧ b < w'.heap.size ∧ A = some ⟨b, 0, none⟩ := by
    intro b hb
    have hb' : (if rows.length = 0 then none else A.map (·.block)) = some b := hb
    split at hb'
    · cases hb'
    · rename_i hne
      obtain ⟨g', sp, h1, h2, h3, h4⟩ := hO.blk (by omega)
      rw [h1] at hb'
      cases hb'
      exact ⟨h2, h4.lt, h1⟩
  have hlb : ∀ q box, lk ([((0, 1), Box.sl el sz rows)] : List (Key × Box)) q = some box → q = (0, 1) ∧ box = .sl el sz rows := by
    intro q box hq
    have := mem_of_lk hq
    simp at this
    exact ⟨this.1, this.2⟩
  have him : ∀ b, b < w.heap.size → ¬ V b → Im V ρ' (lk ([((0, 1), Box.sl el sz rows)] : List (Key × Box))) b := by
    intro b hb hnv
    refine ⟨hnv, fun q box hq hl' hgb => ?_⟩
    obtain ⟨rfl, rfl⟩ := hlb q box hq
    rw [show ρ' (0, 1) = ⟨A, g, rows.length, c, sz⟩ from updR_same _ _ _] at hgb
    have := (hg b hgb).1
    omega
  refine ⟨_, ρ', rfl, rfl, rfl, fun t av ht => ?_, fun q box hq => ?_, fun q1 b1 q2 b2 b e1 l1 e2 l2 g1 g2 => ?_, fun q box b hq hl' hgb => ?_, ?_, fun b hb => hR.va b hb, fun q hq => ⟨trivial, ?_⟩⟩
  · unfold ltOne at ht
    split at ht
    · rename_i h0
      subst h0
      cases ht
      refine ⟨by omega, ?_⟩
      rw [resAV_id_one]
      exact one1 ⟨trivial, by rw [show ρ' (0, 1) = ⟨A, g, rows.length, c, sz⟩ from updR_same _ _ _]; rfl⟩
    · cases ht
  · rw [hni] at hq
    obtain ⟨rfl, rfl⟩ := hlb q box hq
    refine ⟨trivial, ?_⟩
    rw [hni]
    simp only [BoxRel]
    rw [show ρ' (0, 1) = ⟨A, g, rows.length, c, sz⟩ from updR_same _ _ _]
    refine ⟨rfl, rfl, hO.1, hlen, hrl, ?_⟩
    by_cases h0 : rows.length = 0
    · left
      have : us.length = 0 := by rw [hul, h0, Nat.zero_mul]
      exact ⟨if_pos h0, List.length_eq_zero_iff.1 h0, hc0 h0⟩
    · right
      obtain ⟨g', sp, h1, h2, h3, h4⟩ := hO.blk (by omega)
      refine ⟨g', us, sp, ?_, h1, h4, ?_, h3⟩
      · show (if rows.length = 0 then none else A.map (·.block)) = some g'
        rw [if_neg h0, h1]
        rfl
      · exact data_list (hA.imp fun cc v _ hcc => hcc.keep (Keep.of_below hB (fun b hb _ => hb)) (fun b _ h => h) (fun _ _ => rfl) (fun _ h => h)) (fun cc hcc => by obtain ⟨dd, _, rfl⟩ := List.mem_map.1 hcc; rfl) (fun b hb hnv => him b hnv.2 hnv.1)
  · rw [hni] at e1 e2
    rw [(hlb q1 b1 e1).1, (hlb q2 b2 e2).1]
  · rw [hni] at hq
    obtain ⟨rfl, rfl⟩ := hlb q box hq
    rw [show ρ' (0, 1) = ⟨A, g, rows.length, c, sz⟩ from updR_same _ _ _] at hgb
    exact ⟨(hg b hgb).2.1, .inl (hg b hgb).1⟩
  · exact Keep.of_below hB (fun b hb _ => hb)
  · rw [show ρ' q = ρ q from if_neg (fun e => by rw [e] at hq; cases hq)]
    exact (hR.zz q hq).2
def cloneX (el : TypeId) (sz bytes : Nat) (args : List Arg) : Option ARes :=
 match args with
 | [.val false [c]] => match lookRows (fun _ => none) sz c with
  | some rows => if rows.length * bytes ≤ 140737488355328 ∧ rows.length ≤ 4611686018427387904 then some { vals := [(false, [.own (0, 1)])], bx := [((0, 1), .sl el sz rows)] } else none
  | none => none
 | _ => none
theorem vals_one {vals : List Value} (h : vals.length = 1) : vals = [vals.getD 0 undef] := by
 match vals, h with
 | [v], _ => rfl
theorem clone_fn {P : Program} {f : FuncId} {el : TypeId} {sz bytes : Nat} (hz : 0 < sz) (hC : ∀ (A : Option Addr) (n c : Nat) (xs : List Value) (w : World), Cells w A xs → xs.length = n * sz → (∀ u ∈ xs, u.oneCell' = true) → n * bytes ≤ 140737488355328 → Calls P f #[.slice A n c] w (NewSl w el sz n xs))
    {args : List Arg} {r : ARes} (he : cloneX el sz bytes args = some r) : FnSound P f args [] r := by
  unfold cloneX at he
  split at he
  · rename_i c
    split at he
    · rename_i rows hrows
      split at he
      · rename_i hcnd
        cases he
        refine fn_newSl hz rfl rfl (fun V X Z ρ w vals hl hR => ?_)
        obtain ⟨_, hv⟩ := args_val hR (i := 0) (av := .one false [c]) rfl
        obtain ⟨A, cp, us, x1, x2, x3, x4, x5, x6⟩ := look_sound hR (lb' := fun _ => none) (fun _ _ h => by cases h) hz hrows (slot1_sound rfl hv)
        refine ⟨us, x4.imp fun cc v _ hcc => hcc.keep (Keep.refl _ _) (fun b hb hi => ⟨hi.1, hb⟩) (fun _ _ => rfl) (fun _ h => h), x2, x6, hcnd.2, ?_⟩
        have e1 : vals.toArray = #[.slice A rows.length cp] := by rw [vals_one hl, x1]
        rw [e1]
        exact hC A rows.length cp us w x3 x2 x4.ones hcnd.1
      · cases he
    · cases he
  · cases he
theorem vals_two {vals : List Value} (h : vals.length = 2) : vals = [vals.getD 0 undef, vals.getD 1 undef] := by
 match vals, h with
 | [v, u], _ => rfl
theorem fn_data {P : Program} {f : FuncId} {args : List Arg} {vals0 : List (Bool × List C)} (hni : ioBx 0 args [] = [])
    (h : ∀ (V X : Nat → Prop) (Z : Key → Hd) (ρ : Key → Hd) (w : World) (vals : List Value), vals.length = args.length → Rel V X Z w vals.length ρ (fun q => q.2 < 1) (lk (argTm 0 args)) (lk (argBx 0 args ++ [])) ⟨vals.toArray, []⟩ w →
      Calls P f vals.toArray w fun e w' => ∃ v, e = .returned v ∧ Below w.heap.size w w' ∧ ∀ S : Nat → Prop, (∀ b, w.heap.size ≤ b → S b) → ∀ ρ' ok', AVRel (CRel S ρ' ok' w') (resAV id vals0) v) :
    FnSound P f args [] { vals := vals0 } := by
  intro V X Z ρ w vals hl hR
  refine (h V X Z ρ w vals hl hR).mono ?_
  rintro e w' ⟨v, rfl, hB, hv⟩
  refine ⟨v, ρ, rfl, rfl, rfl, fun t av ht => ?_, fun q box hq => ?_, fun q1 b1 q2 b2 b e1 => ?_, fun q box b hq => ?_, Keep.of_below hB (fun b hb _ => hb), fun b hb => hR.va b hb, fun q hq => ⟨trivial, (hR.zz q hq).2⟩⟩
  · unfold ltOne at ht
    split at ht
    · rename_i h0
      subst h0
      cases ht
      refine ⟨by omega, hv _ (fun b hb => ⟨fun hvb => ?_, fun q box hq => ?_⟩) _ _⟩
      · have := (hR.va b hvb).1
        omega
      · rw [hni] at hq; cases hq
    · cases ht
  · rw [hni] at hq; cases hq
  · rw [hni] at e1; cases e1
  · rw [hni] at hq; cases hq
end Go.Proofs.YtbdjcgjdmhgnmaaGreat

