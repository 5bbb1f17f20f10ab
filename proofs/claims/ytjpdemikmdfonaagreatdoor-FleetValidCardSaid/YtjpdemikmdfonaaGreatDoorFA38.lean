/- Rules of runs and contracts of functions, for the claims of one seat. -/
import Derived.Handy
import Derived.Laws.IdiomStrings
import Derived.Lib.SliceRun
import Derived.Test.YtjpdemikmdfonaaGreatDoorFA1
import Derived.Test.YtjpdemikmdfonaaGreatDoorFA3
import Derived.Test.YtjpdemikmdfonaaGreatDoorFA7
namespace Go.Proofs.YtjpdemikmdfonaaGreatDoor
open Go.RowKit
set_option linter.unusedSimpArgs false
set_option linter.unusedVariables false
set_option maxHeartbeats 1000000
set_option maxRecDepth 100000
def NewSl (w : World) (t : TypeId) (sz n : Nat) (xs : List Value) (e : Ending) (w' : World) : Prop :=
 ∃ A c, e = .returned (.slice A n c) ∧ Own w.heap.size w' t sz A n c xs ∧ (n = 0 → c = 0) ∧ Below w.heap.size w w'
theorem infoInt : (Tryz.prog.info? 3).map (fun i => (i.zero, i.size, i.bytes)) = some (some (.int .i64 0), 1, 8) := by kernel_rfl
theorem cloneInt (A : Option Addr) (n c : Nat) (xs : List Value) (w : World) (h : Cells w A xs) (hl : xs.length = n * 1) (h1 : ∀ u ∈ xs, u.oneCell' = true) (hb : n * 8 ≤ 140737488355328) :
    Calls Tryz.prog 55 #[.slice A n c] w (NewSl w 3 1 n xs) := by
 obtain ⟨i, hi, hz0, hz1, hz2⟩ := info_parts infoInt
 have HC := hid h
 have qn : ∀ (w : World) (a : Option Addr) (n c n' c' : Nat), (binOp .eql 30 (.slice a n c) (.slice none n' c')).run Tryz.prog w = .ok (.bool a.isNone) w := fun w a n c n' c' => Lib.run_eql_slice_nil w _ _ a n c n' c' Tryz.underlying30
 clear h
 cases A with
 | none =>
  have hx0 : xs.length = 0 := HC.out.none rfl
  obtain rfl : n = 0 := by omega
  obtain rfl : xs = [] := List.length_eq_zero_iff.1 hx0
  go_enter Tryz.func55, Tryz.ntmps55
  go_wp2
  go_ret
  exact ⟨none, 0, rfl, Own.nil _ _ _ _ _, fun _ => rfl, ext_refl _⟩
 | some a =>
  go_enter Tryz.func55, Tryz.ntmps55
  have hW : (w.alloc (.cells #[] 3)).heap.size = w.heap.size + 1 := by simp
  go_wp2_with (at_builtin; refine wpList_app rfl (.tmp 5) (.tmp 6) 30 30 rfl _ 0 0 (0 + n) (.slice (some a) n c) (by rfl) (by rfl) (run_own0 (w := w.alloc (.cells #[] 3)) w.heap.size (by omega) 30 30 _ 3 i _ Tryz.underlying30 hi hz0 (by rw [hz1]; rfl) _ _ n xs (by rw [hz1]; exact src_cells Tryz.underlying30 (HC.out.ext (ext_alloc (ext_refl _) _)) hl (fun e => by cases e) h1) (by rw [hz2]; omega) (by omega)) ?_; intro A' c' w' hR; have HR := hid hR; clear hR)
  obtain ⟨hO, hC, hB⟩ := HR.out
  rw [hz1, Nat.zero_add] at hO
  go_ret
  exact ⟨A', c', by simp, hO, hC, (ext_alloc (ext_refl _) _).trans hB⟩
theorem infoBool : (Tryz.prog.info? 4).map (fun i => (i.zero, i.size, i.bytes)) = some (some (.bool false), 1, 1) := by kernel_rfl
theorem cloneBool (A : Option Addr) (n c : Nat) (xs : List Value) (w : World) (h : Cells w A xs) (hl : xs.length = n * 1) (h1 : ∀ u ∈ xs, u.oneCell' = true) (hb : n * 1 ≤ 140737488355328) :
    Calls Tryz.prog 54 #[.slice A n c] w (NewSl w 4 1 n xs) := by
 obtain ⟨i, hi, hz0, hz1, hz2⟩ := info_parts infoBool
 have HC := hid h
 have qn : ∀ (w : World) (a : Option Addr) (n c n' c' : Nat), (binOp .eql 39 (.slice a n c) (.slice none n' c')).run Tryz.prog w = .ok (.bool a.isNone) w := fun w a n c n' c' => Lib.run_eql_slice_nil w _ _ a n c n' c' Tryz.underlying39
 clear h
 cases A with
 | none =>
  have hx0 : xs.length = 0 := HC.out.none rfl
  obtain rfl : n = 0 := by omega
  obtain rfl : xs = [] := List.length_eq_zero_iff.1 hx0
  go_enter Tryz.func54, Tryz.ntmps54
  go_wp2
  go_ret
  exact ⟨none, 0, rfl, Own.nil _ _ _ _ _, fun _ => rfl, ext_refl _⟩
 | some a =>
  go_enter Tryz.func54, Tryz.ntmps54
  have hW : (w.alloc (.cells #[] 4)).heap.size = w.heap.size + 1 := by simp
  go_wp2_with (at_builtin; refine wpList_app rfl (.tmp 5) (.tmp 6) 39 39 rfl _ 0 0 (0 + n) (.slice (some a) n c) (by rfl) (by rfl) (run_own0 (w := w.alloc (.cells #[] 4)) w.heap.size (by omega) 39 39 _ 4 i _ Tryz.underlying39 hi hz0 (by rw [hz1]; rfl) _ _ n xs (by rw [hz1]; exact src_cells Tryz.underlying39 (HC.out.ext (ext_alloc (ext_refl _) _)) hl (fun e => by cases e) h1) (by rw [hz2]; omega) (by omega)) ?_; intro A' c' w' hR; have HR := hid hR; clear hR)
  obtain ⟨hO, hC, hB⟩ := HR.out
  rw [hz1, Nat.zero_add] at hO
  go_ret
  exact ⟨A', c', by simp, hO, hC, (ext_alloc (ext_refl _) _).trans hB⟩
theorem infoRow : (Tryz.prog.info? 39).map (fun i => (i.zero, i.size, i.bytes)) = some (some (.slice none 0 0), 1, 24) := by kernel_rfl
theorem cloneRow (A : Option Addr) (n c : Nat) (xs : List Value) (w : World) (h : Cells w A xs) (hl : xs.length = n * 1) (h1 : ∀ u ∈ xs, u.oneCell' = true) (hb : n * 24 ≤ 140737488355328) :
    Calls Tryz.prog 53 #[.slice A n c] w (NewSl w 39 1 n xs) := by
 obtain ⟨i, hi, hz0, hz1, hz2⟩ := info_parts infoRow
 have HC := hid h
 have qn : ∀ (w : World) (a : Option Addr) (n c n' c' : Nat), (binOp .eql 40 (.slice a n c) (.slice none n' c')).run Tryz.prog w = .ok (.bool a.isNone) w := fun w a n c n' c' => Lib.run_eql_slice_nil w _ _ a n c n' c' Tryz.underlying40
 clear h
 cases A with
 | none =>
  have hx0 : xs.length = 0 := HC.out.none rfl
  obtain rfl : n = 0 := by omega
  obtain rfl : xs = [] := List.length_eq_zero_iff.1 hx0
  go_enter Tryz.func53, Tryz.ntmps53
  go_wp2
  go_ret
  exact ⟨none, 0, rfl, Own.nil _ _ _ _ _, fun _ => rfl, ext_refl _⟩
 | some a =>
  go_enter Tryz.func53, Tryz.ntmps53
  have hW : (w.alloc (.cells #[] 39)).heap.size = w.heap.size + 1 := by simp
  go_wp2_with (at_builtin; refine wpList_app rfl (.tmp 5) (.tmp 6) 40 40 rfl _ 0 0 (0 + n) (.slice (some a) n c) (by rfl) (by rfl) (run_own0 (w := w.alloc (.cells #[] 39)) w.heap.size (by omega) 40 40 _ 39 i _ Tryz.underlying40 hi hz0 (by rw [hz1]; rfl) _ _ n xs (by rw [hz1]; exact src_cells Tryz.underlying40 (HC.out.ext (ext_alloc (ext_refl _) _)) hl (fun e => by cases e) h1) (by rw [hz2]; omega) (by omega)) ?_; intro A' c' w' hR; have HR := hid hR; clear hR)
  obtain ⟨hO, hC, hB⟩ := HR.out
  rw [hz1, Nat.zero_add] at hO
  go_ret
  exact ⟨A', c', by simp, hO, hC, (ext_alloc (ext_refl _) _).trans hB⟩
theorem infoTyp : (Tryz.prog.info? 73).map (fun i => (i.zero, i.size, i.bytes)) = some (some (.agg #[.int .i64 0, .string ⟨#[]⟩, .int .i64 0, .int .i64 0, .int .i64 0, .slice none 0 0, .slice none 0 0, .int .i64 0, .int .i64 0, .bool false]), 10, 120) := by kernel_rfl
theorem cloneTyp (A : Option Addr) (n c : Nat) (xs : List Value) (w : World) (h : Cells w A xs) (hl : xs.length = n * 10) (h1 : ∀ u ∈ xs, u.oneCell' = true) (hb : n * 120 ≤ 140737488355328) :
    Calls Tryz.prog 74 #[.slice A n c] w (NewSl w 73 10 n xs) := by
 obtain ⟨i, hi, hz0, hz1, hz2⟩ := info_parts infoTyp
 have HC := hid h
 have qn : ∀ (w : World) (a : Option Addr) (n c n' c' : Nat), (binOp .eql 48 (.slice a n c) (.slice none n' c')).run Tryz.prog w = .ok (.bool a.isNone) w := fun w a n c n' c' => Lib.run_eql_slice_nil w _ _ a n c n' c' Tryz.underlying48
 clear h
 cases A with
 | none =>
  have hx0 : xs.length = 0 := HC.out.none rfl
  obtain rfl : n = 0 := by omega
  obtain rfl : xs = [] := List.length_eq_zero_iff.1 hx0
  go_enter Tryz.func74, Tryz.ntmps74
  go_wp2
  go_ret
  exact ⟨none, 0, rfl, Own.nil _ _ _ _ _, fun _ => rfl, ext_refl _⟩
 | some a =>
  go_enter Tryz.func74, Tryz.ntmps74
  have hW : (w.alloc (.cells #[] 73)).heap.size = w.heap.size + 1 := by simp
  go_wp2_with (at_builtin; refine wpList_app rfl (.tmp 5) (.tmp 6) 48 48 rfl _ 0 0 (0 + n) (.slice (some a) n c) (by rfl) (by rfl) (run_own0 (w := w.alloc (.cells #[] 73)) w.heap.size (by omega) 48 48 _ 73 i _ Tryz.underlying48 hi hz0 (by rw [hz1]; rfl) _ _ n xs (by rw [hz1]; exact src_cells Tryz.underlying48 (HC.out.ext (ext_alloc (ext_refl _) _)) hl (fun e => by cases e) h1) (by rw [hz2]; omega) (by omega)) ?_; intro A' c' w' hR; have HR := hid hR; clear hR)
  obtain ⟨hO, hC, hB⟩ := HR.out
  rw [hz1, Nat.zero_add] at hO
  go_ret
  exact ⟨A', c', by simp, hO, hC, (ext_alloc (ext_refl _) _).trans hB⟩
end Go.Proofs.YtjpdemikmdfonaaGreatDoor

namespace Go.Proofs.YtjpdemikmdfonaaGreatDoor
open Go Go.RowKit
set_option linter.unusedSimpArgs false
set_option linter.unusedVariables false
theorem args_val {V X : Nat → Prop} {Z : Key → Hd} {w : World} {N : Nat} {ρ : Key → Hd} {lb : Key → Option Box} {args : List Arg} {vals : List Value} (hR : Rel V X Z w N ρ (fun q => q.2 < 1) (lk (argTm 0 args)) lb ⟨vals.toArray, []⟩ w) {i : Nat} {av : AV} (hi : lk (argTm 0 args) i = some av) :
    i < N ∧ AVRel (CRel (Im V ρ lb) ρ (fun q => q.2 < 1) w) av (vals.getD i undef) := by
 obtain ⟨h1, h2⟩ := hR.tm i av hi
 refine ⟨h1, ?_⟩
 have e1 : (⟨vals.toArray, []⟩ : Act).tmps.getD i undef = vals.getD i undef := by simp [Array.getD_eq_getD_getElem?]
 rw [e1] at h2
 exact h2
theorem fn_newSl {P : Program} {f : FuncId} {args : List Arg} {el : TypeId} {sz : Nat} {rows : List (List D)} (hz : 0 < sz) (hnb : argBx 0 args = []) (hni : ioBx 0 args [] = [])
    (h : ∀ (V X : Nat → Prop) (Z : Key → Hd) (ρ : Key → Hd) (w : World) (vals : List Value), vals.length = args.length → Rel V X Z w vals.length ρ (fun q => q.2 < 1) (lk (argTm 0 args)) (lk (argBx 0 args ++ [])) ⟨vals.toArray, []⟩ w →
     ∃ us, All2 (CRel (fun b => ¬ V b ∧ b < w.heap.size) ρ (fun q => q.2 < 1) w) (rows.flatten.map .d) us ∧ us.length = rows.length * sz ∧ (∀ (i : Nat) (row : List D), rows[i]? = some row → row.length = sz) ∧ rows.length ≤ 4611686018427387904 ∧ Calls P f vals.toArray w (NewSl w el sz rows.length us)) :
    FnSound P f args [] { vals := [(false, [.own (0, 1)])], bx := [((0, 1), .sl el sz rows)] } := by
 intro V X Z ρ w vals hl hR
 obtain ⟨us, hA, hul, hrl, hlen, hC⟩ := h V X Z ρ w vals hl hR
 refine hC.mono ?_
 rintro e w' ⟨A, c, rfl, hO, hc0, hB⟩
 have hv : ∀ b, V b → b < w.heap.size := fun b hb => (hR.va.lt b hb).1
 let g : Option Nat := if rows.length = 0 then none else A.map (·.block)
 let ρ' : Key → Hd := updR ρ (0, 1) ⟨A, g, rows.length, c, sz⟩
 have hg : ∀ b, g = some b → w.heap.size ≤ b ∧ b < w'.heap.size ∧ A = some ⟨b, 0, none⟩ := by
  intro b hb
  have hb' : (if rows.length = 0 then none else A.map (·.block)) = some b := hb
  split at hb'
  ·cases hb'
  ·rename_i hne
   obtain ⟨g', sp, h1, h2, h3, h4⟩ := hO.blk (by omega)
   rw [h1] at hb'
   cases hb'
   exact ⟨h2, h4.lt, h1⟩
 have hlb : ∀ q box, lk ([((0, 1), Box.sl el sz rows)] : List (Key × Box)) q = some box → q = (0, 1) ∧ box = .sl el sz rows := by
  intro q box hq
  have := mem_of_lk hq
  simp at this
  exact ⟨this.1, this.2⟩
 have him : ∀ b, b < w.heap.size → ¬ V b → Im V ρ' (lk ([((0, 1), Box.sl el sz rows)] : List (Key × Box))) b := by
  intro b hb hnv
  refine ⟨hnv, fun q box hq hl' hgb => ?_⟩
  obtain ⟨rfl, rfl⟩ := hlb q box hq
  rw [show ρ' (0, 1) = ⟨A, g, rows.length, c, sz⟩ from updR_same _ _ _] at hgb
  have := (hg b hgb).1
  omega
 refine ⟨_, ρ', rfl, rfl, rfl, fun t av ht => ?_, fun q box hq => ?_, fun q1 b1 q2 b2 b e1 l1 e2 l2 g1 g2 => ?_, fun q box b hq hl' hgb => ?_, ?_, hR.va, fun q hq => ⟨trivial, ?_⟩⟩
 ·unfold ltOne at ht
  split at ht
  ·rename_i h0
   subst h0
   cases ht
   refine ⟨by omega, ?_⟩
   rw [resAV_id_one]
   exact one1 ⟨trivial, by rw [show ρ' (0, 1) = ⟨A, g, rows.length, c, sz⟩ from updR_same _ _ _]; rfl⟩
  ·cases ht
 ·rw [hni] at hq
  obtain ⟨rfl, rfl⟩ := hlb q box hq
  refine ⟨trivial, ?_⟩
  rw [hni]
  simp only [BoxRel]
  rw [show ρ' (0, 1) = ⟨A, g, rows.length, c, sz⟩ from updR_same _ _ _]
  refine ⟨rfl, rfl, hO.1, hlen, hrl, ?_⟩
  by_cases h0 : rows.length = 0
  ·left
   have : us.length = 0 := by rw [hul, h0, Nat.zero_mul]
   exact ⟨if_pos h0, List.length_eq_zero_iff.1 h0, hc0 h0⟩
  ·right
   obtain ⟨g', sp, h1, h2, h3, h4⟩ := hO.blk (by omega)
   refine ⟨g', us, sp, ?_, h1, h4, ?_, h3⟩
   ·show (if rows.length = 0 then none else A.map (·.block)) = some g'
    rw [if_neg h0, h1]
    rfl
   ·exact data_list (hA.imp fun cc v _ hcc => hcc.keep (Keep.of_below hB (fun b hb _ => hb)) (fun b _ h => h) (fun _ _ => rfl) (fun _ h => h)) (fun cc hcc => by obtain ⟨dd, _, rfl⟩ := List.mem_map.1 hcc; rfl) (fun b hb hnv => him b hnv.2 hnv.1)
 ·rw [hni] at e1 e2
  rw [(hlb q1 b1 e1).1, (hlb q2 b2 e2).1]
 ·rw [hni] at hq
  obtain ⟨rfl, rfl⟩ := hlb q box hq
  rw [show ρ' (0, 1) = ⟨A, g, rows.length, c, sz⟩ from updR_same _ _ _] at hgb
  exact ⟨(hg b hgb).2.1, .inl (hg b hgb).1⟩
 ·exact Keep.of_below hB (fun b hb _ => hb)
 ·rw [show ρ' q = ρ q from if_neg (fun e => by rw [e] at hq; cases hq)]
  exact (hR.zz q hq).2
def cloneX (el : TypeId) (sz bytes : Nat) (args : List Arg) : Option ARes :=
 match args with
 | [.val false [c]] => match lookRows (fun _ => none) sz c with
  | some rows => if rows.length * bytes ≤ 140737488355328 ∧ rows.length ≤ 4611686018427387904 then some { vals := [(false, [.own (0, 1)])], bx := [((0, 1), .sl el sz rows)] } else none
  | none => none
 | _ => none
theorem vals_one {vals : List Value} (h : vals.length = 1) : vals = [vals.getD 0 undef] := by
 match vals, h with
 | [v], _ => rfl
theorem clone_fn {P : Program} {f : FuncId} {el : TypeId} {sz bytes : Nat} (hz : 0 < sz) (hC : ∀ (A : Option Addr) (n c : Nat) (xs : List Value) (w : World), Cells w A xs → xs.length = n * sz → (∀ u ∈ xs, u.oneCell' = true) → n * bytes ≤ 140737488355328 → Calls P f #[.slice A n c] w (NewSl w el sz n xs))
    {args : List Arg} {r : ARes} (he : cloneX el sz bytes args = some r) : FnSound P f args [] r := by
 unfold cloneX at he
 split at he
 ·rename_i c
  split at he
  ·rename_i rows hrows
   split at he
   ·rename_i hcnd
    cases he
    refine fn_newSl hz rfl rfl (fun V X Z ρ w vals hl hR => ?_)
    obtain ⟨_, hv⟩ := args_val hR (i := 0) (av := .one false [c]) rfl
    obtain ⟨A, cp, us, x1, x2, x3, x4, x5, x6⟩ := look_sound hR (lb' := fun _ => none) (fun _ _ h => by cases h) hz hrows (slot1_sound rfl hv)
    refine ⟨us, x4.imp fun cc v _ hcc => hcc.keep (Keep.refl _ _) (fun b hb hi => ⟨hi.1, hb⟩) (fun _ _ => rfl) (fun _ h => h), x2, x6, hcnd.2, ?_⟩
    have e1 : vals.toArray = #[.slice A rows.length cp] := by rw [vals_one hl, x1]
    rw [e1]
    exact hC A rows.length cp us w x3 x2 x4.ones hcnd.1
   ·cases he
  ·cases he
 ·cases he
theorem fn_data {P : Program} {f : FuncId} {args : List Arg} {vals0 : List (Bool × List C)} (hni : ioBx 0 args [] = [])
    (h : ∀ (V X : Nat → Prop) (Z : Key → Hd) (ρ : Key → Hd) (w : World) (vals : List Value), vals.length = args.length → Rel V X Z w vals.length ρ (fun q => q.2 < 1) (lk (argTm 0 args)) (lk (argBx 0 args ++ [])) ⟨vals.toArray, []⟩ w →
     Calls P f vals.toArray w fun e w' => ∃ v, e = .returned v ∧ Below w.heap.size w w' ∧ ∀ S : Nat → Prop, (∀ b, w.heap.size ≤ b → S b) → ∀ ρ' ok', AVRel (CRel S ρ' ok' w') (resAV id vals0) v) :
    FnSound P f args [] { vals := vals0 } := by
 intro V X Z ρ w vals hl hR
 refine (h V X Z ρ w vals hl hR).mono ?_
 rintro e w' ⟨v, rfl, hB, hv⟩
 refine ⟨v, ρ, rfl, rfl, rfl, fun t av ht => ?_, fun q box hq => ?_, fun q1 b1 q2 b2 b e1 => ?_, fun q box b hq => ?_, Keep.of_below hB (fun b hb _ => hb), hR.va, fun q hq => ⟨trivial, (hR.zz q hq).2⟩⟩
 ·unfold ltOne at ht
  split at ht
  ·rename_i h0
   subst h0
   cases ht
   refine ⟨by omega, hv _ (fun b hb => ⟨fun hvb => ?_, fun q box hq => ?_⟩) _ _⟩
   ·have := (hR.va.lt b hvb).1
    omega
   ·rw [hni] at hq; cases hq
  ·cases ht
 ·rw [hni] at hq; cases hq
 ·rw [hni] at e1; cases e1
 ·rw [hni] at hq; cases hq
end Go.Proofs.YtjpdemikmdfonaaGreatDoor

namespace Go.Proofs.YtjpdemikmdfonaaGreatDoor
open Go Go.RowKit
set_option linter.unusedSimpArgs false
set_option linter.unusedVariables false
set_option maxHeartbeats 2000000
set_option maxRecDepth 20000
theorem big0 (w : World) : Calls Tryz.prog 239 #[.int .u64 0] w fun e w' => e = .returned (.string ⟨#[]⟩) ∧ Below w.heap.size w w' := by
 have hcv : ∀ (x : World) (b o c : Nat), (convert 320 9 (.slice (some ⟨b, o, none⟩) 0 c)).run Tryz.prog x = .ok (.string ⟨#[]⟩) x := fun x b o c => run_convert_bytes_back x _ _ _ ⟨b, o, none⟩ c [] Tryz.underlying320 Tryz.underlying5 Tryz.underlying9 (fun j hj => by simp at hj)
 go_enter Tryz.func239, Tryz.ntmps239
 go_wp2
 go_rounds 1
 go_wp2
 go_ret
 exact ⟨rfl, ext_alloc (ext_refl w) _⟩
theorem big12 (w : World) : Calls Tryz.prog 239 #[.int .u64 12] w fun e w' => e = .returned (.string ⟨#[12]⟩) ∧ Below w.heap.size w w' := by
 have hcv : ∀ (x : World) (b o c : Nat), x.cell? ⟨b, o, none⟩ = some (.int .u8 12) → (convert 320 9 (.slice (some ⟨b, o, none⟩) 1 c)).run Tryz.prog x = .ok (.string ⟨#[12]⟩) x := fun x b o c h => run_convert_bytes_back x _ _ _ ⟨b, o, none⟩ c [12] Tryz.underlying320 Tryz.underlying5 Tryz.underlying9 (fun j hj => by
  have : j = 0 := by simpa using hj
  subst this
  simpa [Addr.add] using h)
 go_enter Tryz.func239, Tryz.ntmps239
 go_wp2
 go_rounds 2
 go_wp2
 go_ret
 exact ⟨rfl, ext_alloc (ext_refl w) _⟩
end Go.Proofs.YtjpdemikmdfonaaGreatDoor

namespace Go.Proofs.YtjpdemikmdfonaaGreatDoor
open Go Go.RowKit
set_option linter.unusedSimpArgs false
set_option linter.unusedVariables false
def argsEq : List Arg → List Arg → Bool
 | [], [] => true
 | .val x a :: r, .val y b :: s => (x == y) && (csEq a b && argsEq r s)
 | _, _ => false
theorem argsEq_ok : ∀ {a b : List Arg}, argsEq a b = true → a = b
 | [], [], _ => rfl
 | .val x a :: r, .val y b :: s, h => by
  simp only [argsEq, Bool.and_eq_true, beq_iff_eq] at h
  rw [h.1, csEq_ok h.2.1, argsEq_ok h.2.2]
 | .io .. :: _, .val .. :: _, h => by simp [argsEq] at h
 | .val .. :: _, .io .. :: _, h => by simp [argsEq] at h
 | .io .. :: _, .io .. :: _, h => by simp [argsEq] at h
 | [], _ :: _, h => by simp [argsEq] at h
 | .val .. :: _, [], h => by simp [argsEq] at h
 | .io .. :: _, [], h => by simp [argsEq] at h
abbrev CallT := List (FuncId × List Arg × ARes)
def lookT : CallT → FuncId → List Arg → Option ARes
 | [], _, _ => none
 | (g, xs, r) :: T, f, args => if f = g && argsEq args xs then some r else lookT T f args
def extT (T : CallT) (base : CallF) : CallF := fun f args bxs => match bxs with
 | [] => match lookT T f args with
  | some r => some r
  | none => base f args []
 | _ => base f args bxs
def TabOk (P : Program) : CallT → Prop
 | [] => True
 | (g, xs, r) :: T => FnSound P g xs [] r ∧ TabOk P T
theorem lookT_ok {P : Program} : ∀ {T : CallT}, TabOk P T → ∀ {f : FuncId} {args : List Arg} {r : ARes}, lookT T f args = some r → FnSound P f args [] r
 | [], _, f, args, r, he => by cases he
 | (g, xs, r0) :: T, h, f, args, r, he => by
  unfold lookT at he
  split at he
  ·rename_i hc
   simp only [Bool.and_eq_true, decide_eq_true_eq] at hc
   cases he
   rw [hc.1, argsEq_ok hc.2]
   exact h.1
  ·exact lookT_ok h.2 he
theorem extT_ok {P : Program} {T : CallT} {base : CallF} (hT : TabOk P T) (hb : CallOk P base) : CallOk P (extT T base) := by
 intro f args bxs r he
 unfold extT at he
 split at he
 ·split at he
  ·rename_i r' hr
   cases he
   exact lookT_ok hT hr
  ·exact hb _ _ _ _ he
 ·exact hb _ _ _ _ he
end Go.Proofs.YtjpdemikmdfonaaGreatDoor

