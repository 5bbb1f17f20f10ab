/- Rules of runs and contracts of functions, for the claims of one seat. -/
import Derived.Lib.AppendZerosOnto
import Derived.Lib.SliceRun
import Derived.Lib.Split
import Derived.Lib.Walk
import Derived.Test.YtfnljcallbalgaaGreatDoorUA16
import Derived.Test.YtfnljcallbalgaaGreatDoorUA27
namespace Go.Proofs.YtfnljcallbalgaaGreatDoor
open Go Go.RowKit
set_option linter.unusedSimpArgs false
set_option linter.unusedVariables false
theorem strs_rd {S : Nat → Prop} (w : World) (T : TypeId) (l : List ByteArray) (hn : l.length ≤ 4611686018427387904) (hS : S w.heap.size) :
    Rd S (w.alloc (.cells (l.map Value.string).toArray T)) (.sl 1 (l.map fun x => [.v (.string x)])) (.slice (some ⟨w.heap.size, 0, none⟩) l.length l.length) := by
 have hlen : (l.map fun x => [D.v (.string x)]).length = l.length := List.length_map _
 have hsz : w.heap.size < (w.alloc (.cells (l.map Value.string).toArray T)).heap.size := by simp
 have hB : Blk (w.alloc (.cells (l.map Value.string).toArray T)) w.heap.size T (l.map Value.string).toArray := Blk.new _ _ _
 have hrow : ∀ (i : Nat) (row : List D), (l.map fun x => [D.v (.string x)])[i]? = some row → ∃ x, l[i]? = some x ∧ row = [.v (.string x)] := fun i row h => by
  rw [List.getElem?_map] at h
  cases hx : l[i]? with
  | none => rw [hx] at h; cases h
  | some x => rw [hx] at h; cases h; exact ⟨x, rfl, rfl⟩
 have hcol : ∀ (x : ByteArray) (j : Nat) (d : D), [D.v (.string x)][j]? = some d → j = 0 ∧ d = .v (.string x) := fun x j d h => by
  match j, h with
  | 0, h => cases h; exact ⟨rfl, rfl⟩
 have h := Rd.sl (S := S) (w := w.alloc (.cells (l.map Value.string).toArray T)) (sz := 1) (rows := l.map fun x => [D.v (.string x)]) (A := some ⟨w.heap.size, 0, none⟩) (c := l.length) (b := w.heap.size) (o := 0) (cv := fun i j => .string (l.getD i ByteArray.empty)) (by rw [hlen]; exact Nat.le_refl _) (by rw [hlen]; exact hn)
  (fun _ => ⟨rfl, hsz, hS⟩)
  (fun i row h => by obtain ⟨x, _, rfl⟩ := hrow i row h; rfl)
  (fun i row j d h1 h2 => by
   obtain ⟨x, hx, rfl⟩ := hrow i row h1
   obtain ⟨rfl, rfl⟩ := hcol x j d h2
   rw [hB.cell]
   simp [List.getD, hx])
  (fun i row j d h1 h2 => by
   obtain ⟨x, hx, rfl⟩ := hrow i row h1
   obtain ⟨rfl, rfl⟩ := hcol x j d h2
   simp only [List.getD, hx, Option.getD_some]
   exact .v rfl)
 rw [hlen] at h
 exact h
def pcs (save : Nat) (s sep : ByteArray) : List ByteArray := (Lib.splitK sep.data.toList save (Lib.count s.data.toList sep.data.toList) s.data.toList).map fun l => ⟨l.toArray⟩
theorem pcs_eq (save : Nat) (s sep : ByteArray) : pcs save s sep = Lib.splitB sep save (Lib.countB s sep) s := by
 unfold pcs
 rw [show Lib.count s.data.toList sep.data.toList = Lib.countB s sep from rfl, ← Lib.splitB_data, List.map_map]
 conv => rhs; rw [← List.map_id (Lib.splitB sep save (Lib.countB s sep) s)]
 rfl
theorem vals_four {vals : List Value} (h : vals.length = 4) : vals = [vals.getD 0 undef, vals.getD 1 undef, vals.getD 2 undef, vals.getD 3 undef] := by
 match vals, h with
 | [_, _, _, _], _ => rfl
def gsX : List Arg → Option ARes
 | [.val false [.d (.v (.string s))], .val false [.d (.v (.string sep))], .val false [.d (.v (.int .i64 sv))], .val false [.d (.v (.int .i64 n))]] =>
  if s.size < 1000 ∧ 1 ≤ sep.size ∧ 0 ≤ sv ∧ sv.toNat ≤ sep.size ∧ n = -1 then some { vals := [(false, [.d (.sl 1 ((pcs sv.toNat s sep).map fun x => [.v (.string x)]))])] } else none
 | _ => none
theorem gs_fn {args : List Arg} {r : ARes} (he : gsX args = some r) : FnSound Tryz.prog 78 args [] r := by
 unfold gsX at he
 split at he
 ·rename_i s sep sv n
  split at he
  ·rename_i hc
   obtain ⟨c1, c2, c3, c4, c5⟩ := hc
   cases he
   refine fn_data rfl fun V X Z ρ w vals hl hR => ?_
   have hv := vals_four hl
   have h1 := conV_sound (x := .string s) rfl (args_val hR (i := 0) rfl).2
   have h2 := conV_sound (x := .string sep) rfl (args_val hR (i := 1) rfl).2
   have h3 := conV_sound (x := .int .i64 sv) rfl (args_val hR (i := 2) rfl).2
   have h4 := conV_sound (x := .int .i64 n) rfl (args_val hR (i := 3) rfl).2
   rw [h1, h2, h3, h4] at hv
   rw [hv]
   obtain ⟨m, hm⟩ := (hR.va.gl 2 (by simp [glB])).2.2
   have hle := Lib.countB_le sep c2 s.size s (Nat.le_refl _)
   have hlen := Lib.splitB_all sep c2 sv.toNat _ s rfl
   have hC := Tryz.strings_genSplit s sep sv.toNat (-1) (Lib.countB s sep + 1) m w (by omega) hm c2 c4 (by decide) (by decide) (by rw [if_pos (by decide)]; omega)
   rw [Nat.add_sub_cancel, hlen] at hC
   have e2 : Lib.cellsOf (Lib.splitB sep sv.toNat (Lib.countB s sep) s) (Lib.countB s sep + 1) = ((Lib.splitB sep sv.toNat (Lib.countB s sep) s).map Value.string).toArray := by rw [← hlen]; exact Lib.cellsOf_full _
   rw [e2, show ((sv.toNat : Nat) : Int) = sv by omega] at hC
   rw [c5]
   refine hC.mono ?_
   rintro e w' ⟨rfl, rfl⟩
   refine ⟨_, rfl, ext_alloc (ext_refl w) _, fun S hS ρ' ok' => one1 ?_⟩
   have h := strs_rd (S := S) w 9 (pcs sv.toNat s sep) (by rw [pcs_eq, hlen]; omega) (hS _ (Nat.le_refl _))
   rw [pcs_eq, hlen] at h
   rw [pcs_eq]
   exact h
  ·cases he
 ·cases he
def strsOf : List (List D) → Option (List ByteArray)
 | [] => some []
 | [.v (.string x)] :: r => (strsOf r).map (x :: ·)
 | _ => none
theorem strsOf_get : ∀ {rows : List (List D)} {xs : List ByteArray}, strsOf rows = some xs → rows.length = xs.length ∧ ∀ (i : Nat) x, xs[i]? = some x → rows[i]? = some [.v (.string x)]
 | [], xs, h => by cases h; exact ⟨rfl, fun i x hx => by simp at hx⟩
 | row :: r, xs, h => by
  unfold strsOf at h
  split at h
  ·rename_i h0; cases h0
  ·rename_i x r' h0
   cases h0
   obtain ⟨ys, hy, rfl⟩ := Option.map_eq_some_iff.1 h
   obtain ⟨h1, h2⟩ := strsOf_get hy
   refine ⟨by simp [h1], fun i z hz => ?_⟩
   cases i with
   | zero => simp at hz; subst hz; rfl
   | succ i => simpa using h2 i z (by simpa using hz)
  ·cases h
def joinX : List Arg → Option ARes
 | [.val false [.d (.sl 1 rows)], .val false [.d (.v (.string sep))]] => match strsOf rows with
  | some xs => if 1 ≤ xs.length ∧ xs.length ≤ 1000 ∧ (Lib.join (xs.map (·.data.toList)) sep.data.toList).length ≤ 1000 then some { vals := [(false, [.d (.v (.string ⟨(Lib.join (xs.map (·.data.toList)) sep.data.toList).toArray⟩))])] } else none
  | none => none
 | _ => none
theorem join_fn {args : List Arg} {r : ARes} (he : joinX args = some r) : FnSound Tryz.prog 42 args [] r := by
 unfold joinX at he
 split at he
 ·rename_i rows sep
  split at he
  ·rename_i xs hxs
   split at he
   ·rename_i hc
    obtain ⟨c1, c2, c3⟩ := hc
    cases he
    obtain ⟨hle, hget⟩ := strsOf_get hxs
    refine fn_data rfl fun V X Z ρ w vals hl hR => ?_
    have hv := vals_two hl
    have h2 := conV_sound (x := .string sep) rfl (args_val hR (i := 1) rfl).2
    have h1 := slot1_sound (c := .d (.sl 1 rows)) rfl (args_val hR (i := 0) rfl).2
    generalize vals.getD 0 undef = v0 at h1 hv
    cases h1 with
    | @sl _ _ B c b o cv hcc hb hA hl' hcell hr =>
     have hne : rows ≠ [] := fun e => by rw [e] at hle; simp at hle; omega
     obtain ⟨rfl, hbw, hSb⟩ := hA hne
     rw [h2] at hv
     rw [hv]
     have hC := Tryz.strings_Join b o c xs sep w (fun j x hx => by
      have g1 := hget j x hx
      have g2 := hcell j _ 0 _ g1 rfl
      have g3 := (hr j _ 0 _ g1 rfl).val.1
      rw [g3, Nat.mul_one, Nat.add_zero] at g2
      exact g2) hbw (by omega) (by rw [← hle]; exact hcc) (by omega)
     rw [hle]
     refine hC.mono ?_
     rintro e w' ⟨rfl, hB⟩
     exact ⟨_, rfl, hB, fun S hS ρ' ok' => one1 (.v rfl)⟩
   ·cases he
  ·cases he
 ·cases he
def atoiX : List Arg → Option ARes
 | [.val false [.d (.v (.string s))]] => match Lib.atoi s.data.toList with
  | some n => if s.size ≤ 18 then some { vals := [(false, [.d (.v (.int .i64 n))]), (false, [.d (.v .nilIface)])] } else none
  | none => none
 | _ => none
theorem atoi_fn {args : List Arg} {r : ARes} (he : atoiX args = some r) : FnSound Tryz.prog 132 args [] r := by
 unfold atoiX at he
 split at he
 ·rename_i s
  split at he
  ·rename_i n hn
   split at he
   ·rename_i hc
    cases he
    refine fn_data rfl fun V X Z ρ w vals hl hR => ?_
    have hv := vals_one hl
    have h1 := conV_sound (x := .string s) rfl (args_val hR (i := 0) rfl).2
    rw [h1] at hv
    rw [hv]
    refine (Tryz.strconv_Atoi s n hc hn w).mono ?_
    rintro e w' ⟨rfl, t, rfl⟩
    exact ⟨_, rfl, Joins.below_bytesWorld _ w _ t (Nat.le_refl _), fun S hS ρ' ok' => ⟨_, rfl, .cons (one1 (.v rfl)) (.cons (one1 (.v rfl)) .nil)⟩⟩
   ·cases he
  ·cases he
 ·cases he
def ixbX : List Arg → Option ARes
 | [.val false [.d (.v (.string s))], .val false [.d (.v (.int .u8 c))]] => some { vals := [(false, [.d (.v (.int .i64 (Lib.indexByte s.data.toList c.toNat.toUInt8)))])] }
 | _ => none
theorem ixb_fn {args : List Arg} {r : ARes} (he : ixbX args = some r) : FnSound Tryz.prog 91 args [] r := by
 unfold ixbX at he
 split at he
 ·rename_i s c
  cases he
  refine fn_data rfl fun V X Z ρ w vals hl hR => ?_
  have hv := vals_two hl
  have h1 := conV_sound (x := .string s) rfl (args_val hR (i := 0) rfl).2
  have h2 := conV_sound (x := .int .u8 c) rfl (args_val hR (i := 1) rfl).2
  rw [h1, h2] at hv
  rw [hv]
  refine (Tryz.strings_IndexByte s c w).mono ?_
  rintro e w' ⟨rfl, rfl⟩
  exact ⟨_, rfl, ext_refl _, fun S hS ρ' ok' => one1 (.v rfl)⟩
 ·cases he
end Go.Proofs.YtfnljcallbalgaaGreatDoor

namespace Go.Proofs.YtfnljcallbalgaaGreatDoor
open Go Go.RowKit
set_option linter.unusedSimpArgs false
set_option linter.unusedVariables false
set_option maxHeartbeats 4000000
set_option maxRecDepth 100000
theorem infoStr : (Tryz.prog.info? 9).map (fun i => (i.zero, i.size, i.bytes)) = some (some (.string ByteArray.empty), 1, 16) := by kernel_rfl
theorem grow_room (B : Option Addr) (n : Nat) (h1 : 1 ≤ n) (h2 : n ≤ 1000) (w : World) :
    Calls Tryz.prog 86 #[.slice B 0 0, .int .i64 n] w fun e w' => ∃ (c : Nat) (sp : List Value), e = .returned (.slice (some ⟨w.heap.size, 0, none⟩) 0 c) ∧ Blk w' w.heap.size 9 sp.toArray ∧ sp.length = (c - 0) * 1 ∧ Below w.heap.size w w' := by
 obtain ⟨i, hi, hz0, hz1, hz2⟩ := info_parts infoStr
 have hold : (Builtin.firstCells i.size 0 (.slice B 0 0)).run Tryz.prog w.drew = .ok ([] : List Value).toArray w.drew := by
  cases B with
  | none => exact run_firstCells_none w.drew i.size 0 0 0
  | some a => exact run_firstCells_some w.drew i.size 0 a 0 0 [] (by simp) (fun j v hj => by simp at hj)
 obtain ⟨G, hG⟩ : ∃ G, G = grownCap w (0 + n) 0 9 := ⟨_, rfl⟩
 have hGn : 0 + n ≤ G := hG ▸ grownCap_ge w _ _ _
 have hG63 : G ≤ 9223372036854775807 := by
  have := grownCap_le_maxLen w (0 + n) 0 9 (by unfold maxLen; omega)
  rw [← hG] at this
  unfold maxLen at this
  omega
 obtain ⟨sp, hsp⟩ : ∃ sp : List Value, sp.toArray = ([] : List Value).toArray ++ Builtin.zeroCells (Value.string ByteArray.empty).cells n ++ Builtin.zeroCells (Value.string ByteArray.empty).cells (G - (0 + n)) := ⟨_, Array.toArray_toList⟩
 have hlen : sp.length = (G - 0) * 1 := by
  have h := congrArg Array.size hsp
  have h1 : (Value.string ByteArray.empty).cells.size = 1 := rfl
  simp only [List.size_toArray, Array.size_append, size_zeroCells, h1, List.length_nil] at h
  omega
 have hrz : ∀ ty, (Builtin.append_ #[110, 3] ty #[.slice B 0 0, .int .i64 (n : Int)]).run Tryz.prog w =
     .ok (.slice (some ⟨w.heap.size, 0, none⟩) (0 + n) G) (w.drew.alloc (.cells sp.toArray 9)) := fun ty => by
  have h := Lib.run_append_grow_zeros w 110 3 ty 9 i (.string ByteArray.empty) .i64 .i64 Tryz.underlying110 Tryz.underlying3 hi hz0 B 0 0 [] hold n (by omega) (by omega) (by omega) (by omega) (by rw [hz2]; omega) (growslice_fits (by omega) (by rw [hz2]; omega))
  rw [hsp, hG]
  exact h
 have e2 : wrap64 ((n : Int) - 0) = (n : Int) := by unfold wrap64; omega
 have e3 : ¬ ((n : Int) < 0) := by omega
 have e4 : (n : Int) > 0 := by omega
 clear hsp hold hG
 go_enter Tryz.func86, Tryz.ntmps86
 cases B with
 | none =>
  go_wp2_with (at_builtin; refine Lib.wpList_append_run _ rfl _ _ _ _ rfl _ _ rfl rfl _ _ (hrz _) ?_)
  go_ret
  exact ⟨G, rfl, sp, Blk.new _ _ _, by omega, ext_alloc (ext_refl w).drew _⟩
 | some a =>
  obtain ⟨ab, ao, asp⟩ := a
  go_wp2_with (at_builtin; refine Lib.wpList_append_run _ rfl _ _ _ _ rfl _ _ rfl rfl _ _ (hrz _) ?_)
  go_ret
  exact ⟨G, rfl, sp, Blk.new _ _ _, by omega, ext_alloc (ext_refl w).drew _⟩
theorem fn_room {P : Program} {f : FuncId} {args : List Arg} {el : TypeId} {sz : Nat} (hni : ioBx 0 args [] = [])
    (h : ∀ (V X : Nat → Prop) (Z : Key → Hd) (ρ : Key → Hd) (w : World) (vals : List Value), vals.length = args.length → Rel V X Z w vals.length ρ (fun q => q.2 < 1) (lk (argTm 0 args)) (lk (argBx 0 args ++ [])) ⟨vals.toArray, []⟩ w →
     Calls P f vals.toArray w fun e w' => ∃ (c : Nat) (sp : List Value), e = .returned (.slice (some ⟨w.heap.size, 0, none⟩) 0 c) ∧ Blk w' w.heap.size el sp.toArray ∧ sp.length = (c - 0) * sz ∧ Below w.heap.size w w') :
    FnSound P f args [] { vals := [(false, [.own (0, 1)])], bx := [((0, 1), .sl el sz [])] } := by
 intro V X Z ρ w vals hl hR
 refine (h V X Z ρ w vals hl hR).mono ?_
 rintro e w' ⟨c, sp, rfl, hK, hsp, hB⟩
 have hv : ∀ b, V b → b < w.heap.size := fun b hb => (hR.va.lt b hb).1
 have e1 : updR ρ (0, 1) ⟨some ⟨w.heap.size, 0, none⟩, some w.heap.size, 0, c, sz⟩ (0, 1) = ⟨some ⟨w.heap.size, 0, none⟩, some w.heap.size, 0, c, sz⟩ := updR_same _ _ _
 have hlb : ∀ q box, lk ([((0, 1), Box.sl el sz [])] : List (Key × Box)) q = some box → q = (0, 1) ∧ box = .sl el sz [] := by
  intro q box hq
  have := mem_of_lk hq
  simp at this
  exact ⟨this.1, this.2⟩
 refine ⟨_, updR ρ (0, 1) ⟨some ⟨w.heap.size, 0, none⟩, some w.heap.size, 0, c, sz⟩, rfl, rfl, rfl, fun t av ht => ?_, fun q box hq => ?_, fun q1 b1 q2 b2 b e1' l1 e2' l2 g1 g2 => ?_, fun q box b hq hl' hgb => ?_, ?_, hR.va, fun q hq => ⟨trivial, ?_⟩⟩
 ·unfold ltOne at ht
  split at ht
  ·rename_i h0
   subst h0
   cases ht
   refine ⟨by omega, ?_⟩
   rw [resAV_id_one]
   exact one1 ⟨trivial, by rw [e1]; rfl⟩
  ·cases ht
 ·rw [hni] at hq
  obtain ⟨rfl, rfl⟩ := hlb q box hq
  refine ⟨trivial, ?_⟩
  rw [hni]
  simp only [BoxRel]
  rw [e1]
  refine ⟨rfl, rfl, Nat.zero_le _, Nat.zero_le _, fun i row hi => by simp at hi, .inr ⟨w.heap.size, [], sp, rfl, rfl, hK, .nil, hsp⟩⟩
 ·rw [hni] at e1' e2'
  rw [(hlb q1 b1 e1').1, (hlb q2 b2 e2').1]
 ·rw [hni] at hq
  obtain ⟨rfl, rfl⟩ := hlb q box hq
  rw [e1] at hgb
  cases hgb
  exact ⟨hK.lt, .inl (Nat.le_refl _)⟩
 ·exact Keep.of_below hB (fun b hb _ => hb)
 ·rw [show updR ρ (0, 1) _ q = ρ q from if_neg (fun e => by rw [e] at hq; cases hq)]
  exact (hR.zz q hq).2
def growX (el : TypeId) (sz : Nat) : List Arg → Option ARes
 | [.val false [.zero], .val false [.d (.v (.int .i64 n))]] => if 1 ≤ n ∧ n ≤ 1000 then some { vals := [(false, [.own (0, 1)])], bx := [((0, 1), .sl el sz [])] } else none
 | _ => none
theorem grow_fn {args : List Arg} {r : ARes} (he : growX 9 1 args = some r) : FnSound Tryz.prog 86 args [] r := by
 unfold growX at he
 split at he
 ·rename_i n
  split at he
  ·rename_i hn
   cases he
   refine fn_room rfl fun V X Z ρ w vals hl hR => ?_
   have hv := vals_two hl
   obtain ⟨B, h1⟩ := slot1_sound (c := .zero) rfl (args_val hR (i := 0) rfl).2
   have h2 := conV_sound (x := .int .i64 n) rfl (args_val hR (i := 1) rfl).2
   rw [h1, h2] at hv
   rw [hv]
   have hC := grow_room B n.toNat (by omega) (by omega) w
   rw [show ((n.toNat : Nat) : Int) = n by omega] at hC
   exact hC
  ·cases he
 ·cases he
end Go.Proofs.YtfnljcallbalgaaGreatDoor

