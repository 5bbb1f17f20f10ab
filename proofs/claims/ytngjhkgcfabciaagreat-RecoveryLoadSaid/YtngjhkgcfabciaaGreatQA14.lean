/- Rules of runs and contracts of functions, for the claims of one seat. -/
import Derived.Test.YtngjhkgcfabciaaGreatQA12
import Derived.Test.YtngjhkgcfabciaaGreatQA13
namespace Go.Proofs.YtngjhkgcfabciaaGreat
open Go Go.RowKit
set_option linter.unusedSimpArgs false
set_option linter.unusedVariables false
def byteN (s : ByteArray) (i : Nat) : Int := ((s.data.getD i 0).toNat : Int)
theorem byteN_rng (s : ByteArray) (i : Nat) : 0 ≤ byteN s i ∧ byteN s i < 256 := by
 unfold byteN
 have := (s.data.getD i 0).toNat_lt
 omega
theorem wrap_u64 {n : Int} (h : 0 ≤ n ∧ n < 18446744073709551616) : IntKind.u64.wrap n = n := by
 show n % 18446744073709551616 = n
 omega
theorem wrap_u32 {n : Int} (h : 0 ≤ n ∧ n < 4294967296) : IntKind.u32.wrap n = n := by
 show n % 4294967296 = n
 omega
theorem nums_sets : ∀ {xs : List Int}, rowNums (dSets xs) = some xs
 | [] => rfl
 | x :: r => by
  show (rowNums (dSets r)).map (x :: ·) = _
  rw [nums_sets]; rfl
theorem cellTo_str {lb : Key → Option Box} {f : Key → Key} {a b : ByteArray} (h : b = a) : cellTo lb f (.d (.v (.string a))) (.d (.v (.string b))) := by subst h; exact .inl rfl
section
variable {P : Program} {lend : FuncId → Bool} {N : Nat} {ops : Array Oper} {dr : Bool} {cs : List Code} {R : AX → St → Prop} {i : Nat} {os : List Oper} {tm : List (Nat × AV)} {bo : BO} {nx : Nat} {ns : List Note} {d : Nat} {pos : String} {ty : TypeId} {af : Array Edge}
theorem K_in (t : TypeId) {x y : Operand} (h : W P lend N ops dr cs R i (⟨some d, .index t x y, ty, pos, af, none⟩ :: os) tm bo nx ns) : W P lend N ops dr cs R i (⟨some d, .index t x y, ty, pos, af, none⟩ :: os) tm bo nx ns := h
theorem sv_index {t : TypeId} {s : ByteArray} {k : IntKind} {n : Int} (hu : P.underlying t = some .string) (hn : 0 ≤ n ∧ n < s.size) : semVal P (Instr.index t (.string s) (.int k n)) = some (.int .u8 (byteN s n.toNat)) := by
 have hl : n.toNat < s.size := by omega
 have hl' : n.toNat < s.data.size := hl
 have e : s[n.toNat]? = some (s.data.getD n.toNat 0) := by
  rw [getElem?_pos s n.toNat hl]
  congr 1
  rw [Array.getD_eq_getD_getElem?, Array.getElem?_eq_getElem hl']
  rfl
 unfold Instr.index
 rw [show asIntOf (.int k n) = (pure (k, n) : Sem (IntKind × Int)) from rfl, semVal_bind, semVal_pure, Option.bind_some, semVal_bind, semVal_underlying hu]
 simp only [Option.bind_some, if_pos hn.1, e]
 rfl
theorem sv_bound {k : IntKind} {n : Int} {y : Nat} {c : BoundsCode} (hn : 0 ≤ n ∧ n ≤ y) : semVal P (Instr.sliceBound (.int k n) y c) = some n.toNat := by
 unfold Instr.sliceBound
 rw [show asIntOf (.int k n) = (pure (k, n) : Sem (IntKind × Int)) from rfl, semVal_bind, semVal_pure, Option.bind_some]
 simp only [if_pos hn]
 rfl
theorem sv_sliceLH {t : TypeId} {s : ByteArray} {k k' : IntKind} {l h : Int} (hu : P.underlying t = some .string) (hn : 0 ≤ l ∧ l ≤ h ∧ h ≤ s.size) : semVal P (Instr.slice t (.string s) (some (.int k l)) (some (.int k' h)) none) = some (.string (s.extract l.toNat h.toNat)) := by
 unfold Instr.slice
 rw [semVal_bind, semVal_underlying hu]
 unfold Instr.sliceBounds
 simp only [Option.bind_some, Option.isSome_none, Bool.false_eq_true, if_false, semVal_bind, semVal_pure]
 rw [sv_bound ⟨by omega, hn.2.2⟩]
 simp only [Option.bind_some]
 rw [sv_bound ⟨hn.1, by omega⟩]
 rfl
theorem sv_sliceL {t : TypeId} {s : ByteArray} {k : IntKind} {l : Int} (hu : P.underlying t = some .string) (hn : 0 ≤ l ∧ l ≤ s.size) : semVal P (Instr.slice t (.string s) (some (.int k l)) none none) = some (.string (s.extract l.toNat s.size)) := by
 unfold Instr.slice
 rw [semVal_bind, semVal_underlying hu]
 unfold Instr.sliceBounds
 simp only [Option.bind_some, Option.isSome_none, Bool.false_eq_true, if_false, semVal_bind, semVal_pure]
 rw [sv_bound ⟨hn.1, by omega⟩]
 rfl
theorem sv_sliceH {t : TypeId} {s : ByteArray} {k : IntKind} {h : Int} (hu : P.underlying t = some .string) (hn : 0 ≤ h ∧ h ≤ s.size) : semVal P (Instr.slice t (.string s) none (some (.int k h)) none) = some (.string (s.extract 0 h.toNat)) := by
 unfold Instr.slice
 rw [semVal_bind, semVal_underlying hu]
 unfold Instr.sliceBounds
 simp only [Option.bind_some, Option.isSome_none, Bool.false_eq_true, if_false, semVal_bind, semVal_pure]
 rw [sv_bound ⟨hn.1, hn.2⟩]
 rfl
theorem sv_at {t : TypeId} {v : Value} {lo hi mx : Option Value} (hu : P.underlying t = some .string) : semVal P (Instr.sliceAt t v lo hi mx) = semVal P (Instr.slice t v lo hi mx) := by
 unfold Instr.sliceAt
 rw [semVal_bind, semVal_underlying hu]
 rfl
theorem W.sidx {t : TypeId} {x ix : Operand} {s : ByteArray} {k : IntKind} {n : Int} (hd : Nat.blt d N = true) (hu : P.underlying t = some .string) (hx : ev (lk tm) x = some (.one false [.d (.v (.string s))])) (hi : ev (lk tm) ix = some (.one false [.d (.v (.int k n))])) (hn : 0 ≤ n ∧ n < s.size) (h : W P lend N ops dr cs R (i + 1) os ((d, .one false [.d (.v (.int .u8 (byteN s n.toNat)))]) :: tm) bo nx (ns ++ [⟨opKeys (lk tm) (lko bo) ⟨some d, .index t x ix, ty, pos, af, none⟩, []⟩])) : W P lend N ops dr cs R i (⟨some d, .index t x ix, ty, pos, af, none⟩ :: os) tm bo nx ns := by
 refine W.plain hd (fun lt hlt => ?_) (fun _ _ _ _ _ _ => rfl) h
 have e1 := (hlt x (by simp [Op.operands])).trans hx
 have e2 := (hlt ix (by simp [Op.operands])).trans hi
 unfold effPlain
 simp only [plainOp, Op.operands, List.all_cons, List.all_nil, e1, e2, Option.bind_some, conV, Option.isSome_some, Bool.and_true, Bool.true_and, if_true]
 unfold execOp
 simp only [e1, e2, Option.bind_some, conV, Option.getD_some, semVal_bind, sv_index hu hn, semVal_pure, constAV_int, Option.map_some, semVal_map]
theorem W.sidxN {t : TypeId} {x ix : Operand} {s : ByteArray} {k : IntKind} {n : Nat} (hd : Nat.blt d N = true) (hu : P.underlying t = some .string) (hx : ev (lk tm) x = some (.one false [.d (.v (.string s))])) (hi : ev (lk tm) ix = some (.one false [.d (.v (.int k (n : Int)))])) (hn : n < s.size) (h : W P lend N ops dr cs R (i + 1) os ((d, .one false [.d (.v (.int .u8 (byteN s n)))]) :: tm) bo nx (ns ++ [⟨opKeys (lk tm) (lko bo) ⟨some d, .index t x ix, ty, pos, af, none⟩, []⟩])) : W P lend N ops dr cs R i (⟨some d, .index t x ix, ty, pos, af, none⟩ :: os) tm bo nx ns :=
 W.sidx hd hu hx hi ⟨by omega, by omega⟩ h
theorem W.slen {t : TypeId} {x : Operand} {s : ByteArray} (hd : Nat.blt d N = true) (hu : P.underlying t = some .string) (hx : ev (lk tm) x = some (.one false [.d (.v (.string s))])) (h : W P lend N ops dr cs R (i + 1) os ((d, .one false [.d (.v (.int .i64 (s.size : Int)))]) :: tm) bo nx (ns ++ [⟨opKeys (lk tm) (lko bo) ⟨some d, .call ⟨.builtin .len, #[x], #[t]⟩, ty, pos, af, none⟩, []⟩])) : W P lend N ops dr cs R i (⟨some d, .call ⟨.builtin .len, #[x], #[t]⟩, ty, pos, af, none⟩ :: os) tm bo nx ns := by
 refine W.val hd ?_ h
 have e1 := (ev_only (o := ⟨some d, .call ⟨.builtin .len, #[x], #[t]⟩, ty, pos, af, none⟩) (lt := lk tm) (x := x) (by simp [Op.operands, Call.operands])).trans hx
 simp only [effOf, hu]
 unfold effPlain
 simp only [plainOp, Op.operands, Call.operands, Array.toList_append, Array.append_empty, Array.empty_append, List.nil_append, List.all_cons, List.all_nil, e1, Option.bind_some, conV, Option.isSome_some, Bool.and_true, Bool.true_and, if_true]
 unfold execOp
 have hb : semVal P (Builtin.len_ #[t] ty #[.string s]) = some (.int .i64 (s.size : Int)) := by
  unfold Builtin.len_
  simp [semVal_bind, semVal_underlying hu, semVal_pure, goInt]
 simp [e1, conV, resolve, invoke, builtin, hb, semVal_bind, semVal_pure, semVal_map, constAV, cellC, scal]
theorem W.sslLH {t : TypeId} {x lo hi : Operand} {s : ByteArray} {k k' : IntKind} {l m : Int} (hd : Nat.blt d N = true) (hu : P.underlying t = some .string) (hx : ev (lk tm) x = some (.one false [.d (.v (.string s))])) (hl : ev (lk tm) lo = some (.one false [.d (.v (.int k l))])) (hh : ev (lk tm) hi = some (.one false [.d (.v (.int k' m))])) (hn : 0 ≤ l ∧ l ≤ m ∧ m ≤ s.size) (h : W P lend N ops dr cs R (i + 1) os ((d, .one false [.d (.v (.string (s.extract l.toNat m.toNat)))]) :: tm) bo nx (ns ++ [⟨opKeys (lk tm) (lko bo) ⟨some d, .slice t x (some lo) (some hi) none, ty, pos, af, none⟩, []⟩])) : W P lend N ops dr cs R i (⟨some d, .slice t x (some lo) (some hi) none, ty, pos, af, none⟩ :: os) tm bo nx ns := by
 refine W.val hd ?_ h
 have e1 := (ev_only (o := ⟨some d, .slice t x (some lo) (some hi) none, ty, pos, af, none⟩) (lt := lk tm) (x := x) (by simp [Op.operands])).trans hx
 have e2 := (ev_only (o := ⟨some d, .slice t x (some lo) (some hi) none, ty, pos, af, none⟩) (lt := lk tm) (x := lo) (by simp [Op.operands])).trans hl
 have e3 := (ev_only (o := ⟨some d, .slice t x (some lo) (some hi) none, ty, pos, af, none⟩) (lt := lk tm) (x := hi) (by simp [Op.operands])).trans hh
 simp only [effOf, effSlice, hu]
 unfold effPlain
 simp [plainOp, Op.operands, e1, e2, e3, conV, execOp, semVal_bind, semVal_map, sv_at hu, sv_sliceLH hu hn, semVal_pure, constAV, cellC, scal]
theorem W.sslL {t : TypeId} {x lo : Operand} {s : ByteArray} {k : IntKind} {l : Int} (hd : Nat.blt d N = true) (hu : P.underlying t = some .string) (hx : ev (lk tm) x = some (.one false [.d (.v (.string s))])) (hl : ev (lk tm) lo = some (.one false [.d (.v (.int k l))])) (hn : 0 ≤ l ∧ l ≤ s.size) (h : W P lend N ops dr cs R (i + 1) os ((d, .one false [.d (.v (.string (s.extract l.toNat s.size)))]) :: tm) bo nx (ns ++ [⟨opKeys (lk tm) (lko bo) ⟨some d, .slice t x (some lo) none none, ty, pos, af, none⟩, []⟩])) : W P lend N ops dr cs R i (⟨some d, .slice t x (some lo) none none, ty, pos, af, none⟩ :: os) tm bo nx ns := by
 refine W.val hd ?_ h
 have e1 := (ev_only (o := ⟨some d, .slice t x (some lo) none none, ty, pos, af, none⟩) (lt := lk tm) (x := x) (by simp [Op.operands])).trans hx
 have e2 := (ev_only (o := ⟨some d, .slice t x (some lo) none none, ty, pos, af, none⟩) (lt := lk tm) (x := lo) (by simp [Op.operands])).trans hl
 simp only [effOf, effSlice, hu]
 unfold effPlain
 simp [plainOp, Op.operands, e1, e2, conV, execOp, semVal_bind, semVal_map, sv_at hu, sv_sliceL hu hn, semVal_pure, constAV, cellC, scal]
theorem W.sslH {t : TypeId} {x hi : Operand} {s : ByteArray} {k : IntKind} {m : Int} (hd : Nat.blt d N = true) (hu : P.underlying t = some .string) (hx : ev (lk tm) x = some (.one false [.d (.v (.string s))])) (hh : ev (lk tm) hi = some (.one false [.d (.v (.int k m))])) (hn : 0 ≤ m ∧ m ≤ s.size) (h : W P lend N ops dr cs R (i + 1) os ((d, .one false [.d (.v (.string (s.extract 0 m.toNat)))]) :: tm) bo nx (ns ++ [⟨opKeys (lk tm) (lko bo) ⟨some d, .slice t x none (some hi) none, ty, pos, af, none⟩, []⟩])) : W P lend N ops dr cs R i (⟨some d, .slice t x none (some hi) none, ty, pos, af, none⟩ :: os) tm bo nx ns := by
 refine W.val hd ?_ h
 have e1 := (ev_only (o := ⟨some d, .slice t x none (some hi) none, ty, pos, af, none⟩) (lt := lk tm) (x := x) (by simp [Op.operands])).trans hx
 have e2 := (ev_only (o := ⟨some d, .slice t x none (some hi) none, ty, pos, af, none⟩) (lt := lk tm) (x := hi) (by simp [Op.operands])).trans hh
 simp only [effOf, effSlice, hu]
 unfold effPlain
 simp [plainOp, Op.operands, e1, e2, conV, execOp, semVal_bind, semVal_map, sv_at hu, sv_sliceH hu hn, semVal_pure, constAV, cellC, scal]
theorem W.sadd {t ty' : TypeId} {x y : Operand} {a b : ByteArray} (hd : Nat.blt d N = true) (hx : ev (lk tm) x = some (.one false [.d (.v (.string a))])) (hy : ev (lk tm) y = some (.one false [.d (.v (.string b))])) (hn : a.size + b.size ≤ 9223372036854775807) (h : W P lend N ops dr cs R (i + 1) os ((d, .one false [.d (.v (.string (a ++ b)))]) :: tm) bo nx (ns ++ [⟨opKeys (lk tm) (lko bo) ⟨some d, .binOp .add t x y ty', ty, pos, af, none⟩, []⟩])) : W P lend N ops dr cs R i (⟨some d, .binOp .add t x y ty', ty, pos, af, none⟩ :: os) tm bo nx ns :=
 W.plain hd (fun lt hlt => plain2 rfl ((hlt x (by simp [Op.operands])).trans hx) ((hlt y (by simp [Op.operands])).trans hy) (by unfold eqGuard; rfl) (by
  have : ¬ (((a.size + b.size : Nat) : Int) > IntKind.i64.max) := by show ¬ (((a.size + b.size : Nat) : Int) > 9223372036854775807); omega
  simp only [binOp, Op.stringOp, if_neg this]; rfl) rfl) (fun _ _ _ _ _ _ => rfl) h
theorem sv_seq (a b : ByteArray) : (a.toList == b.toList) = decide (a = b) := by
 have e : a.toList = b.toList ↔ a = b := ⟨fun h => by
  have h1 : a.data.toList = b.data.toList := by rw [← ByteArray.toList_eq, ← ByteArray.toList_eq]; exact h
  exact ByteArray.ext (Array.toList_inj.1 h1), fun h => by rw [h]⟩
 by_cases h : a = b
 ·subst h; simp
 ·rw [decide_eq_false h]
  simpa using fun h' => h (e.1 h')
theorem W.seq {t ty' : TypeId} {x y : Operand} {a b : ByteArray} (hd : Nat.blt d N = true) (hu : P.underlying t = some .string) (hx : ev (lk tm) x = some (.one false [.d (.v (.string a))])) (hy : ev (lk tm) y = some (.one false [.d (.v (.string b))])) (h : W P lend N ops dr cs R (i + 1) os ((d, .one false [.d (.v (.bool (decide (a = b))))]) :: tm) bo nx (ns ++ [⟨opKeys (lk tm) (lko bo) ⟨some d, .binOp .eql t x y ty', ty, pos, af, none⟩, []⟩])) : W P lend N ops dr cs R i (⟨some d, .binOp .eql t x y ty', ty, pos, af, none⟩ :: os) tm bo nx ns :=
 W.plain hd (fun lt hlt => plain2 rfl ((hlt x (by simp [Op.operands])).trans hx) ((hlt y (by simp [Op.operands])).trans hy) (by unfold eqGuard; rfl) (by
  simp only [binOp, Op.stringOp, sv_seq]; rfl) rfl) (fun _ _ _ _ _ _ => rfl) h
theorem W.sne {t ty' : TypeId} {x y : Operand} {a b : ByteArray} (hd : Nat.blt d N = true) (hu : P.underlying t = some .string) (hx : ev (lk tm) x = some (.one false [.d (.v (.string a))])) (hy : ev (lk tm) y = some (.one false [.d (.v (.string b))])) (h : W P lend N ops dr cs R (i + 1) os ((d, .one false [.d (.v (.bool (decide (¬ a = b))))]) :: tm) bo nx (ns ++ [⟨opKeys (lk tm) (lko bo) ⟨some d, .binOp .neq t x y ty', ty, pos, af, none⟩, []⟩])) : W P lend N ops dr cs R i (⟨some d, .binOp .neq t x y ty', ty, pos, af, none⟩ :: os) tm bo nx ns :=
 W.plain hd (fun lt hlt => plain2 rfl ((hlt x (by simp [Op.operands])).trans hx) ((hlt y (by simp [Op.operands])).trans hy) (by unfold eqGuard; rfl) (by
  simp only [binOp, Op.stringOp, sv_seq, decide_not]; rfl) rfl) (fun _ _ _ _ _ _ => rfl) h
theorem W.compl {t : TypeId} {x : Operand} {k : IntKind} {a : Int} (hd : Nat.blt d N = true) (hx : ev (lk tm) x = some (.one false [.d (.v (.int k a))])) (h : W P lend N ops dr cs R (i + 1) os ((d, .one false [.d (.v (.int k (bits .xor k (if k.signed then -1 else k.max) a)))]) :: tm) bo nx (ns ++ [⟨opKeys (lk tm) (lko bo) ⟨some d, .unOp .xor t x, ty, pos, af, none⟩, []⟩])) : W P lend N ops dr cs R i (⟨some d, .unOp .xor t x, ty, pos, af, none⟩ :: os) tm bo nx ns :=
 W.plain hd (fun lt hlt => plain1 rfl ((hlt x (by simp [Op.operands])).trans hx) (v := .int k (bits .xor k (if k.signed then -1 else k.max) a)) (by simp only [Op.unary, Op.intBits, bits]; rfl) rfl) (fun _ _ _ _ _ _ => rfl) h
theorem W.strB {s t e : TypeId} {x : Operand} {c : C} {rows : List (List D)} {xs : List Int} (hd : Nat.blt d N = true) (hs : P.underlying s = some (.slice e)) (he : P.underlying e = some (.int .u8)) (ht : P.underlying t = some .string) (hx : (ev (lk tm) x).bind slot1 = some c) (hr : lookRows (lko bo) 1 c = some rows) (hn : rowNums rows = some xs) (h : W P lend N ops dr cs R (i + 1) os ((d, .one false [.d (.v (.string (strOfNums xs)))]) :: tm) bo nx (ns ++ [⟨opKeys (lk tm) (lko bo) ⟨some d, .convert s t x, ty, pos, af, none⟩, []⟩])) : W P lend N ops dr cs R i (⟨some d, .convert s t x, ty, pos, af, none⟩ :: os) tm bo nx ns := by
 refine W.val hd ?_ h
 simp only [effOf]
 unfold effConv
 simp only [hs, ht, he]
 rw [ev_only (x := x) (by simp [Op.operands]), hx]
 simp only
 rw [lookRows_only (by rfl) (by simp [Op.operands]) hx hr]
 simp only [Option.bind_some, hn, Option.map_some]
end
end Go.Proofs.YtngjhkgcfabciaaGreat

