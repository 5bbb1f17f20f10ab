/- Rules of runs and contracts of functions, for the claims of one seat. -/
import Derived.Test.YtbafhclppppkgaaGreatDoorVA8
namespace Go.Proofs.YtbafhclppppkgaaGreatDoor
open Go Go.RowKit
set_option linter.unusedSimpArgs false
set_option linter.unusedVariables false
def bInt (op : BinOp) (k : IntKind) (a b : Int) : Option Value := match op with
 | .add => some (.int k (k.wrap (a + b)))
 | .sub => some (.int k (k.wrap (a - b)))
 | .mul => some (.int k (k.wrap (a * b)))
 | .and => some (.int k (bits .and k a b))
 | .or => some (.int k (bits .or k a b))
 | .xor => some (.int k (bits .xor k a b))
 | .andNot => some (.int k (bits .andNot k a b))
 | .eql => some (.bool (decide (a = b)))
 | .neq => some (.bool (decide (¬ a = b)))
 | .lss => some (.bool (decide (a < b)))
 | .leq => some (.bool (decide (a ≤ b)))
 | .gtr => some (.bool (decide (b < a)))
 | .geq => some (.bool (decide (b ≤ a)))
 | _ => none
theorem wrapI {n : Int} (h : -9223372036854775808 ≤ n ∧ n ≤ 9223372036854775807) : IntKind.i64.wrap n = n := by
 simp [IntKind.wrap, IntKind.signed, IntKind.bits]; omega
section
variable {P : Program} {lend : FuncId → Bool} {N : Nat} {ops : Array Oper} {dr : Bool} {cs : List Code} {R : AX → St → Prop}
variable {i : Nat} {os : List Oper} {tm : List (Nat × AV)} {bo : BO} {nx : Nat} {ns : List Note} {d : Nat} {pos : String} {ty : TypeId} {af : Array Edge}
theorem W.plain {op : Op} {v : Value} (hd : Nat.blt d N = true) (he : ∀ lt, (∀ x, x ∈ op.operands.toList → ev lt x = ev (lk tm) x) → effPlain P lt ⟨some d, op, ty, pos, af, none⟩ = some ⟨.one false [.d (.v v)], [], []⟩) (ho : ∀ call lend cur key lt lb e, effPlain P lt ⟨some d, op, ty, pos, af, none⟩ = some e → effOf P call lend cur key ⟨some d, op, ty, pos, af, none⟩ lt lb = some e)
    (h : W P lend N ops dr cs R (i + 1) os ((d, .one false [.d (.v v)]) :: tm) bo nx (ns ++ [⟨opKeys (lk tm) (lko bo) ⟨some d, op, ty, pos, af, none⟩, []⟩])) : W P lend N ops dr cs R i (⟨some d, op, ty, pos, af, none⟩ :: os) tm bo nx ns :=
 W.val hd (ho _ _ _ _ _ _ _ (he _ fun x hx => ev_only hx _)) h
theorem plain2 {o : Oper} {op : BinOp} {t ty' : TypeId} {x y : Operand} {lt : Nat → Option AV} {a b v : Value} (ho : o.op = .binOp op t x y ty') (hx : ev lt x = some (.one false [.d (.v a)])) (hy : ev lt y = some (.one false [.d (.v b)])) (hg : semVal P (eqGuard op t x y a b) = some ()) (hs : semVal P (binOp op t a b) = some v) (hc : constAV v = some (.one false [.d (.v v)])) : effPlain P lt o = some ⟨.one false [.d (.v v)], [], []⟩ := by
 unfold effPlain
 rw [ho]
 simp only [plainOp, Op.operands, List.all_cons, List.all_nil, hx, hy, Option.bind_some, conV, Option.isSome_some, Bool.and_true, Bool.true_and, if_true]
 unfold execOp
 rw [ho]
 simp only [semVal_bind, hx, hy, Option.bind_some, conV, Option.getD_some, hg, hs, semVal_pure, hc, Option.map_some, semVal_map]
theorem eqGuard_int {op : BinOp} {t : TypeId} {x y : Operand} {k k' : IntKind} {a b : Int} : semVal P (eqGuard op t x y (.int k a) (.int k' b)) = some () := by
 unfold eqGuard; cases op <;> rfl
theorem eqGuard_bool {op : BinOp} {t : TypeId} {x y : Operand} {a b : Bool} : semVal P (eqGuard op t x y (.bool a) (.bool b)) = some () := by
 unfold eqGuard; cases op <;> rfl
theorem bInt_sem {op : BinOp} {k : IntKind} {t : TypeId} {a b : Int} {v : Value} (h : bInt op k a b = some v) : semVal P (binOp op t (.int k a) (.int k b)) = some v := by
 cases op <;> simp only [bInt] at h <;> first | (cases h; done) | skip
 all_goals cases h
 all_goals simp [binOp, Op.intArith, Op.intBits, Op.intCmp, semVal_pure, bits]
 all_goals rfl
theorem constAV_int (k : IntKind) (n : Int) : constAV (.int k n) = some (.one false [.d (.v (.int k n))]) := rfl
theorem bInt_const {op : BinOp} {k : IntKind} {a b : Int} {v : Value} (h : bInt op k a b = some v) : constAV v = some (.one false [.d (.v v)]) := by
 cases op <;> simp only [bInt] at h <;> first | (cases h; rfl) | cases h
theorem W.bin {op : BinOp} {t ty' : TypeId} {x y : Operand} {k : IntKind} {a b : Int} {v : Value} (hd : Nat.blt d N = true) (hx : ev (lk tm) x = some (.one false [.d (.v (.int k a))])) (hy : ev (lk tm) y = some (.one false [.d (.v (.int k b))])) (hv : bInt op k a b = some v) (h : W P lend N ops dr cs R (i + 1) os ((d, .one false [.d (.v v)]) :: tm) bo nx (ns ++ [⟨opKeys (lk tm) (lko bo) ⟨some d, .binOp op t x y ty', ty, pos, af, none⟩, []⟩])) : W P lend N ops dr cs R i (⟨some d, .binOp op t x y ty', ty, pos, af, none⟩ :: os) tm bo nx ns :=
 W.plain hd (fun lt hlt => plain2 rfl ((hlt x (by simp [Op.operands])).trans hx) ((hlt y (by simp [Op.operands])).trans hy) eqGuard_int (bInt_sem hv) (bInt_const hv)) (fun _ _ _ _ _ _ _ h => orE_some h) h
theorem W.binE {op : BinOp} {t ty' : TypeId} {x y : Operand} {k : IntKind} {a b c c' : Int} (hd : Nat.blt d N = true) (hx : ev (lk tm) x = some (.one false [.d (.v (.int k a))])) (hy : ev (lk tm) y = some (.one false [.d (.v (.int k b))])) (hv : bInt op k a b = some (.int k c)) (he : c = c') (h : W P lend N ops dr cs R (i + 1) os ((d, .one false [.d (.v (.int k c'))]) :: tm) bo nx (ns ++ [⟨opKeys (lk tm) (lko bo) ⟨some d, .binOp op t x y ty', ty, pos, af, none⟩, []⟩])) : W P lend N ops dr cs R i (⟨some d, .binOp op t x y ty', ty, pos, af, none⟩ :: os) tm bo nx ns := by
 subst he; exact W.bin hd hx hy hv h
theorem W.addI {t ty' : TypeId} {x y : Operand} {a b : Int} (hd : Nat.blt d N = true) (hx : ev (lk tm) x = some (.one false [.d (.v (.int .i64 a))])) (hy : ev (lk tm) y = some (.one false [.d (.v (.int .i64 b))])) (hw : -9223372036854775808 ≤ a + b ∧ a + b ≤ 9223372036854775807) (h : W P lend N ops dr cs R (i + 1) os ((d, .one false [.d (.v (.int .i64 (a + b)))]) :: tm) bo nx (ns ++ [⟨opKeys (lk tm) (lko bo) ⟨some d, .binOp .add t x y ty', ty, pos, af, none⟩, []⟩])) : W P lend N ops dr cs R i (⟨some d, .binOp .add t x y ty', ty, pos, af, none⟩ :: os) tm bo nx ns :=
 W.binE hd hx hy rfl (wrapI hw) h
theorem W.subI {t ty' : TypeId} {x y : Operand} {a b : Int} (hd : Nat.blt d N = true) (hx : ev (lk tm) x = some (.one false [.d (.v (.int .i64 a))])) (hy : ev (lk tm) y = some (.one false [.d (.v (.int .i64 b))])) (hw : -9223372036854775808 ≤ a - b ∧ a - b ≤ 9223372036854775807) (h : W P lend N ops dr cs R (i + 1) os ((d, .one false [.d (.v (.int .i64 (a - b)))]) :: tm) bo nx (ns ++ [⟨opKeys (lk tm) (lko bo) ⟨some d, .binOp .sub t x y ty', ty, pos, af, none⟩, []⟩])) : W P lend N ops dr cs R i (⟨some d, .binOp .sub t x y ty', ty, pos, af, none⟩ :: os) tm bo nx ns :=
 W.binE hd hx hy rfl (wrapI hw) h
theorem W.mulI {t ty' : TypeId} {x y : Operand} {a b : Int} (hd : Nat.blt d N = true) (hx : ev (lk tm) x = some (.one false [.d (.v (.int .i64 a))])) (hy : ev (lk tm) y = some (.one false [.d (.v (.int .i64 b))])) (hw : -9223372036854775808 ≤ a * b ∧ a * b ≤ 9223372036854775807) (h : W P lend N ops dr cs R (i + 1) os ((d, .one false [.d (.v (.int .i64 (a * b)))]) :: tm) bo nx (ns ++ [⟨opKeys (lk tm) (lko bo) ⟨some d, .binOp .mul t x y ty', ty, pos, af, none⟩, []⟩])) : W P lend N ops dr cs R i (⟨some d, .binOp .mul t x y ty', ty, pos, af, none⟩ :: os) tm bo nx ns :=
 W.binE hd hx hy rfl (wrapI hw) h
theorem W.rem {t ty' : TypeId} {x y : Operand} {k : IntKind} {a b : Int} (hd : Nat.blt d N = true) (hx : ev (lk tm) x = some (.one false [.d (.v (.int k a))])) (hy : ev (lk tm) y = some (.one false [.d (.v (.int k b))])) (hw : ¬ b = 0) (h : W P lend N ops dr cs R (i + 1) os ((d, .one false [.d (.v (.int k (a.tmod b)))]) :: tm) bo nx (ns ++ [⟨opKeys (lk tm) (lko bo) ⟨some d, .binOp .rem t x y ty', ty, pos, af, none⟩, []⟩])) : W P lend N ops dr cs R i (⟨some d, .binOp .rem t x y ty', ty, pos, af, none⟩ :: os) tm bo nx ns :=
 W.plain hd (fun lt hlt => plain2 rfl ((hlt x (by simp [Op.operands])).trans hx) ((hlt y (by simp [Op.operands])).trans hy) eqGuard_int (by simp [binOp, Op.intDiv, hw, semVal_pure]) rfl) (fun _ _ _ _ _ _ _ h => orE_some h) h
theorem W.shl {t ty' : TypeId} {x y : Operand} {k k' : IntKind} {a b : Int} (hd : Nat.blt d N = true) (hx : ev (lk tm) x = some (.one false [.d (.v (.int k a))])) (hy : ev (lk tm) y = some (.one false [.d (.v (.int k' b))])) (hw : 0 ≤ b ∧ b ≤ (k.bits : Nat)) (h : W P lend N ops dr cs R (i + 1) os ((d, .one false [.d (.v (.int k (k.wrap (a * 2 ^ b.toNat))))]) :: tm) bo nx (ns ++ [⟨opKeys (lk tm) (lko bo) ⟨some d, .binOp .shl t x y ty', ty, pos, af, none⟩, []⟩])) : W P lend N ops dr cs R i (⟨some d, .binOp .shl t x y ty', ty, pos, af, none⟩ :: os) tm bo nx ns :=
 W.plain hd (fun lt hlt => plain2 rfl ((hlt x (by simp [Op.operands])).trans hx) ((hlt y (by simp [Op.operands])).trans hy) eqGuard_int (by simp only [binOp, Op.shift]; rw [if_neg (by omega), Nat.min_eq_left (by omega)]; rfl) rfl) (fun _ _ _ _ _ _ _ h => orE_some h) h
theorem W.shr {t ty' : TypeId} {x y : Operand} {k k' : IntKind} {a b : Int} (hd : Nat.blt d N = true) (hx : ev (lk tm) x = some (.one false [.d (.v (.int k a))])) (hy : ev (lk tm) y = some (.one false [.d (.v (.int k' b))])) (hw : 0 ≤ b ∧ b ≤ (k.bits : Nat)) (h : W P lend N ops dr cs R (i + 1) os ((d, .one false [.d (.v (.int k (a / 2 ^ b.toNat)))]) :: tm) bo nx (ns ++ [⟨opKeys (lk tm) (lko bo) ⟨some d, .binOp .shr t x y ty', ty, pos, af, none⟩, []⟩])) : W P lend N ops dr cs R i (⟨some d, .binOp .shr t x y ty', ty, pos, af, none⟩ :: os) tm bo nx ns :=
 W.plain hd (fun lt hlt => plain2 rfl ((hlt x (by simp [Op.operands])).trans hx) ((hlt y (by simp [Op.operands])).trans hy) eqGuard_int (by simp only [binOp, Op.shift]; rw [if_neg (by omega), Nat.min_eq_left (by omega), Int.fdiv_eq_ediv_of_nonneg _ (Int.pow_nonneg (by decide))]; rfl) rfl) (fun _ _ _ _ _ _ _ h => orE_some h) h
theorem isBoolT_some {t : TypeId} (h : IbI P t) : P.underlying t = some .bool := by
 obtain ⟨h⟩ := h
 unfold isBoolT at h; split at h
 ·assumption
 ·cases h
theorem W.eqB {t ty' : TypeId} {x y : Operand} {a b : Bool} (hd : Nat.blt d N = true) (ht : IbI P t) (hx : ev (lk tm) x = some (.one false [.d (.v (.bool a))])) (hy : ev (lk tm) y = some (.one false [.d (.v (.bool b))])) (h : W P lend N ops dr cs R (i + 1) os ((d, .one false [.d (.v (.bool (a == b)))]) :: tm) bo nx (ns ++ [⟨opKeys (lk tm) (lko bo) ⟨some d, .binOp .eql t x y ty', ty, pos, af, none⟩, []⟩])) : W P lend N ops dr cs R i (⟨some d, .binOp .eql t x y ty', ty, pos, af, none⟩ :: os) tm bo nx ns :=
 W.plain hd (fun lt hlt => plain2 rfl ((hlt x (by simp [Op.operands])).trans hx) ((hlt y (by simp [Op.operands])).trans hy) eqGuard_bool (sv_eqlB (isBoolT_some ht)) rfl) (fun _ _ _ _ _ _ _ h => orE_some h) h
theorem W.neB {t ty' : TypeId} {x y : Operand} {a b : Bool} (hd : Nat.blt d N = true) (ht : IbI P t) (hx : ev (lk tm) x = some (.one false [.d (.v (.bool a))])) (hy : ev (lk tm) y = some (.one false [.d (.v (.bool b))])) (h : W P lend N ops dr cs R (i + 1) os ((d, .one false [.d (.v (.bool (!(a == b))))]) :: tm) bo nx (ns ++ [⟨opKeys (lk tm) (lko bo) ⟨some d, .binOp .neq t x y ty', ty, pos, af, none⟩, []⟩])) : W P lend N ops dr cs R i (⟨some d, .binOp .neq t x y ty', ty, pos, af, none⟩ :: os) tm bo nx ns :=
 W.plain hd (fun lt hlt => plain2 rfl ((hlt x (by simp [Op.operands])).trans hx) ((hlt y (by simp [Op.operands])).trans hy) eqGuard_bool (sv_neqB (isBoolT_some ht)) rfl) (fun _ _ _ _ _ _ _ h => orE_some h) h
theorem plain1 {o : Oper} {op : UnOp} {t : TypeId} {x : Operand} {lt : Nat → Option AV} {a v : Value} (ho : o.op = .unOp op t x) (hx : ev lt x = some (.one false [.d (.v a)])) (hs : semVal P (Op.unary op a) = some v) (hc : constAV v = some (.one false [.d (.v v)])) : effPlain P lt o = some ⟨.one false [.d (.v v)], [], []⟩ := by
 unfold effPlain
 rw [ho]
 simp only [plainOp, Op.operands, List.all_cons, List.all_nil, hx, Option.bind_some, conV, Option.isSome_some, Bool.and_true, Bool.true_and, if_true]
 unfold execOp
 rw [ho]
 simp only [semVal_bind, hx, Option.bind_some, conV, Option.getD_some, hs, semVal_pure, hc, Option.map_some, semVal_map]
theorem W.notP {t : TypeId} {x : Operand} {p : Prop} {dp : Decidable p} (hd : Nat.blt d N = true) (hx : ev (lk tm) x = some (.one false [.d (.v (.bool (decide p)))])) (h : W P lend N ops dr cs R (i + 1) os ((d, .one false [.d (.v (.bool (decide (¬ p))))]) :: tm) bo nx (ns ++ [⟨opKeys (lk tm) (lko bo) ⟨some d, .unOp .not t x, ty, pos, af, none⟩, []⟩])) : W P lend N ops dr cs R i (⟨some d, .unOp .not t x, ty, pos, af, none⟩ :: os) tm bo nx ns :=
 W.plain hd (fun lt hlt => plain1 rfl ((hlt x (by simp [Op.operands])).trans hx) (v := .bool (decide (¬ p))) (by rw [decide_not]; rfl) rfl) (fun _ _ _ _ _ _ _ h => h) h
theorem W.not {t : TypeId} {x : Operand} {b : Bool} (hd : Nat.blt d N = true) (hx : ev (lk tm) x = some (.one false [.d (.v (.bool b))])) (h : W P lend N ops dr cs R (i + 1) os ((d, .one false [.d (.v (.bool (!b)))]) :: tm) bo nx (ns ++ [⟨opKeys (lk tm) (lko bo) ⟨some d, .unOp .not t x, ty, pos, af, none⟩, []⟩])) : W P lend N ops dr cs R i (⟨some d, .unOp .not t x, ty, pos, af, none⟩ :: os) tm bo nx ns :=
 W.plain hd (fun lt hlt => plain1 rfl ((hlt x (by simp [Op.operands])).trans hx) (v := .bool (!b)) rfl rfl) (fun _ _ _ _ _ _ _ h => h) h
theorem W.notL {t : TypeId} {x : Operand} {b b' : Bool} (hd : Nat.blt d N = true) (hx : ev (lk tm) x = some (.one false [.d (.v (.bool b))])) (hb : (!b) = b') (h : W P lend N ops dr cs R (i + 1) os ((d, .one false [.d (.v (.bool b'))]) :: tm) bo nx (ns ++ [⟨opKeys (lk tm) (lko bo) ⟨some d, .unOp .not t x, ty, pos, af, none⟩, []⟩])) : W P lend N ops dr cs R i (⟨some d, .unOp .not t x, ty, pos, af, none⟩ :: os) tm bo nx ns := by
 subst hb; exact W.not hd hx h
theorem intK_some {t : TypeId} {k : IntKind} (h : IkI P t k) : P.underlying t = some (.int k) := by
 obtain ⟨h⟩ := h
 unfold intK at h; split at h
 ·cases h; assumption
 ·cases h
theorem W.conv {s t : TypeId} {x : Operand} {k0 k k' : IntKind} {n m : Int} (hd : Nat.blt d N = true) (hs : IkI P s k0) (ht : IkI P t k') (hx : ev (lk tm) x = some (.one false [.d (.v (.int k n))])) (hm : k'.wrap n = m) (h : W P lend N ops dr cs R (i + 1) os ((d, .one false [.d (.v (.int k' m))]) :: tm) bo nx (ns ++ [⟨opKeys (lk tm) (lko bo) ⟨some d, .convert s t x, ty, pos, af, none⟩, []⟩])) : W P lend N ops dr cs R i (⟨some d, .convert s t x, ty, pos, af, none⟩ :: os) tm bo nx ns := by
 subst hm
 refine W.val hd ?_ h
 have hx' := (ev_only (o := ⟨some d, .convert s t x, ty, pos, af, none⟩) (lt := lk tm) (x := x) (by simp [Op.operands])).trans hx
 simp only [effOf]
 unfold effConv
 simp only [intK_some hs]
 unfold effPlain
 simp only [plainOp, Op.operands, List.all_cons, List.all_nil, hx', Option.bind_some, conV, Option.isSome_some, Bool.and_true, Bool.true_and, if_true]
 unfold execOp
 have hc : semVal P (Go.convert s t (.int k n)) = some (.int k' (k'.wrap n)) := by
  rw [semVal_convI (by rw [intK_some hs, intK_some ht]; rfl), intK_some ht]; rfl
 simp only [semVal_bind, hx', Option.bind_some, conV, Option.getD_some, hc, semVal_pure, Option.map_some, semVal_map, constAV_int]
theorem eff_guard (P : Program) (call : CallF) (lend : FuncId → Bool) (cur : Nat) (key : Nat → Key) (dst : Option Nat) (op : Op) (g g' : Option (Nat × Bool)) (lt : Nat → Option AV) (lb : Key → Option Box) : effOf P call lend cur key ⟨dst, op, ty, pos, af, g⟩ lt lb = effOf P call lend cur key ⟨dst, op, ty, pos, af, g'⟩ lt lb := by
 cases op <;> rfl
theorem W.gT {dst : Option Nat} {op : Op} {j t : Nat} {b : Bool} (hj : (ops[j]?).bind (·.dst) = some t) (hv : lk tm t = some (.one false [.d (.v (.bool b))])) (h : W P lend N ops dr cs R i (⟨dst, op, ty, pos, af, none⟩ :: os) tm bo nx ns) : W P lend N ops dr cs R i (⟨dst, op, ty, pos, af, some (j, b)⟩ :: os) tm bo nx ns := by
 obtain ⟨call, hcall, rs, lt', lb', tm', bo', hrun, e1, e2, hord, hJ⟩ := h
 refine ⟨call, hcall, rs, lt', lb', tm', bo', ?_, e1, e2, hord, hJ⟩
 cases hrun with
 | op hd hw he hn t' =>
  refine .op (o := ⟨dst, op, ty, pos, af, some (j, b)⟩) hd ?_ (Eq.trans ?_ he) hn t'
  ·unfold wantA; simp only [hj, Option.bind_some, hv, beq_self_eq_true]
  ·unfold effAt
   exact eff_guard P _ _ _ _ dst op _ _ _ _
 | no hd hw t' => exact absurd hw (by simp [wantA])
theorem W.gF {d : Nat} {op : Op} {j t : Nat} {b b' : Bool} (hd : Nat.blt d N = true) (hj : (ops[j]?).bind (·.dst) = some t) (hv : lk tm t = some (.one false [.d (.v (.bool b'))])) (hb : (b' == b) = false) (h : W P lend N ops dr cs R (i + 1) os ((d, .un) :: tm) bo nx (ns ++ [⟨[], []⟩])) : W P lend N ops dr cs R i (⟨some d, op, ty, pos, af, some (j, b)⟩ :: os) tm bo nx ns := by
 obtain ⟨call, hcall, rs, lt', lb', tm', bo', hrun, e1, e2, hord, hJ⟩ := h
 refine ⟨call, hcall, ⟨.un, [], []⟩ :: rs, lt', lb', tm', bo', .no (fun k hk => by cases hk; exact Nat.le_of_ble_eq_true hd) ?_ ?_, e1, e2, ?_, hJ⟩
 ·unfold wantA; simp only [hj, Option.bind_some, hv, hb]
 ·rw [← updT_cons]; exact hrun
 ·rcases hord with h0 | h0
  ·exact .inl h0
  ·right; rw [← h0, List.map_cons, List.append_assoc]; rfl
theorem W.gU {d : Nat} {op : Op} {j t : Nat} {b : Bool} (hd : Nat.blt d N = true) (hj : (ops[j]?).bind (·.dst) = some t) (hv : lk tm t = some .un) (h : W P lend N ops dr cs R (i + 1) os ((d, .un) :: tm) bo nx (ns ++ [⟨[], []⟩])) : W P lend N ops dr cs R i (⟨some d, op, ty, pos, af, some (j, b)⟩ :: os) tm bo nx ns := by
 obtain ⟨call, hcall, rs, lt', lb', tm', bo', hrun, e1, e2, hord, hJ⟩ := h
 refine ⟨call, hcall, ⟨.un, [], []⟩ :: rs, lt', lb', tm', bo', .no (fun k hk => by cases hk; exact Nat.le_of_ble_eq_true hd) ?_ ?_, e1, e2, ?_, hJ⟩
 ·unfold wantA; simp only [hj, Option.bind_some, hv]
 ·rw [← updT_cons]; exact hrun
 ·rcases hord with h0 | h0
  ·exact .inl h0
  ·right; rw [← h0, List.map_cons, List.append_assoc]; rfl
theorem lk_same {tm : List (Nat × AV)} {t : Nat} {av : AV} (h : lk tm t = some av) : lk ((t, av) :: tm) = lk tm := by
 funext q
 show (if q = t then some av else lk tm q) = lk tm q
 by_cases e : q = t
 ·subst e; rw [if_pos rfl, h]
 ·rw [if_neg e]
theorem W.congr {tm tm2 : List (Nat × AV)} (e : lk tm = lk tm2) (h : W P lend N ops dr cs R i os tm2 bo nx ns) : W P lend N ops dr cs R i os tm bo nx ns := by
 obtain ⟨h⟩ := h; exact ⟨by rw [e]; exact h⟩
theorem W.test {t : Nat} {p : Prop} {dp : Decidable p} (hv : lk tm t = some (.one false [.d (.v (.bool (decide p)))])) (ht : p → W P lend N ops dr cs R i os ((t, .one false [.d (.v (.bool true))]) :: tm) bo nx ns) (hf : ¬ p → W P lend N ops dr cs R i os ((t, .one false [.d (.v (.bool false))]) :: tm) bo nx ns) : W P lend N ops dr cs R i os tm bo nx ns := by
 by_cases h : p
 ·refine W.congr (tm2 := (t, .one false [.d (.v (.bool true))]) :: tm) ?_ (ht h)
  rw [decide_eq_true h] at hv
  exact (lk_same hv).symm
 ·refine W.congr (tm2 := (t, .one false [.d (.v (.bool false))]) :: tm) ?_ (hf h)
  rw [decide_eq_false h] at hv
  exact (lk_same hv).symm
theorem W.testB {t : Nat} {b : Bool} (hv : lk tm t = some (.one false [.d (.v (.bool b))])) (ht : b = true → W P lend N ops dr cs R i os ((t, .one false [.d (.v (.bool true))]) :: tm) bo nx ns) (hf : b = false → W P lend N ops dr cs R i os ((t, .one false [.d (.v (.bool false))]) :: tm) bo nx ns) : W P lend N ops dr cs R i os tm bo nx ns := by
 cases b with
 | true => exact W.congr (lk_same hv).symm (ht rfl)
 | false => exact W.congr (lk_same hv).symm (hf rfl)
theorem W.gS {dst : Option Nat} {op : Op} {j t : Nat} {b : Bool} {p : Prop} {dp : Decidable p} (hj : (ops[j]?).bind (·.dst) = some t) (hv : lk tm t = some (.one false [.d (.v (.bool (decide p)))])) (ht : p → W P lend N ops dr cs R i (⟨dst, op, ty, pos, af, some (j, b)⟩ :: os) ((t, .one false [.d (.v (.bool true))]) :: tm) bo nx ns) (hf : ¬ p → W P lend N ops dr cs R i (⟨dst, op, ty, pos, af, some (j, b)⟩ :: os) ((t, .one false [.d (.v (.bool false))]) :: tm) bo nx ns) : W P lend N ops dr cs R i (⟨dst, op, ty, pos, af, some (j, b)⟩ :: os) tm bo nx ns := W.test hv ht hf
theorem W.gSB {dst : Option Nat} {op : Op} {j t : Nat} {b c : Bool} (hj : (ops[j]?).bind (·.dst) = some t) (hv : lk tm t = some (.one false [.d (.v (.bool c))])) (ht : c = true → W P lend N ops dr cs R i (⟨dst, op, ty, pos, af, some (j, b)⟩ :: os) ((t, .one false [.d (.v (.bool true))]) :: tm) bo nx ns) (hf : c = false → W P lend N ops dr cs R i (⟨dst, op, ty, pos, af, some (j, b)⟩ :: os) ((t, .one false [.d (.v (.bool false))]) :: tm) bo nx ns) : W P lend N ops dr cs R i (⟨dst, op, ty, pos, af, some (j, b)⟩ :: os) tm bo nx ns := W.testB hv ht hf
theorem JL.condN {st : St} {c : Operand} {x y : Code} {p : Prop} {dp : Decidable (¬ p)} (hc : ev (lk st.tm) c = some (.one false [.d (.v (.bool (decide (¬ p))))])) (ht : ¬ p → JL P N (x :: cs) st R) (hf : p → JL P N (y :: cs) st R) : JL P N (.cond c x y :: cs) st R :=
 JL.cond hc (fun h => ht (of_decide_eq_true h)) (fun h => hf (Classical.not_not.1 (of_decide_eq_false h)))
theorem W.gSN {dst : Option Nat} {op : Op} {j t : Nat} {b : Bool} {p : Prop} {dp : Decidable (¬ p)} (hj : (ops[j]?).bind (·.dst) = some t) (hv : lk tm t = some (.one false [.d (.v (.bool (decide (¬ p))))])) (ht : ¬ p → W P lend N ops dr cs R i (⟨dst, op, ty, pos, af, some (j, b)⟩ :: os) ((t, .one false [.d (.v (.bool true))]) :: tm) bo nx ns) (hf : p → W P lend N ops dr cs R i (⟨dst, op, ty, pos, af, some (j, b)⟩ :: os) ((t, .one false [.d (.v (.bool false))]) :: tm) bo nx ns) : W P lend N ops dr cs R i (⟨dst, op, ty, pos, af, some (j, b)⟩ :: os) tm bo nx ns := W.test hv ht (fun h => hf (Classical.not_not.1 h))
theorem K_mv {x : Operand} (h : W P lend N ops dr cs R i (⟨some d, .move x, ty, pos, af, none⟩ :: os) tm bo nx ns) : W P lend N ops dr cs R i (⟨some d, .move x, ty, pos, af, none⟩ :: os) tm bo nx ns := h
theorem K_as {x : Operand} (h : W P lend N ops dr cs R i (⟨some d, .assign x, ty, pos, af, none⟩ :: os) tm bo nx ns) : W P lend N ops dr cs R i (⟨some d, .assign x, ty, pos, af, none⟩ :: os) tm bo nx ns := h
theorem K_pk {c x y : Operand} (h : W P lend N ops dr cs R i (⟨some d, .pick c x y, ty, pos, af, none⟩ :: os) tm bo nx ns) : W P lend N ops dr cs R i (⟨some d, .pick c x y, ty, pos, af, none⟩ :: os) tm bo nx ns := h
theorem K_al (t : TypeId) (h : W P lend N ops dr cs R i (⟨some d, .alloc t, ty, pos, af, none⟩ :: os) tm bo nx ns) : W P lend N ops dr cs R i (⟨some d, .alloc t, ty, pos, af, none⟩ :: os) tm bo nx ns := h
theorem K_bx (t : TypeId) {x : Operand} (h : W P lend N ops dr cs R i (⟨some d, .box t x, ty, pos, af, none⟩ :: os) tm bo nx ns) : W P lend N ops dr cs R i (⟨some d, .box t x, ty, pos, af, none⟩ :: os) tm bo nx ns := h
theorem K_nc {x : Operand} (h : W P lend N ops dr cs R i (⟨some d, .nilCheck x, ty, pos, af, none⟩ :: os) tm bo nx ns) : W P lend N ops dr cs R i (⟨some d, .nilCheck x, ty, pos, af, none⟩ :: os) tm bo nx ns := h
theorem K_fa (s : TypeId) (f : Nat) {x : Operand} (h : W P lend N ops dr cs R i (⟨some d, .fieldAddr s x f, ty, pos, af, none⟩ :: os) tm bo nx ns) : W P lend N ops dr cs R i (⟨some d, .fieldAddr s x f, ty, pos, af, none⟩ :: os) tm bo nx ns := h
theorem K_fd (s : TypeId) (f : Nat) {x : Operand} (h : W P lend N ops dr cs R i (⟨some d, .field s x f, ty, pos, af, none⟩ :: os) tm bo nx ns) : W P lend N ops dr cs R i (⟨some d, .field s x f, ty, pos, af, none⟩ :: os) tm bo nx ns := h
theorem K_ld (t : TypeId) {x : Operand} (h : W P lend N ops dr cs R i (⟨some d, .load t x, ty, pos, af, none⟩ :: os) tm bo nx ns) : W P lend N ops dr cs R i (⟨some d, .load t x, ty, pos, af, none⟩ :: os) tm bo nx ns := h
theorem K_st (t : TypeId) {x y : Operand} (h : W P lend N ops dr cs R i (⟨none, .store t x y, ty, pos, af, none⟩ :: os) tm bo nx ns) : W P lend N ops dr cs R i (⟨none, .store t x y, ty, pos, af, none⟩ :: os) tm bo nx ns := h
theorem K_ix (t : TypeId) {x y : Operand} (h : W P lend N ops dr cs R i (⟨some d, .indexAddr t x y, ty, pos, af, none⟩ :: os) tm bo nx ns) : W P lend N ops dr cs R i (⟨some d, .indexAddr t x y, ty, pos, af, none⟩ :: os) tm bo nx ns := h
theorem K_ex {x : Operand} {j : Nat} (h : W P lend N ops dr cs R i (⟨some d, .extract x j, ty, pos, af, none⟩ :: os) tm bo nx ns) : W P lend N ops dr cs R i (⟨some d, .extract x j, ty, pos, af, none⟩ :: os) tm bo nx ns := h
theorem K_bd (t : TypeId) {ps : Array (Nat × Operand)} (h : W P lend N ops dr cs R i (⟨some d, .build t ps, ty, pos, af, none⟩ :: os) tm bo nx ns) : W P lend N ops dr cs R i (⟨some d, .build t ps, ty, pos, af, none⟩ :: os) tm bo nx ns := h
theorem K_bs (t : TypeId) {n : Nat} {ps : Array (Nat × Operand)} (h : W P lend N ops dr cs R i (⟨some d, .buildSlice t n ps, ty, pos, af, none⟩ :: os) tm bo nx ns) : W P lend N ops dr cs R i (⟨some d, .buildSlice t n ps, ty, pos, af, none⟩ :: os) tm bo nx ns := h
theorem K_mk (t : TypeId) {x y : Operand} (h : W P lend N ops dr cs R i (⟨some d, .makeSlice t x y, ty, pos, af, none⟩ :: os) tm bo nx ns) : W P lend N ops dr cs R i (⟨some d, .makeSlice t x y, ty, pos, af, none⟩ :: os) tm bo nx ns := h
theorem K_sl (t : TypeId) {x : Operand} {l u m : Option Operand} (h : W P lend N ops dr cs R i (⟨some d, .slice t x l u m, ty, pos, af, none⟩ :: os) tm bo nx ns) : W P lend N ops dr cs R i (⟨some d, .slice t x l u m, ty, pos, af, none⟩ :: os) tm bo nx ns := h
theorem K_bn (op : BinOp) (t : TypeId) {x y : Operand} {t2 : TypeId} (h : W P lend N ops dr cs R i (⟨some d, .binOp op t x y t2, ty, pos, af, none⟩ :: os) tm bo nx ns) : W P lend N ops dr cs R i (⟨some d, .binOp op t x y t2, ty, pos, af, none⟩ :: os) tm bo nx ns := h
theorem K_un (op : UnOp) {t : TypeId} {x : Operand} (h : W P lend N ops dr cs R i (⟨some d, .unOp op t x, ty, pos, af, none⟩ :: os) tm bo nx ns) : W P lend N ops dr cs R i (⟨some d, .unOp op t x, ty, pos, af, none⟩ :: os) tm bo nx ns := h
theorem K_cv (s t : TypeId) {x : Operand} (h : W P lend N ops dr cs R i (⟨some d, .convert s t x, ty, pos, af, none⟩ :: os) tm bo nx ns) : W P lend N ops dr cs R i (⟨some d, .convert s t x, ty, pos, af, none⟩ :: os) tm bo nx ns := h
theorem K_bu (b : Builtin) (t : TypeId) {xs : Array Operand} {ts : List TypeId} (h : W P lend N ops dr cs R i (⟨some d, .call ⟨.builtin b, xs, List.toArray (t :: ts)⟩, ty, pos, af, none⟩ :: os) tm bo nx ns) : W P lend N ops dr cs R i (⟨some d, .call ⟨.builtin b, xs, List.toArray (t :: ts)⟩, ty, pos, af, none⟩ :: os) tm bo nx ns := h
theorem K_ca (g : FuncId) {xs : Array Operand} {ts : Array TypeId} (h : W P lend N ops dr cs R i (⟨some d, .call ⟨.value (.func g), xs, ts⟩, ty, pos, af, none⟩ :: os) tm bo nx ns) : W P lend N ops dr cs R i (⟨some d, .call ⟨.value (.func g), xs, ts⟩, ty, pos, af, none⟩ :: os) tm bo nx ns := h
theorem K_g {dst : Option Nat} {op : Op} {g : Nat × Bool} (h : W P lend N ops dr cs R i (⟨dst, op, ty, pos, af, some g⟩ :: os) tm bo nx ns) : W P lend N ops dr cs R i (⟨dst, op, ty, pos, af, some g⟩ :: os) tm bo nx ns := h
theorem K_nl (h : W P lend N ops dr cs R i [] tm bo nx ns) : W P lend N ops dr cs R i [] tm bo nx ns := h
theorem C_at {st : St} {c : Operand} {x y : Code} (h : JL P N (.cond c x y :: cs) st R) : JL P N (.cond c x y :: cs) st R := h
theorem W_at (h : W P lend N ops dr cs R i os tm bo nx ns) : W P lend N ops dr cs R i os tm bo nx ns := h
theorem JL.condP {st : St} {c : Operand} {x y : Code} {p : Prop} {dp : Decidable p} (hc : ev (lk st.tm) c = some (.one false [.d (.v (.bool (decide p)))])) (ht : p → JL P N (x :: cs) st R) (hf : ¬ p → JL P N (y :: cs) st R) : JL P N (.cond c x y :: cs) st R :=
 JL.cond hc (fun h => ht (of_decide_eq_true h)) (fun h => hf (of_decide_eq_false h))
end
end Go.Proofs.YtbafhclppppkgaaGreatDoor

