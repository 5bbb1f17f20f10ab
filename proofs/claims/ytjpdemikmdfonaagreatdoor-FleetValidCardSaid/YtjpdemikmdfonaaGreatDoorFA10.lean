/- Rules of runs and contracts of functions, for the claims of one seat. -/
import Derived.Test.YtjpdemikmdfonaaGreatDoorFA9
namespace Go.Proofs.YtjpdemikmdfonaaGreatDoor
open Go Go.RowKit
set_option linter.unusedSimpArgs false
set_option linter.unusedVariables false
def bInt (op : BinOp) (k : IntKind) (a b : Int) : Option Value := match op with
 | .add => some (.int k (k.wrap (a + b)))
 | .sub => some (.int k (k.wrap (a - b)))
 | .mul => some (.int k (k.wrap (a * b)))
 | .and => some (.int k (bits .and k a b))
 | .or => some (.int k (bits .or k a b))
 | .xor => some (.int k (bits .xor k a b))
 | .andNot => some (.int k (bits .andNot k a b))
 | .eql => some (.bool (decide (a = b)))
 | .neq => some (.bool (decide (¬ a = b)))
 | .lss => some (.bool (decide (a < b)))
 | .leq => some (.bool (decide (a ≤ b)))
 | .gtr => some (.bool (decide (b < a)))
 | .geq => some (.bool (decide (b ≤ a)))
 | _ => none
theorem wrapI {n : Int} (h : -9223372036854775808 ≤ n ∧ n ≤ 9223372036854775807) : IntKind.i64.wrap n = n := by
 simp [IntKind.wrap, IntKind.signed, IntKind.bits]; omega
section
variable {P : Program} {lend : FuncId → Bool} {N : Nat} {ops : Array Oper} {dr : Bool} {cs : List Code} {R : AX → St → Prop}
variable {i : Nat} {os : List Oper} {tm : List (Nat × AV)} {bo : BO} {nx : Nat} {ns : List Note} {d : Nat} {pos : String} {ty : TypeId} {af : Array Edge}
theorem W.plain {op : Op} {v : Value} (hd : Nat.blt d N = true) (he : ∀ lt, (∀ x, x ∈ op.operands.toList → ev lt x = ev (lk tm) x) → effPlain P lt ⟨some d, op, ty, pos, af, none⟩ = some ⟨.one false [.d (.v v)], [], []⟩) (ho : ∀ call lend cur key lt lb e, effPlain P lt ⟨some d, op, ty, pos, af, none⟩ = some e → effOf P call lend cur key ⟨some d, op, ty, pos, af, none⟩ lt lb = some e)
    (h : W P lend N ops dr cs R (i + 1) os ((d, .one false [.d (.v v)]) :: tm) bo nx (ns ++ [⟨opKeys (lk tm) (lko bo) ⟨some d, op, ty, pos, af, none⟩, []⟩])) : W P lend N ops dr cs R i (⟨some d, op, ty, pos, af, none⟩ :: os) tm bo nx ns :=
 W.val hd (ho _ _ _ _ _ _ _ (he _ fun x hx => ev_only hx _)) h
theorem plain2 {o : Oper} {op : BinOp} {t ty' : TypeId} {x y : Operand} {lt : Nat → Option AV} {a b v : Value} (ho : o.op = .binOp op t x y ty') (hx : ev lt x = some (.one false [.d (.v a)])) (hy : ev lt y = some (.one false [.d (.v b)])) (hg : semVal P (eqGuard op t x y a b) = some ()) (hs : semVal P (binOp op t a b) = some v) (hc : constAV v = some (.one false [.d (.v v)])) : effPlain P lt o = some ⟨.one false [.d (.v v)], [], []⟩ := by
 unfold effPlain
 rw [ho]
 simp only [plainOp, Op.operands, List.all_cons, List.all_nil, hx, hy, Option.bind_some, conV, Option.isSome_some, Bool.and_true, Bool.true_and, if_true]
 unfold execOp
 rw [ho]
 simp only [semVal_bind, hx, hy, Option.bind_some, conV, Option.getD_some, hg, hs, semVal_pure, hc, Option.map_some, semVal_map]
theorem eqGuard_int {op : BinOp} {t : TypeId} {x y : Operand} {k k' : IntKind} {a b : Int} : semVal P (eqGuard op t x y (.int k a) (.int k' b)) = some () := by
 unfold eqGuard; cases op <;> rfl
theorem eqGuard_bool {op : BinOp} {t : TypeId} {x y : Operand} {a b : Bool} : semVal P (eqGuard op t x y (.bool a) (.bool b)) = some () := by
 unfold eqGuard; cases op <;> rfl
theorem bInt_sem {op : BinOp} {k : IntKind} {t : TypeId} {a b : Int} {v : Value} (h : bInt op k a b = some v) : semVal P (binOp op t (.int k a) (.int k b)) = some v := by
 cases op <;> simp only [bInt] at h <;> first | (cases h; done) | skip
 all_goals cases h
 all_goals simp [binOp, Op.intArith, Op.intBits, Op.intCmp, semVal_pure, bits]
 all_goals rfl
theorem constAV_int (k : IntKind) (n : Int) : constAV (.int k n) = some (.one false [.d (.v (.int k n))]) := rfl
theorem bInt_const {op : BinOp} {k : IntKind} {a b : Int} {v : Value} (h : bInt op k a b = some v) : constAV v = some (.one false [.d (.v v)]) := by
 cases op <;> simp only [bInt] at h <;> first | (cases h; rfl) | cases h
theorem W.bin {op : BinOp} {t ty' : TypeId} {x y : Operand} {k : IntKind} {a b : Int} {v : Value} (hd : Nat.blt d N = true) (hx : ev (lk tm) x = some (.one false [.d (.v (.int k a))])) (hy : ev (lk tm) y = some (.one false [.d (.v (.int k b))])) (hv : bInt op k a b = some v) (h : W P lend N ops dr cs R (i + 1) os ((d, .one false [.d (.v v)]) :: tm) bo nx (ns ++ [⟨opKeys (lk tm) (lko bo) ⟨some d, .binOp op t x y ty', ty, pos, af, none⟩, []⟩])) : W P lend N ops dr cs R i (⟨some d, .binOp op t x y ty', ty, pos, af, none⟩ :: os) tm bo nx ns :=
 W.plain hd (fun lt hlt => plain2 rfl ((hlt x (by simp [Op.operands])).trans hx) ((hlt y (by simp [Op.operands])).trans hy) eqGuard_int (bInt_sem hv) (bInt_const hv)) (fun _ _ _ _ _ _ _ h => orE_some h) h
theorem W.binE {op : BinOp} {t ty' : TypeId} {x y : Operand} {k : IntKind} {a b c c' : Int} (hd : Nat.blt d N = true) (hx : ev (lk tm) x = some (.one false [.d (.v (.int k a))])) (hy : ev (lk tm) y = some (.one false [.d (.v (.int k b))])) (hv : bInt op k a b = some (.int k c)) (he : c = c') (h : W P lend N ops dr cs R (i + 1) os ((d, .one false [.d (.v (.int k c'))]) :: tm) bo nx (ns ++ [⟨opKeys (lk tm) (lko bo) ⟨some d, .binOp op t x y ty', ty, pos, af, none⟩, []⟩])) : W P lend N ops dr cs R i (⟨some d, .binOp op t x y ty', ty, pos, af, none⟩ :: os) tm bo nx ns := by
 subst he; exact W.bin hd hx hy hv h
theorem W.addI {t ty' : TypeId} {x y : Operand} {a b : Int} (hd : Nat.blt d N = true) (hx : ev (lk tm) x = some (.one false [.d (.v (.int .i64 a))])) (hy : ev (lk tm) y = some (.one false [.d (.v (.int .i64 b))])) (hw : -9223372036854775808 ≤ a + b ∧ a + b ≤ 9223372036854775807) (h : W P lend N ops dr cs R (i + 1) os ((d, .one false [.d (.v (.int .i64 (a + b)))]) :: tm) bo nx (ns ++ [⟨opKeys (lk tm) (lko bo) ⟨some d, .binOp .add t x y ty', ty, pos, af, none⟩, []⟩])) : W P lend N ops dr cs R i (⟨some d, .binOp .add t x y ty', ty, pos, af, none⟩ :: os) tm bo nx ns :=
 W.binE hd hx hy rfl (wrapI hw) h
theorem W.subI {t ty' : TypeId} {x y : Operand} {a b : Int} (hd : Nat.blt d N = true) (hx : ev (lk tm) x = some (.one false [.d (.v (.int .i64 a))])) (hy : ev (lk tm) y = some (.one false [.d (.v (.int .i64 b))])) (hw : -9223372036854775808 ≤ a - b ∧ a - b ≤ 9223372036854775807) (h : W P lend N ops dr cs R (i + 1) os ((d, .one false [.d (.v (.int .i64 (a - b)))]) :: tm) bo nx (ns ++ [⟨opKeys (lk tm) (lko bo) ⟨some d, .binOp .sub t x y ty', ty, pos, af, none⟩, []⟩])) : W P lend N ops dr cs R i (⟨some d, .binOp .sub t x y ty', ty, pos, af, none⟩ :: os) tm bo nx ns :=
 W.binE hd hx hy rfl (wrapI hw) h
theorem W.mulI {t ty' : TypeId} {x y : Operand} {a b : Int} (hd : Nat.blt d N = true) (hx : ev (lk tm) x = some (.one false [.d (.v (.int .i64 a))])) (hy : ev (lk tm) y = some (.one false [.d (.v (.int .i64 b))])) (hw : -9223372036854775808 ≤ a * b ∧ a * b ≤ 9223372036854775807) (h : W P lend N ops dr cs R (i + 1) os ((d, .one false [.d (.v (.int .i64 (a * b)))]) :: tm) bo nx (ns ++ [⟨opKeys (lk tm) (lko bo) ⟨some d, .binOp .mul t x y ty', ty, pos, af, none⟩, []⟩])) : W P lend N ops dr cs R i (⟨some d, .binOp .mul t x y ty', ty, pos, af, none⟩ :: os) tm bo nx ns :=
 W.binE hd hx hy rfl (wrapI hw) h
theorem W.shl {t ty' : TypeId} {x y : Operand} {k k' : IntKind} {a b : Int} (hd : Nat.blt d N = true) (hx : ev (lk tm) x = some (.one false [.d (.v (.int k a))])) (hy : ev (lk tm) y = some (.one false [.d (.v (.int k' b))])) (hw : 0 ≤ b ∧ b ≤ (k.bits : Nat)) (h : W P lend N ops dr cs R (i + 1) os ((d, .one false [.d (.v (.int k (k.wrap (a * 2 ^ b.toNat))))]) :: tm) bo nx (ns ++ [⟨opKeys (lk tm) (lko bo) ⟨some d, .binOp .shl t x y ty', ty, pos, af, none⟩, []⟩])) : W P lend N ops dr cs R i (⟨some d, .binOp .shl t x y ty', ty, pos, af, none⟩ :: os) tm bo nx ns :=
 W.plain hd (fun lt hlt => plain2 rfl ((hlt x (by simp [Op.operands])).trans hx) ((hlt y (by simp [Op.operands])).trans hy) eqGuard_int (by simp only [binOp, Op.shift]; rw [if_neg (by omega), Nat.min_eq_left (by omega)]; rfl) rfl) (fun _ _ _ _ _ _ _ h => orE_some h) h
theorem W.shr {t ty' : TypeId} {x y : Operand} {k k' : IntKind} {a b : Int} (hd : Nat.blt d N = true) (hx : ev (lk tm) x = some (.one false [.d (.v (.int k a))])) (hy : ev (lk tm) y = some (.one false [.d (.v (.int k' b))])) (hw : 0 ≤ b ∧ b ≤ (k.bits : Nat)) (h : W P lend N ops dr cs R (i + 1) os ((d, .one false [.d (.v (.int k (a / 2 ^ b.toNat)))]) :: tm) bo nx (ns ++ [⟨opKeys (lk tm) (lko bo) ⟨some d, .binOp .shr t x y ty', ty, pos, af, none⟩, []⟩])) : W P lend N ops dr cs R i (⟨some d, .binOp .shr t x y ty', ty, pos, af, none⟩ :: os) tm bo nx ns :=
 W.plain hd (fun lt hlt => plain2 rfl ((hlt x (by simp [Op.operands])).trans hx) ((hlt y (by simp [Op.operands])).trans hy) eqGuard_int (by simp only [binOp, Op.shift]; rw [if_neg (by omega), Nat.min_eq_left (by omega), Int.fdiv_eq_ediv_of_nonneg _ (Int.pow_nonneg (by decide))]; rfl) rfl) (fun _ _ _ _ _ _ _ h => orE_some h) h
theorem isBoolT_some {t : TypeId} (h : IbI P t) : P.underlying t = some .bool := by
 obtain ⟨h⟩ := h
 unfold isBoolT at h; split at h
 ·assumption
 ·cases h
theorem W.eqB {t ty' : TypeId} {x y : Operand} {a b : Bool} (hd : Nat.blt d N = true) (ht : IbI P t) (hx : ev (lk tm) x = some (.one false [.d (.v (.bool a))])) (hy : ev (lk tm) y = some (.one false [.d (.v (.bool b))])) (h : W P lend N ops dr cs R (i + 1) os ((d, .one false [.d (.v (.bool (a == b)))]) :: tm) bo nx (ns ++ [⟨opKeys (lk tm) (lko bo) ⟨some d, .binOp .eql t x y ty', ty, pos, af, none⟩, []⟩])) : W P lend N ops dr cs R i (⟨some d, .binOp .eql t x y ty', ty, pos, af, none⟩ :: os) tm bo nx ns :=
 W.plain hd (fun lt hlt => plain2 rfl ((hlt x (by simp [Op.operands])).trans hx) ((hlt y (by simp [Op.operands])).trans hy) eqGuard_bool (sv_eqlB (isBoolT_some ht)) rfl) (fun _ _ _ _ _ _ _ h => orE_some h) h
theorem W.neB {t ty' : TypeId} {x y : Operand} {a b : Bool} (hd : Nat.blt d N = true) (ht : IbI P t) (hx : ev (lk tm) x = some (.one false [.d (.v (.bool a))])) (hy : ev (lk tm) y = some (.one false [.d (.v (.bool b))])) (h : W P lend N ops dr cs R (i + 1) os ((d, .one false [.d (.v (.bool (!(a == b))))]) :: tm) bo nx (ns ++ [⟨opKeys (lk tm) (lko bo) ⟨some d, .binOp .neq t x y ty', ty, pos, af, none⟩, []⟩])) : W P lend N ops dr cs R i (⟨some d, .binOp .neq t x y ty', ty, pos, af, none⟩ :: os) tm bo nx ns :=
 W.plain hd (fun lt hlt => plain2 rfl ((hlt x (by simp [Op.operands])).trans hx) ((hlt y (by simp [Op.operands])).trans hy) eqGuard_bool (sv_neqB (isBoolT_some ht)) rfl) (fun _ _ _ _ _ _ _ h => orE_some h) h
theorem plain1 {o : Oper} {op : UnOp} {t : TypeId} {x : Operand} {lt : Nat → Option AV} {a v : Value} (ho : o.op = .unOp op t x) (hx : ev lt x = some (.one false [.d (.v a)])) (hs : semVal P (Op.unary op a) = some v) (hc : constAV v = some (.one false [.d (.v v)])) : effPlain P lt o = some ⟨.one false [.d (.v v)], [], []⟩ := by
 unfold effPlain
 rw [ho]
 simp only [plainOp, Op.operands, List.all_cons, List.all_nil, hx, Option.bind_some, conV, Option.isSome_some, Bool.and_true, Bool.true_and, if_true]
 unfold execOp
 rw [ho]
 simp only [semVal_bind, hx, Option.bind_some, conV, Option.getD_some, hs, semVal_pure, hc, Option.map_some, semVal_map]
theorem W.notP {t : TypeId} {x : Operand} {p : Prop} {dp : Decidable p} (hd : Nat.blt d N = true) (hx : ev (lk tm) x = some (.one false [.d (.v (.bool (decide p)))])) (h : W P lend N ops dr cs R (i + 1) os ((d, .one false [.d (.v (.bool (decide (¬ p))))]) :: tm) bo nx (ns ++ [⟨opKeys (lk tm) (lko bo) ⟨some d, .unOp .not t x, ty, pos, af, none⟩, []⟩])) : W P lend N ops dr cs R i (⟨some d, .unOp .not t x, ty, pos, af, none⟩ :: os) tm bo nx ns :=
 W.plain hd (fun lt hlt => plain1 rfl ((hlt x (by simp [Op.operands])).trans hx) (v := .bool (decide (¬ p))) (by rw [decide_not]; rfl) rfl) (fun _ _ _ _ _ _ _ h => h) h
theorem W.not {t : TypeId} {x : Operand} {b : Bool} (hd : Nat.blt d N = true) (hx : ev (lk tm) x = some (.one false [.d (.v (.bool b))])) (h : W P lend N ops dr cs R (i + 1) os ((d, .one false [.d (.v (.bool (!b)))]) :: tm) bo nx (ns ++ [⟨opKeys (lk tm) (lko bo) ⟨some d, .unOp .not t x, ty, pos, af, none⟩, []⟩])) : W P lend N ops dr cs R i (⟨some d, .unOp .not t x, ty, pos, af, none⟩ :: os) tm bo nx ns :=
 W.plain hd (fun lt hlt => plain1 rfl ((hlt x (by simp [Op.operands])).trans hx) (v := .bool (!b)) rfl rfl) (fun _ _ _ _ _ _ _ h => h) h
theorem W.notL {t : TypeId} {x : Operand} {b b' : Bool} (hd : Nat.blt d N = true) (hx : ev (lk tm) x = some (.one false [.d (.v (.bool b))])) (hb : (!b) = b') (h : W P lend N ops dr cs R (i + 1) os ((d, .one false [.d (.v (.bool b'))]) :: tm) bo nx (ns ++ [⟨opKeys (lk tm) (lko bo) ⟨some d, .unOp .not t x, ty, pos, af, none⟩, []⟩])) : W P lend N ops dr cs R i (⟨some d, .unOp .not t x, ty, pos, af, none⟩ :: os) tm bo nx ns := by
 subst hb; exact W.not hd hx h
theorem intK_some {t : TypeId} {k : IntKind} (h : IkI P t k) : P.underlying t = some (.int k) := by
 obtain ⟨h⟩ := h
 unfold intK at h; split at h
 ·cases h; assumption
 ·cases h
theorem W.conv {s t : TypeId} {x : Operand} {k0 k k' : IntKind} {n m : Int} (hd : Nat.blt d N = true) (hs : IkI P s k0) (ht : IkI P t k') (hx : ev (lk tm) x = some (.one false [.d (.v (.int k n))])) (hm : k'.wrap n = m) (h : W P lend N ops dr cs R (i + 1) os ((d, .one false [.d (.v (.int k' m))]) :: tm) bo nx (ns ++ [⟨opKeys (lk tm) (lko bo) ⟨some d, .convert s t x, ty, pos, af, none⟩, []⟩])) : W P lend N ops dr cs R i (⟨some d, .convert s t x, ty, pos, af, none⟩ :: os) tm bo nx ns := by
 subst hm
 refine W.val hd ?_ h
 have hx' := (ev_only (o := ⟨some d, .convert s t x, ty, pos, af, none⟩) (lt := lk tm) (x := x) (by simp [Op.operands])).trans hx
 simp only [effOf]
 unfold effConv
 simp only [intK_some hs]
 unfold effPlain
 simp only [plainOp, Op.operands, List.all_cons, List.all_nil, hx', Option.bind_some, conV, Option.isSome_some, Bool.and_true, Bool.true_and, if_true]
 unfold execOp
 have hc : semVal P (Go.convert s t (.int k n)) = some (.int k' (k'.wrap n)) := by
  rw [semVal_convI (by rw [intK_some hs, intK_some ht]; rfl), intK_some ht]; rfl
 simp only [semVal_bind, hx', Option.bind_some, conV, Option.getD_some, hc, semVal_pure, Option.map_some, semVal_map, constAV_int]
theorem eff_guard (P : Program) (call : CallF) (lend : FuncId → Bool) (cur : Nat) (key : Nat → Key) (dst : Option Nat) (op : Op) (g g' : Option (Nat × Bool)) (lt : Nat → Option AV) (lb : Key → Option Box) : effOf P call lend cur key ⟨dst, op, ty, pos, af, g⟩ lt lb = effOf P call lend cur key ⟨dst, op, ty, pos, af, g'⟩ lt lb := by
 cases op <;> rfl
theorem W.gT {dst : Option Nat} {op : Op} {j t : Nat} {b : Bool} (hj : (ops[j]?).bind (·.dst) = some t) (hv : lk tm t = some (.one false [.d (.v (.bool b))])) (h : W P lend N ops dr cs R i (⟨dst, op, ty, pos, af, none⟩ :: os) tm bo nx ns) : W P lend N ops dr cs R i (⟨dst, op, ty, pos, af, some (j, b)⟩ :: os) tm bo nx ns := by
 obtain ⟨call, hcall, rs, lt', lb', tm', bo', hrun, e1, e2, hord, hJ⟩ := h
 refine ⟨call, hcall, rs, lt', lb', tm', bo', ?_, e1, e2, hord, hJ⟩
 cases hrun with
 | op hd hw he hn t' =>
  refine .op (o := ⟨dst, op, ty, pos, af, some (j, b)⟩) hd ?_ (Eq.trans ?_ he) hn t'
  ·unfold wantA; simp only [hj, Option.bind_some, hv, beq_self_eq_true]
  ·unfold effAt
   exact eff_guard P _ _ _ _ dst op _ _ _ _
 | no hd hw t' => exact absurd hw (by simp [wantA])
theorem W.gF {d : Nat} {op : Op} {j t : Nat} {b b' : Bool} (hd : Nat.blt d N = true) (hj : (ops[j]?).bind (·.dst) = some t) (hv : lk tm t = some (.one false [.d (.v (.bool b'))])) (hb : (b' == b) = false) (h : W P lend N ops dr cs R (i + 1) os ((d, .un) :: tm) bo nx (ns ++ [⟨[], []⟩])) : W P lend N ops dr cs R i (⟨some d, op, ty, pos, af, some (j, b)⟩ :: os) tm bo nx ns := by
 obtain ⟨call, hcall, rs, lt', lb', tm', bo', hrun, e1, e2, hord, hJ⟩ := h
 refine ⟨call, hcall, ⟨.un, [], []⟩ :: rs, lt', lb', tm', bo', .no (fun k hk => by cases hk; exact Nat.le_of_ble_eq_true hd) ?_ ?_, e1, e2, ?_, hJ⟩
 ·unfold wantA; simp only [hj, Option.bind_some, hv, hb]
 ·rw [← updT_cons]; exact hrun
 ·rcases hord with h0 | h0
  ·exact .inl h0
  ·right; rw [← h0, List.map_cons, List.append_assoc]; rfl
theorem W.gU {d : Nat} {op : Op} {j t : Nat} {b : Bool} (hd : Nat.blt d N = true) (hj : (ops[j]?).bind (·.dst) = some t) (hv : lk tm t = some .un) (h : W P lend N ops dr cs R (i + 1) os ((d, .un) :: tm) bo nx (ns ++ [⟨[], []⟩])) : W P lend N ops dr cs R i (⟨some d, op, ty, pos, af, some (j, b)⟩ :: os) tm bo nx ns := by
 obtain ⟨call, hcall, rs, lt', lb', tm', bo', hrun, e1, e2, hord, hJ⟩ := h
 refine ⟨call, hcall, ⟨.un, [], []⟩ :: rs, lt', lb', tm', bo', .no (fun k hk => by cases hk; exact Nat.le_of_ble_eq_true hd) ?_ ?_, e1, e2, ?_, hJ⟩
 ·unfold wantA; simp only [hj, Option.bind_some, hv]
 ·rw [← updT_cons]; exact hrun
 ·rcases hord with h0 | h0
  ·exact .inl h0
  ·right; rw [← h0, List.map_cons, List.append_assoc]; rfl
theorem lk_same {tm : List (Nat × AV)} {t : Nat} {av : AV} (h : lk tm t = some av) : lk ((t, av) :: tm) = lk tm := by
 funext q
 show (if q = t then some av else lk tm q) = lk tm q
 by_cases e : q = t
 ·subst e; rw [if_pos rfl, h]
 ·rw [if_neg e]
theorem W.congr {tm tm2 : List (Nat × AV)} (e : lk tm = lk tm2) (h : W P lend N ops dr cs R i os tm2 bo nx ns) : W P lend N ops dr cs R i os tm bo nx ns := by
 obtain ⟨h⟩ := h; exact ⟨by rw [e]; exact h⟩
theorem W.test {t : Nat} {p : Prop} {dp : Decidable p} (hv : lk tm t = some (.one false [.d (.v (.bool (decide p)))])) (ht : p → W P lend N ops dr cs R i os ((t, .one false [.d (.v (.bool true))]) :: tm) bo nx ns) (hf : ¬ p → W P lend N ops dr cs R i os ((t, .one false [.d (.v (.bool false))]) :: tm) bo nx ns) : W P lend N ops dr cs R i os tm bo nx ns := by
 by_cases h : p
 ·refine W.congr (tm2 := (t, .one false [.d (.v (.bool true))]) :: tm) ?_ (ht h)
  rw [decide_eq_true h] at hv
  exact (lk_same hv).symm
 ·refine W.congr (tm2 := (t, .one false [.d (.v (.bool false))]) :: tm) ?_ (hf h)
  rw [decide_eq_false h] at hv
  exact (lk_same hv).symm
theorem W.testB {t : Nat} {b : Bool} (hv : lk tm t = some (.one false [.d (.v (.bool b))])) (ht : b = true → W P lend N ops dr cs R i os ((t, .one false [.d (.v (.bool true))]) :: tm) bo nx ns) (hf : b = false → W P lend N ops dr cs R i os ((t, .one false [.d (.v (.bool false))]) :: tm) bo nx ns) : W P lend N ops dr cs R i os tm bo nx ns := by
 cases b with
 | true => exact W.congr (lk_same hv).symm (ht rfl)
 | false => exact W.congr (lk_same hv).symm (hf rfl)
theorem W.gS {dst : Option Nat} {op : Op} {j t : Nat} {b : Bool} {p : Prop} {dp : Decidable p} (hj : (ops[j]?).bind (·.dst) = some t) (hv : lk tm t = some (.one false [.d (.v (.bool (decide p)))])) (ht : p → W P lend N ops dr cs R i (⟨dst, op, ty, pos, af, some (j, b)⟩ :: os) ((t, .one false [.d (.v (.bool true))]) :: tm) bo nx ns) (hf : ¬ p → W P lend N ops dr cs R i (⟨dst, op, ty, pos, af, some (j, b)⟩ :: os) ((t, .one false [.d (.v (.bool false))]) :: tm) bo nx ns) : W P lend N ops dr cs R i (⟨dst, op, ty, pos, af, some (j, b)⟩ :: os) tm bo nx ns := W.test hv ht hf
theorem W.gSB {dst : Option Nat} {op : Op} {j t : Nat} {b c : Bool} (hj : (ops[j]?).bind (·.dst) = some t) (hv : lk tm t = some (.one false [.d (.v (.bool c))])) (ht : c = true → W P lend N ops dr cs R i (⟨dst, op, ty, pos, af, some (j, b)⟩ :: os) ((t, .one false [.d (.v (.bool true))]) :: tm) bo nx ns) (hf : c = false → W P lend N ops dr cs R i (⟨dst, op, ty, pos, af, some (j, b)⟩ :: os) ((t, .one false [.d (.v (.bool false))]) :: tm) bo nx ns) : W P lend N ops dr cs R i (⟨dst, op, ty, pos, af, some (j, b)⟩ :: os) tm bo nx ns := W.testB hv ht hf
theorem JL.condN {st : St} {c : Operand} {x y : Code} {p : Prop} {dp : Decidable (¬ p)} (hc : ev (lk st.tm) c = some (.one false [.d (.v (.bool (decide (¬ p))))])) (ht : ¬ p → JL P N (x :: cs) st R) (hf : p → JL P N (y :: cs) st R) : JL P N (.cond c x y :: cs) st R :=
 JL.cond hc (fun h => ht (of_decide_eq_true h)) (fun h => hf (Classical.not_not.1 (of_decide_eq_false h)))
theorem W.gSN {dst : Option Nat} {op : Op} {j t : Nat} {b : Bool} {p : Prop} {dp : Decidable (¬ p)} (hj : (ops[j]?).bind (·.dst) = some t) (hv : lk tm t = some (.one false [.d (.v (.bool (decide (¬ p))))])) (ht : ¬ p → W P lend N ops dr cs R i (⟨dst, op, ty, pos, af, some (j, b)⟩ :: os) ((t, .one false [.d (.v (.bool true))]) :: tm) bo nx ns) (hf : p → W P lend N ops dr cs R i (⟨dst, op, ty, pos, af, some (j, b)⟩ :: os) ((t, .one false [.d (.v (.bool false))]) :: tm) bo nx ns) : W P lend N ops dr cs R i (⟨dst, op, ty, pos, af, some (j, b)⟩ :: os) tm bo nx ns := W.test hv ht (fun h => hf (Classical.not_not.1 h))
theorem K_mv {x : Operand} (h : W P lend N ops dr cs R i (⟨some d, .move x, ty, pos, af, none⟩ :: os) tm bo nx ns) : W P lend N ops dr cs R i (⟨some d, .move x, ty, pos, af, none⟩ :: os) tm bo nx ns := h
theorem K_as {x : Operand} (h : W P lend N ops dr cs R i (⟨some d, .assign x, ty, pos, af, none⟩ :: os) tm bo nx ns) : W P lend N ops dr cs R i (⟨some d, .assign x, ty, pos, af, none⟩ :: os) tm bo nx ns := h
theorem K_pk {c x y : Operand} (h : W P lend N ops dr cs R i (⟨some d, .pick c x y, ty, pos, af, none⟩ :: os) tm bo nx ns) : W P lend N ops dr cs R i (⟨some d, .pick c x y, ty, pos, af, none⟩ :: os) tm bo nx ns := h
theorem K_al (t : TypeId) (h : W P lend N ops dr cs R i (⟨some d, .alloc t, ty, pos, af, none⟩ :: os) tm bo nx ns) : W P lend N ops dr cs R i (⟨some d, .alloc t, ty, pos, af, none⟩ :: os) tm bo nx ns := h
theorem K_bx (t : TypeId) {x : Operand} (h : W P lend N ops dr cs R i (⟨some d, .box t x, ty, pos, af, none⟩ :: os) tm bo nx ns) : W P lend N ops dr cs R i (⟨some d, .box t x, ty, pos, af, none⟩ :: os) tm bo nx ns := h
theorem K_nc {x : Operand} (h : W P lend N ops dr cs R i (⟨some d, .nilCheck x, ty, pos, af, none⟩ :: os) tm bo nx ns) : W P lend N ops dr cs R i (⟨some d, .nilCheck x, ty, pos, af, none⟩ :: os) tm bo nx ns := h
theorem K_fa (s : TypeId) (f : Nat) {x : Operand} (h : W P lend N ops dr cs R i (⟨some d, .fieldAddr s x f, ty, pos, af, none⟩ :: os) tm bo nx ns) : W P lend N ops dr cs R i (⟨some d, .fieldAddr s x f, ty, pos, af, none⟩ :: os) tm bo nx ns := h
theorem K_ld (t : TypeId) {x : Operand} (h : W P lend N ops dr cs R i (⟨some d, .load t x, ty, pos, af, none⟩ :: os) tm bo nx ns) : W P lend N ops dr cs R i (⟨some d, .load t x, ty, pos, af, none⟩ :: os) tm bo nx ns := h
theorem K_st (t : TypeId) {x y : Operand} (h : W P lend N ops dr cs R i (⟨none, .store t x y, ty, pos, af, none⟩ :: os) tm bo nx ns) : W P lend N ops dr cs R i (⟨none, .store t x y, ty, pos, af, none⟩ :: os) tm bo nx ns := h
theorem K_ix (t : TypeId) {x y : Operand} (h : W P lend N ops dr cs R i (⟨some d, .indexAddr t x y, ty, pos, af, none⟩ :: os) tm bo nx ns) : W P lend N ops dr cs R i (⟨some d, .indexAddr t x y, ty, pos, af, none⟩ :: os) tm bo nx ns := h
theorem K_ex {x : Operand} {j : Nat} (h : W P lend N ops dr cs R i (⟨some d, .extract x j, ty, pos, af, none⟩ :: os) tm bo nx ns) : W P lend N ops dr cs R i (⟨some d, .extract x j, ty, pos, af, none⟩ :: os) tm bo nx ns := h
theorem K_bd (t : TypeId) {ps : Array (Nat × Operand)} (h : W P lend N ops dr cs R i (⟨some d, .build t ps, ty, pos, af, none⟩ :: os) tm bo nx ns) : W P lend N ops dr cs R i (⟨some d, .build t ps, ty, pos, af, none⟩ :: os) tm bo nx ns := h
theorem K_bs (t : TypeId) {n : Nat} {ps : Array (Nat × Operand)} (h : W P lend N ops dr cs R i (⟨some d, .buildSlice t n ps, ty, pos, af, none⟩ :: os) tm bo nx ns) : W P lend N ops dr cs R i (⟨some d, .buildSlice t n ps, ty, pos, af, none⟩ :: os) tm bo nx ns := h
theorem K_mk (t : TypeId) {x y : Operand} (h : W P lend N ops dr cs R i (⟨some d, .makeSlice t x y, ty, pos, af, none⟩ :: os) tm bo nx ns) : W P lend N ops dr cs R i (⟨some d, .makeSlice t x y, ty, pos, af, none⟩ :: os) tm bo nx ns := h
theorem K_sl (t : TypeId) {x : Operand} {l u m : Option Operand} (h : W P lend N ops dr cs R i (⟨some d, .slice t x l u m, ty, pos, af, none⟩ :: os) tm bo nx ns) : W P lend N ops dr cs R i (⟨some d, .slice t x l u m, ty, pos, af, none⟩ :: os) tm bo nx ns := h
theorem K_bn (op : BinOp) (t : TypeId) {x y : Operand} {t2 : TypeId} (h : W P lend N ops dr cs R i (⟨some d, .binOp op t x y t2, ty, pos, af, none⟩ :: os) tm bo nx ns) : W P lend N ops dr cs R i (⟨some d, .binOp op t x y t2, ty, pos, af, none⟩ :: os) tm bo nx ns := h
theorem K_un (op : UnOp) {t : TypeId} {x : Operand} (h : W P lend N ops dr cs R i (⟨some d, .unOp op t x, ty, pos, af, none⟩ :: os) tm bo nx ns) : W P lend N ops dr cs R i (⟨some d, .unOp op t x, ty, pos, af, none⟩ :: os) tm bo nx ns := h
theorem K_cv (s t : TypeId) {x : Operand} (h : W P lend N ops dr cs R i (⟨some d, .convert s t x, ty, pos, af, none⟩ :: os) tm bo nx ns) : W P lend N ops dr cs R i (⟨some d, .convert s t x, ty, pos, af, none⟩ :: os) tm bo nx ns := h
theorem K_bu (b : Builtin) (t : TypeId) {xs : Array Operand} {ts : List TypeId} (h : W P lend N ops dr cs R i (⟨some d, .call ⟨.builtin b, xs, List.toArray (t :: ts)⟩, ty, pos, af, none⟩ :: os) tm bo nx ns) : W P lend N ops dr cs R i (⟨some d, .call ⟨.builtin b, xs, List.toArray (t :: ts)⟩, ty, pos, af, none⟩ :: os) tm bo nx ns := h
theorem K_ca (g : FuncId) {xs : Array Operand} {ts : Array TypeId} (h : W P lend N ops dr cs R i (⟨some d, .call ⟨.value (.func g), xs, ts⟩, ty, pos, af, none⟩ :: os) tm bo nx ns) : W P lend N ops dr cs R i (⟨some d, .call ⟨.value (.func g), xs, ts⟩, ty, pos, af, none⟩ :: os) tm bo nx ns := h
theorem K_g {dst : Option Nat} {op : Op} {g : Nat × Bool} (h : W P lend N ops dr cs R i (⟨dst, op, ty, pos, af, some g⟩ :: os) tm bo nx ns) : W P lend N ops dr cs R i (⟨dst, op, ty, pos, af, some g⟩ :: os) tm bo nx ns := h
theorem K_nl (h : W P lend N ops dr cs R i [] tm bo nx ns) : W P lend N ops dr cs R i [] tm bo nx ns := h
theorem C_at {st : St} {c : Operand} {x y : Code} (h : JL P N (.cond c x y :: cs) st R) : JL P N (.cond c x y :: cs) st R := h
theorem W_at (h : W P lend N ops dr cs R i os tm bo nx ns) : W P lend N ops dr cs R i os tm bo nx ns := h
theorem JL.condP {st : St} {c : Operand} {x y : Code} {p : Prop} {dp : Decidable p} (hc : ev (lk st.tm) c = some (.one false [.d (.v (.bool (decide p)))])) (ht : p → JL P N (x :: cs) st R) (hf : ¬ p → JL P N (y :: cs) st R) : JL P N (.cond c x y :: cs) st R :=
 JL.cond hc (fun h => ht (of_decide_eq_true h)) (fun h => hf (of_decide_eq_false h))
end
end Go.Proofs.YtjpdemikmdfonaaGreatDoor

namespace Go.Proofs.YtjpdemikmdfonaaGreatDoor
open Go Go.RowKit
set_option linter.unusedSimpArgs false
set_option linter.unusedVariables false
def bsRows (sz len : Nat) (zs : List C) (ps : List (Nat × List C)) : Option (List (List D)) := ((afill (fun i => some (i * sz, sz)) (List.replicate len zs).flatten ps).bind allD).map (chunks sz len)
theorem evParts_only {o : Oper} {lt : Nat → Option AV} : ∀ {ps : List (Nat × Operand)}, (∀ x, x ∈ ps.map (·.2) → x ∈ o.op.operands.toList) → evParts (onlyT o lt) ps = evParts lt ps
 | [], _ => rfl
 | (j, x) :: r, h => by
  unfold evParts
  rw [ev_only (h x (by simp)), evParts_only (ps := r) fun y hy => h y (by simp at hy ⊢; exact .inr hy)]
theorem afill_le {f g : Nat → Option (Nat × Nat)} (hfg : ∀ i x, f i = some x → g i = some x) : ∀ {ps : List (Nat × List C)} {cs cs' : List C}, afill f cs ps = some cs' → afill g cs ps = some cs'
 | [], cs, cs', h => h
 | (i, x) :: r, cs, cs', h => by
  unfold afill at h ⊢
  cases h1 : f i with
  | none => rw [h1] at h; cases h
  | some y =>
   rw [h1] at h
   rw [hfg i y h1]
   simp only at h ⊢
   split at h
   ·rename_i hc
    rw [if_pos hc]
    exact afill_le hfg h
   ·cases h
section
variable {P : Program} {lend : FuncId → Bool} {N : Nat} {ops : Array Oper} {dr : Bool} {cs : List Code} {R : AX → St → Prop}
variable {i : Nat} {os : List Oper} {tm : List (Nat × AV)} {bo : BO} {nx : Nat} {ns : List Note} {d : Nat} {pos : String} {ty : TypeId} {af : Array Edge}
theorem W.build {t : TypeId} {parts : Array (Nat × Operand)} {zs cs2 : List C} {places : List (Nat × Nat)} {ps : List (Nat × List C)} (hd : Nat.blt d N = true) (hb : PlI P t zs places) (hp : evParts (lk tm) parts.toList = some ps) (hf : afill (places.toArray[·]?) zs ps = some cs2)
    (h : W P lend N ops dr cs R (i + 1) os ((d, .one true cs2) :: tm) bo nx (ns ++ [⟨opKeys (lk tm) (lko bo) ⟨some d, .build t parts, ty, pos, af, none⟩, []⟩])) : W P lend N ops dr cs R i (⟨some d, .build t parts, ty, pos, af, none⟩ :: os) tm bo nx ns := by
 refine W.val hd ?_ h
 simp only [effOf]
 rw [evParts_only (fun x hx => by simpa [Op.operands] using hx), hp]
 obtain ⟨hb⟩ := hb
 unfold plI at hb
 unfold aBuilt
 split at hb
 ·rename_i it fields h1 h2
  rw [h1, h2]
  split at hb
  ·rename_i z pl h3 h4
   obtain ⟨zs', h5, h6⟩ := Option.map_eq_some_iff.1 hb
   cases h6
   simp only [Option.bind_some, h3, h4, h5, hf, Option.map_some]
  ·cases hb
 ·rename_i it n e h1 h2
  rw [h1, h2]
  split at hb
  ·rename_i z ie h3 h4
   obtain ⟨zs', h5, h6⟩ := Option.map_eq_some_iff.1 hb
   cases h6
   have hf' := afill_le (g := fun i => some (i * ie.size, ie.size)) (fun i x hx => by
    simp only [List.getElem?_toArray, List.getElem?_map, Option.map_eq_some_iff] at hx
    obtain ⟨j, hj, rfl⟩ := hx
    obtain ⟨hj1, rfl⟩ := List.getElem?_eq_some_iff.1 hj
    simp) hf
   simp only [Option.bind_some, h3, h4, h5, hf', Option.map_some]
  ·cases hb
 ·cases hb
theorem W.bs {t : TypeId} {len : Nat} {parts : Array (Nat × Operand)} {e : TypeId} {sz bytes : Nat} {zs : List C} {ps : List (Nat × List C)} {rows : List (List D)} (k : Nat) (hd : Nat.blt d N = true) (hk : i * 64 = k) (he : EfI P t e sz bytes zs) (hl : Nat.ble (len * sz) 16777216 = true) (hp : evParts (lk tm) parts.toList = some ps) (hr : bsRows sz len zs ps = some rows)
    (h : W P lend N ops dr cs R (i + 1) os ((d, .one false [.own (k, nx)]) :: tm) (((k, nx), some (.sl e sz rows)) :: bo) nx (ns ++ [⟨opKeys (lk tm) (lko bo) ⟨some d, .buildSlice t len parts, ty, pos, af, none⟩, [(k, nx)]⟩])) : W P lend N ops dr cs R i (⟨some d, .buildSlice t len parts, ty, pos, af, none⟩ :: os) tm bo nx ns := by
 subst hk
 obtain ⟨h1, ie, z, h2, h3, h4, h5, h6, h7, h8⟩ := elF_some he
 refine W.up (up := [((i * 64, nx), some (.sl e sz rows))]) hd ?_ h
 simp only [effOf]
 unfold effBuildSlice
 unfold bsRows at hr
 obtain ⟨ds, h9, h10⟩ := Option.map_eq_some_iff.1 hr
 obtain ⟨cs2, h11, h12⟩ := Option.bind_eq_some_iff.1 h9
 rw [evParts_only (fun x hx => by simpa [Op.operands] using hx), hp]
 have hle := Nat.le_of_ble_eq_true hl
 simp only [h1, h2, h3, h8, h6]
 rw [if_pos ⟨hle, by rw [h4, h6], by omega⟩]
 simp only [h11, allD_toDs _ h12, h10, keyAt_0, shut, List.filter_nil, List.filterMap_nil]
theorem lookRows_only {o : Oper} {lt : Nat → Option AV} {lb : Key → Option Box} {x : Operand} {c : C} {sz : Nat} {rows : List (List D)} (hl : looks o.op = true) (hm : x ∈ o.op.operands.toList) (hx : (ev lt x).bind slot1 = some c) (hr : lookRows lb sz c = some rows) : lookRows (onlyB (opKeys lt lb o) lb) sz c = some rows := by
 cases c with
 | own q =>
  simp only [lookRows, rowsOf] at hr ⊢
  rw [own_only hl hm hx (List.mem_singleton.2 rfl : q ∈ keysC (.own q))]
  exact hr
 | d y => cases y <;> exact hr
 | zero => exact hr
 | arr q n z =>
  simp only [lookRows] at hr ⊢
  rw [own_only hl hm hx (List.mem_singleton.2 rfl : q ∈ keysC (.arr q n z))]
  exact hr
 | _ => cases hr
theorem isSliceT_some {t : TypeId} (h : IsI P t) : ∃ e, P.underlying t = some (.slice e) := by
 obtain ⟨h⟩ := h
 unfold isSliceT at h
 split at h
 ·rename_i e he; exact ⟨e, he⟩
 ·cases h
theorem effAppend_of0 {P : Program} {key : Nat → Key} {t tx : TypeId} {s x : Operand} {lt : Nat → Option AV} {lb : Key → Option Box} {e : Eff} (h : effAppend0 P key t tx s x lt lb = some e) : effAppend P key t tx s x lt lb = some e := by unfold effAppend; rw [h]
theorem W.appZ {t tx e : TypeId} {s x : Operand} {cx : C} {sz bytes : Nat} {zs : List C} {rows : List (List D)} (k : Nat) (hd : Nat.blt d N = true) (hk : i * 64 = k) (he : EfI P t e sz bytes zs) (htx : IsI P tx) (hs : (ev (lk tm) s).bind slot1 = some .zero) (hx : (ev (lk tm) x).bind slot1 = some cx) (hr : lookRows (lko bo) sz cx = some rows) (hb : rows.length * bytes ≤ 140737488355328 ∧ rows.length ≤ 4611686018427387904) {rows' : List (List D)} (hr2 : rows = rows')
    (h : W P lend N ops dr cs R (i + 1) os ((d, .one false [.own (k, nx)]) :: tm) (((k, nx), some (.sl e sz rows')) :: bo) nx (ns ++ [⟨opKeys (lk tm) (lko bo) ⟨some d, .call ⟨.builtin .append, #[s, x], #[t, tx]⟩, ty, pos, af, none⟩, [(k, nx)]⟩])) : W P lend N ops dr cs R i (⟨some d, .call ⟨.builtin .append, #[s, x], #[t, tx]⟩, ty, pos, af, none⟩ :: os) tm bo nx ns := by
 subst hk hr2
 obtain ⟨h1, ie, z, h2, h3, h4, h5, h6, h7, h8⟩ := elF_some he
 obtain ⟨e2, hx2⟩ := isSliceT_some htx
 refine W.up (up := [((i * 64, nx), some (.sl e sz rows))]) hd ?_ h
 simp only [effOf]
 refine effAppend_of0 ?_
 unfold effAppend0
 rw [ev_only (x := s) (by simp [Op.operands, Call.operands]), hs, ev_only (x := x) (by simp [Op.operands, Call.operands]), hx]
 simp only [h1, hx2, h2, h3]
 rw [if_pos ⟨h4, h5⟩]
 subst h6 h7
 rw [lookRows_only (by rfl) (by simp [Op.operands, Call.operands]) hx hr]
 simp only [if_pos hb, keyAt_0]
theorem W.appO {t tx e : TypeId} {s x : Operand} {cx : C} {q : Key} {sz bytes : Nat} {zs : List C} {olds rows : List (List D)} (k : Nat) (hd : Nat.blt d N = true) (hk : i * 64 = k) (he : EfI P t e sz bytes zs) (htx : IsI P tx) (hs : (ev (lk tm) s).bind slot1 = some (.own q)) (hq : lko bo q = some (.sl e sz olds)) (hx : (ev (lk tm) x).bind slot1 = some cx) (hr : lookRows (lko bo) sz cx = some rows) (hb : (olds.length + rows.length) * bytes ≤ 140737488355328 ∧ olds.length + rows.length ≤ 4611686018427387904) {rows' : List (List D)} (hr2 : olds ++ rows = rows')
    (h : W P lend N ops dr cs R (i + 1) os ((d, .one false [.own (k, nx)]) :: tm) (((k, nx), some (.sl e sz rows')) :: (q, none) :: bo) nx (ns ++ [⟨opKeys (lk tm) (lko bo) ⟨some d, .call ⟨.builtin .append, #[s, x], #[t, tx]⟩, ty, pos, af, none⟩, [(k, nx), q]⟩])) : W P lend N ops dr cs R i (⟨some d, .call ⟨.builtin .append, #[s, x], #[t, tx]⟩, ty, pos, af, none⟩ :: os) tm bo nx ns := by
 subst hk hr2
 obtain ⟨h1, ie, z, h2, h3, h4, h5, h6, h7, h8⟩ := elF_some he
 obtain ⟨e2, hx2⟩ := isSliceT_some htx
 refine W.up (up := [((i * 64, nx), some (.sl e sz (olds ++ rows))), (q, none)]) hd ?_ h
 simp only [effOf]
 refine effAppend_of0 ?_
 unfold effAppend0
 rw [ev_only (x := s) (by simp [Op.operands, Call.operands]), hs, ev_only (x := x) (by simp [Op.operands, Call.operands]), hx]
 simp only [h1, hx2, h2, h3]
 rw [if_pos ⟨h4, h5⟩]
 subst h6 h7
 rw [lookRows_only (by rfl) (by simp [Op.operands, Call.operands]) hx hr]
 simp only []
 rw [own_only (by rfl) (by simp [Op.operands, Call.operands]) hs (List.mem_singleton.2 rfl : q ∈ keysC (.own q)), hq]
 simp only [true_and, if_pos hb, keyAt_0]
theorem W.store {t : TypeId} {x y : Operand} {q : Key} {off sz : Nat} {ty0 : TypeId} {vs cs1 cs2 : List C} (hs : SzI P t sz) (hx : (ev (lk tm) x).bind slot1 = some (.ptr q off)) (hy : (ev (lk tm) y).bind cellsOfAV = some vs) (hb : lko bo q = some (.st ty0 cs1)) (hu : putC off sz vs cs1 = some cs2)
    (h : W P lend N ops dr cs R (i + 1) os tm ((q, some (.st ty0 cs2)) :: bo) nx (ns ++ [⟨opKeys (lk tm) (lko bo) ⟨none, .store t x y, ty, pos, af, none⟩, [q]⟩])) : W P lend N ops dr cs R i (⟨none, .store t x y, ty, pos, af, none⟩ :: os) tm bo nx ns := by
 obtain ⟨hs⟩ := hs
 obtain ⟨h1, h2⟩ := putC_some hu
 refine W.up0 (av := .un) (up := [(q, some (.st ty0 cs2))]) ?_ h
 simp only [effOf]
 unfold effStore
 rw [ev_only (x := x) (by simp [Op.operands]), hx, ev_only (x := y) (by simp [Op.operands]), hy, hs]
 simp only []
 rw [own_only (by rfl) (by simp [Op.operands]) hx (List.mem_singleton.2 rfl : q ∈ keysC (.ptr q off)), hb]
 simp only [if_pos h1, h2]
theorem W.storeE {t : TypeId} {x y : Operand} {q : Key} {j off sz s : Nat} {ty0 : TypeId} {vs : List C} {ds row : List D} {rows rows' : List (List D)} (hs : SzI P t sz) (hx : (ev (lk tm) x).bind slot1 = some (.eptr q j off)) (hy : (ev (lk tm) y).bind cellsOfAV = some vs) (hb : lko bo q = some (.sl ty0 s rows)) (hr : rows[j]? = some row) (hv : allD vs = some ds) (hl : vs.length = sz ∧ off + sz ≤ row.length) (hu : rows.set j (row.take off ++ (ds ++ row.drop (off + sz))) = rows')
    (h : W P lend N ops dr cs R (i + 1) os tm ((q, some (.sl ty0 s rows')) :: bo) nx (ns ++ [⟨opKeys (lk tm) (lko bo) ⟨none, .store t x y, ty, pos, af, none⟩, [q]⟩])) : W P lend N ops dr cs R i (⟨none, .store t x y, ty, pos, af, none⟩ :: os) tm bo nx ns := by
 subst hu
 obtain ⟨hs⟩ := hs
 refine W.up0 (av := .un) (up := [(q, some (.sl ty0 s (rows.set j (row.take off ++ (ds ++ row.drop (off + sz))))))]) ?_ h
 simp only [effOf]
 unfold effStore
 rw [ev_only (x := x) (by simp [Op.operands]), hx, ev_only (x := y) (by simp [Op.operands]), hy, hs]
 simp only []
 rw [own_only (by rfl) (by simp [Op.operands]) hx (List.mem_singleton.2 rfl : q ∈ keysC (.eptr q j off)), hb]
 simp only [hr, allD_toDs _ hv]
 rw [if_pos ⟨hl.1, hl.2, by simp⟩]
 simp [shut]
theorem bound_only {o : Oper} {lt : Nat → Option AV} {dflt : Int} {l : Option Operand} (hm : ∀ x, l = some x → x ∈ o.op.operands.toList) : bound (onlyT o lt) dflt l = bound lt dflt l := by
 cases l with
 | none => rfl
 | some x => show intV (ev (onlyT o lt) x) = intV (ev lt x); rw [ev_only (hm x rfl)]
theorem W.slice {t : TypeId} {x : Operand} {lo hi : Option Operand} {sz : Nat} {rows rows' : List (List D)} {l u : Int} (hd : Nat.blt d N = true) (he : ElI P t sz) (hx : (ev (lk tm) x).bind slot1 = some (.d (.sl sz rows))) (hl : bound (lk tm) 0 lo = some l) (hu : bound (lk tm) rows.length hi = some u) (hb : 0 ≤ l ∧ l ≤ u ∧ u ≤ rows.length) (hr : (rows.drop l.toNat).take (u.toNat - l.toNat) = rows')
    (h : W P lend N ops dr cs R (i + 1) os ((d, .one false [.d (.sl sz rows')]) :: tm) bo nx (ns ++ [⟨opKeys (lk tm) (lko bo) ⟨some d, .slice t x lo hi none, ty, pos, af, none⟩, []⟩])) : W P lend N ops dr cs R i (⟨some d, .slice t x lo hi none, ty, pos, af, none⟩ :: os) tm bo nx ns := by
 subst hr
 obtain ⟨e, h1, h2⟩ := elI_some he
 refine W.val hd ?_ h
 simp only [effOf]
 unfold effSlice
 rw [ev_only (x := x) (by simp [Op.operands]), hx, h1]
 simp only []
 rw [bound_only (l := lo) (fun y hy => by subst hy; simp [Op.operands]), bound_only (l := hi) (fun y hy => by subst hy; simp [Op.operands]), hl, hu]
 simp only [h2, true_and, if_pos hb]
theorem W.make {t : TypeId} {l c : Operand} {e : TypeId} {sz bytes : Nat} {zs : List C} {row : List D} {n : Int} {rows : List (List D)} (k : Nat) (hd : Nat.blt d N = true) (hk : i * 64 = k) (he : EfI P t e sz bytes zs) (hns : NsI P e) (hz : allD zs = some row) (hl : intV (ev (lk tm) l) = some n) (hc : intV (ev (lk tm) c) = some n) (hb : 0 ≤ n ∧ n * bytes ≤ 140737488355328 ∧ n ≤ 4611686018427387904) (hr : List.replicate n.toNat row = rows)
    (h : W P lend N ops dr cs R (i + 1) os ((d, .one false [.own (k, nx)]) :: tm) (((k, nx), some (.sl e sz rows)) :: bo) nx (ns ++ [⟨opKeys (lk tm) (lko bo) ⟨some d, .makeSlice t l c, ty, pos, af, none⟩, [(k, nx)]⟩])) : W P lend N ops dr cs R i (⟨some d, .makeSlice t l c, ty, pos, af, none⟩ :: os) tm bo nx ns := by
 subst hk hr
 obtain ⟨hns⟩ := hns
 obtain ⟨h1, ie, z, h2, h3, h4, h5, h6, h7, h8⟩ := elF_some he
 refine W.up (up := [((i * 64, nx), some (.sl e sz (List.replicate n.toNat row)))]) hd ?_ h
 simp only [effOf]
 unfold effMakeSlice
 rw [ev_only (x := l) (by simp [Op.operands]), hl, ev_only (x := c) (by simp [Op.operands]), hc, h1]
 simp only [h2, h3]
 subst h6 h7
 rw [if_pos ⟨Int.le_refl _, hb.1, hb.2.1, hb.2.2, h4, h5⟩]
 simp only [hns, Bool.false_eq_true, if_false, h8, Option.bind_some, allD_toDs _ hz, keyAt_0]
def argsV (lt : Nat → Option AV) (lb : Key → Option Box) (lend : Bool) (xs : List Operand) : Option (List Arg × List Key) := (argsOf lt lb lend xs).map fun x => (x.1.map fun y => .val y.1 y.2, x.2)
def valsAV : List (Bool × List C) → AV
 | [(b, cs)] => .one b cs
 | xs => .tup xs
theorem renC_same : ∀ c : C, renC (fun q => q) c = c := by
 intro c
 cases c with
 | fn g caps =>
  simp only [renC]
  congr 1
  have : capRen (fun q => q) = id := by funext c; cases c <;> rfl
  rw [this, List.map_id]
 | _ => rfl
theorem resAV_vals (vs : List (Bool × List C)) : resAV (fun q => q) vs = valsAV vs := by
 have h : ∀ cs : List C, cs.map (renC fun q => q) = cs := fun cs => by
  have : renC (fun q => q) = id := funext renC_same
  rw [this, List.map_id]
 match vs with
 | [] => rfl
 | [(b, cs)] => simp [resAV, valsAV, h]
 | x :: y :: r =>
  simp only [resAV, valsAV, h]
  congr 1
  have : (fun (z : Bool × List C) => (z.1, z.2)) = id := by funext z; cases z; rfl
  simp
noncomputable def oneCall (g : FuncId) (xa : List Arg) (r : ARes) : CallF := fun f a b => open Classical in if f = g ∧ a = xa ∧ b = [] then some r else none
theorem oneCall_ok {g : FuncId} {xa : List Arg} {r : ARes} (h : FnSound P g xa [] r) : CallOk P (oneCall g xa r) := by
 intro f a b r' he
 unfold oneCall at he
 split at he
 ·rename_i hc
  obtain ⟨rfl, rfl, rfl⟩ := hc
  cases he
  exact h
 ·cases he
def resOk (r : ARes) (l : Bool) : Bool := r.ios.isEmpty && r.bx.isEmpty && (!l || r.vals.all fun x => x.2.all scalC)
theorem W.call {g : FuncId} {args : Array Operand} {tyq : Array TypeId} {xa : List Arg} {ks : List Key} {r : ARes} {sh : BO} {av : AV} (hd : Nat.blt d N = true) (hbod : BoI P g) (hK : FnSound P g xa [] r)
    (ha : argsV (onlyT ⟨some d, .call ⟨.value (.func g), args, tyq⟩, ty, pos, af, none⟩ (lk tm)) (onlyB (opKeys (lk tm) (lko bo) ⟨some d, .call ⟨.value (.func g), args, tyq⟩, ty, pos, af, none⟩) (lko bo)) (lend g) args.toList = some (xa, ks))
    (hks : (ks.filter (·.2 != nx)) = []) (hsh : shut nx (onlyB (opKeys (lk tm) (lko bo) ⟨some d, .call ⟨.value (.func g), args, tyq⟩, ty, pos, af, none⟩) (lko bo)) ks = sh) (hr : resOk r (lend g) = true) (hcl : r.closed = true) (hav : valsAV r.vals = av)
    (h : W P lend N ops dr cs R (i + 1) os ((d, av) :: tm) (sh ++ bo) nx (ns ++ [⟨opKeys (lk tm) (lko bo) ⟨some d, .call ⟨.value (.func g), args, tyq⟩, ty, pos, af, none⟩, sh.map (·.1)⟩])) : W P lend N ops dr cs R i (⟨some d, .call ⟨.value (.func g), args, tyq⟩, ty, pos, af, none⟩ :: os) tm bo nx ns := by
 subst hsh hav
 obtain ⟨hbod⟩ := hbod
 refine W.eff (call := oneCall g xa r) (oneCall_ok hK) rfl (fun k hk => by cases hk; exact Nat.le_of_ble_eq_true hd) ?_ (updT_cons _ _ _) (lko_app _ _) h
 simp only [effOf]
 unfold effCall effCall0
 simp only [calleeOf, ev, Array.isEmpty_empty, Bool.and_self, if_true, hbod]
 unfold argsV at ha
 obtain ⟨⟨xs, ks'⟩, h1, h2⟩ := Option.map_eq_some_iff.1 ha
 cases h2
 simp only [List.isEmpty_nil, Bool.not_true, Bool.or_false, h1, argVals, List.map_nil, List.append_nil]
 unfold effVal
 obtain ⟨vals, ios, bx, kp⟩ := r
 simp only [resOk, Bool.and_eq_true, Bool.or_eq_true, Bool.not_eq_true', List.isEmpty_iff] at hr
 obtain ⟨⟨rfl, rfl⟩, h4⟩ := hr
 have h5 : oneCall g (List.map (fun y => Arg.val y.1 y.2) xs) { vals := vals, kp := kp } g (List.map (fun x => Arg.val x.1 x.2) xs) [] = some { vals := vals, kp := kp } := by
  unfold oneCall; simp
 have hk : renK (keyAt i nx) [] 0 = fun q => q := by funext q; rfl
 have hsc : lend g = false ∨ ARes.scalars { vals := vals, kp := kp } = true := h4.imp id fun h => by simp only [ARes.scalars, List.isEmpty_nil, Bool.true_and]; exact h
 simp only [h5]
 rw [if_pos ⟨rfl, by simp, hsc, hcl, rfl, rfl⟩]
 simp only [hk, resAV_vals, takeBx, List.nil_append, hks]
theorem W.call0 {g : FuncId} {args : Array Operand} {tyq : Array TypeId} {xa : List Arg} {r : ARes} {av : AV} (hd : Nat.blt d N = true) (hbod : BoI P g) (hK : FnSound P g xa [] r)
    (ha : argsV (onlyT ⟨some d, .call ⟨.value (.func g), args, tyq⟩, ty, pos, af, none⟩ (lk tm)) (onlyB (opKeys (lk tm) (lko bo) ⟨some d, .call ⟨.value (.func g), args, tyq⟩, ty, pos, af, none⟩) (lko bo)) (lend g) args.toList = some (xa, []))
    (hr : resOk r (lend g) = true) (hcl : r.closed = true) (hav : valsAV r.vals = av)
    (h : W P lend N ops dr cs R (i + 1) os ((d, av) :: tm) bo nx (ns ++ [⟨opKeys (lk tm) (lko bo) ⟨some d, .call ⟨.value (.func g), args, tyq⟩, ty, pos, af, none⟩, []⟩])) : W P lend N ops dr cs R i (⟨some d, .call ⟨.value (.func g), args, tyq⟩, ty, pos, af, none⟩ :: os) tm bo nx ns :=
 W.call hd hbod hK ha rfl rfl hr hcl hav h
theorem W.call0A {g : FuncId} {args : Array Operand} {tyq : Array TypeId} {xa : List Arg} {b : Bool} {cr : List C} (hd : Nat.blt d N = true) (hbod : BoI P g) (hK : FnSound P g xa [] { vals := [(b, cr)] })
    (ha : argsV (onlyT ⟨some d, .call ⟨.value (.func g), args, tyq⟩, ty, pos, af, none⟩ (lk tm)) (onlyB (opKeys (lk tm) (lko bo) ⟨some d, .call ⟨.value (.func g), args, tyq⟩, ty, pos, af, none⟩) (lko bo)) (lend g) args.toList = some (xa, []))
    (hr : resOk { vals := [(b, cr)] } (lend g) = true) (hcl : ARes.closed { vals := [(b, cr)] } = true)
    (h : W P lend N ops dr cs R (i + 1) os ((d, .one b cr) :: tm) bo nx (ns ++ [⟨opKeys (lk tm) (lko bo) ⟨some d, .call ⟨.value (.func g), args, tyq⟩, ty, pos, af, none⟩, []⟩])) : W P lend N ops dr cs R i (⟨some d, .call ⟨.value (.func g), args, tyq⟩, ty, pos, af, none⟩ :: os) tm bo nx ns :=
 W.call hd hbod hK ha rfl rfl hr hcl rfl h
theorem W.call1A {g : FuncId} {args : Array Operand} {tyq : Array TypeId} {xa : List Arg} {b : Bool} {cr : List C} {q : Key} {ty0 : TypeId} {sz : Nat} {rows : List (List D)} (hd : Nat.blt d N = true) (hbod : BoI P g) (hK : FnSound P g xa [] { vals := [(b, cr)] })
    (ha : argsV (onlyT ⟨some d, .call ⟨.value (.func g), args, tyq⟩, ty, pos, af, none⟩ (lk tm)) (onlyB (opKeys (lk tm) (lko bo) ⟨some d, .call ⟨.value (.func g), args, tyq⟩, ty, pos, af, none⟩) (lko bo)) (lend g) args.toList = some (xa, [q]))
    (hq : q.2 = nx) (hb : onlyB (opKeys (lk tm) (lko bo) ⟨some d, .call ⟨.value (.func g), args, tyq⟩, ty, pos, af, none⟩) (lko bo) q = some (.sl ty0 sz rows)) (hr : resOk { vals := [(b, cr)] } (lend g) = true) (hcl : ARes.closed { vals := [(b, cr)] } = true)
    (h : W P lend N ops dr cs R (i + 1) os ((d, .one b cr) :: tm) ((q, some (.fz sz rows)) :: bo) nx (ns ++ [⟨opKeys (lk tm) (lko bo) ⟨some d, .call ⟨.value (.func g), args, tyq⟩, ty, pos, af, none⟩, [q]⟩])) : W P lend N ops dr cs R i (⟨some d, .call ⟨.value (.func g), args, tyq⟩, ty, pos, af, none⟩ :: os) tm bo nx ns :=
 W.call (sh := [(q, some (.fz sz rows))]) hd hbod hK ha (by simp [hq]) (by simp [shut, hq, hb]) hr hcl rfl h
theorem W.call0T {g : FuncId} {args : Array Operand} {tyq : Array TypeId} {xa : List Arg} {v1 v2 : Bool × List C} {vr : List (Bool × List C)} (hd : Nat.blt d N = true) (hbod : BoI P g) (hK : FnSound P g xa [] { vals := v1 :: v2 :: vr })
    (ha : argsV (onlyT ⟨some d, .call ⟨.value (.func g), args, tyq⟩, ty, pos, af, none⟩ (lk tm)) (onlyB (opKeys (lk tm) (lko bo) ⟨some d, .call ⟨.value (.func g), args, tyq⟩, ty, pos, af, none⟩) (lko bo)) (lend g) args.toList = some (xa, []))
    (hr : resOk { vals := v1 :: v2 :: vr } (lend g) = true) (hcl : ARes.closed { vals := v1 :: v2 :: vr } = true)
    (h : W P lend N ops dr cs R (i + 1) os ((d, .tup (v1 :: v2 :: vr)) :: tm) bo nx (ns ++ [⟨opKeys (lk tm) (lko bo) ⟨some d, .call ⟨.value (.func g), args, tyq⟩, ty, pos, af, none⟩, []⟩])) : W P lend N ops dr cs R i (⟨some d, .call ⟨.value (.func g), args, tyq⟩, ty, pos, af, none⟩ :: os) tm bo nx ns :=
 W.call hd hbod hK ha rfl rfl hr hcl rfl h
theorem W.call1T {g : FuncId} {args : Array Operand} {tyq : Array TypeId} {xa : List Arg} {v1 v2 : Bool × List C} {vr : List (Bool × List C)} {q : Key} {ty0 : TypeId} {sz : Nat} {rows : List (List D)} (hd : Nat.blt d N = true) (hbod : BoI P g) (hK : FnSound P g xa [] { vals := v1 :: v2 :: vr })
    (ha : argsV (onlyT ⟨some d, .call ⟨.value (.func g), args, tyq⟩, ty, pos, af, none⟩ (lk tm)) (onlyB (opKeys (lk tm) (lko bo) ⟨some d, .call ⟨.value (.func g), args, tyq⟩, ty, pos, af, none⟩) (lko bo)) (lend g) args.toList = some (xa, [q]))
    (hq : q.2 = nx) (hb : onlyB (opKeys (lk tm) (lko bo) ⟨some d, .call ⟨.value (.func g), args, tyq⟩, ty, pos, af, none⟩) (lko bo) q = some (.sl ty0 sz rows)) (hr : resOk { vals := v1 :: v2 :: vr } (lend g) = true) (hcl : ARes.closed { vals := v1 :: v2 :: vr } = true)
    (h : W P lend N ops dr cs R (i + 1) os ((d, .tup (v1 :: v2 :: vr)) :: tm) ((q, some (.fz sz rows)) :: bo) nx (ns ++ [⟨opKeys (lk tm) (lko bo) ⟨some d, .call ⟨.value (.func g), args, tyq⟩, ty, pos, af, none⟩, [q]⟩])) : W P lend N ops dr cs R i (⟨some d, .call ⟨.value (.func g), args, tyq⟩, ty, pos, af, none⟩ :: os) tm bo nx ns :=
 W.call (sh := [(q, some (.fz sz rows))]) hd hbod hK ha (by simp [hq]) (by simp [shut, hq, hb]) hr hcl rfl h
end
end Go.Proofs.YtjpdemikmdfonaaGreatDoor

