/- Rules of runs and contracts of functions, for the claims of one seat. -/
import Derived.Shelf.LaysM
import Derived.Shelf.Strconv.Itoa3
import Derived.Shelf.Strconv.Itoa4
import Derived.Test.YtdpeoolildjohaaGreatDoorProg
import Derived.Test.YtdpeoolildjohaaGreatDoorQA14
import Derived.Test.YtdpeoolildjohaaGreatDoorQA24
import Derived.Test.YtdpeoolildjohaaGreatDoorQA27
import Derived.Test.YtdpeoolildjohaaGreatDoorQA6
import Derived.Test.YtdpeoolildjohaaGreatDoorTA31
namespace Go.Proofs.YtdpeoolildjohaaGreatDoor
open Go Go.RowKit
set_option maxRecDepth 100000
set_option maxHeartbeats 8000000
set_option linter.unusedSimpArgs false
set_option linter.unusedVariables false
theorem pnew_fn (p : Prob) (rs : List Int) (l : List StepD) (hs : setErr p rs = 0) (hc : checkP p l = true) (hl : l.length ≤ 1000000) : FnSound Tryz.prog 13 [.val true (probC p), .val false [.d (.sl 1 (dInts rs))], .val false [.d (.sl 3 (dSteps l))]] [] { vals := [(true, ctlC (newP p rs l).1), (false, [.d (.v (.int .i64 0))])] } := by
 have hso := setErr_ok hs
 have hv := hso.1
 have hvp := vp_all hv
 have hk := pcheck_fn p l hv hl
 rw [hc] at hk
 have hst := psetting_fn p rs (by omega)
 rw [hs] at hst
 have e : (newP p rs l).1 = ⟨l, 0, if l.length = 0 then 6 else 0, 0, 0, 0, startM p⟩ := by unfold newP; rw [if_neg (by simpa using hs), hc, if_neg (by decide)]
 rw [e]
 refine startW (tm := [(0, _), (1, _), (2, _)]) Tryz.func13 rfl Tryz.ntmps13 rfl rfl rfl rfl ?_
 repeat' (first
 |(with_reducible refine K_ca 45 ?_); refine zC (hst) ?_
 |(with_reducible refine K_ca 46 ?_); refine zC (hk) ?_
 |(with_reducible refine K_ca 47 ?_); refine zC (pstart_fn p hv) ?_
 |(with_reducible refine K_ca 15 ?_); refine zS (cloneSteps_fn l hl) ?_
 |refine wA ?_
 |(refine wC ?_ ?_ <;> intro hc)
 |refine wB ?_ ?_
 |(with_reducible refine JL.block ?_)
 |(with_reducible refine F_at ?_); refine eW (vs := [(_, _), (_, _)]) Tryz.results13 ?_; (focus (repeat' (first | exact oA | refine oB ?_ | refine oC ?_ ?_ | fail)))
 |exact oM
 |fail)
 all_goals first | rfl | (rw [if_pos (by omega)] <;> rfl) | (rw [if_neg (by omega)] <;> rfl) | trace_state
end Go.Proofs.YtdpeoolildjohaaGreatDoor

namespace Go.Proofs.YtdpeoolildjohaaGreatDoor
open Go Go.RowKit
set_option linter.unusedSimpArgs false
set_option linter.unusedVariables false
def vEq : Value → Value → Bool
 | .bool a, .bool b => a == b
 | .int k a, .int l b => decide (k = l) && decide (a = b)
 | .string a, .string b => decide (a.data.toList = b.data.toList)
 | _, _ => false
theorem vEq_ok : ∀ {a b : Value}, vEq a b = true → a = b := by
 intro a b h
 unfold vEq at h
 split at h
 ·rw [beq_iff_eq.1 h]
 ·simp only [Bool.and_eq_true, decide_eq_true_eq] at h; rw [h.1, h.2]
 ·rename_i a b
  have h1 := of_decide_eq_true h
  obtain ⟨⟨a⟩⟩ := a
  obtain ⟨⟨b⟩⟩ := b
  simp at h1
  rw [h1]
 ·cases h
mutual
def dEq : D → D → Bool
 | .v x, .v y => vEq x y
 | .sl n r, .sl m s => decide (n = m) && rowsEq r s
 | _, _ => false
def rowsEq : List (List D) → List (List D) → Bool
 | [], [] => true
 | a :: r, b :: s => rowEq a b && rowsEq r s
 | _, _ => false
def rowEq : List D → List D → Bool
 | [], [] => true
 | a :: r, b :: s => dEq a b && rowEq r s
 | _, _ => false
end
mutual
theorem dEq_ok : ∀ (a b : D), dEq a b = true → a = b
 | .v x, .v y, h => by
  have h' : vEq x y = true := by simpa [dEq] using h
  rw [vEq_ok h']
 | .sl n r, .sl m s, h => by
  simp only [dEq, Bool.and_eq_true, decide_eq_true_eq] at h
  rw [h.1, rowsEq_ok r s h.2]
 | .v _, .sl .., h => by simp [dEq] at h
 | .sl .., .v _, h => by simp [dEq] at h
theorem rowsEq_ok : ∀ (a b : List (List D)), rowsEq a b = true → a = b
 | [], [], _ => rfl
 | a :: r, b :: s, h => by
  simp only [rowsEq, Bool.and_eq_true] at h
  rw [rowEq_ok a b h.1, rowsEq_ok r s h.2]
 | [], _ :: _, h => by simp [rowsEq] at h
 | _ :: _, [], h => by simp [rowsEq] at h
theorem rowEq_ok : ∀ (a b : List D), rowEq a b = true → a = b
 | [], [], _ => rfl
 | a :: r, b :: s, h => by
  simp only [rowEq, Bool.and_eq_true] at h
  rw [dEq_ok a b h.1, rowEq_ok r s h.2]
 | [], _ :: _, h => by simp [rowEq] at h
 | _ :: _, [], h => by simp [rowEq] at h
end
def cEq : C → C → Bool
 | .d a, .d b => dEq a b
 | .zero, .zero => true
 | _, _ => false
def csEq : List C → List C → Bool
 | [], [] => true
 | a :: r, b :: s => cEq a b && csEq r s
 | _, _ => false
def argsEq : List Arg → List Arg → Bool
 | [], [] => true
 | .val x a :: r, .val y b :: s => (x == y) && (csEq a b && argsEq r s)
 | _, _ => false
theorem cEq_ok {a b : C} (h : cEq a b = true) : a = b := by
 unfold cEq at h
 split at h
 ·rw [dEq_ok _ _ h]
 ·rfl
 ·cases h
theorem csEq_ok : ∀ {a b : List C}, csEq a b = true → a = b
 | [], [], _ => rfl
 | a :: r, b :: s, h => by
  simp only [csEq, Bool.and_eq_true] at h
  rw [cEq_ok h.1, csEq_ok h.2]
 | [], _ :: _, h => by simp [csEq] at h
 | _ :: _, [], h => by simp [csEq] at h
theorem argsEq_ok : ∀ {a b : List Arg}, argsEq a b = true → a = b
 | [], [], _ => rfl
 | .val x a :: r, .val y b :: s, h => by
  simp only [argsEq, Bool.and_eq_true, beq_iff_eq] at h
  rw [h.1, csEq_ok h.2.1, argsEq_ok h.2.2]
 | .io .. :: _, .val .. :: _, h => by simp [argsEq] at h
 | .val .. :: _, .io .. :: _, h => by simp [argsEq] at h
 | .io .. :: _, .io .. :: _, h => by simp [argsEq] at h
 | [], _ :: _, h => by simp [argsEq] at h
 | .val .. :: _, [], h => by simp [argsEq] at h
 | .io .. :: _, [], h => by simp [argsEq] at h
abbrev CallT := List (FuncId × List Arg × ARes)
def lookT : CallT → FuncId → List Arg → Option ARes
 | [], _, _ => none
 | (g, xs, r) :: T, f, args => if f = g && argsEq args xs then some r else lookT T f args
def extT (T : CallT) (base : CallF) : CallF := fun f args bxs => match bxs with
 | [] => match lookT T f args with
  | some r => some r
  | none => base f args []
 | _ => base f args bxs
def TabOk (P : Program) : CallT → Prop
 | [] => True
 | (g, xs, r) :: T => FnSound P g xs [] r ∧ TabOk P T
theorem lookT_ok {P : Program} : ∀ {T : CallT}, TabOk P T → ∀ {f : FuncId} {args : List Arg} {r : ARes}, lookT T f args = some r → FnSound P f args [] r
 | [], _, f, args, r, he => by cases he
 | (g, xs, r0) :: T, h, f, args, r, he => by
  unfold lookT at he
  split at he
  ·rename_i hc
   simp only [Bool.and_eq_true, decide_eq_true_eq] at hc
   cases he
   rw [hc.1, argsEq_ok hc.2]
   exact h.1
  ·exact lookT_ok h.2 he
theorem extT_ok {P : Program} {T : CallT} {base : CallF} (hT : TabOk P T) (hb : CallOk P base) : CallOk P (extT T base) := by
 intro f args bxs r he
 unfold extT at he
 split at he
 ·split at he
  ·rename_i r' hr
   cases he
   exact lookT_ok hT hr
  ·exact hb _ _ _ _ he
 ·exact hb _ _ _ _ he
end Go.Proofs.YtdpeoolildjohaaGreatDoor

namespace Go.Proofs
open Go.Shelf
open Go.RowKit Go.Sort Go.Lib in
def Tryz.lays171_ren : Go.Shelf.Ren := ⟨fun | 171 => 72 | 243 => 108 | 246 => 109 | 283 => 129 | 284 => 130 | 285 => 131 | 286 => 132 | 129 => 151 | 317 => 150 | 318 => 152 | 319 => 153 | 320 => 154 | 337 => 159 | 338 => 160 | n => n, fun | 3 => 3 | 9 => 9 | 2 => 2 | 4 => 4 | 171 => 182 | 0 => 0 | 53 => 183 | 37 => 22 | 5 => 5 | 173 => 186 | 212 => 202 | 51 => 193 | 20 => 20 | 213 => 203 | 46 => 173 | 232 => 213 | 233 => 214 | n => n, fun | 17 => 0 | 18 => 1 | 19 => 2 | n => n⟩
theorem Tryz.lays171 : Go.Proofs.Lays.n171 Tryz.prog Tryz.lays171_ren := {
 mixed := by kernel_rfl
 f129 := Tryz.func151.trans (congrArg some (by kernel_rfl))
 f171 := Tryz.func72.trans (congrArg some (by kernel_rfl))
 f243 := Tryz.func108.trans (congrArg some (by kernel_rfl))
 f246 := Tryz.func109.trans (congrArg some (by kernel_rfl))
 f283 := Tryz.func129.trans (congrArg some (by kernel_rfl))
 f284 := Tryz.func130.trans (congrArg some (by kernel_rfl))
 f285 := Tryz.func131.trans (congrArg some (by kernel_rfl))
 f286 := Tryz.func132.trans (congrArg some (by kernel_rfl))
 f317 := Tryz.func150.trans (congrArg some (by kernel_rfl))
 f318 := Tryz.func152.trans (congrArg some (by kernel_rfl))
 f319 := Tryz.func153.trans (congrArg some (by kernel_rfl))
 f320 := Tryz.func154.trans (congrArg some (by kernel_rfl))
 f337 := Tryz.func159.trans (congrArg some (by kernel_rfl))
 f338 := Tryz.func160.trans (congrArg some (by kernel_rfl))
 t0 := Tryz.underlying0
 a0 := Tryz.isAgg0
 z0 := Tryz.sizeOf0
 v0 := Tryz.zeroValue0
 t2 := Tryz.underlying2
 a2 := Tryz.isAgg2
 z2 := Tryz.sizeOf2
 v2 := Tryz.zeroValue2
 t3 := Tryz.underlying3
 a3 := Tryz.isAgg3
 z3 := Tryz.sizeOf3
 v3 := Tryz.zeroValue3
 t4 := Tryz.underlying4
 a4 := Tryz.isAgg4
 z4 := Tryz.sizeOf4
 v4 := Tryz.zeroValue4
 t5 := Tryz.underlying5
 a5 := Tryz.isAgg5
 z5 := Tryz.sizeOf5
 v5 := Tryz.zeroValue5
 t9 := Tryz.underlying9
 a9 := Tryz.isAgg9
 z9 := Tryz.sizeOf9
 v9 := Tryz.zeroValue9
 t20 := Tryz.underlying20
 a20 := Tryz.isAgg20
 z20 := Tryz.sizeOf20
 v20 := Tryz.zeroValue20
 t37 := Tryz.underlying22
 a37 := Tryz.isAgg22
 z37 := Tryz.sizeOf22
 v37 := Tryz.zeroValue22
 t46 := Tryz.underlying173
 a46 := Tryz.isAgg173
 z46 := Tryz.sizeOf173
 v46 := Tryz.zeroValue173
 t51 := Tryz.underlying193
 a51 := Tryz.isAgg193
 z51 := Tryz.sizeOf193
 v51 := Tryz.zeroValue193
 t53 := Tryz.underlying183
 a53 := Tryz.isAgg183
 z53 := Tryz.sizeOf183
 v53 := Tryz.zeroValue183
 t171 := Tryz.underlying182
 a171 := Tryz.isAgg182
 z171 := Tryz.sizeOf182
 v171 := Tryz.zeroValue182
 t173 := Tryz.underlying186
 a173 := Tryz.isAgg186
 z173 := Tryz.sizeOf186
 v173 := Tryz.zeroValue186
 t212 := Tryz.underlying202
 a212 := Tryz.isAgg202
 z212 := Tryz.sizeOf202
 v212 := Tryz.zeroValue202
 t213 := Tryz.underlying203
 a213 := Tryz.isAgg203
 z213 := Tryz.sizeOf203
 t232 := Tryz.underlying213
 a232 := Tryz.isAgg213
 z232 := Tryz.sizeOf213
 v232 := Tryz.zeroValue213
 t233 := Tryz.underlying214
 a233 := Tryz.isAgg214
 z233 := Tryz.sizeOf214
 v233 := Tryz.zeroValue214
 g17 := by kernel_rfl
 g18 := by kernel_rfl
 g19 := by kernel_rfl }
open Go.RowKit Go.Sort Go.Lib in
theorem Tryz.strconv_Itoa_small (i : Nat) (hi : i < 100) (w : World) :
    Calls Tryz.prog 72 #[.int .i64 i] w fun e w' => e = .returned (.string ⟨(Lib.decDigits i).toArray⟩) ∧ w' = w := Any.strconv_Itoa_small Tryz.lays171 i hi w
open Go.RowKit Go.Sort Go.Lib in
def Tryz.lays173_ren : Go.Shelf.Ren := ⟨fun | 173 => 73 | 246 => 109 | 283 => 129 | 284 => 130 | 285 => 131 | 286 => 132 | 129 => 151 | 317 => 150 | 318 => 152 | 319 => 153 | 320 => 154 | 337 => 159 | 338 => 160 | n => n, fun | 2 => 2 | 3 => 3 | 9 => 9 | 4 => 4 | 171 => 182 | 0 => 0 | 53 => 183 | 37 => 22 | 5 => 5 | 173 => 186 | 212 => 202 | 51 => 193 | 20 => 20 | 213 => 203 | 46 => 173 | 232 => 213 | 233 => 214 | n => n, fun | 17 => 0 | 18 => 1 | 19 => 2 | n => n⟩
theorem Tryz.lays173 : Go.Proofs.Lays.n173 Tryz.prog Tryz.lays173_ren := {
 mixed := by kernel_rfl
 f129 := Tryz.func151.trans (congrArg some (by kernel_rfl))
 f173 := Tryz.func73.trans (congrArg some (by kernel_rfl))
 f246 := Tryz.func109.trans (congrArg some (by kernel_rfl))
 f283 := Tryz.func129.trans (congrArg some (by kernel_rfl))
 f284 := Tryz.func130.trans (congrArg some (by kernel_rfl))
 f285 := Tryz.func131.trans (congrArg some (by kernel_rfl))
 f286 := Tryz.func132.trans (congrArg some (by kernel_rfl))
 f317 := Tryz.func150.trans (congrArg some (by kernel_rfl))
 f318 := Tryz.func152.trans (congrArg some (by kernel_rfl))
 f319 := Tryz.func153.trans (congrArg some (by kernel_rfl))
 f320 := Tryz.func154.trans (congrArg some (by kernel_rfl))
 f337 := Tryz.func159.trans (congrArg some (by kernel_rfl))
 f338 := Tryz.func160.trans (congrArg some (by kernel_rfl))
 t0 := Tryz.underlying0
 a0 := Tryz.isAgg0
 z0 := Tryz.sizeOf0
 v0 := Tryz.zeroValue0
 t2 := Tryz.underlying2
 a2 := Tryz.isAgg2
 z2 := Tryz.sizeOf2
 v2 := Tryz.zeroValue2
 t3 := Tryz.underlying3
 a3 := Tryz.isAgg3
 z3 := Tryz.sizeOf3
 v3 := Tryz.zeroValue3
 t4 := Tryz.underlying4
 a4 := Tryz.isAgg4
 z4 := Tryz.sizeOf4
 v4 := Tryz.zeroValue4
 t5 := Tryz.underlying5
 a5 := Tryz.isAgg5
 z5 := Tryz.sizeOf5
 v5 := Tryz.zeroValue5
 t9 := Tryz.underlying9
 a9 := Tryz.isAgg9
 z9 := Tryz.sizeOf9
 v9 := Tryz.zeroValue9
 t20 := Tryz.underlying20
 a20 := Tryz.isAgg20
 z20 := Tryz.sizeOf20
 v20 := Tryz.zeroValue20
 t37 := Tryz.underlying22
 a37 := Tryz.isAgg22
 z37 := Tryz.sizeOf22
 v37 := Tryz.zeroValue22
 t46 := Tryz.underlying173
 a46 := Tryz.isAgg173
 z46 := Tryz.sizeOf173
 v46 := Tryz.zeroValue173
 t51 := Tryz.underlying193
 a51 := Tryz.isAgg193
 z51 := Tryz.sizeOf193
 v51 := Tryz.zeroValue193
 t53 := Tryz.underlying183
 a53 := Tryz.isAgg183
 z53 := Tryz.sizeOf183
 v53 := Tryz.zeroValue183
 t171 := Tryz.underlying182
 a171 := Tryz.isAgg182
 z171 := Tryz.sizeOf182
 v171 := Tryz.zeroValue182
 t173 := Tryz.underlying186
 a173 := Tryz.isAgg186
 z173 := Tryz.sizeOf186
 v173 := Tryz.zeroValue186
 t212 := Tryz.underlying202
 a212 := Tryz.isAgg202
 z212 := Tryz.sizeOf202
 v212 := Tryz.zeroValue202
 t213 := Tryz.underlying203
 a213 := Tryz.isAgg203
 z213 := Tryz.sizeOf203
 t232 := Tryz.underlying213
 a232 := Tryz.isAgg213
 z232 := Tryz.sizeOf213
 v232 := Tryz.zeroValue213
 t233 := Tryz.underlying214
 a233 := Tryz.isAgg214
 z233 := Tryz.sizeOf214
 v233 := Tryz.zeroValue214
 g17 := by kernel_rfl
 g18 := by kernel_rfl
 g19 := by kernel_rfl }
open Go.RowKit Go.Sort Go.Lib in
theorem Tryz.strconv_FormatInt_10_small (i : Nat) (hi : i < 100) (w : World) :
    Calls Tryz.prog 73 #[.int .i64 i, .int .i64 10] w fun e w' => e = .returned (.string ⟨(Lib.decDigits i).toArray⟩) ∧ w' = w := Any.strconv_FormatInt_10_small Tryz.lays173 i hi w
end Go.Proofs

namespace Go.Proofs.YtdpeoolildjohaaGreatDoor
open Go Go.RowKit
set_option maxRecDepth 100000
set_option maxHeartbeats 8000000
set_option linter.unusedSimpArgs false
set_option linter.unusedVariables false
def numS (n : Nat) : ByteArray := if n < 10 then ⟨#[UInt8.ofNat (48 + n)]⟩ else ⟨#[UInt8.ofNat (48 + n / 10), UInt8.ofNat (48 + n % 10)]⟩
theorem numS_eq {n : Nat} (h : n < 100) : (⟨(Lib.decDigits n).toArray⟩ : ByteArray) = numS n := by
 unfold numS
 by_cases h10 : n < 10
 ·rw [Lib.decDigits, dif_pos h10, if_pos h10]
 ·rw [Lib.decDigits, dif_neg h10, Lib.decDigits, dif_pos (by omega : n / 10 < 10), if_neg h10]
  rfl
def itoaX : List Arg → Option ARes
 | [.val false [.d (.v (.int .i64 n))]] => if 0 ≤ n ∧ n < 100 then some { vals := [(false, [.d (.v (.string (numS n.toNat)))])] } else none
 | _ => none
def fmtX : List Arg → Option ARes
 | [.val false [.d (.v (.int .i64 n))], .val false [.d (.v (.int .i64 b))]] => if 0 ≤ n ∧ n < 100 ∧ b = 10 then some { vals := [(false, [.d (.v (.string (numS n.toNat)))])] } else none
 | _ => none
theorem itoa_fn {args : List Arg} {r : ARes} (he : itoaX args = some r) : FnSound Tryz.prog 72 args [] r := by
 unfold itoaX at he
 split at he
 ·rename_i n
  split at he
  ·rename_i hn
   cases he
   refine fn_data rfl fun V X Z ρ w vals hl hR => ?_
   have hv := vals_one hl
   have h1 := conV_sound (x := .int .i64 n) rfl (args_val hR (i := 0) rfl).2
   rw [h1] at hv
   rw [hv]
   have hC := Tryz.strconv_Itoa_small n.toNat (by omega) w
   rw [numS_eq (by omega)] at hC
   have e1 : ((n.toNat : Nat) : Int) = n := by omega
   rw [e1] at hC
   refine hC.mono ?_
   rintro e w' ⟨rfl, rfl⟩
   exact ⟨_, rfl, ext_refl _, fun S hS ρ' ok' => one1 (.v rfl)⟩
  ·cases he
 ·cases he
theorem fmt_fn {args : List Arg} {r : ARes} (he : fmtX args = some r) : FnSound Tryz.prog 73 args [] r := by
 unfold fmtX at he
 split at he
 ·rename_i n b
  split at he
  ·rename_i hn
   cases he
   refine fn_data rfl fun V X Z ρ w vals hl hR => ?_
   have hv := vals_two hl
   have h1 := conV_sound (x := .int .i64 n) rfl (args_val hR (i := 0) rfl).2
   have h2 := conV_sound (x := .int .i64 b) rfl (args_val hR (i := 1) rfl).2
   rw [h1, h2, hn.2.2] at hv
   rw [hv]
   have hC := Tryz.strconv_FormatInt_10_small n.toNat (by omega) w
   rw [numS_eq (by omega)] at hC
   have e1 : ((n.toNat : Nat) : Int) = n := by omega
   rw [e1] at hC
   refine hC.mono ?_
   rintro e w' ⟨rfl, rfl⟩
   exact ⟨_, rfl, ext_refl _, fun S hS ρ' ok' => one1 (.v rfl)⟩
  ·cases he
 ·cases he
def extF : CallF := fun f args bxs => match bxs with
 | [] => if f = 72 then itoaX args else if f = 73 then fmtX args else none
 | _ => none
theorem extF_ok : CallOk Tryz.prog extF := by
 intro f args bxs r he
 unfold extF at he
 split at he
 ·split at he
  ·rename_i h; subst h; exact itoa_fn he
  ·split at he
   ·rename_i h; subst h; exact fmt_fn he
   ·cases he
 ·cases he
def pA : Prob := ⟨[2], [0], [1], []⟩
def lA : List StepD := [⟨1, 0, 1⟩, ⟨2, 0, 0⟩]
def goodA : List SigD := [⟨1, 1, 0, 0, 0, false, 0⟩, ⟨4, 0, 1, 0, 1, false, 0⟩, ⟨5, 0, 1, 0, 0, true, 0⟩, ⟨3, 0, 0, 0, 0, false, 0⟩, ⟨4, 0, 3, 0, 1, false, 0⟩, ⟨4, 0, 3, 1, 1, false, 0⟩]
def badA : List SigD := [⟨1, 1, 0, 0, 0, false, 0⟩, ⟨4, 0, 1, 0, 1, false, 0⟩, ⟨5, 0, 1, 0, 0, false, 0⟩, ⟨4, 0, 2, 0, 0, false, 0⟩]
def cA : CtlD := ⟨lA, 0, 0, 0, 0, 0, ⟨[0], [-1], []⟩⟩
theorem setA : setErr pA [2] = 0 := by kernel_rfl
theorem chkA : checkP pA lA = true := by kernel_rfl
theorem newA : newP pA [2] lA = (cA, 0) := by kernel_rfl
theorem sigA : SigK pA [2] cA.plan cA 0 := by
 obtain ⟨n1, n2, n3, n4⟩ := newP_k setA chkA
 have n5 := newP_r setA chkA
 rw [newA] at n1 n5
 exact ⟨n1, n5, ⟨rfl, ⟨by decide, by decide⟩, ⟨by decide, by decide⟩, by decide⟩⟩
def resA (ss : List SigD) : ARes := { vals := [(true, ctlC (sigAt pA [2] cA ss ss.length).1), (false, [.d (.sl 10 (dActs (sigAt pA [2] cA ss ss.length).2))]), (false, [.d (.v (.int .i64 0))])] }
theorem example_fn : FnSound Tryz.prog 40 [] [] { vals := [(true, probC pA), (false, [.d (.sl 3 (dSteps lA))])] } := by
 refine startW (tm := []) Tryz.func40 rfl Tryz.ntmps40 rfl rfl rfl rfl ?_
 repeat' (first
 |refine wA ?_
 |(refine wC ?_ ?_ <;> intro hc)
 |refine wB ?_ ?_
 |(with_reducible refine JL.block ?_)
 |(with_reducible refine F_at ?_); refine eW (vs := [(_, _), (_, _)]) Tryz.results40 ?_; (focus (repeat' (first | exact oA | refine oB ?_ | refine oC ?_ ?_ | fail)))
 |exact oM
 |fail)
 all_goals first | rfl | trace_state
def runT : CallT := [(40, [], { vals := [(true, probC pA), (false, [.d (.sl 3 (dSteps lA))])] }), (13, [.val true (probC pA), .val false [.d (.sl 1 (dInts [2]))], .val false [.d (.sl 3 (dSteps lA))]], { vals := [(true, ctlC cA), (false, [.d (.v (.int .i64 0))])] }), (20, [.val true (probC pA), .val false [.d (.sl 1 (dInts [2]))], .val true (ctlC cA), .val false [.d (.sl 7 (dSigs goodA))]], resA goodA), (20, [.val true (probC pA), .val false [.d (.sl 1 (dInts [2]))], .val true (ctlC cA), .val false [.d (.sl 7 (dSigs badA))]], resA badA)]
theorem runT_ok : TabOk Tryz.prog runT := by
 have h1 := pnew_fn pA [2] lA setA chkA (by decide)
 rw [newA] at h1
 exact ⟨example_fn, h1, psigs_fn pA [2] cA goodA 0 sigA (by decide) setA chkA (by decide) (by decide), psigs_fn pA [2] cA badA 0 sigA (by decide) setA chkA (by decide) (by decide), trivial⟩
def annF : Ann := { own := fun _ => false, lend := fun _ => false, cl := fun _ s => s, ext := extT runT extF }
theorem annF_ok (n : Nat) : CallOk Tryz.prog (acall Tryz.prog annF n) := acall_ok (by kernel_rfl) (extT_ok runT_ok extF_ok) (fun _ _ _ _ _ _ _ _ _ h => h) n
theorem awake_run : acall Tryz.prog annF 60 11 [] [] = some { vals := [(false, [.d (.v (.bool true))])] } := by kernel_rfl
theorem awake_fn : FnSound Tryz.prog 11 [] [] { vals := [(false, [.d (.v (.bool true))])] } := annF_ok 60 _ _ _ _ awake_run
end Go.Proofs.YtdpeoolildjohaaGreatDoor

