/- Rules of runs and contracts of functions, for the claims of one seat. -/
import Derived.Test.YtfnljcallbalgaaGreatDoorUA13
import Derived.Test.YtfnljcallbalgaaGreatDoorUA21
import Derived.Test.YtfnljcallbalgaaGreatDoorUA25
import Derived.Test.YtfnljcallbalgaaGreatDoorUA27
import Derived.Test.YtfnljcallbalgaaGreatDoorUA28
namespace Go.Proofs.YtfnljcallbalgaaGreatDoor
open Go Go.RowKit
set_option maxRecDepth 100000
set_option maxHeartbeats 8000000
set_option linter.unusedSimpArgs false
set_option linter.unusedVariables false
theorem fn_shut {P : Program} {f : FuncId} {args : List Arg} {el : TypeId} {sz : Nat} {rows : List (List D)} (hni : ioBx 0 args [] = []) (h : FnSound P f args [] { vals := [(false, [.own (0, 1)])], bx := [((0, 1), .sl el sz rows)] }) :
    FnSound P f args [] { vals := [(false, [.d (.sl sz rows)])] } := by
 intro V X Z ρ w vals hl hR
 refine (h V X Z ρ w vals hl hR).mono ?_
 rintro e w' ⟨v, ρ', rfl, hS⟩
 simp only [hni, List.nil_append] at hS ⊢
 have h2 := hS.shut (lb2 := fun q => if q = (0, 1) then some (.fz sz rows) else none) (fun q => by
  by_cases e : q = (0, 1)
  ·subst e; exact .inr ⟨el, sz, rows, rfl, if_pos rfl⟩
  ·exact .inl (by
     show (if q = (0, 1) then some (Box.fz sz rows) else none) = (if q = (0, 1) then some (Box.sl el sz rows) else none)
     rw [if_neg e, if_neg e]))
 have hv := (hS.tm 0 (.one false [.own (0, 1)]) rfl).2
 obtain ⟨_, hv⟩ := slot1_sound rfl hv
 have hv' : v = .slice (ρ' (0, 1)).A (ρ' (0, 1)).n (ρ' (0, 1)).cap := hv
 have hd := (h2.bx (0, 1) (.fz sz rows) (if_pos rfl)).2
 refine ⟨v, ρ', rfl, h2.ret (fun _ h => h) (fun q box hq => by cases hq) (one1 ?_)⟩
 rw [hv']
 exact Rd.mono hd (fun b _ hi => ⟨hi.1, fun q box hq => by cases hq⟩)
def cloneD (sz bytes : Nat) (args : List Arg) : Option ARes :=
 match args with
 | [.val false [c]] => match lookRows (fun _ => none) sz c with
  | some rows => if rows.length * bytes ≤ 140737488355328 ∧ rows.length ≤ 4611686018427387904 then some { vals := [(false, [.d (.sl sz rows)])] } else none
  | none => none
 | _ => none
theorem cloneD_fn {P : Program} {f : FuncId} {el : TypeId} {sz bytes : Nat} (hz : 0 < sz) (hC : ∀ (A : Option Addr) (n c : Nat) (xs : List Value) (w : World), Cells w A xs → xs.length = n * sz → (∀ u ∈ xs, u.oneCell' = true) → n * bytes ≤ 140737488355328 → Calls P f #[.slice A n c] w (NewSl w el sz n xs))
    {args : List Arg} {r : ARes} (he : cloneD sz bytes args = some r) : FnSound P f args [] r := by
 unfold cloneD at he
 split at he
 ·rename_i c
  split at he
  ·rename_i rows hrows
   split at he
   ·rename_i hcnd
    cases he
    have h1 : cloneX el sz bytes [.val false [c]] = some { vals := [(false, [.own (0, 1)])], bx := [((0, 1), .sl el sz rows)] } := by
     unfold cloneX
     simp only [hrows, if_pos hcnd]
    exact fn_shut rfl (clone_fn hz hC h1)
   ·cases he
  ·cases he
 ·cases he
def numS (n : Nat) : ByteArray := if n < 10 then ⟨#[UInt8.ofNat (48 + n)]⟩ else ⟨#[UInt8.ofNat (48 + n / 10), UInt8.ofNat (48 + n % 10)]⟩
theorem numS_eq {n : Nat} (h : n < 100) : (⟨(Lib.decDigits n).toArray⟩ : ByteArray) = numS n := by
 unfold numS
 by_cases h10 : n < 10
 ·rw [Lib.decDigits, dif_pos h10, if_pos h10]
 ·rw [Lib.decDigits, dif_neg h10, Lib.decDigits, dif_pos (by omega : n / 10 < 10), if_neg h10]
  rfl
def itoaX : List Arg → Option ARes
 | [.val false [.d (.v (.int .i64 n))]] => if 0 ≤ n ∧ n < 100 then some { vals := [(false, [.d (.v (.string (numS n.toNat)))])] } else none
 | _ => none
def fmtX : List Arg → Option ARes
 | [.val false [.d (.v (.int .i64 n))], .val false [.d (.v (.int .i64 b))]] => if 0 ≤ n ∧ n < 100 ∧ b = 10 then some { vals := [(false, [.d (.v (.string (numS n.toNat)))])] } else none
 | _ => none
theorem itoa_fn {args : List Arg} {r : ARes} (he : itoaX args = some r) : FnSound Tryz.prog 32 args [] r := by
 unfold itoaX at he
 split at he
 ·rename_i n
  split at he
  ·rename_i hn
   cases he
   refine fn_data rfl fun V X Z ρ w vals hl hR => ?_
   have hv := vals_one hl
   have h1 := conV_sound (x := .int .i64 n) rfl (args_val hR (i := 0) rfl).2
   rw [h1] at hv
   rw [hv]
   have hC := Tryz.strconv_Itoa_small n.toNat (by omega) w
   rw [numS_eq (by omega)] at hC
   have e1 : ((n.toNat : Nat) : Int) = n := by omega
   rw [e1] at hC
   refine hC.mono ?_
   rintro e w' ⟨rfl, rfl⟩
   exact ⟨_, rfl, ext_refl _, fun S hS ρ' ok' => one1 (.v rfl)⟩
  ·cases he
 ·cases he
theorem fmt_fn {args : List Arg} {r : ARes} (he : fmtX args = some r) : FnSound Tryz.prog 34 args [] r := by
 unfold fmtX at he
 split at he
 ·rename_i n b
  split at he
  ·rename_i hn
   cases he
   refine fn_data rfl fun V X Z ρ w vals hl hR => ?_
   have hv := vals_two hl
   have h1 := conV_sound (x := .int .i64 n) rfl (args_val hR (i := 0) rfl).2
   have h2 := conV_sound (x := .int .i64 b) rfl (args_val hR (i := 1) rfl).2
   rw [h1, h2, hn.2.2] at hv
   rw [hv]
   have hC := Tryz.strconv_FormatInt_10_small n.toNat (by omega) w
   rw [numS_eq (by omega)] at hC
   have e1 : ((n.toNat : Nat) : Int) = n := by omega
   rw [e1] at hC
   refine hC.mono ?_
   rintro e w' ⟨rfl, rfl⟩
   exact ⟨_, rfl, ext_refl _, fun S hS ρ' ok' => one1 (.v rfl)⟩
  ·cases he
 ·cases he
def extW (dat : Bool) : CallF := fun f args bxs =>
 if f = 73 then ccX 97 args bxs else match bxs with
 | [] =>
  if f = 32 then itoaX args else if f = 34 then fmtX args
  else if f = 54 then (if dat then cloneD 1 8 args else cloneX 3 1 8 args)
  else if f = 55 then (if dat then cloneD 3 24 args else cloneX 104 3 24 args)
  else if f = 310 then cloneX 183 1 1 args
  else if f = 222 then cloneX 138 4 32 args
  else if f = 164 then cloneX 198 6 48 args
  else if f = 60 then cloneX 90 11 88 args
  else if f = 144 then repeatX 3 args
  else if f = 56 then repeatN 76 3 args
  else if f = 78 then gsX args
  else if f = 42 then joinX args
  else if f = 132 then atoiX args
  else if f = 91 then ixbX args
  else if f = 86 then growX 9 1 args
  else none
 | _ => none
theorem ite_ok {f g : FuncId} {a b : Option ARes} {r : ARes} (he : (if f = g then a else b) = some r) : (f = g ∧ a = some r) ∨ b = some r := by
 by_cases h : f = g
 ·rw [if_pos h] at he; exact .inl ⟨h, he⟩
 ·rw [if_neg h] at he; exact .inr he
theorem extW_ok (dat : Bool) : CallOk Tryz.prog (extW dat) := by
 intro f args bxs r he
 unfold extW at he
 rcases ite_ok he with ⟨h, he⟩ | he
 ·subst h; exact cc_fn he
 cases bxs with
 | cons x l => cases he
 | nil =>
  rcases ite_ok he with ⟨h, he⟩ | he
  ·subst h; exact itoa_fn he
  rcases ite_ok he with ⟨h, he⟩ | he
  ·subst h; exact fmt_fn he
  rcases ite_ok he with ⟨h, he⟩ | he
  ·subst h
   cases dat with
   | true => exact cloneD_fn (el := 3) (by omega) (fun A n c xs w h1 h2 h3 h4 => cloneInt A n c xs w h1 h2 h3 h4) he
   | false => exact clone_fn (by omega) (fun A n c xs w h1 h2 h3 h4 => cloneInt A n c xs w h1 h2 h3 h4) he
  rcases ite_ok he with ⟨h, he⟩ | he
  ·subst h
   cases dat with
   | true => exact cloneD_fn (el := 104) (by omega) (fun A n c xs w h1 h2 h3 h4 => cloneStep A n c xs w h1 h2 h3 h4) he
   | false => exact clone_fn (by omega) (fun A n c xs w h1 h2 h3 h4 => cloneStep A n c xs w h1 h2 h3 h4) he
  rcases ite_ok he with ⟨h, he⟩ | he
  ·subst h; exact clone_fn (by omega) (fun A n c xs w h1 h2 h3 h4 => cloneSet A n c xs w h1 h2 h3 h4) he
  rcases ite_ok he with ⟨h, he⟩ | he
  ·subst h; exact clone_fn (by omega) (fun A n c xs w h1 h2 h3 h4 => cloneRep A n c xs w h1 h2 h3 h4) he
  rcases ite_ok he with ⟨h, he⟩ | he
  ·subst h; exact clone_fn (by omega) (fun A n c xs w h1 h2 h3 h4 => clonePkt A n c xs w h1 h2 h3 h4) he
  rcases ite_ok he with ⟨h, he⟩ | he
  ·subst h; exact clone_fn (by omega) (fun A n c xs w h1 h2 h3 h4 => clonePnt A n c xs w h1 h2 h3 h4) he
  rcases ite_ok he with ⟨h, he⟩ | he
  ·subst h; exact repeat_fn he
  rcases ite_ok he with ⟨h, he⟩ | he
  ·subst h; exact repeatSpl_fn he
  rcases ite_ok he with ⟨h, he⟩ | he
  ·subst h; exact gs_fn he
  rcases ite_ok he with ⟨h, he⟩ | he
  ·subst h; exact join_fn he
  rcases ite_ok he with ⟨h, he⟩ | he
  ·subst h; exact atoi_fn he
  rcases ite_ok he with ⟨h, he⟩ | he
  ·subst h; exact ixb_fn he
  rcases ite_ok he with ⟨h, he⟩ | he
  ·subst h; exact grow_fn he
  cases he
def scalT (P : Program) (t : TypeId) : Bool := match P.underlying t with
 | some (.int _) => true
 | some .bool => true
 | some .string => true
 | _ => false
def isPtrT (P : Program) (t : TypeId) : Bool := match P.underlying t with
 | some (.pointer _) => true
 | _ => false
def lendP (P : Program) (f : FuncId) : Bool := match P.funcs[f]? with
 | some fn => fn.resultTypes.toList.all (scalT P) && !fn.params.toList.any (isPtrT P)
 | none => false
def lendL : List FuncId := [274, 340, 352, 358]
def ownL : List FuncId := [19, 176, 113, 86, 18, 21, 99, 23, 54, 55, 56, 20, 59, 60, 222, 164, 58, 101, 102, 103, 104, 105, 106, 107, 108, 109, 110, 111, 112, 144, 150, 151, 152, 153, 154, 155, 156, 157, 158, 159, 160, 162, 163, 165, 167, 168, 169, 170, 171, 172, 211, 216, 217, 218, 224, 226, 290, 310, 294, 309]
noncomputable def annT (T : CallT) : Ann := { own := fun f => ownL.contains f, lend := fun f => lendL.contains f || lendP Tryz.prog f, cl := fun _ s => s, ext := extT T (extW false) }
noncomputable def annD (T : CallT) : Ann := { own := fun f => ownL.contains f, lend := fun f => false, cl := fun _ s => s, ext := extT T (extW true) }
theorem annT_ok {T : CallT} (h : TabOk Tryz.prog T) (n : Nat) : CallOk Tryz.prog (acall Tryz.prog (annT T) n) := acall_ok (by kernel_rfl) (extT_ok h (extW_ok false)) (fun _ _ _ _ _ _ _ _ _ h => h) n
theorem annD_ok {T : CallT} (h : TabOk Tryz.prog T) (n : Nat) : CallOk Tryz.prog (acall Tryz.prog (annD T) n) := acall_ok (by kernel_rfl) (extT_ok h (extW_ok true)) (fun _ _ _ _ _ _ _ _ _ h => h) n
def genL : List FuncId := [59, 101, 112, 102, 31, 73, 36]
noncomputable def annW (T : CallT) (B : CallB) : Ann := { own := fun f => ownL.contains f, lend := fun f => lendL.contains f || lendP Tryz.prog f, cl := fun _ s => s, ext := extB B (extT T (extW false)), gen := fun f => genL.contains f }
theorem annW_ok {T : CallT} {B : CallB} (h : TabOk Tryz.prog T) (hB : TabB Tryz.prog B) (n : Nat) : CallOk Tryz.prog (acall Tryz.prog (annW T B) n) := acall_ok (by kernel_rfl) (extB_ok hB (extT_ok h (extW_ok false))) (fun _ _ _ _ _ _ _ _ _ h => h) n
def cI (n : Int) : C := .d (.v (.int .i64 n))
def cS (n : Int) : C := .d (.sl 1 [[.v (.int .i64 n)]])
def pA : Prob := ⟨[2], [0], [1], []⟩
def lA : List StepD := [⟨1, 0, 1⟩, ⟨2, 0, 0⟩]
def cL : C := .d (.sl 3 [[.v (.int .i64 1), .v (.int .i64 0), .v (.int .i64 1)], [.v (.int .i64 2), .v (.int .i64 0), .v (.int .i64 0)]])
def cB : C := .d (.sl 1 [[.v (.int .u8 0)], [.v (.int .u8 4)]])
def exR : ARes := { vals := [(true, [cS 2, cS 0, cS 1, .d (.sl 6 []), cS 1, cL, cI 10, cB])] }
theorem example_fn : FnSound Tryz.prog 13 [] [] exR := by
 show FnSound Tryz.prog 13 [] [] { vals := [(true, [.d (.sl 1 (dInts [2])), .d (.sl 1 (dInts [0])), .d (.sl 1 (dInts [1])), .d (.sl 6 []), .d (.sl 1 (dInts [1])), .d (.sl 3 (dSteps lA)), .d (.v (.int .i64 10)), .d (.sl 1 [[.v (.int .u8 0)], [.v (.int .u8 4)]])])] }
 refine startW (tm := []) Tryz.func13 rfl Tryz.ntmps13 rfl rfl rfl rfl ?_
 repeat' (first
 |refine wA ?_
 |(refine wC ?_ ?_ <;> intro hc)
 |refine wB ?_ ?_
 |(with_reducible refine JL.block ?_)
 |(with_reducible refine F_at ?_); refine eW (vs := [(_, _)]) Tryz.results13 ?_; (focus (repeat' (first | exact oA | refine oB ?_ | refine oC ?_ ?_ | fail)))
 |exact oM
 |fail)
 all_goals first | rfl | trace_state
def m0 : MixD := ⟨[0], [-1], []⟩
def m1 : MixD := ⟨[0], [1], []⟩
def T0 : CallT := [(13, [], exR), (313, [.val true (probC pA), .val true (mixC m0), .val true (stepC ⟨1, 0, 1⟩)], { vals := [(true, mixC m1), (false, [.d (.v (.bool true))])] }), (313, [.val true (probC pA), .val true (mixC m1), .val true (stepC ⟨2, 0, 0⟩)], { vals := [(true, mixC ⟨[1], [-1], []⟩), (false, [.d (.v (.bool true))])] })]
theorem T0_ok : TabOk Tryz.prog T0 :=
 ⟨example_fn, qafter_fn pA m0 ⟨1, 0, 1⟩ (by decide) (fun x hx => by cases hx) (stepAt_of (by decide) (by decide)) (by decide), qafter_fn pA m1 ⟨2, 0, 0⟩ (by decide) (fun x hx => by cases hx) (stepAt_of (by decide) (by decide)) (by decide), trivial⟩
def B0 : CallB := []
def args1 : List Arg := [.val true (probC pA), .val false [cS 1], .val false [cL]]
def res1 : ARes := { vals := [(true, [cL, cI 0, cI 0, cI 0, cI 0, cI 0, cS 0, cS (-1), .d (.sl 1 [])]), (false, [cI 0])] }
def T1 : CallT := (52, args1, res1) :: T0
def args2 : List Arg := [.val true (probC pA)]
def res2 : ARes := { vals := [(false, [.d (.v (.string ⟨#[118, 101, 114, 115, 105, 111, 110, 115, 32, 50, 10, 110, 111, 119, 32, 48, 10, 116, 97, 114, 103, 101, 116, 32, 49, 10]⟩))]), (false, [cI 0])] }
def T2 : CallT := (30, args2, res2) :: T1
def args3 : List Arg := [.val true [cS 2, cS 0, cS 1, .d (.sl 6 []), cS 1, cL, cI 10, .d (.sl 1 [[.v (.int .u8 0)], [.v (.int .u8 4)]])]]
def res3 : ARes := { vals := [(false, [.d (.v (.string ⟨#[118, 101, 114, 115, 105, 111, 110, 115, 32, 50, 10, 110, 111, 119, 32, 48, 10, 116, 97, 114, 103, 101, 116, 32, 49, 10, 114, 101, 112, 108, 105, 99, 97, 115, 32, 49, 10, 112, 108, 97, 110, 32, 115, 116, 97, 114, 116, 32, 48, 32, 49, 44, 32, 102, 105, 110, 105, 115, 104, 32, 48, 10, 116, 116, 108, 32, 49, 48, 10, 99, 104, 111, 105, 99, 101, 115, 32, 48, 48, 48, 52, 10]⟩))]), (false, [cI 0])] }
def T3 : CallT := (12, args3, res3) :: T2
def args4 : List Arg := [.val false [.d (.v (.string ⟨#[118, 101, 114, 115, 105, 111, 110, 115, 32, 50, 10, 110, 111, 119, 32, 48, 10, 116, 97, 114, 103, 101, 116, 32, 49, 10]⟩))]]
def res4 : ARes := { vals := [(true, [cS 2, cS 0, cS 1, .zero]), (false, [cI 0]), (false, [cI 0])] }
def T4 : CallT := (41, args4, res4) :: T3
def args5 : List Arg := [.val false [.d (.v (.string ⟨#[118, 101, 114, 115, 105, 111, 110, 115, 32, 50, 10, 110, 111, 119, 32, 48, 10, 116, 97, 114, 103, 101, 116, 32, 49, 10, 114, 101, 112, 108, 105, 99, 97, 115, 32, 49, 10, 112, 108, 97, 110, 32, 115, 116, 97, 114, 116, 32, 48, 32, 49, 44, 32, 102, 105, 110, 105, 115, 104, 32, 48, 10, 116, 116, 108, 32, 49, 48, 10, 99, 104, 111, 105, 99, 101, 115, 32, 48, 48, 48, 52, 10]⟩))]]
def res5 : ARes := { vals := [(true, [cS 2, cS 0, cS 1, .zero, cS 1, cL, cI 10, .d (.sl 1 [[.v (.int .u8 0)], [.v (.int .u8 4)]])]), (false, [cI 0]), (false, [cI 0])] }
def T5 : CallT := (14, args5, res5) :: T4
def args6 : List Arg := [.val true [cS 2, cS 0, cS 1, .d (.sl 6 []), cS 1, cL, cI 10]]
def res6 : ARes := { vals := [(false, [.ptr (512, 9) 0]), (false, [cI 0])], bx := [((512, 9), .st 143 [cS 2, cS 0, cS 1, .d (.sl 6 []), cS 1, cL, cI 10, cI 0, cI (-1), cI 0, cI 0, .d (.v (.string ⟨#[]⟩)), .d (.sl 4 [[.v (.int .i64 0), .v (.int .i64 0), .v (.bool true), .v (.int .i64 0)]]), .d (.v (.bool true)), .d (.v (.bool true)), cL, cI 0, cI 0, cI 0, cI 0, cI 0, cS 0, cS (-1), .d (.sl 1 []), cL, cI 0, cI 0, cI 0, cI 0, cI 0, cS 0, cS (-1), .d (.sl 1 []), .zero, cI 0, .own (448, 10), .own (320, 11), .zero]), ((448, 10), .sl 76 3 []), ((320, 11), .sl 2 1 [])] }
def T6 : CallT := (18, args6, res6) :: T5
def argB1 : List Arg := [.val false [.ptr (0, 0) 0]]
def bxB1 : List (Key × Box) := [((0, 0), .st 143 [cS 2, cS 0, cS 1, .d (.sl 6 []), cS 1, cL, cI 10, cI 0, cI (-1), cI 0, cI 0, .d (.v (.string ⟨#[]⟩)), .d (.sl 4 [[.v (.int .i64 0), .v (.int .i64 0), .v (.bool true), .v (.int .i64 0)]]), .d (.v (.bool true)), .d (.v (.bool true)), cL, cI 0, cI 0, cI 0, cI 0, cI 0, cS 0, cS (-1), .d (.sl 1 []), cL, cI 0, cI 0, cI 0, cI 0, cI 0, cS 0, cS (-1), .d (.sl 1 []), .zero, cI 0, .own (1, 0), .own (2, 0), .zero]), ((1, 0), .sl 76 3 []), ((2, 0), .sl 2 1 [])]
def resB1 : ARes := { vals := [(false, [.own (139, 24)])], bx := [((139, 24), .ca 238 2 [[.d (.v (.string ⟨#[116, 105, 99, 107, 32, 48]⟩)), .fn 151 [.ptr (197, 6) 0, .ptr (198, 6) 0]], [.d (.v (.string ⟨#[99, 114, 97, 115, 104, 32, 48]⟩)), .fn 153 [.ptr (197, 6) 0, .ptr (198, 6) 0]], [.d (.v (.string ⟨#[116, 105, 99, 107, 32, 49]⟩)), .fn 151 [.ptr (199, 10) 0, .ptr (200, 10) 0]], [.d (.v (.string ⟨#[99, 114, 97, 115, 104, 32, 49]⟩)), .fn 153 [.ptr (199, 10) 0, .ptr (200, 10) 0]], [.d (.v (.string ⟨#[115, 116, 111, 112, 32, 48]⟩)), .fn 109 [.ptr (0, 1) 0, .ptr (192, 17) 0, .ptr (256, 17) 0]], [.d (.v (.string ⟨#[116, 105, 109, 101]⟩)), .fn 111 [.ptr (0, 1) 0]]]), ((0, 0), .st 143 [cS 2, cS 0, cS 1, .d (.sl 6 []), cS 1, cL, cI 10, cI 0, cI (-1), cI 0, cI 0, .d (.v (.string ⟨#[]⟩)), .d (.sl 4 [[.v (.int .i64 0), .v (.int .i64 0), .v (.bool true), .v (.int .i64 0)]]), .d (.v (.bool true)), .d (.v (.bool true)), cL, cI 0, cI 0, cI 0, cI 0, cI 0, cS 0, cS (-1), .d (.sl 1 []), cL, cI 0, cI 0, cI 0, cI 0, cI 0, cS 0, cS (-1), .d (.sl 1 []), .zero, cI 0, .own (1, 0), .own (2, 0), .zero]), ((1, 0), .sl 76 3 []), ((2, 0), .sl 2 1 []), ((197, 6), .st 77 [.ptr (0, 0) 0]), ((198, 6), .st 3 [cI 0]), ((199, 10), .st 77 [.ptr (0, 0) 0]), ((200, 10), .st 3 [cI 1]), ((192, 17), .st 3 [cI 0]), ((256, 17), .st 138 [cI 0, cI 0, .d (.v (.bool true)), cI 0]), ((0, 1), .st 77 [.ptr (0, 0) 0])] }
def B1 : CallB := (59, argB1, bxB1, resB1) :: B0
def args7 : List Arg := [.val true [cI (-1), cI 0, cI 0], .val false [cI 0], .val false [cI 0], .val false [cI 10]]
def res7 : ARes := { vals := [(true, [cI 0, cI 1, cI 10]), (false, [cI 0])] }
def T7 : CallT := (214, args7, res7) :: T6
def args8 : List Arg := [.val false [.d (.v (.string ⟨#[]⟩))], .val true [cI 5, cI 1, cI 0, .d (.v (.string ⟨#[]⟩))]]
def res8 : ARes := { vals := [(false, [.d (.v (.string ⟨#[3, 224, 145, 42, 184, 5, 1, 0]⟩))]), (false, [cI 0])] }
def T8 : CallT := (215, args8, res8) :: T7
def args9 : List Arg := [.val true (probC pA), .val false [cS 1], .val false [cL], .val false [.d (.v (.string ⟨#[3, 224, 145, 42, 184, 5, 1, 0]⟩))]]
def res9 : ARes := { vals := [(true, [cL, cI 0, cI 0, cI 0, cI 0, cI 0, cS 0, cS (-1), .d (.sl 1 [])]), (false, [cI 8]), (false, [cI 0])] }
def T9 : CallT := (100, args9, res9) :: T8
def args10 : List Arg := [.val true (probC pA), .val false [cS 1], .val true [cL, cI 0, cI 0, cI 0, cI 0, cI 0, cS 0, cS (-1), .d (.sl 1 [])], .val true [cI 1, cI 1, cI 0, cI 0, cI 0, .d (.v (.bool false)), cI 0]]
def res10 : ARes := { vals := [(true, [cL, cI 0, cI 1, cI 0, cI 1, cI 1, cS 0, cS 1, .d (.sl 1 [])]), (false, [.d (.sl 10 [[.v (.int .i64 1), .v (.int .i64 1), .v (.int .i64 1), .v (.int .i64 0), .v (.string ⟨#[]⟩), .v (.int .i64 0), .v (.int .i64 0), .v (.int .i64 0), .v (.int .i64 0), .v (.int .i64 0)], [.v (.int .i64 2), .v (.int .i64 0), .v (.int .i64 0), .v (.int .i64 0), .v (.string ⟨#[]⟩), .v (.int .i64 1), .v (.int .i64 0), .v (.int .i64 1), .v (.int .i64 0), .v (.int .i64 0)]])]), (false, [cI 0])] }
def T10 : CallT := (286, args10, res10) :: T9
def args11 : List Arg := [.val false [.d (.v (.string ⟨#[3, 224, 145, 42, 184, 5, 1, 0]⟩))], .val true [cI 1, cI 1, cI 0, .d (.v (.string ⟨#[]⟩))]]
def res11 : ARes := { vals := [(false, [.d (.v (.string ⟨#[3, 224, 145, 42, 184, 5, 1, 0, 3, 231, 152, 130, 100, 1, 1, 0]⟩))]), (false, [cI 0])] }
def T11 : CallT := (215, args11, res11) :: T10
def argB2 : List Arg := [.val false [.ptr (0, 0) 0], .val false [.ptr (1, 0) 0]]
def bxB2 : List (Key × Box) := [((0, 0), .st 77 [.ptr (2, 0) 0]), ((1, 0), .st 3 [cI 0]), ((2, 0), .st 143 [cS 2, cS 0, cS 1, .d (.sl 6 []), cS 1, cL, cI 10, cI 0, cI (-1), cI 0, cI 0, .d (.v (.string ⟨#[]⟩)), .d (.sl 4 [[.v (.int .i64 0), .v (.int .i64 0), .v (.bool true), .v (.int .i64 0)]]), .d (.v (.bool true)), .d (.v (.bool true)), cL, cI 0, cI 0, cI 0, cI 0, cI 0, cS 0, cS (-1), .d (.sl 1 []), cL, cI 0, cI 0, cI 0, cI 0, cI 0, cS 0, cS (-1), .d (.sl 1 []), .zero, cI 0, .own (3, 0), .own (4, 0), .zero]), ((3, 0), .sl 76 3 []), ((4, 0), .sl 2 1 [])]
def resB2 : ARes := { vals := [], bx := [((0, 0), .st 77 [.ptr (2, 0) 0]), ((1, 0), .st 3 [cI 0]), ((2, 0), .st 143 [cS 2, cS 0, cS 1, .d (.sl 6 []), cS 1, cL, cI 10, cI 0, cI 0, cI 1, cI 10, .d (.v (.string ⟨#[3, 224, 145, 42, 184, 5, 1, 0, 3, 231, 152, 130, 100, 1, 1, 0]⟩)), .d (.sl 4 [[.v (.int .i64 0), .v (.int .i64 0), .v (.bool true), .v (.int .i64 0)]]), .d (.v (.bool true)), .d (.v (.bool true)), cL, cI 0, cI 1, cI 0, cI 1, cI 1, cS 0, cS 1, .d (.sl 1 []), cL, cI 0, cI 0, cI 0, cI 0, cI 0, cS 0, cS (-1), .d (.sl 1 []), .own (128, 1), cI 1, .own (129, 1), .own (130, 1), .own (131, 1)]), ((128, 1), .sl 198 6 [[.v (.int .i64 1), .v (.int .i64 0), .v (.bool false), .v (.int .i64 1), .v (.int .i64 0), .v (.int .i64 1)]]), ((129, 1), .sl 76 3 []), ((130, 1), .sl 2 1 []), ((131, 1), .sl 90 11 [[.v (.int .i64 0), .v (.int .i64 7), .v (.int .i64 0), .v (.int .i64 0), .v (.int .i64 0), .v (.int .i64 0), .v (.int .i64 1), .v (.int .i64 0), .v (.int .i64 0), .v (.int .i64 0), .v (.int .i64 0)], [.v (.int .i64 0), .v (.int .i64 2), .v (.int .i64 0), .v (.int .i64 0), .v (.int .i64 0), .v (.int .i64 0), .v (.int .i64 1), .v (.int .i64 0), .v (.int .i64 0), .v (.int .i64 0), .v (.int .i64 0)]])] }
def B2 : CallB := (151, argB2, bxB2, resB2) :: B1
def argB3 : List Arg := [.io 143 [cS 2, cS 0, cS 1, .d (.sl 6 []), cS 1, cL, cI 10, cI 0, cI (-1), cI 0, cI 0, .d (.v (.string ⟨#[]⟩)), .d (.sl 4 [[.v (.int .i64 0), .v (.int .i64 0), .v (.bool true), .v (.int .i64 0)]]), .d (.v (.bool true)), .d (.v (.bool true)), cL, cI 0, cI 0, cI 0, cI 0, cI 0, cS 0, cS (-1), .d (.sl 1 []), cL, cI 0, cI 0, cI 0, cI 0, cI 0, cS 0, cS (-1), .d (.sl 1 []), .zero, cI 0, .own (1000, 0), .own (1001, 0), .zero], .val false [.d (.v (.int .u8 0))]]
def bxB3 : List (Key × Box) := [((1000, 0), .sl 76 3 []), ((1001, 0), .sl 2 1 [])]
def resB3 : ARes := { vals := [(false, [.d (.v (.string ⟨#[116, 105, 99, 107, 32, 48]⟩))])], ios := [[cS 2, cS 0, cS 1, .d (.sl 6 []), cS 1, cL, cI 10, cI 0, cI 0, cI 1, cI 10, .d (.v (.string ⟨#[3, 224, 145, 42, 184, 5, 1, 0, 3, 231, 152, 130, 100, 1, 1, 0]⟩)), .d (.sl 4 [[.v (.int .i64 0), .v (.int .i64 0), .v (.bool true), .v (.int .i64 0)]]), .d (.v (.bool true)), .d (.v (.bool true)), cL, cI 0, cI 1, cI 0, cI 1, cI 1, cS 0, cS 1, .d (.sl 1 []), cL, cI 0, cI 0, cI 0, cI 0, cI 0, cS 0, cS (-1), .d (.sl 1 []), .own (131, 4), cI 1, .own (132, 4), .own (133, 4), .own (134, 4)]], bx := [((131, 4), .sl 198 6 [[.v (.int .i64 1), .v (.int .i64 0), .v (.bool false), .v (.int .i64 1), .v (.int .i64 0), .v (.int .i64 1)]]), ((132, 4), .sl 76 3 []), ((133, 4), .sl 2 1 []), ((134, 4), .sl 90 11 [[.v (.int .i64 0), .v (.int .i64 7), .v (.int .i64 0), .v (.int .i64 0), .v (.int .i64 0), .v (.int .i64 0), .v (.int .i64 1), .v (.int .i64 0), .v (.int .i64 0), .v (.int .i64 0), .v (.int .i64 0)], [.v (.int .i64 0), .v (.int .i64 2), .v (.int .i64 0), .v (.int .i64 0), .v (.int .i64 0), .v (.int .i64 0), .v (.int .i64 1), .v (.int .i64 0), .v (.int .i64 0), .v (.int .i64 0), .v (.int .i64 0)]])] }
def B3 : CallB := (99, argB3, bxB3, resB3) :: B2
def argB4 : List Arg := [.val false [.ptr (0, 0) 0]]
def bxB4 : List (Key × Box) := [((0, 0), .st 143 [cS 2, cS 0, cS 1, .d (.sl 6 []), cS 1, cL, cI 10, cI 0, cI 0, cI 1, cI 10, .d (.v (.string ⟨#[3, 224, 145, 42, 184, 5, 1, 0, 3, 231, 152, 130, 100, 1, 1, 0]⟩)), .d (.sl 4 [[.v (.int .i64 0), .v (.int .i64 0), .v (.bool true), .v (.int .i64 0)]]), .d (.v (.bool true)), .d (.v (.bool true)), cL, cI 0, cI 1, cI 0, cI 1, cI 1, cS 0, cS 1, .d (.sl 1 []), cL, cI 0, cI 0, cI 0, cI 0, cI 0, cS 0, cS (-1), .d (.sl 1 []), .own (1, 0), cI 1, .own (2, 0), .own (3, 0), .own (4, 0)]), ((1, 0), .sl 198 6 [[.v (.int .i64 1), .v (.int .i64 0), .v (.bool false), .v (.int .i64 1), .v (.int .i64 0), .v (.int .i64 1)]]), ((2, 0), .sl 76 3 []), ((3, 0), .sl 2 1 []), ((4, 0), .sl 90 11 [[.v (.int .i64 0), .v (.int .i64 7), .v (.int .i64 0), .v (.int .i64 0), .v (.int .i64 0), .v (.int .i64 0), .v (.int .i64 1), .v (.int .i64 0), .v (.int .i64 0), .v (.int .i64 0), .v (.int .i64 0)], [.v (.int .i64 0), .v (.int .i64 2), .v (.int .i64 0), .v (.int .i64 0), .v (.int .i64 0), .v (.int .i64 0), .v (.int .i64 1), .v (.int .i64 0), .v (.int .i64 0), .v (.int .i64 0), .v (.int .i64 0)]])]
def resB4 : ARes := { vals := [(false, [.own (142, 32)])], bx := [((142, 32), .ca 238 2 [[.d (.v (.string ⟨#[116, 105, 99, 107, 32, 48]⟩)), .fn 151 [.ptr (199, 6) 0, .ptr (200, 6) 0]], [.d (.v (.string ⟨#[99, 114, 97, 115, 104, 32, 48]⟩)), .fn 153 [.ptr (199, 6) 0, .ptr (200, 6) 0]], [.d (.v (.string ⟨#[116, 105, 99, 107, 32, 49]⟩)), .fn 151 [.ptr (201, 10) 0, .ptr (202, 10) 0]], [.d (.v (.string ⟨#[99, 114, 97, 115, 104, 32, 49]⟩)), .fn 153 [.ptr (201, 10) 0, .ptr (202, 10) 0]], [.d (.v (.string ⟨#[100, 101, 108, 105, 118, 101, 114, 32, 49]⟩)), .fn 103 [.ptr (0, 1) 0, .ptr (128, 15) 0]], [.d (.v (.string ⟨#[108, 111, 115, 101, 32, 49]⟩)), .fn 106 [.ptr (0, 1) 0, .ptr (128, 15) 0]], [.d (.v (.string ⟨#[99, 111, 112, 121, 32, 49]⟩)), .fn 107 [.ptr (0, 1) 0, .ptr (128, 15) 0]], [.d (.v (.string ⟨#[115, 116, 111, 112, 32, 48]⟩)), .fn 109 [.ptr (0, 1) 0, .ptr (192, 25) 0, .ptr (256, 25) 0]], [.d (.v (.string ⟨#[116, 105, 109, 101]⟩)), .fn 111 [.ptr (0, 1) 0]]]), ((0, 0), .st 143 [cS 2, cS 0, cS 1, .d (.sl 6 []), cS 1, cL, cI 10, cI 0, cI 0, cI 1, cI 10, .d (.v (.string ⟨#[3, 224, 145, 42, 184, 5, 1, 0, 3, 231, 152, 130, 100, 1, 1, 0]⟩)), .d (.sl 4 [[.v (.int .i64 0), .v (.int .i64 0), .v (.bool true), .v (.int .i64 0)]]), .d (.v (.bool true)), .d (.v (.bool true)), cL, cI 0, cI 1, cI 0, cI 1, cI 1, cS 0, cS 1, .d (.sl 1 []), cL, cI 0, cI 0, cI 0, cI 0, cI 0, cS 0, cS (-1), .d (.sl 1 []), .own (1, 0), cI 1, .own (2, 0), .own (3, 0), .own (4, 0)]), ((1, 0), .sl 198 6 [[.v (.int .i64 1), .v (.int .i64 0), .v (.bool false), .v (.int .i64 1), .v (.int .i64 0), .v (.int .i64 1)]]), ((2, 0), .sl 76 3 []), ((3, 0), .sl 2 1 []), ((4, 0), .sl 90 11 [[.v (.int .i64 0), .v (.int .i64 7), .v (.int .i64 0), .v (.int .i64 0), .v (.int .i64 0), .v (.int .i64 0), .v (.int .i64 1), .v (.int .i64 0), .v (.int .i64 0), .v (.int .i64 0), .v (.int .i64 0)], [.v (.int .i64 0), .v (.int .i64 2), .v (.int .i64 0), .v (.int .i64 0), .v (.int .i64 0), .v (.int .i64 0), .v (.int .i64 1), .v (.int .i64 0), .v (.int .i64 0), .v (.int .i64 0), .v (.int .i64 0)]]), ((199, 6), .st 77 [.ptr (0, 0) 0]), ((200, 6), .st 3 [cI 0]), ((201, 10), .st 77 [.ptr (0, 0) 0]), ((202, 10), .st 3 [cI 1]), ((128, 15), .st 198 [cI 1, cI 0, .d (.v (.bool false)), cI 1, cI 0, cI 1]), ((192, 25), .st 3 [cI 0]), ((256, 25), .st 138 [cI 0, cI 0, .d (.v (.bool true)), cI 0]), ((0, 1), .st 77 [.ptr (0, 0) 0])] }
def B4 : CallB := (59, argB4, bxB4, resB4) :: B3
def argB5 : List Arg := [.val false [.ptr (0, 0) 0], .val false [.ptr (1, 0) 0]]
def bxB5 : List (Key × Box) := [((0, 0), .st 77 [.ptr (2, 0) 0]), ((1, 0), .st 198 [cI 1, cI 0, .d (.v (.bool false)), cI 1, cI 0, cI 1]), ((2, 0), .st 143 [cS 2, cS 0, cS 1, .d (.sl 6 []), cS 1, cL, cI 10, cI 0, cI 0, cI 1, cI 10, .d (.v (.string ⟨#[3, 224, 145, 42, 184, 5, 1, 0, 3, 231, 152, 130, 100, 1, 1, 0]⟩)), .d (.sl 4 [[.v (.int .i64 0), .v (.int .i64 0), .v (.bool true), .v (.int .i64 0)]]), .d (.v (.bool true)), .d (.v (.bool true)), cL, cI 0, cI 1, cI 0, cI 1, cI 1, cS 0, cS 1, .d (.sl 1 []), cL, cI 0, cI 0, cI 0, cI 0, cI 0, cS 0, cS (-1), .d (.sl 1 []), .own (3, 0), cI 1, .own (4, 0), .own (5, 0), .own (6, 0)]), ((3, 0), .sl 198 6 [[.v (.int .i64 1), .v (.int .i64 0), .v (.bool false), .v (.int .i64 1), .v (.int .i64 0), .v (.int .i64 1)]]), ((4, 0), .sl 76 3 []), ((5, 0), .sl 2 1 []), ((6, 0), .sl 90 11 [[.v (.int .i64 0), .v (.int .i64 7), .v (.int .i64 0), .v (.int .i64 0), .v (.int .i64 0), .v (.int .i64 0), .v (.int .i64 1), .v (.int .i64 0), .v (.int .i64 0), .v (.int .i64 0), .v (.int .i64 0)], [.v (.int .i64 0), .v (.int .i64 2), .v (.int .i64 0), .v (.int .i64 0), .v (.int .i64 0), .v (.int .i64 0), .v (.int .i64 1), .v (.int .i64 0), .v (.int .i64 0), .v (.int .i64 0), .v (.int .i64 0)]])]
def resB5 : ARes := { vals := [], bx := [((0, 0), .st 77 [.ptr (2, 0) 0]), ((1, 0), .st 198 [cI 1, cI 0, .d (.v (.bool false)), cI 1, cI 0, cI 1]), ((2, 0), .st 143 [cS 2, cS 0, cS 1, .d (.sl 6 []), cS 1, cL, cI 10, cI 0, cI 0, cI 1, cI 10, .d (.v (.string ⟨#[3, 224, 145, 42, 184, 5, 1, 0, 3, 231, 152, 130, 100, 1, 1, 0]⟩)), .d (.sl 4 [[.v (.int .i64 0), .v (.int .i64 1), .v (.bool true), .v (.int .i64 1)]]), .d (.v (.bool true)), .d (.v (.bool true)), cL, cI 0, cI 1, cI 0, cI 1, cI 1, cS 0, cS 1, .d (.sl 1 []), cL, cI 0, cI 0, cI 0, cI 0, cI 0, cS 0, cS (-1), .d (.sl 1 []), .own (256, 1), cI 2, .own (257, 1), .own (258, 1), .own (259, 1)]), ((256, 1), .sl 198 6 [[.v (.int .i64 2), .v (.int .i64 0), .v (.bool true), .v (.int .i64 1), .v (.int .i64 0), .v (.int .i64 1)]]), ((257, 1), .sl 76 3 []), ((258, 1), .sl 2 1 []), ((259, 1), .sl 90 11 [[.v (.int .i64 0), .v (.int .i64 7), .v (.int .i64 0), .v (.int .i64 0), .v (.int .i64 0), .v (.int .i64 0), .v (.int .i64 1), .v (.int .i64 0), .v (.int .i64 0), .v (.int .i64 0), .v (.int .i64 0)], [.v (.int .i64 0), .v (.int .i64 2), .v (.int .i64 0), .v (.int .i64 0), .v (.int .i64 0), .v (.int .i64 0), .v (.int .i64 1), .v (.int .i64 0), .v (.int .i64 0), .v (.int .i64 0), .v (.int .i64 0)], [.v (.int .i64 0), .v (.int .i64 6), .v (.int .i64 0), .v (.int .i64 0), .v (.int .i64 0), .v (.int .i64 0), .v (.int .i64 0), .v (.int .i64 1), .v (.int .i64 0), .v (.int .i64 1), .v (.int .i64 0)]])] }
def B5 : CallB := (103, argB5, bxB5, resB5) :: B4
def argB6 : List Arg := [.io 143 [cS 2, cS 0, cS 1, .d (.sl 6 []), cS 1, cL, cI 10, cI 0, cI 0, cI 1, cI 10, .d (.v (.string ⟨#[3, 224, 145, 42, 184, 5, 1, 0, 3, 231, 152, 130, 100, 1, 1, 0]⟩)), .d (.sl 4 [[.v (.int .i64 0), .v (.int .i64 0), .v (.bool true), .v (.int .i64 0)]]), .d (.v (.bool true)), .d (.v (.bool true)), cL, cI 0, cI 1, cI 0, cI 1, cI 1, cS 0, cS 1, .d (.sl 1 []), cL, cI 0, cI 0, cI 0, cI 0, cI 0, cS 0, cS (-1), .d (.sl 1 []), .own (1000, 0), cI 1, .own (1001, 0), .own (1002, 0), .own (1003, 0)], .val false [.d (.v (.int .u8 4))]]
def bxB6 : List (Key × Box) := [((1000, 0), .sl 198 6 [[.v (.int .i64 1), .v (.int .i64 0), .v (.bool false), .v (.int .i64 1), .v (.int .i64 0), .v (.int .i64 1)]]), ((1001, 0), .sl 76 3 []), ((1002, 0), .sl 2 1 []), ((1003, 0), .sl 90 11 [[.v (.int .i64 0), .v (.int .i64 7), .v (.int .i64 0), .v (.int .i64 0), .v (.int .i64 0), .v (.int .i64 0), .v (.int .i64 1), .v (.int .i64 0), .v (.int .i64 0), .v (.int .i64 0), .v (.int .i64 0)], [.v (.int .i64 0), .v (.int .i64 2), .v (.int .i64 0), .v (.int .i64 0), .v (.int .i64 0), .v (.int .i64 0), .v (.int .i64 1), .v (.int .i64 0), .v (.int .i64 0), .v (.int .i64 0), .v (.int .i64 0)]])]
def resB6 : ARes := { vals := [(false, [.d (.v (.string ⟨#[100, 101, 108, 105, 118, 101, 114, 32, 49]⟩))])], ios := [[cS 2, cS 0, cS 1, .d (.sl 6 []), cS 1, cL, cI 10, cI 0, cI 0, cI 1, cI 10, .d (.v (.string ⟨#[3, 224, 145, 42, 184, 5, 1, 0, 3, 231, 152, 130, 100, 1, 1, 0]⟩)), .d (.sl 4 [[.v (.int .i64 0), .v (.int .i64 1), .v (.bool true), .v (.int .i64 1)]]), .d (.v (.bool true)), .d (.v (.bool true)), cL, cI 0, cI 1, cI 0, cI 1, cI 1, cS 0, cS 1, .d (.sl 1 []), cL, cI 0, cI 0, cI 0, cI 0, cI 0, cS 0, cS (-1), .d (.sl 1 []), .own (131, 4), cI 2, .own (132, 4), .own (133, 4), .own (134, 4)]], bx := [((131, 4), .sl 198 6 [[.v (.int .i64 2), .v (.int .i64 0), .v (.bool true), .v (.int .i64 1), .v (.int .i64 0), .v (.int .i64 1)]]), ((132, 4), .sl 76 3 []), ((133, 4), .sl 2 1 []), ((134, 4), .sl 90 11 [[.v (.int .i64 0), .v (.int .i64 7), .v (.int .i64 0), .v (.int .i64 0), .v (.int .i64 0), .v (.int .i64 0), .v (.int .i64 1), .v (.int .i64 0), .v (.int .i64 0), .v (.int .i64 0), .v (.int .i64 0)], [.v (.int .i64 0), .v (.int .i64 2), .v (.int .i64 0), .v (.int .i64 0), .v (.int .i64 0), .v (.int .i64 0), .v (.int .i64 1), .v (.int .i64 0), .v (.int .i64 0), .v (.int .i64 0), .v (.int .i64 0)], [.v (.int .i64 0), .v (.int .i64 6), .v (.int .i64 0), .v (.int .i64 0), .v (.int .i64 0), .v (.int .i64 0), .v (.int .i64 0), .v (.int .i64 1), .v (.int .i64 0), .v (.int .i64 1), .v (.int .i64 0)]])] }
def B6 : CallB := (99, argB6, bxB6, resB6) :: B5
def argB7 : List Arg := [.io 143 [cS 2, cS 0, cS 1, .d (.sl 6 []), cS 1, cL, cI 10, cI 0, cI 0, cI 1, cI 10, .d (.v (.string ⟨#[3, 224, 145, 42, 184, 5, 1, 0, 3, 231, 152, 130, 100, 1, 1, 0]⟩)), .d (.sl 4 [[.v (.int .i64 0), .v (.int .i64 1), .v (.bool true), .v (.int .i64 1)]]), .d (.v (.bool true)), .d (.v (.bool true)), cL, cI 0, cI 1, cI 0, cI 1, cI 1, cS 0, cS 1, .d (.sl 1 []), cL, cI 0, cI 0, cI 0, cI 0, cI 0, cS 0, cS (-1), .d (.sl 1 []), .own (1000, 0), cI 2, .own (1001, 0), .own (1002, 0), .own (1003, 0)]]
def bxB7 : List (Key × Box) := [((1000, 0), .sl 198 6 [[.v (.int .i64 2), .v (.int .i64 0), .v (.bool true), .v (.int .i64 1), .v (.int .i64 0), .v (.int .i64 1)]]), ((1001, 0), .sl 76 3 []), ((1002, 0), .sl 2 1 []), ((1003, 0), .sl 90 11 [[.v (.int .i64 0), .v (.int .i64 7), .v (.int .i64 0), .v (.int .i64 0), .v (.int .i64 0), .v (.int .i64 0), .v (.int .i64 1), .v (.int .i64 0), .v (.int .i64 0), .v (.int .i64 0), .v (.int .i64 0)], [.v (.int .i64 0), .v (.int .i64 2), .v (.int .i64 0), .v (.int .i64 0), .v (.int .i64 0), .v (.int .i64 0), .v (.int .i64 1), .v (.int .i64 0), .v (.int .i64 0), .v (.int .i64 0), .v (.int .i64 0)], [.v (.int .i64 0), .v (.int .i64 6), .v (.int .i64 0), .v (.int .i64 0), .v (.int .i64 0), .v (.int .i64 0), .v (.int .i64 0), .v (.int .i64 1), .v (.int .i64 0), .v (.int .i64 1), .v (.int .i64 0)]])]
def resB7 : ARes := { vals := [(false, [.own (256, 2)])], ios := [[cS 2, cS 0, cS 1, .d (.sl 6 []), cS 1, cL, cI 10, cI 0, cI 0, cI 1, cI 10, .d (.v (.string ⟨#[3, 224, 145, 42, 184, 5, 1, 0, 3, 231, 152, 130, 100, 1, 1, 0]⟩)), .d (.sl 4 [[.v (.int .i64 0), .v (.int .i64 1), .v (.bool true), .v (.int .i64 1)]]), .d (.v (.bool true)), .d (.v (.bool true)), cL, cI 0, cI 1, cI 0, cI 1, cI 1, cS 0, cS 1, .d (.sl 1 []), cL, cI 0, cI 0, cI 0, cI 0, cI 0, cS 0, cS (-1), .d (.sl 1 []), .own (1000, 0), cI 2, .own (1001, 0), .own (1002, 0), .d (.sl 11 [[.v (.int .i64 0), .v (.int .i64 7), .v (.int .i64 0), .v (.int .i64 0), .v (.int .i64 0), .v (.int .i64 0), .v (.int .i64 1), .v (.int .i64 0), .v (.int .i64 0), .v (.int .i64 0), .v (.int .i64 0)], [.v (.int .i64 0), .v (.int .i64 2), .v (.int .i64 0), .v (.int .i64 0), .v (.int .i64 0), .v (.int .i64 0), .v (.int .i64 1), .v (.int .i64 0), .v (.int .i64 0), .v (.int .i64 0), .v (.int .i64 0)], [.v (.int .i64 0), .v (.int .i64 6), .v (.int .i64 0), .v (.int .i64 0), .v (.int .i64 0), .v (.int .i64 0), .v (.int .i64 0), .v (.int .i64 1), .v (.int .i64 0), .v (.int .i64 1), .v (.int .i64 0)]])]], bx := [((256, 2), .sl 90 11 [[.v (.int .i64 0), .v (.int .i64 7), .v (.int .i64 0), .v (.int .i64 0), .v (.int .i64 0), .v (.int .i64 0), .v (.int .i64 1), .v (.int .i64 0), .v (.int .i64 0), .v (.int .i64 0), .v (.int .i64 0)], [.v (.int .i64 0), .v (.int .i64 2), .v (.int .i64 0), .v (.int .i64 0), .v (.int .i64 0), .v (.int .i64 0), .v (.int .i64 1), .v (.int .i64 0), .v (.int .i64 0), .v (.int .i64 0), .v (.int .i64 0)], [.v (.int .i64 0), .v (.int .i64 6), .v (.int .i64 0), .v (.int .i64 0), .v (.int .i64 0), .v (.int .i64 0), .v (.int .i64 0), .v (.int .i64 1), .v (.int .i64 0), .v (.int .i64 1), .v (.int .i64 0)]]), ((1000, 0), .sl 198 6 [[.v (.int .i64 2), .v (.int .i64 0), .v (.bool true), .v (.int .i64 1), .v (.int .i64 0), .v (.int .i64 1)]]), ((1001, 0), .sl 76 3 []), ((1002, 0), .sl 2 1 [])] }
def B7 : CallB := (23, argB7, bxB7, resB7) :: B6
def args12 : List Arg := [.val true (probC pA), .val false [cS 1], .val false [cL], .val false [.d (.sl 11 [[.v (.int .i64 0), .v (.int .i64 7), .v (.int .i64 0), .v (.int .i64 0), .v (.int .i64 0), .v (.int .i64 0), .v (.int .i64 1), .v (.int .i64 0), .v (.int .i64 0), .v (.int .i64 0), .v (.int .i64 0)], [.v (.int .i64 0), .v (.int .i64 2), .v (.int .i64 0), .v (.int .i64 0), .v (.int .i64 0), .v (.int .i64 0), .v (.int .i64 1), .v (.int .i64 0), .v (.int .i64 0), .v (.int .i64 0), .v (.int .i64 0)], [.v (.int .i64 0), .v (.int .i64 6), .v (.int .i64 0), .v (.int .i64 0), .v (.int .i64 0), .v (.int .i64 0), .v (.int .i64 0), .v (.int .i64 1), .v (.int .i64 0), .v (.int .i64 1), .v (.int .i64 0)]])]]
def res12 : ARes := { vals := [(false, [cI 0]), (false, [cI 0]), (false, [cI 15])] }
def T12 : CallT := (61, args12, res12) :: T11
def args13 : List Arg := [.val true (probC pA), .val false [cS 1], .val false [cL], .val false [.d (.v (.string ⟨#[3, 224, 145, 42, 184, 5, 1, 0, 3, 231, 152, 130, 100, 1, 1, 0]⟩))]]
def res13 : ARes := { vals := [(true, [cL, cI 0, cI 1, cI 0, cI 1, cI 0, cS 0, cS 1, .d (.sl 1 [])]), (false, [cI 16]), (false, [cI 0])] }
def T13 : CallT := (100, args13, res13) :: T12
def args14 : List Arg := [.val true [cS 2, cS 0, cS 1, .d (.sl 6 []), cS 1, cL, cI 10, .d (.sl 1 [[.v (.int .u8 0)], [.v (.int .u8 4)]])]]
def res14 : ARes := { vals := [(false, [.d (.sl 11 [[.v (.int .i64 0), .v (.int .i64 7), .v (.int .i64 0), .v (.int .i64 0), .v (.int .i64 0), .v (.int .i64 0), .v (.int .i64 1), .v (.int .i64 0), .v (.int .i64 0), .v (.int .i64 0), .v (.int .i64 0)], [.v (.int .i64 0), .v (.int .i64 2), .v (.int .i64 0), .v (.int .i64 0), .v (.int .i64 0), .v (.int .i64 0), .v (.int .i64 1), .v (.int .i64 0), .v (.int .i64 0), .v (.int .i64 0), .v (.int .i64 0)], [.v (.int .i64 0), .v (.int .i64 6), .v (.int .i64 0), .v (.int .i64 0), .v (.int .i64 0), .v (.int .i64 0), .v (.int .i64 0), .v (.int .i64 1), .v (.int .i64 0), .v (.int .i64 1), .v (.int .i64 0)]])]), (false, [cI (-1)]), (false, [cI 0]), (false, [.d (.v (.bool false))]), (false, [cI 0])] }
def T14 : CallT := (8, args14, res14) :: T13
def args15 : List Arg := [.val true [cS 2, cS 0, cS 1, .d (.sl 6 []), cS 1, cL, cI 10, .d (.sl 1 [[.v (.int .u8 0)], [.v (.int .u8 4)]])]]
def res15 : ARes := { vals := [(false, [.d (.sl 1 [])]), (false, [cI 1]), (false, [cI 0]), (false, [cI 1]), (false, [cI 0])] }
def T15 : CallT := (10, args15, res15) :: T14
end Go.Proofs.YtfnljcallbalgaaGreatDoor

