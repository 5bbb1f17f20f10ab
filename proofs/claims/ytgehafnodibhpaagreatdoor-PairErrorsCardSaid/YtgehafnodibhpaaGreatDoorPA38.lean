/- Rules of runs and contracts of functions, for the claims of one seat. -/
import Derived.Test.YtgehafnodibhpaaGreatDoorPA37
namespace Go.Proofs.YtgehafnodibhpaaGreatDoor
open Go Go.RowKit
set_option linter.unusedSimpArgs false
set_option linter.unusedVariables false
set_option maxRecDepth 100000
set_option maxHeartbeats 8000000
def bigX : List Arg → Option ARes
 | [.val false [.d (.v (.int .u64 n))]] => if n = 0 then some { vals := [(false, [.d (.v (.string ⟨#[]⟩))])] } else if n = 12 then some { vals := [(false, [.d (.v (.string ⟨#[12]⟩))])] } else none
 | _ => none
theorem big_fn {args : List Arg} {r : ARes} (he : bigX args = some r) : FnSound Tryz.prog 178 args [] r := by
 unfold bigX at he
 split at he
 ·rename_i n
  have key : ∀ s : ByteArray, (∀ w : World, Calls Tryz.prog 178 #[.int .u64 n] w fun e w' => e = .returned (.string s) ∧ Below w.heap.size w w') → FnSound Tryz.prog 178 [.val false [.d (.v (.int .u64 n))]] [] { vals := [(false, [.d (.v (.string s))])] } := fun s hC => by
   refine fn_data rfl fun V X Z ρ w vals hl hR => ?_
   have hv := vals_one hl
   have h1 := conV_sound (x := .int .u64 n) rfl (args_val hR (i := 0) rfl).2
   rw [h1] at hv
   rw [hv]
   refine (hC w).mono ?_
   rintro e w' ⟨rfl, hb⟩
   exact ⟨_, rfl, hb, fun S hS ρ' ok' => one1 (.v rfl)⟩
  split at he
  ·rename_i h0; subst h0; cases he; exact key _ big0
  ·split at he
   ·rename_i h0; subst h0; cases he; exact key _ big12
   ·cases he
 ·cases he
def extF : CallF := fun f args bxs =>
 if f = 78 then ccX 105 args bxs else match bxs with
 | [] =>
  if f = 165 then cloneX 3 1 8 args
  else if f = 178 then bigX args
  else none
 | _ => none
theorem extF_ok : CallOk Tryz.prog extF := by
 intro f args bxs r he
 unfold extF at he
 by_cases h : f = 78
 ·rw [if_pos h] at he; subst h; exact cc_fn he
 rw [if_neg h] at he
 cases bxs with
 | cons x l => cases he
 | nil =>
  dsimp only at he
  split at he
  ·rename_i h; subst h; exact clone_fn (by omega) (fun A n c xs w h1 h2 h3 h4 => cloneInt A n c xs w h1 h2 h3 h4) he
  ·split at he
   ·rename_i h; subst h; exact big_fn he
   ·cases he
def scalT (P : Program) (t : TypeId) : Bool := match P.underlying t with
 | some (.int _) => true
 | some .bool => true
 | some .string => true
 | _ => false
def isPtrT (P : Program) (t : TypeId) : Bool := match P.underlying t with
 | some (.pointer _) => true
 | _ => false
def lendP (P : Program) (f : FuncId) : Bool := match P.funcs[f]? with
 | some fn => fn.resultTypes.toList.all (scalT P) && !fn.params.toList.any (isPtrT P)
 | none => false
def lendL : List FuncId := [174, 220, 270, 271]
def ownL : List FuncId := [155, 165]
def genL : List FuncId := [37, 78, 41]
noncomputable def annT (T : CallT) : Ann := { own := fun f => ownL.contains f, lend := fun f => lendL.contains f || lendP Tryz.prog f, cl := fun _ s => s, ext := extT T extF, gen := fun f => genL.contains f }
theorem annT_ok {T : CallT} (h : TabOk Tryz.prog T) (n : Nat) : CallOk Tryz.prog (acall Tryz.prog (annT T) n) := acall_ok (by kernel_rfl) (extT_ok h extF_ok) (fun _ _ _ _ _ _ _ _ _ h => h) n
def T0 : CallT := []
def args1 : List Arg := [.val true [.d (.sl 10 [[.v (.int .i64 (2)), .v (.string ⟨#[]⟩), .v (.int .i64 (0)), .v (.int .i64 (9)), .v (.int .i64 (0)), .sl 0 [], .sl 0 [], .v (.int .i64 (0)), .v (.int .i64 (0)), .v (.bool false)], [.v (.int .i64 (1)), .v (.string ⟨#[]⟩), .v (.int .i64 (0)), .v (.int .i64 (0)), .v (.int .i64 (0)), .sl 0 [], .sl 0 [], .v (.int .i64 (0)), .v (.int .i64 (0)), .v (.bool false)]])]]
def res1 : ARes := { vals := [(false, [.d (.v (.int .i64 (0)))])] }
def T1 : CallT := (152, args1, res1) :: T0
def args2 : List Arg := [.val true [.d (.sl 10 [[.v (.int .i64 (2)), .v (.string ⟨#[]⟩), .v (.int .i64 (0)), .v (.int .i64 (9)), .v (.int .i64 (0)), .sl 0 [], .sl 0 [], .v (.int .i64 (0)), .v (.int .i64 (0)), .v (.bool false)], [.v (.int .i64 (1)), .v (.string ⟨#[]⟩), .v (.int .i64 (0)), .v (.int .i64 (0)), .v (.int .i64 (0)), .sl 0 [], .sl 0 [], .v (.int .i64 (0)), .v (.int .i64 (0)), .v (.bool false)]])]]
def res2 : ARes := { vals := [(false, [.d (.v (.int .i64 (0)))])] }
def T2 : CallT := (95, args2, res2) :: T1
def args3 : List Arg := [.val true [.d (.v (.string ⟨#[118]⟩)), .d (.sl 10 [[.v (.int .i64 (2)), .v (.string ⟨#[]⟩), .v (.int .i64 (0)), .v (.int .i64 (9)), .v (.int .i64 (0)), .sl 0 [], .sl 0 [], .v (.int .i64 (0)), .v (.int .i64 (0)), .v (.bool false)], [.v (.int .i64 (1)), .v (.string ⟨#[]⟩), .v (.int .i64 (0)), .v (.int .i64 (0)), .v (.int .i64 (0)), .sl 0 [], .sl 0 [], .v (.int .i64 (0)), .v (.int .i64 (0)), .v (.bool false)]]), .d (.sl 3 [[.v (.string ⟨#[71, 101, 116]⟩), .v (.int .i64 (0)), .v (.int .i64 (1))]]), .zero, .zero]]
def res3 : ARes := { vals := [(false, [.d (.v (.int .i64 (0)))])] }
def T3 : CallT := (52, args3, res3) :: T2
def args4 : List Arg := [.val true [.d (.sl 10 [[.v (.int .i64 (2)), .v (.string ⟨#[]⟩), .v (.int .i64 (0)), .v (.int .i64 (5)), .v (.int .i64 (0)), .sl 0 [], .sl 0 [], .v (.int .i64 (0)), .v (.int .i64 (0)), .v (.bool false)], [.v (.int .i64 (1)), .v (.string ⟨#[]⟩), .v (.int .i64 (0)), .v (.int .i64 (0)), .v (.int .i64 (0)), .sl 0 [], .sl 0 [], .v (.int .i64 (0)), .v (.int .i64 (0)), .v (.bool false)]])]]
def res4 : ARes := { vals := [(false, [.d (.v (.int .i64 (0)))])] }
def T4 : CallT := (152, args4, res4) :: T3
def args5 : List Arg := [.val true [.d (.sl 10 [[.v (.int .i64 (2)), .v (.string ⟨#[]⟩), .v (.int .i64 (0)), .v (.int .i64 (5)), .v (.int .i64 (0)), .sl 0 [], .sl 0 [], .v (.int .i64 (0)), .v (.int .i64 (0)), .v (.bool false)], [.v (.int .i64 (1)), .v (.string ⟨#[]⟩), .v (.int .i64 (0)), .v (.int .i64 (0)), .v (.int .i64 (0)), .sl 0 [], .sl 0 [], .v (.int .i64 (0)), .v (.int .i64 (0)), .v (.bool false)]])]]
def res5 : ARes := { vals := [(false, [.d (.v (.int .i64 (0)))])] }
def T5 : CallT := (95, args5, res5) :: T4
def args6 : List Arg := [.val true [.d (.v (.string ⟨#[118]⟩)), .d (.sl 10 [[.v (.int .i64 (2)), .v (.string ⟨#[]⟩), .v (.int .i64 (0)), .v (.int .i64 (5)), .v (.int .i64 (0)), .sl 0 [], .sl 0 [], .v (.int .i64 (0)), .v (.int .i64 (0)), .v (.bool false)], [.v (.int .i64 (1)), .v (.string ⟨#[]⟩), .v (.int .i64 (0)), .v (.int .i64 (0)), .v (.int .i64 (0)), .sl 0 [], .sl 0 [], .v (.int .i64 (0)), .v (.int .i64 (0)), .v (.bool false)]]), .d (.sl 3 [[.v (.string ⟨#[71, 101, 116]⟩), .v (.int .i64 (0)), .v (.int .i64 (1))]]), .zero, .zero]]
def res6 : ARes := { vals := [(false, [.d (.v (.int .i64 (0)))])] }
def T6 : CallT := (52, args6, res6) :: T5
def args7 : List Arg := [.val true [.d (.sl 10 [[.v (.int .i64 (2)), .v (.string ⟨#[]⟩), .v (.int .i64 (0)), .v (.int .i64 (9)), .v (.int .i64 (0)), .sl 0 [], .sl 0 [], .v (.int .i64 (0)), .v (.int .i64 (0)), .v (.bool false)], [.v (.int .i64 (1)), .v (.string ⟨#[]⟩), .v (.int .i64 (0)), .v (.int .i64 (0)), .v (.int .i64 (0)), .sl 0 [], .sl 0 [], .v (.int .i64 (0)), .v (.int .i64 (0)), .v (.bool false)]])], .val false [.d (.v (.int .i64 (0)))], .val true [.d (.v (.int .i64 (2))), .d (.v (.bool false)), .d (.v (.int .i64 (0))), .d (.v (.string ⟨#[]⟩)), .d (.v (.int .i64 (0))), .zero, .zero, .zero]]
def res7 : ARes := { vals := [(false, [.d (.v (.int .i64 (0)))]), (false, [.d (.v (.int .i64 (0)))])] }
def T7 : CallT := (289, args7, res7) :: T6
def args8 : List Arg := [.val true [.d (.sl 10 [[.v (.int .i64 (2)), .v (.string ⟨#[]⟩), .v (.int .i64 (0)), .v (.int .i64 (9)), .v (.int .i64 (0)), .sl 0 [], .sl 0 [], .v (.int .i64 (0)), .v (.int .i64 (0)), .v (.bool false)], [.v (.int .i64 (1)), .v (.string ⟨#[]⟩), .v (.int .i64 (0)), .v (.int .i64 (0)), .v (.int .i64 (0)), .sl 0 [], .sl 0 [], .v (.int .i64 (0)), .v (.int .i64 (0)), .v (.bool false)]])], .val false [.d (.v (.int .i64 (0)))], .val true [.d (.v (.int .i64 (2))), .d (.v (.bool false)), .d (.v (.int .i64 (0))), .d (.v (.string ⟨#[]⟩)), .d (.v (.int .i64 (0))), .zero, .zero, .zero]]
def res8 : ARes := { vals := [(false, [.d (.v (.string ⟨#[]⟩))]), (false, [.d (.v (.int .i64 (0)))])] }
def T8 : CallT := (70, args8, res8) :: T7
def args9 : List Arg := [.val true [.d (.sl 10 [[.v (.int .i64 (2)), .v (.string ⟨#[]⟩), .v (.int .i64 (0)), .v (.int .i64 (9)), .v (.int .i64 (0)), .sl 0 [], .sl 0 [], .v (.int .i64 (0)), .v (.int .i64 (0)), .v (.bool false)], [.v (.int .i64 (1)), .v (.string ⟨#[]⟩), .v (.int .i64 (0)), .v (.int .i64 (0)), .v (.int .i64 (0)), .sl 0 [], .sl 0 [], .v (.int .i64 (0)), .v (.int .i64 (0)), .v (.bool false)]])], .val false [.d (.v (.int .i64 (1)))], .val true [.d (.v (.int .i64 (1))), .d (.v (.bool false)), .d (.v (.int .i64 (0))), .d (.v (.string ⟨#[]⟩)), .d (.v (.int .i64 (0))), .zero, .zero, .zero]]
def res9 : ARes := { vals := [(false, [.d (.v (.int .i64 (0)))]), (false, [.d (.v (.int .i64 (0)))])] }
def T9 : CallT := (289, args9, res9) :: T8
def args10 : List Arg := [.val true [.d (.sl 10 [[.v (.int .i64 (2)), .v (.string ⟨#[]⟩), .v (.int .i64 (0)), .v (.int .i64 (9)), .v (.int .i64 (0)), .sl 0 [], .sl 0 [], .v (.int .i64 (0)), .v (.int .i64 (0)), .v (.bool false)], [.v (.int .i64 (1)), .v (.string ⟨#[]⟩), .v (.int .i64 (0)), .v (.int .i64 (0)), .v (.int .i64 (0)), .sl 0 [], .sl 0 [], .v (.int .i64 (0)), .v (.int .i64 (0)), .v (.bool false)]])], .val false [.d (.v (.int .i64 (1)))], .val true [.d (.v (.int .i64 (1))), .d (.v (.bool false)), .d (.v (.int .i64 (0))), .d (.v (.string ⟨#[]⟩)), .d (.v (.int .i64 (0))), .zero, .zero, .zero]]
def res10 : ARes := { vals := [(false, [.d (.v (.string ⟨#[]⟩))]), (false, [.d (.v (.int .i64 (0)))])] }
def T10 : CallT := (70, args10, res10) :: T9
def args11 : List Arg := [.val true [.d (.sl 10 [[.v (.int .i64 (2)), .v (.string ⟨#[]⟩), .v (.int .i64 (0)), .v (.int .i64 (9)), .v (.int .i64 (0)), .sl 0 [], .sl 0 [], .v (.int .i64 (0)), .v (.int .i64 (0)), .v (.bool false)], [.v (.int .i64 (1)), .v (.string ⟨#[]⟩), .v (.int .i64 (0)), .v (.int .i64 (0)), .v (.int .i64 (0)), .sl 0 [], .sl 0 [], .v (.int .i64 (0)), .v (.int .i64 (0)), .v (.bool false)]])], .val false [.d (.v (.int .i64 (0)))]]
def res11 : ARes := { vals := [(true, [.d (.v (.int .i64 (2))), .d (.v (.bool false)), .d (.v (.int .i64 (0))), .d (.v (.string ⟨#[]⟩)), .d (.v (.int .i64 (0))), .d (.sl 8 []), .d (.sl 8 []), .d (.sl 2 [])]), (false, [.d (.v (.int .i64 (0)))])] }
def T11 : CallT := (69, args11, res11) :: T10
def args12 : List Arg := [.val true [.d (.sl 10 [[.v (.int .i64 (2)), .v (.string ⟨#[]⟩), .v (.int .i64 (0)), .v (.int .i64 (9)), .v (.int .i64 (0)), .sl 0 [], .sl 0 [], .v (.int .i64 (0)), .v (.int .i64 (0)), .v (.bool false)], [.v (.int .i64 (1)), .v (.string ⟨#[]⟩), .v (.int .i64 (0)), .v (.int .i64 (0)), .v (.int .i64 (0)), .sl 0 [], .sl 0 [], .v (.int .i64 (0)), .v (.int .i64 (0)), .v (.bool false)]])], .val false [.d (.v (.int .i64 (0)))], .val true [.d (.v (.int .i64 (2))), .d (.v (.bool false)), .d (.v (.int .i64 (0))), .d (.v (.string ⟨#[]⟩)), .d (.v (.int .i64 (0))), .d (.sl 8 []), .d (.sl 8 []), .d (.sl 2 [])]]
def res12 : ARes := { vals := [(false, [.d (.v (.string ⟨#[]⟩))]), (false, [.d (.v (.int .i64 (0)))])] }
def T12 : CallT := (70, args12, res12) :: T11
def args13 : List Arg := [.val true [.d (.sl 10 [[.v (.int .i64 (2)), .v (.string ⟨#[]⟩), .v (.int .i64 (0)), .v (.int .i64 (9)), .v (.int .i64 (0)), .sl 0 [], .sl 0 [], .v (.int .i64 (0)), .v (.int .i64 (0)), .v (.bool false)], [.v (.int .i64 (1)), .v (.string ⟨#[]⟩), .v (.int .i64 (0)), .v (.int .i64 (0)), .v (.int .i64 (0)), .sl 0 [], .sl 0 [], .v (.int .i64 (0)), .v (.int .i64 (0)), .v (.bool false)]])], .val false [.d (.v (.int .i64 (1)))]]
def res13 : ARes := { vals := [(true, [.d (.v (.int .i64 (1))), .d (.v (.bool false)), .d (.v (.int .i64 (0))), .d (.v (.string ⟨#[]⟩)), .d (.v (.int .i64 (0))), .d (.sl 8 []), .d (.sl 8 []), .d (.sl 2 [])]), (false, [.d (.v (.int .i64 (0)))])] }
def T13 : CallT := (69, args13, res13) :: T12
def args14 : List Arg := [.val true [.d (.sl 10 [[.v (.int .i64 (2)), .v (.string ⟨#[]⟩), .v (.int .i64 (0)), .v (.int .i64 (9)), .v (.int .i64 (0)), .sl 0 [], .sl 0 [], .v (.int .i64 (0)), .v (.int .i64 (0)), .v (.bool false)], [.v (.int .i64 (1)), .v (.string ⟨#[]⟩), .v (.int .i64 (0)), .v (.int .i64 (0)), .v (.int .i64 (0)), .sl 0 [], .sl 0 [], .v (.int .i64 (0)), .v (.int .i64 (0)), .v (.bool false)]])], .val false [.d (.v (.int .i64 (1)))], .val true [.d (.v (.int .i64 (1))), .d (.v (.bool false)), .d (.v (.int .i64 (0))), .d (.v (.string ⟨#[]⟩)), .d (.v (.int .i64 (0))), .d (.sl 8 []), .d (.sl 8 []), .d (.sl 2 [])]]
def res14 : ARes := { vals := [(false, [.d (.v (.string ⟨#[]⟩))]), (false, [.d (.v (.int .i64 (0)))])] }
def T14 : CallT := (70, args14, res14) :: T13
def args15 : List Arg := [.val true [.d (.sl 10 [[.v (.int .i64 (2)), .v (.string ⟨#[]⟩), .v (.int .i64 (0)), .v (.int .i64 (9)), .v (.int .i64 (0)), .sl 0 [], .sl 0 [], .v (.int .i64 (0)), .v (.int .i64 (0)), .v (.bool false)], [.v (.int .i64 (1)), .v (.string ⟨#[]⟩), .v (.int .i64 (0)), .v (.int .i64 (0)), .v (.int .i64 (0)), .sl 0 [], .sl 0 [], .v (.int .i64 (0)), .v (.int .i64 (0)), .v (.bool false)]])], .val false [.d (.v (.int .i64 (0)))], .val true [.d (.sl 10 [[.v (.int .i64 (2)), .v (.string ⟨#[]⟩), .v (.int .i64 (0)), .v (.int .i64 (5)), .v (.int .i64 (0)), .sl 0 [], .sl 0 [], .v (.int .i64 (0)), .v (.int .i64 (0)), .v (.bool false)], [.v (.int .i64 (1)), .v (.string ⟨#[]⟩), .v (.int .i64 (0)), .v (.int .i64 (0)), .v (.int .i64 (0)), .sl 0 [], .sl 0 [], .v (.int .i64 (0)), .v (.int .i64 (0)), .v (.bool false)]])], .val false [.d (.v (.int .i64 (0)))]]
def res15 : ARes := { vals := [(false, [.d (.v (.int .i64 (2)))]), (false, [.d (.v (.int .i64 (0)))])] }
def T15 : CallT := (269, args15, res15) :: T14
def args16 : List Arg := [.val true [.d (.sl 10 [[.v (.int .i64 (2)), .v (.string ⟨#[]⟩), .v (.int .i64 (0)), .v (.int .i64 (9)), .v (.int .i64 (0)), .sl 0 [], .sl 0 [], .v (.int .i64 (0)), .v (.int .i64 (0)), .v (.bool false)], [.v (.int .i64 (1)), .v (.string ⟨#[]⟩), .v (.int .i64 (0)), .v (.int .i64 (0)), .v (.int .i64 (0)), .sl 0 [], .sl 0 [], .v (.int .i64 (0)), .v (.int .i64 (0)), .v (.bool false)]])], .val false [.d (.v (.int .i64 (0)))], .val true [.d (.v (.int .i64 (2))), .d (.v (.bool false)), .d (.v (.int .i64 (6))), .d (.v (.string ⟨#[]⟩)), .d (.v (.int .i64 (0))), .zero, .zero, .zero]]
def res16 : ARes := { vals := [(false, [.d (.v (.string ⟨#[12]⟩))]), (false, [.d (.v (.int .i64 (0)))])] }
def T16 : CallT := (70, args16, res16) :: T15
def args17 : List Arg := [.val true [.d (.sl 10 [[.v (.int .i64 (2)), .v (.string ⟨#[]⟩), .v (.int .i64 (0)), .v (.int .i64 (9)), .v (.int .i64 (0)), .sl 0 [], .sl 0 [], .v (.int .i64 (0)), .v (.int .i64 (0)), .v (.bool false)], [.v (.int .i64 (1)), .v (.string ⟨#[]⟩), .v (.int .i64 (0)), .v (.int .i64 (0)), .v (.int .i64 (0)), .sl 0 [], .sl 0 [], .v (.int .i64 (0)), .v (.int .i64 (0)), .v (.bool false)]])], .val false [.d (.v (.int .i64 (0)))], .val true [.d (.sl 10 [[.v (.int .i64 (2)), .v (.string ⟨#[]⟩), .v (.int .i64 (0)), .v (.int .i64 (5)), .v (.int .i64 (0)), .sl 0 [], .sl 0 [], .v (.int .i64 (0)), .v (.int .i64 (0)), .v (.bool false)], [.v (.int .i64 (1)), .v (.string ⟨#[]⟩), .v (.int .i64 (0)), .v (.int .i64 (0)), .v (.int .i64 (0)), .sl 0 [], .sl 0 [], .v (.int .i64 (0)), .v (.int .i64 (0)), .v (.bool false)]])], .val false [.d (.v (.int .i64 (1)))]]
def res17 : ARes := { vals := [(false, [.d (.v (.int .i64 (9)))]), (false, [.d (.v (.int .i64 (0)))])] }
def T17 : CallT := (269, args17, res17) :: T16
def args18 : List Arg := [.val true [.d (.sl 10 [[.v (.int .i64 (2)), .v (.string ⟨#[]⟩), .v (.int .i64 (0)), .v (.int .i64 (9)), .v (.int .i64 (0)), .sl 0 [], .sl 0 [], .v (.int .i64 (0)), .v (.int .i64 (0)), .v (.bool false)], [.v (.int .i64 (1)), .v (.string ⟨#[]⟩), .v (.int .i64 (0)), .v (.int .i64 (0)), .v (.int .i64 (0)), .sl 0 [], .sl 0 [], .v (.int .i64 (0)), .v (.int .i64 (0)), .v (.bool false)]])], .val false [.d (.v (.int .i64 (1)))], .val true [.d (.sl 10 [[.v (.int .i64 (2)), .v (.string ⟨#[]⟩), .v (.int .i64 (0)), .v (.int .i64 (5)), .v (.int .i64 (0)), .sl 0 [], .sl 0 [], .v (.int .i64 (0)), .v (.int .i64 (0)), .v (.bool false)], [.v (.int .i64 (1)), .v (.string ⟨#[]⟩), .v (.int .i64 (0)), .v (.int .i64 (0)), .v (.int .i64 (0)), .sl 0 [], .sl 0 [], .v (.int .i64 (0)), .v (.int .i64 (0)), .v (.bool false)]])], .val false [.d (.v (.int .i64 (0)))]]
def res18 : ARes := { vals := [(false, [.d (.v (.int .i64 (9)))]), (false, [.d (.v (.int .i64 (0)))])] }
def T18 : CallT := (269, args18, res18) :: T17
def args19 : List Arg := [.val true [.d (.sl 10 [[.v (.int .i64 (2)), .v (.string ⟨#[]⟩), .v (.int .i64 (0)), .v (.int .i64 (9)), .v (.int .i64 (0)), .sl 0 [], .sl 0 [], .v (.int .i64 (0)), .v (.int .i64 (0)), .v (.bool false)], [.v (.int .i64 (1)), .v (.string ⟨#[]⟩), .v (.int .i64 (0)), .v (.int .i64 (0)), .v (.int .i64 (0)), .sl 0 [], .sl 0 [], .v (.int .i64 (0)), .v (.int .i64 (0)), .v (.bool false)]])], .val false [.d (.v (.int .i64 (1)))], .val true [.d (.sl 10 [[.v (.int .i64 (2)), .v (.string ⟨#[]⟩), .v (.int .i64 (0)), .v (.int .i64 (5)), .v (.int .i64 (0)), .sl 0 [], .sl 0 [], .v (.int .i64 (0)), .v (.int .i64 (0)), .v (.bool false)], [.v (.int .i64 (1)), .v (.string ⟨#[]⟩), .v (.int .i64 (0)), .v (.int .i64 (0)), .v (.int .i64 (0)), .sl 0 [], .sl 0 [], .v (.int .i64 (0)), .v (.int .i64 (0)), .v (.bool false)]])], .val false [.d (.v (.int .i64 (1)))]]
def res19 : ARes := { vals := [(false, [.d (.v (.int .i64 (0)))]), (false, [.d (.v (.int .i64 (0)))])] }
def T19 : CallT := (269, args19, res19) :: T18
def args20 : List Arg := [.val true [.d (.sl 10 [[.v (.int .i64 (2)), .v (.string ⟨#[]⟩), .v (.int .i64 (0)), .v (.int .i64 (9)), .v (.int .i64 (0)), .sl 0 [], .sl 0 [], .v (.int .i64 (0)), .v (.int .i64 (0)), .v (.bool false)], [.v (.int .i64 (1)), .v (.string ⟨#[]⟩), .v (.int .i64 (0)), .v (.int .i64 (0)), .v (.int .i64 (0)), .sl 0 [], .sl 0 [], .v (.int .i64 (0)), .v (.int .i64 (0)), .v (.bool false)]])], .val false [.d (.v (.int .i64 (0)))], .val true [.d (.v (.int .i64 (2))), .d (.v (.bool false)), .d (.v (.int .i64 (6))), .d (.v (.string ⟨#[]⟩)), .d (.v (.int .i64 (0))), .d (.sl 0 []), .d (.sl 0 []), .d (.sl 0 [])]]
def res20 : ARes := { vals := [(false, [.d (.v (.string ⟨#[12]⟩))]), (false, [.d (.v (.int .i64 (0)))])] }
def T20 : CallT := (70, args20, res20) :: T19
def args21 : List Arg := [.val true [.d (.sl 10 [[.v (.int .i64 (2)), .v (.string ⟨#[]⟩), .v (.int .i64 (0)), .v (.int .i64 (9)), .v (.int .i64 (0)), .sl 0 [], .sl 0 [], .v (.int .i64 (0)), .v (.int .i64 (0)), .v (.bool false)], [.v (.int .i64 (1)), .v (.string ⟨#[]⟩), .v (.int .i64 (0)), .v (.int .i64 (0)), .v (.int .i64 (0)), .sl 0 [], .sl 0 [], .v (.int .i64 (0)), .v (.int .i64 (0)), .v (.bool false)]]), .d (.v (.int .i64 (0)))], .val true [.d (.sl 10 [[.v (.int .i64 (2)), .v (.string ⟨#[]⟩), .v (.int .i64 (0)), .v (.int .i64 (5)), .v (.int .i64 (0)), .sl 0 [], .sl 0 [], .v (.int .i64 (0)), .v (.int .i64 (0)), .v (.bool false)], [.v (.int .i64 (1)), .v (.string ⟨#[]⟩), .v (.int .i64 (0)), .v (.int .i64 (0)), .v (.int .i64 (0)), .sl 0 [], .sl 0 [], .v (.int .i64 (0)), .v (.int .i64 (0)), .v (.bool false)]]), .d (.v (.int .i64 (0)))]]
def res21 : ARes := { vals := [(true, [.d (.v (.int .i64 (2))), .d (.v (.bool false)), .d (.v (.int .i64 (6))), .d (.v (.string ⟨#[]⟩)), .d (.v (.int .i64 (0))), .d (.sl 0 []), .d (.sl 0 []), .d (.sl 0 [])]), (false, [.d (.v (.string ⟨#[12]⟩))]), (false, [.d (.v (.int .i64 (0)))])] }
def T21 : CallT := (55, args21, res21) :: T20
def args22 : List Arg := [.val true [.d (.v (.string ⟨#[118]⟩)), .d (.sl 10 [[.v (.int .i64 (2)), .v (.string ⟨#[]⟩), .v (.int .i64 (0)), .v (.int .i64 (9)), .v (.int .i64 (0)), .sl 0 [], .sl 0 [], .v (.int .i64 (0)), .v (.int .i64 (0)), .v (.bool false)], [.v (.int .i64 (1)), .v (.string ⟨#[]⟩), .v (.int .i64 (0)), .v (.int .i64 (0)), .v (.int .i64 (0)), .sl 0 [], .sl 0 [], .v (.int .i64 (0)), .v (.int .i64 (0)), .v (.bool false)]]), .d (.sl 3 [[.v (.string ⟨#[71, 101, 116]⟩), .v (.int .i64 (0)), .v (.int .i64 (1))]]), .zero, .zero], .val true [.d (.v (.string ⟨#[118]⟩)), .d (.sl 10 [[.v (.int .i64 (2)), .v (.string ⟨#[]⟩), .v (.int .i64 (0)), .v (.int .i64 (5)), .v (.int .i64 (0)), .sl 0 [], .sl 0 [], .v (.int .i64 (0)), .v (.int .i64 (0)), .v (.bool false)], [.v (.int .i64 (1)), .v (.string ⟨#[]⟩), .v (.int .i64 (0)), .v (.int .i64 (0)), .v (.int .i64 (0)), .sl 0 [], .sl 0 [], .v (.int .i64 (0)), .v (.int .i64 (0)), .v (.bool false)]]), .d (.sl 3 [[.v (.string ⟨#[71, 101, 116]⟩), .v (.int .i64 (0)), .v (.int .i64 (1))]]), .zero, .zero], .val false [.d (.v (.string ⟨#[71, 101, 116]⟩))]]
def res22 : ARes := { vals := [(true, [.d (.v (.int .i64 (2))), .d (.v (.int .i64 (0))), .d (.v (.string ⟨#[12]⟩)), .zero]), (false, [.d (.v (.int .i64 (0)))])] }
def T22 : CallT := (7, args22, res22) :: T21
def args23 : List Arg := [.val true [.d (.v (.string ⟨#[118]⟩)), .d (.sl 10 [[.v (.int .i64 (2)), .v (.string ⟨#[]⟩), .v (.int .i64 (0)), .v (.int .i64 (5)), .v (.int .i64 (0)), .sl 0 [], .sl 0 [], .v (.int .i64 (0)), .v (.int .i64 (0)), .v (.bool false)], [.v (.int .i64 (1)), .v (.string ⟨#[]⟩), .v (.int .i64 (0)), .v (.int .i64 (0)), .v (.int .i64 (0)), .sl 0 [], .sl 0 [], .v (.int .i64 (0)), .v (.int .i64 (0)), .v (.bool false)]]), .zero, .zero, .zero]]
def res23 : ARes := { vals := [(false, [.d (.v (.int .i64 (0)))])] }
def T23 : CallT := (52, args23, res23) :: T22
def args24 : List Arg := [.val true [.d (.v (.string ⟨#[118]⟩)), .d (.sl 10 [[.v (.int .i64 (2)), .v (.string ⟨#[]⟩), .v (.int .i64 (0)), .v (.int .i64 (9)), .v (.int .i64 (0)), .sl 0 [], .sl 0 [], .v (.int .i64 (0)), .v (.int .i64 (0)), .v (.bool false)], [.v (.int .i64 (1)), .v (.string ⟨#[]⟩), .v (.int .i64 (0)), .v (.int .i64 (0)), .v (.int .i64 (0)), .sl 0 [], .sl 0 [], .v (.int .i64 (0)), .v (.int .i64 (0)), .v (.bool false)]]), .d (.sl 3 [[.v (.string ⟨#[71, 101, 116]⟩), .v (.int .i64 (0)), .v (.int .i64 (1))]]), .zero, .zero], .val true [.d (.v (.string ⟨#[118]⟩)), .d (.sl 10 [[.v (.int .i64 (2)), .v (.string ⟨#[]⟩), .v (.int .i64 (0)), .v (.int .i64 (5)), .v (.int .i64 (0)), .sl 0 [], .sl 0 [], .v (.int .i64 (0)), .v (.int .i64 (0)), .v (.bool false)], [.v (.int .i64 (1)), .v (.string ⟨#[]⟩), .v (.int .i64 (0)), .v (.int .i64 (0)), .v (.int .i64 (0)), .sl 0 [], .sl 0 [], .v (.int .i64 (0)), .v (.int .i64 (0)), .v (.bool false)]]), .zero, .zero, .zero], .val false [.d (.v (.string ⟨#[71, 101, 116]⟩))]]
def res24 : ARes := { vals := [(true, [.d (.v (.int .i64 (1))), .d (.v (.int .i64 (0))), .d (.v (.string ⟨#[]⟩)), .zero]), (false, [.d (.v (.int .i64 (0)))])] }
def T24 : CallT := (7, args24, res24) :: T23
def args25 : List Arg := [.val true [.d (.v (.string ⟨#[118]⟩)), .d (.sl 10 [[.v (.int .i64 (2)), .v (.string ⟨#[]⟩), .v (.int .i64 (0)), .v (.int .i64 (9)), .v (.int .i64 (0)), .sl 0 [], .sl 0 [], .v (.int .i64 (0)), .v (.int .i64 (0)), .v (.bool false)], [.v (.int .i64 (1)), .v (.string ⟨#[]⟩), .v (.int .i64 (0)), .v (.int .i64 (0)), .v (.int .i64 (0)), .sl 0 [], .sl 0 [], .v (.int .i64 (0)), .v (.int .i64 (0)), .v (.bool false)]]), .zero, .zero, .zero]]
def res25 : ARes := { vals := [(false, [.d (.v (.int .i64 (0)))])] }
def T25 : CallT := (52, args25, res25) :: T24
def args26 : List Arg := [.val true [.d (.v (.string ⟨#[118]⟩)), .d (.sl 10 [[.v (.int .i64 (2)), .v (.string ⟨#[]⟩), .v (.int .i64 (0)), .v (.int .i64 (9)), .v (.int .i64 (0)), .sl 0 [], .sl 0 [], .v (.int .i64 (0)), .v (.int .i64 (0)), .v (.bool false)], [.v (.int .i64 (1)), .v (.string ⟨#[]⟩), .v (.int .i64 (0)), .v (.int .i64 (0)), .v (.int .i64 (0)), .sl 0 [], .sl 0 [], .v (.int .i64 (0)), .v (.int .i64 (0)), .v (.bool false)]]), .zero, .zero, .zero], .val true [.d (.v (.string ⟨#[118]⟩)), .d (.sl 10 [[.v (.int .i64 (2)), .v (.string ⟨#[]⟩), .v (.int .i64 (0)), .v (.int .i64 (5)), .v (.int .i64 (0)), .sl 0 [], .sl 0 [], .v (.int .i64 (0)), .v (.int .i64 (0)), .v (.bool false)], [.v (.int .i64 (1)), .v (.string ⟨#[]⟩), .v (.int .i64 (0)), .v (.int .i64 (0)), .v (.int .i64 (0)), .sl 0 [], .sl 0 [], .v (.int .i64 (0)), .v (.int .i64 (0)), .v (.bool false)]]), .d (.sl 3 [[.v (.string ⟨#[71, 101, 116]⟩), .v (.int .i64 (0)), .v (.int .i64 (1))]]), .zero, .zero], .val false [.d (.v (.string ⟨#[71, 101, 116]⟩))]]
def res26 : ARes := { vals := [(true, [.d (.v (.int .i64 (0))), .d (.v (.int .i64 (0))), .d (.v (.string ⟨#[]⟩)), .zero]), (false, [.d (.v (.int .i64 (0)))])] }
def T26 : CallT := (7, args26, res26) :: T25
def args27 : List Arg := [.val false [.d (.v (.string ⟨#[12]⟩))]]
def res27 : ARes := { vals := [(false, [.d (.v (.string ⟨#[34, 92, 120, 48, 99, 34]⟩))])] }
def T27 : CallT := (39, args27, res27) :: T26
def args28 : List Arg := [.val true [.d (.v (.string ⟨#[118]⟩)), .d (.sl 10 [[.v (.int .i64 (2)), .v (.string ⟨#[]⟩), .v (.int .i64 (0)), .v (.int .i64 (9)), .v (.int .i64 (0)), .sl 0 [], .sl 0 [], .v (.int .i64 (0)), .v (.int .i64 (0)), .v (.bool false)], [.v (.int .i64 (1)), .v (.string ⟨#[]⟩), .v (.int .i64 (0)), .v (.int .i64 (0)), .v (.int .i64 (0)), .sl 0 [], .sl 0 [], .v (.int .i64 (0)), .v (.int .i64 (0)), .v (.bool false)]]), .d (.sl 3 [[.v (.string ⟨#[71, 101, 116]⟩), .v (.int .i64 (0)), .v (.int .i64 (1))]]), .zero, .zero], .val true [.d (.v (.string ⟨#[118]⟩)), .d (.sl 10 [[.v (.int .i64 (2)), .v (.string ⟨#[]⟩), .v (.int .i64 (0)), .v (.int .i64 (5)), .v (.int .i64 (0)), .sl 0 [], .sl 0 [], .v (.int .i64 (0)), .v (.int .i64 (0)), .v (.bool false)], [.v (.int .i64 (1)), .v (.string ⟨#[]⟩), .v (.int .i64 (0)), .v (.int .i64 (0)), .v (.int .i64 (0)), .sl 0 [], .sl 0 [], .v (.int .i64 (0)), .v (.int .i64 (0)), .v (.bool false)]]), .d (.sl 3 [[.v (.string ⟨#[71, 101, 116]⟩), .v (.int .i64 (0)), .v (.int .i64 (1))]]), .zero, .zero], .val true [.d (.v (.int .i64 (1))), .d (.v (.string ⟨#[71, 101, 116]⟩)), .d (.v (.int .i64 (0))), .d (.v (.int .i64 (0))), .d (.v (.bool false)), .d (.v (.int .i64 (0)))], .val true [.d (.v (.int .i64 (2))), .d (.v (.int .i64 (0))), .d (.v (.string ⟨#[12]⟩)), .zero]]
def res28 : ARes := { vals := [(false, [.d (.v (.string ⟨#[114, 101, 113, 117, 101, 115, 116, 32, 34, 92, 120, 48, 99, 34, 10]⟩))]), (false, [.d (.v (.int .i64 (0)))])] }
def T28 : CallT := (11, args28, res28) :: T27
end Go.Proofs.YtgehafnodibhpaaGreatDoor

