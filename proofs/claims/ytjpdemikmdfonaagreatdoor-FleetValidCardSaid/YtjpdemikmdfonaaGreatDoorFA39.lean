/- Rules of runs and contracts of functions, for the claims of one seat. -/
import Derived.Test.YtjpdemikmdfonaaGreatDoorFA38
namespace Go.Proofs.YtjpdemikmdfonaaGreatDoor
open Go Go.RowKit
set_option linter.unusedSimpArgs false
set_option linter.unusedVariables false
def bigX : List Arg → Option ARes
 | [.val false [.d (.v (.int .u64 n))]] => if n = 0 then some { vals := [(false, [.d (.v (.string ⟨#[]⟩))])] } else if n = 12 then some { vals := [(false, [.d (.v (.string ⟨#[12]⟩))])] } else none
 | _ => none
theorem big_fn {args : List Arg} {r : ARes} (he : bigX args = some r) : FnSound Tryz.prog 239 args [] r := by
 unfold bigX at he
 split at he
 ·rename_i n
  have key : ∀ s : ByteArray, (∀ w : World, Calls Tryz.prog 239 #[.int .u64 n] w fun e w' => e = .returned (.string s) ∧ Below w.heap.size w w') → FnSound Tryz.prog 239 [.val false [.d (.v (.int .u64 n))]] [] { vals := [(false, [.d (.v (.string s))])] } := fun s hC => by
   refine fn_data rfl fun V X Z ρ w vals hl hR => ?_
   have hv := vals_one hl
   have h1 := conV_sound (x := .int .u64 n) rfl (args_val hR (i := 0) rfl).2
   rw [h1] at hv
   rw [hv]
   refine (hC w).mono ?_
   rintro e w' ⟨rfl, hb⟩
   exact ⟨_, rfl, hb, fun S hS ρ' ok' => one1 (.v rfl)⟩
  split at he
  ·rename_i h0; subst h0; cases he; exact key _ big0
  ·split at he
   ·rename_i h0; subst h0; cases he; exact key _ big12
   ·cases he
 ·cases he
def extF : CallF := fun f args bxs => match bxs with
 | [] =>
  if f = 55 then cloneX 3 1 8 args
  else if f = 54 then cloneX 4 1 1 args
  else if f = 53 then cloneX 39 1 24 args
  else if f = 74 then cloneX 73 10 120 args
  else if f = 239 then bigX args
  else none
 | _ => none
theorem extF_ok : CallOk Tryz.prog extF := by
 intro f args bxs r he
 unfold extF at he
 split at he
 ·split at he
  ·rename_i h; subst h; exact clone_fn (by omega) (fun A n c xs w h1 h2 h3 h4 => cloneInt A n c xs w h1 h2 h3 h4) he
  ·split at he
   ·rename_i h; subst h; exact clone_fn (by omega) (fun A n c xs w h1 h2 h3 h4 => cloneBool A n c xs w h1 h2 h3 h4) he
   ·split at he
    ·rename_i h; subst h; exact clone_fn (by omega) (fun A n c xs w h1 h2 h3 h4 => cloneRow A n c xs w h1 h2 h3 h4) he
    ·split at he
     ·rename_i h; subst h; exact clone_fn (by omega) (fun A n c xs w h1 h2 h3 h4 => cloneTyp A n c xs w h1 h2 h3 h4) he
     ·split at he
      ·rename_i h; subst h; exact big_fn he
      ·cases he
 ·cases he
def scalT (P : Program) (t : TypeId) : Bool := match P.underlying t with
 | some (.int _) => true
 | some .bool => true
 | some .string => true
 | _ => false
def isPtrT (P : Program) (t : TypeId) : Bool := match P.underlying t with
 | some (.pointer _) => true
 | _ => false
def lendP (P : Program) (f : FuncId) : Bool := match P.funcs[f]? with
 | some fn => fn.resultTypes.toList.all (scalT P) && !fn.params.toList.any (isPtrT P)
 | none => false
def lendL : List FuncId := [235, 276, 312, 313]
noncomputable def annT (T : CallT) : Ann := { own := fun f => f == 218, lend := fun f => lendL.contains f || lendP Tryz.prog f, cl := fun _ s => s, ext := extT T extF }
theorem annT_ok {T : CallT} (h : TabOk Tryz.prog T) (n : Nat) : CallOk Tryz.prog (acall Tryz.prog (annT T) n) := acall_ok (by kernel_rfl) (extT_ok h extF_ok) (fun _ _ _ _ _ _ _ _ _ h => h) n
def T0 : CallT := []
theorem T0_ok : TabOk Tryz.prog T0 := trivial
set_option maxRecDepth 100000
def args1 : List Arg := [.val true [.d (.sl 10 [[.v (.int .i64 (2)), .v (.string ⟨#[]⟩), .v (.int .i64 (0)), .v (.int .i64 (9)), .v (.int .i64 (0)), .sl 0 [], .sl 0 [], .v (.int .i64 (0)), .v (.int .i64 (0)), .v (.bool false)]])]]
def res1 : ARes := { vals := [(false, [.d (.v (.int .i64 (0)))])] }
theorem run1 : acall Tryz.prog (annT T0) 40 79 args1 [] = some res1 := by kernel_rfl
def T1 : CallT := (79, args1, res1) :: T0
theorem T1_ok : TabOk Tryz.prog T1 := ⟨annT_ok T0_ok 40 _ _ _ _ run1, T0_ok⟩
def args2 : List Arg := [.val true [.d (.sl 10 [[.v (.int .i64 (2)), .v (.string ⟨#[]⟩), .v (.int .i64 (0)), .v (.int .i64 (5)), .v (.int .i64 (0)), .sl 0 [], .sl 0 [], .v (.int .i64 (0)), .v (.int .i64 (0)), .v (.bool false)]])]]
def res2 : ARes := { vals := [(false, [.d (.v (.int .i64 (0)))])] }
theorem run2 : acall Tryz.prog (annT T1) 40 79 args2 [] = some res2 := by kernel_rfl
def T2 : CallT := (79, args2, res2) :: T1
theorem T2_ok : TabOk Tryz.prog T2 := ⟨annT_ok T1_ok 40 _ _ _ _ run2, T1_ok⟩
def args3 : List Arg := [.val true [.d (.sl 10 [[.v (.int .i64 (2)), .v (.string ⟨#[]⟩), .v (.int .i64 (0)), .v (.int .i64 (9)), .v (.int .i64 (0)), .sl 0 [], .sl 0 [], .v (.int .i64 (0)), .v (.int .i64 (0)), .v (.bool false)]])]]
def res3 : ARes := { vals := [(false, [.d (.v (.int .i64 (0)))])] }
theorem run3 : acall Tryz.prog (annT T2) 40 57 args3 [] = some res3 := by kernel_rfl
def T3 : CallT := (57, args3, res3) :: T2
theorem T3_ok : TabOk Tryz.prog T3 := ⟨annT_ok T2_ok 40 _ _ _ _ run3, T2_ok⟩
def args4 : List Arg := [.val true [.d (.sl 10 [[.v (.int .i64 (2)), .v (.string ⟨#[]⟩), .v (.int .i64 (0)), .v (.int .i64 (5)), .v (.int .i64 (0)), .sl 0 [], .sl 0 [], .v (.int .i64 (0)), .v (.int .i64 (0)), .v (.bool false)]])]]
def res4 : ARes := { vals := [(false, [.d (.v (.int .i64 (0)))])] }
theorem run4 : acall Tryz.prog (annT T3) 40 57 args4 [] = some res4 := by kernel_rfl
def T4 : CallT := (57, args4, res4) :: T3
theorem T4_ok : TabOk Tryz.prog T4 := ⟨annT_ok T3_ok 40 _ _ _ _ run4, T3_ok⟩
def args5 : List Arg := [.val true [.d (.v (.string ⟨#[97]⟩)), .d (.sl 10 [[.v (.int .i64 (2)), .v (.string ⟨#[]⟩), .v (.int .i64 (0)), .v (.int .i64 (9)), .v (.int .i64 (0)), .sl 0 [], .sl 0 [], .v (.int .i64 (0)), .v (.int .i64 (0)), .v (.bool false)]]), .d (.sl 0 []), .d (.sl 0 []), .d (.sl 2 [[.v (.string ⟨#[84]⟩), .v (.int .i64 (0))]])]]
def res5 : ARes := { vals := [(false, [.d (.v (.int .i64 (0)))])] }
theorem run5 : acall Tryz.prog (annT T4) 40 42 args5 [] = some res5 := by kernel_rfl
def T5 : CallT := (42, args5, res5) :: T4
theorem T5_ok : TabOk Tryz.prog T5 := ⟨annT_ok T4_ok 40 _ _ _ _ run5, T4_ok⟩
def args6 : List Arg := [.val true [.d (.v (.string ⟨#[98]⟩)), .d (.sl 10 [[.v (.int .i64 (2)), .v (.string ⟨#[]⟩), .v (.int .i64 (0)), .v (.int .i64 (5)), .v (.int .i64 (0)), .sl 0 [], .sl 0 [], .v (.int .i64 (0)), .v (.int .i64 (0)), .v (.bool false)]]), .d (.sl 0 []), .d (.sl 0 []), .d (.sl 2 [[.v (.string ⟨#[84]⟩), .v (.int .i64 (0))]])]]
def res6 : ARes := { vals := [(false, [.d (.v (.int .i64 (0)))])] }
theorem run6 : acall Tryz.prog (annT T5) 40 42 args6 [] = some res6 := by kernel_rfl
def T6 : CallT := (42, args6, res6) :: T5
theorem T6_ok : TabOk Tryz.prog T6 := ⟨annT_ok T5_ok 40 _ _ _ _ run6, T5_ok⟩
def args7 : List Arg := [.val true [.d (.sl 10 [[.v (.int .i64 (2)), .v (.string ⟨#[]⟩), .v (.int .i64 (0)), .v (.int .i64 (9)), .v (.int .i64 (0)), .sl 0 [], .sl 0 [], .v (.int .i64 (0)), .v (.int .i64 (0)), .v (.bool false)]])], .val false [.d (.v (.int .i64 (0)))], .val true [.d (.v (.int .i64 (2))), .d (.v (.bool false)), .d (.v (.int .i64 (0))), .d (.v (.string ⟨#[]⟩)), .d (.v (.int .i64 (0))), .zero, .zero, .zero]]
def res7 : ARes := { vals := [(false, [.d (.v (.int .i64 (0)))]), (false, [.d (.v (.int .i64 (0)))])] }
theorem run7 : acall Tryz.prog (annT T6) 40 332 args7 [] = some res7 := by kernel_rfl
def T7 : CallT := (332, args7, res7) :: T6
theorem T7_ok : TabOk Tryz.prog T7 := ⟨annT_ok T6_ok 40 _ _ _ _ run7, T6_ok⟩
def args8 : List Arg := [.val true [.d (.sl 10 [[.v (.int .i64 (2)), .v (.string ⟨#[]⟩), .v (.int .i64 (0)), .v (.int .i64 (5)), .v (.int .i64 (0)), .sl 0 [], .sl 0 [], .v (.int .i64 (0)), .v (.int .i64 (0)), .v (.bool false)]])], .val false [.d (.v (.int .i64 (0)))], .val true [.d (.v (.int .i64 (2))), .d (.v (.bool false)), .d (.v (.int .i64 (0))), .d (.v (.string ⟨#[]⟩)), .d (.v (.int .i64 (0))), .zero, .zero, .zero]]
def res8 : ARes := { vals := [(false, [.d (.v (.int .i64 (0)))]), (false, [.d (.v (.int .i64 (0)))])] }
theorem run8 : acall Tryz.prog (annT T7) 40 332 args8 [] = some res8 := by kernel_rfl
def T8 : CallT := (332, args8, res8) :: T7
theorem T8_ok : TabOk Tryz.prog T8 := ⟨annT_ok T7_ok 40 _ _ _ _ run8, T7_ok⟩
def args9 : List Arg := [.val true [.d (.sl 10 [[.v (.int .i64 (2)), .v (.string ⟨#[]⟩), .v (.int .i64 (0)), .v (.int .i64 (9)), .v (.int .i64 (0)), .sl 0 [], .sl 0 [], .v (.int .i64 (0)), .v (.int .i64 (0)), .v (.bool false)]])], .val false [.d (.v (.int .i64 (0)))], .val true [.d (.v (.int .i64 (2))), .d (.v (.bool false)), .d (.v (.int .i64 (0))), .d (.v (.string ⟨#[]⟩)), .d (.v (.int .i64 (0))), .zero, .zero, .zero]]
def res9 : ARes := { vals := [(false, [.d (.v (.string ⟨#[]⟩))]), (false, [.d (.v (.int .i64 (0)))])] }
theorem run9 : acall Tryz.prog (annT T8) 40 128 args9 [] = some res9 := by kernel_rfl
def T9 : CallT := (128, args9, res9) :: T8
theorem T9_ok : TabOk Tryz.prog T9 := ⟨annT_ok T8_ok 40 _ _ _ _ run9, T8_ok⟩
def args10 : List Arg := [.val true [.d (.sl 10 [[.v (.int .i64 (2)), .v (.string ⟨#[]⟩), .v (.int .i64 (0)), .v (.int .i64 (9)), .v (.int .i64 (0)), .sl 0 [], .sl 0 [], .v (.int .i64 (0)), .v (.int .i64 (0)), .v (.bool false)]])], .val false [.d (.v (.int .i64 (0)))], .val true [.d (.v (.int .i64 (2))), .d (.v (.bool false)), .d (.v (.int .i64 (0))), .d (.v (.string ⟨#[]⟩)), .d (.v (.int .i64 (0))), .d (.sl 8 []), .d (.sl 8 []), .d (.sl 2 [])]]
def res10 : ARes := { vals := [(false, [.d (.v (.string ⟨#[]⟩))]), (false, [.d (.v (.int .i64 (0)))])] }
theorem run10 : acall Tryz.prog (annT T9) 40 128 args10 [] = some res10 := by kernel_rfl
def T10 : CallT := (128, args10, res10) :: T9
theorem T10_ok : TabOk Tryz.prog T10 := ⟨annT_ok T9_ok 40 _ _ _ _ run10, T9_ok⟩
def args11 : List Arg := [.val true [.d (.sl 10 [[.v (.int .i64 (2)), .v (.string ⟨#[]⟩), .v (.int .i64 (0)), .v (.int .i64 (9)), .v (.int .i64 (0)), .sl 0 [], .sl 0 [], .v (.int .i64 (0)), .v (.int .i64 (0)), .v (.bool false)]])], .val false [.d (.v (.int .i64 (0)))], .val true [.d (.v (.int .i64 (2))), .d (.v (.bool false)), .d (.v (.int .i64 (6))), .d (.v (.string ⟨#[]⟩)), .d (.v (.int .i64 (0))), .zero, .zero, .zero]]
def res11 : ARes := { vals := [(false, [.d (.v (.string ⟨#[12]⟩))]), (false, [.d (.v (.int .i64 (0)))])] }
theorem run11 : acall Tryz.prog (annT T10) 40 128 args11 [] = some res11 := by kernel_rfl
def T11 : CallT := (128, args11, res11) :: T10
theorem T11_ok : TabOk Tryz.prog T11 := ⟨annT_ok T10_ok 40 _ _ _ _ run11, T10_ok⟩
def args12 : List Arg := [.val true [.d (.sl 10 [[.v (.int .i64 (2)), .v (.string ⟨#[]⟩), .v (.int .i64 (0)), .v (.int .i64 (9)), .v (.int .i64 (0)), .sl 0 [], .sl 0 [], .v (.int .i64 (0)), .v (.int .i64 (0)), .v (.bool false)]])], .val false [.d (.v (.int .i64 (0)))], .val true [.d (.v (.int .i64 (2))), .d (.v (.bool false)), .d (.v (.int .i64 (6))), .d (.v (.string ⟨#[]⟩)), .d (.v (.int .i64 (0))), .d (.sl 0 []), .d (.sl 0 []), .d (.sl 0 [])]]
def res12 : ARes := { vals := [(false, [.d (.v (.string ⟨#[12]⟩))]), (false, [.d (.v (.int .i64 (0)))])] }
theorem run12 : acall Tryz.prog (annT T11) 40 128 args12 [] = some res12 := by kernel_rfl
def T12 : CallT := (128, args12, res12) :: T11
theorem T12_ok : TabOk Tryz.prog T12 := ⟨annT_ok T11_ok 40 _ _ _ _ run12, T11_ok⟩
def args13 : List Arg := [.val true [.d (.sl 10 [[.v (.int .i64 (2)), .v (.string ⟨#[]⟩), .v (.int .i64 (0)), .v (.int .i64 (5)), .v (.int .i64 (0)), .sl 0 [], .sl 0 [], .v (.int .i64 (0)), .v (.int .i64 (0)), .v (.bool false)]])], .val false [.d (.v (.int .i64 (0)))], .val true [.d (.v (.int .i64 (2))), .d (.v (.bool false)), .d (.v (.int .i64 (0))), .d (.v (.string ⟨#[]⟩)), .d (.v (.int .i64 (0))), .zero, .zero, .zero]]
def res13 : ARes := { vals := [(false, [.d (.v (.string ⟨#[]⟩))]), (false, [.d (.v (.int .i64 (0)))])] }
theorem run13 : acall Tryz.prog (annT T12) 40 128 args13 [] = some res13 := by kernel_rfl
def T13 : CallT := (128, args13, res13) :: T12
theorem T13_ok : TabOk Tryz.prog T13 := ⟨annT_ok T12_ok 40 _ _ _ _ run13, T12_ok⟩
def args14 : List Arg := [.val true [.d (.sl 10 [[.v (.int .i64 (2)), .v (.string ⟨#[]⟩), .v (.int .i64 (0)), .v (.int .i64 (5)), .v (.int .i64 (0)), .sl 0 [], .sl 0 [], .v (.int .i64 (0)), .v (.int .i64 (0)), .v (.bool false)]])], .val false [.d (.v (.int .i64 (0)))], .val true [.d (.v (.int .i64 (2))), .d (.v (.bool false)), .d (.v (.int .i64 (0))), .d (.v (.string ⟨#[]⟩)), .d (.v (.int .i64 (0))), .d (.sl 8 []), .d (.sl 8 []), .d (.sl 2 [])]]
def res14 : ARes := { vals := [(false, [.d (.v (.string ⟨#[]⟩))]), (false, [.d (.v (.int .i64 (0)))])] }
theorem run14 : acall Tryz.prog (annT T13) 40 128 args14 [] = some res14 := by kernel_rfl
def T14 : CallT := (128, args14, res14) :: T13
theorem T14_ok : TabOk Tryz.prog T14 := ⟨annT_ok T13_ok 40 _ _ _ _ run14, T13_ok⟩
def args15 : List Arg := [.val true [.d (.sl 10 [[.v (.int .i64 (2)), .v (.string ⟨#[]⟩), .v (.int .i64 (0)), .v (.int .i64 (9)), .v (.int .i64 (0)), .sl 0 [], .sl 0 [], .v (.int .i64 (0)), .v (.int .i64 (0)), .v (.bool false)]])], .val false [.d (.v (.int .i64 (0)))]]
def res15 : ARes := { vals := [(true, [.d (.v (.int .i64 (2))), .d (.v (.bool false)), .d (.v (.int .i64 (0))), .d (.v (.string ⟨#[]⟩)), .d (.v (.int .i64 (0))), .d (.sl 8 []), .d (.sl 8 []), .d (.sl 2 [])]), (false, [.d (.v (.int .i64 (0)))])] }
theorem run15 : acall Tryz.prog (annT T14) 40 127 args15 [] = some res15 := by kernel_rfl
def T15 : CallT := (127, args15, res15) :: T14
theorem T15_ok : TabOk Tryz.prog T15 := ⟨annT_ok T14_ok 40 _ _ _ _ run15, T14_ok⟩
def args16 : List Arg := [.val true [.d (.sl 10 [[.v (.int .i64 (2)), .v (.string ⟨#[]⟩), .v (.int .i64 (0)), .v (.int .i64 (5)), .v (.int .i64 (0)), .sl 0 [], .sl 0 [], .v (.int .i64 (0)), .v (.int .i64 (0)), .v (.bool false)]])], .val false [.d (.v (.int .i64 (0)))]]
def res16 : ARes := { vals := [(true, [.d (.v (.int .i64 (2))), .d (.v (.bool false)), .d (.v (.int .i64 (0))), .d (.v (.string ⟨#[]⟩)), .d (.v (.int .i64 (0))), .d (.sl 8 []), .d (.sl 8 []), .d (.sl 2 [])]), (false, [.d (.v (.int .i64 (0)))])] }
theorem run16 : acall Tryz.prog (annT T15) 40 127 args16 [] = some res16 := by kernel_rfl
def T16 : CallT := (127, args16, res16) :: T15
theorem T16_ok : TabOk Tryz.prog T16 := ⟨annT_ok T15_ok 40 _ _ _ _ run16, T15_ok⟩
def args17 : List Arg := [.val true [.d (.sl 10 [[.v (.int .i64 (2)), .v (.string ⟨#[]⟩), .v (.int .i64 (0)), .v (.int .i64 (9)), .v (.int .i64 (0)), .sl 0 [], .sl 0 [], .v (.int .i64 (0)), .v (.int .i64 (0)), .v (.bool false)]])], .val false [.d (.v (.int .i64 (0)))], .val true [.d (.sl 10 [[.v (.int .i64 (2)), .v (.string ⟨#[]⟩), .v (.int .i64 (0)), .v (.int .i64 (9)), .v (.int .i64 (0)), .sl 0 [], .sl 0 [], .v (.int .i64 (0)), .v (.int .i64 (0)), .v (.bool false)]])], .val false [.d (.v (.int .i64 (0)))]]
def res17 : ARes := { vals := [(false, [.d (.v (.int .i64 (0)))]), (false, [.d (.v (.int .i64 (0)))])] }
theorem run17 : acall Tryz.prog (annT T16) 40 311 args17 [] = some res17 := by kernel_rfl
def T17 : CallT := (311, args17, res17) :: T16
theorem T17_ok : TabOk Tryz.prog T17 := ⟨annT_ok T16_ok 40 _ _ _ _ run17, T16_ok⟩
def args18 : List Arg := [.val true [.d (.sl 10 [[.v (.int .i64 (2)), .v (.string ⟨#[]⟩), .v (.int .i64 (0)), .v (.int .i64 (9)), .v (.int .i64 (0)), .sl 0 [], .sl 0 [], .v (.int .i64 (0)), .v (.int .i64 (0)), .v (.bool false)]])], .val false [.d (.v (.int .i64 (0)))], .val true [.d (.sl 10 [[.v (.int .i64 (2)), .v (.string ⟨#[]⟩), .v (.int .i64 (0)), .v (.int .i64 (5)), .v (.int .i64 (0)), .sl 0 [], .sl 0 [], .v (.int .i64 (0)), .v (.int .i64 (0)), .v (.bool false)]])], .val false [.d (.v (.int .i64 (0)))]]
def res18 : ARes := { vals := [(false, [.d (.v (.int .i64 (2)))]), (false, [.d (.v (.int .i64 (0)))])] }
theorem run18 : acall Tryz.prog (annT T17) 40 311 args18 [] = some res18 := by kernel_rfl
def T18 : CallT := (311, args18, res18) :: T17
theorem T18_ok : TabOk Tryz.prog T18 := ⟨annT_ok T17_ok 40 _ _ _ _ run18, T17_ok⟩
def args19 : List Arg := [.val true [.d (.sl 10 [[.v (.int .i64 (2)), .v (.string ⟨#[]⟩), .v (.int .i64 (0)), .v (.int .i64 (5)), .v (.int .i64 (0)), .sl 0 [], .sl 0 [], .v (.int .i64 (0)), .v (.int .i64 (0)), .v (.bool false)]])], .val false [.d (.v (.int .i64 (0)))], .val true [.d (.sl 10 [[.v (.int .i64 (2)), .v (.string ⟨#[]⟩), .v (.int .i64 (0)), .v (.int .i64 (9)), .v (.int .i64 (0)), .sl 0 [], .sl 0 [], .v (.int .i64 (0)), .v (.int .i64 (0)), .v (.bool false)]])], .val false [.d (.v (.int .i64 (0)))]]
def res19 : ARes := { vals := [(false, [.d (.v (.int .i64 (0)))]), (false, [.d (.v (.int .i64 (0)))])] }
theorem run19 : acall Tryz.prog (annT T18) 40 311 args19 [] = some res19 := by kernel_rfl
def T19 : CallT := (311, args19, res19) :: T18
theorem T19_ok : TabOk Tryz.prog T19 := ⟨annT_ok T18_ok 40 _ _ _ _ run19, T18_ok⟩
def args20 : List Arg := [.val true [.d (.sl 10 [[.v (.int .i64 (2)), .v (.string ⟨#[]⟩), .v (.int .i64 (0)), .v (.int .i64 (5)), .v (.int .i64 (0)), .sl 0 [], .sl 0 [], .v (.int .i64 (0)), .v (.int .i64 (0)), .v (.bool false)]])], .val false [.d (.v (.int .i64 (0)))], .val true [.d (.sl 10 [[.v (.int .i64 (2)), .v (.string ⟨#[]⟩), .v (.int .i64 (0)), .v (.int .i64 (5)), .v (.int .i64 (0)), .sl 0 [], .sl 0 [], .v (.int .i64 (0)), .v (.int .i64 (0)), .v (.bool false)]])], .val false [.d (.v (.int .i64 (0)))]]
def res20 : ARes := { vals := [(false, [.d (.v (.int .i64 (0)))]), (false, [.d (.v (.int .i64 (0)))])] }
theorem run20 : acall Tryz.prog (annT T19) 40 311 args20 [] = some res20 := by kernel_rfl
def T20 : CallT := (311, args20, res20) :: T19
theorem T20_ok : TabOk Tryz.prog T20 := ⟨annT_ok T19_ok 40 _ _ _ _ run20, T19_ok⟩
def args21 : List Arg := [.val true [.d (.sl 10 [[.v (.int .i64 (2)), .v (.string ⟨#[]⟩), .v (.int .i64 (0)), .v (.int .i64 (9)), .v (.int .i64 (0)), .sl 0 [], .sl 0 [], .v (.int .i64 (0)), .v (.int .i64 (0)), .v (.bool false)]]), .d (.v (.int .i64 (0)))], .val true [.d (.sl 10 [[.v (.int .i64 (2)), .v (.string ⟨#[]⟩), .v (.int .i64 (0)), .v (.int .i64 (5)), .v (.int .i64 (0)), .sl 0 [], .sl 0 [], .v (.int .i64 (0)), .v (.int .i64 (0)), .v (.bool false)]]), .d (.v (.int .i64 (0)))]]
def res21 : ARes := { vals := [(false, [.d (.v (.bool false))]), (false, [.d (.v (.int .i64 (0)))])] }
theorem run21 : acall Tryz.prog (annT T20) 40 50 args21 [] = some res21 := by kernel_rfl
def T21 : CallT := (50, args21, res21) :: T20
theorem T21_ok : TabOk Tryz.prog T21 := ⟨annT_ok T20_ok 40 _ _ _ _ run21, T20_ok⟩
def args22 : List Arg := [.val true [.d (.sl 10 [[.v (.int .i64 (2)), .v (.string ⟨#[]⟩), .v (.int .i64 (0)), .v (.int .i64 (5)), .v (.int .i64 (0)), .sl 0 [], .sl 0 [], .v (.int .i64 (0)), .v (.int .i64 (0)), .v (.bool false)]]), .d (.v (.int .i64 (0)))], .val true [.d (.sl 10 [[.v (.int .i64 (2)), .v (.string ⟨#[]⟩), .v (.int .i64 (0)), .v (.int .i64 (9)), .v (.int .i64 (0)), .sl 0 [], .sl 0 [], .v (.int .i64 (0)), .v (.int .i64 (0)), .v (.bool false)]]), .d (.v (.int .i64 (0)))]]
def res22 : ARes := { vals := [(false, [.d (.v (.bool true))]), (false, [.d (.v (.int .i64 (0)))])] }
theorem run22 : acall Tryz.prog (annT T21) 40 50 args22 [] = some res22 := by kernel_rfl
def T22 : CallT := (50, args22, res22) :: T21
theorem T22_ok : TabOk Tryz.prog T22 := ⟨annT_ok T21_ok 40 _ _ _ _ run22, T21_ok⟩
def args23 : List Arg := [.val true [.d (.sl 10 [[.v (.int .i64 (2)), .v (.string ⟨#[]⟩), .v (.int .i64 (0)), .v (.int .i64 (9)), .v (.int .i64 (0)), .sl 0 [], .sl 0 [], .v (.int .i64 (0)), .v (.int .i64 (0)), .v (.bool false)]]), .d (.v (.int .i64 (0)))], .val true [.d (.sl 10 [[.v (.int .i64 (2)), .v (.string ⟨#[]⟩), .v (.int .i64 (0)), .v (.int .i64 (9)), .v (.int .i64 (0)), .sl 0 [], .sl 0 [], .v (.int .i64 (0)), .v (.int .i64 (0)), .v (.bool false)]]), .d (.v (.int .i64 (0)))]]
def res23 : ARes := { vals := [(true, [.d (.v (.int .i64 (0))), .d (.v (.bool false)), .d (.v (.int .i64 (0))), .d (.v (.string ⟨#[]⟩)), .d (.v (.int .i64 (0))), .zero, .zero, .zero]), (false, [.d (.v (.string ⟨#[]⟩))]), (false, [.d (.v (.int .i64 (15)))])] }
theorem run23 : acall Tryz.prog (annT T22) 40 114 args23 [] = some res23 := by kernel_rfl
def T23 : CallT := (114, args23, res23) :: T22
theorem T23_ok : TabOk Tryz.prog T23 := ⟨annT_ok T22_ok 40 _ _ _ _ run23, T22_ok⟩
def args24 : List Arg := [.val true [.d (.sl 10 [[.v (.int .i64 (2)), .v (.string ⟨#[]⟩), .v (.int .i64 (0)), .v (.int .i64 (9)), .v (.int .i64 (0)), .sl 0 [], .sl 0 [], .v (.int .i64 (0)), .v (.int .i64 (0)), .v (.bool false)]]), .d (.v (.int .i64 (0)))], .val true [.d (.sl 10 [[.v (.int .i64 (2)), .v (.string ⟨#[]⟩), .v (.int .i64 (0)), .v (.int .i64 (5)), .v (.int .i64 (0)), .sl 0 [], .sl 0 [], .v (.int .i64 (0)), .v (.int .i64 (0)), .v (.bool false)]]), .d (.v (.int .i64 (0)))]]
def res24 : ARes := { vals := [(true, [.d (.v (.int .i64 (2))), .d (.v (.bool false)), .d (.v (.int .i64 (6))), .d (.v (.string ⟨#[]⟩)), .d (.v (.int .i64 (0))), .d (.sl 0 []), .d (.sl 0 []), .d (.sl 0 [])]), (false, [.d (.v (.string ⟨#[12]⟩))]), (false, [.d (.v (.int .i64 (0)))])] }
theorem run24 : acall Tryz.prog (annT T23) 40 114 args24 [] = some res24 := by kernel_rfl
def T24 : CallT := (114, args24, res24) :: T23
theorem T24_ok : TabOk Tryz.prog T24 := ⟨annT_ok T23_ok 40 _ _ _ _ run24, T23_ok⟩
def args25 : List Arg := [.val true [.d (.sl 10 [[.v (.int .i64 (2)), .v (.string ⟨#[]⟩), .v (.int .i64 (0)), .v (.int .i64 (5)), .v (.int .i64 (0)), .sl 0 [], .sl 0 [], .v (.int .i64 (0)), .v (.int .i64 (0)), .v (.bool false)]]), .d (.v (.int .i64 (0)))], .val true [.d (.sl 10 [[.v (.int .i64 (2)), .v (.string ⟨#[]⟩), .v (.int .i64 (0)), .v (.int .i64 (9)), .v (.int .i64 (0)), .sl 0 [], .sl 0 [], .v (.int .i64 (0)), .v (.int .i64 (0)), .v (.bool false)]]), .d (.v (.int .i64 (0)))]]
def res25 : ARes := { vals := [(true, [.d (.v (.int .i64 (0))), .d (.v (.bool false)), .d (.v (.int .i64 (0))), .d (.v (.string ⟨#[]⟩)), .d (.v (.int .i64 (0))), .zero, .zero, .zero]), (false, [.d (.v (.string ⟨#[]⟩))]), (false, [.d (.v (.int .i64 (15)))])] }
theorem run25 : acall Tryz.prog (annT T24) 40 114 args25 [] = some res25 := by kernel_rfl
def T25 : CallT := (114, args25, res25) :: T24
theorem T25_ok : TabOk Tryz.prog T25 := ⟨annT_ok T24_ok 40 _ _ _ _ run25, T24_ok⟩
def args26 : List Arg := [.val true [.d (.sl 10 [[.v (.int .i64 (2)), .v (.string ⟨#[]⟩), .v (.int .i64 (0)), .v (.int .i64 (5)), .v (.int .i64 (0)), .sl 0 [], .sl 0 [], .v (.int .i64 (0)), .v (.int .i64 (0)), .v (.bool false)]]), .d (.v (.int .i64 (0)))], .val true [.d (.sl 10 [[.v (.int .i64 (2)), .v (.string ⟨#[]⟩), .v (.int .i64 (0)), .v (.int .i64 (5)), .v (.int .i64 (0)), .sl 0 [], .sl 0 [], .v (.int .i64 (0)), .v (.int .i64 (0)), .v (.bool false)]]), .d (.v (.int .i64 (0)))]]
def res26 : ARes := { vals := [(true, [.d (.v (.int .i64 (0))), .d (.v (.bool false)), .d (.v (.int .i64 (0))), .d (.v (.string ⟨#[]⟩)), .d (.v (.int .i64 (0))), .zero, .zero, .zero]), (false, [.d (.v (.string ⟨#[]⟩))]), (false, [.d (.v (.int .i64 (15)))])] }
theorem run26 : acall Tryz.prog (annT T25) 40 114 args26 [] = some res26 := by kernel_rfl
def T26 : CallT := (114, args26, res26) :: T25
theorem T26_ok : TabOk Tryz.prog T26 := ⟨annT_ok T25_ok 40 _ _ _ _ run26, T25_ok⟩
def args27 : List Arg := [.val true [.d (.v (.string ⟨#[97]⟩)), .d (.sl 10 [[.v (.int .i64 (2)), .v (.string ⟨#[]⟩), .v (.int .i64 (0)), .v (.int .i64 (9)), .v (.int .i64 (0)), .sl 0 [], .sl 0 [], .v (.int .i64 (0)), .v (.int .i64 (0)), .v (.bool false)]]), .d (.sl 0 []), .d (.sl 0 []), .d (.sl 2 [[.v (.string ⟨#[84]⟩), .v (.int .i64 (0))]])], .val true [.d (.v (.string ⟨#[97]⟩)), .d (.sl 10 [[.v (.int .i64 (2)), .v (.string ⟨#[]⟩), .v (.int .i64 (0)), .v (.int .i64 (9)), .v (.int .i64 (0)), .sl 0 [], .sl 0 [], .v (.int .i64 (0)), .v (.int .i64 (0)), .v (.bool false)]]), .d (.sl 0 []), .d (.sl 0 []), .d (.sl 2 [[.v (.string ⟨#[84]⟩), .v (.int .i64 (0))]])], .val false [.d (.v (.string ⟨#[84]⟩))]]
def res27 : ARes := { vals := [(true, [.d (.v (.int .i64 (0))), .d (.v (.int .i64 (0))), .d (.v (.string ⟨#[]⟩)), .zero]), (false, [.d (.v (.int .i64 (0)))])] }
theorem run27 : acall Tryz.prog (annT T26) 40 70 args27 [] = some res27 := by kernel_rfl
def T27 : CallT := (70, args27, res27) :: T26
theorem T27_ok : TabOk Tryz.prog T27 := ⟨annT_ok T26_ok 40 _ _ _ _ run27, T26_ok⟩
def args28 : List Arg := [.val true [.d (.v (.string ⟨#[97]⟩)), .d (.sl 10 [[.v (.int .i64 (2)), .v (.string ⟨#[]⟩), .v (.int .i64 (0)), .v (.int .i64 (9)), .v (.int .i64 (0)), .sl 0 [], .sl 0 [], .v (.int .i64 (0)), .v (.int .i64 (0)), .v (.bool false)]]), .d (.sl 0 []), .d (.sl 0 []), .d (.sl 2 [[.v (.string ⟨#[84]⟩), .v (.int .i64 (0))]])], .val true [.d (.v (.string ⟨#[98]⟩)), .d (.sl 10 [[.v (.int .i64 (2)), .v (.string ⟨#[]⟩), .v (.int .i64 (0)), .v (.int .i64 (5)), .v (.int .i64 (0)), .sl 0 [], .sl 0 [], .v (.int .i64 (0)), .v (.int .i64 (0)), .v (.bool false)]]), .d (.sl 0 []), .d (.sl 0 []), .d (.sl 2 [[.v (.string ⟨#[84]⟩), .v (.int .i64 (0))]])], .val false [.d (.v (.string ⟨#[84]⟩))]]
def res28 : ARes := { vals := [(true, [.d (.v (.int .i64 (6))), .d (.v (.int .i64 (0))), .d (.v (.string ⟨#[12]⟩)), .zero]), (false, [.d (.v (.int .i64 (0)))])] }
theorem run28 : acall Tryz.prog (annT T27) 40 70 args28 [] = some res28 := by kernel_rfl
def T28 : CallT := (70, args28, res28) :: T27
theorem T28_ok : TabOk Tryz.prog T28 := ⟨annT_ok T27_ok 40 _ _ _ _ run28, T27_ok⟩
def args29 : List Arg := [.val true [.d (.v (.string ⟨#[98]⟩)), .d (.sl 10 [[.v (.int .i64 (2)), .v (.string ⟨#[]⟩), .v (.int .i64 (0)), .v (.int .i64 (5)), .v (.int .i64 (0)), .sl 0 [], .sl 0 [], .v (.int .i64 (0)), .v (.int .i64 (0)), .v (.bool false)]]), .d (.sl 0 []), .d (.sl 0 []), .d (.sl 2 [[.v (.string ⟨#[84]⟩), .v (.int .i64 (0))]])], .val true [.d (.v (.string ⟨#[97]⟩)), .d (.sl 10 [[.v (.int .i64 (2)), .v (.string ⟨#[]⟩), .v (.int .i64 (0)), .v (.int .i64 (9)), .v (.int .i64 (0)), .sl 0 [], .sl 0 [], .v (.int .i64 (0)), .v (.int .i64 (0)), .v (.bool false)]]), .d (.sl 0 []), .d (.sl 0 []), .d (.sl 2 [[.v (.string ⟨#[84]⟩), .v (.int .i64 (0))]])], .val false [.d (.v (.string ⟨#[84]⟩))]]
def res29 : ARes := { vals := [(true, [.d (.v (.int .i64 (0))), .d (.v (.int .i64 (0))), .d (.v (.string ⟨#[]⟩)), .zero]), (false, [.d (.v (.int .i64 (0)))])] }
theorem run29 : acall Tryz.prog (annT T28) 40 70 args29 [] = some res29 := by kernel_rfl
def T29 : CallT := (70, args29, res29) :: T28
theorem T29_ok : TabOk Tryz.prog T29 := ⟨annT_ok T28_ok 40 _ _ _ _ run29, T28_ok⟩
def args30 : List Arg := [.val true [.d (.v (.string ⟨#[98]⟩)), .d (.sl 10 [[.v (.int .i64 (2)), .v (.string ⟨#[]⟩), .v (.int .i64 (0)), .v (.int .i64 (5)), .v (.int .i64 (0)), .sl 0 [], .sl 0 [], .v (.int .i64 (0)), .v (.int .i64 (0)), .v (.bool false)]]), .d (.sl 0 []), .d (.sl 0 []), .d (.sl 2 [[.v (.string ⟨#[84]⟩), .v (.int .i64 (0))]])], .val true [.d (.v (.string ⟨#[98]⟩)), .d (.sl 10 [[.v (.int .i64 (2)), .v (.string ⟨#[]⟩), .v (.int .i64 (0)), .v (.int .i64 (5)), .v (.int .i64 (0)), .sl 0 [], .sl 0 [], .v (.int .i64 (0)), .v (.int .i64 (0)), .v (.bool false)]]), .d (.sl 0 []), .d (.sl 0 []), .d (.sl 2 [[.v (.string ⟨#[84]⟩), .v (.int .i64 (0))]])], .val false [.d (.v (.string ⟨#[84]⟩))]]
def res30 : ARes := { vals := [(true, [.d (.v (.int .i64 (0))), .d (.v (.int .i64 (0))), .d (.v (.string ⟨#[]⟩)), .zero]), (false, [.d (.v (.int .i64 (0)))])] }
theorem run30 : acall Tryz.prog (annT T29) 40 70 args30 [] = some res30 := by kernel_rfl
def T30 : CallT := (70, args30, res30) :: T29
theorem T30_ok : TabOk Tryz.prog T30 := ⟨annT_ok T29_ok 40 _ _ _ _ run30, T29_ok⟩
def args31 : List Arg := [.val true [.d (.v (.string ⟨#[97]⟩)), .d (.sl 10 [[.v (.int .i64 (2)), .v (.string ⟨#[]⟩), .v (.int .i64 (0)), .v (.int .i64 (9)), .v (.int .i64 (0)), .sl 0 [], .sl 0 [], .v (.int .i64 (0)), .v (.int .i64 (0)), .v (.bool false)]]), .d (.sl 0 []), .d (.sl 0 []), .d (.sl 2 [[.v (.string ⟨#[84]⟩), .v (.int .i64 (0))]])], .val true [.d (.v (.string ⟨#[97]⟩)), .d (.sl 10 [[.v (.int .i64 (2)), .v (.string ⟨#[]⟩), .v (.int .i64 (0)), .v (.int .i64 (9)), .v (.int .i64 (0)), .sl 0 [], .sl 0 [], .v (.int .i64 (0)), .v (.int .i64 (0)), .v (.bool false)]]), .d (.sl 0 []), .d (.sl 0 []), .d (.sl 2 [[.v (.string ⟨#[84]⟩), .v (.int .i64 (0))]])], .val true [.d (.v (.int .i64 (4))), .d (.v (.string ⟨#[84]⟩)), .d (.v (.int .i64 (0))), .d (.v (.int .i64 (0))), .d (.v (.bool false)), .d (.v (.int .i64 (0)))]]
def res31 : ARes := { vals := [(true, [.d (.v (.int .i64 (0))), .d (.v (.int .i64 (0))), .d (.v (.string ⟨#[]⟩)), .zero]), (false, [.d (.v (.int .i64 (0)))])] }
theorem run31 : acall Tryz.prog (annT T30) 40 48 args31 [] = some res31 := by kernel_rfl
def T31 : CallT := (48, args31, res31) :: T30
theorem T31_ok : TabOk Tryz.prog T31 := ⟨annT_ok T30_ok 40 _ _ _ _ run31, T30_ok⟩
def args32 : List Arg := [.val true [.d (.v (.string ⟨#[97]⟩)), .d (.sl 10 [[.v (.int .i64 (2)), .v (.string ⟨#[]⟩), .v (.int .i64 (0)), .v (.int .i64 (9)), .v (.int .i64 (0)), .sl 0 [], .sl 0 [], .v (.int .i64 (0)), .v (.int .i64 (0)), .v (.bool false)]]), .d (.sl 0 []), .d (.sl 0 []), .d (.sl 2 [[.v (.string ⟨#[84]⟩), .v (.int .i64 (0))]])], .val true [.d (.v (.string ⟨#[98]⟩)), .d (.sl 10 [[.v (.int .i64 (2)), .v (.string ⟨#[]⟩), .v (.int .i64 (0)), .v (.int .i64 (5)), .v (.int .i64 (0)), .sl 0 [], .sl 0 [], .v (.int .i64 (0)), .v (.int .i64 (0)), .v (.bool false)]]), .d (.sl 0 []), .d (.sl 0 []), .d (.sl 2 [[.v (.string ⟨#[84]⟩), .v (.int .i64 (0))]])], .val true [.d (.v (.int .i64 (4))), .d (.v (.string ⟨#[84]⟩)), .d (.v (.int .i64 (0))), .d (.v (.int .i64 (0))), .d (.v (.bool false)), .d (.v (.int .i64 (0)))]]
def res32 : ARes := { vals := [(true, [.d (.v (.int .i64 (6))), .d (.v (.int .i64 (0))), .d (.v (.string ⟨#[12]⟩)), .zero]), (false, [.d (.v (.int .i64 (0)))])] }
theorem run32 : acall Tryz.prog (annT T31) 40 48 args32 [] = some res32 := by kernel_rfl
def T32 : CallT := (48, args32, res32) :: T31
theorem T32_ok : TabOk Tryz.prog T32 := ⟨annT_ok T31_ok 40 _ _ _ _ run32, T31_ok⟩
def args33 : List Arg := [.val true [.d (.v (.string ⟨#[98]⟩)), .d (.sl 10 [[.v (.int .i64 (2)), .v (.string ⟨#[]⟩), .v (.int .i64 (0)), .v (.int .i64 (5)), .v (.int .i64 (0)), .sl 0 [], .sl 0 [], .v (.int .i64 (0)), .v (.int .i64 (0)), .v (.bool false)]]), .d (.sl 0 []), .d (.sl 0 []), .d (.sl 2 [[.v (.string ⟨#[84]⟩), .v (.int .i64 (0))]])], .val true [.d (.v (.string ⟨#[97]⟩)), .d (.sl 10 [[.v (.int .i64 (2)), .v (.string ⟨#[]⟩), .v (.int .i64 (0)), .v (.int .i64 (9)), .v (.int .i64 (0)), .sl 0 [], .sl 0 [], .v (.int .i64 (0)), .v (.int .i64 (0)), .v (.bool false)]]), .d (.sl 0 []), .d (.sl 0 []), .d (.sl 2 [[.v (.string ⟨#[84]⟩), .v (.int .i64 (0))]])], .val true [.d (.v (.int .i64 (4))), .d (.v (.string ⟨#[84]⟩)), .d (.v (.int .i64 (0))), .d (.v (.int .i64 (0))), .d (.v (.bool false)), .d (.v (.int .i64 (0)))]]
def res33 : ARes := { vals := [(true, [.d (.v (.int .i64 (0))), .d (.v (.int .i64 (0))), .d (.v (.string ⟨#[]⟩)), .zero]), (false, [.d (.v (.int .i64 (0)))])] }
theorem run33 : acall Tryz.prog (annT T32) 40 48 args33 [] = some res33 := by kernel_rfl
def T33 : CallT := (48, args33, res33) :: T32
theorem T33_ok : TabOk Tryz.prog T33 := ⟨annT_ok T32_ok 40 _ _ _ _ run33, T32_ok⟩
def args34 : List Arg := [.val true [.d (.v (.string ⟨#[98]⟩)), .d (.sl 10 [[.v (.int .i64 (2)), .v (.string ⟨#[]⟩), .v (.int .i64 (0)), .v (.int .i64 (5)), .v (.int .i64 (0)), .sl 0 [], .sl 0 [], .v (.int .i64 (0)), .v (.int .i64 (0)), .v (.bool false)]]), .d (.sl 0 []), .d (.sl 0 []), .d (.sl 2 [[.v (.string ⟨#[84]⟩), .v (.int .i64 (0))]])], .val true [.d (.v (.string ⟨#[98]⟩)), .d (.sl 10 [[.v (.int .i64 (2)), .v (.string ⟨#[]⟩), .v (.int .i64 (0)), .v (.int .i64 (5)), .v (.int .i64 (0)), .sl 0 [], .sl 0 [], .v (.int .i64 (0)), .v (.int .i64 (0)), .v (.bool false)]]), .d (.sl 0 []), .d (.sl 0 []), .d (.sl 2 [[.v (.string ⟨#[84]⟩), .v (.int .i64 (0))]])], .val true [.d (.v (.int .i64 (4))), .d (.v (.string ⟨#[84]⟩)), .d (.v (.int .i64 (0))), .d (.v (.int .i64 (0))), .d (.v (.bool false)), .d (.v (.int .i64 (0)))]]
def res34 : ARes := { vals := [(true, [.d (.v (.int .i64 (0))), .d (.v (.int .i64 (0))), .d (.v (.string ⟨#[]⟩)), .zero]), (false, [.d (.v (.int .i64 (0)))])] }
theorem run34 : acall Tryz.prog (annT T33) 40 48 args34 [] = some res34 := by kernel_rfl
def T34 : CallT := (48, args34, res34) :: T33
theorem T34_ok : TabOk Tryz.prog T34 := ⟨annT_ok T33_ok 40 _ _ _ _ run34, T33_ok⟩
def args35 : List Arg := [.val false [.d (.sl 5 [[.v (.string ⟨#[97]⟩), .sl 10 [[.v (.int .i64 (2)), .v (.string ⟨#[]⟩), .v (.int .i64 (0)), .v (.int .i64 (9)), .v (.int .i64 (0)), .sl 0 [], .sl 0 [], .v (.int .i64 (0)), .v (.int .i64 (0)), .v (.bool false)]], .sl 0 [], .sl 0 [], .sl 2 [[.v (.string ⟨#[84]⟩), .v (.int .i64 (0))]]], [.v (.string ⟨#[98]⟩), .sl 10 [[.v (.int .i64 (2)), .v (.string ⟨#[]⟩), .v (.int .i64 (0)), .v (.int .i64 (5)), .v (.int .i64 (0)), .sl 0 [], .sl 0 [], .v (.int .i64 (0)), .v (.int .i64 (0)), .v (.bool false)]], .sl 0 [], .sl 0 [], .sl 2 [[.v (.string ⟨#[84]⟩), .v (.int .i64 (0))]]]])], .val false [.d (.sl 5 [[.v (.string ⟨#[97]⟩), .sl 10 [[.v (.int .i64 (2)), .v (.string ⟨#[]⟩), .v (.int .i64 (0)), .v (.int .i64 (9)), .v (.int .i64 (0)), .sl 0 [], .sl 0 [], .v (.int .i64 (0)), .v (.int .i64 (0)), .v (.bool false)]], .sl 0 [], .sl 0 [], .sl 2 [[.v (.string ⟨#[84]⟩), .v (.int .i64 (0))]]], [.v (.string ⟨#[98]⟩), .sl 10 [[.v (.int .i64 (2)), .v (.string ⟨#[]⟩), .v (.int .i64 (0)), .v (.int .i64 (5)), .v (.int .i64 (0)), .sl 0 [], .sl 0 [], .v (.int .i64 (0)), .v (.int .i64 (0)), .v (.bool false)]], .sl 0 [], .sl 0 [], .sl 2 [[.v (.string ⟨#[84]⟩), .v (.int .i64 (0))]]]])], .val true [.d (.v (.int .i64 (4))), .d (.v (.string ⟨#[84]⟩)), .d (.v (.int .i64 (0))), .d (.v (.int .i64 (0))), .d (.v (.bool false)), .d (.v (.int .i64 (0)))]]
def res35 : ARes := { vals := [(false, [.d (.sl 1 [[.sl 1 [[.v (.bool true)], [.v (.bool false)]]], [.sl 1 [[.v (.bool true)], [.v (.bool true)]]]])]), (false, [.d (.v (.int .i64 (0)))])] }
theorem run35 : acall Tryz.prog (annT T34) 40 23 args35 [] = some res35 := by kernel_rfl
def T35 : CallT := (23, args35, res35) :: T34
theorem T35_ok : TabOk Tryz.prog T35 := ⟨annT_ok T34_ok 40 _ _ _ _ run35, T34_ok⟩
def args36 : List Arg := [.val true [.d (.v (.string ⟨#[97]⟩)), .d (.sl 10 [[.v (.int .i64 (2)), .v (.string ⟨#[]⟩), .v (.int .i64 (0)), .v (.int .i64 (9)), .v (.int .i64 (0)), .sl 0 [], .sl 0 [], .v (.int .i64 (0)), .v (.int .i64 (0)), .v (.bool false)]]), .d (.sl 0 []), .d (.sl 0 []), .d (.sl 2 [[.v (.string ⟨#[84]⟩), .v (.int .i64 (0))]])], .val true [.d (.v (.string ⟨#[98]⟩)), .d (.sl 10 [[.v (.int .i64 (2)), .v (.string ⟨#[]⟩), .v (.int .i64 (0)), .v (.int .i64 (5)), .v (.int .i64 (0)), .sl 0 [], .sl 0 [], .v (.int .i64 (0)), .v (.int .i64 (0)), .v (.bool false)]]), .d (.sl 0 []), .d (.sl 0 []), .d (.sl 2 [[.v (.string ⟨#[84]⟩), .v (.int .i64 (0))]])], .val false [.d (.v (.string ⟨#[84]⟩))]]
def res36 : ARes := { vals := [(false, [.d (.v (.bool false))]), (false, [.d (.v (.int .i64 (0)))])] }
theorem run36 : acall Tryz.prog (annT T35) 40 24 args36 [] = some res36 := by kernel_rfl
def T36 : CallT := (24, args36, res36) :: T35
theorem T36_ok : TabOk Tryz.prog T36 := ⟨annT_ok T35_ok 40 _ _ _ _ run36, T35_ok⟩
def args37 : List Arg := [.val true [.d (.v (.string ⟨#[98]⟩)), .d (.sl 10 [[.v (.int .i64 (2)), .v (.string ⟨#[]⟩), .v (.int .i64 (0)), .v (.int .i64 (5)), .v (.int .i64 (0)), .sl 0 [], .sl 0 [], .v (.int .i64 (0)), .v (.int .i64 (0)), .v (.bool false)]]), .d (.sl 0 []), .d (.sl 0 []), .d (.sl 2 [[.v (.string ⟨#[84]⟩), .v (.int .i64 (0))]])], .val true [.d (.v (.string ⟨#[97]⟩)), .d (.sl 10 [[.v (.int .i64 (2)), .v (.string ⟨#[]⟩), .v (.int .i64 (0)), .v (.int .i64 (9)), .v (.int .i64 (0)), .sl 0 [], .sl 0 [], .v (.int .i64 (0)), .v (.int .i64 (0)), .v (.bool false)]]), .d (.sl 0 []), .d (.sl 0 []), .d (.sl 2 [[.v (.string ⟨#[84]⟩), .v (.int .i64 (0))]])], .val false [.d (.v (.string ⟨#[84]⟩))]]
def res37 : ARes := { vals := [(false, [.d (.v (.bool true))]), (false, [.d (.v (.int .i64 (0)))])] }
theorem run37 : acall Tryz.prog (annT T36) 40 24 args37 [] = some res37 := by kernel_rfl
def T37 : CallT := (24, args37, res37) :: T36
theorem T37_ok : TabOk Tryz.prog T37 := ⟨annT_ok T36_ok 40 _ _ _ _ run37, T36_ok⟩
def args38 : List Arg := [.val true [.d (.sl 4 [[.v (.string ⟨#[88]⟩), .sl 5 [[.v (.string ⟨#[97]⟩), .sl 10 [[.v (.int .i64 (2)), .v (.string ⟨#[]⟩), .v (.int .i64 (0)), .v (.int .i64 (9)), .v (.int .i64 (0)), .sl 0 [], .sl 0 [], .v (.int .i64 (0)), .v (.int .i64 (0)), .v (.bool false)]], .sl 0 [], .sl 0 [], .sl 2 [[.v (.string ⟨#[84]⟩), .v (.int .i64 (0))]]], [.v (.string ⟨#[98]⟩), .sl 10 [[.v (.int .i64 (2)), .v (.string ⟨#[]⟩), .v (.int .i64 (0)), .v (.int .i64 (5)), .v (.int .i64 (0)), .sl 0 [], .sl 0 [], .v (.int .i64 (0)), .v (.int .i64 (0)), .v (.bool false)]], .sl 0 [], .sl 0 [], .sl 2 [[.v (.string ⟨#[84]⟩), .v (.int .i64 (0))]]]], .v (.int .i64 (0)), .v (.int .i64 (1))]]), .d (.sl 6 [[.v (.int .i64 (4)), .v (.string ⟨#[84]⟩), .v (.int .i64 (0)), .v (.int .i64 (0)), .v (.bool false), .v (.int .i64 (0))]])]]
def res38 : ARes := { vals := [(false, [.d (.v (.int .i64 (0)))])] }
theorem run38 : acall Tryz.prog (annT T37) 40 6 args38 [] = some res38 := by kernel_rfl
def T38 : CallT := (6, args38, res38) :: T37
theorem T38_ok : TabOk Tryz.prog T38 := ⟨annT_ok T37_ok 40 _ _ _ _ run38, T37_ok⟩
def args39 : List Arg := [.val true [.d (.sl 4 [[.v (.string ⟨#[88]⟩), .sl 5 [[.v (.string ⟨#[97]⟩), .sl 10 [[.v (.int .i64 (2)), .v (.string ⟨#[]⟩), .v (.int .i64 (0)), .v (.int .i64 (9)), .v (.int .i64 (0)), .sl 0 [], .sl 0 [], .v (.int .i64 (0)), .v (.int .i64 (0)), .v (.bool false)]], .sl 0 [], .sl 0 [], .sl 2 [[.v (.string ⟨#[84]⟩), .v (.int .i64 (0))]]], [.v (.string ⟨#[98]⟩), .sl 10 [[.v (.int .i64 (2)), .v (.string ⟨#[]⟩), .v (.int .i64 (0)), .v (.int .i64 (5)), .v (.int .i64 (0)), .sl 0 [], .sl 0 [], .v (.int .i64 (0)), .v (.int .i64 (0)), .v (.bool false)]], .sl 0 [], .sl 0 [], .sl 2 [[.v (.string ⟨#[84]⟩), .v (.int .i64 (0))]]]], .v (.int .i64 (0)), .v (.int .i64 (1))]]), .d (.sl 6 [[.v (.int .i64 (4)), .v (.string ⟨#[84]⟩), .v (.int .i64 (0)), .v (.int .i64 (0)), .v (.bool false), .v (.int .i64 (0))]])]]
def res39 : ARes := { vals := [(true, [.d (.sl 1 [[.v (.int .i64 (2))]]), .d (.sl 1 [[.v (.int .i64 (0))]]), .d (.sl 1 [[.v (.int .i64 (1))]]), .d (.sl 6 [[.v (.int .i64 (4)), .v (.int .i64 (0)), .v (.int .i64 (0)), .v (.bool false), .sl 1 [[.sl 1 [[.v (.bool true)], [.v (.bool false)]]], [.sl 1 [[.v (.bool true)], [.v (.bool true)]]]], .sl 1 [[.sl 1 [[.v (.bool true)], [.v (.bool false)]]], [.sl 1 [[.v (.bool true)], [.v (.bool true)]]]]]])]), (false, [.d (.v (.int .i64 (0)))])] }
theorem run39 : acall Tryz.prog (annT T38) 40 8 args39 [] = some res39 := by kernel_rfl
def T39 : CallT := (8, args39, res39) :: T38
theorem T39_ok : TabOk Tryz.prog T39 := ⟨annT_ok T38_ok 40 _ _ _ _ run39, T38_ok⟩
def args40 : List Arg := [.val true [.d (.sl 1 [[.v (.int .i64 (2))]]), .d (.sl 1 [[.v (.int .i64 (0))]]), .d (.sl 1 [[.v (.int .i64 (1))]]), .d (.sl 6 [[.v (.int .i64 (4)), .v (.int .i64 (0)), .v (.int .i64 (0)), .v (.bool false), .sl 1 [[.sl 1 [[.v (.bool true)], [.v (.bool false)]]], [.sl 1 [[.v (.bool true)], [.v (.bool true)]]]], .sl 1 [[.sl 1 [[.v (.bool true)], [.v (.bool false)]]], [.sl 1 [[.v (.bool true)], [.v (.bool true)]]]]]])]]
def res40 : ARes := { vals := [(false, [.d (.v (.int .i64 (0)))])] }
theorem run40 : acall Tryz.prog (annT T39) 40 25 args40 [] = some res40 := by kernel_rfl
def T40 : CallT := (25, args40, res40) :: T39
theorem T40_ok : TabOk Tryz.prog T40 := ⟨annT_ok T39_ok 40 _ _ _ _ run40, T39_ok⟩
def args41 : List Arg := [.val true [.d (.sl 1 [[.v (.int .i64 (2))]]), .d (.sl 1 [[.v (.int .i64 (1))]]), .d (.sl 1 [[.v (.int .i64 (0))]]), .d (.sl 6 [[.v (.int .i64 (4)), .v (.int .i64 (0)), .v (.int .i64 (0)), .v (.bool false), .sl 1 [[.sl 1 [[.v (.bool true)], [.v (.bool false)]]], [.sl 1 [[.v (.bool true)], [.v (.bool true)]]]], .sl 1 [[.sl 1 [[.v (.bool true)], [.v (.bool false)]]], [.sl 1 [[.v (.bool true)], [.v (.bool true)]]]]]])]]
def res41 : ARes := { vals := [(false, [.d (.v (.int .i64 (0)))])] }
theorem run41 : acall Tryz.prog (annT T40) 40 25 args41 [] = some res41 := by kernel_rfl
def T41 : CallT := (25, args41, res41) :: T40
theorem T41_ok : TabOk Tryz.prog T41 := ⟨annT_ok T40_ok 40 _ _ _ _ run41, T40_ok⟩
def args42 : List Arg := [.val true [.d (.sl 1 [[.v (.int .i64 (2))]]), .d (.sl 1 [[.v (.int .i64 (0))]]), .d (.sl 1 [[.v (.int .i64 (1))]]), .d (.sl 6 [[.v (.int .i64 (4)), .v (.int .i64 (0)), .v (.int .i64 (0)), .v (.bool false), .sl 1 [[.sl 1 [[.v (.bool true)], [.v (.bool false)]]], [.sl 1 [[.v (.bool true)], [.v (.bool true)]]]], .sl 1 [[.sl 1 [[.v (.bool true)], [.v (.bool false)]]], [.sl 1 [[.v (.bool true)], [.v (.bool true)]]]]]])], .val false [.zero]]
def res42 : ARes := { vals := [(true, [.zero, .zero, .zero, .zero]), (false, [.d (.v (.int .i64 (0)))])] }
theorem run42 : acall Tryz.prog (annT T41) 40 10 args42 [] = some res42 := by kernel_rfl
def T42 : CallT := (10, args42, res42) :: T41
theorem T42_ok : TabOk Tryz.prog T42 := ⟨annT_ok T41_ok 40 _ _ _ _ run42, T41_ok⟩
def args43 : List Arg := [.val true [.d (.sl 1 [[.v (.int .i64 (2))]]), .d (.sl 1 [[.v (.int .i64 (0))]]), .d (.sl 1 [[.v (.int .i64 (1))]]), .d (.sl 6 [[.v (.int .i64 (4)), .v (.int .i64 (0)), .v (.int .i64 (0)), .v (.bool false), .sl 1 [[.sl 1 [[.v (.bool true)], [.v (.bool false)]]], [.sl 1 [[.v (.bool true)], [.v (.bool true)]]]], .sl 1 [[.sl 1 [[.v (.bool true)], [.v (.bool false)]]], [.sl 1 [[.v (.bool true)], [.v (.bool true)]]]]]])]]
def res43 : ARes := { vals := [(true, [.d (.sl 1 [[.v (.int .i64 (2))]]), .d (.sl 1 [[.v (.int .i64 (1))]]), .d (.sl 1 [[.v (.int .i64 (0))]]), .d (.sl 6 [[.v (.int .i64 (4)), .v (.int .i64 (0)), .v (.int .i64 (0)), .v (.bool false), .sl 1 [[.sl 1 [[.v (.bool true)], [.v (.bool false)]]], [.sl 1 [[.v (.bool true)], [.v (.bool true)]]]], .sl 1 [[.sl 1 [[.v (.bool true)], [.v (.bool false)]]], [.sl 1 [[.v (.bool true)], [.v (.bool true)]]]]]])]), (false, [.d (.v (.int .i64 (0)))])] }
theorem run43 : acall Tryz.prog (annT T42) 40 11 args43 [] = some res43 := by kernel_rfl
def T43 : CallT := (11, args43, res43) :: T42
theorem T43_ok : TabOk Tryz.prog T43 := ⟨annT_ok T42_ok 40 _ _ _ _ run43, T42_ok⟩
def args44 : List Arg := [.val true [.d (.sl 1 [[.v (.int .i64 (2))]]), .d (.sl 1 [[.v (.int .i64 (0))]]), .d (.sl 1 [[.v (.int .i64 (1))]]), .d (.sl 6 [[.v (.int .i64 (4)), .v (.int .i64 (0)), .v (.int .i64 (0)), .v (.bool false), .sl 1 [[.sl 1 [[.v (.bool true)], [.v (.bool false)]]], [.sl 1 [[.v (.bool true)], [.v (.bool true)]]]], .sl 1 [[.sl 1 [[.v (.bool true)], [.v (.bool false)]]], [.sl 1 [[.v (.bool true)], [.v (.bool true)]]]]]])], .val true [.d (.sl 1 [[.v (.int .i64 (2))]]), .d (.sl 1 [[.v (.int .i64 (0))]]), .d (.sl 1 [[.v (.int .i64 (1))]]), .d (.sl 6 [[.v (.int .i64 (4)), .v (.int .i64 (0)), .v (.int .i64 (0)), .v (.bool false), .sl 1 [[.sl 1 [[.v (.bool true)], [.v (.bool false)]]], [.sl 1 [[.v (.bool true)], [.v (.bool true)]]]], .sl 1 [[.sl 1 [[.v (.bool true)], [.v (.bool false)]]], [.sl 1 [[.v (.bool true)], [.v (.bool true)]]]]]])]]
def res44 : ARes := { vals := [(false, [.d (.v (.bool true))])] }
theorem run44 : acall Tryz.prog (annT T43) 40 13 args44 [] = some res44 := by kernel_rfl
def T44 : CallT := (13, args44, res44) :: T43
theorem T44_ok : TabOk Tryz.prog T44 := ⟨annT_ok T43_ok 40 _ _ _ _ run44, T43_ok⟩
def args45 : List Arg := [.val true [.d (.sl 1 [[.v (.int .i64 (2))]]), .d (.sl 1 [[.v (.int .i64 (1))]]), .d (.sl 1 [[.v (.int .i64 (0))]]), .d (.sl 6 [[.v (.int .i64 (4)), .v (.int .i64 (0)), .v (.int .i64 (0)), .v (.bool false), .sl 1 [[.sl 1 [[.v (.bool true)], [.v (.bool false)]]], [.sl 1 [[.v (.bool true)], [.v (.bool true)]]]], .sl 1 [[.sl 1 [[.v (.bool true)], [.v (.bool false)]]], [.sl 1 [[.v (.bool true)], [.v (.bool true)]]]]]])], .val true [.d (.sl 1 [[.v (.int .i64 (2))]]), .d (.sl 1 [[.v (.int .i64 (0))]]), .d (.sl 1 [[.v (.int .i64 (1))]]), .d (.sl 6 [[.v (.int .i64 (4)), .v (.int .i64 (0)), .v (.int .i64 (0)), .v (.bool false), .sl 1 [[.sl 1 [[.v (.bool true)], [.v (.bool false)]]], [.sl 1 [[.v (.bool true)], [.v (.bool true)]]]], .sl 1 [[.sl 1 [[.v (.bool true)], [.v (.bool false)]]], [.sl 1 [[.v (.bool true)], [.v (.bool true)]]]]]])]]
def res45 : ARes := { vals := [(false, [.d (.v (.bool false))])] }
theorem run45 : acall Tryz.prog (annT T44) 40 13 args45 [] = some res45 := by kernel_rfl
def T45 : CallT := (13, args45, res45) :: T44
theorem T45_ok : TabOk Tryz.prog T45 := ⟨annT_ok T44_ok 40 _ _ _ _ run45, T44_ok⟩
def args46 : List Arg := [.val true [.d (.sl 1 [[.v (.int .i64 (2))]]), .d (.sl 1 [[.v (.int .i64 (0))]]), .d (.sl 1 [[.v (.int .i64 (1))]]), .d (.sl 6 [[.v (.int .i64 (4)), .v (.int .i64 (0)), .v (.int .i64 (0)), .v (.bool false), .sl 1 [[.sl 1 [[.v (.bool true)], [.v (.bool false)]]], [.sl 1 [[.v (.bool true)], [.v (.bool true)]]]], .sl 1 [[.sl 1 [[.v (.bool true)], [.v (.bool false)]]], [.sl 1 [[.v (.bool true)], [.v (.bool true)]]]]]])], .val true [.d (.sl 1 [[.v (.int .i64 (2))]]), .d (.sl 1 [[.v (.int .i64 (0))]]), .d (.sl 1 [[.v (.int .i64 (1))]]), .d (.sl 6 [[.v (.int .i64 (4)), .v (.int .i64 (0)), .v (.int .i64 (0)), .v (.bool false), .sl 1 [[.sl 1 [[.v (.bool true)], [.v (.bool false)]]], [.sl 1 [[.v (.bool true)], [.v (.bool true)]]]], .sl 1 [[.sl 1 [[.v (.bool true)], [.v (.bool false)]]], [.sl 1 [[.v (.bool true)], [.v (.bool true)]]]]]])]]
def res46 : ARes := { vals := [(false, [.d (.v (.bool true))])] }
theorem run46 : acall Tryz.prog (annT T45) 40 12 args46 [] = some res46 := by kernel_rfl
def T46 : CallT := (12, args46, res46) :: T45
theorem T46_ok : TabOk Tryz.prog T46 := ⟨annT_ok T45_ok 40 _ _ _ _ run46, T45_ok⟩
def args47 : List Arg := [.val true [.zero, .zero, .zero, .zero], .val true [.zero, .zero, .zero, .zero]]
def res47 : ARes := { vals := [(false, [.d (.v (.bool true))])] }
theorem run47 : acall Tryz.prog (annT T46) 40 12 args47 [] = some res47 := by kernel_rfl
def T47 : CallT := (12, args47, res47) :: T46
theorem T47_ok : TabOk Tryz.prog T47 := ⟨annT_ok T46_ok 40 _ _ _ _ run47, T46_ok⟩
def args48 : List Arg := []
def res48 : ARes := { vals := [(true, [.d (.sl 4 [[.v (.string ⟨#[88]⟩), .sl 5 [[.v (.string ⟨#[97]⟩), .sl 10 [[.v (.int .i64 (2)), .v (.string ⟨#[]⟩), .v (.int .i64 (0)), .v (.int .i64 (9)), .v (.int .i64 (0)), .sl 0 [], .sl 0 [], .v (.int .i64 (0)), .v (.int .i64 (0)), .v (.bool false)]], .sl 0 [], .sl 0 [], .sl 2 [[.v (.string ⟨#[84]⟩), .v (.int .i64 (0))]]], [.v (.string ⟨#[98]⟩), .sl 10 [[.v (.int .i64 (2)), .v (.string ⟨#[]⟩), .v (.int .i64 (0)), .v (.int .i64 (5)), .v (.int .i64 (0)), .sl 0 [], .sl 0 [], .v (.int .i64 (0)), .v (.int .i64 (0)), .v (.bool false)]], .sl 0 [], .sl 0 [], .sl 2 [[.v (.string ⟨#[84]⟩), .v (.int .i64 (0))]]]], .v (.int .i64 (0)), .v (.int .i64 (1))]]), .d (.sl 6 [[.v (.int .i64 (4)), .v (.string ⟨#[84]⟩), .v (.int .i64 (0)), .v (.int .i64 (0)), .v (.bool false), .v (.int .i64 (0))]])])] }
theorem run48 : acall Tryz.prog (annT T47) 40 9 args48 [] = some res48 := by kernel_rfl
def T48 : CallT := (9, args48, res48) :: T47
theorem T48_ok : TabOk Tryz.prog T48 := ⟨annT_ok T47_ok 40 _ _ _ _ run48, T47_ok⟩
theorem awake_run : acall Tryz.prog (annT T48) 40 4 [] [] = some { vals := [(false, [.d (.v (.bool true))])] } := by kernel_rfl
end Go.Proofs.YtjpdemikmdfonaaGreatDoor

