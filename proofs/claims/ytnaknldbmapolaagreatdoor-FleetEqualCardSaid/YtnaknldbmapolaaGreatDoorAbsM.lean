/-
  The abstract machine: a function of the program run over data without addresses, in the order of the text. Definitions alone.
-/
import Derived.Test.YtnaknldbmapolaaGreatDoorAbsD
namespace Go.Proofs.YtnaknldbmapolaaGreatDoor
open Go Go.RowKit
set_option linter.unusedSimpArgs false
set_option linter.unusedVariables false
/-- The value of a meaning that neither reads nor writes. -/
def semVal {α : Type} (P : Program) : Sem α → Option α
  | .pure a => some a
  | .program k => semVal P (k P)
  | .mark _ k => semVal P k
  | _ => none
def aggT (P : Program) (t : TypeId) : Option Bool :=
  match P.underlying t with
  | some (.struct _) => some true
  | some (.array ..) => some true
  | some _ => some false
  | none => none
def sizeT (P : Program) (t : TypeId) : Option Nat := (P.info? t).map (·.size)
def cellC : Value → Option C
  | .slice none 0 0 => some .zero
  | v => if scal v then some (.d (.v v)) else none
def constAV : Value → Option AV
  | .agg cs => (cs.toList.mapM cellC).map (.one true)
  | v => (cellC v).map fun c => .one false [c]
def ev (lt : Nat → Option AV) : Operand → Option AV
  | .tmp t => lt t
  | .const v => constAV v
  | .func f => some (.one false [.d (.v (.func (.func f) #[] #[]))])
  | .global _ => none
def scV : C → Option Value
  | .d (.v x) => some x
  | _ => none
/-- The value itself, where no address stands in it. -/
def conV : AV → Option Value
  | .one true cs => (cs.mapM scV).map fun (vs : List Value) => .agg vs.toArray
  | .one false [.d (.v x)] => some x
  | _ => none
def toD (lb : Key → Option Box) : C → Option (D × List Key)
  | .d d => some (d, [])
  | .zero => some (.sl 0 [], [])
  | .own q => match lb q with
    | some (.fz sz rows) => some (.sl sz rows, [])
    | some (.sl _ sz rows) => some (.sl sz rows, [q])
    | _ => none
  | _ => none
def toDs (lb : Key → Option Box) : List C → Option (List D × List Key)
  | [] => some ([], [])
  | c :: cs => match toD lb c, toDs lb cs with
    | some (d, k), some (ds, ks) => some (d :: ds, k ++ ks)
    | _, _ => none
/-- n rows of sz. -/
def chunks (sz : Nat) : Nat → List D → List (List D)
  | 0, _ => []
  | n + 1, l => l.take sz :: chunks sz n (l.drop sz)
/-- A cell as data while it is lent: also a slice of own slices. -/
def toL (lb : Key → Option Box) : C → Option D
  | .arr q n z => match lb q with
    | some (.st _ cs) => if cs.length = n * z ∧ n ≤ 4611686018427387904 then (toDs lb cs).map fun (ds, _) => .sl z (chunks z n ds) else none
    | _ => none
  | c => (toD lb c).map (·.1)
def toLs (lb : Key → Option Box) : List C → Option (List D)
  | [] => some []
  | c :: cs => match toL lb c, toLs lb cs with
    | some d, some ds => some (d :: ds)
    | _, _ => none
def afill (place : Nat → Option (Nat × Nat)) : List C → List (Nat × List C) → Option (List C)
  | cells, [] => some cells
  | cells, (i, cs) :: rest => match place i with
    | none => none
    | some (off, size) => if cs.length = size ∧ off + cs.length ≤ cells.length then afill place (cells.take off ++ (cs ++ cells.drop (off + cs.length))) rest else none
def aBuilt (P : Program) (t : TypeId) (parts : List (Nat × List C)) : Option (List C) :=
  match P.info? t, P.underlying t with
  | some it, some (.array _ e) =>
    match it.zero, P.info? e with
    | some z, some ie => (z.cells.toList.mapM cellC).bind fun zs => afill (fun i => some (i * ie.size, ie.size)) zs parts
    | _, _ => none
  | some it, some (.struct fields) =>
    match it.zero, fields.toList.mapM (fun f => (P.info? f.type).map fun i => (f.offset, i.size)) with
    | some z, some places => (z.cells.toList.mapM cellC).bind fun zs => afill (places.toArray[·]?) zs parts
    | _, _ => none
  | _, _ => none
def cellsOfAV : AV → Option (List C)
  | .one true cs => some cs
  | .one false [c] => some [c]
  | _ => none
def evParts (lt : Nat → Option AV) : List (Nat × Operand) → Option (List (Nat × List C))
  | [] => some []
  | (i, x) :: rest => match (ev lt x).bind cellsOfAV, evParts lt rest with
    | some cs, some r => some ((i, cs) :: r)
    | _, _ => none
def rowsOf (lb : Key → Option Box) (q : Key) : Option (Nat × List (List D)) :=
  match lb q with
  | some (.sl _ sz rows) => some (sz, rows)
  | some (.fz sz rows) => some (sz, rows)
  | _ => none
/-- The cells behind a pointer, and the offset in them. -/
def behind (lb : Key → Option Box) : C → Option (List C × Nat)
  | .ptr q off => match lb q with
    | some (.st _ cs) => some (cs, off)
    | _ => none
  | .eptr q i off => match lb q with
    | some (.sl _ _ rows) => (rows[i]?).map fun row => (row.map .d, off)
    | _ => none
  | .rptr row off => some (row.map .d, off)
  | _ => none
def isPtr : C → Bool
  | .ptr .. => true
  | .eptr .. => true
  | .rptr .. => true
  | _ => false
def addOff (n : Nat) : C → Option C
  | .ptr q off => some (.ptr q (off + n))
  | .eptr q i off => some (.eptr q i (off + n))
  | .rptr row off => some (.rptr row (off + n))
  | _ => none
/-- What an operation gives: its value, the boxes that it makes, changes or uses up, own slices that must be shut first. -/
structure Eff where
  av : AV
  up : List (Key × Option Box) := []
  needs : List Key := []
inductive Arg where
  | val (b : Bool) (cs : List C)
  | io (ty : TypeId) (cs : List C)
structure ARes where
  vals : List (Bool × List C)
  ios : List (List C) := []
  bx : List (Key × Box) := []
abbrev CallF := FuncId → List Arg → List (Key × Box) → Option ARes
def capKeys : Cap → List Key
  | .ptr q _ => [q]
  | _ => []
def capRen (f : Key → Key) : Cap → Cap
  | .ptr q o => .ptr (f q) o
  | c => c
def Cap.toC : Cap → C
  | .d x => .d x
  | .ptr q o => .ptr q o
  | .rptr row o => .rptr row o
def keysC : C → List Key
  | .own q => [q]
  | .arr q _ _ => [q]
  | .mp q => [q]
  | .fn _ caps => caps.flatMap capKeys
  | .ptr q _ => [q]
  | .eptr q _ _ => [q]
  | _ => []
def renC (f : Key → Key) : C → C
  | .own q => .own (f q)
  | .arr q n z => .arr (f q) n z
  | .mp q => .mp (f q)
  | .fn g caps => .fn g (caps.map (capRen f))
  | .ptr q o => .ptr (f q) o
  | .eptr q i o => .eptr (f q) i o
  | c => c
/-- The j-th box of a result is taken over under the key (key j). -/
def renK (key : Nat → Key) : List (Key × Box) → Nat → Key → Key
  | [], _, q => q
  | (k, _) :: rest, j, q => if q = k then key j else renK key rest (j + 1) q
def renBx (f : Key → Key) : Box → Box
  | .st ty cs => .st ty (cs.map (renC f))
  | b => b
def takeBx (f : Key → Key) (key : Nat → Key) : List (Key × Box) → Nat → List (Key × Option Box)
  | [], _ => []
  | (_, b) :: rest, j => (key j, some (renBx f b)) :: takeBx f key rest (j + 1)
def resAV (f : Key → Key) : List (Bool × List C) → AV
  | [(b, cs)] => .one b (cs.map (renC f))
  | xs => .tup (xs.map fun (b, cs) => (b, cs.map (renC f)))
def scalC : C → Bool
  | .d (.v _) => true
  | .zero => true
  | _ => false
def ARes.scalars (r : ARes) : Bool := r.bx.isEmpty && r.vals.all fun (_, cs) => cs.all scalC
/-- A captured variable is lent. -/
def lendCap (lb : Key → Option Box) : Cap → Option Cap
  | .ptr q o => match lb q with
    | some (.st _ cs) => (toLs lb cs).map fun ds => .rptr ds o
    | _ => none
  | c => some c
/-- An argument that holds data alone; an own slice must be shut first, or is lent (lend). -/
def argVal (lb : Key → Option Box) (lend : Bool) : C → Option (C × List Key)
  | .d d => some (.d d, [])
  | .zero => some (.zero, [])
  | .rptr row o => some (.rptr row o, [])
  | .own q => (toD lb (.own q)).map fun (d, ks) => (.d d, if lend then [] else ks)
  | .ptr q o => if lend then match lb q with
    | some (.st _ cs) => (toLs lb cs).map fun ds => (.rptr ds o, [])
    | _ => none else none
  | .eptr q i o => if lend then match lb q with
    | some (.sl _ _ rows) => (rows[i]?).map fun row => (.rptr row o, [])
    | _ => none else none
  | .dead => some (.dead, [])
  | .fn g caps => if lend then (caps.mapM (lendCap lb)).map fun cs => (.fn g cs, []) else if caps.all (fun c => (capKeys c).isEmpty) then some (.fn g caps, []) else none
  | .arr .. => none
  | .mp _ => none
def argVals (lb : Key → Option Box) (lend : Bool) : List C → Option (List C × List Key)
  | [] => some ([], [])
  | c :: cs => match argVal lb lend c, argVals lb lend cs with
    | some (d, k), some (ds, ks) => some (d :: ds, k ++ ks)
    | _, _ => none
def argsOf (lt : Nat → Option AV) (lb : Key → Option Box) (lend : Bool) : List Operand → Option (List (Bool × List C) × List Key)
  | [] => some ([], [])
  | x :: xs => match ev lt x, argsOf lt lb lend xs with
    | some (.one b cs), some (xs', ks) => match argVals lb lend cs with
      | some (cs', k) => some ((b, cs') :: xs', k ++ ks)
      | none => none
    | _, _ => none
def calleeOf (lt : Nat → Option AV) (f : Operand) : Option (FuncId × List C) :=
  match ev lt f with
  | some (.one false [.d (.v (.func (.func f) a b))]) => if a.isEmpty && b.isEmpty then some (f, []) else none
  | some (.one false [.fn g caps]) => some (g, caps.map Cap.toC)
  | _ => none
/-- Has the function a Go body? -/
def bodied (P : Program) (f : FuncId) : Bool :=
  match P.funcs[f]? with
  | some fn => fn.body.isSome && !(fn.name == "runtime.NumGoroutine")
  | none => false
def intV : Option AV → Option Int
  | some (.one false [.d (.v (.int _ n))]) => some n
  | _ => none
def lenC (lb : Key → Option Box) : C → Option Nat
  | .zero => some 0
  | .d (.sl _ rows) => some rows.length
  | .own q => (rowsOf lb q).map (·.2.length)
  | .arr _ n _ => some n
  | _ => none
/-- The rows of a slice that is only looked at. -/
def lookRows (lb : Key → Option Box) (sz : Nat) : C → Option (List (List D))
  | .zero => some []
  | .d (.sl s rows) => if s = sz || rows.isEmpty then some rows else none
  | .own q => match rowsOf lb q with
    | some (s, rows) => if s = sz || rows.isEmpty then some rows else none
    | none => none
  | _ => none
def slot1 : AV → Option C
  | .one false [c] => some c
  | _ => none
/-- Own slices of this very region that become data. -/
def shut (cur : Nat) (lb : Key → Option Box) (ks : List Key) : List (Key × Option Box) := (ks.filter (·.2 == cur)).filterMap fun k => match lb k with
  | some (.sl _ sz rows) => some (k, some (.fz sz rows))
  | _ => none
/-- Operations that look at operands without addresses alone. -/
def plainOp : Op → Bool
  | .binOp .. => true
  | .unOp .. => true
  | .convert .. => true
  | .index .. => true
  | .slice .. => true
  | .call { callee := .builtin b, .. } => match b with
    | .len => true
    | .min => true
    | .max => true
    | _ => false
  | _ => false
def effPlain (P : Program) (lt : Nat → Option AV) (o : Oper) : Option Eff :=
  if plainOp o.op && (o.op.operands.toList.all fun x => ((ev lt x).bind conV).isSome) then
    match semVal P (execOp (fun x => ((ev lt x).bind conV).getD undef) o) with
    | some (.value v) => (constAV v).map fun av => { av }
    | _ => none
  else none
/-- Arguments of a call that may write behind pointers: the struct's cells go in and come out. -/
def ioCells (lb : Key → Option Box) (n : Nat) : List C → Option (List C × List (Key × Key × Box) × Nat)
  | [] => some ([], [], n)
  | c :: cs => match c with
    | .own q => match lb q with
      | some (.fz sz rows) => (ioCells lb n cs).map fun (l, b, m) => (.d (.sl sz rows) :: l, b, m)
      | some (.sl ty sz rows) => (ioCells lb (n + 1) cs).map fun (l, b, m) => (.own (1000 + n, 0) :: l, (q, (1000 + n, 0), .sl ty sz rows) :: b, m)
      | _ => none
    | .ptr .. => none
    | .eptr .. => none
    | .arr .. => none
    | .mp _ => none
    | .fn .. => none
    | c => (ioCells lb n cs).map fun (l, b, m) => (c :: l, b, m)
def ioArgs (lt : Nat → Option AV) (lb : Key → Option Box) : Nat → List Operand → Option (List Arg × List Key × List (Key × TypeId) × List (Key × Key × Box))
  | _, [] => some ([], [], [], [])
  | n, x :: xs => match ev lt x with
    | some (.one false [.ptr q 0]) => match lb q with
      | some (.st ty cs) => match ioCells lb n cs with
        | some (l, b, m) => (ioArgs lt lb m xs).map fun (as', ks, qs, bs) => (.io ty l :: as', ks, (q, ty) :: qs, b ++ bs)
        | none => none
      | _ => none
    | some (.one b cs) => match argVals lb false cs with
      | some (cs', k) => (ioArgs lt lb n xs).map fun (as', ks, qs, bs) => (.val b cs' :: as', k ++ ks, qs, bs)
      | none => none
    | _ => none
def putIo (f : Key → Key) : List (Key × TypeId) → List (List C) → List (Key × Option Box)
  | (q, ty) :: qs, cs :: r => (q, some (.st ty (cs.map (renC f)))) :: putIo f qs r
  | _, _ => []
def nodup : List Key → Bool
  | [] => true
  | k :: ks => !ks.contains k && nodup ks
def effBuildSlice (P : Program) (cur : Nat) (key : Nat → Key) (t : TypeId) (len : Nat) (parts : List (Nat × Operand)) (lt : Nat → Option AV) (lb : Key → Option Box) : Option Eff :=
  match P.underlying t with
  | some (.slice e) => match P.info? e with
    | some ie => match ie.zero with
      | some z => if len * ie.size ≤ 16777216 ∧ z.cells.size = ie.size ∧ 0 < ie.size then
          match z.cells.toList.mapM cellC, evParts lt parts with
          | some zs, some ps => match afill (fun i => some (i * ie.size, ie.size)) (List.replicate len zs).flatten ps with
            | some cs => match toDs lb cs with
              | some (ds, ks) => some { av := .one false [.own (key 0)], up := (key 0, some (.sl e ie.size (chunks ie.size len ds))) :: shut cur lb ks, needs := ks.filter (·.2 != cur) }
              | none => none
            | none => none
          | _, _ => none
        else none
      | none => none
    | none => none
  | _ => none
def effLoad (P : Program) (t : TypeId) (x : Operand) (lt : Nat → Option AV) (lb : Key → Option Box) : Option Eff :=
  match ((ev lt x).bind slot1).bind (behind lb), aggT P t, sizeT P t with
  | some (cs, off), some true, some sz => if off + sz ≤ cs.length then some { av := .one true ((cs.drop off).take sz) } else none
  | some (cs, off), some false, some _ => (cs[off]?).map fun c => { av := .one false [c] }
  | _, _, _ => none
def effStore (P : Program) (cur : Nat) (t : TypeId) (x y : Operand) (lt : Nat → Option AV) (lb : Key → Option Box) : Option Eff :=
  match (ev lt x).bind slot1, (ev lt y).bind cellsOfAV, sizeT P t with
  | some (.ptr q off), some vs, some sz => match lb q with
    | some (.st ty cs) => if vs.length = sz ∧ off + sz ≤ cs.length then some { av := .un, up := [(q, some (.st ty (cs.take off ++ (vs ++ cs.drop (off + sz)))))] } else none
    | _ => none
  | some (.eptr q j off), some vs, some sz => match lb q with
    | some (.sl ty s rows) => match rows[j]?, toDs lb vs with
      | some row, some (ds, ks) => if vs.length = sz ∧ off + sz ≤ row.length ∧ !ks.contains q then some { av := .un, up := (q, some (.sl ty s (rows.set j (row.take off ++ (ds ++ row.drop (off + sz)))))) :: shut cur lb ks, needs := ks.filter (·.2 != cur) } else none
      | _, _ => none
    | _ => none
  | _, _, _ => none
def effIndexAddr (P : Program) (t : TypeId) (x ix : Operand) (lt : Nat → Option AV) (lb : Key → Option Box) : Option Eff :=
  match P.underlying t, (ev lt x).bind slot1, intV (ev lt ix) with
  | some (.slice e), some (.d (.sl sz rows)), some i => if sizeT P e = some sz ∧ 0 ≤ i then (rows[i.toNat]?).map fun row => { av := .one false [.rptr row 0] } else none
  | some (.slice e), some (.own q), some i => match lb q with
    | some (.sl _ sz rows) => if sizeT P e = some sz ∧ 0 ≤ i ∧ i.toNat < rows.length then some { av := .one false [.eptr q i.toNat 0] } else none
    | some (.fz sz rows) => if sizeT P e = some sz ∧ 0 ≤ i then (rows[i.toNat]?).map fun row => { av := .one false [.rptr row 0] } else none
    | _ => none
  | some (.slice e), some (.arr q n z), some i => match sizeT P e with
    | some sz => if sz = z ∧ 0 ≤ i ∧ i < n then some { av := .one false [.ptr q (i.toNat * sz)] } else none
    | none => none
  | some (.array n e), some c, some i => match sizeT P e with
    | some sz => if 0 ≤ i ∧ i < n then (addOff (i.toNat * sz) c).map fun c => { av := .one false [c] } else none
    | none => none
  | _, _, _ => none
def bound (lt : Nat → Option AV) (dflt : Int) : Option Operand → Option Int
  | some l => intV (ev lt l)
  | none => some dflt
def effSlice (P : Program) (t : TypeId) (x : Operand) (lo hi mx : Option Operand) (o : Oper) (lt : Nat → Option AV) (lb : Key → Option Box) : Option Eff :=
  match P.underlying t with
  | some (.slice e) => match (ev lt x).bind slot1, mx with
    | some (.d (.sl sz rows)), none => match bound lt 0 lo, bound lt rows.length hi with
      | some l, some h => if sizeT P e = some sz ∧ 0 ≤ l ∧ l ≤ h ∧ h ≤ rows.length then some { av := .one false [.d (.sl sz ((rows.drop l.toNat).take (h.toNat - l.toNat)))] } else none
      | _, _ => none
    | _, _ => none
  | some .string => effPlain P lt o
  | _ => none
def isSliceT (P : Program) (t : TypeId) : Bool := match P.underlying t with
  | some (.slice _) => true
  | _ => false
def effMakeSlice (P : Program) (key : Nat → Key) (t : TypeId) (l c : Operand) (lt : Nat → Option AV) : Option Eff :=
  match P.underlying t, intV (ev lt l), intV (ev lt c) with
  | some (.slice e), some n, some m => match P.info? e with
    | some ie => match ie.zero with
      | some z => if n ≤ m ∧ 0 ≤ n ∧ m * ie.bytes ≤ 140737488355328 ∧ m ≤ 4611686018427387904 ∧ z.cells.size = ie.size ∧ 0 < ie.size then
          if isSliceT P e then match z.cells.toList.mapM cellC with
            | some zs => if 0 < n ∧ n = m then some { av := .one false [.arr (key 0) n.toNat ie.size], up := [(key 0, some (.st e (List.replicate n.toNat zs).flatten))] } else none
            | none => none
          else match (z.cells.toList.mapM cellC).bind (toDs fun _ => none) with
          | some (row, _) => some { av := .one false [.own (key 0)], up := [(key 0, some (.sl e ie.size (List.replicate n.toNat row)))] }
          | none => none
        else none
      | none => none
    | none => none
  | _, _, _ => none
def effAppend (P : Program) (key : Nat → Key) (t tx : TypeId) (s x : Operand) (lt : Nat → Option AV) (lb : Key → Option Box) : Option Eff :=
  match P.underlying t, P.underlying tx, (ev lt s).bind slot1, (ev lt x).bind slot1 with
  | some (.slice e), some (.slice _), some cs, some cx => match P.info? e with
    | some ie => match ie.zero with
      | some z => if z.cells.size = ie.size ∧ 0 < ie.size then
        match lookRows lb ie.size cx with
        | some new =>
          match cs with
          | .zero => if new.length * ie.bytes ≤ 140737488355328 ∧ new.length ≤ 4611686018427387904 then some { av := .one false [.own (key 0)], up := [(key 0, some (.sl e ie.size new))] } else none
          | .own q => match lb q with
            | some (.sl e' sz rows) => if e' = e ∧ sz = ie.size ∧ (rows.length + new.length) * ie.bytes ≤ 140737488355328 ∧ rows.length + new.length ≤ 4611686018427387904 then
                some { av := .one false [.own (key 0)], up := [(key 0, some (.sl e ie.size (rows ++ new))), (q, none)] } else none
            | _ => none
          | _ => none
        | none => none
        else none
      | none => none
    | none => none
  | _, _, _, _ => none
/-- All own slices of a result come with it. -/
def keysBx : Box → List Key
  | .st _ cs => cs.flatMap keysC
  | _ => []
def ARes.closed (r : ARes) : Bool := (r.bx.all fun (_, b) => (keysBx b).all fun k => (r.bx.map (·.1)).contains k) && (r.vals.all fun (_, cs) => cs.all fun c => (keysC c).all fun k => (r.bx.map (·.1)).contains k) && r.ios.all fun cs => cs.all fun c => (keysC c).all fun k => (r.bx.map (·.1)).contains k
def Box.isSl : Box → Bool
  | .sl .. => true
  | _ => false
def Box.okRes : Box → Bool
  | .sl .. => true
  | .st .. => true
  | _ => false
/-- A call that hands over data alone (or lends own memory to a callee that gives back scalars). -/
def effVal (call : CallF) (lend : Bool) (cur : Nat) (key : Nat → Key) (g : FuncId) (xs : List (Bool × List C)) (ks : List Key) (lb : Key → Option Box) : Option Eff :=
  match call g (xs.map fun (b, cs) => .val b cs) [] with
  | some r => if r.ios.length = 0 ∧ r.bx.length ≤ 64 ∧ (lend = false ∨ r.scalars = true) ∧ r.closed = true ∧ nodup (r.bx.map (·.1)) = true ∧ (r.bx.all fun x => x.2.okRes) = true then some { av := resAV (renK key r.bx 0) r.vals, up := takeBx (renK key r.bx 0) key r.bx 0 ++ shut cur lb ks, needs := ks.filter (·.2 != cur) } else none
  | none => none
/-- The boxes of the arguments behind the call. -/
def ioBx : Nat → List Arg → List (List C) → List (Key × Box)
  | i, .val _ _ :: r, ios => ioBx (i + 1) r ios
  | i, .io ty _ :: r, cs :: ios => ((i, 0), .st ty cs) :: ioBx (i + 1) r ios
  | _, _, _ => []
def isIo : Arg → Bool
  | .io .. => true
  | .val .. => false
def zipIo : Nat → List Arg → List (Key × TypeId) → List (Key × Key)
  | i, .val _ _ :: r, qs => zipIo (i + 1) r qs
  | i, .io _ _ :: r, (q, _) :: qs => ((i, 0), q) :: zipIo (i + 1) r qs
  | _, _, _ => []
/-- The callee's keys, and ours. -/
def dictOf (xs : List Arg) (qs : List (Key × TypeId)) (bs : List (Key × Key × Box)) : List (Key × Key) := zipIo 0 xs qs ++ bs.map fun x => (x.2.1, x.1)
def argBx : Nat → List Arg → List (Key × Box)
  | _, [] => []
  | i, .val _ _ :: r => argBx (i + 1) r
  | i, .io ty cs :: r => ((i, 0), .st ty cs) :: argBx (i + 1) r
/-- A call that may write behind pointers. -/
def effIo (call : CallF) (cur : Nat) (key : Nat → Key) (g : FuncId) (xs : List Arg) (ks : List Key) (qs : List (Key × TypeId)) (bs : List (Key × Key × Box)) (lb : Key → Option Box) : Option Eff :=
  if nodup ((dictOf xs qs bs).map (·.1)) = true ∧ nodup ((dictOf xs qs bs).map (·.2)) = true ∧ (ks.all fun k => !(bs.map (·.1)).contains k) = true ∧ ((dictOf xs qs bs).all fun x => x.1.2 == 0) = true then match call g xs (bs.map (·.2)) with
    | some r => if r.ios.length = qs.length ∧ r.bx.length ≤ 64 ∧ r.closed = true ∧ nodup ((ioBx 0 xs r.ios ++ r.bx).map (·.1)) = true ∧ (r.bx.all fun x => x.2.okRes) = true then
        some { av := resAV (renK key r.bx 0) r.vals, up := putIo (renK key r.bx 0) qs r.ios ++ (takeBx (renK key r.bx 0) key r.bx 0 ++ (bs.map (fun x => (x.1, none)) ++ shut cur lb ks)), needs := ks.filter (·.2 != cur) } else none
    | none => none
  else none
def effCall (P : Program) (call : CallF) (lend : FuncId → Bool) (cur : Nat) (key : Nat → Key) (f : Operand) (args : List Operand) (lt : Nat → Option AV) (lb : Key → Option Box) : Option Eff :=
  match calleeOf lt f with
  | some (g, caps) => if bodied P g then match argsOf lt lb (lend g || !caps.isEmpty) args with
    | some (xs, ks) => match argVals lb true caps with
      | some (cs, _) => effVal call (lend g || !caps.isEmpty) cur key g (xs ++ cs.map fun c => (false, [c])) ks lb
      | none => none
    | none => if caps.isEmpty then match ioArgs lt lb 0 args with
      | some (xs, ks, qs, bs) => effIo call cur key g xs ks qs bs lb
      | none => none
      else none
    else none
  | none => none
def capOf : C → Option Cap
  | .d d => some (.d d)
  | .ptr q o => some (.ptr q o)
  | .rptr row o => some (.rptr row o)
  | _ => none
def effMakeFunc (fn : Fn) (first captured : List Operand) (lt : Nat → Option AV) : Option Eff :=
  match fn, first with
  | .func g, [] => if captured.isEmpty then some { av := .one false [.d (.v (.func (.func g) #[] #[]))] } else (captured.mapM fun x => ((ev lt x).bind slot1).bind capOf).map fun caps => { av := .one false [.fn g caps] }
  | _, _ => none
/-- What a map says to a key. -/
def mapFind (P : Program) (t : TypeId) (empty : Bool) (k : Value) (es : List MapEntry) : Option (TypeId × Option (Nat × Value)) :=
  match P.underlying t with
  | some (.map kt et) => match semVal P (Instr.checkKey empty 10000 kt k), semVal P (Instr.findKey kt k es) with
    | some _, some r => some (et, r)
    | _, _ => none
  | _ => none
def effLookup (P : Program) (t : TypeId) (x ix : Operand) (ok : Bool) (lt : Nat → Option AV) (lb : Key → Option Box) : Option Eff :=
  match (ev lt x).bind slot1, (ev lt ix).bind conV with
  | some (.mp q), some k => match lb q with
    | some (.mp es _) => match mapFind P t es.isEmpty k es.toList with
      | some (et, r) => match (match r with | some (_, v) => some (v, true) | none => (semVal P (zeroValue et)).map fun v => (v, false)) with
        | some (v, b) => match v with
          | .agg _ => none
          | v => (cellC v).map fun c => { av := if ok then .tup [(false, [c]), (false, [.d (.v (.bool b))])] else .one false [c] }
        | none => none
      | none => none
    | _ => none
  | _, _ => none
def effMapUpdate (P : Program) (t : TypeId) (x ix y : Operand) (lt : Nat → Option AV) (lb : Key → Option Box) : Option Eff :=
  match (ev lt x).bind slot1, (ev lt ix).bind conV, (ev lt y).bind conV with
  | some (.mp q), some k, some v => match lb q with
    | some (.mp es ck) => match mapFind P t false k es.toList with
      | some (_, some (i, _)) => if Instr.sameBits 10000 (((es[i]?).map (·.key)).getD k) k then some { av := .un, up := [(q, some (.mp (es.modify i fun e => { e with key := k, val := v }) ck))] } else none
      | some (_, none) => some { av := .un, up := [(q, some (.mp (es.push { key := k, val := v, born := ck }) (ck + 1)))] }
      | none => none
    | _ => none
  | _, _, _ => none
/-- What an operation does. lend: callees that give back scalars may look at own memory. -/
def effOf (P : Program) (call : CallF) (lend : FuncId → Bool) (cur : Nat) (key : Nat → Key) (o : Oper) (lt : Nat → Option AV) (lb : Key → Option Box) : Option Eff :=
  match o.op with
  | .move x => (ev lt x).map fun av => { av }
  | .assign x => (ev lt x).map fun av => { av }
  | .pick c x y => match ev lt c with
    | some (.one false [.d (.v (.bool b))]) => (if b then ev lt x else ev lt y).map fun av => { av }
    | _ => none
  | .alloc t => match (P.info? t).bind (·.zero) with
    | some z => (z.cells.toList.mapM cellC).map fun cs => { av := .one false [.ptr (key 0) 0], up := [(key 0, some (.st t cs))] }
    | none => none
  | .box t x => ((ev lt x).bind cellsOfAV).map fun cs => { av := .one false [.ptr (key 0) 0], up := [(key 0, some (.st t cs))] }
  | .build t parts => ((evParts lt parts.toList).bind (aBuilt P t)).map fun cs => { av := .one true cs }
  | .buildSlice t len parts => effBuildSlice P cur key t len parts.toList lt lb
  | .load t x => effLoad P t x lt lb
  | .store t x y => effStore P cur t x y lt lb
  | .nilCheck x => match (ev lt x).bind slot1 with
    | some c => if isPtr c then some { av := .one false [c] } else none
    | none => none
  | .fieldAddr s x f => match P.underlying s, (ev lt x).bind slot1 with
    | some (.struct fields), some c => match fields[f]? with
      | some fd => match sizeT P fd.type with
        | some sz => if sz = 0 then none else (addOff fd.offset c).map fun c => { av := .one false [c] }
        | none => none
      | none => none
    | _, _ => none
  | .indexAddr t x ix => effIndexAddr P t x ix lt lb
  | .field t x f => match P.underlying t, ev lt x with
    | some (.struct fields), some (.one true cs) => match fields[f]? with
      | some fd => match aggT P fd.type, sizeT P fd.type with
        | some true, some sz => if fd.offset + sz ≤ cs.length then some { av := .one true ((cs.drop fd.offset).take sz) } else none
        | some false, some _ => (cs[fd.offset]?).map fun c => { av := .one false [c] }
        | _, _ => none
      | none => none
    | _, _ => none
  | .extract x i => match ev lt x with
    | some (.tup xs) => (xs[i]?).map fun (b, cs) => { av := .one b cs }
    | _ => none
  | .slice t x lo hi mx => effSlice P t x lo hi mx o lt lb
  | .makeSlice t l c => effMakeSlice P key t l c lt
  | .call c => match c.callee with
    | .builtin .len => match c.argTypes.toList, c.args.toList with
      | [t], [x] => match P.underlying t with
        | some (.slice _) => (((ev lt x).bind slot1).bind (lenC lb)).map fun (n : Nat) => { av := .one false [.d (.v (.int .i64 (n : Int)))] }
        | _ => effPlain P lt o
      | _, _ => none
    | .builtin .append => match c.argTypes.toList, c.args.toList with
      | [t, tx], [s, x] => effAppend P key t tx s x lt lb
      | _, _ => none
    | .builtin _ => effPlain P lt o
    | .value f => effCall P call lend cur key f c.args.toList lt lb
    | .invoke .. => none
  | .makeFunc fn first captured => effMakeFunc fn first.toList captured.toList lt
  | .makeMap t none => some { av := .one false [.mp (key 0)], up := [(key 0, some (.mp #[] 0))] }
  | .lookup t x ix ok => effLookup P t x ix ok lt lb
  | .mapUpdate t m k x => effMapUpdate P t m k x lt lb
  | .insert t m k x => effMapUpdate P t m k x lt lb
  | .binOp .. => effPlain P lt o
  | .unOp .. => effPlain P lt o
  | .convert .. => effPlain P lt o
  | .index .. => effPlain P lt o
  | _ => none
def lk {α β : Type} [DecidableEq α] : List (α × β) → α → Option β
  | [], _ => none
  | (k, v) :: r, a => if a = k then some v else lk r a
structure St where
  tm : List (Nat × AV)
  bx : List (Key × Box)
  nx : Nat
def keysAV : AV → List Key
  | .one _ cs => cs.flatMap keysC
  | .tup xs => xs.flatMap fun (_, cs) => cs.flatMap keysC
  | _ => []
def opTmps (o : Oper) : List Nat := o.op.operands.toList.filterMap fun x => match x with | .tmp t => some t | _ => none
def keysB : Option Box → List Key
  | some (.st _ cs) => cs.flatMap keysC
  | _ => []
/-- Does the operation look at own memory? -/
def looks : Op → Bool
  | .load .. => true
  | .store .. => true
  | .indexAddr .. => true
  | .buildSlice .. => true
  | .call _ => true
  | .lookup .. => true
  | .mapUpdate .. => true
  | .insert .. => true
  | _ => false
def keysT (lt : Nat → Option AV) (t : Nat) : List Key := match lt t with
  | some av => keysAV av
  | none => []
def opKeys (lt : Nat → Option AV) (lb : Key → Option Box) (o : Oper) : List Key :=
  if looks o.op then
    let ks := (opTmps o).flatMap (keysT lt)
    let ls := ks.flatMap fun q => keysB (lb q)
    ks ++ (ls ++ ls.flatMap fun q => keysB (lb q))
  else []
def onlyT (o : Oper) (lt : Nat → Option AV) (t : Nat) : Option AV := if (opTmps o).contains t then lt t else none
def onlyB (ks : List Key) (lb : Key → Option Box) (k : Key) : Option Box := if ks.contains k then lb k else none
def setT (d : Option Nat) (av : AV) (tm : List (Nat × AV)) : List (Nat × AV) :=
  match d with
  | some d => (d, av) :: tm.filter (·.1 != d)
  | none => tm
def delB (ks : List Key) (bx : List (Key × Box)) : List (Key × Box) := bx.filter fun p => !ks.contains p.1
def setB (q : Key) (b : Box) (bx : List (Key × Box)) : List (Key × Box) := (q, b) :: delB [q] bx
def freezeB (ks : List Key) (bx : List (Key × Box)) : List (Key × Box) := bx.map fun (k, b) => (k, match b with
  | .sl ty sz rows => if ks.contains k then .fz sz rows else .sl ty sz rows
  | b => b)
structure Env where
  call : Nat → CallF
  lend : FuncId → Bool
  cl : Code → St → St
  fuel : Nat
  N : Nat
/-- Is the operation carried out? -/
def wantA (ops : Array Oper) (o : Oper) (lt : Nat → Option AV) : Option Bool :=
  match o.guard with
  | none => some true
  | some (j, b) => match ((ops[j]?).bind (·.dst)).bind lt with
    | some (.one false [.d (.v (.bool c))]) => some (c == b)
    | some .un => some false
    | _ => none
def keyAt (i nx : Nat) (j : Nat) : Key := (i * 64 + j, nx)
def effAt (P : Program) (E : Env) (i : Nat) (o : Oper) (lt : Nat → Option AV) (lb : Key → Option Box) (nx : Nat) : Option Eff :=
  effOf P (E.call i) E.lend nx (keyAt i nx) o (onlyT o lt) (onlyB (opKeys lt lb o) lb)
def putB : List (Key × Option Box) → List (Key × Box) → List (Key × Box)
  | [], bx => bx
  | (k, some b) :: r, bx => (k, b) :: (putB r bx).filter (·.1 != k)
  | (k, none) :: r, bx => (putB r bx).filter (·.1 != k)
/-- What an operation looked at and changed. -/
structure Note where
  keys : List Key
  ups : List Key
/-- The operations in the order of the text. -/
def seqOps (P : Program) (E : Env) (ops : Array Oper) : Nat → List Oper → St → Option (St × List Key × List Note)
  | _, [], st => some (st, [], [])
  | i, o :: rest, st => if o.dst.all (· < E.N) then match wantA ops o (lk st.tm) with
    | some true => match effAt P E i o (lk st.tm) (lk st.bx) st.nx with
      | some e => (seqOps P E ops (i + 1) rest { st with tm := setT o.dst e.av st.tm, bx := putB e.up st.bx }).map fun (s, k, r) => (s, e.needs ++ k, ⟨opKeys (lk st.tm) (lk st.bx) o, e.up.map (·.1)⟩ :: r)
      | none => none
    | some false => (seqOps P E ops (i + 1) rest { st with tm := setT o.dst .un st.tm }).map fun (s, k, r) => (s, k, ⟨[], []⟩ :: r)
    | none => none
    else none
def guardTmps (ops : Array Oper) (o : Oper) : List Nat := match o.guard with
  | none => []
  | some (j, _) => ((ops[j]?).bind (·.dst)).toList
/-- Two operations that stand in no order do not touch one another. -/
def apartOk (ops : Array Oper) (o o' : Oper) (n n' : Note) : Bool :=
  (match o.dst with
   | some d => !(opTmps o').contains d && !(guardTmps ops o').contains d && o'.dst != some d
   | none => true) &&
  n.ups.all fun k => !n'.keys.contains k && !n'.ups.contains k
/-- Of each of the first operations: those that stand before it. -/
def masks (ops : Array Oper) : Nat → List Nat
  | 0 => []
  | k + 1 => masks ops k ++ [match ops[k]? with
    | some o => o.after.toList.foldl (fun s e => if Region.binds .any e then s ||| (2 ^ e.on ||| (masks ops k).getD e.on 0) else s) 0
    | none => 0]
def orderOk (ops : Array Oper) (b : List Nat) (ns : List Note) : Bool :=
  (List.range ops.size).all fun j => (match ops[j]? with
    | some o => o.after.toList.all fun e => !Region.binds .any e || decide (e.on < j)
    | none => false) && (List.range j).all fun i => (b.getD j 0).testBit i || match ops[i]?, ops[j]?, ns[i]?, ns[j]? with
    | some o, some o', some n, some n' => apartOk ops o o' n n' && apartOk ops o' o n' n
    | _, _, _, _ => false
def aregion (P : Program) (E : Env) (ops : Array Oper) (draw : Bool) (st : St) : Option St :=
  let go (st : St) : Option (St × List Key) := match seqOps P E ops 0 ops.toList st with
    | some (s, k, ns) => if !draw || orderOk ops (masks ops ops.size) ns then some (s, k) else none
    | none => none
  match go st with
  | some (s, []) => some { s with nx := s.nx + 1 }
  | some (_, ks) => match go { st with bx := freezeB ks st.bx } with
    | some (s, []) => some { s with nx := s.nx + 1 }
    | _ => none
  | none => none
inductive AX where
  | normal
  | exit (id : Nat)
  | ret
def iter (f : St → Option (AX × St)) : Nat → St → Option (AX × St)
  | 0, _ => none
  | n + 1, st => match f st with
    | some (.normal, s) => iter f n s
    | r => r
def aexec (P : Program) (E : Env) : Code → St → Option (AX × St)
  | .skip, st => some (.normal, st)
  | .label _, st => some (.normal, st)
  | .region _ ops draw, st => (aregion P E ops draw st).map fun s => (.normal, s)
  | .seq a b, st => match aexec P E a st with
    | some (.normal, s) => aexec P E b s
    | r => r
  | .cond c x y, st => match ev (lk st.tm) c with
    | some (.one false [.d (.v (.bool b))]) => if b then aexec P E x st else aexec P E y st
    | _ => none
  | .block id b, st => match aexec P E b st with
    | some (.exit i, s) => if i = id then some (.normal, s) else some (.exit i, s)
    | r => r
  | .loop b, st => iter (fun s => aexec P E b (E.cl b s)) E.fuel st
  | .exit id, st => some (.exit id, st)
  | .ret, st => some (.ret, st)
  | _, _ => none
def argTm : Nat → List Arg → List (Nat × AV)
  | _, [] => []
  | i, .val b cs :: r => (i, .one b cs) :: argTm (i + 1) r
  | i, .io _ _ :: r => (i, .one false [.ptr (i, 0) 0]) :: argTm (i + 1) r
def resOf (P : Program) (st : St) : ResultVar → Option (Bool × List C)
  | .tmp t => match (lk st.tm) t with
    | some (.one b cs) => some (b, cs)
    | _ => none
  | .cell a t => match ((lk st.tm) a).bind slot1 with
    | some c => match behind (lk st.bx) c, aggT P t, sizeT P t with
      | some (cs, off), some true, some sz => if off + sz ≤ cs.length then some (true, (cs.drop off).take sz) else none
      | some (cs, off), some false, some _ => (cs[off]?).map fun c => (false, [c])
      | _, _, _ => none
    | none => none
/-- A result's cell: data, or an own slice (kept). -/
def outC (keep : Bool) (lb : Key → Option Box) : C → Option (C × List Key)
  | .own q => match lb q with
    | some (.fz sz rows) => some (.d (.sl sz rows), [])
    | some (.sl _ sz rows) => if keep then some (.own q, []) else some (.d (.sl sz rows), [q])
    | _ => none
  | .ptr q o => if keep then some (.ptr q o, []) else none
  | .arr q n z => if keep then some (.arr q n z, []) else none
  | .eptr .. => none
  | .mp _ => none
  | .fn g caps => if caps.all (fun c => (capKeys c).isEmpty) then some (.fn g caps, []) else none
  | c => some (c, [])
def outCs (keep : Bool) (lb : Key → Option Box) : List C → Option (List C × List Key)
  | [] => some ([], [])
  | c :: cs => match outC keep lb c, outCs keep lb cs with
    | some (d, k), some (ds, ks) => some (d :: ds, k ++ ks)
    | _, _ => none
def outVals (keep : Bool) (lb : Key → Option Box) : List (Bool × List C) → Option (List (Bool × List C) × List Key)
  | [] => some ([], [])
  | (b, cs) :: r => match outCs keep lb cs, outVals keep lb r with
    | some (d, k), some (ds, ks) => some ((b, d) :: ds, k ++ ks)
    | _, _ => none
def outIos (lb : Key → Option Box) : Nat → List Arg → Option (List (List C))
  | _, [] => some []
  | i, .val _ _ :: r => outIos lb (i + 1) r
  | i, .io ty _ :: r => match lb (i, 0) with
    | some (.st ty' cs) => if ty' = ty then match outCs true lb cs, outIos lb (i + 1) r with
      | some (d, _), some ds => some (d :: ds)
      | _, _ => none
      else none
    | _ => none
def keepB (bx : List (Key × Box)) : List Key → Option (List (Key × Box))
  | [] => some []
  | k :: ks => match (lk bx) k, keepB bx ks with
    | some (.sl ty sz rows), some r => some (if ks.contains k then r else (k, .sl ty sz rows) :: r)
    | some (.st ty cs), some r => match outCs true (lk bx) cs with
      | some (d, _) => some (if ks.contains k then r else (k, .st ty d) :: r)
      | none => none
    | _, _ => none
def keysOut (bx : List (Key × Box)) (k : Key) : List Key := match lk bx k with
  | some (.st _ cs) => ((outCs true (lk bx) cs).map fun x => x.1.flatMap keysC).getD []
  | _ => []
/-- The keys that lead on from some keys. -/
def leadK (bx : List (Key × Box)) : Nat → List Key → List Key
  | 0, ks => ks
  | n + 1, ks => leadK bx n (ks ++ (ks.flatMap (keysOut bx)).filter fun k => !ks.contains k)
def afn (P : Program) (E : Env) (own : Bool) (f : FuncId) (args : List Arg) (bxs : List (Key × Box)) : Option ARes :=
  match P.funcs[f]? with
  | some fn => match fn.body with
    | some body => if fn.params.size ≤ args.length ∧ args.length ≤ fn.ntmps then
        match aexec P E body { tm := argTm 0 args, bx := argBx 0 args ++ bxs, nx := 1 } with
        | some (.exit _, _) => none
        | some (_, st) => match fn.results.toList.mapM (resOf P st) with
          | some vs => match outVals own (lk st.bx) vs with
            | some (vals, ks) =>
              let bx := freezeB ks st.bx
              match outIos (lk bx) 0 args with
              | some ios => match keepB bx (leadK bx 4 (vals.flatMap (fun (_, cs) => cs.flatMap keysC) ++ ios.flatMap fun cs => cs.flatMap keysC)) with
                | some b => some { vals, ios, bx := b }
                | none => none
              | none => none
            | none => none
          | none => none
        | none => none
      else none
    | none => none
  | none => none
structure Ann where
  own : FuncId → Bool
  lend : FuncId → Bool
  cl : Code → St → St
  ext : CallF
def acall (P : Program) (A : Ann) : Nat → CallF
  | 0, f, args, bxs => A.ext f args bxs
  | n + 1, f, args, bxs => match A.ext f args bxs with
    | some r => some r
    | none => afn P { call := fun _ => acall P A n, lend := A.lend, cl := A.cl, fuel := n, N := ((P.funcs[f]?).map (·.ntmps)).getD 0 } (A.own f) f args bxs
end Go.Proofs.YtnaknldbmapolaaGreatDoor
