/- Rules of runs and contracts of functions, for the claims of one seat. -/
import Derived.Test.YtbafhclppppkgaaGreatDoorVA9
namespace Go.Proofs.YtbafhclppppkgaaGreatDoor
open Go Go.RowKit
set_option linter.unusedSimpArgs false
set_option linter.unusedVariables false
def bsRows (sz len : Nat) (zs : List C) (ps : List (Nat × List C)) : Option (List (List D)) := ((afill (fun i => some (i * sz, sz)) (List.replicate len zs).flatten ps).bind allD).map (chunks sz len)
theorem evParts_only {o : Oper} {lt : Nat → Option AV} : ∀ {ps : List (Nat × Operand)}, (∀ x, x ∈ ps.map (·.2) → x ∈ o.op.operands.toList) → evParts (onlyT o lt) ps = evParts lt ps
 | [], _ => rfl
 | (j, x) :: r, h => by
  unfold evParts
  rw [ev_only (h x (by simp)), evParts_only (ps := r) fun y hy => h y (by simp at hy ⊢; exact .inr hy)]
theorem afill_le {f g : Nat → Option (Nat × Nat)} (hfg : ∀ i x, f i = some x → g i = some x) : ∀ {ps : List (Nat × List C)} {cs cs' : List C}, afill f cs ps = some cs' → afill g cs ps = some cs'
 | [], cs, cs', h => h
 | (i, x) :: r, cs, cs', h => by
  unfold afill at h ⊢
  cases h1 : f i with
  | none => rw [h1] at h; cases h
  | some y =>
   rw [h1] at h
   rw [hfg i y h1]
   simp only at h ⊢
   split at h
   ·rename_i hc
    rw [if_pos hc]
    exact afill_le hfg h
   ·cases h
section
variable {P : Program} {lend : FuncId → Bool} {N : Nat} {ops : Array Oper} {dr : Bool} {cs : List Code} {R : AX → St → Prop}
variable {i : Nat} {os : List Oper} {tm : List (Nat × AV)} {bo : BO} {nx : Nat} {ns : List Note} {d : Nat} {pos : String} {ty : TypeId} {af : Array Edge}
theorem W.build {t : TypeId} {parts : Array (Nat × Operand)} {zs cs2 : List C} {places : List (Nat × Nat)} {ps : List (Nat × List C)} (hd : Nat.blt d N = true) (hb : PlI P t zs places) (hp : evParts (lk tm) parts.toList = some ps) (hf : afill (places.toArray[·]?) zs ps = some cs2)
    (h : W P lend N ops dr cs R (i + 1) os ((d, .one true cs2) :: tm) bo nx (ns ++ [⟨opKeys (lk tm) (lko bo) ⟨some d, .build t parts, ty, pos, af, none⟩, []⟩])) : W P lend N ops dr cs R i (⟨some d, .build t parts, ty, pos, af, none⟩ :: os) tm bo nx ns := by
 refine W.val hd ?_ h
 simp only [effOf]
 rw [evParts_only (fun x hx => by simpa [Op.operands] using hx), hp]
 obtain ⟨hb⟩ := hb
 unfold plI at hb
 unfold aBuilt
 split at hb
 ·rename_i it fields h1 h2
  rw [h1, h2]
  split at hb
  ·rename_i z pl h3 h4
   obtain ⟨zs', h5, h6⟩ := Option.map_eq_some_iff.1 hb
   cases h6
   simp only [Option.bind_some, h3, h4, h5, hf, Option.map_some]
  ·cases hb
 ·rename_i it n e h1 h2
  rw [h1, h2]
  split at hb
  ·rename_i z ie h3 h4
   obtain ⟨zs', h5, h6⟩ := Option.map_eq_some_iff.1 hb
   cases h6
   have hf' := afill_le (g := fun i => some (i * ie.size, ie.size)) (fun i x hx => by
    simp only [List.getElem?_toArray, List.getElem?_map, Option.map_eq_some_iff] at hx
    obtain ⟨j, hj, rfl⟩ := hx
    obtain ⟨hj1, rfl⟩ := List.getElem?_eq_some_iff.1 hj
    simp) hf
   simp only [Option.bind_some, h3, h4, h5, hf', Option.map_some]
  ·cases hb
 ·cases hb
theorem W.bs {t : TypeId} {len : Nat} {parts : Array (Nat × Operand)} {e : TypeId} {sz bytes : Nat} {zs : List C} {ps : List (Nat × List C)} {rows : List (List D)} (k : Nat) (hd : Nat.blt d N = true) (hk : i * 64 = k) (he : EfI P t e sz bytes zs) (hl : Nat.ble (len * sz) 16777216 = true) (hp : evParts (lk tm) parts.toList = some ps) (hr : bsRows sz len zs ps = some rows)
    (h : W P lend N ops dr cs R (i + 1) os ((d, .one false [.own (k, nx)]) :: tm) (((k, nx), some (.sl e sz rows)) :: bo) nx (ns ++ [⟨opKeys (lk tm) (lko bo) ⟨some d, .buildSlice t len parts, ty, pos, af, none⟩, [(k, nx)]⟩])) : W P lend N ops dr cs R i (⟨some d, .buildSlice t len parts, ty, pos, af, none⟩ :: os) tm bo nx ns := by
 subst hk
 obtain ⟨h1, ie, z, h2, h3, h4, h5, h6, h7, h8⟩ := elF_some he
 refine W.up (up := [((i * 64, nx), some (.sl e sz rows))]) hd ?_ h
 simp only [effOf]
 unfold effBuildSlice
 unfold bsRows at hr
 obtain ⟨ds, h9, h10⟩ := Option.map_eq_some_iff.1 hr
 obtain ⟨cs2, h11, h12⟩ := Option.bind_eq_some_iff.1 h9
 rw [evParts_only (fun x hx => by simpa [Op.operands] using hx), hp]
 have hle := Nat.le_of_ble_eq_true hl
 simp only [h1, h2, h3, h8, h6]
 rw [if_pos ⟨hle, by rw [h4, h6], by omega⟩]
 simp only [h11, allD_toDs _ h12, h10, keyAt_0, shut, List.filter_nil, List.filterMap_nil]
theorem lookRows_only {o : Oper} {lt : Nat → Option AV} {lb : Key → Option Box} {x : Operand} {c : C} {sz : Nat} {rows : List (List D)} (hl : looks o.op = true) (hm : x ∈ o.op.operands.toList) (hx : (ev lt x).bind slot1 = some c) (hr : lookRows lb sz c = some rows) : lookRows (onlyB (opKeys lt lb o) lb) sz c = some rows := by
 cases c with
 | own q =>
  simp only [lookRows, rowsOf] at hr ⊢
  rw [own_only hl hm hx (List.mem_singleton.2 rfl : q ∈ keysC (.own q))]
  exact hr
 | d y => cases y <;> exact hr
 | zero => exact hr
 | arr q n z =>
  simp only [lookRows] at hr ⊢
  rw [own_only hl hm hx (List.mem_singleton.2 rfl : q ∈ keysC (.arr q n z))]
  exact hr
 | _ => cases hr
theorem isSliceT_some {t : TypeId} (h : IsI P t) : ∃ e, P.underlying t = some (.slice e) := by
 obtain ⟨h⟩ := h
 unfold isSliceT at h
 split at h
 ·rename_i e he; exact ⟨e, he⟩
 ·cases h
theorem effAppend_of0 {P : Program} {key : Nat → Key} {t tx : TypeId} {s x : Operand} {lt : Nat → Option AV} {lb : Key → Option Box} {e : Eff} (h : effAppend0 P key t tx s x lt lb = some e) : effAppend P key t tx s x lt lb = some e := by unfold effAppend; rw [h]
theorem W.appZ {t tx e : TypeId} {s x : Operand} {cx : C} {sz bytes : Nat} {zs : List C} {rows : List (List D)} (k : Nat) (hd : Nat.blt d N = true) (hk : i * 64 = k) (he : EfI P t e sz bytes zs) (htx : IsI P tx) (hs : (ev (lk tm) s).bind slot1 = some .zero) (hx : (ev (lk tm) x).bind slot1 = some cx) (hr : lookRows (lko bo) sz cx = some rows) (hb : rows.length * bytes ≤ 140737488355328 ∧ rows.length ≤ 4611686018427387904) {rows' : List (List D)} (hr2 : rows = rows')
    (h : W P lend N ops dr cs R (i + 1) os ((d, .one false [.own (k, nx)]) :: tm) (((k, nx), some (.sl e sz rows')) :: bo) nx (ns ++ [⟨opKeys (lk tm) (lko bo) ⟨some d, .call ⟨.builtin .append, #[s, x], #[t, tx]⟩, ty, pos, af, none⟩, [(k, nx)]⟩])) : W P lend N ops dr cs R i (⟨some d, .call ⟨.builtin .append, #[s, x], #[t, tx]⟩, ty, pos, af, none⟩ :: os) tm bo nx ns := by
 subst hk hr2
 obtain ⟨h1, ie, z, h2, h3, h4, h5, h6, h7, h8⟩ := elF_some he
 obtain ⟨e2, hx2⟩ := isSliceT_some htx
 refine W.up (up := [((i * 64, nx), some (.sl e sz rows))]) hd ?_ h
 simp only [effOf]
 refine effAppend_of0 ?_
 unfold effAppend0
 rw [ev_only (x := s) (by simp [Op.operands, Call.operands]), hs, ev_only (x := x) (by simp [Op.operands, Call.operands]), hx]
 simp only [h1, hx2, h2, h3]
 rw [if_pos ⟨h4, h5⟩]
 subst h6 h7
 rw [lookRows_only (by rfl) (by simp [Op.operands, Call.operands]) hx hr]
 simp only [if_pos hb, keyAt_0]
theorem W.appO {t tx e : TypeId} {s x : Operand} {cx : C} {q : Key} {sz bytes : Nat} {zs : List C} {olds rows : List (List D)} (k : Nat) (hd : Nat.blt d N = true) (hk : i * 64 = k) (he : EfI P t e sz bytes zs) (htx : IsI P tx) (hs : (ev (lk tm) s).bind slot1 = some (.own q)) (hq : lko bo q = some (.sl e sz olds)) (hx : (ev (lk tm) x).bind slot1 = some cx) (hr : lookRows (lko bo) sz cx = some rows) (hb : (olds.length + rows.length) * bytes ≤ 140737488355328 ∧ olds.length + rows.length ≤ 4611686018427387904) {rows' : List (List D)} (hr2 : olds ++ rows = rows')
    (h : W P lend N ops dr cs R (i + 1) os ((d, .one false [.own (k, nx)]) :: tm) (((k, nx), some (.sl e sz rows')) :: (q, none) :: bo) nx (ns ++ [⟨opKeys (lk tm) (lko bo) ⟨some d, .call ⟨.builtin .append, #[s, x], #[t, tx]⟩, ty, pos, af, none⟩, [(k, nx), q]⟩])) : W P lend N ops dr cs R i (⟨some d, .call ⟨.builtin .append, #[s, x], #[t, tx]⟩, ty, pos, af, none⟩ :: os) tm bo nx ns := by
 subst hk hr2
 obtain ⟨h1, ie, z, h2, h3, h4, h5, h6, h7, h8⟩ := elF_some he
 obtain ⟨e2, hx2⟩ := isSliceT_some htx
 refine W.up (up := [((i * 64, nx), some (.sl e sz (olds ++ rows))), (q, none)]) hd ?_ h
 simp only [effOf]
 refine effAppend_of0 ?_
 unfold effAppend0
 rw [ev_only (x := s) (by simp [Op.operands, Call.operands]), hs, ev_only (x := x) (by simp [Op.operands, Call.operands]), hx]
 simp only [h1, hx2, h2, h3]
 rw [if_pos ⟨h4, h5⟩]
 subst h6 h7
 rw [lookRows_only (by rfl) (by simp [Op.operands, Call.operands]) hx hr]
 simp only []
 rw [own_only (by rfl) (by simp [Op.operands, Call.operands]) hs (List.mem_singleton.2 rfl : q ∈ keysC (.own q)), hq]
 simp only [true_and, if_pos hb, keyAt_0]
theorem W.store {t : TypeId} {x y : Operand} {q : Key} {off sz : Nat} {ty0 : TypeId} {vs cs1 cs2 : List C} (hs : SzI P t sz) (hx : (ev (lk tm) x).bind slot1 = some (.ptr q off)) (hy : (ev (lk tm) y).bind cellsOfAV = some vs) (hb : lko bo q = some (.st ty0 cs1)) (hu : putC off sz vs cs1 = some cs2)
    (h : W P lend N ops dr cs R (i + 1) os tm ((q, some (.st ty0 cs2)) :: bo) nx (ns ++ [⟨opKeys (lk tm) (lko bo) ⟨none, .store t x y, ty, pos, af, none⟩, [q]⟩])) : W P lend N ops dr cs R i (⟨none, .store t x y, ty, pos, af, none⟩ :: os) tm bo nx ns := by
 obtain ⟨hs⟩ := hs
 obtain ⟨h1, h2⟩ := putC_some hu
 refine W.up0 (av := .un) (up := [(q, some (.st ty0 cs2))]) ?_ h
 simp only [effOf]
 unfold effStore
 rw [ev_only (x := x) (by simp [Op.operands]), hx, ev_only (x := y) (by simp [Op.operands]), hy, hs]
 simp only []
 rw [own_only (by rfl) (by simp [Op.operands]) hx (List.mem_singleton.2 rfl : q ∈ keysC (.ptr q off)), hb]
 simp only [if_pos h1, h2]
theorem W.storeE {t : TypeId} {x y : Operand} {q : Key} {j off sz s : Nat} {ty0 : TypeId} {vs : List C} {ds row : List D} {rows rows' : List (List D)} (hs : SzI P t sz) (hx : (ev (lk tm) x).bind slot1 = some (.eptr q j off)) (hy : (ev (lk tm) y).bind cellsOfAV = some vs) (hb : lko bo q = some (.sl ty0 s rows)) (hr : rows[j]? = some row) (hv : allD vs = some ds) (hl : vs.length = sz ∧ off + sz ≤ row.length) (hu : rows.set j (row.take off ++ (ds ++ row.drop (off + sz))) = rows')
    (h : W P lend N ops dr cs R (i + 1) os tm ((q, some (.sl ty0 s rows')) :: bo) nx (ns ++ [⟨opKeys (lk tm) (lko bo) ⟨none, .store t x y, ty, pos, af, none⟩, [q]⟩])) : W P lend N ops dr cs R i (⟨none, .store t x y, ty, pos, af, none⟩ :: os) tm bo nx ns := by
 subst hu
 obtain ⟨hs⟩ := hs
 refine W.up0 (av := .un) (up := [(q, some (.sl ty0 s (rows.set j (row.take off ++ (ds ++ row.drop (off + sz))))))]) ?_ h
 simp only [effOf]
 unfold effStore
 rw [ev_only (x := x) (by simp [Op.operands]), hx, ev_only (x := y) (by simp [Op.operands]), hy, hs]
 simp only []
 rw [own_only (by rfl) (by simp [Op.operands]) hx (List.mem_singleton.2 rfl : q ∈ keysC (.eptr q j off)), hb]
 simp only [hr, allD_toDs _ hv]
 rw [if_pos ⟨hl.1, hl.2, by simp⟩]
 simp [shut]
theorem bound_only {o : Oper} {lt : Nat → Option AV} {dflt : Int} {l : Option Operand} (hm : ∀ x, l = some x → x ∈ o.op.operands.toList) : bound (onlyT o lt) dflt l = bound lt dflt l := by
 cases l with
 | none => rfl
 | some x => show intV (ev (onlyT o lt) x) = intV (ev lt x); rw [ev_only (hm x rfl)]
theorem W.slice {t : TypeId} {x : Operand} {lo hi : Option Operand} {sz : Nat} {rows rows' : List (List D)} {l u : Int} (hd : Nat.blt d N = true) (he : ElI P t sz) (hx : (ev (lk tm) x).bind slot1 = some (.d (.sl sz rows))) (hl : bound (lk tm) 0 lo = some l) (hu : bound (lk tm) rows.length hi = some u) (hb : 0 ≤ l ∧ l ≤ u ∧ u ≤ rows.length) (hr : (rows.drop l.toNat).take (u.toNat - l.toNat) = rows')
    (h : W P lend N ops dr cs R (i + 1) os ((d, .one false [.d (.sl sz rows')]) :: tm) bo nx (ns ++ [⟨opKeys (lk tm) (lko bo) ⟨some d, .slice t x lo hi none, ty, pos, af, none⟩, []⟩])) : W P lend N ops dr cs R i (⟨some d, .slice t x lo hi none, ty, pos, af, none⟩ :: os) tm bo nx ns := by
 subst hr
 obtain ⟨e, h1, h2⟩ := elI_some he
 refine W.val hd ?_ h
 simp only [effOf]
 unfold effSlice
 rw [ev_only (x := x) (by simp [Op.operands]), hx, h1]
 simp only []
 rw [bound_only (l := lo) (fun y hy => by subst hy; simp [Op.operands]), bound_only (l := hi) (fun y hy => by subst hy; simp [Op.operands]), hl, hu]
 simp only [h2, true_and, if_pos hb]
theorem W.make {t : TypeId} {l c : Operand} {e : TypeId} {sz bytes : Nat} {zs : List C} {row : List D} {n : Int} {rows : List (List D)} (k : Nat) (hd : Nat.blt d N = true) (hk : i * 64 = k) (he : EfI P t e sz bytes zs) (hns : NsI P e) (hz : allD zs = some row) (hl : intV (ev (lk tm) l) = some n) (hc : intV (ev (lk tm) c) = some n) (hb : 0 ≤ n ∧ n * bytes ≤ 140737488355328 ∧ n ≤ 4611686018427387904) (hr : List.replicate n.toNat row = rows)
    (h : W P lend N ops dr cs R (i + 1) os ((d, .one false [.own (k, nx)]) :: tm) (((k, nx), some (.sl e sz rows)) :: bo) nx (ns ++ [⟨opKeys (lk tm) (lko bo) ⟨some d, .makeSlice t l c, ty, pos, af, none⟩, [(k, nx)]⟩])) : W P lend N ops dr cs R i (⟨some d, .makeSlice t l c, ty, pos, af, none⟩ :: os) tm bo nx ns := by
 subst hk hr
 obtain ⟨hns⟩ := hns
 obtain ⟨h1, ie, z, h2, h3, h4, h5, h6, h7, h8⟩ := elF_some he
 refine W.up (up := [((i * 64, nx), some (.sl e sz (List.replicate n.toNat row)))]) hd ?_ h
 simp only [effOf]
 unfold effMakeSlice
 rw [ev_only (x := l) (by simp [Op.operands]), hl, ev_only (x := c) (by simp [Op.operands]), hc, h1]
 simp only [h2, h3]
 subst h6 h7
 rw [if_pos ⟨Int.le_refl _, hb.1, hb.2.1, hb.2.2, h4, h5⟩]
 simp only [hns, Bool.false_eq_true, if_false, h8, Option.bind_some, allD_toDs _ hz, keyAt_0]
def argsV (lt : Nat → Option AV) (lb : Key → Option Box) (lend : Bool) (xs : List Operand) : Option (List Arg × List Key) := (argsOf lt lb lend xs).map fun x => (x.1.map fun y => .val y.1 y.2, x.2)
def valsAV : List (Bool × List C) → AV
 | [(b, cs)] => .one b cs
 | xs => .tup xs
theorem renC_same : ∀ c : C, renC (fun q => q) c = c := by
 intro c
 cases c with
 | fn g caps =>
  simp only [renC]
  congr 1
  have : capRen (fun q => q) = id := by funext c; cases c <;> rfl
  rw [this, List.map_id]
 | _ => rfl
theorem resAV_vals (vs : List (Bool × List C)) : resAV (fun q => q) vs = valsAV vs := by
 have h : ∀ cs : List C, cs.map (renC fun q => q) = cs := fun cs => by
  have : renC (fun q => q) = id := funext renC_same
  rw [this, List.map_id]
 match vs with
 | [] => rfl
 | [(b, cs)] => simp [resAV, valsAV, h]
 | x :: y :: r =>
  simp only [resAV, valsAV, h]
  congr 1
  have : (fun (z : Bool × List C) => (z.1, z.2)) = id := by funext z; cases z; rfl
  simp
noncomputable def oneCall (g : FuncId) (xa : List Arg) (r : ARes) : CallF := fun f a b => open Classical in if f = g ∧ a = xa ∧ b = [] then some r else none
theorem oneCall_ok {g : FuncId} {xa : List Arg} {r : ARes} (h : FnSound P g xa [] r) : CallOk P (oneCall g xa r) := by
 intro f a b r' he
 unfold oneCall at he
 split at he
 ·rename_i hc
  obtain ⟨rfl, rfl, rfl⟩ := hc
  cases he
  exact h
 ·cases he
def resOk (r : ARes) (l : Bool) : Bool := r.ios.isEmpty && r.bx.isEmpty && (!l || r.vals.all fun x => x.2.all scalC)
theorem W.call {g : FuncId} {args : Array Operand} {tyq : Array TypeId} {xa : List Arg} {ks : List Key} {r : ARes} {sh : BO} {av : AV} (hd : Nat.blt d N = true) (hbod : BoI P g) (hK : FnSound P g xa [] r)
    (ha : argsV (onlyT ⟨some d, .call ⟨.value (.func g), args, tyq⟩, ty, pos, af, none⟩ (lk tm)) (onlyB (opKeys (lk tm) (lko bo) ⟨some d, .call ⟨.value (.func g), args, tyq⟩, ty, pos, af, none⟩) (lko bo)) (lend g) args.toList = some (xa, ks))
    (hks : (ks.filter (·.2 != nx)) = []) (hsh : shut nx (onlyB (opKeys (lk tm) (lko bo) ⟨some d, .call ⟨.value (.func g), args, tyq⟩, ty, pos, af, none⟩) (lko bo)) ks = sh) (hr : resOk r (lend g) = true) (hcl : r.closed = true) (hav : valsAV r.vals = av)
    (h : W P lend N ops dr cs R (i + 1) os ((d, av) :: tm) (sh ++ bo) nx (ns ++ [⟨opKeys (lk tm) (lko bo) ⟨some d, .call ⟨.value (.func g), args, tyq⟩, ty, pos, af, none⟩, sh.map (·.1)⟩])) : W P lend N ops dr cs R i (⟨some d, .call ⟨.value (.func g), args, tyq⟩, ty, pos, af, none⟩ :: os) tm bo nx ns := by
 subst hsh hav
 obtain ⟨hbod⟩ := hbod
 refine W.eff (call := oneCall g xa r) (oneCall_ok hK) rfl (fun k hk => by cases hk; exact Nat.le_of_ble_eq_true hd) ?_ (updT_cons _ _ _) (lko_app _ _) h
 simp only [effOf]
 unfold effCall effCall0
 simp only [calleeOf, ev, Array.isEmpty_empty, Bool.and_self, if_true, hbod]
 unfold argsV at ha
 obtain ⟨⟨xs, ks'⟩, h1, h2⟩ := Option.map_eq_some_iff.1 ha
 cases h2
 simp only [List.isEmpty_nil, Bool.not_true, Bool.or_false, h1, argVals, List.map_nil, List.append_nil]
 unfold effVal
 obtain ⟨vals, ios, bx, kp⟩ := r
 simp only [resOk, Bool.and_eq_true, Bool.or_eq_true, Bool.not_eq_true', List.isEmpty_iff] at hr
 obtain ⟨⟨rfl, rfl⟩, h4⟩ := hr
 have h5 : oneCall g (List.map (fun y => Arg.val y.1 y.2) xs) { vals := vals, kp := kp } g (List.map (fun x => Arg.val x.1 x.2) xs) [] = some { vals := vals, kp := kp } := by
  unfold oneCall; simp
 have hk : renK (keyAt i nx) [] 0 = fun q => q := by funext q; rfl
 have hsc : lend g = false ∨ ARes.scalars { vals := vals, kp := kp } = true := h4.imp id fun h => by simp only [ARes.scalars, List.isEmpty_nil, Bool.true_and]; exact h
 simp only [h5]
 rw [if_pos ⟨rfl, by simp, hsc, hcl, rfl, rfl⟩]
 simp only [hk, resAV_vals, takeBx, List.nil_append, hks]
theorem W.call0 {g : FuncId} {args : Array Operand} {tyq : Array TypeId} {xa : List Arg} {r : ARes} {av : AV} (hd : Nat.blt d N = true) (hbod : BoI P g) (hK : FnSound P g xa [] r)
    (ha : argsV (onlyT ⟨some d, .call ⟨.value (.func g), args, tyq⟩, ty, pos, af, none⟩ (lk tm)) (onlyB (opKeys (lk tm) (lko bo) ⟨some d, .call ⟨.value (.func g), args, tyq⟩, ty, pos, af, none⟩) (lko bo)) (lend g) args.toList = some (xa, []))
    (hr : resOk r (lend g) = true) (hcl : r.closed = true) (hav : valsAV r.vals = av)
    (h : W P lend N ops dr cs R (i + 1) os ((d, av) :: tm) bo nx (ns ++ [⟨opKeys (lk tm) (lko bo) ⟨some d, .call ⟨.value (.func g), args, tyq⟩, ty, pos, af, none⟩, []⟩])) : W P lend N ops dr cs R i (⟨some d, .call ⟨.value (.func g), args, tyq⟩, ty, pos, af, none⟩ :: os) tm bo nx ns :=
 W.call hd hbod hK ha rfl rfl hr hcl hav h
theorem W.call0A {g : FuncId} {args : Array Operand} {tyq : Array TypeId} {xa : List Arg} {b : Bool} {cr : List C} (hd : Nat.blt d N = true) (hbod : BoI P g) (hK : FnSound P g xa [] { vals := [(b, cr)] })
    (ha : argsV (onlyT ⟨some d, .call ⟨.value (.func g), args, tyq⟩, ty, pos, af, none⟩ (lk tm)) (onlyB (opKeys (lk tm) (lko bo) ⟨some d, .call ⟨.value (.func g), args, tyq⟩, ty, pos, af, none⟩) (lko bo)) (lend g) args.toList = some (xa, []))
    (hr : resOk { vals := [(b, cr)] } (lend g) = true) (hcl : ARes.closed { vals := [(b, cr)] } = true)
    (h : W P lend N ops dr cs R (i + 1) os ((d, .one b cr) :: tm) bo nx (ns ++ [⟨opKeys (lk tm) (lko bo) ⟨some d, .call ⟨.value (.func g), args, tyq⟩, ty, pos, af, none⟩, []⟩])) : W P lend N ops dr cs R i (⟨some d, .call ⟨.value (.func g), args, tyq⟩, ty, pos, af, none⟩ :: os) tm bo nx ns :=
 W.call hd hbod hK ha rfl rfl hr hcl rfl h
theorem W.call1A {g : FuncId} {args : Array Operand} {tyq : Array TypeId} {xa : List Arg} {b : Bool} {cr : List C} {q : Key} {ty0 : TypeId} {sz : Nat} {rows : List (List D)} (hd : Nat.blt d N = true) (hbod : BoI P g) (hK : FnSound P g xa [] { vals := [(b, cr)] })
    (ha : argsV (onlyT ⟨some d, .call ⟨.value (.func g), args, tyq⟩, ty, pos, af, none⟩ (lk tm)) (onlyB (opKeys (lk tm) (lko bo) ⟨some d, .call ⟨.value (.func g), args, tyq⟩, ty, pos, af, none⟩) (lko bo)) (lend g) args.toList = some (xa, [q]))
    (hq : q.2 = nx) (hb : onlyB (opKeys (lk tm) (lko bo) ⟨some d, .call ⟨.value (.func g), args, tyq⟩, ty, pos, af, none⟩) (lko bo) q = some (.sl ty0 sz rows)) (hr : resOk { vals := [(b, cr)] } (lend g) = true) (hcl : ARes.closed { vals := [(b, cr)] } = true)
    (h : W P lend N ops dr cs R (i + 1) os ((d, .one b cr) :: tm) ((q, some (.fz sz rows)) :: bo) nx (ns ++ [⟨opKeys (lk tm) (lko bo) ⟨some d, .call ⟨.value (.func g), args, tyq⟩, ty, pos, af, none⟩, [q]⟩])) : W P lend N ops dr cs R i (⟨some d, .call ⟨.value (.func g), args, tyq⟩, ty, pos, af, none⟩ :: os) tm bo nx ns :=
 W.call (sh := [(q, some (.fz sz rows))]) hd hbod hK ha (by simp [hq]) (by simp [shut, hq, hb]) hr hcl rfl h
theorem W.call0T {g : FuncId} {args : Array Operand} {tyq : Array TypeId} {xa : List Arg} {v1 v2 : Bool × List C} {vr : List (Bool × List C)} (hd : Nat.blt d N = true) (hbod : BoI P g) (hK : FnSound P g xa [] { vals := v1 :: v2 :: vr })
    (ha : argsV (onlyT ⟨some d, .call ⟨.value (.func g), args, tyq⟩, ty, pos, af, none⟩ (lk tm)) (onlyB (opKeys (lk tm) (lko bo) ⟨some d, .call ⟨.value (.func g), args, tyq⟩, ty, pos, af, none⟩) (lko bo)) (lend g) args.toList = some (xa, []))
    (hr : resOk { vals := v1 :: v2 :: vr } (lend g) = true) (hcl : ARes.closed { vals := v1 :: v2 :: vr } = true)
    (h : W P lend N ops dr cs R (i + 1) os ((d, .tup (v1 :: v2 :: vr)) :: tm) bo nx (ns ++ [⟨opKeys (lk tm) (lko bo) ⟨some d, .call ⟨.value (.func g), args, tyq⟩, ty, pos, af, none⟩, []⟩])) : W P lend N ops dr cs R i (⟨some d, .call ⟨.value (.func g), args, tyq⟩, ty, pos, af, none⟩ :: os) tm bo nx ns :=
 W.call hd hbod hK ha rfl rfl hr hcl rfl h
theorem W.call1T {g : FuncId} {args : Array Operand} {tyq : Array TypeId} {xa : List Arg} {v1 v2 : Bool × List C} {vr : List (Bool × List C)} {q : Key} {ty0 : TypeId} {sz : Nat} {rows : List (List D)} (hd : Nat.blt d N = true) (hbod : BoI P g) (hK : FnSound P g xa [] { vals := v1 :: v2 :: vr })
    (ha : argsV (onlyT ⟨some d, .call ⟨.value (.func g), args, tyq⟩, ty, pos, af, none⟩ (lk tm)) (onlyB (opKeys (lk tm) (lko bo) ⟨some d, .call ⟨.value (.func g), args, tyq⟩, ty, pos, af, none⟩) (lko bo)) (lend g) args.toList = some (xa, [q]))
    (hq : q.2 = nx) (hb : onlyB (opKeys (lk tm) (lko bo) ⟨some d, .call ⟨.value (.func g), args, tyq⟩, ty, pos, af, none⟩) (lko bo) q = some (.sl ty0 sz rows)) (hr : resOk { vals := v1 :: v2 :: vr } (lend g) = true) (hcl : ARes.closed { vals := v1 :: v2 :: vr } = true)
    (h : W P lend N ops dr cs R (i + 1) os ((d, .tup (v1 :: v2 :: vr)) :: tm) ((q, some (.fz sz rows)) :: bo) nx (ns ++ [⟨opKeys (lk tm) (lko bo) ⟨some d, .call ⟨.value (.func g), args, tyq⟩, ty, pos, af, none⟩, [q]⟩])) : W P lend N ops dr cs R i (⟨some d, .call ⟨.value (.func g), args, tyq⟩, ty, pos, af, none⟩ :: os) tm bo nx ns :=
 W.call (sh := [(q, some (.fz sz rows))]) hd hbod hK ha (by simp [hq]) (by simp [shut, hq, hb]) hr hcl rfl h
end
end Go.Proofs.YtbafhclppppkgaaGreatDoor

