/-
  The abstract machine is right: a call, from the caller's state into the callee's and back.
-/
import Derived.Test.YtnaknldbmapolaaGreatDoorAbsK
namespace Go.Proofs.YtnaknldbmapolaaGreatDoor
open Go Go.RowKit
set_option linter.unusedSimpArgs false
set_option linter.unusedVariables false
def takeK (key : Nat → Key) : List (Key × Box) → Nat → List (Key × Key)
  | [], _ => []
  | (k, _) :: rest, j => (key j, k) :: takeK key rest (j + 1)
theorem takeK_at (key : Nat → Key) (hinj : ∀ i j, key i = key j → i = j) : ∀ {bx : List (Key × Box)} {n j : Nat} {κ : Key} {box : Box}, bx[j]? = some (κ, box) → lk (takeK key bx n) (key (n + j)) = some κ
  | [], n, j, κ, box, h => by simp at h
  | (k, b) :: r, n, 0, κ, box, h => by simp at h; simp [takeK, lk, h.1]
  | (k, b) :: r, n, j + 1, κ, box, h => by
    have hk : key (n + (j + 1)) ≠ key n := fun e' => by have := hinj _ _ e'; omega
    rw [show lk (takeK key ((k, b) :: r) n) (key (n + (j + 1))) = lk (takeK key r (n + 1)) (key (n + (j + 1))) from if_neg hk, show n + (j + 1) = n + 1 + j by omega]
    exact takeK_at key hinj (by simpa using h)
theorem takeK_mem (key : Nat → Key) : ∀ {bx : List (Key × Box)} {n : Nat} {q κ : Key}, lk (takeK key bx n) q = some κ → ∃ j, j < bx.length ∧ q = key (n + j)
  | [], n, q, κ, h => by cases h
  | (k, b) :: r, n, q, κ, h => by
    by_cases e : q = key n
    · exact ⟨0, by simp, by simpa using e⟩
    · rw [show lk (takeK key ((k, b) :: r) n) q = lk (takeK key r (n + 1)) q from if_neg e] at h
      obtain ⟨j, h1, h2⟩ := takeK_mem key h
      exact ⟨j + 1, by simp; exact h1, by rw [h2]; congr 1; omega⟩
theorem putIo_none (f : Key → Key) : ∀ {qs : List (Key × TypeId)} {ios : List (List C)} {q : Key}, lk (putIo f qs ios) q = none → ios.length = qs.length → q ∉ qs.map (·.1)
  | [], ios, q, h, hl => by simp
  | (k, ty) :: qs, [], q, h, hl => by simp at hl
  | (k, ty) :: qs, cs :: ios, q, h, hl => by
    by_cases e : q = k
    · rw [show lk (putIo f ((k, ty) :: qs) (cs :: ios)) q = some (some (.st ty (cs.map (renC f)))) from if_pos e] at h
      cases h
    · rw [show lk (putIo f ((k, ty) :: qs) (cs :: ios)) q = lk (putIo f qs ios) q from if_neg e] at h
      have := putIo_none f h (by simpa using hl)
      simp only [List.map_cons, List.mem_cons, not_or]
      exact ⟨e, this⟩
theorem zipIo_val : ∀ {i : Nat} {xs : List Arg} {qs : List (Key × TypeId)} {κ q : Key}, (κ, q) ∈ zipIo i xs qs → q ∈ qs.map (·.1)
  | i, [], qs, κ, q, h => by cases qs <;> simp [zipIo] at h
  | i, .val b cs :: xs, qs, κ, q, h => zipIo_val (i := i + 1) (xs := xs) (by simpa [zipIo] using h)
  | i, .io ty cs :: xs, [], κ, q, h => by simp [zipIo] at h
  | i, .io ty cs :: xs, (k, t) :: qs, κ, q, h => by
    simp only [zipIo, List.mem_cons, Prod.mk.injEq] at h
    rcases h with ⟨_, rfl⟩ | h
    · simp
    · simp only [List.map_cons, List.mem_cons]
      exact .inr (zipIo_val h)
/-- The arguments of a call stand in the caller's state. -/
structure ArgsAt (V : Nat → Prop) (ρ : Key → Hd) (ok : Key → Prop) (lb : Key → Option Box) (w : World) (xs : List Arg) (qs : List (Key × TypeId)) (bs : List (Key × Key × Box)) (vals : List Value) : Prop where
  len : vals.length = xs.length
  tm : ∀ i av, lk (argTm 0 xs) i = some av → i < vals.length ∧ ((∃ b cs, av = .one b cs ∧ (∀ c ∈ cs, keysC c = []) ∧ One (CRel (Im V ρ lb) ρ ok w) b cs (vals.toArray.getD i undef)) ∨
    (∃ q b, av = .one false [.ptr (i, 0) 0] ∧ ((i, 0), q) ∈ dictOf xs qs bs ∧ (ρ q).g = some b ∧ vals.toArray.getD i undef = .pointer (some ⟨b, 0, none⟩)))
  bx : ∀ κ boxc, (κ, boxc) ∈ argBx 0 xs ++ bs.map (·.2) → ∃ q box, (κ, q) ∈ dictOf xs qs bs ∧ lb q = some box ∧ box.live = true ∧ boxc.live = true ∧ ((boxc = box ∧ box.isSl = true) ∨
    ∃ ty cs cs', box = .st ty cs ∧ boxc = .st ty cs' ∧ ∀ (ρc : Key → Hd) (okc : Key → Prop), (∀ κ q, (κ, q) ∈ dictOf xs qs bs → ρc κ = ρ q ∧ okc κ) → ∀ vs, All2 (CRel (Im V ρ lb) ρ ok w) cs vs → All2 (CRel (Im V ρ lb) ρc okc w) cs' vs)
  old : ∀ κ q, (κ, q) ∈ dictOf xs qs bs → ∃ box, lb q = some box ∧ box.live = true
theorem capdata_keep {S S' : Nat → Prop} {ρ ρ' : Key → Hd} {ok ok' : Key → Prop} {w : World} {c : Cap} {v : Value} (h : CapRel S ρ ok w c v) (hk : capKeys c = []) (hs : ∀ b, b < w.heap.size → S b → S' b) : CapRel S' ρ' ok' w c v := by
  cases c with
  | d d => exact Rd.mono h hs
  | rptr row o => obtain ⟨b, o', cv, h1, h0, h2, h3⟩ := h; exact ⟨b, o', cv, h1, h0, hs b h0 h2, fun j d hj => ⟨(h3 j d hj).1, (h3 j d hj).2.mono hs⟩⟩
  | ptr q o => simp [capKeys] at hk
theorem renBx_live (f : Key → Key) (b : Box) : (renBx f b).live = b.live := by cases b <;> rfl
theorem data_keep {S S' : Nat → Prop} {ρ ρ' : Key → Hd} {ok ok' : Key → Prop} {w : World} {c : C} {v : Value} (h : CRel S ρ ok w c v) (hk : keysC c = []) (hs : ∀ b, b < w.heap.size → S b → S' b) : CRel S' ρ' ok' w c v := by
  cases c with
  | d d => exact Rd.mono h hs
  | zero => exact h
  | rptr row o => obtain ⟨b, o', cv, h1, h0, h2, h3⟩ := h; exact ⟨b, o', cv, h1, h0, hs b h0 h2, fun j d hj => ⟨(h3 j d hj).1, (h3 j d hj).2.mono hs⟩⟩
  | dead => exact h
  | own q => simp [keysC] at hk
  | ptr q o => simp [keysC] at hk
  | eptr q i o => simp [keysC] at hk
  | arr q n z => simp [keysC] at hk
  | mp q => simp [keysC] at hk
  | fn g caps =>
    obtain ⟨vs, h1, h2⟩ := h
    refine ⟨vs, h1, h2.imp fun c v hc hcv => capdata_keep hcv ?_ hs⟩
    have : caps.flatMap capKeys = [] := hk
    exact List.flatMap_eq_nil_iff.1 this c hc
theorem data_list {S S' : Nat → Prop} {ρ ρ' : Key → Hd} {ok ok' : Key → Prop} {w : World} {cs : List C} {vs : List Value} (h : All2 (CRel S ρ ok w) cs vs) (hk : ∀ c ∈ cs, keysC c = []) (hs : ∀ b, b < w.heap.size → S b → S' b) : All2 (CRel S' ρ' ok' w) cs vs :=
  h.imp fun c v hc hcv => data_keep hcv (hk c hc) hs
section
variable {V X : Nat → Prop} {Z : Key → Option Nat} {w0 w w' : World} {N : Nat} {ρ : Key → Hd} {ok ok' : Key → Prop} {lt : Nat → Option AV} {lb : Key → Option Box} {a : Act} {P : Program}
/-- A call: its contract in the caller's words. -/
theorem call_sound (h : Rel V X Z w0 N ρ ok lt lb a w) (ho : ∀ q : Key, ok q → ok' q) {key : Nat → Key} (hinj : ∀ i j, key i = key j → i = j) (hkey : ∀ j, j < 64 → ¬ ok (key j) ∧ ok' (key j)) {g : FuncId} {xs : List Arg} {qs : List (Key × TypeId)} {bs : List (Key × Key × Box)} {vals : List Value} {r : ARes}
    (hA : ArgsAt V ρ ok lb w xs qs bs vals) (hn1 : nodup ((dictOf xs qs bs).map (·.1)) = true) (hn2 : nodup ((dictOf xs qs bs).map (·.2)) = true) (hz : ∀ κ q, (κ, q) ∈ dictOf xs qs bs → κ.2 = 0)
    (hq1 : ∀ n, (xs.filter isIo).length = n → qs.length = n) (hq2 : ∀ (j : Nat), ∀ q ty, qs[j]? = some (q, ty) → ∀ t cs, (xs.filter isIo)[j]? = some (.io t cs) → t = ty)
    (hf : FnSound P g xs (bs.map (·.2)) r) (hr1 : r.ios.length = qs.length) (hr2 : r.bx.length ≤ 64) (hr3 : r.closed = true) (hr4 : nodup ((ioBx 0 xs r.ios ++ r.bx).map (·.1)) = true) (hr5 : (r.bx.all fun x => x.2.okRes) = true) (d : Option Nat) (hd : ∀ k, d = some k → k < N) :
    Calls P g vals.toArray w fun e w' => ∃ v, e = .returned v ∧ ∃ ρ', Rel V X Z w0 N ρ' ok' (updT lt d (resAV (renK key r.bx 0) r.vals)) (updB lb (putIo (renK key r.bx 0) qs r.ios ++ (takeBx (renK key r.bx 0) key r.bx 0 ++ bs.map fun x => (x.1, none)))) (a.put d v) w' := by
  -- the callee's words
  let ρc : Key → Hd := fun κ => match lk (dictOf xs qs bs) κ with | some q => ρ q | none => ⟨none, none, 0, 0, 0⟩
  have hρc : ∀ κ q, (κ, q) ∈ dictOf xs qs bs → ρc κ = ρ q := fun κ q hm => by
    show (match lk (dictOf xs qs bs) κ with | some q => ρ q | none => _) = _
    rw [lk_of_mem hn1 hm]
  let Xc : Nat → Prop := fun b => ∃ κ q, (κ, q) ∈ dictOf xs qs bs ∧ (ρ q).g = some b
  let Vc : Nat → Prop := fun b => b < w.heap.size ∧ ¬ Im V ρ lb b ∧ ¬ Xc b
  have hXlive : ∀ b, Xc b → ∃ κ q box, (κ, q) ∈ dictOf xs qs bs ∧ lb q = some box ∧ box.live = true ∧ (ρ q).g = some b := fun b ⟨κ, q, h1, h2⟩ => by
    obtain ⟨box, h3, h4⟩ := hA.old κ q h1
    exact ⟨κ, q, box, h1, h3, h4, h2⟩
  have hImX : ∀ b, Im V ρ lb b → ¬ Xc b := fun b hi hx => by
    obtain ⟨κ, q, box, _, h1, h2, h3⟩ := hXlive b hx
    exact hi.2 q box h1 h2 h3
  let lb0 : Key → Option Box := lk (argBx 0 xs ++ bs.map (·.2))
  have hlb0 : ∀ κ boxc, lb0 κ = some boxc → ∃ q box, (κ, q) ∈ dictOf xs qs bs ∧ lb q = some box ∧ box.live = true ∧ boxc.live = true ∧ ((boxc = box ∧ box.isSl = true) ∨
    ∃ ty cs cs', box = .st ty cs ∧ boxc = .st ty cs' ∧ ∀ (ρc : Key → Hd) (okc : Key → Prop), (∀ κ q, (κ, q) ∈ dictOf xs qs bs → ρc κ = ρ q ∧ okc κ) → ∀ vs, All2 (CRel (Im V ρ lb) ρ ok w) cs vs → All2 (CRel (Im V ρ lb) ρc okc w) cs' vs) := fun κ boxc hb => hA.bx κ boxc (mem_of_lk hb)
  have himc : ∀ b, b < w.heap.size → Im V ρ lb b → Im Vc ρc lb0 b := fun b hb hi => ⟨fun hv => hv.2.1 hi, fun κ boxc hκ hl hg => by
    obtain ⟨q, box, h1, h2, h3, _⟩ := hlb0 κ boxc hκ
    rw [hρc κ q h1] at hg
    exact hi.2 q box h2 h3 hg⟩
  have hRc : Rel Vc Xc (fun κ => (ρc κ).g) w vals.length ρc (fun q => q.2 < 1) (lk (argTm 0 xs)) lb0 ⟨vals.toArray, []⟩ w := by
    refine ⟨by simp, rfl, fun t av ht => ?_, fun κ boxc hκ => ?_, fun κ1 b1 κ2 b2 b e1 l1 e2 l2 g1 g2 => ?_, fun κ boxc b hκ hl hg => ?_, Keep.refl _ _, fun b hv => ⟨hv.1, hv.2.2⟩, fun q hq => ⟨by omega, rfl⟩⟩
    · obtain ⟨h1, h2⟩ := hA.tm t av ht
      refine ⟨h1, ?_⟩
      rcases h2 with ⟨b, cs, rfl, hk, us, u1, u2⟩ | ⟨q, b, rfl, hm, hg, hv⟩
      · exact ⟨us, data_list u1 hk himc, u2⟩
      · show AVRel _ (.one false [.ptr (t, 0) 0]) (vals.toArray.getD t undef)
        rw [hv]
        exact one1 ⟨by show (0 : Nat) < 1; omega, b, by rw [hρc _ _ hm]; exact hg, rfl⟩
    · obtain ⟨q, box, h1, h2, h3, h4, h5⟩ := hlb0 κ boxc hκ
      refine ⟨by have := hz κ q h1; omega, ?_⟩
      obtain ⟨o1, o2⟩ := h.bx q box h2
      rcases h5 with ⟨rfl, h6⟩ | ⟨ty, cs, cs', rfl, rfl, h6⟩
      · cases boxc with
        | st ty cs => simp [Box.isSl] at h6
        | fz sz rows => simp [Box.isSl] at h6
        | mp es ck => simp [Box.isSl] at h6
        | sl ty sz rows =>
          simp only [BoxRel] at o2 ⊢
          rw [hρc κ q h1]
          obtain ⟨n1, n2, n3, n4, n5, n6⟩ := o2
          refine ⟨n1, n2, n3, n4, n5, n6.imp id ?_⟩
          rintro ⟨b, vs, sp, y1, y2, y3, y4, y5⟩
          exact ⟨b, vs, sp, y1, y2, y3, data_list y4 (fun c hc => by obtain ⟨dd, _, rfl⟩ := List.mem_map.1 hc; rfl) himc, y5⟩
      · obtain ⟨b, vs, y1, y2, y3⟩ := o2
        refine ⟨b, vs, by rw [hρc κ q h1]; exact y1, y2, ?_⟩
        have := h6 ρc (fun q => q.2 < 1) (fun κ q hm => ⟨hρc κ q hm, by have := hz κ q hm; omega⟩) vs y3
        exact this.imp fun c v _ hc => hc.keep (Keep.refl _ _) himc (fun _ _ => rfl) (fun _ h => h)
    · obtain ⟨q1, x1, h1, h2, h3, _⟩ := hlb0 κ1 b1 e1
      obtain ⟨q2, x2, k1, k2, k3, _⟩ := hlb0 κ2 b2 e2
      rw [hρc _ _ h1] at g1
      rw [hρc _ _ k1] at g2
      have := h.ap q1 x1 q2 x2 b h2 h3 k2 k3 g1 g2
      subst this
      exact nodup_val hn2 h1 k1
    · obtain ⟨q, box, h1, h2, h3, _⟩ := hlb0 κ boxc hκ
      rw [hρc _ _ h1] at hg
      exact ⟨(h.lo q box b h2 h3 hg).1, .inr ⟨κ, q, h1, hg⟩⟩
  refine (hf Vc Xc _ ρc w vals hA.len hRc).mono ?_
  rintro e w' ⟨v, ρ', rfl, hR⟩
  refine ⟨v, rfl, ?_⟩
  -- back in the caller
  let lbr : Key → Option Box := lk (ioBx 0 xs r.ios ++ r.bx)
  let f : Key → Key := renK key r.bx 0
  let ρ3 : Key → Hd := fun q => match lk (takeK key r.bx 0) q with | some κ => ρ' κ | none => ρ q
  let lb3 : Key → Option Box := updB lb (putIo f qs r.ios ++ (takeBx f key r.bx 0 ++ bs.map fun x => (x.1, none)))
  obtain ⟨nd1, nd2, nd3⟩ := nodup_append (by simpa using hr4)
  have hnew : ∀ (j : Nat) κ box, r.bx[j]? = some (κ, box) → ρ3 (key j) = ρ' κ ∧ j < 64 := fun j κ box hj => by
    have := takeK_at key hinj (n := 0) hj
    rw [Nat.zero_add] at this
    have hjl : j < r.bx.length := by
      rcases Nat.lt_or_ge j r.bx.length with g | g
      · exact g
      · rw [List.getElem?_eq_none g] at hj; cases hj
    exact ⟨by show (match lk (takeK key r.bx 0) (key j) with | some κ => ρ' κ | none => ρ (key j)) = _; rw [this], by omega⟩
  have hρold : ∀ q, ok q → ρ3 q = ρ q := fun q hq => by
    show (match lk (takeK key r.bx 0) q with | some κ => ρ' κ | none => ρ q) = _
    cases hk : lk (takeK key r.bx 0) q with
    | none => rfl
    | some κ =>
      obtain ⟨j, h1, h2⟩ := takeK_mem key hk
      rw [Nat.zero_add] at h2
      exact absurd (h2 ▸ hq) (hkey j (by omega)).1
  have hlbrN : ∀ (j : Nat) κ box, r.bx[j]? = some (κ, box) → lbr κ = some box := fun j κ box hj => lk_of_mem (by simpa using hr4) (List.mem_append_right _ (List.mem_of_getElem? hj))
  have hlbrI : ∀ κ box, (κ, box) ∈ ioBx 0 xs r.ios → lbr κ = some box := fun κ box hm => lk_of_mem (by simpa using hr4) (List.mem_append_left _ hm)
  -- the ways in which a key is known behind the call
  have hcase : ∀ q box, lb3 q = some box → (∃ κ ty cs, (κ, q) ∈ dictOf xs qs bs ∧ lbr κ = some (.st ty cs) ∧ (κ, Box.st ty cs) ∈ ioBx 0 xs r.ios ∧ box = .st ty (cs.map (renC f)) ∧ (ρ3 q).g = (ρ' κ).g ∧ ok q) ∨ (∃ j κ box0, q = key j ∧ r.bx[j]? = some (κ, box0) ∧ box = renBx f box0) ∨ (lb q = some box ∧ (∀ κ, (κ, q) ∉ dictOf xs qs bs)) := by
    intro q box hq
    have hq' : (match lk (putIo f qs r.ios ++ (takeBx f key r.bx 0 ++ bs.map fun x => (x.1, (none : Option Box)))) q with | some ob => ob | none => lb q) = some box := hq
    rw [lk_append, lk_append] at hq'
    cases h1 : lk (putIo f qs r.ios) q with
    | some ob =>
      rw [h1] at hq'
      obtain ⟨κ, ty, cs, g1, g2, g3⟩ := putIo_lk f (i := 0) (xs := xs) h1 hq1 hr1 hq2
      have hd1 : (κ, q) ∈ dictOf xs qs bs := List.mem_append_left _ g1
      obtain ⟨bx', b1, b2⟩ := hA.old κ q hd1
      have hokq := (h.bx q bx' b1).1
      left
      refine ⟨κ, ty, cs, hd1, hlbrI _ _ g2, g2, ?_, ?_, hokq⟩
      · simp only [g3] at hq'; cases hq'; rfl
      · rw [hρold q hokq, (hR.zz κ (hz κ q hd1)).2, hρc κ q hd1]
    | none =>
      rw [h1] at hq'
      cases h2 : lk (takeBx f key r.bx 0) q with
      | some ob =>
        rw [h2] at hq'
        obtain ⟨j, κ, box', g1, g2, g3⟩ := takeBx_lk f key h2
        right; left
        rw [Nat.zero_add] at g1
        simp only [g3] at hq'
        cases hq'
        exact ⟨j, κ, box', g1, g2, rfl⟩
      | none =>
        rw [h2] at hq'
        cases h3 : lk (bs.map fun x => (x.1, (none : Option Box))) q with
        | some ob =>
          have := mem_of_lk h3
          obtain ⟨x, _, hx⟩ := List.mem_map.1 this
          cases hx
          rw [h3] at hq'
          cases hq'
        | none =>
          rw [h3] at hq'
          right; right
          refine ⟨hq', fun κ hm => ?_⟩
          rcases List.mem_append.1 hm with hm | hm
          · exact putIo_none f h1 hr1 (zipIo_val hm)
          · obtain ⟨x, hx1, hx2⟩ := List.mem_map.1 hm
            cases hx2
            have : ∀ (l : List (Key × Key × Box)), x ∈ l → lk (l.map fun x => (x.1, (none : Option Box))) x.1 ≠ none := by
              intro l hl
              induction l with
              | nil => cases hl
              | cons y l ih =>
                by_cases e : x.1 = y.1
                · rw [show lk ((y :: l).map fun x => (x.1, (none : Option Box))) x.1 = some none from if_pos e]; simp
                · rw [show lk ((y :: l).map fun x => (x.1, (none : Option Box))) x.1 = lk (l.map fun x => (x.1, (none : Option Box))) x.1 from if_neg e]
                  rcases List.mem_cons.1 hl with rfl | hl
                  · exact absurd rfl e
                  · exact ih hl
            exact this bs hx1 h3
  have hold : ∀ q box b, lb q = some box → box.live = true → (∀ κ, (κ, q) ∉ dictOf xs qs bs) → (ρ q).g = some b → ¬ Xc b := fun q box b h1 h2 h3 h4 hx => by
    obtain ⟨κ, q', box', g1, g2, g3, g4⟩ := hXlive b hx
    have := h.ap q box q' box' b h1 h2 g2 g3 h4 g4
    subst this
    exact h3 κ g1
  -- a live key behind the call lies in the callee's result, or is an old one that the call did not touch
  have hlive : ∀ q box b, lb3 q = some box → box.live = true → (ρ3 q).g = some b → (∃ κ box', lbr κ = some box' ∧ box'.live = true ∧ (ρ' κ).g = some b) ∨ (lb q = some box ∧ (∀ κ, (κ, q) ∉ dictOf xs qs bs) ∧ (ρ q).g = some b) := by
    intro q box b hq hl hg
    rcases hcase q box hq with ⟨κ, ty, cs, g1, g2, _, g3, g4, g5⟩ | ⟨j, κ, box0, rfl, g2, g3⟩ | ⟨g1, g2⟩
    · exact .inl ⟨κ, _, g2, rfl, by rw [← g4]; exact hg⟩
    · exact .inl ⟨κ, box0, hlbrN _ _ _ g2, by rw [g3, renBx_live] at hl; exact hl, by rw [← (hnew j κ box0 g2).1]; exact hg⟩
    · rw [hρold q (h.bx q box g1).1] at hg
      exact .inr ⟨g1, g2, hg⟩
  have hVw : ∀ b, V b → b < w.heap.size := fun b hb => Nat.lt_of_lt_of_le (h.va b hb).1 h.fr.size
  have hS : ∀ b, b < w'.heap.size → Im Vc ρ' lbr b → Im V ρ3 lb3 b := by
    intro b hb hi
    have hnv : ¬ V b := fun hv => by
      have hbw := hVw b hv
      by_cases hx : Xc b
      · obtain ⟨κ, q, box, _, g2, g3, g4⟩ := hXlive b hx
        rcases (h.lo q box b g2 g3 g4).2 with h1 | h1
        · have := (h.va b hv).1; omega
        · exact (h.va b hv).2 h1
      · exact hi.1 ⟨hbw, fun him => him.1 hv, hx⟩
    refine ⟨hnv, fun q box hq hl hg => ?_⟩
    rcases hlive q box b hq hl hg with ⟨κ, box', g1, g2, g3⟩ | ⟨g1, g2, g3⟩
    · exact hi.2 κ box' g1 g2 g3
    · have hbw := (h.lo q box b g1 hl g3).1
      exact hi.1 ⟨hbw, fun him => him.2 q box g1 hl g3, hold q box b g1 hl g2 g3⟩
  have hs2 : ∀ b, b < w.heap.size → Im V ρ lb b → Im V ρ3 lb3 b := by
    intro b hb hi
    refine ⟨hi.1, fun q box hq hl hg => ?_⟩
    rcases hlive q box b hq hl hg with ⟨κ, box', g1, g2, g3⟩ | ⟨g1, g2, g3⟩
    · rcases (hR.lo κ box' b g1 g2 g3).2 with h1 | h1
      · omega
      · exact hImX b hi h1
    · exact hi.2 q box g1 hl g3
  have hkw : Keep (Im V ρ lb) w w' := hR.fr.mono fun b _ hi => hImX b hi
  -- cells of the result
  have hren : ∀ c v, (∀ k ∈ keysC c, k ∈ r.bx.map (·.1)) → CRel (Im Vc ρ' lbr) ρ' (fun _ => True) w' c v → CRel (Im V ρ3 lb3) ρ3 ok' w' (renC f c) v := by
    intro c v hck hc
    have hk : ∀ κ, κ ∈ r.bx.map (·.1) → ρ3 (f κ) = ρ' κ ∧ ok' (f κ) := fun κ hm => by
      obtain ⟨⟨κ', box⟩, hm1, rfl⟩ := List.mem_map.1 hm
      obtain ⟨j, g1, g2, g3, g4⟩ := renK_mem f key hinj (n := 0) nd2 hm1
      rw [Nat.zero_add] at g1
      have := hnew j _ _ g3
      show ρ3 (renK key r.bx 0 κ') = _ ∧ ok' (renK key r.bx 0 κ')
      rw [g1]
      exact ⟨this.1, (hkey j this.2).2⟩
    cases c with
    | d d => exact Rd.mono hc hS
    | zero => exact hc
    | own q => obtain ⟨_, hv⟩ := hc; obtain ⟨h1, h2⟩ := hk q (hck q (by simp [keysC])); exact ⟨h2, by rw [h1]; exact hv⟩
    | ptr q o => obtain ⟨_, b, h3, hv⟩ := hc; obtain ⟨h1, h2⟩ := hk q (hck q (by simp [keysC])); exact ⟨h2, b, by rw [h1]; exact h3, hv⟩
    | eptr q i o => obtain ⟨_, b, h3, hv⟩ := hc; obtain ⟨h1, h2⟩ := hk q (hck q (by simp [keysC])); exact ⟨h2, b, by rw [h1]; exact h3, by rw [h1]; exact hv⟩
    | rptr row o => exact data_keep (ρ := ρ') (ok := fun _ => True) hc rfl hS
    | arr q n z => obtain ⟨_, b, h3, hv⟩ := hc; obtain ⟨h1, h2⟩ := hk q (hck q (by simp [keysC])); exact ⟨h2, b, by rw [h1]; exact h3, hv⟩
    | mp q => obtain ⟨_, b, h3, hv⟩ := hc; obtain ⟨h1, h2⟩ := hk q (hck q (by simp [keysC])); exact ⟨h2, b, by rw [h1]; exact h3, hv⟩
    | fn gg caps =>
      obtain ⟨vs, h1, h2⟩ := hc
      refine ⟨vs, h1, ?_⟩
      have hck' : ∀ c ∈ caps, ∀ k ∈ capKeys c, k ∈ r.bx.map (·.1) := fun c hc' k hk' => hck k (List.mem_flatMap.2 ⟨c, hc', hk'⟩)
      clear hck h1
      induction h2 with
      | nil => exact .nil
      | @cons c v cs vs hcv _ ih =>
        refine .cons ?_ (ih fun c hc' => hck' c (by simp [hc']))
        cases c with
        | d d => exact Rd.mono hcv hS
        | ptr q o => obtain ⟨_, b, h3, hv⟩ := hcv; obtain ⟨h1, h2⟩ := hk q (hck' (.ptr q o) (by simp) q (by simp [capKeys])); exact ⟨h2, b, by rw [h1]; exact h3, hv⟩
        | rptr row o => exact capdata_keep (c := .rptr row o) hcv rfl hS
    | dead => exact hc
  have hrenL : ∀ {cs : List C} {vs : List Value}, (∀ c ∈ cs, ∀ k ∈ keysC c, k ∈ r.bx.map (·.1)) → All2 (CRel (Im Vc ρ' lbr) ρ' (fun _ => True) w') cs vs → All2 (CRel (Im V ρ3 lb3) ρ3 ok' w') (cs.map (renC f)) vs := by
    intro cs vs hck hh
    induction hh with
    | nil => exact .nil
    | cons x y ih => exact .cons (hren _ _ (hck _ (by simp)) x) (ih fun c hc => hck c (by simp [hc]))
  unfold ARes.closed at hr3
  rw [Bool.and_eq_true, Bool.and_eq_true] at hr3
  have hcb : ∀ κ box, (κ, box) ∈ r.bx → ∀ k ∈ keysBx box, k ∈ r.bx.map (·.1) := fun κ box hm k hk => by
    have := List.all_eq_true.1 hr3.1.1 (κ, box) hm
    have := List.all_eq_true.1 this k hk
    simpa using this
  replace hr3 : _ ∧ _ := ⟨hr3.1.2, hr3.2⟩
  have hcv : ∀ b cs, (b, cs) ∈ r.vals → ∀ c ∈ cs, ∀ k ∈ keysC c, k ∈ r.bx.map (·.1) := fun b cs hm c hc k hk => by
    have := List.all_eq_true.1 hr3.1 (b, cs) hm
    have := List.all_eq_true.1 this c hc
    have := List.all_eq_true.1 this k hk
    simpa using this
  have hci : ∀ cs, cs ∈ r.ios → ∀ c ∈ cs, ∀ k ∈ keysC c, k ∈ r.bx.map (·.1) := fun cs hm c hc k hk => by
    have := List.all_eq_true.1 hr3.2 cs hm
    have := List.all_eq_true.1 this c hc
    have := List.all_eq_true.1 this k hk
    simpa using this
  have hioMem : ∀ {i : Nat} {ys : List Arg} {ios : List (List C)} {κ : Key} {ty : TypeId} {cs : List C}, (κ, Box.st ty cs) ∈ ioBx i ys ios → cs ∈ ios := by
    intro i ys
    induction ys generalizing i with
    | nil => intro ios κ ty cs hm; simp [ioBx] at hm
    | cons y ys ih =>
      intro ios κ ty cs hm
      cases y with
      | val b cc => exact ih (by simpa [ioBx] using hm)
      | io t cc =>
        cases ios with
        | nil => simp [ioBx] at hm
        | cons z ios =>
          simp only [ioBx, List.mem_cons, Prod.mk.injEq, Box.st.injEq] at hm
          rcases hm with ⟨_, _, rfl⟩ | hm
          · simp
          · exact List.mem_cons_of_mem _ (ih hm)
  have hval : AVRel (CRel (Im V ρ3 lb3) ρ3 ok' w') (resAV f r.vals) v := by
    have h1 := (hR.tm 0 (resAV id r.vals) rfl).2
    have h2 : (⟨#[v], []⟩ : Act).tmps.getD 0 undef = v := rfl
    rw [h2] at h1
    by_cases hl : r.vals.length = 1
    · obtain ⟨⟨b, cs⟩, hbc⟩ := List.length_eq_one_iff.1 hl
      rw [hbc, resAV_id_one] at h1
      rw [hbc]
      obtain ⟨us, u1, u2⟩ := h1
      exact ⟨us, hrenL (fun c hc => hcv b cs (by rw [hbc]; simp) c hc) u1, u2⟩
    · rw [resAV_id_tup hl] at h1
      obtain ⟨us, u1, u2⟩ := h1
      have e1 : resAV f r.vals = .tup (r.vals.map fun (p : Bool × List C) => (p.1, p.2.map (renC f))) := by
        unfold resAV
        split
        · rename_i hh; rw [hh] at hl; simp at hl
        · rfl
      rw [e1]
      refine ⟨us, u1, ?_⟩
      have : ∀ {l : List (Bool × List C)} {us : List Value}, (∀ b cs, (b, cs) ∈ l → ∀ c ∈ cs, ∀ k ∈ keysC c, k ∈ r.bx.map (·.1)) → Alls (CRel (Im Vc ρ' lbr) ρ' (fun _ => True) w') l us → Alls (CRel (Im V ρ3 lb3) ρ3 ok' w') (l.map fun (p : Bool × List C) => (p.1, p.2.map (renC f))) us := by
        intro l us hl hh
        induction hh with
        | nil => exact .nil
        | @cons b1 c1 v1 xs1 vs1 x y ih =>
          obtain ⟨us, u1, u2⟩ := x
          exact .cons ⟨us, hrenL (hl b1 c1 (List.mem_cons_self ..)) u1, u2⟩ (ih fun b cs hm => hl b cs (List.mem_cons_of_mem _ hm))
      exact this hcv u2
  refine ⟨ρ3, h.step2 d _ v hd hkw hs2 hρold ho hval (fun q box hq => ?_) (fun q1 b1 q2 b2 b e1 l1 e2 l2 g1 g2 => ?_) (fun q box b hq hl hg => ?_) ?_⟩
  · rcases hcase q box hq with ⟨κ, ty, cs, g1, g2, gm, g3, g4, g5⟩ | ⟨j, κ, box0, rfl, g2, g3⟩ | ⟨g1, g2⟩
    · right
      obtain ⟨_, b, vs, y1, y2, y3⟩ := hR.bx κ _ g2
      subst g3
      exact ⟨ho q g5, b, vs, by rw [g4]; exact y1, y2, hrenL (hci cs (hioMem gm)) y3⟩
    · right
      have hn := hnew j κ box0 g2
      refine ⟨(hkey j hn.2).2, ?_⟩
      have hsl : box0.okRes = true := List.all_eq_true.1 hr5 (κ, box0) (List.mem_of_getElem? g2)
      obtain ⟨_, y⟩ := hR.bx κ _ (hlbrN _ _ _ g2)
      subst g3
      cases box0 with
      | st ty cs =>
        obtain ⟨b, vs, y1, y2, y3⟩ := y
        exact ⟨b, vs, by rw [hn.1]; exact y1, y2, hrenL (fun c hc k hk => hcb κ _ (List.mem_of_getElem? g2) k (List.mem_flatMap.2 ⟨c, hc, hk⟩)) y3⟩
      | fz sz rows => simp [Box.okRes] at hsl
      | mp es ck => simp [Box.okRes] at hsl
      | sl ty sz rows =>
        show BoxRel _ _ _ _ _ (.sl ty sz rows)
        simp only [BoxRel] at y ⊢
        rw [hn.1]
        obtain ⟨n1, n2, n3, n4, n5, n6⟩ := y
        refine ⟨n1, n2, n3, n4, n5, n6.imp id ?_⟩
        rintro ⟨b, vs, sp, y1, y2, y3, y4, y5⟩
        exact ⟨b, vs, sp, y1, y2, y3, data_list y4 (fun c hc => by obtain ⟨dd, _, rfl⟩ := List.mem_map.1 hc; rfl) hS, y5⟩
    · exact .inl ⟨g1, fun hl b hb => hR.fr.block b (h.lo q box b g1 hl hb).1 (hold q box b g1 hl g2 hb)⟩
  · -- two live keys at one block
    have key2 : ∀ q box b, lb3 q = some box → box.live = true → (ρ3 q).g = some b → (∃ κ box', lbr κ = some box' ∧ box'.live = true ∧ (ρ' κ).g = some b ∧ (((κ, q) ∈ dictOf xs qs bs ∧ (κ, box') ∈ ioBx 0 xs r.ios) ∨ ∃ j, q = key j ∧ r.bx[j]? = some (κ, box'))) ∨ (lb q = some box ∧ (∀ κ, (κ, q) ∉ dictOf xs qs bs) ∧ (ρ q).g = some b) := by
      intro q box b hq hl hg
      rcases hcase q box hq with ⟨κ, ty, cs, g1, g2, gm, g3, g4, g5⟩ | ⟨j, κ, box0, rfl, g2, g3⟩ | ⟨g1, g2⟩
      · exact .inl ⟨κ, _, g2, rfl, by rw [← g4]; exact hg, .inl ⟨g1, gm⟩⟩
      · exact .inl ⟨κ, box0, hlbrN _ _ _ g2, by rw [g3, renBx_live] at hl; exact hl, by rw [← (hnew j κ box0 g2).1]; exact hg, .inr ⟨j, rfl, g2⟩⟩
      · rw [hρold q (h.bx q box g1).1] at hg
        exact .inr ⟨g1, g2, hg⟩
    have mixed : ∀ q box κ box', lb q = some box → box.live = true → (∀ κ, (κ, q) ∉ dictOf xs qs bs) → (ρ q).g = some b → lbr κ = some box' → box'.live = true → (ρ' κ).g = some b → False := by
      intro q box κ box' c1 c2 c3 c4 c5 c6 c7
      rcases (hR.lo κ box' b c5 c6 c7).2 with h1 | h1
      · have := (h.lo q box b c1 c2 c4).1; omega
      · exact hold q box b c1 c2 c3 c4 h1
    rcases key2 q1 b1 b e1 l1 g1 with ⟨κ1, x1, p1, p2, p3, p4⟩ | ⟨p1, p2, p3⟩
    · rcases key2 q2 b2 b e2 l2 g2 with ⟨κ2, x2, r1, r2, r3, r4⟩ | ⟨r1, r2, r3⟩
      · have hκ := hR.ap κ1 x1 κ2 x2 b p1 p2 r1 r2 p3 r3
        subst hκ
        rcases p4 with ⟨m1, m2⟩ | ⟨j1, rfl, m2⟩ <;> rcases r4 with ⟨m3, m4⟩ | ⟨j2, rfl, m4⟩
        · have := lk_of_mem hn1 m1
          rw [lk_of_mem hn1 m3] at this
          cases this
          rfl
        · exact absurd (List.mem_map.2 ⟨_, List.mem_of_getElem? m4, rfl⟩) (nd3 κ1 (List.mem_map.2 ⟨_, m2, rfl⟩))
        · exact absurd (List.mem_map.2 ⟨_, List.mem_of_getElem? m2, rfl⟩) (nd3 κ1 (List.mem_map.2 ⟨_, m4, rfl⟩))
        · have hidx : ∀ {l : List (Key × Box)} {i j : Nat} {κ : Key} {x y : Box}, nodup (l.map (·.1)) = true → l[i]? = some (κ, x) → l[j]? = some (κ, y) → i = j := by
            intro l
            induction l with
            | nil => intro i j κ x y _ hi; simp at hi
            | cons z l ih =>
              intro i j κ x y hnd hi hj
              rw [List.map_cons] at hnd
              obtain ⟨z1, z2⟩ := nodup_mem hnd
              cases i with
              | zero =>
                cases j with
                | zero => rfl
                | succ j =>
                  simp at hi hj
                  exact absurd (List.mem_map.2 ⟨_, List.mem_of_getElem? hj, by rw [hi]⟩) z1
              | succ i =>
                cases j with
                | zero =>
                  simp at hi hj
                  exact absurd (List.mem_map.2 ⟨_, List.mem_of_getElem? hi, by rw [hj]⟩) z1
                | succ j => exact congrArg (· + 1) (ih (i := i) (j := j) (κ := κ) (x := x) (y := y) z2 (by simpa using hi) (by simpa using hj))
          rw [hidx nd2 m2 m4]
      · exact (mixed q2 b2 κ1 x1 r1 l2 r2 r3 p1 p2 p3).elim
    · rcases key2 q2 b2 b e2 l2 g2 with ⟨κ2, x2, r1, r2, r3, r4⟩ | ⟨r1, r2, r3⟩
      · exact (mixed q1 b1 κ2 x2 p1 l1 p2 p3 r1 r2 r3).elim
      · exact h.ap q1 b1 q2 b2 b p1 l1 r1 l2 p3 r3
  · rcases hlive q box b hq hl hg with ⟨κ, box', g1, g2, g3⟩ | ⟨g1, g2, g3⟩
    · obtain ⟨h1, h2⟩ := hR.lo κ box' b g1 g2 g3
      refine ⟨h1, ?_⟩
      rcases h2 with h2 | h2
      · exact .inl (Nat.le_trans h.fr.size h2)
      · obtain ⟨κ', q', bx', _, k2, k3, k4⟩ := hXlive b h2
        exact (h.lo q' bx' b k2 k3 k4).2
    · have := h.lo q box b g1 hl g3
      exact ⟨Nat.lt_of_lt_of_le this.1 hR.fr.size, this.2⟩
  · refine Keep.out h (hR.fr.mono fun b _ hi hx => ?_)
    obtain ⟨κ, q, box, _, g2, g3, g4⟩ := hXlive b hx
    exact hi q box g2 g3 g4
end
end Go.Proofs.YtnaknldbmapolaaGreatDoor
