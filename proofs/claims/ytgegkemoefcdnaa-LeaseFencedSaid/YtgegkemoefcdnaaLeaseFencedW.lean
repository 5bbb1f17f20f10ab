/-
  The walk of LeaseFenced: over any list of operations the law returns true and changes nothing that was there.
-/
import Derived.Test.YtgegkemoefcdnaaLeaseScriptW
namespace Go.Proofs.Ytgegkemoefcdnaa
open Go.RowKit
set_option linter.unusedSimpArgs false
set_option linter.unusedVariables false
set_option maxHeartbeats 4000000
set_option maxRecDepth 100000
theorem own_ext {B : Nat} {e : TypeId} {k : Nat} {v : Value} {n : Nat} {xs : List Value} {w w' : World} (h : w.ownsRow B e k v n xs) (hb : Below w.heap.size w w') : w'.ownsRow B e k v n xs :=
  h.kept (row := none) ⟨hb.os, hb.tape, hb.output, hb.size, fun i hi _ => hb.block i hi⟩ (by cases hv : v.ownBlock <;> simp)
theorem Blk.grown {w w' : World} {g : Nat} {t : TypeId} {cs : Array Value} {row : Option Nat} (h : Blk w g t cs) (hg : w.grownBy w' row) (hne : some g ≠ row) : Blk w' g t cs := (hg.block g h.lt hne).trans h
theorem info64 : (Try.prog.info? 2).map (fun i => (i.zero, i.size, i.bytes)) = some (some (.int .i64 0), 1, 8) := by kernel_rfl
theorem holds_of_holder {a b c now : Int} (h : 0 ≤ holderI a b c now) : holdsB a b c (holderI a b c now) b now 0 = true := by
  revert h; grind [holderI, holdsB]
theorem fen_ok {s t : Int} (h0 : 0 ≤ s) (h : s ≤ t) : fen s t = (t, 0) := by grind [fen]
theorem fen_old {s t : Int} (h0 : 0 ≤ t) (h : t < s) : fen s t = (0, 16) := by grind [fen]
theorem leaseFenced_any (A : Option Addr) (n c : Nat) (w : World) (ho : OpsAt w A n) (hn : n ≤ 40) :
    Calls Try.prog 9 #[.slice A n c] w fun e w' => e = .returned (.bool true) ∧ Below w.heap.size w w' := by
  have Ho := hid ho
  clear ho
  obtain ⟨i0, ji, jz0, jz1, jz2⟩ := info_parts info64
  go_enter Try.func9, Try.ntmps9
  go_wp2_with fail
  refine (awake_any _).mono ?_
  rintro e w1 ⟨rfl, hb1⟩
  obtain ⟨hc1, hf1⟩ := bcell hb1
  have hz1 := hb1.size
  try simp at hz1
  go_wp2_with fail
  refine (free_any _).mono ?_
  rintro e w2 ⟨rfl, hb2⟩
  obtain ⟨hc2, hf2⟩ := bcell hb2
  have hz2 := hb2.size
  try simp at hz2
  have hB2 : Below w.heap.size w w2 := by (repeat (first | with_reducible exact ext_refl _ | with_reducible refine ext_alloc ?_ _ | with_reducible refine ext_set ?_ (by omega) _ | with_reducible refine ext_drew ?_ | with_reducible refine ext_step ?_ (by assumption)))
  go_wp2_with fail
  go_loopw [4, 5, 6, 29] (fun nowv seenv gv iv wr => ∃ (k : Nat) (hd tk un now seen : Int) (gs : List Int) (GA : Option Addr) (gc : Nat), k ≤ n ∧ iv = .int .i64 k ∧ nowv = .int .i64 now ∧ seenv = .int .i64 seen ∧ LeaseOK k hd tk un now ∧ 0 ≤ seen ∧ seen ≤ tk ∧ gs.length ≤ k ∧ (∀ g ∈ gs, 0 ≤ g ∧ g ≤ tk) ∧
    gv = .slice GA gs.length gc ∧ wr.ownsRow (w2.heap.size + 1) 2 1 (.slice GA gs.length gc) gs.length (gs.map (Value.int .i64)) ∧ Blk wr w2.heap.size 23 #[.int .i64 hd, .int .i64 tk, .int .i64 un] ∧ Below w.heap.size w wr) (fun _ _ _ iv _ => n - (intOf iv).toNat)
  case atStart => exact ⟨0, -1, 0, 0, 0, 0, [], none, 0, Nat.zero_le _, rfl, rfl, rfl, by simp [LeaseOK], by omega, by omega, by simp, by simp, rfl, ⟨by simp, .inl ⟨rfl, rfl⟩⟩, Blk.new _ _ _, ext_alloc hB2 _⟩
  case round =>
    obtain ⟨k, hd, tk, un, now, seen, gs, GA, gc, hk, rfl, rfl, rfl, hL, s0, s1, hgl, hgs, rfl, hown, hX, hB⟩ := hrel
    by_cases hlt : k < n
    · obtain ⟨b, off, ka, kb, kc, kd, ke, rfl, hbl, q0, q1, q2, q3, q4, ⟨u0, u0'⟩, ⟨u1, u1'⟩, ⟨u2, u2'⟩, ⟨u3, u3'⟩⟩ := Ho.out k hlt
      have p0 := (hB.cell (p := ⟨b, off + k * 5, none⟩) hbl).trans q0
      have p1 := (hB.cell (p := ⟨b, off + k * 5 + 1, none⟩) hbl).trans q1
      have p2 := (hB.cell (p := ⟨b, off + k * 5 + 2, none⟩) hbl).trans q2
      have p3 := (hB.cell (p := ⟨b, off + k * 5 + 3, none⟩) hbl).trans q3
      have p4 := (hB.cell (p := ⟨b, off + k * 5 + 4, none⟩) hbl).trans q4
      clear q0 q1 q2 q3 q4
      have zX := hX.lt
      have cX := hX.cell
      have fX := hX.frozen
      have ss := size_set
      have hm : 0 ≤ kc % 8 := by omega
      have hm' : kc % 8 < 8 := by omega
      obtain ⟨l1, l2, l3, l4, l5, l6, l7, l8⟩ := hL
      have HL : Hid (LeaseOK k hd tk un now) := ⟨l1, l2, l3, l4, l5, l6, l7, l8⟩
      have HG := hid hgs
      have HO := hid hown
      clear hgs hown
      obtain ⟨na, nb, nc, hN⟩ : ∃ na nb nc, dnx hd tk un now ka kb kc kd ke = (na, nb, nc) := ⟨_, _, _, rfl⟩
      have HK : Hid (LeaseOK (k + 1) na nb nc (now + kc % 8)) := by have := dnx_ok (old := ke) HL.out (by omega) u0 u0' u1 u1' u2 u2' u3 u3'; rw [hN] at this; exact this
      have ht : tk ≤ nb := by have := dnx_token (k := ka) (wh := kb) (wt := kc) (tl := kd) (old := ke) HL.out; rw [hN] at this; exact this
      obtain ⟨a, b', c', er, hD⟩ : ∃ a b c er, dop hd tk un now ka kb kc kd ke = (a, b, c, er) := ⟨_, _, _, _, rfl⟩
      have hE : (er = 0 ∧ a = na ∧ b' = nb ∧ c' = nc) ∨ (¬ er = 0 ∧ na = hd ∧ nb = tk ∧ nc = un) := by
        by_cases he : er = 0
        · subst he; have h1 := dnx_0 hD; rw [hN] at h1; simp at h1; exact .inl ⟨rfl, h1.1.symm, h1.2.1.symm, h1.2.2.symm⟩
        · have h1 := dnx_1 hD he; rw [hN] at h1; simp at h1; exact .inr ⟨he, h1.1, h1.2.1, h1.2.2⟩
      clear hN
      have hun : c' ≤ 9223372036854775807 ∨ ¬ er = 0 := by
        rcases hE with ⟨_, _, _, h⟩ | ⟨h, _⟩
        · have := HK.out.2.2.2.2.2.1; left; omega
        · exact .inr h
      rcases hE with ⟨rfl, rfl, rfl, rfl⟩ | ⟨he, rfl, rfl, rfl⟩
      · have hun' : c' ≤ 9223372036854775807 := by rcases hun with h | h; exact h; exact absurd rfl h
        clear hun
        by_cases hg : 0 ≤ holderI a b' c' (now + kc % 8)
        · have hh := holds_of_holder hg
          have hf1 := fen_ok s0 (show seen ≤ b' by omega)
          by_cases hbt : b' = tk
          · subst hbt
            have hbt' : (b' != b') = false := by simp
            go_wp2_with fail
            refine (do_any _ _ _ _ _ _ _ _ _ _ l3 (by omega) l7 (by omega) u0 u0' u1 u1' u2 u2' u3 u3').mono ?_
            rintro e w3 ⟨rfl, hb3⟩
            obtain ⟨hc3, hf3⟩ := bcell hb3
            have hz3 := hb3.size
            try simp at hz3
            have z3_0 : w2.heap.size < w3.heap.size := by omega
            have z3_1 : wr.heap.size < w3.heap.size := by omega
            have hX3 := (hX.alloc (.cells #[.int .u8 ka, .int .u8 kb, .int .u8 kc, .int .u8 kd, .bool ke] 43)).ext hb3
            have cX3 := hX3.cell
            have fX3 := hX3.frozen

            go_wp2_with fail
            refine (holder_any _ _ _ _ _).mono ?_
            rintro e w5 ⟨rfl, hb5⟩
            obtain ⟨hc5, hf5⟩ := bcell hb5
            have hz5 := hb5.size
            try simp at hz5
            have z5_0 : w2.heap.size < w5.heap.size := by omega
            have z5_1 : w3.heap.size < w5.heap.size := by omega
            have hX5 : Blk w5 w2.heap.size 23 #[.int .i64 a, .int .i64 b', .int .i64 c'] := ((((hX3.put 0 _).put 1 _).put 2 _).alloc _).ext hb5
            have HO5 := hid (own_ext ((ownsRow_setCell_below (ownsRow_setCell_below (ownsRow_setCell_below (own_ext (HO.out.alloc _) hb3) (a := ⟨w2.heap.size, 0, none⟩) (Nat.lt_succ_self _) (.int .i64 a)) (a := ⟨w2.heap.size, 1, none⟩) (Nat.lt_succ_self _) (.int .i64 b')) (a := ⟨w2.heap.size, 2, none⟩) (Nat.lt_succ_self _) (.int .i64 c')).alloc _) hb5)
            have HB5 : Hid (Below w.heap.size w w5) := by show Below _ _ _; (repeat (first | with_reducible exact ext_refl _ | with_reducible refine ext_alloc ?_ _ | with_reducible refine ext_set ?_ (by omega) _ | with_reducible refine ext_drew ?_ | with_reducible refine ext_step ?_ (by assumption)))

            have c5 := hX5.cell
            clear hc5
            go_wp2_with fail
            refine (holds_any _ _ _ _ _ _ _ _ hun').mono ?_
            rintro e w6 ⟨rfl, hb6⟩
            obtain ⟨hc6, hf6⟩ := bcell hb6
            have hz6 := hb6.size
            try simp at hz6
            have z6_0 : w2.heap.size < w6.heap.size := by omega
            have hX6 := hX5.ext hb6
            have c6 := hX6.cell
            go_wp2_with fail
            refine (fence_any _ _ _).mono ?_
            rintro e w7 ⟨rfl, hb7⟩
            obtain ⟨hc7, hf7⟩ := bcell hb7
            have hz7 := hb7.size
            try simp at hz7
            have z7_0 : w2.heap.size < w7.heap.size := by omega
            have hX7 : Blk w7 w2.heap.size 23 #[.int .i64 a, .int .i64 b', .int .i64 c'] := hX6.ext hb7
            have HO7 := hid (own_ext (own_ext HO5.out hb6) hb7)
            have HB7 : Hid (Below w.heap.size w w7) := ext_step (ext_step HB5.out hb6) hb7
            have c7 := hX7.cell
            go_wp2_with fail
            obtain ⟨wo, hwo⟩ : ∃ wo : World, wo = wr := ⟨_, rfl⟩
            clear hwo
            go_loopw [90] (fun jv wi => ∃ j : Nat, j ≤ gs.length ∧ jv = .int .i64 j ∧ wi.ownsRow (w2.heap.size + 1) 2 1 (.slice GA gs.length gc) gs.length ((gs).map (Value.int .i64)) ∧ Blk wi w2.heap.size 23 #[.int .i64 a, .int .i64 b', .int .i64 c'] ∧ Below w.heap.size w wi) (fun jv _ => gs.length - (intOf jv).toNat)
            case atStart => exact ⟨0, Nat.zero_le _, rfl, HO7.out, hX7, HB7.out⟩
            case round =>
              rename_i wi _
              obtain ⟨j, hj, rfl, hoi, hXi, hBi⟩ := hrel
              by_cases hjl : j < gs.length
              · obtain ⟨g0, rfl⟩ : ∃ g0, GA = some ⟨g0, 0, none⟩ := by
                  rcases hoi.2 with ⟨_, h⟩ | ⟨g, cap, _, h, _⟩
                  · omega
                  · injection h with h; exact ⟨g, h⟩
                obtain ⟨t, htm, hcj⟩ : ∃ t, t ∈ gs ∧ wr.cell? ⟨g0, j, none⟩ = some (.int .i64 t) := by
                  have h1 := hoi.cellAt j (by omega)
                  have h2 : j < (gs).length := by first | omega | (simp; omega)
                  rw [List.getElem?_map, List.getElem?_eq_getElem h2] at h1
                  exact ⟨_, List.getElem_mem h2, h1⟩
                have tt := HG.out t htm
                have t0 := tt.1
                have t1 : t ≤ b' := by omega
                have Hoi := hid hoi
                have cXi := hXi.cell
                have zXi := hXi.lt
                have HBi := hid hBi
                clear tt hoi hBi
                by_cases htb : t < b'
                · have hfe := fen_old t0 htb
                  go_wp2_with fail
                  refine (fence_any _ _ _).mono ?_
                  rintro e w8 ⟨rfl, hb8⟩
                  obtain ⟨hc8, hf8⟩ := bcell hb8
                  have hz8 := hb8.size
                  try simp at hz8
                  have z8_0 : w2.heap.size < w8.heap.size := by omega
                  have cX8 := (hXi.ext hb8).cell
                  go_wp2_with fail
                  go_roundw
                  case rel => exact ⟨j + 1, by omega, by go_num, own_ext Hoi.out hb8, hXi.ext hb8, ext_step HBi.out hb8⟩
                  case measure => simp [intOf]; omega
                · have hfe := fen_ok (s := b') (t := t) (by omega) (by omega)
                  go_wp2_with fail
                  refine (fence_any _ _ _).mono ?_
                  rintro e w8 ⟨rfl, hb8⟩
                  obtain ⟨hc8, hf8⟩ := bcell hb8
                  have hz8 := hb8.size
                  try simp at hz8
                  have z8_0 : w2.heap.size < w8.heap.size := by omega
                  have cX8 := (hXi.ext hb8).cell
                  go_wp2_with fail
                  go_roundw
                  case rel => exact ⟨j + 1, by omega, by go_num, own_ext Hoi.out hb8, hXi.ext hb8, ext_step HBi.out hb8⟩
                  case measure => simp [intOf]; omega
              · have Hoi := hid hoi
                have HBi := hid hBi
                clear hoi hBi
                go_wp2_with fail
                go_roundw
                case rel =>
                  refine ⟨k + 1, _, _, _, _, _, gs, GA, gc, by omega, by go_num, rfl, rfl, HK.out, by omega, by omega, (by first | omega | (simp; omega)), ?_, rfl, Hoi.out, hXi, HBi.out⟩
                  intro g hg'
                  have := HG.out g hg'; omega
                case measure => simp [intOf]; omega
          · have hbt' : (b' != tk) = true := by simpa using hbt
            have Hbt := hid hbt
            clear hbt
            go_wp2_with fail
            refine (do_any _ _ _ _ _ _ _ _ _ _ l3 (by omega) l7 (by omega) u0 u0' u1 u1' u2 u2' u3 u3').mono ?_
            rintro e w3 ⟨rfl, hb3⟩
            obtain ⟨hc3, hf3⟩ := bcell hb3
            have hz3 := hb3.size
            try simp at hz3
            have z3_0 : w2.heap.size < w3.heap.size := by omega
            have z3_1 : wr.heap.size < w3.heap.size := by omega
            have hX3 := (hX.alloc (.cells #[.int .u8 ka, .int .u8 kb, .int .u8 kc, .int .u8 kd, .bool ke] 43)).ext hb3
            have cX3 := hX3.cell
            have fX3 := hX3.frozen

            have hXne : some w2.heap.size ≠ (Value.slice GA gs.length gc).ownBlock := fun e => by have := (HO.out.lt _ e.symm).1; omega
            have hYne : some w3.heap.size ≠ (Value.slice GA gs.length gc).ownBlock := fun e => by have := (HO.out.lt _ e.symm).2; omega
            have HX3 : Hid (Blk ((w3.alloc (.cells #[.int .i64 a, .int .i64 b', .int .i64 c'] 23)).alloc (.cells #[.int .i64 b'] 2)) w2.heap.size 23 #[.int .i64 hd, .int .i64 tk, .int .i64 un]) := by show Blk _ _ _ _; (repeat (first | assumption | (with_reducible refine Blk.new' ?_; simp; done) | with_reducible refine Blk.alloc ?_ _ | with_reducible refine Blk.drew ?_ | with_reducible refine Blk.ext ?_ (by assumption)))
            have HY3 : Hid (Blk ((w3.alloc (.cells #[.int .i64 a, .int .i64 b', .int .i64 c'] 23)).alloc (.cells #[.int .i64 b'] 2)) w3.heap.size 23 #[.int .i64 a, .int .i64 b', .int .i64 c']) := by show Blk _ _ _ _; (repeat (first | assumption | (with_reducible refine Blk.new' ?_; simp; done) | with_reducible refine Blk.alloc ?_ _ | with_reducible refine Blk.drew ?_ | with_reducible refine Blk.ext ?_ (by assumption)))
            have O3 : ((w3.alloc (.cells #[.int .i64 a, .int .i64 b', .int .i64 c'] 23)).alloc (.cells #[.int .i64 b'] 2)).ownsRow (w2.heap.size + 1) 2 1 (.slice GA gs.length gc) gs.length (gs.map (Value.int .i64)) := ((own_ext (HO.out.alloc _) hb3).alloc _).alloc _
            have HO3 := hid O3
            clear O3
            go_wp2_with (at_builtin; refine wpList_append_own _ rfl (.tmp 53) (.tmp 56) 48 rfl (w2.heap.size + 1) 2 i0 (.int .i64 0) 1 8 Try.underlying48 ji jz0 jz1 jz2 rfl (by decide) _ _ _ rfl HO3.out ⟨w3.heap.size + 1, 0, none⟩ 1 1 [.int .i64 b'] rfl rfl ?c1 ?c2 ?c3 ?c4 ?c5 ?_)
            case c1 =>
              intro j u hj
              have hj0 : j = 0 := by have := (List.getElem?_eq_some_iff.1 hj).1; simp at this; omega
              subst hj0
              simp at hj
              subst hj
              simp [Addr.add, go_sem]
            case c2 => simp [Value.oneCell']
            case c3 => simp only [maxLen]; omega
            case c4 => omega
            case c5 => simp; omega
            intro v4 w4 hown4 hgr4 hne4
            obtain ⟨g4, cap4, hv4⟩ : ∃ g cap, v4 = .slice (some ⟨g, 0, none⟩) (gs.length + 1) cap := by
              rcases hown4.2 with ⟨h, _⟩ | ⟨g, cap, _, h, _⟩
              · exact absurd h hne4
              · exact ⟨g, cap, h⟩
            subst hv4
            have hX4 : Blk w4 w2.heap.size 23 #[.int .i64 hd, .int .i64 tk, .int .i64 un] := HX3.out.grown hgr4 hXne
            have hY4 : Blk w4 w3.heap.size 23 #[.int .i64 a, .int .i64 b', .int .i64 c'] := HY3.out.grown hgr4 hYne
            have hB4 : Below w.heap.size w w4 := by
              refine Below.grown (w := (w3.alloc (.cells #[.int .i64 a, .int .i64 b', .int .i64 c'] 23)).alloc (.cells #[.int .i64 b'] 2)) ?_ hgr4 (by simp; omega) (fun q hq => by have := (HO.out.lt _ hq).1; omega)
              (repeat (first | with_reducible exact ext_refl _ | with_reducible refine ext_alloc ?_ _ | with_reducible refine ext_set ?_ (by omega) _ | with_reducible refine ext_drew ?_ | with_reducible refine ext_step ?_ (by assumption)))
            have z4 := hX4.lt
            have y4 := hY4.lt
            have cX4 := hX4.cell
            have fX4 := hX4.frozen
            have cY4 := hY4.cell
            have h4o : w4.ownsRow (w2.heap.size + 1) 2 1 (.slice (some ⟨g4, 0, none⟩) (gs.length + 1) cap4) (gs.length + 1) ((gs ++ [b']).map (Value.int .i64)) := by simpa using hown4
            have HO4 := hid h4o
            clear h4o hgr4 hown4 hne4 HX3 HY3 HO3 hXne hYne cX fX

            go_wp2_with fail
            refine (holder_any _ _ _ _ _).mono ?_
            rintro e w5 ⟨rfl, hb5⟩
            obtain ⟨hc5, hf5⟩ := bcell hb5
            have hz5 := hb5.size
            try simp at hz5
            have z5_0 : w2.heap.size < w5.heap.size := by omega
            have z5_1 : w3.heap.size < w5.heap.size := by omega
            have hX5 : Blk w5 w2.heap.size 23 #[.int .i64 a, .int .i64 b', .int .i64 c'] := (((hX4.put 0 _).put 1 _).put 2 _).ext hb5
            have HO5 := hid (own_ext (ownsRow_setCell_below (ownsRow_setCell_below (ownsRow_setCell_below HO4.out (a := ⟨w2.heap.size, 0, none⟩) (Nat.lt_succ_self _) (.int .i64 a)) (a := ⟨w2.heap.size, 1, none⟩) (Nat.lt_succ_self _) (.int .i64 b')) (a := ⟨w2.heap.size, 2, none⟩) (Nat.lt_succ_self _) (.int .i64 c')) hb5)
            have HB5 : Hid (Below w.heap.size w w5) := by show Below _ _ _; (repeat (first | with_reducible exact ext_refl _ | with_reducible refine ext_alloc ?_ _ | with_reducible refine ext_set ?_ (by omega) _ | with_reducible refine ext_drew ?_ | with_reducible refine ext_step ?_ (by assumption)))

            have c5 := hX5.cell
            clear hc5
            go_wp2_with fail
            refine (holds_any _ _ _ _ _ _ _ _ hun').mono ?_
            rintro e w6 ⟨rfl, hb6⟩
            obtain ⟨hc6, hf6⟩ := bcell hb6
            have hz6 := hb6.size
            try simp at hz6
            have z6_0 : w2.heap.size < w6.heap.size := by omega
            have hX6 := hX5.ext hb6
            have c6 := hX6.cell
            go_wp2_with fail
            refine (fence_any _ _ _).mono ?_
            rintro e w7 ⟨rfl, hb7⟩
            obtain ⟨hc7, hf7⟩ := bcell hb7
            have hz7 := hb7.size
            try simp at hz7
            have z7_0 : w2.heap.size < w7.heap.size := by omega
            have hX7 : Blk w7 w2.heap.size 23 #[.int .i64 a, .int .i64 b', .int .i64 c'] := hX6.ext hb7
            have HO7 := hid (own_ext (own_ext HO5.out hb6) hb7)
            have HB7 : Hid (Below w.heap.size w w7) := ext_step (ext_step HB5.out hb6) hb7
            have c7 := hX7.cell
            go_wp2_with fail
            obtain ⟨wo, hwo⟩ : ∃ wo : World, wo = wr := ⟨_, rfl⟩
            clear hwo
            go_loopw [90] (fun jv wi => ∃ j : Nat, j ≤ (gs.length + 1) ∧ jv = .int .i64 j ∧ wi.ownsRow (w2.heap.size + 1) 2 1 (.slice (some ⟨g4, 0, none⟩) (gs.length + 1) cap4) (gs.length + 1) (((gs ++ [b'])).map (Value.int .i64)) ∧ Blk wi w2.heap.size 23 #[.int .i64 a, .int .i64 b', .int .i64 c'] ∧ Below w.heap.size w wi) (fun jv _ => (gs.length + 1) - (intOf jv).toNat)
            case atStart => exact ⟨0, Nat.zero_le _, rfl, HO7.out, hX7, HB7.out⟩
            case round =>
              rename_i wi _
              obtain ⟨j, hj, rfl, hoi, hXi, hBi⟩ := hrel
              by_cases hjl : j < (gs.length + 1)
              · obtain ⟨g0, hg0⟩ : ∃ g0, g0 = g4 := ⟨_, rfl⟩
                subst hg0
                obtain ⟨t, htm, hcj⟩ : ∃ t, t ∈ (gs ++ [b']) ∧ wr.cell? ⟨g0, j, none⟩ = some (.int .i64 t) := by
                  have h1 := hoi.cellAt j (by omega)
                  have h2 : j < ((gs ++ [b'])).length := by first | omega | (simp; omega)
                  rw [List.getElem?_map, List.getElem?_eq_getElem h2] at h1
                  exact ⟨_, List.getElem_mem h2, h1⟩
                have tt := (show 0 ≤ t ∧ t ≤ b' by rcases List.mem_append.1 htm with h | h; (have := HG.out t h; omega); (simp at h; omega))
                have t0 := tt.1
                have t1 : t ≤ b' := by omega
                have Hoi := hid hoi
                have cXi := hXi.cell
                have zXi := hXi.lt
                have HBi := hid hBi
                clear tt hoi hBi
                by_cases htb : t < b'
                · have hfe := fen_old t0 htb
                  go_wp2_with fail
                  refine (fence_any _ _ _).mono ?_
                  rintro e w8 ⟨rfl, hb8⟩
                  obtain ⟨hc8, hf8⟩ := bcell hb8
                  have hz8 := hb8.size
                  try simp at hz8
                  have z8_0 : w2.heap.size < w8.heap.size := by omega
                  have cX8 := (hXi.ext hb8).cell
                  go_wp2_with fail
                  go_roundw
                  case rel => exact ⟨j + 1, by omega, by go_num, own_ext Hoi.out hb8, hXi.ext hb8, ext_step HBi.out hb8⟩
                  case measure => simp [intOf]; omega
                · have hfe := fen_ok (s := b') (t := t) (by omega) (by omega)
                  go_wp2_with fail
                  refine (fence_any _ _ _).mono ?_
                  rintro e w8 ⟨rfl, hb8⟩
                  obtain ⟨hc8, hf8⟩ := bcell hb8
                  have hz8 := hb8.size
                  try simp at hz8
                  have z8_0 : w2.heap.size < w8.heap.size := by omega
                  have cX8 := (hXi.ext hb8).cell
                  go_wp2_with fail
                  go_roundw
                  case rel => exact ⟨j + 1, by omega, by go_num, own_ext Hoi.out hb8, hXi.ext hb8, ext_step HBi.out hb8⟩
                  case measure => simp [intOf]; omega
              · have Hoi := hid hoi
                have HBi := hid hBi
                clear hoi hBi
                go_wp2_with fail
                go_roundw
                case rel =>
                  refine ⟨k + 1, _, _, _, _, _, (gs ++ [b']), (some ⟨g4, 0, none⟩), cap4, by omega, by go_num, rfl, rfl, HK.out, by omega, by omega, (by first | omega | (simp; omega)), ?_, by simp, by simpa using Hoi.out, hXi, HBi.out⟩
                  intro g hg'
                  rcases List.mem_append.1 hg' with h | h
                  · have := HG.out g h; omega
                  · simp at h; omega
                case measure => simp [intOf]; omega
        · by_cases hbt : b' = tk
          · subst hbt
            have hbt' : (b' != b') = false := by simp
            go_wp2_with fail
            refine (do_any _ _ _ _ _ _ _ _ _ _ l3 (by omega) l7 (by omega) u0 u0' u1 u1' u2 u2' u3 u3').mono ?_
            rintro e w3 ⟨rfl, hb3⟩
            obtain ⟨hc3, hf3⟩ := bcell hb3
            have hz3 := hb3.size
            try simp at hz3
            have z3_0 : w2.heap.size < w3.heap.size := by omega
            have z3_1 : wr.heap.size < w3.heap.size := by omega
            have hX3 := (hX.alloc (.cells #[.int .u8 ka, .int .u8 kb, .int .u8 kc, .int .u8 kd, .bool ke] 43)).ext hb3
            have cX3 := hX3.cell
            have fX3 := hX3.frozen

            go_wp2_with fail
            refine (holder_any _ _ _ _ _).mono ?_
            rintro e w5 ⟨rfl, hb5⟩
            obtain ⟨hc5, hf5⟩ := bcell hb5
            have hz5 := hb5.size
            try simp at hz5
            have z5_0 : w2.heap.size < w5.heap.size := by omega
            have z5_1 : w3.heap.size < w5.heap.size := by omega
            have hX5 : Blk w5 w2.heap.size 23 #[.int .i64 a, .int .i64 b', .int .i64 c'] := ((((hX3.put 0 _).put 1 _).put 2 _).alloc _).ext hb5
            have HO5 := hid (own_ext ((ownsRow_setCell_below (ownsRow_setCell_below (ownsRow_setCell_below (own_ext (HO.out.alloc _) hb3) (a := ⟨w2.heap.size, 0, none⟩) (Nat.lt_succ_self _) (.int .i64 a)) (a := ⟨w2.heap.size, 1, none⟩) (Nat.lt_succ_self _) (.int .i64 b')) (a := ⟨w2.heap.size, 2, none⟩) (Nat.lt_succ_self _) (.int .i64 c')).alloc _) hb5)
            have HB5 : Hid (Below w.heap.size w w5) := by show Below _ _ _; (repeat (first | with_reducible exact ext_refl _ | with_reducible refine ext_alloc ?_ _ | with_reducible refine ext_set ?_ (by omega) _ | with_reducible refine ext_drew ?_ | with_reducible refine ext_step ?_ (by assumption)))
            go_wp2_with fail

            go_roundw
            case rel =>
              refine ⟨k + 1, _, _, _, _, _, gs, GA, gc, by omega, by go_num, rfl, rfl, HK.out, s0, by omega, (by first | omega | (simp; omega)), ?_, rfl, HO5.out, hX5, HB5.out⟩
              intro g hg'
              have := HG.out g hg'; omega
            case measure => simp [intOf]; omega
          · have hbt' : (b' != tk) = true := by simpa using hbt
            have Hbt := hid hbt
            clear hbt
            go_wp2_with fail
            refine (do_any _ _ _ _ _ _ _ _ _ _ l3 (by omega) l7 (by omega) u0 u0' u1 u1' u2 u2' u3 u3').mono ?_
            rintro e w3 ⟨rfl, hb3⟩
            obtain ⟨hc3, hf3⟩ := bcell hb3
            have hz3 := hb3.size
            try simp at hz3
            have z3_0 : w2.heap.size < w3.heap.size := by omega
            have z3_1 : wr.heap.size < w3.heap.size := by omega
            have hX3 := (hX.alloc (.cells #[.int .u8 ka, .int .u8 kb, .int .u8 kc, .int .u8 kd, .bool ke] 43)).ext hb3
            have cX3 := hX3.cell
            have fX3 := hX3.frozen

            have hXne : some w2.heap.size ≠ (Value.slice GA gs.length gc).ownBlock := fun e => by have := (HO.out.lt _ e.symm).1; omega
            have hYne : some w3.heap.size ≠ (Value.slice GA gs.length gc).ownBlock := fun e => by have := (HO.out.lt _ e.symm).2; omega
            have HX3 : Hid (Blk ((w3.alloc (.cells #[.int .i64 a, .int .i64 b', .int .i64 c'] 23)).alloc (.cells #[.int .i64 b'] 2)) w2.heap.size 23 #[.int .i64 hd, .int .i64 tk, .int .i64 un]) := by show Blk _ _ _ _; (repeat (first | assumption | (with_reducible refine Blk.new' ?_; simp; done) | with_reducible refine Blk.alloc ?_ _ | with_reducible refine Blk.drew ?_ | with_reducible refine Blk.ext ?_ (by assumption)))
            have HY3 : Hid (Blk ((w3.alloc (.cells #[.int .i64 a, .int .i64 b', .int .i64 c'] 23)).alloc (.cells #[.int .i64 b'] 2)) w3.heap.size 23 #[.int .i64 a, .int .i64 b', .int .i64 c']) := by show Blk _ _ _ _; (repeat (first | assumption | (with_reducible refine Blk.new' ?_; simp; done) | with_reducible refine Blk.alloc ?_ _ | with_reducible refine Blk.drew ?_ | with_reducible refine Blk.ext ?_ (by assumption)))
            have O3 : ((w3.alloc (.cells #[.int .i64 a, .int .i64 b', .int .i64 c'] 23)).alloc (.cells #[.int .i64 b'] 2)).ownsRow (w2.heap.size + 1) 2 1 (.slice GA gs.length gc) gs.length (gs.map (Value.int .i64)) := ((own_ext (HO.out.alloc _) hb3).alloc _).alloc _
            have HO3 := hid O3
            clear O3
            go_wp2_with (at_builtin; refine wpList_append_own _ rfl (.tmp 53) (.tmp 56) 48 rfl (w2.heap.size + 1) 2 i0 (.int .i64 0) 1 8 Try.underlying48 ji jz0 jz1 jz2 rfl (by decide) _ _ _ rfl HO3.out ⟨w3.heap.size + 1, 0, none⟩ 1 1 [.int .i64 b'] rfl rfl ?c1 ?c2 ?c3 ?c4 ?c5 ?_)
            case c1 =>
              intro j u hj
              have hj0 : j = 0 := by have := (List.getElem?_eq_some_iff.1 hj).1; simp at this; omega
              subst hj0
              simp at hj
              subst hj
              simp [Addr.add, go_sem]
            case c2 => simp [Value.oneCell']
            case c3 => simp only [maxLen]; omega
            case c4 => omega
            case c5 => simp; omega
            intro v4 w4 hown4 hgr4 hne4
            obtain ⟨g4, cap4, hv4⟩ : ∃ g cap, v4 = .slice (some ⟨g, 0, none⟩) (gs.length + 1) cap := by
              rcases hown4.2 with ⟨h, _⟩ | ⟨g, cap, _, h, _⟩
              · exact absurd h hne4
              · exact ⟨g, cap, h⟩
            subst hv4
            have hX4 : Blk w4 w2.heap.size 23 #[.int .i64 hd, .int .i64 tk, .int .i64 un] := HX3.out.grown hgr4 hXne
            have hY4 : Blk w4 w3.heap.size 23 #[.int .i64 a, .int .i64 b', .int .i64 c'] := HY3.out.grown hgr4 hYne
            have hB4 : Below w.heap.size w w4 := by
              refine Below.grown (w := (w3.alloc (.cells #[.int .i64 a, .int .i64 b', .int .i64 c'] 23)).alloc (.cells #[.int .i64 b'] 2)) ?_ hgr4 (by simp; omega) (fun q hq => by have := (HO.out.lt _ hq).1; omega)
              (repeat (first | with_reducible exact ext_refl _ | with_reducible refine ext_alloc ?_ _ | with_reducible refine ext_set ?_ (by omega) _ | with_reducible refine ext_drew ?_ | with_reducible refine ext_step ?_ (by assumption)))
            have z4 := hX4.lt
            have y4 := hY4.lt
            have cX4 := hX4.cell
            have fX4 := hX4.frozen
            have cY4 := hY4.cell
            have h4o : w4.ownsRow (w2.heap.size + 1) 2 1 (.slice (some ⟨g4, 0, none⟩) (gs.length + 1) cap4) (gs.length + 1) ((gs ++ [b']).map (Value.int .i64)) := by simpa using hown4
            have HO4 := hid h4o
            clear h4o hgr4 hown4 hne4 HX3 HY3 HO3 hXne hYne cX fX

            go_wp2_with fail
            refine (holder_any _ _ _ _ _).mono ?_
            rintro e w5 ⟨rfl, hb5⟩
            obtain ⟨hc5, hf5⟩ := bcell hb5
            have hz5 := hb5.size
            try simp at hz5
            have z5_0 : w2.heap.size < w5.heap.size := by omega
            have z5_1 : w3.heap.size < w5.heap.size := by omega
            have hX5 : Blk w5 w2.heap.size 23 #[.int .i64 a, .int .i64 b', .int .i64 c'] := (((hX4.put 0 _).put 1 _).put 2 _).ext hb5
            have HO5 := hid (own_ext (ownsRow_setCell_below (ownsRow_setCell_below (ownsRow_setCell_below HO4.out (a := ⟨w2.heap.size, 0, none⟩) (Nat.lt_succ_self _) (.int .i64 a)) (a := ⟨w2.heap.size, 1, none⟩) (Nat.lt_succ_self _) (.int .i64 b')) (a := ⟨w2.heap.size, 2, none⟩) (Nat.lt_succ_self _) (.int .i64 c')) hb5)
            have HB5 : Hid (Below w.heap.size w w5) := by show Below _ _ _; (repeat (first | with_reducible exact ext_refl _ | with_reducible refine ext_alloc ?_ _ | with_reducible refine ext_set ?_ (by omega) _ | with_reducible refine ext_drew ?_ | with_reducible refine ext_step ?_ (by assumption)))
            go_wp2_with fail

            go_roundw
            case rel =>
              refine ⟨k + 1, _, _, _, _, _, (gs ++ [b']), (some ⟨g4, 0, none⟩), cap4, by omega, by go_num, rfl, rfl, HK.out, s0, by omega, (by first | omega | (simp; omega)), ?_, by simp, by simpa using HO5.out, hX5, HB5.out⟩
              intro g hg'
              rcases List.mem_append.1 hg' with h | h
              · have := HG.out g h; omega
              · simp at h; omega
            case measure => simp [intOf]; omega
      · have he1 : (er != 0) = true := by simpa using he
        clear he hun
        go_wp2_with fail
        refine (do_any _ _ _ _ _ _ _ _ _ _ l3 (by omega) l7 (by omega) u0 u0' u1 u1' u2 u2' u3 u3').mono ?_
        rintro e w3 ⟨rfl, hb3⟩
        obtain ⟨hc3, hf3⟩ := bcell hb3
        have hz3 := hb3.size
        try simp at hz3
        have z3_0 : w2.heap.size < w3.heap.size := by omega
        have z3_1 : wr.heap.size < w3.heap.size := by omega
        have hX3 := (hX.alloc (.cells #[.int .u8 ka, .int .u8 kb, .int .u8 kc, .int .u8 kd, .bool ke] 43)).ext hb3
        have cX3 := hX3.cell
        have fX3 := hX3.frozen

        go_wp2_with fail
        go_roundw
        case rel =>
          refine ⟨k + 1, _, _, _, _, _, gs, GA, gc, by omega, by go_num, rfl, rfl, HK.out, s0, s1, by omega, HG.out, rfl, (own_ext (HO.out.alloc _) hb3).alloc _, ?_, ?_⟩
          · (repeat (first | assumption | (with_reducible refine Blk.new' ?_; simp; done) | with_reducible refine Blk.alloc ?_ _ | with_reducible refine Blk.drew ?_ | with_reducible refine Blk.ext ?_ (by assumption)))
          · (repeat (first | with_reducible exact ext_refl _ | with_reducible refine ext_alloc ?_ _ | with_reducible refine ext_set ?_ (by omega) _ | with_reducible refine ext_drew ?_ | with_reducible refine ext_step ?_ (by assumption)))
        case measure => simp [intOf]; omega
    · go_wp2
      go_ret
      exact ⟨rfl, hB⟩
theorem leaseFenced_long (A : Option Addr) (n c : Nat) (w : World) (hn : 40 < n) (hm : n ≤ 9223372036854775807) :
    Calls Try.prog 9 #[.slice A n c] w fun e w' => e = .returned (.bool true) ∧ Below w.heap.size w w' := by
  go_enter Try.func9, Try.ntmps9
  go_wp2_with fail
  refine (awake_any _).mono ?_
  rintro e w1 ⟨rfl, hb1⟩
  obtain ⟨hc1, hf1⟩ := bcell hb1
  have hz1 := hb1.size
  try simp at hz1
  go_wp2_with fail
  refine (awake_any _).mono ?_
  rintro e w2 ⟨rfl, hb2⟩
  obtain ⟨hc2, hf2⟩ := bcell hb2
  have hz2 := hb2.size
  try simp at hz2
  go_wp2
  go_ret
  refine ⟨rfl, ?_⟩
  (repeat (first | with_reducible exact ext_refl _ | with_reducible refine ext_alloc ?_ _ | with_reducible refine ext_set ?_ (by omega) _ | with_reducible refine ext_drew ?_ | with_reducible refine ext_step ?_ (by assumption)))
end Go.Proofs.Ytgegkemoefcdnaa
