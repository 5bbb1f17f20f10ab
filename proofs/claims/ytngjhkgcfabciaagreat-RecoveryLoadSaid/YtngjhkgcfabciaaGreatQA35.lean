/- Rules of runs and contracts of functions, for the claims of one seat. -/
import Derived.Test.YtngjhkgcfabciaaGreatQA27
import Derived.Test.YtngjhkgcfabciaaGreatQA34
namespace Go.Proofs.YtngjhkgcfabciaaGreat
open Go Go.RowKit
set_option linter.unusedSimpArgs false
set_option linter.unusedVariables false
theorem byteN_at {s : ByteArray} {i : Nat} (h : i < s.size) : byteN s i = ((s[i]'h).toNat : Int) := by
 unfold byteN
 have h' : i < s.data.size := h
 rw [Array.getD_eq_getD_getElem?, Array.getElem?_eq_getElem h']
 rfl
theorem byteN_ext {x y : ByteArray} (h : x.size = y.size) (hb : ∀ i, i < x.size → byteN x i = byteN y i) : x = y := by
 apply ByteArray.ext
 apply Array.ext
 ·exact h
 ·intro i h1 h2
  have := hb i h1
  rw [byteN_at (s := x) h1, byteN_at (s := y) h2] at this
  apply UInt8.toNat_inj.1
  have h3 : (x[i]'h1).toNat = (y[i]'h2).toNat := by omega
  exact h3
theorem nums_size (l : List Int) : (strOfNums l).size = l.length := strOfNums_size l
theorem byteN_nums {l : List Int} {i : Nat} (hi : i < l.length) (h : 0 ≤ l.getD i 0 ∧ l.getD i 0 < 256) : byteN (strOfNums l) i = l.getD i 0 := by
 have hs : i < (strOfNums l).size := by rw [nums_size]; exact hi
 unfold byteN
 have e : (strOfNums l).data.getD i 0 = UInt8.ofNat (l.getD i 0).toNat := by
  have h1 : (strOfNums l).data = (l.map fun n => UInt8.ofNat n.toNat).toArray := rfl
  rw [h1, Array.getD_eq_getD_getElem?, List.getElem?_toArray, List.getElem?_map, List.getElem?_eq_getElem hi, List.getD_eq_getElem?_getD, List.getElem?_eq_getElem hi]
  rfl
 rw [e, UInt8.toNat_ofNat']
 omega
theorem ext_size {s : ByteArray} {a b : Nat} (h : a ≤ b ∧ b ≤ s.size) : (s.extract a b).size = b - a := by
 rw [ByteArray.size_extract]; omega
theorem byteN_ex {s : ByteArray} {a b i : Nat} (h : a ≤ b ∧ b ≤ s.size) (hi : i < b - a) : byteN (s.extract a b) i = byteN s (a + i) := by
 have h1 : i < (s.extract a b).size := by rw [ext_size h]; exact hi
 rw [byteN_at h1, byteN_at (s := s) (i := a + i) (by omega)]
 rw [ByteArray.getElem_extract]
theorem be4_eq {s : ByteArray} {k : Nat} {c : Int} (hc : 0 ≤ c ∧ c < 4294967296) (hk : k + 4 ≤ s.size) : (strOfNums (be4 c) = s.extract k (k + 4)) ↔ c = rd4 s k := by
 have b0 := byteN_rng s k
 have b1 := byteN_rng s (k + 1)
 have b2 := byteN_rng s (k + 2)
 have b3 := byteN_rng s (k + 3)
 have p24 : (2 : Int) ^ 24 = 16777216 := by decide
 have p16 : (2 : Int) ^ 16 = 65536 := by decide
 have p8 : (2 : Int) ^ 8 = 256 := by decide
 have g : ∀ i, i < 4 → byteN (strOfNums (be4 c)) i = (be4 c).getD i 0 := fun i hi => byteN_nums hi (by
  have : i = 0 ∨ i = 1 ∨ i = 2 ∨ i = 3 := by omega
  rcases this with rfl | rfl | rfl | rfl
  ·show 0 ≤ c / 2 ^ 24 % 256 ∧ c / 2 ^ 24 % 256 < 256; omega
  ·show 0 ≤ c / 2 ^ 16 % 256 ∧ c / 2 ^ 16 % 256 < 256; omega
  ·show 0 ≤ c / 2 ^ 8 % 256 ∧ c / 2 ^ 8 % 256 < 256; omega
  ·show 0 ≤ c % 256 ∧ c % 256 < 256; omega)
 have g0 : byteN (strOfNums (be4 c)) 0 = c / 2 ^ 24 % 256 := g 0 (by decide)
 have g1 : byteN (strOfNums (be4 c)) 1 = c / 2 ^ 16 % 256 := g 1 (by decide)
 have g2 : byteN (strOfNums (be4 c)) 2 = c / 2 ^ 8 % 256 := g 2 (by decide)
 have g3 : byteN (strOfNums (be4 c)) 3 = c % 256 := g 3 (by decide)
 rw [p24] at g0; rw [p16] at g1; rw [p8] at g2
 have e : ∀ i, i < 4 → byteN (s.extract k (k + 4)) i = byteN s (k + i) := fun i hi => byteN_ex ⟨by omega, hk⟩ (by omega)
 unfold rd4
 constructor
 ·intro h
  have h0 := e 0 (by decide); have h1 := e 1 (by decide); have h2 := e 2 (by decide); have h3 := e 3 (by decide)
  rw [← h] at h0 h1 h2 h3
  rw [Nat.add_zero] at h0
  omega
 ·intro h
  refine byteN_ext (by rw [nums_size, ext_size ⟨by omega, hk⟩]; show 4 = _; omega) fun i hi => ?_
  rw [nums_size] at hi
  have hi' : i < 4 := hi
  rw [e i hi']
  have : i = 0 ∨ i = 1 ∨ i = 2 ∨ i = 3 := by omega
  rcases this with rfl | rfl | rfl | rfl
  ·rw [g0, Nat.add_zero]; omega
  ·rw [g1]; omega
  ·rw [g2]; omega
  ·rw [g3]; omega
def unframeP (s : ByteArray) : ByteArray × Int × Int :=
 if (getP s).2.2 = 7 ∨ ((getP s).2.2 = 0 ∧ 65535 < (getP s).1) then (⟨#[]⟩, 0, 3)
 else if ¬ (getP s).2.2 = 0 then (⟨#[]⟩, 0, (getP s).2.2)
 else if (s.size : Int) < (getP s).2.1 + 4 + (getP s).1 then (⟨#[]⟩, 0, 10)
 else if ¬ rd4 s (getP s).2.1.toNat = extP 0 (s.extract ((getP s).2.1 + 4).toNat ((getP s).2.1 + 4 + (getP s).1).toNat) then (⟨#[]⟩, 0, 17)
 else (s.extract ((getP s).2.1 + 4).toNat ((getP s).2.1 + 4 + (getP s).1).toNat, (getP s).2.1 + 4 + (getP s).1, 0)
theorem unframe_rng {s : ByteArray} (h : (unframeP s).2.2 = 0) : 5 ≤ (unframeP s).2.1 ∧ (unframeP s).2.1 ≤ s.size ∧ ((unframeP s).1.size : Int) ≤ (unframeP s).2.1 := by
 unfold unframeP at h ⊢
 split at h
 ·cases h
 ·rename_i h1
  split at h
  ·rename_i h2; exact absurd h h2
  ·rename_i h2
   split at h
   ·cases h
   ·rename_i h3
    split at h
    ·cases h
    ·rename_i h4
     rw [if_neg h1, if_neg h2, if_neg h3, if_neg h4]
     have hg := getP_rng (s := s) (by simpa using h2)
     refine ⟨by dsimp only; omega, by dsimp only; omega, ?_⟩
     show ((s.extract ((getP s).2.1 + 4).toNat ((getP s).2.1 + 4 + (getP s).1).toNat).size : Int) ≤ (getP s).2.1 + 4 + (getP s).1
     rw [ext_size (by omega)]
     omega
theorem uf_range {s : ByteArray} (h : (getP s).2.2 = 7 ∨ ((getP s).2.2 = 0 ∧ 65535 < (getP s).1)) : unframeP s = (⟨#[]⟩, 0, 3) := by
 unfold unframeP; rw [if_pos h]
theorem uf_err {s : ByteArray} (h : ¬ (getP s).2.2 = 7) (h0 : ¬ (getP s).2.2 = 0) : unframeP s = (⟨#[]⟩, 0, (getP s).2.2) := by
 unfold unframeP; rw [if_neg (by omega), if_pos h0]
theorem uf_short {s : ByteArray} (h0 : (getP s).2.2 = 0) (h1 : ¬ 65535 < (getP s).1) (h2 : (s.size : Int) < (getP s).2.1 + 4 + (getP s).1) : unframeP s = (⟨#[]⟩, 0, 10) := by
 unfold unframeP; rw [if_neg (by omega), if_neg (by omega), if_pos h2]
theorem uf_torn {s : ByteArray} (h0 : (getP s).2.2 = 0) (h1 : ¬ 65535 < (getP s).1) (h2 : ¬ (s.size : Int) < (getP s).2.1 + 4 + (getP s).1) (h3 : ¬ rd4 s (getP s).2.1.toNat = extP 0 (s.extract ((getP s).2.1 + 4).toNat ((getP s).2.1 + 4 + (getP s).1).toNat)) : unframeP s = (⟨#[]⟩, 0, 17) := by
 unfold unframeP; rw [if_neg (by omega), if_neg (by omega), if_neg h2, if_pos h3]
theorem uf_ok {s : ByteArray} (h0 : (getP s).2.2 = 0) (h1 : ¬ 65535 < (getP s).1) (h2 : ¬ (s.size : Int) < (getP s).2.1 + 4 + (getP s).1) (h3 : rd4 s (getP s).2.1.toNat = extP 0 (s.extract ((getP s).2.1 + 4).toNat ((getP s).2.1 + 4 + (getP s).1).toNat)) : unframeP s = (s.extract ((getP s).2.1 + 4).toNat ((getP s).2.1 + 4 + (getP s).1).toNat, (getP s).2.1 + 4 + (getP s).1, 0) := by
 unfold unframeP; rw [if_neg (by omega), if_neg (by omega), if_neg h2, if_neg (by simpa using h3)]
theorem be4_eqI {s : ByteArray} {k c : Int} (hc : 0 ≤ c ∧ c < 4294967296) (h0 : 0 ≤ k) (hk : k + 4 ≤ s.size) : (strOfNums (be4 c) = s.extract k.toNat (k + 4).toNat) ↔ rd4 s k.toNat = c := by
 rw [show (k + 4).toNat = k.toNat + 4 by omega, be4_eq hc (by omega)]
 exact eq_comm
theorem or_rdI (s : ByteArray) {k : Int} (h0 : 0 ≤ k) : bits .or .u32 (bits .or .u32 (bits .or .u32 (IntKind.u32.wrap (byteN s k.toNat * 2 ^ 24)) (IntKind.u32.wrap (byteN s (k + 1).toNat * 2 ^ 16))) (IntKind.u32.wrap (byteN s (k + 2).toNat * 2 ^ 8))) (byteN s (k + 3).toNat) = rd4 s k.toNat := by
 rw [show (k + 1).toNat = k.toNat + 1 by omega, show (k + 2).toNat = k.toNat + 2 by omega, show (k + 3).toNat = k.toNat + 3 by omega]
 exact or_rd4 s k.toNat
def restS (s : ByteArray) : Nat → ByteArray
 | 0 => s
 | i + 1 => (restS s i).extract (getP (restS s i)).2.1.toNat (restS s i).size
def okS (s : ByteArray) (i : Nat) : Prop := (getP (restS s i)).2.2 = 0 ∧ (getP (restS s i)).1 ≤ 9223372036854775807
instance (s : ByteArray) (i : Nat) : Decidable (okS s i) := by unfold okS; infer_instance
def parseP (s : ByteArray) : EntD × Int := if okS s 0 ∧ okS s 1 ∧ okS s 2 then (⟨(getP (restS s 0)).1, (getP (restS s 1)).1, (getP (restS s 2)).1, restS s 3⟩, 0) else (⟨0, 0, 0, ⟨#[]⟩⟩, 2)
theorem parse_no {s : ByteArray} {i : Nat} (hi : i < 3) (h : ¬ okS s i) : parseP s = (⟨0, 0, 0, ⟨#[]⟩⟩, 2) := by
 unfold parseP
 rw [if_neg]
 intro hh
 have : i = 0 ∨ i = 1 ∨ i = 2 := by omega
 rcases this with rfl | rfl | rfl
 ·exact h hh.1
 ·exact h hh.2.1
 ·exact h hh.2.2
theorem parse_yes {s : ByteArray} (h : ∀ i, i < 3 → okS s i) : parseP s = (⟨(getP (restS s 0)).1, (getP (restS s 1)).1, (getP (restS s 2)).1, restS s 3⟩, 0) := by
 unfold parseP
 rw [if_pos ⟨h 0 (by decide), h 1 (by decide), h 2 (by decide)⟩]
def numQ (g : Nat → Int × Int × Int) (i j : Nat) : Int := if j < i then (g j).1 else 0
theorem numQ_y {g : Nat → Int × Int × Int} {i j : Nat} (h : j < i) : numQ g i j = (g j).1 := if_pos h
def okG (g : Nat → Int × Int × Int) (i : Nat) : Prop := (g i).2.2 = 0 ∧ (g i).1 ≤ 9223372036854775807
theorem okG_step {g : Nat → Int × Int × Int} {i : Nat} (h : ∀ j, j < i → okG g j) (h1 : (g i).2.2 = 0) (h2 : (g i).1 ≤ 9223372036854775807) : ∀ j, j < i + 1 → okG g j := fun j hj => by
 rcases Nat.lt_or_eq_of_le (Nat.le_of_lt_succ hj) with e | e
 ·exact h j e
 ·subst e; exact ⟨h1, h2⟩
theorem parse_gen (s : ByteArray) : ∃ (r : Nat → ByteArray) (g : Nat → Int × Int × Int), (∀ j, g j = getP (r j)) ∧ s = r 0 ∧ (∀ i, (r i).extract (g i).2.1.toNat (r i).size = r (i + 1)) ∧ (∀ i, i < 3 → ¬ okG g i → parseP s = (⟨0, 0, 0, ⟨#[]⟩⟩, 2)) ∧ ((∀ i, i < 3 → okG g i) → parseP s = (⟨(g 0).1, (g 1).1, (g 2).1, r 3⟩, 0)) :=
 ⟨restS s, fun j => getP (restS s j), fun _ => rfl, rfl, fun _ => rfl, fun i hi h => parse_no hi h, fun h => parse_yes h⟩
def readL (s : ByteArray) : Nat → Nat → List EntD × Int × Int
 | 0, a => ([], (a : Int), 0)
 | f + 1, a =>
  if s.size ≤ a then ([], (a : Int), 0)
  else if ¬ (unframeP (s.extract a s.size)).2.2 = 0 then ([], (a : Int), 17)
  else if ¬ (parseP (unframeP (s.extract a s.size)).1).2 = 0 then ([], (a : Int), 17)
  else ((parseP (unframeP (s.extract a s.size)).1).1 :: (readL s f (a + (unframeP (s.extract a s.size)).2.1.toNat)).1, (readL s f (a + (unframeP (s.extract a s.size)).2.1.toNat)).2)
def readP (s : ByteArray) : List EntD × Int × Int := readL s s.size 0
structure ReadK (s : ByteArray) (y : Nat × Nat × List EntD) : Prop where
 k : y.1 ≤ y.2.1
 a : y.2.1 ≤ s.size
 n : y.2.2.length = y.1
 q : (y.2.2 ++ (readL s (s.size - y.1) y.2.1).1, (readL s (s.size - y.1) y.2.1).2) = readP s
def readN (s : ByteArray) (y : Nat × Nat × List EntD) : Nat × Nat × List EntD := (y.1 + 1, y.2.1 + (unframeP (s.extract y.2.1 s.size)).2.1.toNat, y.2.2 ++ [(parseP (unframeP (s.extract y.2.1 s.size)).1).1])
theorem readK_0 (s : ByteArray) : ReadK s (0, 0, []) := ⟨Nat.le_refl _, Nat.zero_le _, rfl, rfl⟩
theorem readK_end {s : ByteArray} {y : Nat × Nat × List EntD} (h : ReadK s y) (he : s.size ≤ y.2.1) : readP s = (y.2.2, (y.2.1 : Int), 0) := by
 rw [← h.q]
 cases hf : s.size - y.1 with
 | zero => simp [readL]
 | succ f => unfold readL; rw [if_pos he]; simp
theorem readL_at {s : ByteArray} {y : Nat × Nat × List EntD} (h : ReadK s y) (he : y.2.1 < s.size) : s.size - y.1 = (s.size - (y.1 + 1)) + 1 := by have := h.k; omega
theorem readK_bad {s : ByteArray} {y : Nat × Nat × List EntD} (h : ReadK s y) (he : y.2.1 < s.size) (hb : ¬ (unframeP (s.extract y.2.1 s.size)).2.2 = 0) : readP s = (y.2.2, (y.2.1 : Int), 17) := by
 rw [← h.q, readL_at h he]
 unfold readL
 rw [if_neg (by omega), if_pos hb]; simp
theorem readK_torn {s : ByteArray} {y : Nat × Nat × List EntD} (h : ReadK s y) (he : y.2.1 < s.size) (hb : (unframeP (s.extract y.2.1 s.size)).2.2 = 0) (hp : ¬ (parseP (unframeP (s.extract y.2.1 s.size)).1).2 = 0) : readP s = (y.2.2, (y.2.1 : Int), 17) := by
 rw [← h.q, readL_at h he]
 unfold readL
 rw [if_neg (by omega), if_neg (by simpa using hb), if_pos hp]; simp
theorem readK_next {s : ByteArray} {y : Nat × Nat × List EntD} (h : ReadK s y) (he : y.2.1 < s.size) (hb : (unframeP (s.extract y.2.1 s.size)).2.2 = 0) (hp : (parseP (unframeP (s.extract y.2.1 s.size)).1).2 = 0) : ReadK s (readN s y) := by
 have hr := unframe_rng hb
 rw [ext_size ⟨h.a, Nat.le_refl _⟩] at hr
 have hk := h.k
 have ha := h.a
 have hn := h.n
 refine ⟨?_, ?_, ?_, ?_⟩
 ·show y.1 + 1 ≤ y.2.1 + (unframeP (s.extract y.2.1 s.size)).2.1.toNat; omega
 ·show y.2.1 + (unframeP (s.extract y.2.1 s.size)).2.1.toNat ≤ s.size; omega
 ·show (y.2.2 ++ [_]).length = y.1 + 1; rw [List.length_append, hn]; rfl
 ·have hq := h.q
  rw [readL_at h he] at hq
  unfold readL at hq
  rw [if_neg (by omega), if_neg (by simpa using hb), if_neg (by simpa using hp)] at hq
  rw [← hq]
  show ((y.2.2 ++ [_]) ++ _, _) = (y.2.2 ++ _ :: _, _)
  rw [List.append_assoc, List.singleton_append]
  rfl
theorem read_few {s : ByteArray} : ∀ f a : Nat, (readL s f a).1.length ≤ (s.size - a) / 5 + 0 ∨ s.size ≤ a
 | 0, a => .inl (by simp [readL])
 | f + 1, a => by
  unfold readL
  split
  ·rename_i h; exact .inr h
  ·rename_i h1
   left
   split
   ·simp
   ·rename_i h2
    split
    ·simp
    ·rename_i h3
     have hr := unframe_rng (s := s.extract a s.size) (by simpa using h2)
     rw [ext_size ⟨by omega, Nat.le_refl _⟩] at hr
     rw [List.length_cons]
     rcases read_few (s := s) f (a + (unframeP (s.extract a s.size)).2.1.toNat) with g | g
     ·omega
     ·have : (readL s f (a + (unframeP (s.extract a s.size)).2.1.toNat)).1.length = 0 := by
        cases f with
        | zero => rfl
        | succ f => unfold readL; rw [if_pos g]; rfl
      omega
theorem readP_few (s : ByteArray) : (readP s).1.length ≤ s.size / 5 := by
 unfold readP
 rcases read_few (s := s) s.size 0 with g | g
 ·omega
 ·obtain h : s.size = 0 := by omega
  rw [h]
  simp [readL]
def putF : Nat → Int → List Int
 | 0, n => [n]
 | f + 1, n => if n < 128 then [n] else (n % 128 + 128) :: putF f (n / 128)
def putL (n : Int) : List Int := putF 9 n
theorem putF_len : ∀ (f : Nat) (n : Int), (putF f n).length ≤ f + 1
 | 0, n => Nat.le_refl _
 | f + 1, n => by
  unfold putF
  split
  ·show 1 ≤ _; omega
  ·have := putF_len f (n / 128); rw [List.length_cons]; omega
theorem putL_len (n : Int) : (putL n).length ≤ 10 := putF_len 9 n
structure PutK (n0 : Int) (y : Nat × Int × List Int) : Prop where
 j : y.1 ≤ 9
 n : 0 ≤ y.2.1 ∧ y.2.1 < 128 ^ (10 - y.1)
 b : y.2.1 < 18446744073709551616
 l : y.2.2.length = y.1
 q : y.2.2 ++ putF (9 - y.1) y.2.1 = putL n0
def putN (y : Nat × Int × List Int) : Nat × Int × List Int := (y.1 + 1, y.2.1 / 128, y.2.2 ++ [y.2.1 % 128 + 128])
theorem putK_0 {n : Int} (h : 0 ≤ n ∧ n < 18446744073709551616) : PutK n (0, n, []) := by
 refine ⟨Nat.zero_le 9, ⟨h.1, ?_⟩, h.2, rfl, rfl⟩
 have e : (128 : Int) ^ (10 - 0) = 1180591620717411303424 := by decide
 show n < 128 ^ (10 - 0)
 rw [e]; omega
theorem putK_next {n0 : Int} {y : Nat × Int × List Int} (h : PutK n0 y) (hn : 128 ≤ y.2.1) : PutK n0 (putN y) := by
 have hj := h.j
 have h1 := h.n
 have h8 : y.1 ≤ 8 := by
  by_cases e : y.1 = 9
  ·rw [e] at h1
   have e2 : (128 : Int) ^ (10 - 9) = 128 := by decide
   rw [e2] at h1; omega
  ·omega
 have hb := h.b
 refine ⟨?_, ?_, ?_, ?_, ?_⟩
 ·show y.1 + 1 ≤ 9; omega
 ·show 0 ≤ y.2.1 / 128 ∧ y.2.1 / 128 < 128 ^ (10 - (y.1 + 1))
  have e : (128 : Int) ^ (10 - y.1) = 128 ^ (10 - (y.1 + 1)) * 128 := by rw [show 10 - y.1 = (10 - (y.1 + 1)) + 1 by omega, Int.pow_succ]
  rw [e] at h1
  omega
 ·show y.2.1 / 128 < _; omega
 ·show (y.2.2 ++ [_]).length = y.1 + 1; rw [List.length_append, h.l]; rfl
 ·have hq := h.q
  rw [show 9 - y.1 = (9 - (y.1 + 1)) + 1 by omega] at hq
  unfold putF at hq
  rw [if_neg (by omega)] at hq
  rw [← hq]
  show (y.2.2 ++ [_]) ++ _ = _
  rw [List.append_assoc]; rfl
theorem putK_end {n0 : Int} {y : Nat × Int × List Int} (h : PutK n0 y) (hn : y.2.1 < 128) : y.2.2 ++ [y.2.1] = putL n0 := by
 rw [← h.q]
 cases 9 - y.1 with
 | zero => rfl
 | succ f => unfold putF; rw [if_pos hn]
def validE (x : EntD) : Prop := 0 ≤ x.kind ∧ 0 ≤ x.token ∧ 0 ≤ x.idx
instance (x : EntD) : Decidable (validE x) := by unfold validE; infer_instance
def fmtP (x : EntD) : ByteArray := if validE x then strOfNums (putL x.kind) ++ strOfNums (putL x.token) ++ strOfNums (putL x.idx) ++ x.data else ⟨#[]⟩
def frameP (s : ByteArray) : ByteArray × Int := if 65535 < s.size then (⟨#[]⟩, 3) else (strOfNums (putL s.size) ++ strOfNums (be4 (extP 0 s)) ++ s, 0)
def appP (log : ByteArray) (x : EntD) : ByteArray × Int := if ¬ validE x then (⟨#[]⟩, 1) else if ¬ (frameP (fmtP x)).2 = 0 then (⟨#[]⟩, (frameP (fmtP x)).2) else (log ++ (frameP (fmtP x)).1, 0)
theorem fmt_size {x : EntD} (h : x.data.size = 0) : (fmtP x).size ≤ 30 := by
 unfold fmtP
 split
 ·rw [ByteArray.size_append, ByteArray.size_append, ByteArray.size_append, nums_size, nums_size, nums_size]
  have := putL_len x.kind; have := putL_len x.token; have := putL_len x.idx
  omega
 ·show 0 ≤ 30; omega
theorem frame_size {s : ByteArray} : (frameP s).1.size ≤ s.size + 14 := by
 unfold frameP
 split
 ·show 0 ≤ _; omega
 ·show (strOfNums (putL s.size) ++ strOfNums (be4 (extP 0 s)) ++ s).size ≤ _
  rw [ByteArray.size_append, ByteArray.size_append, nums_size, nums_size]
  have := putL_len s.size
  have : (be4 (extP 0 s)).length = 4 := rfl
  omega
def logA (l : List EntD) : Nat → ByteArray × List Int
 | 0 => (⟨#[]⟩, [0])
 | k + 1 => if (appP (logA l k).1 (l.getD k nilE)).2 = 0 then ((appP (logA l k).1 (l.getD k nilE)).1, (logA l k).2 ++ [((appP (logA l k).1 (l.getD k nilE)).1.size : Int)]) else logA l k
theorem app_size {log : ByteArray} {x : EntD} (h : x.data.size = 0) : (appP log x).1.size ≤ log.size + 44 := by
 unfold appP
 split
 ·show 0 ≤ _; omega
 ·split
  ·show 0 ≤ _; omega
  ·show (log ++ (frameP (fmtP x)).1).size ≤ _
   rw [ByteArray.size_append]
   have := frame_size (s := fmtP x)
   have := fmt_size h
   omega
theorem logA_size {l : List EntD} (h : ∀ k, (l.getD k nilE).data.size = 0) : ∀ k, (logA l k).1.size ≤ 44 * k ∧ (logA l k).2.length ≤ k + 1
 | 0 => ⟨by show 0 ≤ _; omega, Nat.le_refl _⟩
 | k + 1 => by
  have ih := logA_size h k
  have ha := app_size (log := (logA l k).1) (h k)
  unfold logA
  split
  ·refine ⟨by dsimp only; omega, ?_⟩
   show ((logA l k).2 ++ [_]).length ≤ _
   rw [List.length_append]; show _ + 1 ≤ _; omega
  ·omega
def loadP (p : Prob) (rs : List Int) (l : List StepD) (s : ByteArray) : CtlD × Int × Int :=
 if ¬ (replayP p rs l (readP s).1).2 = 0 then (nilCtl, 0, (replayP p rs l (readP s).1).2) else ((replayP p rs l (readP s).1).1, (readP s).2.1, 0)
end Go.Proofs.YtngjhkgcfabciaaGreat

