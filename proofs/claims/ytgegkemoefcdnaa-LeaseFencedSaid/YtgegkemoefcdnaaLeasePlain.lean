/-
  The functions of the package lease as functions of integers, and facts about them; no program in sight.
-/
import Derived.Test.YtgegkemoefcdnaaKit
namespace Go.Proofs.Ytgegkemoefcdnaa
open Go.RowKit
set_option linter.unusedSimpArgs false
set_option linter.unusedVariables false
abbrev lv (hd tk un : Int) : Value := .agg #[.int .i64 hd, .int .i64 tk, .int .i64 un]
def validB (hd tk un : Int) : Bool := decide (-1 ≤ hd ∧ 0 ≤ tk ∧ 0 ≤ un)
def heldB (hd un now : Int) : Bool := decide (0 ≤ hd ∧ 0 ≤ now ∧ now < un)
def ownsB (hd tk un who token now : Int) : Bool := decide ((0 ≤ hd ∧ 0 ≤ now ∧ now < un) ∧ hd = who ∧ tk = token)
def chk (hd tk un who token now ttl : Int) : Int :=
  if ¬(-1 ≤ hd ∧ 0 ≤ tk ∧ 0 ≤ un) then 1 else if who < 0 ∨ token < 0 ∨ now < 0 ∨ ttl < 1 ∨ now > 9223372036854775807 - ttl then 7 else 0
def acq (hd tk un who now ttl : Int) : Int × Int × Int × Int :=
  if chk hd tk un who 0 now ttl ≠ 0 then (0, 0, 0, chk hd tk un who 0 now ttl)
  else if heldB hd un now = false ∧ tk = 9223372036854775807 then (0, 0, 0, 7)
  else if heldB hd un now = false then (who, tk + 1, now + ttl, 0)
  else if hd ≠ who then (0, 0, 0, 11) else (hd, tk, max un (now + ttl), 0)
def ren (hd tk un who token now ttl : Int) : Int × Int × Int × Int :=
  if chk hd tk un who token now ttl ≠ 0 then (0, 0, 0, chk hd tk un who token now ttl)
  else if ownsB hd tk un who token now = false then (0, 0, 0, 11) else (hd, tk, max un (now + ttl), 0)
def rel (hd tk un who token now : Int) : Int × Int × Int × Int :=
  if ¬(-1 ≤ hd ∧ 0 ≤ tk ∧ 0 ≤ un) then (0, 0, 0, 1)
  else if who < 0 ∨ token < 0 ∨ now < 0 then (0, 0, 0, 7)
  else if ownsB hd tk un who token now = false then (0, 0, 0, 11) else (-1, tk, 0, 0)
def holdsB (hd tk un who token now margin : Int) : Bool :=
  decide ((-1 ≤ hd ∧ 0 ≤ tk ∧ 0 ≤ un) ∧ 0 ≤ margin ∧ ((0 ≤ hd ∧ 0 ≤ now ∧ now < un) ∧ hd = who ∧ tk = token) ∧ margin < un - now)
def fen (seen token : Int) : Int × Int := if seen < 0 ∨ token < 0 then (0, 7) else if token < seen then (0, 16) else (token, 0)
def holderI (hd tk un now : Int) : Int := if (-1 ≤ hd ∧ 0 ≤ tk ∧ 0 ≤ un) ∧ (0 ≤ hd ∧ 0 ≤ now ∧ now < un) then hd else -1

theorem ret_l {a b c e : Int} {x : Int × Int × Int × Int} (h : x = (a, b, c, e)) :
    Ending.returned (.tuple #[.agg #[.int .i64 a, .int .i64 b, .int .i64 c], .int .i64 e]) = .returned (.tuple #[lv x.1 x.2.1 x.2.2.1, .int .i64 x.2.2.2]) := by subst h; rfl
theorem ret_2 {a e : Int} {x : Int × Int} (h : x = (a, e)) : Ending.returned (.tuple #[.int .i64 a, .int .i64 e]) = .returned (.tuple #[.int .i64 x.1, .int .i64 x.2]) := by subst h; rfl

section
variable {hd tk un who token now ttl margin : Int}
theorem chk_ok (h : chk hd tk un who token now ttl = 0) : (-1 ≤ hd ∧ 0 ≤ tk ∧ 0 ≤ un) ∧ 0 ≤ who ∧ 0 ≤ token ∧ 0 ≤ now ∧ 1 ≤ ttl ∧ now ≤ 9223372036854775807 - ttl := by
  unfold chk at h; split at h <;> simp at h; omega
theorem bne_t {a : Int} (h : (a != 0) = true) : a ≠ 0 := by simpa using h
theorem bne_f {a : Int} (h : (a != 0) = false) : a = 0 := by simpa using h

theorem acq_1 (h : (chk hd tk un who 0 now ttl != 0) = true) : acq hd tk un who now ttl = (0, 0, 0, chk hd tk un who 0 now ttl) := by
  unfold acq; rw [if_pos (bne_t h)]
theorem acq_2 (h : (chk hd tk un who 0 now ttl != 0) = false) (h2 : heldB hd un now = true) (h3 : (hd != who) = true) : acq hd tk un who now ttl = (0, 0, 0, 11) := by
  unfold acq; rw [if_neg (by simp [bne_f h]), if_neg (by simp [h2]), if_neg (by simp [h2]), if_pos (by simpa using h3)]
theorem acq_3 (h : (chk hd tk un who 0 now ttl != 0) = false) (h2 : heldB hd un now = true) (h3 : (hd != who) = false) : acq hd tk un who now ttl = (hd, tk, max un (wrap64 (now + ttl)), 0) := by
  obtain ⟨_, _, _, _, _, _⟩ := chk_ok (bne_f h)
  unfold acq; rw [if_neg (by simp [bne_f h]), if_neg (by simp [h2]), if_neg (by simp [h2]), if_neg (by simpa using h3), wrap64_of (by omega) (by omega)]
theorem acq_4 (h : (chk hd tk un who 0 now ttl != 0) = false) (h2 : ¬ heldB hd un now = true) (h3 : (tk == 9223372036854775807) = true) : acq hd tk un who now ttl = (0, 0, 0, 7) := by
  unfold acq; rw [if_neg (by simp [bne_f h]), if_pos ⟨by simpa using h2, by simpa using h3⟩]
theorem acq_5 (h : (chk hd tk un who 0 now ttl != 0) = false) (h2 : ¬ heldB hd un now = true) (h3 : (tk == 9223372036854775807) = false) (ht : I64 tk) : acq hd tk un who now ttl = (who, wrap64 (tk + 1), wrap64 (now + ttl), 0) := by
  obtain ⟨_, _, _, _, _, _⟩ := chk_ok (bne_f h)
  obtain ⟨_, _⟩ := ht
  have h4 : tk ≠ 9223372036854775807 := by simpa using h3
  unfold acq; rw [if_neg (by simp [bne_f h]), if_neg (by simp [h4]), if_pos (by simpa using h2), wrap64_of (by omega) (by omega), wrap64_of (by omega) (by omega)]

theorem held_of (h : (chk hd tk un who token now ttl != 0) = false) (h2 : ¬ holderI hd tk un now < 0) : heldB hd un now = true := by
  unfold holderI at h2; split at h2 <;> simp_all [heldB]
theorem held_not (h : (chk hd tk un who token now ttl != 0) = false) (h2 : holderI hd tk un now < 0) : ¬ heldB hd un now = true := by
  obtain ⟨_, _, _, _, _, _⟩ := chk_ok (bne_f h)
  unfold holderI at h2; split at h2
  · omega
  · rename_i hh; simp only [heldB, decide_eq_true_eq]; omega
theorem holder_hd (h2 : heldB hd un now = true) (h : (chk hd tk un who token now ttl != 0) = false) : holderI hd tk un now = hd := by
  obtain ⟨_, _, _, _, _, _⟩ := chk_ok (bne_f h)
  unfold holderI; simp only [heldB, decide_eq_true_eq] at h2; rw [if_pos (by omega)]
theorem racq_2 (h1 : (chk hd tk un who 0 now ttl != 0) = false) (h2 : holderI hd tk un now < 0) (h3 : (tk == 9223372036854775807) = true) : acq hd tk un who now ttl = (0, 0, 0, 7) := acq_4 h1 (held_not h1 h2) h3
theorem racq_3 (h1 : (chk hd tk un who 0 now ttl != 0) = false) (h2 : holderI hd tk un now < 0) (h3 : (tk == 9223372036854775807) = false) (ht : I64 tk) : acq hd tk un who now ttl = (who, wrap64 (tk + 1), wrap64 (now + ttl), 0) := acq_5 h1 (held_not h1 h2) h3 ht
theorem racq_4 (h1 : (chk hd tk un who 0 now ttl != 0) = false) (h2 : (holderI hd tk un now != who) = true) (h3 : 0 ≤ holderI hd tk un now) : acq hd tk un who now ttl = (0, 0, 0, 11) := by grind [chk, holderI, heldB, acq, ren, rel, ownsB, validB, holdsB]
theorem racq_5 (h1 : (chk hd tk un who 0 now ttl != 0) = false) (h2 : (holderI hd tk un now != who) = false) (h3 : 0 ≤ holderI hd tk un now) (h4 : un < wrap64 (now + ttl)) : acq hd tk un who now ttl = (who, tk, wrap64 (now + ttl), 0) := by
  have hk := chk_ok (bne_f h1)
  have e0 : wrap64 (now + ttl) = now + ttl := wrap64_of (by omega) (by omega)
  grind [chk, holderI, heldB, acq, ren, rel, ownsB, validB, holdsB]
theorem racq_6 (h1 : (chk hd tk un who 0 now ttl != 0) = false) (h2 : (holderI hd tk un now != who) = false) (h3 : 0 ≤ holderI hd tk un now) (h4 : wrap64 (now + ttl) ≤ un) : acq hd tk un who now ttl = (who, tk, un, 0) := by
  have hk := chk_ok (bne_f h1)
  have e0 : wrap64 (now + ttl) = now + ttl := wrap64_of (by omega) (by omega)
  grind [chk, holderI, heldB, acq, ren, rel, ownsB, validB, holdsB]
theorem ren_1 (h1 : (chk hd tk un who token now ttl != 0) = true) : ren hd tk un who token now ttl = (0, 0, 0, chk hd tk un who token now ttl) := by grind [chk, holderI, heldB, acq, ren, rel, ownsB, validB, holdsB]
theorem ren_2 (h1 : (chk hd tk un who token now ttl != 0) = false) (h2 : (!ownsB hd tk un who token now) = true) : ren hd tk un who token now ttl = (0, 0, 0, 11) := by grind [chk, holderI, heldB, acq, ren, rel, ownsB, validB, holdsB]
theorem ren_3 (h1 : (chk hd tk un who token now ttl != 0) = false) (h2 : (!ownsB hd tk un who token now) = false) : ren hd tk un who token now ttl = (hd, tk, max un (wrap64 (now + ttl)), 0) := by
  have hk := chk_ok (bne_f h1)
  have e0 : wrap64 (now + ttl) = now + ttl := wrap64_of (by omega) (by omega)
  grind [chk, holderI, heldB, acq, ren, rel, ownsB, validB, holdsB]
theorem rren_1 (h1 : (chk hd tk un who 0 now ttl != 0) = true) : ren hd tk un who token now ttl = (0, 0, 0, chk hd tk un who 0 now ttl) := by grind [chk, holderI, heldB, acq, ren, rel, ownsB, validB, holdsB]
theorem rren_2 (h1 : (chk hd tk un who 0 now ttl != 0) = false) (h2 : token < 0) : ren hd tk un who token now ttl = (0, 0, 0, 7) := by grind [chk, holderI, heldB, acq, ren, rel, ownsB, validB, holdsB]
theorem rren_3 (h1 : (chk hd tk un who 0 now ttl != 0) = false) (h2 : 0 ≤ token) (h3 : holderI hd tk un now = who) (h4 : (tk != token) = true) : ren hd tk un who token now ttl = (0, 0, 0, 11) := by grind [chk, holderI, heldB, acq, ren, rel, ownsB, validB, holdsB]
theorem rren_4 (h1 : (chk hd tk un who 0 now ttl != 0) = false) (h2 : 0 ≤ token) (h3 : holderI hd tk un now = who) (h4 : (tk != token) = false) (h5 : un < wrap64 (now + ttl)) : ren hd tk un who token now ttl = (who, token, wrap64 (now + ttl), 0) := by
  have hk := chk_ok (bne_f h1)
  have e0 : wrap64 (now + ttl) = now + ttl := wrap64_of (by omega) (by omega)
  grind [chk, holderI, heldB, acq, ren, rel, ownsB, validB, holdsB]
theorem rren_5 (h1 : (chk hd tk un who 0 now ttl != 0) = false) (h2 : 0 ≤ token) (h3 : holderI hd tk un now = who) (h4 : (tk != token) = false) (h5 : wrap64 (now + ttl) ≤ un) : ren hd tk un who token now ttl = (who, token, un, 0) := by
  have hk := chk_ok (bne_f h1)
  have e0 : wrap64 (now + ttl) = now + ttl := wrap64_of (by omega) (by omega)
  grind [chk, holderI, heldB, acq, ren, rel, ownsB, validB, holdsB]
theorem rren_6 (h1 : (chk hd tk un who 0 now ttl != 0) = false) (h2 : 0 ≤ token) (h3 : ¬holderI hd tk un now = who) : ren hd tk un who token now ttl = (0, 0, 0, 11) := by grind [chk, holderI, heldB, acq, ren, rel, ownsB, validB, holdsB]
theorem rel_1 (h1 : (!validB hd tk un) = true) : rel hd tk un who token now = (0, 0, 0, 1) := by grind [chk, holderI, heldB, acq, ren, rel, ownsB, validB, holdsB]
theorem rel_2 (h1 : (!validB hd tk un) = false) (h2 : (who < 0 ∨ token < 0) ∨ now < 0) : rel hd tk un who token now = (0, 0, 0, 7) := by grind [chk, holderI, heldB, acq, ren, rel, ownsB, validB, holdsB]
theorem rel_3 (h1 : (!validB hd tk un) = false) (h2 : (0 ≤ who ∧ 0 ≤ token) ∧ 0 ≤ now) (h3 : (!ownsB hd tk un who token now) = true) : rel hd tk un who token now = (0, 0, 0, 11) := by grind [chk, holderI, heldB, acq, ren, rel, ownsB, validB, holdsB]
theorem rel_4 (h1 : (!validB hd tk un) = false) (h2 : (0 ≤ who ∧ 0 ≤ token) ∧ 0 ≤ now) (h3 : (!ownsB hd tk un who token now) = false) : rel hd tk un who token now = (-1, tk, 0, 0) := by grind [chk, holderI, heldB, acq, ren, rel, ownsB, validB, holdsB]
theorem rel_5 (h1 : (!validB hd tk un) = false) (h2 : token < 0) : rel hd tk un who token now = (0, 0, 0, 7) := by grind [chk, holderI, heldB, acq, ren, rel, ownsB, validB, holdsB]
theorem rel_6 (h1 : (!validB hd tk un) = false) (h2 : who < 0) : rel hd tk un who token now = (0, 0, 0, 7) := by grind [chk, holderI, heldB, acq, ren, rel, ownsB, validB, holdsB]
theorem rel_7 (h1 : (!validB hd tk un) = false) (h2 : now < 0) : rel hd tk un who token now = (0, 0, 0, 7) := by grind [chk, holderI, heldB, acq, ren, rel, ownsB, validB, holdsB]
theorem rrel_2 (h1 : (!validB hd tk un) = false) (h2 : (who < 0 ∨ now < 0) ∨ token < 0) : rel hd tk un who token now = (0, 0, 0, 7) := by grind [chk, holderI, heldB, acq, ren, rel, ownsB, validB, holdsB]
theorem rrel_3 (h1 : (!validB hd tk un) = false) (h2 : (0 ≤ who ∧ 0 ≤ now) ∧ 0 ≤ token) (h3 : holderI hd tk un now = who) (h4 : (tk != token) = true) : rel hd tk un who token now = (0, 0, 0, 11) := by grind [chk, holderI, heldB, acq, ren, rel, ownsB, validB, holdsB]
theorem rrel_4 (h1 : (!validB hd tk un) = false) (h2 : (0 ≤ who ∧ 0 ≤ now) ∧ 0 ≤ token) (h3 : holderI hd tk un now = who) (h4 : (tk != token) = false) : rel hd tk un who token now = (-1, token, 0, 0) := by grind [chk, holderI, heldB, acq, ren, rel, ownsB, validB, holdsB]
theorem rrel_5 (h1 : (!validB hd tk un) = false) (h2 : (0 ≤ who ∧ 0 ≤ now) ∧ 0 ≤ token) (h3 : ¬holderI hd tk un now = who) : rel hd tk un who token now = (0, 0, 0, 11) := by grind [chk, holderI, heldB, acq, ren, rel, ownsB, validB, holdsB]
theorem holds_1 (h1 : validB hd tk un = true) (h2 : 0 ≤ margin) (h3 : ownsB hd tk un who token now = true) (hun : un ≤ 9223372036854775807) : decide (margin < wrap64 (un - now)) = holdsB hd tk un who token now margin := by
  have hk : 0 ≤ un ∧ 0 ≤ now ∧ now < un := by grind [ownsB, validB]
  rw [wrap64_of (by omega) (by omega)]; grind [chk, holderI, heldB, acq, ren, rel, ownsB, validB, holdsB]
theorem holds_2 (h3 : ¬ ownsB hd tk un who token now = true) : false = holdsB hd tk un who token now margin := by grind [chk, holderI, heldB, acq, ren, rel, ownsB, validB, holdsB]
theorem holds_3 (h3 : margin < 0) : false = holdsB hd tk un who token now margin := by grind [chk, holderI, heldB, acq, ren, rel, ownsB, validB, holdsB]
theorem holds_4 (h3 : ¬ validB hd tk un = true) : false = holdsB hd tk un who token now margin := by grind [chk, holderI, heldB, acq, ren, rel, ownsB, validB, holdsB]
theorem rholds_1 (h1 : 0 ≤ who) (h2 : 0 ≤ margin) (h3 : holderI hd tk un now = who) (h4 : tk = token) (hun : un ≤ 9223372036854775807) : decide (margin < wrap64 (un - now)) = holdsB hd tk un who token now margin := by
  have hk : 0 ≤ un ∧ 0 ≤ now ∧ now < un := by grind [holderI]
  rw [wrap64_of (by omega) (by omega)]; grind [chk, holderI, heldB, acq, ren, rel, ownsB, validB, holdsB]
theorem rholds_2 (h3 : ¬ tk = token) : false = holdsB hd tk un who token now margin := by grind [chk, holderI, heldB, acq, ren, rel, ownsB, validB, holdsB]
theorem rholds_3 (h3 : ¬ holderI hd tk un now = who) : false = holdsB hd tk un who token now margin := by grind [chk, holderI, heldB, acq, ren, rel, ownsB, validB, holdsB]
theorem rholds_5 (h3 : who < 0) : false = holdsB hd tk un who token now margin := by grind [chk, holderI, heldB, acq, ren, rel, ownsB, validB, holdsB]
end
end Go.Proofs.Ytgegkemoefcdnaa
