/-
  The abstract machine is right: every operation, every function.
-/
import Derived.Test.YtnaknldbmapolaaGreatDoorAbsO7
namespace Go.Proofs.YtnaknldbmapolaaGreatDoor
open Go Go.RowKit
set_option linter.unusedSimpArgs false
set_option linter.unusedVariables false
theorem op_sound {P : Program} {call : CallF} {lend : FuncId → Bool} (hcall : CallOk P call) : OpSound P call lend := by
  intro V X Z w0 w N ρ ok ok' lt lt' lb lb' a o e cur key Q h ho hd hl hb hinj hkey he hn
  have hk0 := hkey 0 (by omega)
  unfold effOf at he
  split at he
  · rename_i x hop
    obtain ⟨av, h1, rfl⟩ := Option.map_eq_some_iff.1 he
    exact sound_pure h ho hd rfl (by simp [execOp, hop]) (ev_sound h hl h1)
  · rename_i x hop
    obtain ⟨av, h1, rfl⟩ := Option.map_eq_some_iff.1 he
    exact sound_pure h ho hd rfl (by simp [execOp, hop]) (ev_sound h hl h1)
  · rename_i c x y hop
    split at he
    · rename_i b hc
      obtain ⟨av, h1, rfl⟩ := Option.map_eq_some_iff.1 he
      have hcv : a.eval c = .bool b := conV_sound (x := .bool b) rfl (ev_sound h hl hc)
      cases b with
      | true => exact sound_pure h ho hd rfl (v := a.eval x) (by simp [execOp, hop, hcv, asBool]) (ev_sound h hl (by simpa using h1))
      | false => exact sound_pure h ho hd rfl (v := a.eval y) (by simp [execOp, hop, hcv, asBool]) (ev_sound h hl (by simpa using h1))
    · cases he
  · rename_i t hop
    split at he
    · rename_i z hz
      obtain ⟨cs, h1, rfl⟩ := Option.map_eq_some_iff.1 he
      obtain ⟨i, hi, hz'⟩ := Option.bind_eq_some_iff.1 hz
      obtain ⟨ρ', hfin⟩ := h.newSt hk0.1 hk0.2 ho t (cellCs_sound h1) o.dst hd
      refine wp_val ?_ ⟨ρ', hfin⟩
      simp [execOp, hop, Instr.alloc, zeroValue, typeInfo, hi, hz', newVar, newRow]
    · cases he
  · rename_i t x hop
    obtain ⟨cs, h1, rfl⟩ := Option.map_eq_some_iff.1 he
    obtain ⟨av, h2, h3⟩ := Option.bind_eq_some_iff.1 h1
    obtain ⟨vs, k1, k2, k3⟩ := cellsOfAV_sound h3 (ev_sound h hl h2)
    obtain ⟨ρ', hfin⟩ := h.newSt hk0.1 hk0.2 ho t k1 o.dst hd
    refine wp_val ?_ ⟨ρ', hfin⟩
    simp [execOp, hop, Instr.box, newVar, newRow, k2]
  · rename_i t parts hop
    obtain ⟨cs, h1, rfl⟩ := Option.map_eq_some_iff.1 he
    obtain ⟨ps, h2, h3⟩ := Option.bind_eq_some_iff.1 h1
    obtain ⟨vs, k1, k2⟩ := aBuilt_sound (fun vs cs => cellCs_sound) (evParts_sound h hl h2) h3
    refine sound_pure h ho hd rfl (v := .agg vs.toArray) ?_ (oneAgg k2)
    have := run_build (P := P) w t (parts.map fun (i, x) => (i, a.eval x)) vs.toArray (by rw [Array.toList_map]; exact k1)
    simp [execOp, hop, this]
  · rename_i t len parts hop
    exact effBuildSlice_sound h ho hd hl hb hk0.1 hk0.2 hop he hn
  · rename_i t x hop
    exact effLoad_sound h ho hd hl hb hop he
  · rename_i t x y hop
    exact effStore_sound h ho hd hl hb hop he hn
  · rename_i x hop
    split at he
    · rename_i c hc
      split at he
      · rename_i hp
        cases he
        obtain ⟨av, h2, h3⟩ := Option.bind_eq_some_iff.1 hc
        have hv := slot1_sound h3 (ev_sound h hl h2)
        obtain ⟨ad, had⟩ := isPtr_sound hp hv
        refine sound_pure h ho hd rfl (v := a.eval x) ?_ (one1 hv)
        simp [execOp, hop, had]
      · cases he
    · cases he
  · rename_i s x f hop
    split at he
    · rename_i fields c hu hc
      split at he
      · rename_i fd hfd
        split at he
        · rename_i sz hsz
          split at he
          · cases he
          · rename_i hne
            obtain ⟨c', h1, rfl⟩ := Option.map_eq_some_iff.1 he
            obtain ⟨av, h2, h3⟩ := Option.bind_eq_some_iff.1 hc
            obtain ⟨b, o', k1, k2⟩ := addOff_sound h1 (slot1_sound h3 (ev_sound h hl h2))
            refine sound_pure h ho hd rfl ?_ (one1 k2)
            simp [execOp, hop, Instr.fieldAt, run_underlying hu, hfd, Instr.sureAddr, k1, fieldPlace, size_run hsz, hne, Addr.add_lit]
        · cases he
      · cases he
    · cases he
  · rename_i t x ix hop
    exact effIndexAddr_sound h ho hd hl hb hop he
  · rename_i t x f hop
    split at he
    · rename_i fields cs hu hx
      split at he
      · rename_i fd hfd
        obtain ⟨vs, u1, u2⟩ := ev_sound h hl hx
        simp only [if_true] at u2
        split at he
        · rename_i sz hg hs
          split at he
          · rename_i hle
            cases he
            have hl1 := u1.length
            refine sound_pure h ho hd rfl (v := .agg ((vs.drop fd.offset).take sz).toArray) ?_ (oneAgg ((u1.drop _).take _))
            have e1 : vs.toArray.extract fd.offset (fd.offset + sz) = ((vs.drop fd.offset).take sz).toArray := by
              simp [List.extract_toArray, List.extract_eq_take_drop]
            simp [execOp, hop, Instr.field, run_underlying hu, hfd, asAgg, u2, part, agg_run hg, size_run hs]
            try (first | exact e1 | (simpa using e1))
          · cases he
        · rename_i sz hg hs
          obtain ⟨c, h1, rfl⟩ := Option.map_eq_some_iff.1 he
          obtain ⟨v, k1, k2⟩ := u1.get h1
          refine sound_pure h ho hd rfl (v := v) ?_ (one1 k2)
          simp [execOp, hop, Instr.field, run_underlying hu, hfd, asAgg, u2, part, agg_run hg, k1]
        · cases he
      · cases he
    · cases he
  · rename_i x i hop
    split at he
    · rename_i xs hx
      obtain ⟨⟨b, cs⟩, h1, rfl⟩ := Option.map_eq_some_iff.1 he
      obtain ⟨vs, u1, u2⟩ := ev_sound h hl hx
      obtain ⟨v, k1, k2⟩ := u2.get h1
      refine sound_pure h ho hd rfl (v := v) ?_ k2
      simp [execOp, hop, Instr.extract, u1, k1]
    · cases he
  · rename_i t x lo hi mx hop
    exact effSlice_sound h ho hd hl hop he
  · rename_i t l c hop
    exact effMakeSlice_sound h ho hd hl hk0.1 hk0.2 hop he
  · rename_i c hop
    have hplain : ∀ {e' : Eff}, effPlain P lt' o = some e' → o.wp P a w (Aft V X Z w0 N ok' lt lb o.dst e') Q := fun he' => by
      obtain ⟨h1, v, h2, h3⟩ := effPlain_sound h hl he'
      exact sound_pure h ho hd h1 h2 h3
    split at he
    · rename_i hcal
      split at he
      · rename_i t x hat har
        split at he
        · rename_i el hu
          obtain ⟨n, h1, rfl⟩ := Option.map_eq_some_iff.1 he
          obtain ⟨cc, h2, h3⟩ := Option.bind_eq_some_iff.1 h1
          obtain ⟨av, h4, h5⟩ := Option.bind_eq_some_iff.1 h2
          obtain ⟨A, cp, hv⟩ := lenC_sound h hb h3 (slot1_sound h5 (ev_sound h hl h4))
          refine sound_pure h ho hd rfl (v := .int .i64 n) ?_ (one1 (.v rfl))
          obtain ⟨callee, args, argTypes⟩ := c
          simp only at hcal hat har
          subst hcal
          have e1 : args = #[x] := by apply Array.ext'; exact har
          have e2 : argTypes = #[t] := by apply Array.ext'; exact hat
          subst e1
          subst e2
          simp [execOp, hop, resolve, invoke, builtin, Builtin.len_, run_underlying hu, hv, goInt]
        · exact hplain he
      · cases he
    · rename_i hcal
      split at he
      · rename_i t tx s x hat har
        obtain ⟨callee, args, argTypes⟩ := c
        simp only at hcal hat har
        subst hcal
        have e1 : args = #[s, x] := by apply Array.ext'; exact har
        have e2 : argTypes = #[t, tx] := by apply Array.ext'; exact hat
        subst e1
        subst e2
        exact effAppend_sound h ho hd hl hb hk0.1 hk0.2 hop he
      · cases he
    · exact hplain he
    · rename_i f hcal
      exact effCall_sound h ho hd hl hb hinj hkey hcall hop hcal he hn
    · cases he
  · rename_i fn first captured hop
    exact effMakeFunc_sound h ho hd hl hop he
  · rename_i t hop
    cases he
    exact effMakeMap_sound h ho hd hk0.1 hk0.2 hop
  · rename_i t x ix cok hop
    exact effLookup_sound h ho hd hl hb hop he
  · rename_i t m k x hop
    exact effMapUpdate_sound h ho hd hl hb (.inl hop) he
  · rename_i t m k x hop
    exact effMapUpdate_sound h ho hd hl hb (.inr hop) he
  · obtain ⟨h1, v, h2, h3⟩ := effPlain_sound h hl he
    exact sound_pure h ho hd h1 h2 h3
  · obtain ⟨h1, v, h2, h3⟩ := effPlain_sound h hl he
    exact sound_pure h ho hd h1 h2 h3
  · obtain ⟨h1, v, h2, h3⟩ := effPlain_sound h hl he
    exact sound_pure h ho hd h1 h2 h3
  · obtain ⟨h1, v, h2, h3⟩ := effPlain_sound h hl he
    exact sound_pure h ho hd h1 h2 h3
  · cases he
/-- What the abstract machine gives of a function is its contract. -/
theorem acall_ok {P : Program} {A : Ann} (hm : P.follows .mixedOrders = true) (hext : CallOk P A.ext) (hcl : ∀ V X Z w0 N c st a w, SR V X Z w0 N st a w → SR V X Z w0 N (A.cl c st) a w) : ∀ n, CallOk P (acall P A n)
  | 0 => hext
  | n + 1 => fun f args bxs r he => by
    unfold acall at he
    split at he
    · rename_i r' hr
      cases he
      exact hext f args bxs r hr
    · exact afn_sound hm (fun _ => op_sound (acall_ok hm hext hcl n)) rfl hcl he
end Go.Proofs.YtnaknldbmapolaaGreatDoor
