/- Rows.RecoveryFinishSaid: for every case and every number the law returns true and leaves its arguments as they were. No condition. -/
import Derived.Test.YtbdjcgjdmhgnmaaGreatQA36
import Derived.Test.YtbdjcgjdmhgnmaaGreatSC1
namespace Go.Proofs.YtbdjcgjdmhgnmaaGreat
open Go Go.RowKit
set_option linter.unusedSimpArgs false
set_option linter.unusedVariables false
def remP (rs : List Int) (c : CtlD) : Int:=if (present c).kind = 2 then firstR rs (present c).idx + rs.getD (present c).idx.toNat 0 - 1 - c.replica else 0
def phP (rs : List Int) (c : CtlD) : Int:=if c.phase = 0 then 7 else if c.phase = 1 then 2 + remP rs c else if c.phase = 2 then 1 else if c.phase = 3 then 9 else if c.phase = 4 then 1 else if c.phase = 5 then 8 else 0
def nuP (rs : List Int) (c : CtlD) : Int:=20 * ((c.plan.length : Int) - c.at_) + phP rs c + (if c.token = 0 then 1 else 0)
theorem useful_0 {c : CtlD} (ht : ¬ c.token = 0) : usefulP c 0 = if c.phase = 1 ∨ c.phase = 3 then ⟨4,0,c.round,c.replica,wantedP c,false,0⟩ else if c.phase = 2 then ⟨5,0,c.round,0,0,true,0⟩ else if c.phase = 4 then ⟨6,0,c.round,0,0,false,(present c).idx⟩ else if c.phase = 5 then ⟨7,0,0,0,0,false,0⟩ else ⟨3,0,0,0,0,false,0⟩:=by
 unfold usefulP
 rw [if_neg ht]
 simp [sig]
theorem useful_t {c : CtlD} (ht : c.token = 0) : usefulP c 0 = ⟨1,1,0,0,0,false,0⟩:=by
 unfold usefulP
 rw [if_pos ht]
 rfl
section
variable {p : Prob} {rs : List Int} {c : CtlD}
theorem rem_rng (hk : CtlK p c) (hr : CtlR p rs c) (hs : setErr p rs = 0) (h1 : c.phase = 1) : 0 ≤ remP rs c ∧ remP rs c ≤ 3:=by
 have hso:=setErr_ok hs
 have hvp:=vp_all hso.1
 unfold remP
 split
 ·rename_i k2
  have h:=hr.some_ h1 k2
  have hi:=hk.svc (by omega) (by omega)
  have h2:=hso.2.2 (present c).idx.toNat (by omega)
  omega
 ·omega
theorem ph_rng (hk : CtlK p c) (hr : CtlR p rs c) (hs : setErr p rs = 0) : 0 ≤ phP rs c ∧ phP rs c ≤ 9 ∧ (¬ c.phase = 6 → 1 ≤ phP rs c):=by
 have hps:=hk.phs
 have hm:=fun h=>rem_rng hk hr hs h
 unfold phP
 (repeat' split) <;> first | (refine ⟨by omega,by omega,fun _=>by omega⟩) | (have:=hm (by assumption);refine ⟨by omega,by omega,fun _=>by omega⟩)
theorem nu_begin (hk : CtlK p c) (hs : setErr p rs = 0) (h0 : c.phase = 0) (t : Int) (ht : ¬ t = 0) : nuP rs (beginC p rs { c with token:=t }) < nuP rs c:=by
 have hso:=setErr_ok hs
 have hvp:=vp_all hso.1
 have e : phP rs c = 7:=by unfold phP;rw [if_pos h0]
 have tk : 0 ≤ (if c.token = 0 then (1 : Int) else 0):=by split <;> omega
 have hlt:=hk.lt (by omega)
 have e2 : phP rs (beginC p rs { c with token:=t }) ≤ 5:=by
  by_cases k3 : (present c).kind = 3
  ·have : (beginC p rs { c with token := t }).phase = 4 := by
     show (if (present c).kind = 3 then (4 : Int) else 1) = 4
     rw [if_pos k3]
   unfold phP
   rw [this];simp
  ·have h1 : (beginC p rs { c with token := t }).phase = 1 := by
     show (if (present c).kind = 3 then (4 : Int) else 1) = 1
     rw [if_neg k3]
   have h2 : (beginC p rs { c with token:=t }).replica = firstR rs (present c).idx:=by
    show (if (present c).kind = 3 then c.replica else firstR rs (present c).idx) = _
    rw [if_neg k3]
   have hi:=hk.svc (by omega) k3
   have h3:=hso.2.2 (present c).idx.toNat (by omega)
   unfold phP
   rw [h1,if_neg (by decide),if_pos rfl]
   unfold remP
   rw [h2]
   show 2 + (if (present c).kind = 2 then firstR rs (present c).idx + rs.getD (present c).idx.toNat 0 - 1 - firstR rs (present c).idx else 0) ≤ 5
   split <;> omega
 have e3 : (if t = 0 then (1 : Int) else 0) = 0:=if_neg ht
 unfold nuP
 show 20 * ((c.plan.length : Int) - c.at_) + phP rs (beginC p rs { c with token:=t }) + (if t = 0 then (1 : Int) else 0) < _
 rw [e3,e]
 omega
theorem nu_done (hk : CtlK p c) (hr : CtlR p rs c) (hs : setErr p rs = 0) (hl : c.plan.length ≤ 1000000) (h6 : ¬ c.phase = 6) : nuP rs (doneC p c) < nuP rs c:=by
 have hlt:=hk.lt h6
 have hrg:=hk.rng
 have h1:=(ph_rng hk hr hs).2.2 h6
 have hw : w64 (c.at_ + 1) = c.at_ + 1:=w64_is (by omega)
 have e2 : phP rs (doneC p c) ≤ 7:=by
  unfold phP
  have : (doneC p c).phase = if w64 (c.at_ + 1) = c.plan.length then 6 else 0:=rfl
  rw [this]
  by_cases hq : w64 (c.at_ + 1) = c.plan.length
  ·rw [if_pos hq];simp
  ·rw [if_neg hq];simp
 unfold nuP
 show 20 * ((c.plan.length : Int) - w64 (c.at_ + 1)) + phP rs (doneC p c) + (if c.token = 0 then (1 : Int) else 0) < _
 rw [hw]
 omega
theorem nu_next (hk : CtlK p c) (hr : CtlR p rs c) (hs : setErr p rs = 0) (hl : c.plan.length ≤ 1000000) (hrp : -1000000000 ≤ c.replica ∧ c.replica ≤ 1000000000) (h6 : ¬ c.phase = 6) : nuP rs (nextP p rs c (usefulP c 0)).1 < nuP rs c:=by
 have hps:=hk.phs
 by_cases ht : c.token = 0
 ·rw [useful_t ht]
  have e : nextP p rs c ⟨1,1,0,0,0,false,0⟩ = tickP p rs { c with token:=1 }:=by
   unfold nextP
   rw [if_pos rfl,if_neg (by show ¬ (1 : Int) ≤ c.token;omega)]
  rw [e]
  by_cases h0 : c.phase = 0
  ·have e : tickP p rs { c with token:=1 } = (beginC p rs { c with token:=1 },entA { c with token:=1 } 1 :: repeatP (beginC p rs { c with token:=1 })):=by unfold tickP;rw [if_neg (fun b=>b h0)]
   rw [e]
   exact nu_begin hk hs h0 1 (by decide)
  ·have e : tickP p rs { c with token:=1 } = ({ c with token:=1 },repeatP { c with token:=1 }):=by unfold tickP;rw [if_pos h0]
   rw [e]
   unfold nuP
   show 20 * ((c.plan.length : Int) - c.at_) + phP rs c + (if (1 : Int) = 0 then (1 : Int) else 0) < _
   rw [if_pos ht,if_neg (by decide)]
   omega
 ·rw [useful_0 ht]
  by_cases h13 : c.phase = 1 ∨ c.phase = 3
  ·rw [if_pos h13]
   have e : nextP p rs c ⟨4,0,c.round,c.replica,wantedP c,false,0⟩ = ackP p rs c ⟨4,0,c.round,c.replica,wantedP c,false,0⟩:=by
    unfold nextP
    rw [if_neg (by show ¬ (4 : Int) = 1;decide),if_neg ht,if_neg (by show ¬ (4 : Int) = 2;decide),if_neg (by show ¬ (4 : Int) = 3;decide),if_pos ⟨rfl,rfl,h13⟩]
   rw [e]
   unfold ackP
   rw [if_neg (by rintro (a | a) <;> exact a rfl)]
   by_cases h3 : c.phase = 3
   ·rw [if_pos h3]
    have e3 : phP rs c = 9:=by unfold phP;rw [h3];rfl
    unfold nuP
    show 20 * ((c.plan.length : Int) - c.at_) + 8 + (if c.token = 0 then (1 : Int) else 0) < _
    rw [e3];omega
   ·have h1 : c.phase = 1:=by omega
    have e3 : phP rs c = 2 + remP rs c:=by unfold phP;rw [h1];rfl
    have hrm:=rem_rng hk hr hs h1
    rw [if_neg h3]
    by_cases k1 : (present c).kind = 1
    ·rw [if_pos k1]
     unfold nuP
     show 20 * ((c.plan.length : Int) - c.at_) + 1 + (if c.token = 0 then (1 : Int) else 0) < _
     rw [e3];omega
    ·rw [if_neg k1]
     by_cases hq : c.replica = firstR rs (present c).idx + rs.getD (present c).idx.toNat 0 - 1
     ·rw [if_pos hq]
      exact nu_done hk hr hs hl h6
     ·rw [if_neg hq,w64_is (by omega)]
      have k2 : (present c).kind = 2:=by rcases hk.ph1 h1 with a | a <;> omega
      have e4 : phP rs { c with replica:=c.replica + 1 } = 2 + (remP rs c - 1):=by
       unfold phP
       rw [if_neg (by show ¬ c.phase = 0;omega),if_pos (show ({ c with replica:=c.replica + 1 } : CtlD).phase = 1 from h1)]
       unfold remP
       rw [if_pos (show (present { c with replica:=c.replica + 1 }).kind = 2 from k2),if_pos k2]
       show 2 + (firstR rs (present c).idx + rs.getD (present c).idx.toNat 0 - 1 - (c.replica + 1)) = _
       omega
      unfold nuP
      show 20 * ((c.plan.length : Int) - c.at_) + phP rs { c with replica:=c.replica + 1 } + (if c.token = 0 then (1 : Int) else 0) < _
      rw [e3,e4];omega
  ·rw [if_neg h13]
   by_cases h2 : c.phase = 2
   ·rw [if_pos h2]
    have e : nextP p rs c ⟨5,0,c.round,0,0,true,0⟩ = (doneC p c,[entA c 2]):=by
     unfold nextP
     rw [if_neg (by show ¬ (5 : Int) = 1;decide),if_neg ht,if_neg (by show ¬ (5 : Int) = 2;decide),if_neg (by show ¬ (5 : Int) = 3;decide),if_neg (by rintro ⟨a,_⟩;exact absurd (show (5 : Int) = 4 from a) (by decide)),if_pos ⟨rfl,rfl,h2⟩,if_pos rfl]
    rw [e]
    exact nu_done hk hr hs hl h6
   ·rw [if_neg h2]
    by_cases h4 : c.phase = 4
    ·rw [if_pos h4]
     have e : nextP p rs c ⟨6,0,c.round,0,0,false,(present c).idx⟩ = (doneC p c,[entA c 2]):=by
      unfold nextP
      rw [if_neg (by show ¬ (6 : Int) = 1;decide),if_neg ht,if_neg (by show ¬ (6 : Int) = 2;decide),if_neg (by show ¬ (6 : Int) = 3;decide),if_neg (by rintro ⟨a,_⟩;exact absurd (show (6 : Int) = 4 from a) (by decide)),if_neg (by rintro ⟨a,_⟩;exact absurd (show (6 : Int) = 5 from a) (by decide)),if_pos ⟨rfl,rfl,h4,rfl⟩]
     rw [e]
     exact nu_done hk hr hs hl h6
    ·rw [if_neg h4]
     by_cases h5 : c.phase = 5
     ·rw [if_pos h5]
      have e : nextP p rs c ⟨7,0,0,0,0,false,0⟩ = ({ bump c with phase:=0 },[entA c 4]):=by
       unfold nextP
       rw [if_neg (by show ¬ (7 : Int) = 1;decide),if_neg ht,if_neg (by show ¬ (7 : Int) = 2;decide),if_neg (by show ¬ (7 : Int) = 3;decide),if_neg (by rintro ⟨a,_⟩;exact absurd (show (7 : Int) = 4 from a) (by decide)),if_neg (by rintro ⟨a,_⟩;exact absurd (show (7 : Int) = 5 from a) (by decide)),if_neg (by rintro ⟨a,_⟩;exact absurd (show (7 : Int) = 6 from a) (by decide)),if_pos ⟨rfl,h5⟩]
      rw [e]
      have e3 : phP rs c = 8:=by unfold phP;rw [h5];rfl
      unfold nuP
      show 20 * ((c.plan.length : Int) - c.at_) + 7 + (if c.token = 0 then (1 : Int) else 0) < _
      rw [e3];omega
     ·rw [if_neg h5]
      have h0 : c.phase = 0:=by omega
      have e : nextP p rs c ⟨3,0,0,0,0,false,0⟩ = tickP p rs c:=by
       unfold nextP
       rw [if_neg (by show ¬ (3 : Int) = 1;decide),if_neg ht,if_neg (by show ¬ (3 : Int) = 2;decide),if_pos rfl]
      have e2 : tickP p rs c = (beginC p rs c,entA c 1 :: repeatP (beginC p rs c)):=by unfold tickP;rw [if_neg (fun b=>b h0)]
      rw [e,e2]
      exact nu_begin hk hs h0 c.token ht
end
def finAt (p : Prob) (rs : List Int) (c : CtlD) : Nat → CtlD
 | 0=>c
 | k + 1=>(nextP p rs (finAt p rs c k) (usefulP (finAt p rs c k) 0)).1
theorem finAt_k {p : Prob} {rs : List Int} {l : List StepD} {c : CtlD} {n : Int} (h : SigK p rs l c n) (hs : setErr p rs = 0) (hl : l.length ≤ 1000000) : ∀ k : Nat,n + (k : Int) ≤ 50000000 → SigK p rs l (finAt p rs c k) (n + k)
 | 0,_=>by simpa [finAt] using h
 | k + 1,hk=>by
  have a:=finAt_k h hs hl k (by omega)
  have:=a.next (usefulP (finAt p rs c k) 0) (by omega) hs hl
  show SigK p rs l (nextP p rs (finAt p rs c k) (usefulP (finAt p rs c k) 0)).1 (n + ((k + 1 : Nat) : Int))
  rw [show n + ((k + 1 : Nat) : Int) = n + (k : Int) + 1 by omega]
  exact this
theorem fin_nu {p : Prob} {rs : List Int} {l : List StepD} {c : CtlD} {n : Int} (h : SigK p rs l c n) (h0 : 0 ≤ n) (hs : setErr p rs = 0) (hl : l.length ≤ 1000000) : ∀ k : Nat,n + (k : Int) ≤ 50000000 → (∀ j,j < k → ¬ (finAt p rs c j).phase = 6) → nuP rs (finAt p rs c k) + k ≤ nuP rs c
 | 0,_,_=>by simp [finAt]
 | k + 1,hk,hn=>by
  have a:=finAt_k h hs hl k (by omega)
  have ih:=fin_nu h h0 hs hl k (by omega) (fun j hj=>hn j (by omega))
  have hrp:=a.b.rp
  have d:=nu_next a.ck a.cr hs (by rw [a.b.plan];exact hl) (by omega) (hn k (by omega))
  show nuP rs (nextP p rs (finAt p rs c k) (usefulP (finAt p rs c k) 0)).1 + ((k + 1 : Nat) : Int) ≤ _
  omega
theorem nu_rng {p : Prob} {rs : List Int} {c : CtlD} (hk : CtlK p c) (hr : CtlR p rs c) (hs : setErr p rs = 0) : 0 ≤ nuP rs c ∧ nuP rs c ≤ 20 * (c.plan.length : Int) + 10:=by
 have h:=ph_rng hk hr hs
 have h1:=hk.rng
 unfold nuP
 split <;> omega
theorem fin_end {p : Prob} {rs : List Int} {l : List StepD} {c : CtlD} {n : Int} {k : Nat} (h : SigK p rs l c n) (h0 : 0 ≤ n ∧ n ≤ 10000000) (hs : setErr p rs = 0) (hl : l.length ≤ 1000000) (hk : 20 * (l.length : Int) + 11 ≤ k) (hk' : (k : Int) ≤ 30000000) (hn : ∀ j,j < k → ¬ (finAt p rs c j).phase = 6) : False:=by
 have a:=finAt_k h hs hl k (by omega)
 have h1:=fin_nu h h0.1 hs hl k (by omega) hn
 have h2:=(nu_rng a.ck a.cr hs).1
 have h3:=(nu_rng h.ck h.cr hs).2
 rw [h.b.plan] at h3
 omega
end Go.Proofs.YtbdjcgjdmhgnmaaGreat

namespace Go.Proofs.YtbdjcgjdmhgnmaaGreat
open Go Go.RowKit
set_option linter.unusedSimpArgs false
set_option linter.unusedVariables false
theorem ents_le1 {p : Prob} {rs : List Int} {c : CtlD} {s : SigD} : (actEnts (nextP p rs c s).2).length ≤ 1:=by
 have tick : ∀ c,(actEnts (tickP p rs c).2).length ≤ 1:=fun c=>by
  unfold tickP
  split
  ·rw [ents_rep];simp
  ·unfold entA;rw [ents_cons,ents_rep];simp
 unfold nextP
 split
 ·split
  ·simp [actEnts]
  ·exact tick _
 ·split
  ·simp [actEnts]
  ·split
   ·simp [actEnts]
   ·split
    ·exact tick _
    ·split
     ·unfold ackP
      split
      ·simp [actEnts]
      ·split
       ·simp [actEnts]
       ·split
        ·dsimp only;rw [ents_rep];simp
        ·split
         ·dsimp only;unfold entA;rw [ents_cons];simp [actEnts]
         ·dsimp only;rw [ents_rep];simp
     ·split
      ·split
       ·dsimp only;unfold entA;rw [ents_cons];simp [actEnts]
       ·dsimp only;unfold entA;rw [ents_cons,ents_rep];simp
      ·split
       ·dsimp only;unfold entA;rw [ents_cons];simp [actEnts]
       ·split
        ·dsimp only;unfold entA;rw [ents_cons];simp [actEnts]
        ·simp [actEnts]
theorem lease_take {p : Prob} {rs : List Int} {a b : CtlD} (d : CtlD) (j : Nat) : replayL p rs d ((leaseL a b).take j) = (d,0):=by
 unfold leaseL
 split
 ·cases j with
  | zero=>rfl
  | succ j=>rw [List.take_succ_cons,List.take_nil];exact replay1 (by unfold oneP leaseE;rfl)
 ·rw [List.take_nil];rfl
theorem past_any {p : Prob} {rs : List Int} {l : List StepD} {c0 : CtlD} {ch : List Int} (hK : ∀ k,k ≤ 100 → PastK p rs l (pastAt p rs c0 ch k) k) (h0 : forgetP p rs c0 = c0) : ∀ (n : Nat) (m : Nat),n ≤ 100 → m ≤ (pastAt p rs c0 ch n).ents.length → ∃ k,k ≤ n ∧ replayL p rs c0 ((pastAt p rs c0 ch n).ents.take m) = (forgetP p rs (pastAt p rs c0 ch k).now,0)
 | 0, m, _, hm => ⟨0, Nat.le_refl 0, by
     have e : (pastAt p rs c0 ch 0).ents = []:=rfl
     rw [e,List.take_nil]
     exact crash_past hK h0 0 (by omega)⟩
 | n + 1,m,hn,hm=>by
  have e : (pastAt p rs c0 ch (n + 1)).ents = (pastAt p rs c0 ch n).ents ++ leaseL (pastAt p rs c0 ch n).now (nextP p rs (pastAt p rs c0 ch n).now (usefulP (pastAt p rs c0 ch n).now (ch.getD n 0))).1 ++ actEnts (nextP p rs (pastAt p rs c0 ch n).now (usefulP (pastAt p rs c0 ch n).now (ch.getD n 0))).2:=rfl
  by_cases h1 : m ≤ (pastAt p rs c0 ch n).ents.length
  ·obtain ⟨k,a,b⟩:=past_any hK h0 n m (by omega) h1
   refine ⟨k,by omega,?_⟩
   rw [e,List.append_assoc,List.take_append_of_le_length h1]
   exact b
  ·by_cases h2 : m = (pastAt p rs c0 ch (n + 1)).ents.length
   ·refine ⟨n + 1,Nat.le_refl _,?_⟩
    rw [h2,List.take_length]
    exact crash_past hK h0 (n + 1) hn
   ·refine ⟨n,by omega,?_⟩
    have hA:=ents_le1 (p:=p) (rs:=rs) (c:=(pastAt p rs c0 ch n).now) (s:=usefulP (pastAt p rs c0 ch n).now (ch.getD n 0))
    have hm':=hm
    rw [e,List.length_append,List.length_append] at hm'
    have h2' : ¬ m = (pastAt p rs c0 ch n).ents.length + (leaseL (pastAt p rs c0 ch n).now (nextP p rs (pastAt p rs c0 ch n).now (usefulP (pastAt p rs c0 ch n).now (ch.getD n 0))).1).length + (actEnts (nextP p rs (pastAt p rs c0 ch n).now (usefulP (pastAt p rs c0 ch n).now (ch.getD n 0))).2).length:=by
     rw [e,List.length_append,List.length_append] at h2;exact h2
    have e2 : (pastAt p rs c0 ch (n + 1)).ents.take m = (pastAt p rs c0 ch n).ents ++ (leaseL (pastAt p rs c0 ch n).now (nextP p rs (pastAt p rs c0 ch n).now (usefulP (pastAt p rs c0 ch n).now (ch.getD n 0))).1).take (m - (pastAt p rs c0 ch n).ents.length):=by
     rw [e,List.take_append_of_le_length (by rw [List.length_append];omega),List.take_append,List.take_of_length_le (by omega)]
    rw [e2,replayL_app (crash_past hK h0 n (by omega))]
    exact lease_take _ _
end Go.Proofs.YtbdjcgjdmhgnmaaGreat

namespace Go.Proofs.YtbdjcgjdmhgnmaaGreat
open Go Go.RowKit
set_option maxRecDepth 100000
set_option maxHeartbeats 8000000
set_option linter.unusedSimpArgs false
set_option linter.unusedVariables false
theorem tmod_rng {n m : Int} (hn : 0 ≤ n) (hm : 0 < m) : 0 ≤ n.tmod m ∧ n.tmod m < m:=by
 rw [Int.tmod_eq_emod_of_nonneg hn]
 exact ⟨Int.emod_nonneg _ (by omega),Int.emod_lt_of_pos _ hm⟩
theorem finish_law (d : DraftD) (R ch : List Int) (n : Int) (hd : draftOK d) (hR : u8s R) (hch : u8s ch) (hn : 0 ≤ n ∧ n < 256) : FnSound Tryz.prog 5 [.val true (caseC d R ch),.val false [.d (.v (.int .u8 n))]] [] { vals:=[(false,[.d (.v (.bool true))])] }:=by
 cases hk : caseOK d with
 | false =>
  have hof:=past0_fn d R ch hd hk
  refine startW (tm:=[(0,_),(1,_)]) Tryz.func5 rfl Tryz.ntmps5 rfl rfl rfl rfl ?_
  repeat' (first
 |(with_reducible refine K_ca 8 ?_);refine zC (hof) ?_
 |(with_reducible refine K_ca 9 ?_);refine zC (awake_fn) ?_
 |refine wA ?_
 |(refine wC ?_ ?_ <;> intro hc)
 |refine wB ?_ ?_
 |(with_reducible refine JL.block ?_)
 |(with_reducible refine F_at ?_);refine eW (vs:=[(_,_)]) Tryz.results5 ?_;(focus (repeat' (first | exact oA | refine oB ?_ | refine oC ?_ ?_ | fail)))
 |exact oM
 |fail)
  all_goals first | rfl
 | true =>
  by_cases hc : ch.length ≤ 40
  ·have hof:=past_fn d R ch hd hR hch hk hc
   obtain ⟨k0,k1,k2,k3,hS⟩:=now_k hd hR hch hk
   have e : newP (ofP d) (repsP R (ofP d).vs.length) (findP (ofP d)).1 = (⟨(findP (ofP d)).1,0,if (findP (ofP d)).1.length = 0 then 6 else 0,0,0,0,startM (ofP d)⟩,0):=by unfold newP;rw [if_neg (by simpa using k3),k1,if_neg (by decide)]
   have hpk : ∀ k,k ≤ 100 → PastK (ofP d) (repsP R (ofP d).vs.length) (findP (ofP d)).1 (pastAt (ofP d) (repsP R (ofP d).vs.length) (newP (ofP d) (repsP R (ofP d).vs.length) (findP (ofP d)).1).1 ch k) k:=by
    obtain ⟨n1,n2,n3,n4⟩:=newP_k k3 k1
    have n5:=newP_r k3 k1
    have n6 : (newP (ofP d) (repsP R (ofP d).vs.length) (findP (ofP d)).1).1.replica = 0:=by rw [e]
    have n7 : (newP (ofP d) (repsP R (ofP d).vs.length) (findP (ofP d)).1).1.token = 0:=by rw [e]
    exact pastAt_k n1 n5 ⟨n2,by omega,by omega,by omega⟩ n7 k3 (by omega) hch
   unfold nowAt at hS
   have hf0 : forgetP (ofP d) (repsP R (ofP d).vs.length) (newP (ofP d) (repsP R (ofP d).vs.length) (findP (ofP d)).1).1 = (newP (ofP d) (repsP R (ofP d).vs.length) (findP (ofP d)).1).1:=by
    rw [e]
    unfold forgetP
    have h1 : ¬ ((if (findP (ofP d)).1.length = 0 then (6 : Int) else 0) = 1 ∨ (if (findP (ofP d)).1.length = 0 then (6 : Int) else 0) = 2):=by split <;> decide
    have h5 : ¬ (if (findP (ofP d)).1.length = 0 then (6 : Int) else 0) = 5:=by split <;> decide
    rw [if_neg h1,if_neg h5]
   have hany:=past_any hpk hf0 ch.length
   have hq0 : (newP (ofP d) (repsP R (ofP d).vs.length) (findP (ofP d)).1).2 = 0:=(newP_k k3 k1).2.2.2
   have hen:=(hpk ch.length (by omega)).en
   generalize hp : ofP d = p at *
   generalize hr : repsP R p.vs.length = rs at *
   generalize hl : (findP p).1 = l at *
   generalize hw : (newP p rs l).1 = c0 at *
   generalize hY : pastAt p rs c0 ch ch.length = Y at *
   have htm:=tmod_rng hn.1 (m:=(Y.ents.length : Int) + 1) (by omega)
   obtain ⟨k,hk1,hk2⟩:=hany (n.tmod ((Y.ents.length : Int) + 1)).toNat (by omega) (by omega)
   have hK:=(hS k (by omega)).forget k3 (by omega)
   generalize forgetP p rs (pastAt p rs c0 ch k).now = c at hk2 hK
   have hRep : FnSound Tryz.prog 10 [.val true (probC p),.val false [.d (.sl 1 (dInts rs))],.val false [.d (.sl 3 (dSteps l))],.val false [.d (.sl 4 (dEnts (List.take ((n.tmod ((Y.ents.length : Int) + 1)).toNat - Int.toNat 0) (List.drop (Int.toNat 0) Y.ents))))]] [] { vals:=[(true,ctlC c),(false,[.d (.v (.int .i64 0))])] }:=by
    have e1 : List.take ((n.tmod ((Y.ents.length : Int) + 1)).toNat - Int.toNat 0) (List.drop (Int.toNat 0) Y.ents) = Y.ents.take (n.tmod ((Y.ents.length : Int) + 1)).toNat:=rfl
    have e2 : replayP p rs l (Y.ents.take (n.tmod ((Y.ents.length : Int) + 1)).toNat) = (c,0):=by
     unfold replayP
     rw [if_neg (fun a=>a hq0),hw,hk2]
    have:=preplay_fn p rs l (Y.ents.take (n.tmod ((Y.ents.length : Int) + 1)).toNat) k3 k1 (by omega) (by rw [List.length_take];omega)
    rw [e2] at this
    rw [e1];exact this
   have hcl:=hK.b.plan
   have hfk:=fun (j : Nat) (hj : j ≤ 1000000)=>finAt_k hK k3 (by omega) j (by omega)
   have hus : ∀ j : Nat,j ≤ 1000000 → FnSound Tryz.prog 20 [.val true (ctlC (finAt p rs c j)),.val false [.d (.v (.int .u8 0))]] [] { vals:=[(true,sigC (usefulP (finAt p rs c j) 0))] }:=fun j hj=>useful_fn p (finAt p rs c j) 0 (hfk j hj).ck (by rw [(hfk j hj).b.plan];omega) (by omega)
   have hst : ∀ j : Nat,j ≤ 1000000 → FnSound Tryz.prog 19 [.val true (probC p),.val false [.d (.sl 1 (dInts rs))],.val true (ctlC (finAt p rs c j)),.val true (sigC (usefulP (finAt p rs c j) 0))] [] { vals:=[(true,ctlC (finAt p rs c (j + 1))),(false,[.d (.sl 10 (dActs (nextP p rs (finAt p rs c j) (usefulP (finAt p rs c j) 0)).2))]),(false,[.d (.v (.int .i64 0))])] }:=fun j hj=>by
    have e:=(hfk j hj).b.plan
    exact pstep_fn p rs (finAt p rs c j) (usefulP (finAt p rs c j) 0) (k + j) (by rw [e];exact hfk j hj) (by omega) k3 (by rw [e];exact k1) (by rw [e];omega)
   have hend:=fun (j : Nat)=>fin_end (k:=j) hK (by omega) k3 (by omega)
   have h00 : finAt p rs c 0 = c:=rfl
   clear hS hpk hany hfk hf0 hq0 e
   generalize finAt p rs c = f at hus hst hend h00
   refine startW (tm:=[(0,_),(1,_)]) Tryz.func5 rfl Tryz.ntmps5 rfl rfl rfl rfl ?_
   repeat' (first
 |(with_reducible refine K_ca 8 ?_);refine zC (hof) ?_
 |(with_reducible refine K_ca 9 ?_);refine zC (awake_fn) ?_
 |(with_reducible refine K_ca 10 ?_);refine zC (hRep) ?_
 |(with_reducible refine K_ca 20 ?_);refine zC (hus j (by omega)) ?_
 |(with_reducible refine K_ca 19 ?_);refine zC (hst j (by omega)) ?_
 |(with_reducible refine blk_at (id:=0) ?_);((with_reducible refine JL.loopW 0 899 (fun (j : Nat) tm=>(50,.one false [.d (.v (.int .i64 ((j : Int))))]) :: tm) (fun (j : Nat) bo=>((1280,500),some (.st 44 [.d (.sl 3 ((dSteps (f j).plan))),.d (.v (.int .i64 ((f j).at_))),.d (.v (.int .i64 ((f j).phase))),.d (.v (.int .i64 ((f j).replica))),.d (.v (.int .i64 ((f j).round))),.d (.v (.int .i64 ((f j).token))),.d (.sl 1 ((dInts (f j).mix.base))),.d (.sl 1 ((dInts (f j).mix.next))),.d (.sl 1 ((dSets (f j).mix.held)))])) :: bo) (fun (j : Nat)=>(j : Int) ≤ 2 + 20 * (1 + (l.length : Int)) ∧ ∀ i,i < j → ¬ (f i).phase = 6) (fun (j : Nat)=>(2 + 20 * (1 + l.length)) - j) (0) ?_ (fun j hj => ?_) ?_);(focus (apply SubW [] rfl ?_ ?_ rfl ?_;(repeat' (first | exact kA | refine kB ?_ | refine kC ?_ ?_ | exact kD | fail)))))
 |((with_reducible refine round_next (i:=j) (j + 1) ?_ ?_ ?_);(focus (apply SubW [] rfl ?_ ?_ rfl ?_;(repeat' (first | exact kA | refine kB ?_ | refine kC ?_ ?_ | exact kD | fail)))))
 |refine wA ?_
 |(refine wC ?_ ?_ <;> intro hc)
 |refine wB ?_ ?_
 |(with_reducible refine JL.block ?_)
 |(with_reducible refine F_at ?_);refine eW (vs:=[(_,_)]) Tryz.results5 ?_;(focus (repeat' (first | exact oA | refine oB ?_ | refine oC ?_ ?_ | fail)))
 |exact oM
 |fail)
   all_goals first
    | (rw [h00];done)
    | rfl
    | exact ⟨by omega,fun i hi=>absurd hi (Nat.not_lt_zero i)⟩
    | (refine ⟨by omega,fun i hi => ?_⟩;by_cases e : i = j;(subst e;exact hc);exact hj.2 i (by omega))
    | exact (hend j (by omega) (by omega) hj.2).elim
    | (exfalso;omega)
   
  ·have hof:=past1_fn d R ch hd hR hk hc
   refine startW (tm:=[(0,_),(1,_)]) Tryz.func5 rfl Tryz.ntmps5 rfl rfl rfl rfl ?_
   repeat' (first
 |(with_reducible refine K_ca 8 ?_);refine zC (hof) ?_
 |(with_reducible refine K_ca 9 ?_);refine zC (awake_fn) ?_
 |refine wA ?_
 |(refine wC ?_ ?_ <;> intro hc)
 |refine wB ?_ ?_
 |(with_reducible refine JL.block ?_)
 |(with_reducible refine F_at ?_);refine eW (vs:=[(_,_)]) Tryz.results5 ?_;(focus (repeat' (first | exact oA | refine oB ?_ | refine oC ?_ ?_ | fail)))
 |exact oM
 |fail)
   all_goals first | rfl | (exfalso;omega)
end Go.Proofs.YtbdjcgjdmhgnmaaGreat

namespace Go.Proofs.YtbdjcgjdmhgnmaaGreat
open Go.ChangeShapes Go.WideShapes Go.ChangeAt Go.RowKit Go.Joins Go.Deep
set_option linter.unusedSimpArgs false
set_option linter.unusedVariables false
set_option maxRecDepth 100000 in
theorem recoveryFinish_lifted (os : Os) (started : os.Started) (H : Type) (enc : TypeId × Value → H) :
    ReturnsInHanded {} Tryz.checked os 5 .any (Rows.recoveryFinishSpec.pre6 enc Tryz.prog Tryz.f5 Rows.recoveryFinishRow.domain false) (Rows.recoveryFinishSpec.post enc Tryz.prog Tryz.f5 false true false false):=by
 refine returnsInHanded_of_change_sized (C:=Tryz.checked) own started (by kernel_rfl) Tryz.func5
  (ChangeSpec.witness6 (enc:=enc) (C:=Tryz.checked) false ⟨#[],#[.agg #[.slice none 0 0,.slice none 0 0,.slice none 0 0,.slice none 0 0,.slice none 0 0,.slice none 0 0],.int .u8 0],[]⟩ 8 (by kernel_rfl) (by kernel_rfl) (by kernel_rfl) (by kernel_rfl)) ?_
 intro W base args ds gs before hval hW hcnd hsz _
 have hW':=hW
 obtain ⟨p,q,hA0,hV,rfl,hfz,hnd⟩:=hW
 have hval' : ∀ (j : Nat) t v,Tryz.f5.params[j]? = some t → args[j]? = some v → Value.okWide Tryz.prog W .any base t v:=hval
 have hA : DataW.TrodAll enc Tryz.prog W 0 (fun _=>true) true Tryz.f5.params.toList args.toList ds p:=hA0
 rw [Tryz.params5] at hA hval'
 obtain ⟨v0,vs0,d0,ds0,p0,q0,hargs,rfl,rfl,h0,r0⟩:=trodAll_cons hA
 obtain ⟨v1,vs1,d1,ds1,p1,q1,rfl,rfl,rfl,h1,r1⟩:=trodAll_cons r0
 obtain ⟨rfl,rfl,rfl⟩:=trodAll_nil r1
 obtain rfl : args = #[v0,v1]:=by cases args;simp_all
 obtain ⟨x,R,ch,a0,k0,k1,k2⟩:=open_case (S:=S0) S0_all (hval' 0 27 v0 rfl rfl) (sz_arg hsz (j:=0) (t:=27) rfl rfl) h0
 obtain ⟨n,rfl,_,_,b1⟩:=open_int Tryz.underlying5 (hval' 1 5 v1 rfl rfl) h1
 have hn : 0 ≤ n ∧ n < 256:=by
  simp [Lit.wf,IntKind.min,IntKind.max,IntKind.signed,IntKind.bits] at b1
  omega
 have hC:=calls_of_fn (xs:=[(true,caseC x R ch),(false,[.d (.v (.int .u8 n))])]) (vals:=[v0,.int .u8 n]) (w:=W) (finish_law x R ch n k0 k1 k2 hn) rfl (fun i y hy=>match i,hy with
  | 0,hy=>by cases hy;exact a0 ρ0 _
  | 1,hy=>by cases hy;exact ⟨[.int .u8 n],.cons (.v rfl) .nil,rfl⟩
  | _ + 2,hy=>by cases hy)
 refine (hC).mono fun e W' ⟨he,hb⟩=>⟨_,he,law_post rfl laid (by kernel_rfl) (by kernel_rfl) Tryz.underlying4 hW' rfl hb⟩
theorem recoveryFinish_holds : Rows.RecoveryFinishSaid :=
 OpenClaim.holds_of_wide 5 Tryz.f5 rfl rfl rfl rfl rfl rfl rfl ⟨rfl,rfl,rfl,rfl,rfl⟩ rfl rfl rfl rfl rfl (by kernel_rfl) Tryz.func5 (by kernel_rfl)
  (of_decide_eq_true (by kernel_rfl)) (by unfold Func.isWrapper;first | (rw [if_pos (by decide +kernel)];kernel_rfl) | (rw [if_neg (by decide +kernel)];exact ⟨rfl,rfl⟩))
  (fun os started H enc _=>recoveryFinish_lifted os started H enc)
#print axioms recoveryFinish_holds
end Go.Proofs.YtbdjcgjdmhgnmaaGreat

