/- RecoveryPastSaid: true for every case. No condition. -/
import Derived.Test.YtbdjcgjdmhgnmaaGreatQA30
import Derived.Test.YtbdjcgjdmhgnmaaGreatQA36
import Derived.Test.YtbdjcgjdmhgnmaaGreatQD4
namespace Go.Proofs.YtbdjcgjdmhgnmaaGreat
open Go Go.RowKit
set_option linter.unusedSimpArgs false
set_option linter.unusedVariables false
theorem replayL_app {p : Prob} {rs : List Int} : ∀ {a b : List EntD} {c d : CtlD},replayL p rs c a = (d,0) → replayL p rs c (a ++ b) = replayL p rs d b
 | [],b,c,d,h=>by
  have : c = d:=by simpa [replayL] using h
  rw [this];rfl
 | x :: r,b,c,d,h=>by
  have e0 : replayL p rs c (x :: r) = match oneP p rs c x with | none=>(nilCtl,1) | some c'=>replayL p rs c' r:=rfl
  have e1 : replayL p rs c (x :: (r ++ b)) = match oneP p rs c x with | none=>(nilCtl,1) | some c'=>replayL p rs c' (r ++ b):=rfl
  rw [List.cons_append,e1]
  rw [e0] at h
  cases e : oneP p rs c x with
  | none=>rw [e] at h;simp at h
  | some c'=>rw [e] at h;exact replayL_app h
theorem replay1 {p : Prob} {rs : List Int} {c d : CtlD} {x : EntD} (h : oneP p rs c x = some d) : replayL p rs c [x] = (d,0):=by
 unfold replayL
 rw [h];rfl
theorem long_all {p : Prob} {rs : List Int} : ∀ {a : List EntD} {c d : CtlD},replayL p rs c a = (d,0) → longL p rs c a = a.length
 | [],c,d,h=>rfl
 | x :: r,c,d,h=>by
  unfold replayL at h
  unfold longL
  cases e : oneP p rs c x with
  | none=>rw [e] at h;simp at h
  | some c'=>rw [e] at h;simp only [long_all h,List.length_cons]
theorem forget_tok {p : Prob} {rs : List Int} {c : CtlD} (t : Int) : forgetP p rs { c with token:=t } = forgetP p rs c:=by
 unfold forgetP
 rfl
theorem ents_rep (c : CtlD) : actEnts (repeatP c) = []:=by
 unfold repeatP
 split
 ·rfl
 ·split
  ·rfl
  ·split
   ·rfl
   ·rfl
theorem ents_cons (x : EntD) (l : List ActD) : actEnts (⟨1,x,0,0,0,0,0⟩ :: l) = x :: actEnts l:=rfl
section
variable {p : Prob} {rs : List Int} {c : CtlD}
theorem crash_begin (h0 : c.phase = 0) : oneP p rs (forgetP p rs c) ⟨1,c.token,c.at_,ByteArray.empty⟩ = some (forgetP p rs (beginC p rs c)):=by
 obtain ⟨pl,a,ph,rp,rd,tk,mx⟩:=c
 simp only at h0
 subst h0
 have e : forgetP p rs ⟨pl,a,0,rp,rd,tk,mx⟩ = ⟨pl,a,0,rp,rd,0,mx⟩:=by unfold forgetP;simp
 rw [e]
 unfold oneP
 simp only [show ¬ (1 : Int) = 5 by decide,if_false,not_true_eq_false,and_self,if_true,bump,Option.some.injEq]
 unfold beginR beginC
 by_cases k3 : (present ⟨pl,a,0,rp,rd,tk,mx⟩).kind = 3
 ·have k3' : (present ⟨pl,a,0,rp,w64 (rd + 1),0,mx⟩).kind = 3:=k3
  have k1 : ¬ (present ⟨pl,a,0,rp,rd,tk,mx⟩).kind = 1:=by omega
  rw [if_pos k3',if_pos k3,if_pos k3,if_neg k1]
  unfold forgetP;simp
 ·have k3' : ¬ (present ⟨pl,a,0,rp,w64 (rd + 1),0,mx⟩).kind = 3:=k3
  rw [if_neg k3',if_neg k3,if_neg k3]
  unfold forgetP
  exact (if_pos (Or.inl rfl)).symm
theorem crash_done {f : CtlD} (hf : f.plan = c.plan ∧ f.at_ = c.at_ ∧ f.round = c.round ∧ f.token = 0 ∧ (f.phase = 1 ∨ f.phase = 4)) (hm : f.mix = c.mix) : oneP p rs f ⟨2,c.token,c.at_,ByteArray.empty⟩ = some (forgetP p rs (doneC p c)):=by
 obtain ⟨pl,a,ph,rp,rd,tk,mx⟩:=c
 obtain ⟨pl',a',ph',rp',rd',tk',mx'⟩:=f
 obtain ⟨h1,h2,h3,h4,h5⟩:=hf
 simp only at h1 h2 h3 h4 h5 hm
 subst h1 h2 h3 h4 hm
 unfold oneP
 simp only [show ¬ (2 : Int) = 5 by decide,show ¬ (2 : Int) = 1 by decide,if_false,not_true_eq_false,false_and,true_and,h5,if_true,Option.some.injEq]
 unfold doneC
 unfold forgetP
 have ph : ¬ ((if w64 (a' + 1) = (pl'.length : Int) then (6 : Int) else 0) = 1 ∨ (if w64 (a' + 1) = (pl'.length : Int) then (6 : Int) else 0) = 2):=by split <;> simp
 have ph5 : ¬ (if w64 (a' + 1) = (pl'.length : Int) then (6 : Int) else 0) = 5:=by split <;> simp
 rw [if_neg ph,if_neg ph5]
 rfl
theorem crash_next {s : SigD} (hk : CtlK p c) (hr : CtlR p rs c) : replayL p rs (forgetP p rs c) (actEnts (nextP p rs c s).2) = (forgetP p rs (nextP p rs c s).1,0):=by
 have tick : ∀ t : Int,replayL p rs (forgetP p rs c) (actEnts (tickP p rs { c with token:=t }).2) = (forgetP p rs (tickP p rs { c with token:=t }).1,0):=by
  intro t
  by_cases h0 : c.phase = 0
  ·have e : tickP p rs { c with token:=t } = (beginC p rs { c with token:=t },entA { c with token:=t } 1 :: repeatP (beginC p rs { c with token:=t })):=by unfold tickP;rw [if_neg (fun b=>b h0)]
   rw [e]
   unfold entA
   rw [ents_cons,ents_rep]
   refine replay1 ?_
   have:=crash_begin (p:=p) (rs:=rs) (c:={ c with token:=t }) h0
   rw [forget_tok] at this
   exact this
  ·have e : tickP p rs { c with token:=t } = ({ c with token:=t },repeatP { c with token:=t }):=by unfold tickP;rw [if_pos h0]
   rw [e,ents_rep,forget_tok]
   rfl
 have same : replayL p rs (forgetP p rs c) (actEnts (c,([] : List ActD)).2) = (forgetP p rs (c,([] : List ActD)).1,0):=rfl
 have hpl:=forget_plan (p:=p) (rs:=rs) (c:=c)
 have hid:=hr.idle
 have hbz:=hr.busy
 unfold nextP
 split
 ·split
  ·exact same
  ·exact tick s.token
 ·split
  ·exact same
  ·split
   ·exact congrArg (fun z=>(z,(0 : Int))) (forget_tok (p:=p) (rs:=rs) (c:=c) 0).symm
   ·split
    ·exact tick c.token
    ·split
     ·rename_i hak
      unfold ackP
      split
      ·exact same
      ·split
       ·rename_i p3
        have k1:=(hk.ph2 (.inr p3)).1
        have m1:=(hk.ph2 (.inr p3)).2
        have r1:=hbz (.inr (.inr p3)) (by omega)
        show (forgetP p rs c,(0 : Int)) = (forgetP p rs _,0)
        have e1 : forgetP p rs c = ⟨c.plan,c.at_,3,c.replica,c.round,0,c.mix⟩:=by unfold forgetP;rw [if_neg (by omega),if_neg (by omega),p3]
        have e2 : forgetP p rs { c with mix:=abortedP p c.plan c.at_,phase:=5,replica:=0 } = ⟨c.plan,c.at_,3,firstR rs (present c).idx,c.round,0,afterM p (abortedP p c.plan c.at_) (present c)⟩:=rfl
        have e3 : afterM p (abortedP p c.plan c.at_) (present c) = c.mix:=by
         rw [m1]
         exact (hk.failed p3 0).undone rfl
        rw [e1,e2,e3,r1]
       ·split
        ·rename_i p3 k1
         have p1 : c.phase = 1:=by omega
         dsimp only
         rw [ents_rep]
         show (forgetP p rs c,(0 : Int)) = (forgetP p rs _,0)
         have e1 : forgetP p rs c = ⟨c.plan,c.at_,1,firstR rs (present c).idx,c.round,0,c.mix⟩:=by unfold forgetP;rw [if_pos (.inl p1)]
         rw [e1]
         rfl
        ·split
         ·rename_i p3 k1 hq
          have p1 : c.phase = 1:=by omega
          have e1 : forgetP p rs c = ⟨c.plan,c.at_,1,firstR rs (present c).idx,c.round,0,c.mix⟩:=by unfold forgetP;rw [if_pos (.inl p1)]
          dsimp only
          unfold entA
          rw [ents_cons]
          refine replay1 (crash_done ⟨hpl.1,hpl.2.1,hpl.2.2.1,hpl.2.2.2,?_⟩ ?_)
          ·rw [e1];exact .inl rfl
          ·rw [e1]
         ·rename_i p3 k1 hq
          have p1 : c.phase = 1:=by omega
          dsimp only
          rw [ents_rep]
          show (forgetP p rs c,(0 : Int)) = (forgetP p rs _,0)
          have e1 : forgetP p rs c = ⟨c.plan,c.at_,1,firstR rs (present c).idx,c.round,0,c.mix⟩:=by unfold forgetP;rw [if_pos (.inl p1)]
          have e2 : forgetP p rs { c with replica:=w64 (c.replica + 1) } = ⟨c.plan,c.at_,1,firstR rs (present c).idx,c.round,0,c.mix⟩:=by unfold forgetP;rw [if_pos (.inl p1)];rfl
          rw [e1,e2]
     ·split
      ·rename_i hga
       have p2 : c.phase = 2:=hga.2.2
       have k1:=(hk.ph2 (.inl p2)).1
       have r1:=hbz (.inr (.inl p2)) (by omega)
       have e1 : forgetP p rs c = ⟨c.plan,c.at_,1,firstR rs (present c).idx,c.round,0,c.mix⟩:=by unfold forgetP;rw [if_pos (.inr p2)]
       split
       ·dsimp only
        unfold entA
        rw [ents_cons]
        refine replay1 (crash_done ⟨hpl.1,hpl.2.1,hpl.2.2.1,hpl.2.2.2,?_⟩ ?_)
        ·rw [e1];exact .inl rfl
        ·rw [e1]
       ·dsimp only
        unfold entA
        rw [ents_cons,ents_rep]
        refine replay1 ?_
        rw [e1]
        unfold oneP
        have kk : (present ⟨c.plan,c.at_,1,firstR rs (present c).idx,c.round,0,c.mix⟩).kind = 1:=k1
        simp only [show ¬ (3 : Int) = 5 by decide,show ¬ (3 : Int) = 1 by decide,show ¬ (3 : Int) = 2 by decide,if_false,not_true_eq_false,false_and,true_and,kk,and_self,if_true,Option.some.injEq]
        have e2 : forgetP p rs { bump c with phase:=3 } = ⟨c.plan,c.at_,3,c.replica,w64 (c.round + 1),0,c.mix⟩:=by unfold forgetP;rfl
        rw [e2,r1]
        rfl
      ·split
       ·rename_i hcl
        have p4 : c.phase = 4:=hcl.2.2.1
        have e1 : forgetP p rs c = ⟨c.plan,c.at_,4,c.replica,c.round,0,c.mix⟩:=by unfold forgetP;rw [if_neg (by omega),if_neg (by omega),p4]
        dsimp only
        unfold entA
        rw [ents_cons]
        refine replay1 (crash_done ⟨hpl.1,hpl.2.1,hpl.2.2.1,hpl.2.2.2,?_⟩ ?_)
        ·rw [e1];exact .inr rfl
        ·rw [e1]
       ·split
        ·rename_i hrs
         have p5 : c.phase = 5:=hrs.2
         have k5:=hk.ph5 p5
         have r0:=hid (by omega)
         dsimp only
         unfold entA
         rw [ents_cons]
         refine replay1 ?_
         have e1 : forgetP p rs c = ⟨c.plan,c.at_,3,firstR rs (present c).idx,c.round,0,(mixesP p c.plan).getD (c.at_ + 1).toNat nilM⟩:=by
          unfold forgetP
          rw [if_neg (by omega),if_pos p5,hk.undone p5]
         rw [e1]
         unfold oneP
         simp only [show ¬ (4 : Int) = 5 by decide,show ¬ (4 : Int) = 1 by decide,show ¬ (4 : Int) = 2 by decide,show ¬ (4 : Int) = 3 by decide,if_false,not_true_eq_false,false_and,true_and,and_self,if_true,Option.some.injEq]
         have e2 : forgetP p rs { bump c with phase:=0 } = ⟨c.plan,c.at_,0,c.replica,w64 (c.round + 1),0,c.mix⟩:=by unfold forgetP;rfl
         rw [e2,r0,k5.2]
         rfl
        ·exact same
theorem crash_lease {a b : CtlD} (d : CtlD) : replayL p rs d (leaseL a b) = (d,0):=by
 unfold leaseL
 split
 ·exact replay1 (by unfold oneP leaseE;rfl)
 ·rfl
end
theorem crash_past {p : Prob} {rs : List Int} {l : List StepD} {c0 : CtlD} {ch : List Int} (hK : ∀ k,k ≤ 100 → PastK p rs l (pastAt p rs c0 ch k) k) (h0 : forgetP p rs c0 = c0) : ∀ k,k ≤ 100 → replayL p rs c0 (pastAt p rs c0 ch k).ents = (forgetP p rs (pastAt p rs c0 ch k).now,0)
 | 0,_=>by
  show (c0,(0 : Int)) = (forgetP p rs c0,0)
  rw [h0]
 | k + 1,hk=>by
  have ih:=crash_past hK h0 k (by omega)
  have hp:=hK k (by omega)
  have e : (pastAt p rs c0 ch (k + 1)).ents = (pastAt p rs c0 ch k).ents ++ leaseL _ _ ++ actEnts _:=rfl
  rw [e,List.append_assoc,replayL_app ih,replayL_app (crash_lease _)]
  exact crash_next hp.ck hp.cr
section
variable {p : Prob} {rs : List Int} {c0 : CtlD} {ch : List Int}
theorem past_pre : ∀ {n k : Nat},k ≤ n → ∃ r,(pastAt p rs c0 ch n).ents = (pastAt p rs c0 ch k).ents ++ r
 | 0, k, h => ⟨[], by have : k = 0 := by omega
                      subst this;simp⟩
 | n + 1,k,h=>by
  by_cases e : k = n + 1
  ·subst e;exact ⟨[],by simp⟩
  ·obtain ⟨r,hr⟩:=past_pre (n:=n) (k:=k) (by omega)
   have e : (pastAt p rs c0 ch (n + 1)).ents = (pastAt p rs c0 ch n).ents ++ _ ++ _:=rfl
   exact ⟨_,by rw [e,hr,List.append_assoc,List.append_assoc]⟩
theorem past_sts : ∀ {n : Nat},(pastAt p rs c0 ch n).sts.length = n + 1 ∧ (pastAt p rs c0 ch n).cnts.length = n + 1 ∧ ∀ k,k ≤ n → (pastAt p rs c0 ch n).sts.getD k nilCtl = (pastAt p rs c0 ch k).now ∧ (pastAt p rs c0 ch n).cnts.getD k 0 = ((pastAt p rs c0 ch k).ents.length : Int)
 | 0 => ⟨rfl, rfl, fun k hk => by
     have : k = 0:=by omega
     subst this
     exact ⟨rfl,rfl⟩⟩
 | n + 1=>by
  obtain ⟨a1,a2,a3⟩:=past_sts (n:=n)
  have e1 : (pastAt p rs c0 ch (n + 1)).sts = (pastAt p rs c0 ch n).sts ++ [(pastAt p rs c0 ch (n + 1)).now]:=rfl
  have e2 : (pastAt p rs c0 ch (n + 1)).cnts = (pastAt p rs c0 ch n).cnts ++ [((pastAt p rs c0 ch (n + 1)).ents.length : Int)]:=rfl
  rw [e1,e2]
  refine ⟨by simp [a1],by simp [a2],fun k hk => ?_⟩
  by_cases e : k = n + 1
  ·subst e
   refine ⟨?_,?_⟩
   ·rw [List.getD_eq_getElem?_getD,List.getElem?_append_right (by omega),a1];simp
   ·rw [List.getD_eq_getElem?_getD,List.getElem?_append_right (by omega),a2];simp
  ·have:=a3 k (by omega)
   rw [getD_app (by omega),getD_app (by omega)]
   exact this
theorem past_take {n k : Nat} (h : k ≤ n) : (pastAt p rs c0 ch n).ents.take (pastAt p rs c0 ch k).ents.length = (pastAt p rs c0 ch k).ents:=by
 obtain ⟨r,hr⟩:=past_pre (p:=p) (rs:=rs) (c0:=c0) (ch:=ch) h
 rw [hr,List.take_left']
 rfl
end
end Go.Proofs.YtbdjcgjdmhgnmaaGreat

namespace Go.Proofs.YtbdjcgjdmhgnmaaGreat
open Go Go.RowKit
set_option maxRecDepth 100000
set_option maxHeartbeats 8000000
set_option linter.unusedSimpArgs false
set_option linter.unusedVariables false
theorem past_law (d : DraftD) (R ch : List Int) (hd : draftOK d) (hR : u8s R) (hch : u8s ch) : FnSound Tryz.prog 7 [.val true (caseC d R ch)] [] { vals:=[(false,[.d (.v (.bool true))])] }:=by
 cases hk : caseOK d with
 | false =>
  have hof:=past0_fn d R ch hd hk
  refine startW (tm:=[(0,_)]) Tryz.func7 rfl Tryz.ntmps7 rfl rfl rfl rfl ?_
  repeat' (first
 |(with_reducible refine K_ca 8 ?_);refine zC (hof) ?_
 |(with_reducible refine K_ca 9 ?_);refine zC (awake_fn) ?_
 |refine wA ?_
 |(refine wC ?_ ?_ <;> intro hc)
 |refine wB ?_ ?_
 |(with_reducible refine JL.block ?_)
 |(with_reducible refine F_at ?_);refine eW (vs:=[(_,_)]) Tryz.results7 ?_;(focus (repeat' (first | exact oA | refine oB ?_ | refine oC ?_ ?_ | fail)))
 |exact oM
 |fail)
  all_goals first | rfl
 | true =>
  by_cases hc : ch.length ≤ 40
  ·have hof:=past_fn d R ch hd hR hch hk hc
   obtain ⟨k0,k1,k2,k3,hS⟩:=now_k hd hR hch hk
   have hpk : ∀ k,k ≤ 100 → PastK (ofP d) (repsP R (ofP d).vs.length) (findP (ofP d)).1 (pastAt (ofP d) (repsP R (ofP d).vs.length) (newP (ofP d) (repsP R (ofP d).vs.length) (findP (ofP d)).1).1 ch k) k:=by
    obtain ⟨n1,n2,n3,n4⟩:=newP_k k3 k1
    have n5:=newP_r k3 k1
    have e : newP (ofP d) (repsP R (ofP d).vs.length) (findP (ofP d)).1 = (⟨(findP (ofP d)).1,0,if (findP (ofP d)).1.length = 0 then 6 else 0,0,0,0,startM (ofP d)⟩,0):=by unfold newP;rw [if_neg (by simpa using k3),k1,if_neg (by decide)]
    have n6 : (newP (ofP d) (repsP R (ofP d).vs.length) (findP (ofP d)).1).1.replica = 0:=by rw [e]
    have n7 : (newP (ofP d) (repsP R (ofP d).vs.length) (findP (ofP d)).1).1.token = 0:=by rw [e]
    exact pastAt_k n1 n5 ⟨n2,by omega,by omega,by omega⟩ n7 k3 (by omega) hch
   unfold nowAt at hS
   have hf0 : forgetP (ofP d) (repsP R (ofP d).vs.length) (newP (ofP d) (repsP R (ofP d).vs.length) (findP (ofP d)).1).1 = (newP (ofP d) (repsP R (ofP d).vs.length) (findP (ofP d)).1).1:=by
    have e : newP (ofP d) (repsP R (ofP d).vs.length) (findP (ofP d)).1 = (⟨(findP (ofP d)).1,0,if (findP (ofP d)).1.length = 0 then 6 else 0,0,0,0,startM (ofP d)⟩,0):=by unfold newP;rw [if_neg (by simpa using k3),k1,if_neg (by decide)]
    rw [e]
    unfold forgetP
    have h1 : ¬ ((if (findP (ofP d)).1.length = 0 then (6 : Int) else 0) = 1 ∨ (if (findP (ofP d)).1.length = 0 then (6 : Int) else 0) = 2):=by split <;> decide
    have h5 : ¬ (if (findP (ofP d)).1.length = 0 then (6 : Int) else 0) = 5:=by split <;> decide
    rw [if_neg h1,if_neg h5]
   have hcp:=crash_past hpk hf0
   have hq0 : (newP (ofP d) (repsP R (ofP d).vs.length) (findP (ofP d)).1).2 = 0:=(newP_k k3 k1).2.2.2
   generalize hp : ofP d = p at *
   generalize hr : repsP R p.vs.length = rs at *
   generalize hl : (findP p).1 = l at *
   generalize hw : (newP p rs l).1 = c0 at *
   obtain ⟨s1,s2,s3⟩:=past_sts (p:=p) (rs:=rs) (c0:=c0) (ch:=ch) (n:=ch.length)
   have hen:=(hpk ch.length (by omega)).en
   have htk:=fun (k : Nat) (h : k ≤ ch.length)=>past_take (p:=p) (rs:=rs) (c0:=c0) (ch:=ch) h
   have hlo:=plongest_fn p rs l (pastAt p rs c0 ch ch.length).ents k3 k1 (by omega) (by omega)
   rw [hw,long_all (hcp ch.length (by omega))] at hlo
   have hle : ∀ k : Nat,k ≤ ch.length → (pastAt p rs c0 ch k).ents.length ≤ (pastAt p rs c0 ch ch.length).ents.length:=fun k h=>by
    obtain ⟨r,e⟩:=past_pre (p:=p) (rs:=rs) (c0:=c0) (ch:=ch) h
    rw [e,List.length_append];omega
   generalize hY : pastAt p rs c0 ch ch.length = Y at *
   have hRep : ∀ k : Nat,k ≤ ch.length → FnSound Tryz.prog 10 [.val true (probC p),.val false [.d (.sl 1 (dInts rs))],.val false [.d (.sl 3 (dSteps l))],.val false [.d (.sl 4 (dEnts (List.take ((Y.cnts.getD k 0).toNat - Int.toNat 0) (List.drop (Int.toNat 0) Y.ents))))]] [] { vals:=[(true,ctlC (forgetP p rs (Y.sts.getD k nilCtl))),(false,[.d (.v (.int .i64 0))])] }:=fun k h=>by
    have e1 : List.take ((Y.cnts.getD k 0).toNat - Int.toNat 0) (List.drop (Int.toNat 0) Y.ents) = (pastAt p rs c0 ch k).ents:=by
     rw [(s3 k h).2]
     exact htk k h
    have e2 : replayP p rs l (pastAt p rs c0 ch k).ents = (forgetP p rs (Y.sts.getD k nilCtl),0):=by
     unfold replayP
     rw [if_neg (fun a=>a hq0),hw,hcp k (by omega),(s3 k h).1]
    have:=preplay_fn p rs l (pastAt p rs c0 ch k).ents k3 k1 (by omega) (by have:=hle k h;omega)
    rw [e2] at this
    rw [e1];exact this
   have hFg : ∀ k : Nat,k ≤ ch.length → FnSound Tryz.prog 22 [.val true (probC p),.val false [.d (.sl 1 (dInts rs))],.val true (ctlC (Y.sts.getD k nilCtl))] [] { vals:=[(true,ctlC (forgetP p rs (Y.sts.getD k nilCtl))),(false,[.d (.v (.int .i64 0))])] }:=fun k h=>by
    rw [(s3 k h).1]
    have hk':=hS k (by omega)
    have e:=hk'.b.plan
    exact pforget_fn p rs _ k (by rw [e];exact hk') (by omega) k3 (by rw [e];exact k1) (by rw [e];omega)
   have hSm : ∀ k : Nat,k ≤ ch.length → FnSound Tryz.prog 14 [.val true (ctlC (forgetP p rs (Y.sts.getD k nilCtl))),.val true (ctlC (forgetP p rs (Y.sts.getD k nilCtl)))] [] { vals:=[(false,[.d (.v (.bool true))])] }:=fun k h=>by
    rw [(s3 k h).1]
    have hk':=(hS k (by omega)).forget k3 (by omega)
    exact same_fn _ (by rw [hk'.b.plan];omega) hk'.ck.g.few hk'.ck.g.u
   have hcn : ∀ k : Nat,k ≤ ch.length → 0 ≤ Y.cnts.getD k 0 ∧ Y.cnts.getD k 0 ≤ (Y.ents.length : Int):=fun k h=>by
    rw [(s3 k h).2]
    have:=hle k h
    omega
   clear hcp hpk hS s3 htk hle hf0 hq0
   refine startW (tm:=[(0,_)]) Tryz.func7 rfl Tryz.ntmps7 rfl rfl rfl rfl ?_
   repeat' (first
 |(with_reducible refine K_ca 8 ?_);refine zC (hof) ?_
 |(with_reducible refine K_ca 9 ?_);refine zC (awake_fn) ?_
 |(with_reducible refine K_ca 13 ?_);refine zC (hlo) ?_
 |(with_reducible refine K_ca 10 ?_);refine zC (hRep k (by omega)) ?_
 |(with_reducible refine K_ca 22 ?_);refine zC (hFg k (by omega)) ?_
 |(with_reducible refine K_ca 14 ?_);refine zC (hSm k (by omega)) ?_
 |(with_reducible refine blk_at (id:=0) ?_);((with_reducible refine JL.loopW 0 799 (fun (k : Nat) tm=>(39,.one false [.d (.v (.int .i64 ((k : Int))))]) :: tm) (fun (k : Nat) bo=>bo) (fun (k : Nat)=>k ≤ ch.length + 1) (fun (k : Nat)=>ch.length + 1 - k) (0) ?_ (fun k hk=>have h5:=hcn k;?_) ?_);(focus (apply SubW [] rfl ?_ ?_ rfl ?_;(repeat' (first | exact kA | refine kB ?_ | refine kC ?_ ?_ | exact kD | fail)))))
 |((with_reducible refine round_next (i:=k) (k + 1) ?_ ?_ ?_);(focus (apply SubW [] rfl ?_ ?_ rfl ?_;(repeat' (first | exact kA | refine kB ?_ | refine kC ?_ ?_ | exact kD | fail)))))
 |refine wA ?_
 |(refine wC ?_ ?_ <;> intro hc)
 |refine wB ?_ ?_
 |(with_reducible refine JL.block ?_)
 |(with_reducible refine F_at ?_);refine eW (vs:=[(_,_)]) Tryz.results7 ?_;(focus (repeat' (first | exact oA | refine oB ?_ | refine oC ?_ ?_ | fail)))
 |exact oM
 |fail)
   all_goals first | rfl | (exfalso;omega) | (exfalso;exact hc rfl)
  ·have hof:=past1_fn d R ch hd hR hk hc
   refine startW (tm:=[(0,_)]) Tryz.func7 rfl Tryz.ntmps7 rfl rfl rfl rfl ?_
   repeat' (first
 |(with_reducible refine K_ca 8 ?_);refine zC (hof) ?_
 |(with_reducible refine K_ca 9 ?_);refine zC (awake_fn) ?_
 |refine wA ?_
 |(refine wC ?_ ?_ <;> intro hc)
 |refine wB ?_ ?_
 |(with_reducible refine JL.block ?_)
 |(with_reducible refine F_at ?_);refine eW (vs:=[(_,_)]) Tryz.results7 ?_;(focus (repeat' (first | exact oA | refine oB ?_ | refine oC ?_ ?_ | fail)))
 |exact oM
 |fail)
   all_goals first | rfl | (exfalso;omega)
end Go.Proofs.YtbdjcgjdmhgnmaaGreat

namespace Go.Proofs.YtbdjcgjdmhgnmaaGreat
open Go.ChangeShapes Go.WideShapes Go.ChangeAt Go.RowKit Go.Joins Go.Deep
set_option linter.unusedSimpArgs false
set_option linter.unusedVariables false
set_option maxRecDepth 100000 in
theorem recoveryPast_lifted (os : Os) (started : os.Started) (H : Type) (enc : TypeId × Value → H) :
    ReturnsInHanded {} Tryz.checked os 7 .any (Rows.recoveryPastSpec.pre6 enc Tryz.prog Tryz.f7 Rows.recoveryPastRow.domain false) (Rows.recoveryPastSpec.post enc Tryz.prog Tryz.f7 false true false false):=by
 refine returnsInHanded_of_change_sized (C:=Tryz.checked) own started (by kernel_rfl) Tryz.func7
  (ChangeSpec.witness6 (enc:=enc) (C:=Tryz.checked) false ⟨#[],#[.agg #[.slice none 0 0,.slice none 0 0,.slice none 0 0,.slice none 0 0,.slice none 0 0,.slice none 0 0]],[]⟩ 8 (by kernel_rfl) (by kernel_rfl) (by kernel_rfl) (by kernel_rfl)) ?_
 intro W base args ds gs before hval hW hcnd hsz _
 have hW':=hW
 obtain ⟨p,q,hA0,hV,rfl,hfz,hnd⟩:=hW
 have hval' : ∀ (j : Nat) t v,Tryz.f7.params[j]? = some t → args[j]? = some v → Value.okWide Tryz.prog W .any base t v:=hval
 have hA : DataW.TrodAll enc Tryz.prog W 0 (fun _=>true) true Tryz.f7.params.toList args.toList ds p:=hA0
 rw [Tryz.params7] at hA hval'
 obtain ⟨v0,vs0,d0,ds0,p0,q0,hargs,rfl,rfl,h0,r0⟩:=trodAll_cons hA
 obtain ⟨rfl,rfl,rfl⟩:=trodAll_nil r0
 obtain rfl : args = #[v0]:=by cases args;simp_all
 obtain ⟨x,R,ch,a0,k0,k1,k2⟩:=open_case (S:=S0) S0_all (hval' 0 27 v0 rfl rfl) (sz_arg hsz (j:=0) (t:=27) rfl rfl) h0
 have hC:=calls_of_fn (xs:=[(true,caseC x R ch)]) (vals:=[v0]) (w:=W) (past_law x R ch k0 k1 k2) rfl (fun i y hy=>match i,hy with
  | 0,hy=>by cases hy;exact a0 ρ0 _
  | _ + 1,hy=>by cases hy)
 refine (hC).mono fun e W' ⟨he,hb⟩=>⟨_,he,law_post rfl laid (by kernel_rfl) (by kernel_rfl) Tryz.underlying4 hW' rfl hb⟩
theorem recoveryPast_holds : Rows.RecoveryPastSaid :=
 OpenClaim.holds_of_wide 7 Tryz.f7 rfl rfl rfl rfl rfl rfl rfl ⟨rfl,rfl,rfl,rfl,rfl⟩ rfl rfl rfl rfl rfl (by kernel_rfl) Tryz.func7 (by kernel_rfl)
  (of_decide_eq_true (by kernel_rfl)) (by unfold Func.isWrapper;first | (rw [if_pos (by decide +kernel)];kernel_rfl) | (rw [if_neg (by decide +kernel)];exact ⟨rfl,rfl⟩))
  (fun os started H enc _=>recoveryPast_lifted os started H enc)
#print axioms recoveryPast_holds
end Go.Proofs.YtbdjcgjdmhgnmaaGreat

