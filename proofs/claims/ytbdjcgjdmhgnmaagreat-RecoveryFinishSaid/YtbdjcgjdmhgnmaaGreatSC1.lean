/- Rules and contracts. -/
import Derived.Test.YtbdjcgjdmhgnmaaGreatQA29
import Derived.Test.YtbdjcgjdmhgnmaaGreatQD3
namespace Go.Proofs.YtbdjcgjdmhgnmaaGreat
open Go.ChangeShapes Go.WideShapes Go.ChangeAt Go.RowKit Go.Joins Go.Deep
set_option linter.unusedSimpArgs false
set_option linter.unusedVariables false
set_option maxRecDepth 100000
theorem pick_list {α : Type} {n : Nat} {p : Nat → α → Prop} (h : ∀ i,i < n → ∃ e,p i e) : ∃ l : List α,l.length = n ∧ ∀ i (hi : i < l.length),p i l[i]:=by
 induction n with
 | zero=>exact ⟨[],rfl,fun i hi=>by simp at hi⟩
 | succ n ih =>
  obtain ⟨l,h1,h2⟩:=ih (fun i hi=>h i (by omega))
  obtain ⟨e,he⟩:=h n (by omega)
  refine ⟨l ++ [e],by simp [h1],fun i hi => ?_⟩
  by_cases hc : i < l.length
  ·rw [List.getElem_append_left hc];exact h2 i hc
  ·have : i = l.length:=by simp at hi;omega
   subst this
   rw [List.getElem_append_right (Nat.le_refl _)]
   simpa [h1] using he
section
variable {H : Type} {enc : TypeId × Value → H} {P : Program} {w : World} {base : Nat} {spare : Nat → Bool} {held : Bool}
def Sz (P : Program) (t : TypeId) (d : DataW H) : Prop := ∀ n ∈ d.weights P t,n ≤ reachBytes
theorem sz_arg {ts : List TypeId} {ds : List (DataW H)} (h : (DataW.weightsEach P ts ds).all (· ≤ reachBytes) = true) {j : Nat} {t : TypeId} {d : DataW H} (ht : ts[j]? = some t) (hd : ds[j]? = some d) : Sz P t d:=fun n hn=>by
 have:=List.all_eq_true.1 h _ (DataW.weights_mem_each ht hd n hn)
 simpa using this
theorem weightsAll_mem {e : TypeId} : ∀ {l : List (DataW H)} {d : DataW H},d ∈ l → ∀ n ∈ d.weights P e,n ∈ DataW.weightsAll P e l
 | a :: l,d,hd,n,hn=>by
  simp only [DataW.weightsAll,List.mem_append]
  rcases List.mem_cons.1 hd with rfl | hd
  ·exact Or.inl hn
  ·exact Or.inr (weightsAll_mem hd n hn)
theorem trod_fields {t : TypeId} {fs : Array Field} {fuel : Nat} {cs : List Value} {x : DataW H × List MemPlace} (ht : P.underlying t = some (.struct fs)) (hs : Sz P t x.1) (h : DataW.trod enc P w base spare held fuel t cs = some x) :
    ∃ n,cs.length = P.cellsOf t ∧ ∀ (j : Nat) (f : Field),fs[j]? = some f → ∃ y,DataW.trod enc P w base spare held n f.type ((cs.drop f.offset).take (P.cellsOf f.type)) = some y ∧ Sz P f.type y.1:=by
 obtain ⟨ys,n',_,hy,hlen,hyl,hfd⟩:=DataW.trod_struct ht h
 refine ⟨n',hlen,fun j f hj => ?_⟩
 have hjl : j < fs.size:=(Array.getElem?_eq_some_iff.1 hj).1
 have hys : ys[j]? = some (ys[j]'(by omega)):=List.getElem?_eq_getElem (by omega)
 refine ⟨_,(hfd j f hj).trans hys,fun n hn=>hs n ?_⟩
 rw [hy]
 simp only [DataW.weights,ht]
 exact DataW.weights_mem_each (j:=j) (t:=f.type) (by simp [hj]) (by simp [hys]) n hn
theorem trod_elems {t e : TypeId} {fuel : Nat} {v : Value} {x : DataW H × List MemPlace} (ht : P.underlying t = some (.slice e)) {k : Nat} (hC : P.cellsOf e = k) (hpos : 0 < k) (hs : Sz P t x.1) (hby : decide (0 < P.bytesOf e) = true) (hf : DataW.trod enc P w base spare held fuel t [v] = some x) :
    ∃ (A : Option Addr) (n c : Nat),v = .slice A n c ∧ n ≤ reachBytes ∧ n ≤ c ∧ ∀ i,i < n → ∃ b off,A = some ⟨b,off,none⟩ ∧ b < w.heap.size ∧
     ∃ (cs : List Value) (y : DataW H × List MemPlace) (m : Nat),cs.length = k ∧ (∀ j,j < k → w.cell? ⟨b,off + (i * k + j),none⟩ = cs[j]?) ∧ DataW.trod enc P w base spare held m e cs = some y ∧ Sz P e y.1:=by
 rcases open_slice ht hf with ⟨h0,_⟩ | ⟨a,len,cap,m,k',D,Pl,hcs,_,hl,hm,hmm,hx,hi⟩
 ·simp at h0
  subst h0
  exact ⟨_,_,_,rfl,by simp,Nat.le_refl _,fun i hi=>absurd hi (by omega)⟩
 ·simp at hcs
  subst hcs
  have hw : len * P.bytesOf e ≤ reachBytes:=by
   have:=hs ((len + (m - len)) * P.bytesOf e) (by rw [hx];simp [DataW.weights,ht])
   exact Nat.le_trans (Nat.mul_le_mul_right _ (by omega)) this
  refine ⟨_,_,_,rfl,Nat.le_trans (Nat.le_mul_of_pos_right len (of_decide_eq_true hby)) hw,hl,?_⟩
  have hnm : len ≤ m:=by rw [hmm];split <;> omega
  rw [hC] at hi
  have key : ∀ i,i < len → ∃ (cs : List Value) (y : DataW H × List MemPlace) (m : Nat),cs.length = k ∧ (∀ j,j < k → w.cell? (a.add (i * k + j)) = cs[j]?) ∧ DataW.trod enc P w base spare held m e cs = some y ∧ Sz P e y.1:=by
   intro i hin
   obtain ⟨cs',hc,ht'⟩:=hi i (by omega)
   obtain ⟨_,hcl,hat⟩:=World.cells?_some hc
   exact ⟨cs',_,_,hcl,fun j hj=>by rw [← Go.Deep.add_add];exact hat j hj,ht',fun n hn=>hs n (by
    rw [hx]
    simp only [DataW.weights,ht,List.mem_cons,List.mem_append]
    exact Or.inr (Or.inl (weightsAll_mem (List.mem_map.2 ⟨i,List.mem_range.2 hin,rfl⟩) n hn)))⟩
  intro i hin
  obtain ⟨cs0,y0,m0,hl0,hc0,_,_⟩:=key 0 (by omega)
  have hu:=hc0 0 hpos
  simp only [Nat.zero_mul,Nat.add_zero] at hu
  have hadd0 : a.add 0 = a:=by simp [Addr.add]
  rw [hadd0,List.getElem?_eq_getElem (by omega)] at hu
  obtain ⟨b,off,rfl,hb⟩:=addr_of_cell hu
  obtain ⟨cs,y,m1,h1,h2,h3⟩:=key i hin
  exact ⟨b,off,rfl,hb,cs,y,m1,h1,fun j hj=>by rw [← h2 j hj,addr_add_none],h3⟩
end
section
variable {H : Type} {enc : TypeId × Value → H} {P : Program} {w : World} {base : Nat} {spare : Nat → Bool} {held : Bool} {S : Nat → Prop}
def RowAt (S : Nat → Prop) (w : World) (row : List D) (cs : List Value) : Prop:=row.length = cs.length ∧ ∀ (j : Nat) (d : D),row[j]? = some d → ∃ u,cs[j]? = some u ∧ Rd S w d u
theorem RowAt.one {d : D} {u : Value} (h : Rd S w d u) : RowAt S w [d] [u]:=⟨rfl,fun j d' hj=>by
 match j,hj with
 | 0,hj=>simp at hj;subst hj;exact ⟨u,rfl,h⟩
 | j + 1,hj=>simp at hj⟩
theorem RowAt.cons {d : D} {u : Value} {row : List D} {cs : List Value} (h : Rd S w d u) (t : RowAt S w row cs) : RowAt S w (d :: row) (u :: cs):=⟨by simp [t.1],fun j d' hj=>by
 match j,hj with
 | 0,hj=>simp at hj;subst hj;exact ⟨u,rfl,h⟩
 | j + 1,hj=>exact t.2 j d' (by simpa using hj)⟩
theorem open_rd {α : Type} (hS : ∀ b, S b) (f : α → List D) (Q : α → Prop) {t e : TypeId} {fuel : Nat} {v : Value} {x : DataW H × List MemPlace} (ht : P.underlying t = some (.slice e)) {k : Nat} (hC : P.cellsOf e = k) (hpos : 0 < k) (hs : Sz P t x.1) (hby : decide (0 < P.bytesOf e) = true) (hf : DataW.trod enc P w base spare held fuel t [v] = some x)
    (hel : ∀ (cs : List Value) (y : DataW H × List MemPlace) (m : Nat),cs.length = k → DataW.trod enc P w base spare held m e cs = some y → Sz P e y.1 → ∃ x : α,RowAt S w (f x) cs ∧ Q x) :
    ∃ l : List α,Rd S w (.sl k (l.map f)) v ∧ l.length ≤ reachBytes ∧ ∀ x ∈ l,Q x:=by
 obtain ⟨A,n,c,rfl,hn,hnc,hi⟩:=trod_elems ht hC hpos hs hby hf
 have hex : ∀ i,i < n → ∃ x : α,(∃ b off cs,A = some ⟨b,off,none⟩ ∧ b < w.heap.size ∧ List.length cs = k ∧ (∀ j,j < k → w.cell? ⟨b,off + (i * k + j),none⟩ = cs[j]?) ∧ RowAt S w (f x) cs) ∧ Q x:=fun i hin=>by
  obtain ⟨b,off,hA,hb,cs,y,m,hl,hc,ht',hsy⟩:=hi i hin
  obtain ⟨x,h1,h2⟩:=hel cs y m hl ht' hsy
  exact ⟨x,⟨b,off,cs,hA,hb,hl,hc,h1⟩,h2⟩
 obtain ⟨l,hl,hE⟩:=pick_list hex
 refine ⟨l,?_,by omega,fun x hx=>by obtain ⟨i,hi',rfl⟩:=List.getElem_of_mem hx;exact (hE i hi').2⟩
 have hlen : (l.map f).length = n:=by simp [hl]
 have hat : ∀ (i : Nat) (row : List D),(l.map f)[i]? = some row → ∃ (h : i < l.length),row = f l[i]:=fun i row h=>by
  rw [List.getElem?_map] at h
  obtain ⟨y,h1,h2⟩:=Option.map_eq_some_iff.1 h
  obtain ⟨h3,h4⟩:=List.getElem?_eq_some_iff.1 h1
  exact ⟨h3,by rw [← h2,h4]⟩
 by_cases h0 : n = 0
 ·subst h0
  obtain rfl : l = []:=List.length_eq_zero_iff.1 hl
  exact Rd.sl (rows:=[]) (A:=A) (c:=c) (b:=0) (o:=0) (cv:=fun _ _=>undef) (by simp) (by simp) (fun h=>absurd rfl h) (by simp) (by simp) (by simp)
 ·obtain ⟨⟨b,off,cs0,hA,hb,_⟩,_⟩:=hE 0 (by omega)
  have key : ∀ (i : Nat) (row : List D) (j : Nat) (d : D),(l.map f)[i]? = some row → row[j]? = some d → ∃ u,w.cell? ⟨b,off + (i * k + j),none⟩ = some u ∧ Rd S w d u:=by
   intro i row j d h1 h2
   obtain ⟨hil,rfl⟩:=hat i row h1
   obtain ⟨⟨b',off',cs,hA',_,hcl,hc,hr⟩,_⟩:=hE i hil
   rw [hA] at hA'
   cases hA'
   obtain ⟨u,u1,u2⟩:=hr.2 j d h2
   have hjk : j < k:=by
    rcases Nat.lt_or_ge j cs.length with h | h
    ·omega
    ·rw [List.getElem?_eq_none h] at u1;cases u1
   exact ⟨u,by rw [hc j hjk];exact u1,u2⟩
  have:=Rd.sl (S:=S) (w:=w) (sz:=k) (rows:=l.map f) (A:=A) (c:=c) (b:=b) (o:=off) (cv:=fun i j=>(w.cell? ⟨b,off + (i * k + j),none⟩).getD undef) (by omega) (by rw [hlen];unfold reachBytes at hn;omega) (fun _=>⟨hA,hb,hS b⟩)
   (fun i row h1=>by
    obtain ⟨hil,rfl⟩:=hat i row h1
    obtain ⟨⟨_,_,cs,_,_,hcl,_,hr⟩,_⟩:=hE i hil
    rw [hr.1,hcl])
   (fun i row j d h1 h2=>by obtain ⟨u,u1,u2⟩:=key i row j d h1 h2;simp [u1])
   (fun i row j d h1 h2=>by obtain ⟨u,u1,u2⟩:=key i row j d h1 h2;simpa [u1] using u2)
  rw [hlen] at this
  exact this
theorem trod_bool' {n : Nat} {t : TypeId} {v : Value} {y : DataW H × List MemPlace} (ht : P.underlying t = some .bool) (h : DataW.trod enc P w base spare held n t [v] = some y) : ∃ b,v = .bool b:=by
 obtain ⟨b,h1,_⟩:=DataW.trod_bool ht h
 simp at h1
 exact ⟨b,h1⟩
end
section
variable {H : Type} {enc : TypeId × Value → H} {w : World} {base : Nat} {spare : Nat → Bool} {held : Bool} {S : Nat → Prop}
theorem trod_u16 {P : Program} {n : Nat} {t : TypeId} {v : Value} {y : DataW H × List MemPlace} (ht : P.underlying t = some (.int .u16)) (h : DataW.trod enc P w base spare held n t [v] = some y) : ∃ z,v = .int .u16 z ∧ (0 ≤ z ∧ z < 65536):=by
 obtain ⟨z,h1,_,h2⟩:=DataW.trod_int ht h
 simp at h1
 refine ⟨z,h1,?_⟩
 simp [Lit.wf,IntKind.min,IntKind.max,IntKind.signed,IntKind.bits] at h2
 omega
theorem open_setsD (hS : ∀ b,S b) {fuel : Nat} {v : Value} {x : DataW H × List MemPlace} (hs : Sz Tryz.prog 22 x.1) (hf : DataW.trod enc Tryz.prog w base spare held fuel 22 [v] = some x) : ∃ l : List Int,Rd S w (.sl 1 (dSets l)) v ∧ u8s l:=by
 obtain ⟨l,h1,h2,h3⟩:=open_rd (S:=S) hS (fun x : Int=>[.v (.int .u8 x)]) (fun x=>0 ≤ x ∧ x < 256) Tryz.underlying22 (k:=1) (by kernel_rfl) (by decide) hs (by kernel_rfl) hf (fun cs y m hl ht hsy=>by
  match cs,hl with
  | [u],_ =>
   obtain ⟨z,rfl,hz⟩:=trod_u8 Tryz.underlying5 ht
   exact ⟨z,RowAt.one (.v rfl),by omega⟩)
 exact ⟨l,h1,h3⟩
theorem open_linksD (hS : ∀ b,S b) {fuel : Nat} {v : Value} {x : DataW H × List MemPlace} (hs : Sz Tryz.prog 23 x.1) (hf : DataW.trod enc Tryz.prog w base spare held fuel 23 [v] = some x) : ∃ l : List LinkD,Rd S w (.sl 6 (dLinks l)) v ∧ ∀ t ∈ l,linkOK t:=by
 have cI : Tryz.prog.cellsOf 5 = 1:=by kernel_rfl
 have cB : Tryz.prog.cellsOf 4 = 1:=by kernel_rfl
 have cM : Tryz.prog.cellsOf 54 = 1:=by kernel_rfl
 obtain ⟨l,h1,h2,h3⟩:=open_rd (S:=S) hS linkRow linkOK Tryz.underlying23 (k:=6) (by kernel_rfl) (by decide) hs (by kernel_rfl) hf (fun cs y m hl ht hsy=>by
  obtain ⟨n',_,hfd⟩:=trod_fields Tryz.underlying144 hsy ht
  match cs,hl with
  | [u0,u1,u2,u3,u4,u5],_ =>
   obtain ⟨y0,t0,_⟩:=hfd 0 _ rfl
   obtain ⟨y1,t1,_⟩:=hfd 1 _ rfl
   obtain ⟨y2,t2,_⟩:=hfd 2 _ rfl
   obtain ⟨y3,t3,_⟩:=hfd 3 _ rfl
   obtain ⟨y4,t4,s4⟩:=hfd 4 _ rfl
   obtain ⟨y5,t5,s5⟩:=hfd 5 _ rfl
   simp [cI,cB,cM] at t0 t1 t2 t3 t4 t5
   obtain ⟨z0,rfl,a0⟩:=trod_u8 Tryz.underlying5 t0
   obtain ⟨z1,rfl,a1⟩:=trod_u8 Tryz.underlying5 t1
   obtain ⟨z2,rfl,a2⟩:=trod_u8 Tryz.underlying5 t2
   obtain ⟨z3,rfl⟩:=trod_bool' Tryz.underlying4 t3
   obtain ⟨z4,rfl,a4⟩:=trod_u16 Tryz.underlying54 t4
   obtain ⟨z5,rfl,a5⟩:=trod_u16 Tryz.underlying54 t5
   exact ⟨⟨z0,z1,z2,z3,z4,z5⟩,.cons (.v rfl) (.cons (.v rfl) (.cons (.v rfl) (.cons (.v rfl) (.cons (.v rfl) (.one (.v rfl)))))),⟨by simp only;omega,by simp only;omega⟩,⟨by simp only;omega,by simp only;omega⟩,⟨by simp only;omega,by simp only;omega⟩,⟨by simp only;omega,by simp only;omega⟩,⟨by simp only;omega,by simp only;omega⟩⟩)
 exact ⟨l,h1,h3⟩
theorem open_case (hS : ∀ b, S b) {r : Reach} {b0 : Nat} {v : Value} {d : DataW H} {p : List MemPlace} (hv : Value.okWide Tryz.prog w r b0 27 v) (hs : Sz Tryz.prog 27 d) (h : DataW.Trod enc Tryz.prog w base spare held 27 v d p) :
    ∃ (x : DraftD) (R ch : List Int),(∀ (ρ : Key → Hd) (ok : Key → Prop),AVRel (CRel S ρ ok w) (.one true (caseC x R ch)) v) ∧ draftOK x ∧ u8s R ∧ u8s ch:=by
 have cI : Tryz.prog.cellsOf 22 = 1:=by kernel_rfl
 have cT : Tryz.prog.cellsOf 23 = 1:=by kernel_rfl
 have c4 : Tryz.prog.cellsOf 25 = 4:=by kernel_rfl
 have c6 : Tryz.prog.cellsOf 27 = 6:=by kernel_rfl
 unfold Value.okWide at hv
 rw [Tryz.underlying27] at hv
 obtain ⟨cs,rfl,hsz,_⟩:=hv
 obtain ⟨fuel,hf⟩:=h
 obtain ⟨n,hl,hfd⟩:=trod_fields Tryz.underlying27 (by exact hs) hf
 rw [c6] at hsz
 obtain ⟨cs⟩:=cs
 match cs,hsz with
 | [u0,u1,u2,u3,u4,u5],_ =>
  obtain ⟨yd,td,sd⟩:=hfd 0 _ rfl
  obtain ⟨y4,t4,s4⟩:=hfd 1 _ rfl
  obtain ⟨y5,t5,s5⟩:=hfd 2 _ rfl
  simp [cI,c4,Value.cells] at td t4 t5
  obtain ⟨n',hl',hfe⟩:=trod_fields Tryz.underlying25 sd td
  obtain ⟨y0,t0,s0⟩:=hfe 0 _ rfl
  obtain ⟨y1,t1,s1⟩:=hfe 1 _ rfl
  obtain ⟨y2,t2,s2⟩:=hfe 2 _ rfl
  obtain ⟨y3,t3,s3⟩:=hfe 3 _ rfl
  clear hfd hf hl hfe
  simp [cI,cT,Value.cells] at t0 t1 t2 t3
  obtain ⟨l0,r0,q0⟩:=open_setsD hS s0 t0
  obtain ⟨l1,r1,q1⟩:=open_setsD hS s1 t1
  obtain ⟨l2,r2,q2⟩:=open_setsD hS s2 t2
  obtain ⟨l3,r3,q3⟩:=open_linksD hS s3 t3
  obtain ⟨l4,r4,q4⟩:=open_setsD hS s4 t4
  obtain ⟨l5,r5,q5⟩:=open_setsD hS s5 t5
  exact ⟨⟨l0,l1,l2,l3⟩,l4,l5,fun ρ ok=>⟨[u0,u1,u2,u3,u4,u5],.cons r0 (.cons r1 (.cons r2 (.cons r3 (.cons r4 (.cons r5 .nil))))),by simp⟩,⟨q0,q1,q2,q3⟩,q4,q5⟩
end
def ρ0 : Key → Hd:=fun _=>⟨none,none,0,0,0⟩
def S0 : Nat → Prop:=Im (fun _=>False) ρ0 (lk ([] : List (Key × Box)))
theorem S0_all (b : Nat) : S0 b:=⟨fun h=>h,fun q box hq=>by cases hq⟩
def valArgs (xs : List (Bool × List C)) : List Arg:=xs.map fun x=>.val x.1 x.2
theorem argTm_val : ∀ (xs : List (Bool × List C)) (i t : Nat) (av : AV),lk (argTm i (valArgs xs)) t = some av → i ≤ t ∧ ∃ x,xs[t - i]? = some x ∧ av = .one x.1 x.2
 | [],i,t,av,h=>by cases h
 | x :: xs,i,t,av,h=>by
  have h' : (if t = i then some (AV.one x.1 x.2) else lk (argTm (i + 1) (valArgs xs)) t) = some av:=h
  split at h'
  ·rename_i e
   subst e
   cases h'
   exact ⟨Nat.le_refl _,x,by simp,rfl⟩
  ·obtain ⟨h1,y,h2,h3⟩:=argTm_val xs (i + 1) t av h'
   refine ⟨by omega,y,?_,h3⟩
   rw [show t - i = (t - (i + 1)) + 1 by omega,List.getElem?_cons_succ]
   exact h2
theorem argBx_val : ∀ (xs : List (Bool × List C)) (i : Nat),argBx i (valArgs xs) = []
 | [],_=>rfl
 | x :: xs,i=>argBx_val xs (i + 1)
theorem calls_of_fn {P : Program} {f : FuncId} {xs : List (Bool × List C)} {vals : List Value} {w : World} (h : FnSound P f (valArgs xs) [] { vals := [(false, [.d (.v (.bool true))])] }) (hl : vals.length = xs.length)
    (hv : ∀ (i : Nat) (x : Bool × List C),xs[i]? = some x → AVRel (CRel S0 ρ0 (fun q=>q.2 < 1) w) (.one x.1 x.2) (vals.getD i undef)) : Calls P f vals.toArray w fun e w'=>e = .returned (.bool true) ∧ Below w.heap.size w w':=by
 have:=h (fun _=>False) (fun _=>False) ρ0 ρ0 w vals (by simp [valArgs,hl])
  ⟨by simp,rfl,(fun t av ht=>by
   obtain ⟨_,x,h2,rfl⟩:=argTm_val xs 0 t av ht
   have h3 : xs[t]? = some x:=by simpa using h2
   refine ⟨by rw [hl];exact (List.getElem?_eq_some_iff.1 h3).1,?_⟩
   have e1 : (⟨vals.toArray,[]⟩ : Act).tmps.getD t undef = vals.getD t undef:=by simp [Array.getD_eq_getD_getElem?]
   rw [e1,argBx_val]
   exact hv t x h3),(fun q box hq=>by rw [argBx_val] at hq;cases hq),(fun q1 b1 q2 b2 b e1=>by rw [argBx_val] at e1;cases e1),(fun q box b hq=>by rw [argBx_val] at hq;cases hq),Keep.refl _ _,(fun b hb=>False.elim hb),(fun q hq=>⟨by omega,rfl⟩)⟩
 refine this.mono ?_
 rintro e w' ⟨v,ρ',rfl,hR⟩
 have h1:=(hR.tm 0 _ rfl).2
 have h2 : v = .bool true:=conV_sound (av:=.one false [.d (.v (.bool true))]) (x:=.bool true) rfl h1
 exact ⟨by rw [h2],hR.fr.below (Nat.le_refl _) (fun b _ h=>h)⟩
end Go.Proofs.YtbdjcgjdmhgnmaaGreat

namespace Go.Proofs.YtbdjcgjdmhgnmaaGreat
open Go Go.RowKit
set_option maxRecDepth 100000
set_option maxHeartbeats 8000000
set_option linter.unusedSimpArgs false
set_option linter.unusedVariables false
theorem ofNoC_fn (d : DraftD) (R ch : List Int) (hd : draftOK d) (h : ¬ (caseOK d = true ∧ ch.length ≤ 40)) : FnSound Tryz.prog 21 [.val true (caseC d R ch)] [] { vals:=[(true,probC (ofP d)),(false,[.d (.sl 1 [])]),(true,ctlC nilCtl),(false,[.d (.v (.bool false))])] }:=by
 cases ho : ofOK d with
 | false =>
  have hof:=ofNo_fn d ho
  have e : ofP d = nilP:=by unfold ofP;rw [ho];rfl
  rw [e]
  refine startW (tm:=[(0,_)]) Tryz.func21 rfl Tryz.ntmps21 rfl rfl rfl rfl ?_
  repeat' (first
 |(with_reducible refine rgn 11 1100 ?_ ?_);exact rfl
 |(with_reducible refine rgn 12 1200 ?_ ?_);exact rfl
 |(with_reducible refine rgn 13 1300 ?_ ?_);exact rfl
 |(with_reducible refine rgn 14 1400 ?_ ?_);exact rfl
 |(with_reducible refine rgn 10 1500 ?_ ?_);exact rfl
 |(with_reducible refine rgn 19 1900 ?_ ?_);exact rfl
 |(with_reducible refine rgn 18 2000 ?_ ?_);exact rfl
 |(with_reducible refine K_ca 38 ?_);refine zC (hof) ?_
 |refine wA ?_
 |(refine wC ?_ ?_ <;> intro hc)
 |refine wB ?_ ?_
 |(with_reducible refine JL.block ?_)
 |(with_reducible refine F_at ?_);refine eW (vs:=[(_,_),(_,_),(_,_),(_,_)]) Tryz.results21 ?_;(focus (repeat' (first | exact oA | refine oB ?_ | refine oC ?_ ?_ | fail)))
 |exact oM
 |fail)
  all_goals first | rfl | (exfalso;omega)
 | true =>
  have hof:=of_fn d hd ho
  have hv:=ofP_sound hd ho
  by_cases h40 : ch.length ≤ 40
  ·have hlf:=lightOK_fn (ofP d) hv 120 (by omega)
   have h : ¬ caseOK d = true:=fun b=>h ⟨b,h40⟩
   unfold caseOK at h
   rw [ho,Bool.true_and] at h
   cases hli : lightP (ofP d) 120 with
   | false =>
    rw [hli] at hlf
    refine startW (tm:=[(0,_)]) Tryz.func21 rfl Tryz.ntmps21 rfl rfl rfl rfl ?_
    repeat' (first
 |(with_reducible refine rgn 11 1100 ?_ ?_);exact rfl
 |(with_reducible refine rgn 12 1200 ?_ ?_);exact rfl
 |(with_reducible refine rgn 13 1300 ?_ ?_);exact rfl
 |(with_reducible refine rgn 14 1400 ?_ ?_);exact rfl
 |(with_reducible refine rgn 10 1500 ?_ ?_);exact rfl
 |(with_reducible refine rgn 19 1900 ?_ ?_);exact rfl
 |(with_reducible refine rgn 18 2000 ?_ ?_);exact rfl
 |(with_reducible refine K_ca 38 ?_);refine zC (hof) ?_
 |(with_reducible refine K_ca 39 ?_);refine zC (hlf) ?_
 |refine wA ?_
 |(refine wC ?_ ?_ <;> intro hc)
 |refine wB ?_ ?_
 |(with_reducible refine JL.block ?_)
 |(with_reducible refine F_at ?_);refine eW (vs:=[(_,_),(_,_),(_,_),(_,_)]) Tryz.results21 ?_;(focus (repeat' (first | exact oA | refine oB ?_ | refine oC ?_ ?_ | fail)))
 |exact oM
 |fail)
    all_goals first | rfl | (exfalso;omega)
   | true =>
    rw [hli] at hlf
    rw [hli,Bool.true_and,decide_eq_true_eq] at h
    have hff:=findOK_fn (ofP d) hv
    refine startW (tm:=[(0,_)]) Tryz.func21 rfl Tryz.ntmps21 rfl rfl rfl rfl ?_
    repeat' (first
 |(with_reducible refine rgn 11 1100 ?_ ?_);exact rfl
 |(with_reducible refine rgn 12 1200 ?_ ?_);exact rfl
 |(with_reducible refine rgn 13 1300 ?_ ?_);exact rfl
 |(with_reducible refine rgn 14 1400 ?_ ?_);exact rfl
 |(with_reducible refine rgn 10 1500 ?_ ?_);exact rfl
 |(with_reducible refine rgn 19 1900 ?_ ?_);exact rfl
 |(with_reducible refine rgn 18 2000 ?_ ?_);exact rfl
 |(with_reducible refine K_ca 38 ?_);refine zC (hof) ?_
 |(with_reducible refine K_ca 39 ?_);refine zC (hlf) ?_
 |(with_reducible refine K_ca 40 ?_);refine zC (hff) ?_
 |refine wA ?_
 |(refine wC ?_ ?_ <;> intro hc)
 |refine wB ?_ ?_
 |(with_reducible refine JL.block ?_)
 |(with_reducible refine F_at ?_);refine eW (vs:=[(_,_),(_,_),(_,_),(_,_)]) Tryz.results21 ?_;(focus (repeat' (first | exact oA | refine oB ?_ | refine oC ?_ ?_ | fail)))
 |exact oM
 |fail)
    all_goals first | rfl | exact absurd hc h | (exfalso;omega)
  ·clear h
   refine startW (tm:=[(0,_)]) Tryz.func21 rfl Tryz.ntmps21 rfl rfl rfl rfl ?_
   repeat' (first
 |(with_reducible refine rgn 11 1100 ?_ ?_);exact rfl
 |(with_reducible refine rgn 12 1200 ?_ ?_);exact rfl
 |(with_reducible refine rgn 13 1300 ?_ ?_);exact rfl
 |(with_reducible refine rgn 14 1400 ?_ ?_);exact rfl
 |(with_reducible refine rgn 10 1500 ?_ ?_);exact rfl
 |(with_reducible refine rgn 19 1900 ?_ ?_);exact rfl
 |(with_reducible refine rgn 18 2000 ?_ ?_);exact rfl
 |(with_reducible refine K_ca 38 ?_);refine zC (hof) ?_
 |refine wA ?_
 |(refine wC ?_ ?_ <;> intro hc)
 |refine wB ?_ ?_
 |(with_reducible refine JL.block ?_)
 |(with_reducible refine F_at ?_);refine eW (vs:=[(_,_),(_,_),(_,_),(_,_)]) Tryz.results21 ?_;(focus (repeat' (first | exact oA | refine oB ?_ | refine oC ?_ ?_ | fail)))
 |exact oM
 |fail)
   all_goals first | rfl | (exfalso;omega)
def nowAt (d : DraftD) (R ch : List Int) (k : Nat) : CtlD:=(pastAt (ofP d) (repsP R (ofP d).vs.length) (newP (ofP d) (repsP R (ofP d).vs.length) (findP (ofP d)).1).1 ch k).now
theorem now_k {d : DraftD} {R ch : List Int} (hd : draftOK d) (hR : u8s R) (hch : u8s ch) (h : caseOK d = true) : vpErr (ofP d) = 0 ∧ checkP (ofP d) (findP (ofP d)).1 = true ∧ (findP (ofP d)).1.length ≤ 20000 ∧ setErr (ofP d) (repsP R (ofP d).vs.length) = 0 ∧ ∀ k,k ≤ 100 → SigK (ofP d) (repsP R (ofP d).vs.length) (findP (ofP d)).1 (nowAt d R ch k) k:=by
 unfold caseOK at h
 rw [Bool.and_eq_true,Bool.and_eq_true,decide_eq_true_eq] at h
 have hv:=ofP_sound hd h.1
 obtain ⟨f1,f2,f3⟩:=find_check h.2.2
 have hs:=reps_set hv hR
 obtain ⟨n1,n2,n3,n4⟩:=newP_k hs f1
 have n5:=newP_r hs f1
 have e : newP (ofP d) (repsP R (ofP d).vs.length) (findP (ofP d)).1 = (⟨(findP (ofP d)).1,0,if (findP (ofP d)).1.length = 0 then 6 else 0,0,0,0,startM (ofP d)⟩,0):=by unfold newP;rw [if_neg (by simpa using hs),f1,if_neg (by decide)]
 have n6 : (newP (ofP d) (repsP R (ofP d).vs.length) (findP (ofP d)).1).1.replica = 0:=by rw [e]
 have n7 : (newP (ofP d) (repsP R (ofP d).vs.length) (findP (ofP d)).1).1.token = 0:=by rw [e]
 refine ⟨hv,f1,f3,hs,fun k hk => ?_⟩
 have:=pastAt_k (ch:=ch) n1 n5 ⟨n2,by omega,by omega,by omega⟩ n7 hs (by omega) hch k hk
 exact ⟨this.ck,this.cr,this.b⟩
theorem ofC_fn (d : DraftD) (R ch : List Int) (hd : draftOK d) (hR : u8s R) (hch : u8s ch) (h : caseOK d = true) (h40 : ch.length ≤ 40) : FnSound Tryz.prog 21 [.val true (caseC d R ch)] [] { vals:=[(true,probC (ofP d)),(false,[.d (.sl 1 (dInts (repsP R (ofP d).vs.length)))]),(true,ctlC (nowAt d R ch ch.length)),(false,[.d (.v (.bool true))])] }:=by
 obtain ⟨k0,k1,k2,k3,hk⟩:=now_k hd hR hch h
 unfold caseOK at h
 rw [Bool.and_eq_true,Bool.and_eq_true,decide_eq_true_eq] at h
 obtain ⟨ho,hli,hfi⟩:=h
 have hof:=of_fn d hd ho
 have hvp:=vp_all k0
 have hlf:=lightOK_fn (ofP d) k0 120 (by omega)
 rw [hli] at hlf
 have hff:=findOK_fn (ofP d) k0
 rw [hfi] at hff
 have hnf:=new_fn (ofP d) (repsP R (ofP d).vs.length) (findP (ofP d)).1 k3 k1 (by omega)
 have hnfk : ∀ k : Nat,k = (ofP d).vs.length → FnSound Tryz.prog 29 [.val true (probC (ofP d)),.val false [.d (.sl 1 (dInts (repsP R k)))],.val false [.d (.sl 3 (dSteps (findP (ofP d)).1))]] [] { vals:=[(true,ctlC (nowAt d R ch 0)),(false,[.d (.v (.int .i64 0))])] }:=fun k e=>by rw [e];exact hnf
 have hu:=u8_get hR
 have huc:=u8_get hch
 have ht3:=fun k=>tmod3 (hu k)
 have hrl:=fun n=>repsP_len (R:=R) (n:=n)
 have hus:=fun (k : Nat) (hk' : k ≤ 40)=>useful_fn (ofP d) (nowAt d R ch k) (ch.getD k 0) (hk k (by omega)).ck (by rw [(hk k (by omega)).b.plan];omega) (huc k)
 have hnx : ∀ k j : Nat,k ≤ 40 → j = (ofP d).vs.length → FnSound Tryz.prog 41 [.val true (probC (ofP d)),.val false [.d (.sl 1 (dInts (repsP R j)))],.val true (ctlC (nowAt d R ch k)),.val true (sigC (usefulP (nowAt d R ch k) (ch.getD k 0)))] [] { vals:=[(true,ctlC (nowAt d R ch (k + 1))),(false,[.d (.sl 10 (dActs (nextP (ofP d) (repsP R (ofP d).vs.length) (nowAt d R ch k) (usefulP (nowAt d R ch k) (ch.getD k 0))).2))])] }:=fun k j hk' e=>by
  have h1:=(hk k (by omega)).b
  have h2:=h1.rd
  have h3:=h1.rp
  rw [e]
  exact next_fn (ofP d) (repsP R (ofP d).vs.length) (nowAt d R ch k) (usefulP (nowAt d R ch k) (ch.getD k 0)) (hk k (by omega)).ck k3 (by rw [h1.plan];omega) (by omega) (by omega)
 clear hk
 generalize nowAt d R ch = st at hus hnx hnfk
 refine startW (tm:=[(0,_)]) Tryz.func21 rfl Tryz.ntmps21 rfl rfl rfl rfl ?_
 repeat' (first
 |(with_reducible refine rgn 11 1100 ?_ ?_);exact rfl
 |(with_reducible refine rgn 12 1200 ?_ ?_);exact rfl
 |(with_reducible refine rgn 13 1300 ?_ ?_);exact rfl
 |(with_reducible refine rgn 14 1400 ?_ ?_);exact rfl
 |(with_reducible refine rgn 10 1500 ?_ ?_);exact rfl
 |(with_reducible refine reg_at (id:=15) ?_);(try (refine JL.shutW 10 rfl rfl ?_));(with_reducible refine rg ?_ ?_);exact rfl
 |(with_reducible refine rgn 19 1900 ?_ ?_);exact rfl
 |(with_reducible refine rgn 18 2000 ?_ ?_);exact rfl
 |(with_reducible refine K_ca 38 ?_);refine zC (hof) ?_
 |(with_reducible refine K_ca 39 ?_);refine zC (hlf) ?_
 |(with_reducible refine K_ca 40 ?_);refine zC (hff) ?_
 |(with_reducible refine K_ca 29 ?_);refine zC (hnfk k (by omega)) ?_
 |(with_reducible refine K_ca 20 ?_);refine zC (hus i (by omega)) ?_
 |(with_reducible refine K_ca 41 ?_);refine zC (hnx i k (by omega) (by omega)) ?_
 |(with_reducible refine blk_at (id:=0) ?_);(try (refine JL.zeroW 10 _ 3 1 rfl rfl ?_));(refine JL.rekW 10 (1160,951) rfl rfl rfl rfl ?_);((with_reducible refine JL.loopW 0 999 (fun (k : Nat) tm=>(11,.one false [.d (.v (.int .i64 ((k : Int))))]) :: (10,.one false [.own (1160,951)]) :: tm) (fun (k : Nat) bo=>((1160,951),some (.sl 3 1 ((dInts (repsP R k))))) :: bo) (fun (k : Nat)=>k ≤ (ofP d).vs.length) (fun (k : Nat)=>(ofP d).vs.length - k) (0) ?_ (fun k hk=>have h1:=ht3 k;have h2:=hrl k;?_) ?_);(focus (apply SubW [((1160,951),_)] rfl ?_ ?_ rfl ?_;(repeat' (first | exact kA | refine kB ?_ | refine kC ?_ ?_ | exact kD | fail)))))
 |((with_reducible refine round_next (i:=k) (k + 1) ?_ ?_ ?_);(focus (apply SubW [((1160,951),_)] rfl ?_ ?_ rfl ?_;(repeat' (first | exact kA | refine kB ?_ | refine kC ?_ ?_ | exact kD | fail)))))
 |(with_reducible refine blk_at (id:=2) ?_);((with_reducible refine JL.loopW 2 1799 (fun (i : Nat) tm=>(14,.one false [.d (.v (.int .i64 ((i : Int))))]) :: tm) (fun (i : Nat) bo=>((448,1600),some (.st 44 [.d (.sl 3 ((dSteps (st i).plan))),.d (.v (.int .i64 ((st i).at_))),.d (.v (.int .i64 ((st i).phase))),.d (.v (.int .i64 ((st i).replica))),.d (.v (.int .i64 ((st i).round))),.d (.v (.int .i64 ((st i).token))),.d (.sl 1 ((dInts (st i).mix.base))),.d (.sl 1 ((dInts (st i).mix.next))),.d (.sl 1 ((dSets (st i).mix.held)))])) :: bo) (fun (i : Nat)=>i ≤ ch.length) (fun (i : Nat)=>ch.length - i) (0) ?_ (fun i hi => ?_) ?_);(focus (apply SubW [] rfl ?_ ?_ rfl ?_;(repeat' (first | exact kA | refine kB ?_ | refine kC ?_ ?_ | exact kD | fail)))))
 |((with_reducible refine round_next (i:=i) (i + 1) ?_ ?_ ?_);(focus (apply SubW [] rfl ?_ ?_ rfl ?_;(repeat' (first | exact kA | refine kB ?_ | refine kC ?_ ?_ | exact kD | fail)))))
 |refine wA ?_
 |(refine wC ?_ ?_ <;> intro hc)
 |refine wB ?_ ?_
 |(with_reducible refine JL.block ?_)
 |(with_reducible refine F_at ?_);refine eW (vs:=[(_,_),(_,_),(_,_),(_,_)]) Tryz.results21 ?_;(focus (repeat' (first | exact oA | refine oB ?_ | refine oC ?_ ?_ | fail)))
 |exact oM
 |fail)
 all_goals first
  | rfl
  | (rw [repsP_y (by omega)];done)
  | (rw [repsP_n (by omega)];done)
  | (have e : k = (ofP d).vs.length := by omega
     rw [e];done)
  | (have e : i = ch.length := by omega
     rw [e];done)
 
end Go.Proofs.YtbdjcgjdmhgnmaaGreat

namespace Go.Proofs.YtbdjcgjdmhgnmaaGreat
open Go Go.RowKit
set_option linter.unusedSimpArgs false
set_option linter.unusedVariables false
theorem replayL_app {p : Prob} {rs : List Int} : ∀ {a b : List EntD} {c d : CtlD},replayL p rs c a = (d,0) → replayL p rs c (a ++ b) = replayL p rs d b
 | [],b,c,d,h=>by
  have : c = d:=by simpa [replayL] using h
  rw [this];rfl
 | x :: r,b,c,d,h=>by
  have e0 : replayL p rs c (x :: r) = match oneP p rs c x with | none=>(nilCtl,1) | some c'=>replayL p rs c' r:=rfl
  have e1 : replayL p rs c (x :: (r ++ b)) = match oneP p rs c x with | none=>(nilCtl,1) | some c'=>replayL p rs c' (r ++ b):=rfl
  rw [List.cons_append,e1]
  rw [e0] at h
  cases e : oneP p rs c x with
  | none=>rw [e] at h;simp at h
  | some c'=>rw [e] at h;exact replayL_app h
theorem replay1 {p : Prob} {rs : List Int} {c d : CtlD} {x : EntD} (h : oneP p rs c x = some d) : replayL p rs c [x] = (d,0):=by
 unfold replayL
 rw [h];rfl
theorem long_all {p : Prob} {rs : List Int} : ∀ {a : List EntD} {c d : CtlD},replayL p rs c a = (d,0) → longL p rs c a = a.length
 | [],c,d,h=>rfl
 | x :: r,c,d,h=>by
  unfold replayL at h
  unfold longL
  cases e : oneP p rs c x with
  | none=>rw [e] at h;simp at h
  | some c'=>rw [e] at h;simp only [long_all h,List.length_cons]
theorem forget_tok {p : Prob} {rs : List Int} {c : CtlD} (t : Int) : forgetP p rs { c with token:=t } = forgetP p rs c:=by
 unfold forgetP
 rfl
theorem ents_rep (c : CtlD) : actEnts (repeatP c) = []:=by
 unfold repeatP
 split
 ·rfl
 ·split
  ·rfl
  ·split
   ·rfl
   ·rfl
theorem ents_cons (x : EntD) (l : List ActD) : actEnts (⟨1,x,0,0,0,0,0⟩ :: l) = x :: actEnts l:=rfl
section
variable {p : Prob} {rs : List Int} {c : CtlD}
theorem crash_begin (h0 : c.phase = 0) : oneP p rs (forgetP p rs c) ⟨1,c.token,c.at_,ByteArray.empty⟩ = some (forgetP p rs (beginC p rs c)):=by
 obtain ⟨pl,a,ph,rp,rd,tk,mx⟩:=c
 simp only at h0
 subst h0
 have e : forgetP p rs ⟨pl,a,0,rp,rd,tk,mx⟩ = ⟨pl,a,0,rp,rd,0,mx⟩:=by unfold forgetP;simp
 rw [e]
 unfold oneP
 simp only [show ¬ (1 : Int) = 5 by decide,if_false,not_true_eq_false,and_self,if_true,bump,Option.some.injEq]
 unfold beginR beginC
 by_cases k3 : (present ⟨pl,a,0,rp,rd,tk,mx⟩).kind = 3
 ·have k3' : (present ⟨pl,a,0,rp,w64 (rd + 1),0,mx⟩).kind = 3:=k3
  have k1 : ¬ (present ⟨pl,a,0,rp,rd,tk,mx⟩).kind = 1:=by omega
  rw [if_pos k3',if_pos k3,if_pos k3,if_neg k1]
  unfold forgetP;simp
 ·have k3' : ¬ (present ⟨pl,a,0,rp,w64 (rd + 1),0,mx⟩).kind = 3:=k3
  rw [if_neg k3',if_neg k3,if_neg k3]
  unfold forgetP
  exact (if_pos (Or.inl rfl)).symm
theorem crash_done {f : CtlD} (hf : f.plan = c.plan ∧ f.at_ = c.at_ ∧ f.round = c.round ∧ f.token = 0 ∧ (f.phase = 1 ∨ f.phase = 4)) (hm : f.mix = c.mix) : oneP p rs f ⟨2,c.token,c.at_,ByteArray.empty⟩ = some (forgetP p rs (doneC p c)):=by
 obtain ⟨pl,a,ph,rp,rd,tk,mx⟩:=c
 obtain ⟨pl',a',ph',rp',rd',tk',mx'⟩:=f
 obtain ⟨h1,h2,h3,h4,h5⟩:=hf
 simp only at h1 h2 h3 h4 h5 hm
 subst h1 h2 h3 h4 hm
 unfold oneP
 simp only [show ¬ (2 : Int) = 5 by decide,show ¬ (2 : Int) = 1 by decide,if_false,not_true_eq_false,false_and,true_and,h5,if_true,Option.some.injEq]
 unfold doneC
 unfold forgetP
 have ph : ¬ ((if w64 (a' + 1) = (pl'.length : Int) then (6 : Int) else 0) = 1 ∨ (if w64 (a' + 1) = (pl'.length : Int) then (6 : Int) else 0) = 2):=by split <;> simp
 have ph5 : ¬ (if w64 (a' + 1) = (pl'.length : Int) then (6 : Int) else 0) = 5:=by split <;> simp
 rw [if_neg ph,if_neg ph5]
 rfl
theorem crash_next {s : SigD} (hk : CtlK p c) (hr : CtlR p rs c) : replayL p rs (forgetP p rs c) (actEnts (nextP p rs c s).2) = (forgetP p rs (nextP p rs c s).1,0):=by
 have tick : ∀ t : Int,replayL p rs (forgetP p rs c) (actEnts (tickP p rs { c with token:=t }).2) = (forgetP p rs (tickP p rs { c with token:=t }).1,0):=by
  intro t
  by_cases h0 : c.phase = 0
  ·have e : tickP p rs { c with token:=t } = (beginC p rs { c with token:=t },entA { c with token:=t } 1 :: repeatP (beginC p rs { c with token:=t })):=by unfold tickP;rw [if_neg (fun b=>b h0)]
   rw [e]
   unfold entA
   rw [ents_cons,ents_rep]
   refine replay1 ?_
   have:=crash_begin (p:=p) (rs:=rs) (c:={ c with token:=t }) h0
   rw [forget_tok] at this
   exact this
  ·have e : tickP p rs { c with token:=t } = ({ c with token:=t },repeatP { c with token:=t }):=by unfold tickP;rw [if_pos h0]
   rw [e,ents_rep,forget_tok]
   rfl
 have same : replayL p rs (forgetP p rs c) (actEnts (c,([] : List ActD)).2) = (forgetP p rs (c,([] : List ActD)).1,0):=rfl
 have hpl:=forget_plan (p:=p) (rs:=rs) (c:=c)
 have hid:=hr.idle
 have hbz:=hr.busy
 unfold nextP
 split
 ·split
  ·exact same
  ·exact tick s.token
 ·split
  ·exact same
  ·split
   ·exact congrArg (fun z=>(z,(0 : Int))) (forget_tok (p:=p) (rs:=rs) (c:=c) 0).symm
   ·split
    ·exact tick c.token
    ·split
     ·rename_i hak
      unfold ackP
      split
      ·exact same
      ·split
       ·rename_i p3
        have k1:=(hk.ph2 (.inr p3)).1
        have m1:=(hk.ph2 (.inr p3)).2
        have r1:=hbz (.inr (.inr p3)) (by omega)
        show (forgetP p rs c,(0 : Int)) = (forgetP p rs _,0)
        have e1 : forgetP p rs c = ⟨c.plan,c.at_,3,c.replica,c.round,0,c.mix⟩:=by unfold forgetP;rw [if_neg (by omega),if_neg (by omega),p3]
        have e2 : forgetP p rs { c with mix:=abortedP p c.plan c.at_,phase:=5,replica:=0 } = ⟨c.plan,c.at_,3,firstR rs (present c).idx,c.round,0,afterM p (abortedP p c.plan c.at_) (present c)⟩:=rfl
        have e3 : afterM p (abortedP p c.plan c.at_) (present c) = c.mix:=by
         rw [m1]
         exact (hk.failed p3 0).undone rfl
        rw [e1,e2,e3,r1]
       ·split
        ·rename_i p3 k1
         have p1 : c.phase = 1:=by omega
         dsimp only
         rw [ents_rep]
         show (forgetP p rs c,(0 : Int)) = (forgetP p rs _,0)
         have e1 : forgetP p rs c = ⟨c.plan,c.at_,1,firstR rs (present c).idx,c.round,0,c.mix⟩:=by unfold forgetP;rw [if_pos (.inl p1)]
         rw [e1]
         rfl
        ·split
         ·rename_i p3 k1 hq
          have p1 : c.phase = 1:=by omega
          have e1 : forgetP p rs c = ⟨c.plan,c.at_,1,firstR rs (present c).idx,c.round,0,c.mix⟩:=by unfold forgetP;rw [if_pos (.inl p1)]
          dsimp only
          unfold entA
          rw [ents_cons]
          refine replay1 (crash_done ⟨hpl.1,hpl.2.1,hpl.2.2.1,hpl.2.2.2,?_⟩ ?_)
          ·rw [e1];exact .inl rfl
          ·rw [e1]
         ·rename_i p3 k1 hq
          have p1 : c.phase = 1:=by omega
          dsimp only
          rw [ents_rep]
          show (forgetP p rs c,(0 : Int)) = (forgetP p rs _,0)
          have e1 : forgetP p rs c = ⟨c.plan,c.at_,1,firstR rs (present c).idx,c.round,0,c.mix⟩:=by unfold forgetP;rw [if_pos (.inl p1)]
          have e2 : forgetP p rs { c with replica:=w64 (c.replica + 1) } = ⟨c.plan,c.at_,1,firstR rs (present c).idx,c.round,0,c.mix⟩:=by unfold forgetP;rw [if_pos (.inl p1)];rfl
          rw [e1,e2]
     ·split
      ·rename_i hga
       have p2 : c.phase = 2:=hga.2.2
       have k1:=(hk.ph2 (.inl p2)).1
       have r1:=hbz (.inr (.inl p2)) (by omega)
       have e1 : forgetP p rs c = ⟨c.plan,c.at_,1,firstR rs (present c).idx,c.round,0,c.mix⟩:=by unfold forgetP;rw [if_pos (.inr p2)]
       split
       ·dsimp only
        unfold entA
        rw [ents_cons]
        refine replay1 (crash_done ⟨hpl.1,hpl.2.1,hpl.2.2.1,hpl.2.2.2,?_⟩ ?_)
        ·rw [e1];exact .inl rfl
        ·rw [e1]
       ·dsimp only
        unfold entA
        rw [ents_cons,ents_rep]
        refine replay1 ?_
        rw [e1]
        unfold oneP
        have kk : (present ⟨c.plan,c.at_,1,firstR rs (present c).idx,c.round,0,c.mix⟩).kind = 1:=k1
        simp only [show ¬ (3 : Int) = 5 by decide,show ¬ (3 : Int) = 1 by decide,show ¬ (3 : Int) = 2 by decide,if_false,not_true_eq_false,false_and,true_and,kk,and_self,if_true,Option.some.injEq]
        have e2 : forgetP p rs { bump c with phase:=3 } = ⟨c.plan,c.at_,3,c.replica,w64 (c.round + 1),0,c.mix⟩:=by unfold forgetP;rfl
        rw [e2,r1]
        rfl
      ·split
       ·rename_i hcl
        have p4 : c.phase = 4:=hcl.2.2.1
        have e1 : forgetP p rs c = ⟨c.plan,c.at_,4,c.replica,c.round,0,c.mix⟩:=by unfold forgetP;rw [if_neg (by omega),if_neg (by omega),p4]
        dsimp only
        unfold entA
        rw [ents_cons]
        refine replay1 (crash_done ⟨hpl.1,hpl.2.1,hpl.2.2.1,hpl.2.2.2,?_⟩ ?_)
        ·rw [e1];exact .inr rfl
        ·rw [e1]
       ·split
        ·rename_i hrs
         have p5 : c.phase = 5:=hrs.2
         have k5:=hk.ph5 p5
         have r0:=hid (by omega)
         dsimp only
         unfold entA
         rw [ents_cons]
         refine replay1 ?_
         have e1 : forgetP p rs c = ⟨c.plan,c.at_,3,firstR rs (present c).idx,c.round,0,(mixesP p c.plan).getD (c.at_ + 1).toNat nilM⟩:=by
          unfold forgetP
          rw [if_neg (by omega),if_pos p5,hk.undone p5]
         rw [e1]
         unfold oneP
         simp only [show ¬ (4 : Int) = 5 by decide,show ¬ (4 : Int) = 1 by decide,show ¬ (4 : Int) = 2 by decide,show ¬ (4 : Int) = 3 by decide,if_false,not_true_eq_false,false_and,true_and,and_self,if_true,Option.some.injEq]
         have e2 : forgetP p rs { bump c with phase:=0 } = ⟨c.plan,c.at_,0,c.replica,w64 (c.round + 1),0,c.mix⟩:=by unfold forgetP;rfl
         rw [e2,r0,k5.2]
         rfl
        ·exact same
theorem crash_lease {a b : CtlD} (d : CtlD) : replayL p rs d (leaseL a b) = (d,0):=by
 unfold leaseL
 split
 ·exact replay1 (by unfold oneP leaseE;rfl)
 ·rfl
end
theorem crash_past {p : Prob} {rs : List Int} {l : List StepD} {c0 : CtlD} {ch : List Int} (hK : ∀ k,k ≤ 100 → PastK p rs l (pastAt p rs c0 ch k) k) (h0 : forgetP p rs c0 = c0) : ∀ k,k ≤ 100 → replayL p rs c0 (pastAt p rs c0 ch k).ents = (forgetP p rs (pastAt p rs c0 ch k).now,0)
 | 0,_=>by
  show (c0,(0 : Int)) = (forgetP p rs c0,0)
  rw [h0]
 | k + 1,hk=>by
  have ih:=crash_past hK h0 k (by omega)
  have hp:=hK k (by omega)
  have e : (pastAt p rs c0 ch (k + 1)).ents = (pastAt p rs c0 ch k).ents ++ leaseL _ _ ++ actEnts _:=rfl
  rw [e,List.append_assoc,replayL_app ih,replayL_app (crash_lease _)]
  exact crash_next hp.ck hp.cr
section
variable {p : Prob} {rs : List Int} {c0 : CtlD} {ch : List Int}
theorem past_pre : ∀ {n k : Nat},k ≤ n → ∃ r,(pastAt p rs c0 ch n).ents = (pastAt p rs c0 ch k).ents ++ r
 | 0, k, h => ⟨[], by have : k = 0 := by omega
                      subst this;simp⟩
 | n + 1,k,h=>by
  by_cases e : k = n + 1
  ·subst e;exact ⟨[],by simp⟩
  ·obtain ⟨r,hr⟩:=past_pre (n:=n) (k:=k) (by omega)
   have e : (pastAt p rs c0 ch (n + 1)).ents = (pastAt p rs c0 ch n).ents ++ _ ++ _:=rfl
   exact ⟨_,by rw [e,hr,List.append_assoc,List.append_assoc]⟩
theorem past_sts : ∀ {n : Nat},(pastAt p rs c0 ch n).sts.length = n + 1 ∧ (pastAt p rs c0 ch n).cnts.length = n + 1 ∧ ∀ k,k ≤ n → (pastAt p rs c0 ch n).sts.getD k nilCtl = (pastAt p rs c0 ch k).now ∧ (pastAt p rs c0 ch n).cnts.getD k 0 = ((pastAt p rs c0 ch k).ents.length : Int)
 | 0 => ⟨rfl, rfl, fun k hk => by
     have : k = 0:=by omega
     subst this
     exact ⟨rfl,rfl⟩⟩
 | n + 1=>by
  obtain ⟨a1,a2,a3⟩:=past_sts (n:=n)
  have e1 : (pastAt p rs c0 ch (n + 1)).sts = (pastAt p rs c0 ch n).sts ++ [(pastAt p rs c0 ch (n + 1)).now]:=rfl
  have e2 : (pastAt p rs c0 ch (n + 1)).cnts = (pastAt p rs c0 ch n).cnts ++ [((pastAt p rs c0 ch (n + 1)).ents.length : Int)]:=rfl
  rw [e1,e2]
  refine ⟨by simp [a1],by simp [a2],fun k hk => ?_⟩
  by_cases e : k = n + 1
  ·subst e
   refine ⟨?_,?_⟩
   ·rw [List.getD_eq_getElem?_getD,List.getElem?_append_right (by omega),a1];simp
   ·rw [List.getD_eq_getElem?_getD,List.getElem?_append_right (by omega),a2];simp
  ·have:=a3 k (by omega)
   rw [getD_app (by omega),getD_app (by omega)]
   exact this
theorem past_take {n k : Nat} (h : k ≤ n) : (pastAt p rs c0 ch n).ents.take (pastAt p rs c0 ch k).ents.length = (pastAt p rs c0 ch k).ents:=by
 obtain ⟨r,hr⟩:=past_pre (p:=p) (rs:=rs) (c0:=c0) (ch:=ch) h
 rw [hr,List.take_left']
 rfl
end
end Go.Proofs.YtbdjcgjdmhgnmaaGreat

