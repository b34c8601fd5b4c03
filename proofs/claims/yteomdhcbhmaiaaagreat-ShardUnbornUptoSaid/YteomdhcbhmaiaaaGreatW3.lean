/-
 Part 3 of the proof: what the last text leans on.
-/
import Derived.Laws.Slices
import Derived.Laws.Pointers
import Derived.Test.YteomdhcbhmaiaaaGreatW2
open Bool renaming false_eq_true → aU
open Go.Instr renaming lookup → dI, entry → jl, makeFunc → cL
open List renaming find?_cons → ea, filter_cons → ky, getElem_map → kz, any_cons → iu, findIdx?_cons → iC, getElem_of_mem → pX
open Option.some renaming injEq → av
open Option renaming map_some → bc
open Go.Result renaming andThen_ok → aV
set_option linter.unusedSectionVars false
set_option linter.unusedVariables false
set_option linter.unusedSimpArgs false
namespace Go.aX
variable {P : Program} {R : Ending → World → Prop} {X Y A A' : XS} {w w' : World} {m : Bool} {κ : Type} [DecidableEq κ] {α : Type}
def NV (P:Program) (S f:Nat):Option Bool:=match P.underlying S with
 |some (.struct fs)=>match fs[f]? with
  |some x=>match P.underlying x.type with
   |some (.struct _)|some (.array _ _)=>some true
   |some _=>some false
   |none=>none
  |none=>none
 |_=>none
def qk (rd:World→XS→Value→α→Prop):Prop:= ∀(X Y:XS) (w w':World) (v:Value) (x:α),rd w X v x→Mv X w Y w'→rd w' Y v x
def jH (w:World) (A:XS) (rd:World→XS→Value→α→Prop):List (iI κ)→List (κ×α)→Prop
 |[],[]=>True
 |e::es,x::l=>e.1=x.1∧rd w A e.2.1 x.2∧jH w A rd es l
 |_,_=>False
theorem jH.mv {rd:World→XS→Value→α→Prop} (hm:qk rd) (v:Mv A w A' w'): ∀{es:List (iI κ)} {l:List (κ×α)},jH w A rd es l→jH w' A' rd es l
 |[],[],_=>trivial
 |_::_,_::_,⟨h1,h2,h3⟩=>⟨h1,hm _ _ _ _ _ _ h2 v,jH.mv hm v h3⟩
 |[],_::_,h=>h.elim
 |_::_,[],h=>h.elim
theorem jH.keys {rd:World→XS→Value→α→Prop} : ∀{es:List (iI κ)} {l:List (κ×α)},jH w A rd es l→es.map (·.1)=l.map (·.1)
 |[],[],_=>rfl
 |_::_,_::_,⟨h1,_,h3⟩=>by simp [h1,jH.keys h3]
 |[],_::_,h=>h.elim
 |_::_,[],h=>h.elim
theorem jH.append {rd:World→XS→Value→α→Prop} : ∀{es QN:List (iI κ)} {l l':List (κ×α)},jH w A rd es l→jH w A rd QN l'→jH w A rd (es++QN) (l++l')
 |[],_,[],_,_,h'=>h'
 |_::_,_,_::_,_,⟨h1,h2,h3⟩,h'=>⟨h1,h2,jH.append h3 h'⟩
 |[],_,_::_,_,h,_=>h.elim
 |_::_,_,[],_,h,_=>h.elim
def getM (k:κ) (l:List (κ×α)):Option α:=(l.find? fun x=>decide (x.1=k)).map (·.2)
def fQ (k:κ) (a:α):List (κ×α)→List (κ×α)
 |[]=>[(k,a)]
 |x::l=>if x.1=k then(k,a)::l else x::fQ k a l
def Dz (k:κ) (l:List (κ×α)):List (κ×α):=l.filter fun x=>decide (x.1≠k)
theorem jH.get {rd:World→XS→Value→α→Prop} (k:κ): ∀{es:List (iI κ)} {l:List (κ×α)},jH w A rd es l→
  (yT k es=none∧getM k l=none)∨ ∃v a,yT k es=some v∧getM k l=some a∧rd w A v a
 |[],[],_=>.inl ⟨rfl,rfl⟩
 |e::es,x::l,⟨h1,h2,h3⟩=>by
  by_cases hk:x.1=k
  ·exact .inr ⟨e.2.1,x.2,by simp [yT,h1,hk],by simp [getM,hk],h2⟩
  ·rcases jH.get k h3 with⟨q1,q2⟩|⟨v,a,q1,q2,q3⟩
   ·left;constructor
    ·simp only [yT,ea,h1,hk,decide_false,aU,if_false];exact q1
    ·simp only [getM,ea,hk,decide_false,aU,if_false];exact q2
   ·right;refine⟨v,a,?_,?_,q3⟩
    ·simp only [yT,ea,h1,hk,decide_false,aU,if_false];exact q1
    ·simp only [getM,ea,hk,decide_false,aU,if_false];exact q2
 |[],_::_,h=>h.elim
 |_::_,[],h=>h.elim
def wJ (k:κ) (v:Value) (c:Nat):List (iI κ)→List (iI κ)
 |[]=>[(k,v,c)]
 |e::es=>if e.1=k then(e.1,v,e.2.2)::es else e::wJ k v c es
theorem YD (k:κ) (v:Value) (c:Nat) (es:List (iI κ)):(xO k v c es).1=wJ k v c es:=by
 induction es with
 |nil=>simp [xO,wJ]
 |cons e es ih=>
  unfold xO at ih⊢;by_cases hk:e.1=k
  ·simp [iC,hk,wJ]
  ·simp only [iC,hk,decide_false,aU,if_false,wJ];cases hf:es.findIdx? fun x=>decide (x.1=k)with
   |none=>rw [hf] at ih;simp only [Option.map_none,List.cons_append] at ih⊢;rw [ih]
   |some j=>rw [hf] at ih;simp only [bc,List.modify_succ_cons] at ih⊢;rw [ih]
theorem jH.put {rd:World→XS→Value→α→Prop} {k:κ} {v:Value} {a:α} {c:Nat} (hv:rd w A v a): ∀{es:List (iI κ)} {l:List (κ×α)},jH w A rd es l→jH w A rd (wJ k v c es) (fQ k a l)
 |[],[],_=>⟨rfl,hv,trivial⟩
 |e::es,x::l,⟨h1,h2,h3⟩=>by
  unfold wJ fQ;by_cases hk:x.1=k
  ·rw [if_pos (h1.trans hk),if_pos hk];exact⟨h1.trans hk,hv,h3⟩
  ·rw [if_neg (by rw [h1];exact hk),if_neg hk];exact⟨h1,h2,jH.put hv h3⟩
 |[],_::_,h=>h.elim
 |_::_,[],h=>h.elim
theorem jH.filter {rd:World→XS→Value→α→Prop} (p:κ→Bool): ∀{es:List (iI κ)} {l:List (κ×α)},jH w A rd es l→jH w A rd (es.filter fun x=>p x.1) (l.filter fun x=>p x.1)
 |[],[],_=>trivial
 |e::es,x::l,⟨h1,h2,h3⟩=>by
  have ih:=jH.filter p h3;by_cases hp:p x.1=true
  ·simp only [ky,h1,hp,if_true];exact⟨h1,h2,ih⟩
  ·simp only [ky,h1,hp,if_false];exact ih
 |[],_::_,h=>h.elim
 |_::_,[],h=>h.elim
theorem jH.mem {rd:World→XS→Value→α→Prop} : ∀{es:List (iI κ)} {l:List (κ×α)},jH w A rd es l→ ∀e∈es,∃a,(e.1,a)∈l∧rd w A e.2.1 a
 |[],[],_,_,h=>by cases h
 |e0::es,x::l,⟨h1,h2,h3⟩,e,he=>by
  rcases List.mem_cons.1 he with rfl|he
  ·exact⟨x.2,by rw [h1];simp,h2⟩
  ·obtain⟨a,ha,hr⟩:=jH.mem h3 e he;exact⟨a,List.mem_cons_of_mem _ ha,hr⟩
 |[],_::_,h,_,_=>h.elim
 |_::_,[],h,_,_=>h.elim
def ik (w:World) (X A:XS) (b:Nat) (kv:κ→Value) (rd:World→XS→Value→α→Prop) (l:List (κ×α)):Prop:=
 ∃es c,ka w X b kv es c∧jH w A rd es l
theorem ik.mv {b:Nat} {kv:κ→Value} {rd:World→XS→Value→α→Prop} {l:List (κ×α)} (h:ik w X A b kv rd l) (hm:qk rd) (v:Mv X w Y w') (va:Mv A w A' w'):ik w' Y A' b kv rd l:=
 let⟨es,c,h1,h2⟩:=h
 ⟨es,c,h1.mv v,h2.mv hm va⟩
theorem ik.nodup {b:Nat} {kv:κ→Value} {rd:World→XS→Value→α→Prop} {l:List (κ×α)} (h:ik w X A b kv rd l):(l.map (·.1)).Nodup:=by
 obtain⟨es,c,h1,h2⟩:=h;rw [←h2.keys];exact h1.2.2.1
theorem ik.x {b:Nat} {kv:κ→Value} {rd:World→XS→Value→α→Prop} {l:List (κ×α)} (h:ik w X A b kv rd l):X b∧b<w.heap.size:=
 let⟨_,_,h1,_⟩:=h
 ⟨h1.1,(Array.getElem?_eq_some_iff.1 h1.2.1).1⟩
theorem ik.own {b:Nat} {kv:κ→Value} {rd:World→XS→Value→α→Prop} {l:List (κ×α)} (h:ik w X A b kv rd l):ik w (fun k=>k=b) A b kv rd l:=
 let⟨es,c,h1,h2⟩:=h
 ⟨es,c,⟨rfl,h1.2⟩,h2⟩
theorem bq.own {b:Nat} {cs:List Value} {ty:TypeId} (h:bq w X b cs ty):bq w (fun k=>k=b) b cs ty:=⟨rfl,h.2⟩
theorem bq.lt {b:Nat} {cs:List Value} {ty:TypeId} (h:bq w X b cs ty):b<w.heap.size:=(Array.getElem?_eq_some_iff.1 h.2).1
theorem Mv.one {b:Nat} (hk:Kp X w w') (hb:X b) (hy:Y b):Mv (fun k=>k=b) w Y w':=fun k ae _=>by subst ae;exact⟨hy,hk.block _ hb⟩
theorem yn {t:TypeId} {kv:κ→Value} (rd:World→XS→Value→α→Prop) (A:XS) {N:Value→World→XS→Prop} (hX: ∀k,X k→k<w.heap.size)
  (n: ∀b w' X',w.heap.size≤b→ak X w X' w'→ik w' X' A b kv rd []→N (.map (some b)) w' X'):eV P R X w m (Instr.makeMap t none) N:=
 RM hX fun b w' X' hb hs hm=>n b w' X' hb hs ⟨[],0,hm,trivial⟩
theorem As {t kt et b:Nat} {kv:κ→Value} {rd:World→XS→Value→α→Prop} {l:List (κ×α)} {k:κ} {N:Value→Prop} (z:Value) (h:ik w X A b kv rd l) (K:wI P kt kv)
  (ht:P.underlying t=some (.map kt et)) (hz:(P.info? et).bind (·.zero)=some z)
  (n1: ∀v a,getM k l=some a→rd w A v a→N (.tuple #[v,.bool true])) (n0:getM k l=none→N (.tuple #[z,.bool false])):
  ad P X w (dI t (.map (some b)) (kv k) true) N:=by
 obtain⟨es,c,h1,h2⟩:=h;refine RL z h1 K ht hz ?_;rcases h2.get k with⟨q1,q2⟩|⟨v,a,q1,q2,q3⟩
 ·rw [q1];exact n0 q2
 ·rw [q1];exact n1 v a q2 q3
theorem Dg {t kt et b:Nat} {kv:κ→Value} {rd:World→XS→Value→α→Prop} {l:List (κ×α)} {k:κ} {N:Value→Prop} (z:Value) (h:ik w X A b kv rd l) (K:wI P kt kv)
  (ht:P.underlying t=some (.map kt et)) (hz:(P.info? et).bind (·.zero)=some z)
  (n1: ∀v a,getM k l=some a→rd w A v a→N v) (n0:getM k l=none→N z):
  ad P X w (dI t (.map (some b)) (kv k) false) N:=by
 have key: ∀u q,(∀wa,Kp X w wa→(dI t (.map (some b)) (kv k) true).run P wa= .ok (.tuple #[u,.bool q]) wa)→ ∀wa,Kp X w wa→(dI t (.map (some b)) (kv k) false).run P wa= .ok u wa:=by
  intro u q hq wa hk;have h1:=hq wa hk;obtain⟨es,c,hm,_⟩:=h;have hb:=(hm.kp hk).2.1;simp only [dI,Sem.run_bind,run_underlying ht,aV,getObj,Sem.run,hb,K.aC,List.toList_toArray,K.find] at h1⊢;cases hf:nL k es 0 with
  |none=>
   cases hi:P.info? et with
   |none=>simp [hi] at hz
   |some inf=>
    have Hy:inf.zero=some z:=by simpa [hi] using hz
    simp [zeroValue,typeInfo,hi,Hy,K.find,hf] at h1⊢;exact h1.1
  |some r=>
   simp [K.find,hf] at h1⊢;exact h1.1
 have:=As (N:=fun v=> ∃u q,v= .tuple #[u,.bool q]∧N u) z h K ht hz (fun v a h1 h2=>⟨v,_,rfl,n1 v a h1 h2⟩) (fun h0=>⟨z,_,rfl,n0 h0⟩);obtain⟨v,hv,u,q,rfl,hn⟩:=this;refine zD u (key u q fun wa hk=>?_) hn;have:=hv wa hk;simp only [vS,Sem.run_bind] at this;cases hr:(dI t (.map (some b)) (kv k) true).run P wa with
 |ok a w2=>rw [hr] at this;simp only [aV,Sem.run_pure,Result.ok.injEq,Next.value.injEq] at this;rw [this.1,this.2]
 |halt a w2=>rw [hr] at this;simp [Result.andThen] at this
theorem Au {t kt et b:Nat} {kv:κ→Value} {rd:World→XS→Value→α→Prop} {l:List (κ×α)} {k:κ} {v:Value} {a:α} {N:Value→World→XS→Prop} (h:ik w X A b kv rd l) (hm:qk rd)
  (hv:rd w A v a) (hA: ∀k,A k→X k∧k≠b) (K:wI P kt kv) (ht:P.underlying t=some (.map kt et)) (hX: ∀k,X k→k<w.heap.size)
  (n: ∀w' X',fb (· =b) X w X' w'→ik w' X' A b kv rd (fQ k a l)→N undef w' X'):
  eU P R X w true (Instr.mapUpdate t (.map (some b)) (kv k) v) N:=by
 obtain⟨es,c,h1,h2⟩:=h;refine aau h1 K ht hX fun w' X' hg hi=>?_;have hc:fb (· =b) X w X' w':=hg.fF.mono fun k _ hk=>by simpa using hk
 refine n w' X' hc ⟨_,_,hi,?_⟩;rw [YD];have mv:Mv A w A w':=fun k hk _=>⟨hk,hc.block k (hA k hk).1 (hA k hk).2⟩;exact(h2.put hv).mv hm mv
def pT (w:World) (X A:XS) (r b:Nat) (kv:κ→Value) (rd:World→XS→Value→α→Prop) (l left:List (κ×α)):Prop:=
 ∃es c yg,sZ w X r b kv es c yg∧jH w A rd es l∧jH w A rd yg left∧yg.Sublist es
theorem pT.mv {r b:Nat} {kv:κ→Value} {rd:World→XS→Value→α→Prop} {l left:List (κ×α)} (h:pT w X A r b kv rd l left) (hm:qk rd) (v:Mv X w Y w') (va:Mv A w A' w'):pT w' Y A' r b kv rd l left:=by
 obtain⟨es,c,yg,h1,h2,h3,h4⟩:=h;refine⟨es,c,yg,⟨h1.1.mv v,?_,h1.2.2.1,?_⟩,h2.mv hm va,h3.mv hm va,h4⟩
 ·obtain⟨s,hs,_⟩:=h1.2.2.2;exact(v r h1.2.1 (Array.getElem?_eq_some_iff.1 hs).1).1
 ·obtain⟨s,hs,hl⟩:=h1.2.2.2;exact⟨s,by rw [(v r h1.2.1 (Array.getElem?_eq_some_iff.1 hs).1).2];exact hs,hl⟩
theorem pT.map {r b:Nat} {kv:κ→Value} {rd:World→XS→Value→α→Prop} {l left:List (κ×α)} (h:pT w X A r b kv rd l left):ik w X A b kv rd l:=
 let⟨es,c,_,h1,h2,_⟩:=h
 ⟨es,c,h1.1,h2⟩
theorem pT.nodup {r b:Nat} {kv:κ→Value} {rd:World→XS→Value→α→Prop} {l left:List (κ×α)} (h:pT w X A r b kv rd l left):(left.map (·.1)).Nodup:=by
 obtain⟨es,c,yg,h1,h2,h3,h4⟩:=h;rw [←h3.keys];exact h1.1.2.2.1.sublist (h4.map _)
theorem TU {l:List (κ×α)} (c:κ×α→Bool):(l.map (·.1)).Nodup→ ∀{k:κ} {a:α},(k,a)∈l→l.any c=(c (k,a)||(l.filter fun y=>decide (y.1≠k)).any c):=by
 induction l with
 |nil=>intro _ k a h;cases h
 |cons x l ih=>
  intro hn k a h;have jE:=List.nodup_cons.1 hn;rcases List.mem_cons.1 h with h|h
  ·subst h;have:l.filter (fun y=>decide (y.1≠k))=l:=List.filter_eq_self.2 fun y hy=>by
    have:y.1≠k:=fun e=>jE.1 (List.mem_map.2 ⟨y,hy,e⟩);simpa using this
   simp only [iu,ky,ne_eq,not_true_eq_false,decide_false,aU,if_false];simp only [ne_eq] at this;rw [this]
  ·have hx:x.1≠k:=fun e=>jE.1 (List.mem_map.2 ⟨(k,a),h,e.symm⟩);have:=ih jE.2 h;simp only [iu,ky,hx,ne_eq,not_false_eq_true,decide_true,if_true];simp only [ne_eq] at this;rw [this,←Bool.or_assoc,←Bool.or_assoc,Bool.or_comm (c x)]
theorem Qx {l:List (κ×α)} {k:κ} {a:α} (h:(k,a)∈l):(l.filter fun y=>decide (y.1≠k)).length<l.length:=by
 refine Nat.lt_of_le_of_ne (List.length_filter_le _ _) fun e=>?_;have:=List.length_filter_eq_length_iff.1 e (k,a) h;simp at this
theorem ak.fW {X0:XS} {w0:World} (h:ak X0 w0 X w) (hA: ∀k,A k→X0 k):Mv A w0 A w:=fun k hk _=>⟨hk,h.kp.block k (hA k hk)⟩
theorem Qu {t kt et b:Nat} {kv:κ→Value} {rd:World→XS→Value→α→Prop} {l:List (κ×α)} {N:Value→World→XS→Prop} (h:ik w X A b kv rd l) (hm:qk rd) (hA: ∀k,A k→X k)
  (ht:P.underlying t=some (.map kt et)) (hX: ∀k,X k→k<w.heap.size)
  (n: ∀r w' X',w.heap.size≤r→ak X w X' w'→pT w' X' A r b kv rd l l→N (ptr r 0) w' X'):eV P R X w m (Instr.range t (.map (some b))) N:=by
 obtain⟨es,c,h1,h2⟩:=h;refine VF h1 ht hX fun r w' X' hr hs hi=>n r w' X' hr hs ?_;have mv:Mv A w A w':=fun k hk _=>⟨hk,hs.kp.block k (hA k hk)⟩;exact⟨es,c,es,hi,h2.mv hm mv,h2.mv hm mv,List.Sublist.refl _⟩
theorem Tc {ty r b:Nat} {kv:κ→Value} {rd:World→XS→Value→α→Prop} {l left:List (κ×α)} {N:Value→World→XS→Prop} (h:pT w X A r b kv rd l left) (hm:qk rd)
  (hA: ∀k,A k→X k∧k≠r) (hX: ∀k,X k→k<w.heap.size)
  (n0:left=[]→ ∀w' X',ak X w X' w'→N (.tuple #[.bool false]) w' X')
  (n1: ∀k a v,(k,a)∈left→ ∀w' X',fb (· =r) X w X' w'→rd w' A v a→pT w' X' A r b kv rd l (left.filter fun y=>decide (y.1≠k))→
   (∀wa,Kp X' w' wa→(jl (ptr r 0)).run P wa= .ok (.tuple #[kv k,v]) wa)→N (.tuple #[.bool true,kv k,v]) w' X'):
  eV P R X w true (Instr.next (ptr r 0) false ty) N:=by
 obtain⟨es,c,yg,h1,h2,h3,h4⟩:=h;refine Yw h1 hX (fun h0 w' X' hs=>n0 ?_ w' X' hs) fun x hx w' X' hg hi he=>?_
 ·subst h0;cases left with
  |nil=>rfl
  |cons y t=>exact h3.elim
 ·have hc:fb (· =r) X w X' w':=hg.fF.mono fun k _ hk=>by simpa using hk
  have mv:Mv A w A w':=fun k hk _=>⟨hk,hc.block k (hA k hk).1 (hA k hk).2⟩;obtain⟨a,ha,hra⟩:=h3.mem x hx;refine n1 x.1 a x.2.1 ha w' X' hc (hm _ _ _ _ _ _ hra mv) ?_ he;have hk: ∀y∈yg,decide (y.2.2≠x.2.2)=decide (y.1≠x.1):=by
   intro y hy;have hye:=h4.subset hy;have hxe:=h4.subset hx;have n1:=h1.1.2.2.1;have n2:=h1.1.2.2.2.1;obtain⟨i,hi9,rfl⟩:=pX hye;obtain⟨j,hj,rfl⟩:=pX hxe;have inj: ∀{β:Type} (f:iI κ→β),(es.map f).Nodup→(f es[i]=f es[j]↔i=j):=by
    intro β f n;constructor
    ·intro e;have hp:=List.pairwise_iff_getElem.1 n;rcases Nat.lt_trichotomy i j with h|h|h
     ·exact absurd (by rw [kz,kz];exact e) (hp i j (by simpa using hi9) (by simpa using hj) h)
     ·exact h
     ·exact absurd (by rw [kz,kz];exact e.symm) (hp j i (by simpa using hj) (by simpa using hi9) h)
    ·rintro rfl;rfl
   have e1:=inj (·.1) n1;have e2:=inj (·.2.2) n2;simp only [ne_eq,e1,e2]
  have hf:(yg.filter fun y=>decide (y.2.2≠x.2.2))=yg.filter fun y=>decide (y.1≠x.1):=List.filter_congr hk;refine⟨es,c,_,hi,h2.mv hm mv,?_,?_⟩
  ·rw [hf];exact(h3.filter (fun k=>decide (k≠x.1))).mv hm mv
  ·exact(List.filter_sublist).trans h4
theorem Qv {r:Nat} {k v:Value} {N:Value→World→XS→Prop} (hX: ∀k,X k→k<w.heap.size)
  (h: ∀wa,Kp X w wa→(jl (ptr r 0)).run P wa= .ok (.tuple #[k,v]) wa) (n: ∀w' X',ak X w X' w'→N (.tuple #[k,v]) w' X'):
  eV P R X w m (jl (ptr r 0)) N:=VG hX h n
def RZ (w:World) (A:XS) (rd:World→XS→Value→α→Prop) (k:κ):List (iI κ)→List (κ×α)→Prop
 |[],[]=>True
 |e::es,x::l=>e.1=x.1∧(x.1≠k→rd w A e.2.1 x.2)∧RZ w A rd k es l
 |_,_=>False
theorem RZ.put {rd:World→XS→Value→α→Prop} {k:κ} {v:Value} {a:α} {c:Nat} (hv:rd w A v a): ∀{es:List (iI κ)} {l:List (κ×α)},(es.map (·.1)).Nodup→RZ w A rd k es l→jH w A rd (wJ k v c es) (fQ k a l)
 |[],[],_,_=>⟨rfl,hv,trivial⟩
 |e::es,x::l,hn,⟨h1,h2,h3⟩=>by
  have jE:=List.nodup_cons.1 hn;unfold wJ fQ;by_cases hk:x.1=k
  ·rw [if_pos (h1.trans hk),if_pos hk];refine⟨h1.trans hk,hv,?_⟩;have dO: ∀y∈es,y.1≠k:=fun y hy e'=>jE.1 (List.mem_map.2 ⟨y,hy,e'.trans (hk.symm.trans h1.symm)⟩);clear hn jE h1 h2
   induction es generalizing l with
   |nil=>cases l<;>first|trivial|exact h3.elim
   |cons e2 es ih=>
    cases l with
    |nil=>exact h3.elim
    |cons y l=>exact⟨h3.1,h3.2.1 (h3.1▸dO e2 (by simp)),ih l h3.2.2 fun z hz=>dO z (by simp [hz])⟩
  ·rw [if_neg (by rw [h1];exact hk),if_neg hk];exact⟨h1,h2 hk,RZ.put hv jE.2 h3⟩
 |[],_::_,_,h=>h.elim
 |_::_,[],_,h=>h.elim
theorem mT {l:List (κ×α)} {k:κ} {a:α} (h:getM k l=some a):(k,a)∈l:=by
 unfold getM at h;obtain⟨x,hx,rfl⟩:=Option.map_eq_some_iff.1 h;have h1:=List.mem_of_find?_eq_some hx;have h2:x.1=k:=by simpa using List.find?_some hx
 subst h2;exact h1
theorem FZ {l:List (κ×α)} (hn:(l.map (·.1)).Nodup) {k:κ} {a:α} (h:(k,a)∈l):getM k l=some a:=by
 induction l with
 |nil=>cases h
 |cons x l ih=>
  have jE:=List.nodup_cons.1 hn;rcases List.mem_cons.1 h with h|h
  ·subst h;simp [getM]
  ·have hx:x.1≠k:=fun e=>jE.1 (List.mem_map.2 ⟨(k,a),h,e.symm⟩);have:=ih jE.2 h;simp only [getM,ea,hx,decide_false,aU,if_false];exact this
theorem rJ {l:List (κ×α)} {k:κ} {a:α} : ∀{x:κ×α},(l.map (·.1)).Nodup→x∈fQ k a l→x=(k,a)∨(x∈l∧x.1≠k):=by
 induction l with
 |nil=>intro x _ h;left;simpa [fQ] using h
 |cons y l ih=>
  intro x hn h;have jE:=List.nodup_cons.1 hn;unfold fQ at h;split at h
  ·rename_i hy;rcases List.mem_cons.1 h with h|h
   ·exact .inl h
   ·exact .inr ⟨by simp [h],fun e=>jE.1 (List.mem_map.2 ⟨x,h,e.trans hy.symm⟩)⟩
  ·rename_i hy;rcases List.mem_cons.1 h with h|h
   ·exact .inr ⟨by simp [h],by rw [h];exact hy⟩
   ·rcases ih jE.2 h with h|⟨h,h2⟩
    ·exact .inl h
    ·exact .inr ⟨by simp [h],h2⟩
theorem ph {t:TypeId} {l:List Value} {N:Value→World→XS→Prop} (hX: ∀k,X k→k<w.heap.size)
  (n: ∀b w' X',w.heap.size≤b→ak X w X' w'→bq w' X' b l t→N (ptr b 0) w' X'):eV P R X w m (Instr.box t (.agg l.toArray)) N:=
 QS hX fun b w' X' hb hs hx hr=>n b w' X' hb hs ⟨hx,by simpa [Value.cells] using hr⟩
theorem xu {t:TypeId} {v:Value} {N:Value→World→XS→Prop} (ho:one v=true) (hX: ∀k,X k→k<w.heap.size)
  (n: ∀b w' X',w.heap.size≤b→ak X w X' w'→bq w' X' b [v] t→N (ptr b 0) w' X'):eV P R X w m (Instr.box t v) N:=
 QS hX fun b w' X' hb hs hx hr=>n b w' X' hb hs ⟨hx,by
  have:v.cells.toList=[v]:=by cases v<;>first|rfl|cases ho
  rw [this] at hr;exact hr⟩
theorem ak.fC {w:World} {X:XS} (h: ∀k,X k→k<w.heap.size):ak X w X w:=⟨Kp.refl _ _,fun _ h=>h,h⟩
theorem aaX {S f fo sz:Nat} {l l':List Value} {N:Value→Prop} (hf:fieldInfo P S f=some (fo,sz)) (hg:NV P S f=some true) (hlen:decide (fo+sz≤l.length)=true) (hl:(l.drop fo).take sz=l')
  (k:N (.agg l'.toArray)):ad P X w (W5 S f fo sz (.agg l.toArray)) N:=by
 subst hl;unfold fieldInfo at hf;unfold NV at hg;cases hu:P.underlying S with
 |none=>simp [hu] at hf
 |some d=>
  cases d<;>simp only [hu] at hf<;>try (cases hf;done)
  rename_i fs;cases hx:fs[f]? with
  |none=>simp [hx] at hf
  |some x=>
   simp only [hx,Option.bind_some,hu] at hf hg;cases hi:P.info? x.type with
   |none=>simp [hi] at hf
   |some i=>
    simp only [hi,bc,av,Prod.mk.injEq] at hf;cases hd:P.underlying x.type with
    |none=>simp [hd] at hg
    |some d2=>
     refine cg (v:=.agg ((l.drop fo).take sz).toArray) (fun wa=>?_) k;have ux:(isAgg x.type).run P wa= .ok true wa:=by
      cases d2<;>simp_all [isAgg,run_underlying hd]
     have hle:fo+sz≤l.length:=by simpa using hlen
     obtain⟨rfl,rfl⟩:=hf;simp [W5,Instr.field,run_underlying hu,hx,asAgg,part,ux,sizeOf,typeInfo,hi,hle]
theorem ab5 {f:FuncId} {la lc l:List Value} {N:Value→World→XS→Prop} (hl:la++lc=l) (h:eC P R X w m f l.toArray N):eF P R X w m (.func (.func f) #[] lc.toArray) la.toArray N:=by
 subst hl;have e: ∀wa,(Ai (.func (.func f) #[] lc.toArray) la.toArray).run P wa=(callFunc f (la++lc).toArray).run P wa:=by
  intro wa;simp [Ai,Deferred.ofValue,invoke]
 intro wa hk;have:=h wa hk;rw [e wa];exact this
theorem YE {fn:Fn} {a c:Array Value} {N:Value→Prop} (h:N (.func fn a c)):ad P X w (cL fn a c) N:=cg (fun wa=>by simp [cL]) h
theorem Ct.kp {f:FuncId} {args:Array Value} {F:XS} {Q:Value→World→World→Prop} (h:Ct P f args w X F Q) {w':World} (hk:Kp X w w'):Ct P f args w' X F Q:=fun wa ae=>h wa (hk.trans ae)
theorem Ct.since {f:FuncId} {args:Array Value} {F X':XS} {Q:Value→World→World→Prop} (h:Ct P f args w X F Q) {w':World} (hs:ak X w X' w'):Ct P f args w' X' F Q:=fun wa ae=>h wa (hs.kp.trans (ae.less hs.sub))
theorem Ct.aS {f:FuncId} {args:Array Value} {F:XS} {Q:Value→World→World→Prop} (h:Ct P f args w X F Q) (hX: ∀k,X k→k<w.heap.size):Ct P f args w (aX.aS w) F Q:=
 fun wa ae=>h wa (ae.less fun k hk=>hX k hk)
def idxOf (p:α→Bool):List α→Int
 |[]=> -1
 |x::l=>if p x then 0 else let i:=idxOf p l;if i<0 then i else i+1
theorem DA (p:α→Bool): ∀l:List α,decide (idxOf p l≥0)=l.any p
 |[]=>rfl
 |x::l=>by
  have ih:=DA p l;unfold idxOf;by_cases hp:p x
  ·simp [hp]
  ·simp only [hp,aU,if_false,iu,Bool.false_or,←ih];by_cases hi:idxOf p l<0
   ·simp [hi]
   ·simp only [hi,if_false];congr 1;simp;omega
theorem NW {p:α→Bool} {l:List α} {i:Nat} (h: ∀k x,k<i→l[k]? =some x→p x=false) {x:α} (hx:l[i]? =some x) (hp:p x=true):idxOf p l=i:=by
 induction l generalizing i with
 |nil=>simp at hx
 |cons y l ih=>
  cases i with
  |zero=>simp only [List.getElem?_cons_zero,av] at hx;subst hx;simp [idxOf,hp]
  |succ i=>
   have hy:=h 0 y zQ rfl;have:=ih (i:=i) (fun k z hk hz=>h (k+1) z zQ (by simpa using hz)) (by simpa using hx);simp only [idxOf,hy,aU,if_false,this];rw [if_neg zQ];omega
theorem Iw {p:α→Bool} {l:List α} (h: ∀k x,k<l.length→l[k]? =some x→p x=false):idxOf p l= -1:=by
 induction l with
 |nil=>rfl
 |cons y l ih=>
  have hy:=h 0 y (by simp) rfl;have:=ih fun k z hk hz=>h (k+1) z (by simpa using hk) (by simpa using hz);simp [idxOf,hy,this]
theorem ak.less {X0 Y0:XS} {w0:World} (h:ak X0 w0 X w) (hs: ∀k,Y0 k→X0 k):ak Y0 w0 X w:=⟨h.kp.less hs,fun k hk=>h.sub k (hs k hk),h.has⟩
theorem Own.aaY {g n cap:Nat} {e k lo:Nat} {cs:List Value} {rows:List (List Value)} (h:bq w X g cs e) (eo:lo≤g) (hr: ∀r∈rows,r.length=k) (hn:rows.length=n) (hc:n≤cap) (hm:cap≤maxLen)
  (hl:cs.length=cap*k) (ht:cs.take (n*k)=rows.flatten):Own w X lo e k (.slice (some ⟨g,0,none⟩) n cap) rows:=
 ⟨hr,⟨by rw [nI hr],.inr ⟨g,cap,cs.toArray,by rw [hn],eo,h.2,by rw [hn];exact hc,hm,by simpa using hl,by rw [hn];simpa using ht⟩⟩,fun g' hg=>by simp only [Value.ownBlock,av] at hg;subst hg;exact h.1⟩
theorem Own.row {e k lo:Nat} {v:Value} {rows:List (List Value)} (h:Own w X lo e k v rows):(v= .slice none 0 0∧rows=[])∨
  ∃g cap cs,v= .slice (some ⟨g,0,none⟩) rows.length cap∧lo≤g∧bq w X g cs e∧rows.length≤cap∧cap≤maxLen∧cs.length=cap*k∧cs.take (rows.length*k)=rows.flatten:=by
 obtain⟨h1,h2,h3⟩:=h;rcases h2.2 with⟨rfl,hn⟩|⟨g,cap,cur,rfl,hb,hg,oN,oo,jZ,ht⟩
 ·exact .inl ⟨rfl,List.eq_nil_of_length_eq_zero hn⟩
 ·exact .inr ⟨g,cap,cur.toList,rfl,hb,⟨h3 g rfl,by simpa using hg⟩,oN,oo,by simpa using jZ,ht⟩
theorem Xc {t:TypeId} {k g n cap:Nat} {z:Int} {i:Nat} {N:Value→Prop} (hz:z=i) (hi:i<n) (ht:P.underlying t=some (.slice (P.elem t))) (hs:(P.info? (P.elem t)).map (·.size)=some k) (h:N (ptr g (i*k))):
  ad P X w (dy t k (.slice (some ⟨g,0,none⟩) n cap) (.int .i64 z)) N:=by
 subst hz;refine cg (v:=ptr g (i*k)) (fun wa=>?_) h
 show(Instr.indexAt t _ _).run P wa=_
 rw [run_indexAt_slice (h:=ht),if_pos zQ];cases hq:P.info? (P.elem t)with
 |none=>simp [hq] at hs
 |some inf=>
  have:inf.size=k:=by simpa [hq] using hs
  simp [sizeOf,typeInfo,hq,this,uv]
theorem wK {t sz b o:Nat} {cs:List Value} {ty:TypeId} {v:Value} {N:Value→World→XS→Prop} (h:bq w X b cs ty) (ht:(P.info? t).map (·.size)=some sz)
  (hl:o+sz≤cs.length) (hv:v.cells.size=sz) (h1:v.cells.toList.all one=true) (hX: ∀k,X k→k<w.heap.size)
  (n: ∀w' X',fb (fun k=>k=b) X w X' w'→bq w' X' b (cP cs o v.cells.toList) ty→N undef w' X'):eU P R X w true (st1 t sz (ptr b o) v) N:=
 VD h ht hl hv h1 hX fun w' X' hg hr=>n w' X' (hg.fF.mono fun k _ hk=>by simpa using hk) hr
variable {P : Program}
def LU (P:Program) (t e k:Nat):Bool:=match P.underlying t,P.info? e with
 |some (.slice e'),some i=>e'==e&&i.size==k&&(match i.zero with|some z=>z.cells.size==k|none=>false)&&decide (0<k)&&decide (k≤2^20)
 |_,_=>false
theorem KP {t e k:Nat} (h:LU P t e k=true):P.underlying t=some (.slice e)∧0<k∧k≤2^20∧ ∃z:Value,(P.info? e).bind (fun i=>i.zero.map fun z=>(i.size,z))=some (k,z):=by
 unfold LU at h;split at h
 ·rename_i e' i hu hi;simp only [Bool.and_eq_true,beq_iff_eq,decide_eq_true_eq] at h;obtain⟨⟨⟨⟨rfl,h2⟩,h4⟩,h5⟩,h6⟩:=h;cases hz:i.zero with
  |none=>simp [hz] at h4
  |some z=>exact⟨hu,h5,h6,z,by simp [hi,hz,h2]⟩
 ·cases h
section
variable {w : World} {X : XS} {R : Ending → World → Prop} {t e k : Nat} {m : Bool} {N : Value → World → XS → Prop}
theorem WR {l:List Value} (hX: ∀k,X k→k<w.heap.size) (he:LU P t e k=true) (hk:(l.length==k)=true)
  (n: ∀v w' X',ak X w X' w'→Own w' X' w.heap.size e k v [l]→N v w' X'):eV P R X w m (fR t e k 1 #[(0,.agg l.toArray)]) N:=by
 obtain⟨hu,h0,h1,z,hz⟩:=KP he;have ae:l.length=k:=by simpa using hk
 refine uE (rows:=[l]) l.toArray z hX hu hz zQ zQ ?_ (by simpa using ae) rfl (by simp) n;simp only [Nat.one_mul];exact xP (x:=.agg l.toArray) (by simpa [Value.cells] using ae) (by simp)
theorem ZX {x:Value} (hX: ∀k,X k→k<w.heap.size) (he:LU P t e k=true) (ho:one x=true) (hk:(k==1)=true)
  (n: ∀v w' X',ak X w X' w'→Own w' X' w.heap.size e k v [[x]]→N v w' X'):eV P R X w m (fR t e k 1 #[(0,x)]) N:=by
 obtain⟨hu,h0,h1,z,hz⟩:=KP he;have ae:1=k:=by simpa using (beq_iff_eq.1 hk).symm
 have hc:=ns ho;refine uE (rows:=[[x]]) x.cells z hX hu hz zQ zQ ?_ (by simpa using ae) rfl (by rw [hc];rfl) n;simp only [Nat.one_mul];exact xP (by rw [hc];simpa using ae) (by simp)
end
def EK (P:Program) (t:TypeId):Bool:=match P.underlying t with
 |some (.pointer _)=>true
 |_=>false
theorem yv {t:TypeId} (h:EK P t=true):P.underlying t=some (.pointer (P.pointee t)):=by
 unfold EK at h;split at h
 ·rename_i e he;simp [Program.pointee,he]
 ·cases h
section
variable {w : World} {X : XS} {N : Value → Prop} {t : TypeId} {xo yo : Operand}
theorem YG {a:Addr} (ht:EK P t=true) (k:N (.bool false)):ad P X w (aD .eql t xo yo (.pointer (some a)) (.pointer none)) N:=NN (p:=some a) (yv ht) k
theorem YH (ht:EK P t=true) (k:N (.bool true)):ad P X w (aD .eql t xo yo (.pointer none) (.pointer none)) N:=NN (p:=none) (yv ht) k
theorem aaZ {a:Addr} (ht:EK P t=true) (k:N (.bool true)):ad P X w (aD .neq t xo yo (.pointer (some a)) (.pointer none)) N:=by
 refine cg (fun wa=>?_) k;have:=run_neq_pointer_nil (P:=P) (w:=wa) t (some a) (yv ht);simp [aD,eqGuard,this]
theorem aa0 (ht:EK P t=true) (k:N (.bool false)):ad P X w (aD .neq t xo yo (.pointer none) (.pointer none)) N:=by
 refine cg (fun wa=>?_) k;have:=run_neq_pointer_nil (P:=P) (w:=wa) t none (yv ht);simp [aD,eqGuard,this]
end
end Go.aX
