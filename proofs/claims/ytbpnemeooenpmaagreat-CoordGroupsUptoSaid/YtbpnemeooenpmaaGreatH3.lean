/-
 Part 3 of the proof: what the last text leans on.
-/
import Derived.Laws.Slices
import Derived.Laws.Pointers
import Derived.Test.YtbpnemeooenpmaaGreatH2
open Bool renaming false_eq_true → a8
open Go.Instr renaming lookup → dc, entry → k6, mapUpdate → aP, makeFunc → cp
open List renaming find?_cons → eb, filter_cons → cW, findIdx?_cons → gL, getElem_map → nv, any_cons → jw, getElem_of_mem → uq
open Option renaming map_some → bt, map_none → yM
open Option.some renaming injEq → az
open Go.Result renaming andThen_ok → aZ
set_option linter.unusedSectionVars false
set_option linter.unusedVariables false
set_option linter.unusedSimpArgs false
namespace Go.aR
variable {P : Program} {R : Ending → World → Prop} {X Y A A' : XS} {w w' : World} {m : Bool} {κ : Type} [DecidableEq κ] {α : Type}
def VH (P:Program) (S f:Nat):Option Bool:=match P.underlying S with
 |some (.struct fs)=>match fs[f]? with
  |some x=>match P.underlying x.type with
   |some (.struct _)|some (.array _ _)=>some true
   |some _=>some false
   |none=>none
  |none=>none
 |_=>none
def mV (rd:World→XS→Value→α→Prop):Prop:= ∀(X Y:XS) (w w':World) (v:Value) (x:α),rd w X v x→Mv X w Y w'→rd w' Y v x
def k7 (w:World) (A:XS) (rd:World→XS→Value→α→Prop):List (gB κ)→List (κ×α)→Prop
 |[],[]=>True
 |e::es,x::l=>e.1=x.1∧rd w A e.2.1 x.2∧k7 w A rd es l
 |_,_=>False
theorem k7.mv {rd:World→XS→Value→α→Prop} (hm:mV rd) (v:Mv A w A' w'): ∀{es:List (gB κ)} {l:List (κ×α)},k7 w A rd es l→k7 w' A' rd es l
 |[],[],_=>trivial
 |_::_,_::_,⟨h1,h2,h3⟩=>⟨h1,hm _ _ _ _ _ _ h2 v,k7.mv hm v h3⟩
 |[],_::_,h=>h.elim
 |_::_,[],h=>h.elim
theorem k7.keys {rd:World→XS→Value→α→Prop} : ∀{es:List (gB κ)} {l:List (κ×α)},k7 w A rd es l→es.map (·.1)=l.map (·.1)
 |[],[],_=>rfl
 |_::_,_::_,⟨h1,_,h3⟩=>by simp [h1,k7.keys h3]
 |[],_::_,h=>h.elim
 |_::_,[],h=>h.elim
theorem k7.append {rd:World→XS→Value→α→Prop} : ∀{es YW:List (gB κ)} {l l':List (κ×α)},k7 w A rd es l→k7 w A rd YW l'→k7 w A rd (es++YW) (l++l')
 |[],_,[],_,_,h'=>h'
 |_::_,_,_::_,_,⟨h1,h2,h3⟩,h'=>⟨h1,h2,k7.append h3 h'⟩
 |[],_,_::_,_,h,_=>h.elim
 |_::_,_,[],_,h,_=>h.elim
def getM (k:κ) (l:List (κ×α)):Option α:=(l.find? fun x=>decide (x.1=k)).map (·.2)
def dR (k:κ) (a:α):List (κ×α)→List (κ×α)
 |[]=>[(k,a)]
 |x::l=>if x.1=k then(k,a)::l else x::dR k a l
def xC (k:κ) (l:List (κ×α)):List (κ×α):=l.filter fun x=>decide (x.1≠k)
theorem k7.get {rd:World→XS→Value→α→Prop} (k:κ): ∀{es:List (gB κ)} {l:List (κ×α)},k7 w A rd es l→
  (Ej k es=none∧getM k l=none)∨ ∃v a,Ej k es=some v∧getM k l=some a∧rd w A v a
 |[],[],_=>.inl ⟨rfl,rfl⟩
 |e::es,x::l,⟨h1,h2,h3⟩=>by
  by_cases hk:x.1=k
  ·exact .inr ⟨e.2.1,x.2,by simp [Ej,h1,hk],by simp [getM,hk],h2⟩
  ·rcases k7.get k h3 with⟨q1,q2⟩|⟨v,a,q1,q2,q3⟩
   ·left;constructor
    ·simp only [Ej,eb,h1,hk,decide_false,a8,if_false];exact q1
    ·simp only [getM,eb,hk,decide_false,a8,if_false];exact q2
   ·right;refine⟨v,a,?_,?_,q3⟩
    ·simp only [Ej,eb,h1,hk,decide_false,a8,if_false];exact q1
    ·simp only [getM,eb,hk,decide_false,a8,if_false];exact q2
 |[],_::_,h=>h.elim
 |_::_,[],h=>h.elim
def Bx (k:κ) (v:Value) (c:Nat):List (gB κ)→List (gB κ)
 |[]=>[(k,v,c)]
 |e::es=>if e.1=k then(e.1,v,e.2.2)::es else e::Bx k v c es
theorem Y8 (k:κ) (v:Value) (c:Nat) (es:List (gB κ)):(Cy k v c es).1=Bx k v c es:=by
 induction es with
 |nil=>simp [Cy,Bx]
 |cons e es ih=>
  unfold Cy at ih⊢;by_cases hk:e.1=k
  ·simp [gL,hk,Bx]
  ·simp only [gL,hk,decide_false,a8,if_false,Bx];cases hf:es.findIdx? fun x=>decide (x.1=k)with
   |none=>rw [hf] at ih;simp only [yM,List.cons_append] at ih⊢;rw [ih]
   |some j=>rw [hf] at ih;simp only [bt,List.modify_succ_cons] at ih⊢;rw [ih]
theorem k7.put {rd:World→XS→Value→α→Prop} {k:κ} {v:Value} {a:α} {c:Nat} (hv:rd w A v a): ∀{es:List (gB κ)} {l:List (κ×α)},k7 w A rd es l→k7 w A rd (Bx k v c es) (dR k a l)
 |[],[],_=>⟨rfl,hv,trivial⟩
 |e::es,x::l,⟨h1,h2,h3⟩=>by
  unfold Bx dR;by_cases hk:x.1=k
  ·rw [if_pos (h1.trans hk),if_pos hk];exact⟨h1.trans hk,hv,h3⟩
  ·rw [if_neg (by rw [h1];exact hk),if_neg hk];exact⟨h1,h2,k7.put hv h3⟩
 |[],_::_,h=>h.elim
 |_::_,[],h=>h.elim
def TF (k:κ) (es:List (gB κ)):List (gB κ):=es.filter fun x=>decide (x.1≠k)
theorem Y9 (k:κ): ∀(es:List (gB κ)),(es.map (·.1)).Nodup→Nz k es=TF k es
 |[],_=>rfl
 |e::es,h=>by
  have h':(es.map (·.1)).Nodup:=(List.nodup_cons.1 h).2;have ih:=Y9 k es h';unfold Nz at ih⊢;by_cases hk:e.1=k
  ·have:es.filter (fun x=>decide (x.1≠k))=es:=List.filter_eq_self.2 fun x hx=>by
    have:x.1≠k:=fun hxk=>(List.nodup_cons.1 h).1 (by simp only [List.mem_map];exact⟨x,hx,by rw [hxk,hk]⟩);simpa using this
   simp only [TF] at this⊢;simp only [gL,hk,decide_true,if_true,List.eraseIdx_cons_zero,ne_eq,not_true_eq_false,decide_false,cW,a8,if_false];exact this.symm
  ·simp only [gL,hk,decide_false,a8,if_false];cases hf:es.findIdx? fun x=>decide (x.1=k)with
   |none=>rw [hf] at ih;simp only [yM];simp only at ih;rw [ih];simp [TF,hk,←ih]
   |some j=>rw [hf] at ih;simp only [bt,List.eraseIdx_cons_succ] at ih⊢;rw [ih];simp [TF,hk]
theorem k7.filter {rd:World→XS→Value→α→Prop} (p:κ→Bool): ∀{es:List (gB κ)} {l:List (κ×α)},k7 w A rd es l→k7 w A rd (es.filter fun x=>p x.1) (l.filter fun x=>p x.1)
 |[],[],_=>trivial
 |e::es,x::l,⟨h1,h2,h3⟩=>by
  have ih:=k7.filter p h3;by_cases hp:p x.1=true
  ·simp only [cW,h1,hp,if_true];exact⟨h1,h2,ih⟩
  ·simp only [cW,h1,hp,if_false];exact ih
 |[],_::_,h=>h.elim
 |_::_,[],h=>h.elim
theorem k7.mem {rd:World→XS→Value→α→Prop} : ∀{es:List (gB κ)} {l:List (κ×α)},k7 w A rd es l→ ∀e∈es,∃a,(e.1,a)∈l∧rd w A e.2.1 a
 |[],[],_,_,h=>by cases h
 |e0::es,x::l,⟨h1,h2,h3⟩,e,he=>by
  rcases List.mem_cons.1 he with rfl|he
  ·exact⟨x.2,by rw [h1];simp,h2⟩
  ·obtain⟨a,ha,hr⟩:=k7.mem h3 e he;exact⟨a,List.mem_cons_of_mem _ ha,hr⟩
 |[],_::_,h,_,_=>h.elim
 |_::_,[],h,_,_=>h.elim
def dS (w:World) (X A:XS) (b:Nat) (kv:κ→Value) (rd:World→XS→Value→α→Prop) (l:List (κ×α)):Prop:=
 ∃es c,jQ w X b kv es c∧k7 w A rd es l
theorem dS.mv {b:Nat} {kv:κ→Value} {rd:World→XS→Value→α→Prop} {l:List (κ×α)} (h:dS w X A b kv rd l) (hm:mV rd) (v:Mv X w Y w') (va:Mv A w A' w'):dS w' Y A' b kv rd l:=
 let⟨es,c,h1,h2⟩:=h
 ⟨es,c,h1.mv v,h2.mv hm va⟩
theorem dS.nodup {b:Nat} {kv:κ→Value} {rd:World→XS→Value→α→Prop} {l:List (κ×α)} (h:dS w X A b kv rd l):(l.map (·.1)).Nodup:=by
 obtain⟨es,c,h1,h2⟩:=h;rw [←h2.keys];exact h1.2.2.1
theorem dS.x {b:Nat} {kv:κ→Value} {rd:World→XS→Value→α→Prop} {l:List (κ×α)} (h:dS w X A b kv rd l):X b∧b<w.heap.size:=
 let⟨_,_,h1,_⟩:=h
 ⟨h1.1,(Array.getElem?_eq_some_iff.1 h1.2.1).1⟩
theorem dS.own {b:Nat} {kv:κ→Value} {rd:World→XS→Value→α→Prop} {l:List (κ×α)} (h:dS w X A b kv rd l):dS w (fun k=>k=b) A b kv rd l:=
 let⟨es,c,h1,h2⟩:=h
 ⟨es,c,⟨rfl,h1.2⟩,h2⟩
theorem a7.own {b:Nat} {cs:List Value} {ty:TypeId} (h:a7 w X b cs ty):a7 w (fun k=>k=b) b cs ty:=⟨rfl,h.2⟩
theorem a7.lt {b:Nat} {cs:List Value} {ty:TypeId} (h:a7 w X b cs ty):b<w.heap.size:=(Array.getElem?_eq_some_iff.1 h.2).1
theorem Mv.one {b:Nat} (hk:Kp X w w') (hb:X b) (hy:Y b):Mv (fun k=>k=b) w Y w':=fun k af _=>by subst af;exact⟨hy,hk.block _ hb⟩
theorem nD {t:TypeId} {kv:κ→Value} (rd:World→XS→Value→α→Prop) (A:XS) {N:Value→World→XS→Prop} (hX: ∀k,X k→k<w.heap.size)
  (n: ∀b w' X',w.heap.size≤b→ak X w X' w'→dS w' X' A b kv rd []→N (.map (some b)) w' X'):eV P R X w m (Instr.makeMap t none) N:=
 aaw hX fun b w' X' hb hs hm=>n b w' X' hb hs ⟨[],0,hm,trivial⟩
theorem FY {t kt et b:Nat} {kv:κ→Value} {rd:World→XS→Value→α→Prop} {l:List (κ×α)} {k:κ} {N:Value→Prop} (z:Value) (h:dS w X A b kv rd l) (K:sS P kt kv)
  (ht:P.underlying t=some (.map kt et)) (hz:(P.info? et).bind (·.zero)=some z)
  (n1: ∀v a,getM k l=some a→rd w A v a→N (.tuple #[v,.bool true])) (n0:getM k l=none→N (.tuple #[z,.bool false])):
  ae P X w (dc t (.map (some b)) (kv k) true) N:=by
 obtain⟨es,c,h1,h2⟩:=h;refine aav z h1 K ht hz ?_;rcases h2.get k with⟨q1,q2⟩|⟨v,a,q1,q2,q3⟩
 ·rw [q1];exact n0 q2
 ·rw [q1];exact n1 v a q2 q3
theorem ti {t kt et b:Nat} {kv:κ→Value} {rd:World→XS→Value→α→Prop} {l:List (κ×α)} {k:κ} {N:Value→Prop} (z:Value) (h:dS w X A b kv rd l) (K:sS P kt kv)
  (ht:P.underlying t=some (.map kt et)) (hz:(P.info? et).bind (·.zero)=some z)
  (n1: ∀v a,getM k l=some a→rd w A v a→N v) (n0:getM k l=none→N z):
  ae P X w (dc t (.map (some b)) (kv k) false) N:=by
 have key: ∀u q,(∀wa,Kp X w wa→(dc t (.map (some b)) (kv k) true).run P wa= .ok (.tuple #[u,.bool q]) wa)→ ∀wa,Kp X w wa→(dc t (.map (some b)) (kv k) false).run P wa= .ok u wa:=by
  intro u q hq wa hk;have h1:=hq wa hk;obtain⟨es,c,hm,_⟩:=h;have hb:=(hm.kp hk).2.1;simp only [dc,Sem.run_bind,run_underlying ht,aZ,getObj,Sem.run,hb,K.aB,List.toList_toArray,K.find] at h1⊢;cases hf:oI k es 0 with
  |none=>
   cases hi:P.info? et with
   |none=>simp [hi] at hz
   |some inf=>
    have CW:inf.zero=some z:=by simpa [hi] using hz
    simp [zeroValue,typeInfo,hi,CW,K.find,hf] at h1⊢;exact h1.1
  |some r=>
   simp [K.find,hf] at h1⊢;exact h1.1
 have:=FY (N:=fun v=> ∃u q,v= .tuple #[u,.bool q]∧N u) z h K ht hz (fun v a h1 h2=>⟨v,_,rfl,n1 v a h1 h2⟩) (fun h0=>⟨z,_,rfl,n0 h0⟩);obtain⟨v,hv,u,q,rfl,hn⟩:=this;refine Fa u (key u q fun wa hk=>?_) hn;have:=hv wa hk;simp only [vS,Sem.run_bind] at this;cases hr:(dc t (.map (some b)) (kv k) true).run P wa with
 |ok a w2=>rw [hr] at this;simp only [aZ,Sem.run_pure,Result.ok.injEq,Next.value.injEq] at this;rw [this.1,this.2]
 |halt a w2=>rw [hr] at this;simp [Result.andThen] at this
theorem tf {t kt et b:Nat} {kv:κ→Value} {rd:World→XS→Value→α→Prop} {l:List (κ×α)} {k:κ} {v:Value} {a:α} {N:Value→World→XS→Prop} (h:dS w X A b kv rd l) (hm:mV rd)
  (hv:rd w A v a) (hA: ∀k,A k→X k∧k≠b) (K:sS P kt kv) (ht:P.underlying t=some (.map kt et)) (hX: ∀k,X k→k<w.heap.size)
  (n: ∀w' X',ez (· =b) X w X' w'→dS w' X' A b kv rd (dR k a l)→N undef w' X'):
  eU P R X w true (aP t (.map (some b)) (kv k) v) N:=by
 obtain⟨es,c,h1,h2⟩:=h;refine acr h1 K ht hX fun w' X' hg hi=>?_;have hc:ez (· =b) X w X' w':=hg.fL.mono fun k _ hk=>by simpa using hk
 refine n w' X' hc ⟨_,_,hi,?_⟩;rw [Y8];have mv:Mv A w A w':=fun k hk _=>⟨hk,hc.block k (hA k hk).1 (hA k hk).2⟩;exact(h2.put hv).mv hm mv
theorem adv {t kt et tk ty b:Nat} {kv:κ→Value} {rd:World→XS→Value→α→Prop} {l:List (κ×α)} {k:κ} {N:Value→World→XS→Prop} (h:dS w X A b kv rd l) (hm:mV rd)
  (hA: ∀k,A k→X k∧k≠b) (K:sS P kt kv) (ht:P.underlying t=some (.map kt et)) (hX: ∀k,X k→k<w.heap.size)
  (n: ∀w' X',ez (· =b) X w X' w'→dS w' X' A b kv rd (xC k l)→N (.tuple #[]) w' X'):
  eV P R X w true (Builtin.delete_ #[t,tk] ty #[.map (some b),kv k]) N:=by
 obtain⟨es,c,h1,h2⟩:=h;refine acs h1 K ht hX fun w' X' hg hi=>?_;have hc:ez (· =b) X w X' w':=hg.fL.mono fun k _ hk=>by simpa using hk
 refine n w' X' hc ⟨_,_,hi,?_⟩;rw [Y9 _ _ h1.2.2.1];have mv:Mv A w A w':=fun k hk _=>⟨hk,hc.block k (hA k hk).1 (hA k hk).2⟩;exact(h2.filter (fun x=>decide (x≠k))).mv hm mv
def JM (w:World) (X A:XS) (r b:Nat) (kv:κ→Value) (rd:World→XS→Value→α→Prop) (l left:List (κ×α)):Prop:=
 ∃es c Mp,xW w X r b kv es c Mp∧k7 w A rd es l∧k7 w A rd Mp left∧Mp.Sublist es
theorem JM.mv {r b:Nat} {kv:κ→Value} {rd:World→XS→Value→α→Prop} {l left:List (κ×α)} (h:JM w X A r b kv rd l left) (hm:mV rd) (v:Mv X w Y w') (va:Mv A w A' w'):JM w' Y A' r b kv rd l left:=by
 obtain⟨es,c,Mp,h1,h2,h3,h4⟩:=h;refine⟨es,c,Mp,⟨h1.1.mv v,?_,h1.2.2.1,?_⟩,h2.mv hm va,h3.mv hm va,h4⟩
 ·obtain⟨s,hs,_⟩:=h1.2.2.2;exact(v r h1.2.1 (Array.getElem?_eq_some_iff.1 hs).1).1
 ·obtain⟨s,hs,hl⟩:=h1.2.2.2;exact⟨s,by rw [(v r h1.2.1 (Array.getElem?_eq_some_iff.1 hs).1).2];exact hs,hl⟩
theorem JM.map {r b:Nat} {kv:κ→Value} {rd:World→XS→Value→α→Prop} {l left:List (κ×α)} (h:JM w X A r b kv rd l left):dS w X A b kv rd l:=
 let⟨es,c,_,h1,h2,_⟩:=h
 ⟨es,c,h1.1,h2⟩
theorem JM.nodup {r b:Nat} {kv:κ→Value} {rd:World→XS→Value→α→Prop} {l left:List (κ×α)} (h:JM w X A r b kv rd l left):(left.map (·.1)).Nodup:=by
 obtain⟨es,c,Mp,h1,h2,h3,h4⟩:=h;rw [←h3.keys];exact h1.1.2.2.1.sublist (h4.map _)
theorem acx {l:List (κ×α)} (c:κ×α→Bool):(l.map (·.1)).Nodup→ ∀{k:κ} {a:α},(k,a)∈l→l.any c=(c (k,a)||(l.filter fun y=>decide (y.1≠k)).any c):=by
 induction l with
 |nil=>intro _ k a h;cases h
 |cons x l ih=>
  intro hn k a h;have jh:=List.nodup_cons.1 hn;rcases List.mem_cons.1 h with h|h
  ·subst h;have:l.filter (fun y=>decide (y.1≠k))=l:=List.filter_eq_self.2 fun y hy=>by
    have:y.1≠k:=fun e=>jh.1 (List.mem_map.2 ⟨y,hy,e⟩);simpa using this
   simp only [jw,cW,ne_eq,not_true_eq_false,decide_false,a8,if_false];simp only [ne_eq] at this;rw [this]
  ·have hx:x.1≠k:=fun e=>jh.1 (List.mem_map.2 ⟨(k,a),h,e.symm⟩);have:=ih jh.2 h;simp only [jw,cW,hx,ne_eq,not_false_eq_true,decide_true,if_true];simp only [ne_eq] at this;rw [this,←Bool.or_assoc,←Bool.or_assoc,Bool.or_comm (c x)]
theorem agD {l:List (κ×α)} {k:κ} {a:α} (h:(k,a)∈l):(l.filter fun y=>decide (y.1≠k)).length<l.length:=by
 refine Nat.lt_of_le_of_ne (List.length_filter_le _ _) fun e=>?_;have:=List.length_filter_eq_length_iff.1 e (k,a) h;simp at this
theorem ak.fi {X0:XS} {w0:World} (h:ak X0 w0 X w) (hA: ∀k,A k→X0 k):Mv A w0 A w:=fun k hk _=>⟨hk,h.kp.block k (hA k hk)⟩
theorem agE {t kt et b:Nat} {kv:κ→Value} {rd:World→XS→Value→α→Prop} {l:List (κ×α)} {N:Value→World→XS→Prop} (h:dS w X A b kv rd l) (hm:mV rd) (hA: ∀k,A k→X k)
  (ht:P.underlying t=some (.map kt et)) (hX: ∀k,X k→k<w.heap.size)
  (n: ∀r w' X',w.heap.size≤r→ak X w X' w'→JM w' X' A r b kv rd l l→N (ptr r 0) w' X'):eV P R X w m (Instr.range t (.map (some b))) N:=by
 obtain⟨es,c,h1,h2⟩:=h;refine aeK h1 ht hX fun r w' X' hr hs hi=>n r w' X' hr hs ?_;have mv:Mv A w A w':=fun k hk _=>⟨hk,hs.kp.block k (hA k hk)⟩;exact⟨es,c,es,hi,h2.mv hm mv,h2.mv hm mv,List.Sublist.refl _⟩
theorem aiI {ty r b:Nat} {kv:κ→Value} {rd:World→XS→Value→α→Prop} {l left:List (κ×α)} {N:Value→World→XS→Prop} (h:JM w X A r b kv rd l left) (hm:mV rd)
  (hA: ∀k,A k→X k∧k≠r) (hX: ∀k,X k→k<w.heap.size)
  (n0:left=[]→ ∀w' X',ak X w X' w'→N (.tuple #[.bool false]) w' X')
  (n1: ∀k a v,(k,a)∈left→ ∀w' X',ez (· =r) X w X' w'→rd w' A v a→JM w' X' A r b kv rd l (left.filter fun y=>decide (y.1≠k))→
   (∀wa,Kp X' w' wa→(k6 (ptr r 0)).run P wa= .ok (.tuple #[kv k,v]) wa)→N (.tuple #[.bool true,kv k,v]) w' X'):
  eV P R X w true (Instr.next (ptr r 0) false ty) N:=by
 obtain⟨es,c,Mp,h1,h2,h3,h4⟩:=h;refine agw h1 hX (fun h0 w' X' hs=>n0 ?_ w' X' hs) fun x hx w' X' hg hi he=>?_
 ·subst h0;cases left with
  |nil=>rfl
  |cons y t=>exact h3.elim
 ·have hc:ez (· =r) X w X' w':=hg.fL.mono fun k _ hk=>by simpa using hk
  have mv:Mv A w A w':=fun k hk _=>⟨hk,hc.block k (hA k hk).1 (hA k hk).2⟩;obtain⟨a,ha,hra⟩:=h3.mem x hx;refine n1 x.1 a x.2.1 ha w' X' hc (hm _ _ _ _ _ _ hra mv) ?_ he;have hk: ∀y∈Mp,decide (y.2.2≠x.2.2)=decide (y.1≠x.1):=by
   intro y hy;have hye:=h4.subset hy;have hxe:=h4.subset hx;have n1:=h1.1.2.2.1;have n2:=h1.1.2.2.2.1;obtain⟨i,hi9,rfl⟩:=uq hye;obtain⟨j,hj,rfl⟩:=uq hxe;have inj: ∀{β:Type} (f:gB κ→β),(es.map f).Nodup→(f es[i]=f es[j]↔i=j):=by
    intro β f n;constructor
    ·intro e;have hp:=List.pairwise_iff_getElem.1 n;rcases Nat.lt_trichotomy i j with h|h|h
     ·exact absurd (by rw [nv,nv];exact e) (hp i j (by simpa using hi9) (by simpa using hj) h)
     ·exact h
     ·exact absurd (by rw [nv,nv];exact e.symm) (hp j i (by simpa using hj) (by simpa using hi9) h)
    ·rintro rfl;rfl
   have e1:=inj (·.1) n1;have e2:=inj (·.2.2) n2;simp only [ne_eq,e1,e2]
  have hf:(Mp.filter fun y=>decide (y.2.2≠x.2.2))=Mp.filter fun y=>decide (y.1≠x.1):=List.filter_congr hk;refine⟨es,c,_,hi,h2.mv hm mv,?_,?_⟩
  ·rw [hf];exact(h3.filter (fun k=>decide (k≠x.1))).mv hm mv
  ·exact(List.filter_sublist).trans h4
theorem agF {r:Nat} {k v:Value} {N:Value→World→XS→Prop} (hX: ∀k,X k→k<w.heap.size)
  (h: ∀wa,Kp X w wa→(k6 (ptr r 0)).run P wa= .ok (.tuple #[k,v]) wa) (n: ∀w' X',ak X w X' w'→N (.tuple #[k,v]) w' X'):
  eV P R X w m (k6 (ptr r 0)) N:=aeL hX h n
def Qu (w:World) (A:XS) (rd:World→XS→Value→α→Prop) (k:κ):List (gB κ)→List (κ×α)→Prop
 |[],[]=>True
 |e::es,x::l=>e.1=x.1∧(x.1≠k→rd w A e.2.1 x.2)∧Qu w A rd k es l
 |_,_=>False
def Zt (w:World) (X A:XS) (b:Nat) (kv:κ→Value) (rd:World→XS→Value→α→Prop) (k:κ) (l:List (κ×α)):Prop:=
 ∃es c,jQ w X b kv es c∧Qu w A rd k es l
theorem k7.toX {rd:World→XS→Value→α→Prop} {k:κ} : ∀{es:List (gB κ)} {l:List (κ×α)},k7 w A rd es l→
  (∀x v,x∈l→x.1≠k→rd w A v x.2→rd w' A' v x.2)→Qu w' A' rd k es l
 |[],[],_,_=>trivial
 |e::es,x::l,⟨h1,h2,h3⟩,hm=>⟨h1,fun hk=>hm x _ (by simp) hk h2,k7.toX h3 fun y v hy=>hm y v (by simp [hy])⟩
 |[],_::_,h,_=>h.elim
 |_::_,[],h,_=>h.elim
theorem dS.toX {b:Nat} {kv:κ→Value} {rd:World→XS→Value→α→Prop} {k:κ} {l:List (κ×α)} (h:dS w X A b kv rd l) (m:Mv (fun g=>g=b) w Y w')
  (hm: ∀x v,x∈l→x.1≠k→rd w A v x.2→rd w' A' v x.2):Zt w' Y A' b kv rd k l:=by
 obtain⟨es,c,h1,h2⟩:=h;exact⟨es,c,jQ.mv (X:=fun g=>g=b) ⟨rfl,h1.2⟩ m,h2.toX hm⟩
theorem Qu.put {rd:World→XS→Value→α→Prop} {k:κ} {v:Value} {a:α} {c:Nat} (hv:rd w A v a): ∀{es:List (gB κ)} {l:List (κ×α)},(es.map (·.1)).Nodup→Qu w A rd k es l→k7 w A rd (Bx k v c es) (dR k a l)
 |[],[],_,_=>⟨rfl,hv,trivial⟩
 |e::es,x::l,hn,⟨h1,h2,h3⟩=>by
  have jh:=List.nodup_cons.1 hn;unfold Bx dR;by_cases hk:x.1=k
  ·rw [if_pos (h1.trans hk),if_pos hk];refine⟨h1.trans hk,hv,?_⟩;have du: ∀y∈es,y.1≠k:=fun y hy e'=>jh.1 (List.mem_map.2 ⟨y,hy,e'.trans (hk.symm.trans h1.symm)⟩);clear hn jh h1 h2
   induction es generalizing l with
   |nil=>cases l<;>first|trivial|exact h3.elim
   |cons e2 es ih=>
    cases l with
    |nil=>exact h3.elim
    |cons y l=>exact⟨h3.1,h3.2.1 (h3.1▸du e2 (by simp)),ih l h3.2.2 fun z hz=>du z (by simp [hz])⟩
  ·rw [if_neg (by rw [h1];exact hk),if_neg hk];exact⟨h1,h2 hk,Qu.put hv jh.2 h3⟩
 |[],_::_,_,h=>h.elim
 |_::_,[],_,h=>h.elim
theorem abD {t kt et b:Nat} {kv:κ→Value} {rd:World→XS→Value→α→Prop} {l:List (κ×α)} {k:κ} {v:Value} {a:α} {N:Value→World→XS→Prop} (h:Zt w X A b kv rd k l) (hm:mV rd)
  (hv:rd w A v a) (hA: ∀k,A k→X k∧k≠b) (K:sS P kt kv) (ht:P.underlying t=some (.map kt et)) (hX: ∀k,X k→k<w.heap.size)
  (n: ∀w' X',ez (· =b) X w X' w'→dS w' X' A b kv rd (dR k a l)→N undef w' X'):
  eU P R X w true (aP t (.map (some b)) (kv k) v) N:=by
 obtain⟨es,c,h1,h2⟩:=h;refine acr h1 K ht hX fun w' X' hg hi=>?_;have hc:ez (· =b) X w X' w':=hg.fL.mono fun k _ hk=>by simpa using hk
 refine n w' X' hc ⟨_,_,hi,?_⟩;rw [Y8];have mv:Mv A w A w':=fun k hk _=>⟨hk,hc.block k (hA k hk).1 (hA k hk).2⟩;exact(h2.put hv h1.2.2.1).mv hm mv
theorem kh {l:List (κ×α)} {k:κ} {a:α} (h:getM k l=some a):(k,a)∈l:=by
 unfold getM at h;obtain⟨x,hx,rfl⟩:=Option.map_eq_some_iff.1 h;have h1:=List.mem_of_find?_eq_some hx;have h2:x.1=k:=by simpa using List.find?_some hx
 subst h2;exact h1
theorem zB {l:List (κ×α)} (hn:(l.map (·.1)).Nodup) {k:κ} {a:α} (h:(k,a)∈l):getM k l=some a:=by
 induction l with
 |nil=>cases h
 |cons x l ih=>
  have jh:=List.nodup_cons.1 hn;rcases List.mem_cons.1 h with h|h
  ·subst h;simp [getM]
  ·have hx:x.1≠k:=fun e=>jh.1 (List.mem_map.2 ⟨(k,a),h,e.symm⟩);have:=ih jh.2 h;simp only [getM,eb,hx,decide_false,a8,if_false];exact this
theorem jv {l:List (κ×α)} {k:κ} {a:α} : ∀{x:κ×α},(l.map (·.1)).Nodup→x∈dR k a l→x=(k,a)∨(x∈l∧x.1≠k):=by
 induction l with
 |nil=>intro x _ h;left;simpa [dR] using h
 |cons y l ih=>
  intro x hn h;have jh:=List.nodup_cons.1 hn;unfold dR at h;split at h
  ·rename_i hy;rcases List.mem_cons.1 h with h|h
   ·exact .inl h
   ·exact .inr ⟨by simp [h],fun e=>jh.1 (List.mem_map.2 ⟨x,h,e.trans hy.symm⟩)⟩
  ·rename_i hy;rcases List.mem_cons.1 h with h|h
   ·exact .inr ⟨by simp [h],by rw [h];exact hy⟩
   ·rcases ih jh.2 h with h|⟨h,h2⟩
    ·exact .inl h
    ·exact .inr ⟨by simp [h],h2⟩
theorem nZ {t:TypeId} {l:List Value} {N:Value→World→XS→Prop} (hX: ∀k,X k→k<w.heap.size)
  (n: ∀b w' X',w.heap.size≤b→ak X w X' w'→a7 w' X' b l t→N (ptr b 0) w' X'):eV P R X w m (Instr.box t (.agg l.toArray)) N:=
 Y5 hX fun b w' X' hb hs hx hr=>n b w' X' hb hs ⟨hx,by simpa [Value.cells] using hr⟩
theorem td {t:TypeId} {v:Value} {N:Value→World→XS→Prop} (ho:one v=true) (hX: ∀k,X k→k<w.heap.size)
  (n: ∀b w' X',w.heap.size≤b→ak X w X' w'→a7 w' X' b [v] t→N (ptr b 0) w' X'):eV P R X w m (Instr.box t v) N:=
 Y5 hX fun b w' X' hb hs hx hr=>n b w' X' hb hs ⟨hx,by
  have:v.cells.toList=[v]:=by cases v<;>first|rfl|cases ho
  rw [this] at hr;exact hr⟩
theorem ak.ct {w:World} {X:XS} (h: ∀k,X k→k<w.heap.size):ak X w X w:=⟨Kp.refl _ _,fun _ h=>h,h⟩
theorem aiJ {S f fo sz:Nat} {l l':List Value} {N:Value→Prop} (hf:fieldInfo P S f=some (fo,sz)) (hg:VH P S f=some true) (hlen:decide (fo+sz≤l.length)=true) (hl:(l.drop fo).take sz=l')
  (k:N (.agg l'.toArray)):ae P X w (fdV S f fo sz (.agg l.toArray)) N:=by
 subst hl;unfold fieldInfo at hf;unfold VH at hg;cases hu:P.underlying S with
 |none=>simp [hu] at hf
 |some d=>
  cases d<;>simp only [hu] at hf<;>try (cases hf;done)
  rename_i fs;cases hx:fs[f]? with
  |none=>simp [hx] at hf
  |some x=>
   simp only [hx,Option.bind_some,hu] at hf hg;cases hi:P.info? x.type with
   |none=>simp [hi] at hf
   |some i=>
    simp only [hi,bt,az,Prod.mk.injEq] at hf;cases hd:P.underlying x.type with
    |none=>simp [hd] at hg
    |some d2=>
     refine cd (v:=.agg ((l.drop fo).take sz).toArray) (fun wa=>?_) k;have za:(isAgg x.type).run P wa= .ok true wa:=by
      cases d2<;>simp_all [isAgg,run_underlying hd]
     have hle:fo+sz≤l.length:=by simpa using hlen
     obtain⟨rfl,rfl⟩:=hf;simp [fdV,Instr.field,run_underlying hu,hx,asAgg,part,za,sizeOf,typeInfo,hi,hle]
theorem aj9 {f:FuncId} {la lc l:List Value} {N:Value→World→XS→Prop} (hl:la++lc=l) (h:eC P R X w m f l.toArray N):eF P R X w m (.func (.func f) #[] lc.toArray) la.toArray N:=by
 subst hl;have e: ∀wa,(FE (.func (.func f) #[] lc.toArray) la.toArray).run P wa=(callFunc f (la++lc).toArray).run P wa:=by
  intro wa;simp [FE,Deferred.ofValue,invoke]
 intro wa hk;have:=h wa hk;rw [e wa];exact this
theorem agG {fn:Fn} {a c:Array Value} {N:Value→Prop} (h:N (.func fn a c)):ae P X w (cp fn a c) N:=cd (fun wa=>by simp [cp]) h
theorem Ct.kp {f:FuncId} {args:Array Value} {F:XS} {Q:Value→World→World→Prop} (h:Ct P f args w X F Q) {w':World} (hk:Kp X w w'):Ct P f args w' X F Q:=fun wa af=>h wa (hk.trans af)
theorem Ct.since {f:FuncId} {args:Array Value} {F X':XS} {Q:Value→World→World→Prop} (h:Ct P f args w X F Q) {w':World} (hs:ak X w X' w'):Ct P f args w' X' F Q:=fun wa af=>h wa (hs.kp.trans (af.less hs.sub))
theorem Ct.aV {f:FuncId} {args:Array Value} {F:XS} {Q:Value→World→World→Prop} (h:Ct P f args w X F Q) (hX: ∀k,X k→k<w.heap.size):Ct P f args w (aR.aV w) F Q:=
 fun wa af=>h wa (af.less fun k hk=>hX k hk)
def idxOf (p:α→Bool):List α→Int
 |[]=> -1
 |x::l=>if p x then 0 else let i:=idxOf p l;if i<0 then i else i+1
theorem JN (p:α→Bool): ∀l:List α,decide (idxOf p l≥0)=l.any p
 |[]=>rfl
 |x::l=>by
  have ih:=JN p l;unfold idxOf;by_cases hp:p x
  ·simp [hp]
  ·simp only [hp,a8,if_false,jw,Bool.false_or,←ih];by_cases hi:idxOf p l<0
   ·simp [hi]
   ·simp only [hi,if_false];congr 1;simp;omega
theorem Ni {p:α→Bool} {l:List α} {i:Nat} (h: ∀k x,k<i→l[k]? =some x→p x=false) {x:α} (hx:l[i]? =some x) (hp:p x=true):idxOf p l=i:=by
 induction l generalizing i with
 |nil=>simp at hx
 |cons y l ih=>
  cases i with
  |zero=>simp only [List.getElem?_cons_zero,az] at hx;subst hx;simp [idxOf,hp]
  |succ i=>
   have hy:=h 0 y zQ rfl;have:=ih (i:=i) (fun k z hk hz=>h (k+1) z zQ (by simpa using hz)) (by simpa using hx);simp only [idxOf,hy,a8,if_false,this];rw [if_neg zQ];omega
theorem Gs {p:α→Bool} {l:List α} (h: ∀k x,k<l.length→l[k]? =some x→p x=false):idxOf p l= -1:=by
 induction l with
 |nil=>rfl
 |cons y l ih=>
  have hy:=h 0 y (by simp) rfl;have:=ih fun k z hk hz=>h (k+1) z (by simpa using hk) (by simpa using hz);simp [idxOf,hy,this]
theorem ak.less {X0 Y0:XS} {w0:World} (h:ak X0 w0 X w) (hs: ∀k,Y0 k→X0 k):ak Y0 w0 X w:=⟨h.kp.less hs,fun k hk=>h.sub k (hs k hk),h.has⟩
theorem Own.UE {g n cap:Nat} {e k lo:Nat} {cs:List Value} {rows:List (List Value)} (h:a7 w X g cs e) (fp:lo≤g) (hr: ∀r∈rows,r.length=k) (hn:rows.length=n) (hc:n≤cap) (hm:cap≤maxLen)
  (hl:cs.length=cap*k) (ht:cs.take (n*k)=rows.flatten):Own w X lo e k (.slice (some ⟨g,0,none⟩) n cap) rows:=
 ⟨hr,⟨by rw [qi hr],.inr ⟨g,cap,cs.toArray,by rw [hn],fp,h.2,by rw [hn];exact hc,hm,by simpa using hl,by rw [hn];simpa using ht⟩⟩,fun g' hg=>by simp only [Value.ownBlock,az] at hg;subst hg;exact h.1⟩
theorem Own.row {e k lo:Nat} {v:Value} {rows:List (List Value)} (h:Own w X lo e k v rows):(v= .slice none 0 0∧rows=[])∨
  ∃g cap cs,v= .slice (some ⟨g,0,none⟩) rows.length cap∧lo≤g∧a7 w X g cs e∧rows.length≤cap∧cap≤maxLen∧cs.length=cap*k∧cs.take (rows.length*k)=rows.flatten:=by
 obtain⟨h1,h2,h3⟩:=h;rcases h2.2 with⟨rfl,hn⟩|⟨g,cap,cur,rfl,hb,hg,xx,lG,jz,ht⟩
 ·exact .inl ⟨rfl,List.eq_nil_of_length_eq_zero hn⟩
 ·exact .inr ⟨g,cap,cur.toList,rfl,hb,⟨h3 g rfl,by simpa using hg⟩,xx,lG,by simpa using jz,ht⟩
theorem afC {t:TypeId} {k g n cap:Nat} {z:Int} {i:Nat} {N:Value→Prop} (hz:z=i) (hi:i<n) (ht:P.underlying t=some (.slice (P.elem t))) (hs:(P.info? (P.elem t)).map (·.size)=some k) (h:N (ptr g (i*k))):
  ae P X w (dr t k (.slice (some ⟨g,0,none⟩) n cap) (.int .i64 z)) N:=by
 subst hz;refine cd (v:=ptr g (i*k)) (fun wa=>?_) h
 show(Instr.indexAt t _ _).run P wa=_
 rw [run_indexAt_slice (h:=ht),if_pos zQ];cases hq:P.info? (P.elem t)with
 |none=>simp [hq] at hs
 |some inf=>
  have:inf.size=k:=by simpa [hq] using hs
  simp [sizeOf,typeInfo,hq,this,y9]
theorem By {t sz b o:Nat} {cs:List Value} {ty:TypeId} {v:Value} {N:Value→World→XS→Prop} (h:a7 w X b cs ty) (ht:(P.info? t).map (·.size)=some sz)
  (hl:o+sz≤cs.length) (hv:v.cells.size=sz) (h1:v.cells.toList.all one=true) (hX: ∀k,X k→k<w.heap.size)
  (n: ∀w' X',ez (fun k=>k=b) X w X' w'→a7 w' X' b (cV cs o v.cells.toList) ty→N undef w' X'):eU P R X w true (st1 t sz (ptr b o) v) N:=
 aeI h ht hl hv h1 hX fun w' X' hg hr=>n w' X' (hg.fL.mono fun k _ hk=>by simpa using hk) hr
theorem Ol {t:TypeId} {a:Option Addr} {n cap:Nat} {z:Int} {i:Nat} {N:Value→Prop} (hz:z=i) (hi:i≤cap) (ht:P.underlying t=some (.slice (P.elem t))) (hs:((P.info? (P.elem t)).map (·.size)).isSome=true) (h:N (.slice a i cap)):
  ae P X w (Instr.sliceAt t (.slice a n cap) none (some (.int .i64 z)) none) N:=by
 subst hz;obtain⟨k,hk⟩:=Option.isSome_iff_exists.1 hs;refine cd (v:=.slice a i cap) (fun wa=>?_) h;rw [run_sliceAt_slice wa t _ _ _ _ ht,run_slice_h wa t a n cap ht .i64 i zQ zQ];cases hq:P.info? (P.elem t)with
 |none=>simp [hq] at hk
 |some inf=>
  have:a.map (fun x=>x.add 0)=a:=by cases a<;>simp [Addr.add]
  simp [sizeOf,typeInfo,hq,sliced,this]
variable {P : Program}
def TG (P:Program) (t e k:Nat):Bool:=match P.underlying t,P.info? e with
 |some (.slice e'),some i=>e'==e&&i.size==k&&(match i.zero with|some z=>z.cells.size==k|none=>false)&&decide (0<k)&&decide (k≤2^20)
 |_,_=>false
theorem Sp {t e k:Nat} (h:TG P t e k=true):P.underlying t=some (.slice e)∧0<k∧k≤2^20∧ ∃z:Value,(P.info? e).bind (fun i=>i.zero.map fun z=>(i.size,z))=some (k,z):=by
 unfold TG at h;split at h
 ·rename_i e' i hu hi;simp only [Bool.and_eq_true,beq_iff_eq,decide_eq_true_eq] at h;obtain⟨⟨⟨⟨rfl,h2⟩,h4⟩,h5⟩,h6⟩:=h;cases hz:i.zero with
  |none=>simp [hz] at h4
  |some z=>exact⟨hu,h5,h6,z,by simp [hi,hz,h2]⟩
 ·cases h
section
variable {w : World} {X : XS} {R : Ending → World → Prop} {t e k : Nat} {m : Bool} {N : Value → World → XS → Prop}
theorem F8 {l:List Value} (hX: ∀k,X k→k<w.heap.size) (he:TG P t e k=true) (hk:(l.length==k)=true)
  (n: ∀v w' X',ak X w X' w'→Own w' X' w.heap.size e k v [l]→N v w' X'):eV P R X w m (fC t e k 1 #[(0,.agg l.toArray)]) N:=by
 obtain⟨hu,h0,h1,z,hz⟩:=Sp he;have af:l.length=k:=by simpa using hk
 refine zj (rows:=[l]) l.toArray z hX hu hz zQ zQ ?_ (by simpa using af) rfl (by simp) n;simp only [Nat.one_mul];exact Cz (x:=.agg l.toArray) (by simpa [Value.cells] using af) (by simp)
theorem IK {x:Value} (hX: ∀k,X k→k<w.heap.size) (he:TG P t e k=true) (ho:one x=true) (hk:(k==1)=true)
  (n: ∀v w' X',ak X w X' w'→Own w' X' w.heap.size e k v [[x]]→N v w' X'):eV P R X w m (fC t e k 1 #[(0,x)]) N:=by
 obtain⟨hu,h0,h1,z,hz⟩:=Sp he;have af:1=k:=by simpa using (beq_iff_eq.1 hk).symm
 have hc:=rz ho;refine zj (rows:=[[x]]) x.cells z hX hu hz zQ zQ ?_ (by simpa using af) rfl (by rw [hc];rfl) n;simp only [Nat.one_mul];exact Cz (by rw [hc];simpa using af) (by simp)
end
def K1 (P:Program) (t:TypeId):Bool:=match P.underlying t with
 |some (.pointer _)=>true
 |_=>false
theorem DH {t:TypeId} (h:K1 P t=true):P.underlying t=some (.pointer (P.pointee t)):=by
 unfold K1 at h;split at h
 ·rename_i e he;simp [Program.pointee,he]
 ·cases h
section
variable {w : World} {X : XS} {N : Value → Prop} {t : TypeId} {xo yo : Operand}
theorem agH {a:Addr} (ht:K1 P t=true) (k:N (.bool false)):ae P X w (aE .eql t xo yo (.pointer (some a)) (.pointer none)) N:=VA (p:=some a) (DH ht) k
theorem agI (ht:K1 P t=true) (k:N (.bool true)):ae P X w (aE .eql t xo yo (.pointer none) (.pointer none)) N:=VA (p:=none) (DH ht) k
theorem aiK {a:Addr} (ht:K1 P t=true) (k:N (.bool true)):ae P X w (aE .neq t xo yo (.pointer (some a)) (.pointer none)) N:=by
 refine cd (fun wa=>?_) k;have:=run_neq_pointer_nil (P:=P) (w:=wa) t (some a) (DH ht);simp [aE,eqGuard,this]
theorem aiL (ht:K1 P t=true) (k:N (.bool false)):ae P X w (aE .neq t xo yo (.pointer none) (.pointer none)) N:=by
 refine cd (fun wa=>?_) k;have:=run_neq_pointer_nil (P:=P) (w:=wa) t none (DH ht);simp [aE,eqGuard,this]
end
end Go.aR
