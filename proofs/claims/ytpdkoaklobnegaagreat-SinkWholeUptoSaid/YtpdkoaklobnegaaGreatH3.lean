/-
 Part 3 of the proof: what the last text leans on.
-/
import Derived.Laws.Slices
import Derived.Laws.Pointers
import Derived.Recover
import Derived.Laws.MakeOwn
import Derived.Laws.BytesArg
import Derived.Laws.Concat
import Derived.Laws.IdiomStrings
import Derived.KernelRfl
import Derived.Test.YtpdkoaklobnegaaGreatProg
import Derived.Test.YtpdkoaklobnegaaGreatH2
open Option.some renaming injEq → aB
open Nat renaming le_refl → bf, le_trans → ah, lt_of_lt_of_le → aK, zero_add → fp, add_mul → nf, mul_le_mul_right → fb, one_mul → xU, zero_le → aN
open Go.Sem renaming run_bind → bO, run_pure → ck
open Go.Result renaming andThen_ok → bt
open Option renaming map_some → bM, bind_some → cN, map_none → yT, isNone_iff_eq_none → gP
open Go.Builtin renaming append_ → eu, lenOf → nF, zeroCells → ll, firstCells → vy, nextslicecap → tP
open List renaming length_append → ae, getElem?_map → cr, append_assoc → au, getElem?_eq_getElem → bB, mem_of_getElem? → aX, find?_cons → dF, filter_cons → lV, size_toArray → il, take_left → mV, findIdx?_cons → iG, mem_cons_of_mem → aZ, getElem_map → nQ, eq_nil_of_length_eq_zero → fA, length_map → aG, length_take → bp, length_drop → bU, flatten_cons → cD, getD → kN, any_cons → km, getElem_of_mem → pt, flatten_append → gb, drop_zero → ja, getElem?_cons_zero → fP, nil_append → cT, getElem?_take → kF, getElem?_drop → gV, length_nil → bz, getElem?_eq_none → jJ, getElem?_zip_eq_some → qg, all_eq_true → lE, getElem_mem → xV
open Bool renaming false_eq_true → bu, and_eq_true → aA, not_eq_true' → bV
open Go.Region renaming wanted → cf
open Go.Instr renaming sliceAt → cp, lookup → dR, makeFunc → cx, entry → lU, alloc → gZ, panic → xW, makeSlice → yU, buildSlice → iD, makeInterface → uz, typeAssert → xX
open Array renaming length_toList → dC, ext' → td, getD_eq_getD_getElem? → jt, size_append → qJ, toList_append → jb, replicate → dz, getElem?_setIfInBounds → dQ, getElem?_append → jK, getElem?_replicate → iR
open Prod.mk renaming injEq → dg
open Go.Value renaming int → aC, ownBlock → gW, cells → ad
open Go.Addr renaming add_lit → mE
open Go.Oper renaming wp → iS, upon_defer → sM, upon_value → yV
open Go.Deferred renaming ofValue → iy
open Go.World renaming freeze → rR
open Go.Act renaming eval → kD
open Go.Code renaming region → xY
open Go.Obj.cells renaming injEq → yW
set_option linter.unusedSectionVars false
set_option linter.unusedVariables false
set_option linter.unusedSimpArgs false
namespace Go.dL
variable {P : Program} {R : Ending → World → Prop} {X Y A A' : XS} {w w' : World} {m : Bool} {κ : Type} [DecidableEq κ] {α : Type}
def Hf (P:Program) (S f:Nat):Option Bool:=match P.underlying S with
 |some (.struct fs)=>match fs[f]? with
  |some x=>match P.underlying x.type with
   |some (.struct _)|some (.array _ _)=>some true
   |some _=>some false
   |none=>none
  |none=>none
 |_=>none
def tu (rd:World→XS→Value→α→Prop):Prop:= ∀(X Y:XS) (w w':World) (v:Value) (x:α),rd w X v x→Mv X w Y w'→rd w' Y v x
def mJ (w:World) (A:XS) (rd:World→XS→Value→α→Prop):List (jL κ)→List (κ×α)→Prop
 |[],[]=>True
 |e::es,x::l=>e.1=x.1∧rd w A e.2.1 x.2∧mJ w A rd es l
 |_,_=>False
theorem mJ.mv {rd:World→XS→Value→α→Prop} (hm:tu rd) (v:Mv A w A' w'): ∀{es:List (jL κ)} {l:List (κ×α)},mJ w A rd es l→mJ w' A' rd es l
 |[],[],_=>trivial
 |_::_,_::_,⟨h1,h2,h3⟩=>⟨h1,hm _ _ _ _ _ _ h2 v,mJ.mv hm v h3⟩
 |[],_::_,h=>h.elim
 |_::_,[],h=>h.elim
theorem mJ.keys {rd:World→XS→Value→α→Prop} : ∀{es:List (jL κ)} {l:List (κ×α)},mJ w A rd es l→es.map (·.1)=l.map (·.1)
 |[],[],_=>rfl
 |_::_,_::_,⟨h1,_,h3⟩=>by simp [h1,mJ.keys h3]
 |[],_::_,h=>h.elim
 |_::_,[],h=>h.elim
theorem mJ.append {rd:World→XS→Value→α→Prop} : ∀{es zW:List (jL κ)} {l l':List (κ×α)},mJ w A rd es l→mJ w A rd zW l'→mJ w A rd (es++zW) (l++l')
 |[],_,[],_,_,h'=>h'
 |_::_,_,_::_,_,⟨h1,h2,h3⟩,h'=>⟨h1,h2,mJ.append h3 h'⟩
 |[],_,_::_,_,h,_=>h.elim
 |_::_,_,[],_,h,_=>h.elim
def getM (k:κ) (l:List (κ×α)):Option α:=(l.find? fun x=>decide (x.1=k)).map (·.2)
def fC (k:κ) (a:α):List (κ×α)→List (κ×α)
 |[]=>[(k,a)]
 |x::l=>if x.1=k then(k,a)::l else x::fC k a l
def mz (k:κ) (l:List (κ×α)):List (κ×α):=l.filter fun x=>decide (x.1≠k)
theorem mJ.get {rd:World→XS→Value→α→Prop} (k:κ): ∀{es:List (jL κ)} {l:List (κ×α)},mJ w A rd es l→
  (EK k es=none∧getM k l=none)∨ ∃v a,EK k es=some v∧getM k l=some a∧rd w A v a
 |[],[],_=>.inl ⟨rfl,rfl⟩
 |e::es,x::l,⟨h1,h2,h3⟩=>by
  by_cases hk:x.1=k
  ·exact .inr ⟨e.2.1,x.2,by simp [EK,h1,hk],by simp [getM,hk],h2⟩
  ·rcases mJ.get k h3 with⟨q1,q2⟩|⟨v,a,q1,q2,q3⟩
   ·left;constructor
    ·simp only [EK,dF,h1,hk,decide_false,bu,if_false];exact q1
    ·simp only [getM,dF,hk,decide_false,bu,if_false];exact q2
   ·right;refine⟨v,a,?_,?_,q3⟩
    ·simp only [EK,dF,h1,hk,decide_false,bu,if_false];exact q1
    ·simp only [getM,dF,hk,decide_false,bu,if_false];exact q2
 |[],_::_,h=>h.elim
 |_::_,[],h=>h.elim
def BV (k:κ) (v:Value) (c:Nat):List (jL κ)→List (jL κ)
 |[]=>[(k,v,c)]
 |e::es=>if e.1=k then(e.1,v,e.2.2)::es else e::BV k v c es
theorem ag6 (k:κ) (v:Value) (c:Nat) (es:List (jL κ)):(C7 k v c es).1=BV k v c es:=by
 induction es with
 |nil=>simp [C7,BV]
 |cons e es ih=>
  unfold C7 at ih⊢;by_cases hk:e.1=k
  ·simp [iG,hk,BV]
  ·simp only [iG,hk,decide_false,bu,if_false,BV];cases hf:es.findIdx? fun x=>decide (x.1=k)with
   |none=>rw [hf] at ih;simp only [yT,List.cons_append] at ih⊢;rw [ih]
   |some j=>rw [hf] at ih;simp only [bM,List.modify_succ_cons] at ih⊢;rw [ih]
theorem mJ.put {rd:World→XS→Value→α→Prop} {k:κ} {v:Value} {a:α} {c:Nat} (hv:rd w A v a): ∀{es:List (jL κ)} {l:List (κ×α)},mJ w A rd es l→mJ w A rd (BV k v c es) (fC k a l)
 |[],[],_=>⟨rfl,hv,trivial⟩
 |e::es,x::l,⟨h1,h2,h3⟩=>by
  unfold BV fC;by_cases hk:x.1=k
  ·rw [if_pos (h1.trans hk),if_pos hk];exact⟨h1.trans hk,hv,h3⟩
  ·rw [if_neg (by rw [h1];exact hk),if_neg hk];exact⟨h1,h2,mJ.put hv h3⟩
 |[],_::_,h=>h.elim
 |_::_,[],h=>h.elim
def Ug (k:κ) (es:List (jL κ)):List (jL κ):=es.filter fun x=>decide (x.1≠k)
theorem aad (k:κ): ∀(es:List (jL κ)),(es.map (·.1)).Nodup→Ob k es=Ug k es
 |[],_=>rfl
 |e::es,h=>by
  have h':(es.map (·.1)).Nodup:=(List.nodup_cons.1 h).2;have ih:=aad k es h';unfold Ob at ih⊢;by_cases hk:e.1=k
  ·have:es.filter (fun x=>decide (x.1≠k))=es:=List.filter_eq_self.2 fun x hx=>by
    have:x.1≠k:=fun hxk=>(List.nodup_cons.1 h).1 (by simp only [List.mem_map];exact⟨x,hx,by rw [hxk,hk]⟩);simpa using this
   simp only [Ug] at this⊢;simp only [iG,hk,decide_true,if_true,List.eraseIdx_cons_zero,ne_eq,not_true_eq_false,decide_false,lV,bu,if_false];exact this.symm
  ·simp only [iG,hk,decide_false,bu,if_false];cases hf:es.findIdx? fun x=>decide (x.1=k)with
   |none=>rw [hf] at ih;simp only [yT];simp only at ih;rw [ih];simp [Ug,hk,←ih]
   |some j=>rw [hf] at ih;simp only [bM,List.eraseIdx_cons_succ] at ih⊢;rw [ih];simp [Ug,hk]
theorem mJ.filter {rd:World→XS→Value→α→Prop} (p:κ→Bool): ∀{es:List (jL κ)} {l:List (κ×α)},mJ w A rd es l→mJ w A rd (es.filter fun x=>p x.1) (l.filter fun x=>p x.1)
 |[],[],_=>trivial
 |e::es,x::l,⟨h1,h2,h3⟩=>by
  have ih:=mJ.filter p h3;by_cases hp:p x.1=true
  ·simp only [lV,h1,hp,if_true];exact⟨h1,h2,ih⟩
  ·simp only [lV,h1,hp,if_false];exact ih
 |[],_::_,h=>h.elim
 |_::_,[],h=>h.elim
theorem mJ.mem {rd:World→XS→Value→α→Prop} : ∀{es:List (jL κ)} {l:List (κ×α)},mJ w A rd es l→ ∀e∈es,∃a,(e.1,a)∈l∧rd w A e.2.1 a
 |[],[],_,_,h=>by cases h
 |e0::es,x::l,⟨h1,h2,h3⟩,e,he=>by
  rcases List.mem_cons.1 he with rfl|he
  ·exact⟨x.2,by rw [h1];simp,h2⟩
  ·obtain⟨a,ha,hr⟩:=mJ.mem h3 e he;exact⟨a,aZ _ ha,hr⟩
 |[],_::_,h,_,_=>h.elim
 |_::_,[],h,_,_=>h.elim
def iK (w:World) (X A:XS) (b:Nat) (kv:κ→Value) (rd:World→XS→Value→α→Prop) (l:List (κ×α)):Prop:=
 ∃es c,mj w X b kv es c∧mJ w A rd es l
theorem iK.mv {b:Nat} {kv:κ→Value} {rd:World→XS→Value→α→Prop} {l:List (κ×α)} (h:iK w X A b kv rd l) (hm:tu rd) (v:Mv X w Y w') (va:Mv A w A' w'):iK w' Y A' b kv rd l:=
 let⟨es,c,h1,h2⟩:=h
 ⟨es,c,h1.mv v,h2.mv hm va⟩
theorem iK.nodup {b:Nat} {kv:κ→Value} {rd:World→XS→Value→α→Prop} {l:List (κ×α)} (h:iK w X A b kv rd l):(l.map (·.1)).Nodup:=by
 obtain⟨es,c,h1,h2⟩:=h;rw [←h2.keys];exact h1.2.2.1
theorem iK.x {b:Nat} {kv:κ→Value} {rd:World→XS→Value→α→Prop} {l:List (κ×α)} (h:iK w X A b kv rd l):X b∧b<w.heap.size:=
 let⟨_,_,h1,_⟩:=h
 ⟨h1.1,(Array.getElem?_eq_some_iff.1 h1.2.1).1⟩
theorem iK.own {b:Nat} {kv:κ→Value} {rd:World→XS→Value→α→Prop} {l:List (κ×α)} (h:iK w X A b kv rd l):iK w (fun k=>k=b) A b kv rd l:=
 let⟨es,c,h1,h2⟩:=h
 ⟨es,c,⟨rfl,h1.2⟩,h2⟩
theorem bH.own {b:Nat} {cs:List Value} {ty:TypeId} (h:bH w X b cs ty):bH w (fun k=>k=b) b cs ty:=⟨rfl,h.2⟩
theorem bH.lt {b:Nat} {cs:List Value} {ty:TypeId} (h:bH w X b cs ty):b<w.heap.size:=(Array.getElem?_eq_some_iff.1 h.2).1
theorem Mv.one {b:Nat} (hk:Kp X w w') (hb:X b) (hy:Y b):Mv (fun k=>k=b) w Y w':=fun k ai _=>by subst ai;exact⟨hy,hk.block _ hb⟩
theorem Ag {t:TypeId} {kv:κ→Value} (rd:World→XS→Value→α→Prop) (A:XS) {N:Value→World→XS→Prop} (hX: ∀k,X k→k<w.heap.size)
  (n: ∀b w' X',w.heap.size≤b→aj X w X' w'→iK w' X' A b kv rd []→N (.map (some b)) w' X'):eV P R X w m (Instr.makeMap t none) N:=
 abz hX fun b w' X' hb hs hm=>n b w' X' hb hs ⟨[],0,hm,trivial⟩
theorem WT {t kt et b:Nat} {kv:κ→Value} {rd:World→XS→Value→α→Prop} {l:List (κ×α)} {k:κ} {N:Value→Prop} (z:Value) (h:iK w X A b kv rd l) (K:xS P kt kv)
  (ht:P.underlying t=some (.map kt et)) (hz:(P.info? et).bind (·.zero)=some z)
  (n1: ∀v a,getM k l=some a→rd w A v a→N (.tuple #[v,.bool true])) (n0:getM k l=none→N (.tuple #[z,.bool false])):
  aa P X w (dR t (.map (some b)) (kv k) true) N:=by
 obtain⟨es,c,h1,h2⟩:=h;refine aby z h1 K ht hz ?_;rcases h2.get k with⟨q1,q2⟩|⟨v,a,q1,q2,q3⟩
 ·rw [q1];exact n0 q2
 ·rw [q1];exact n1 v a q2 q3
theorem Jn {t kt et b:Nat} {kv:κ→Value} {rd:World→XS→Value→α→Prop} {l:List (κ×α)} {k:κ} {N:Value→Prop} (z:Value) (h:iK w X A b kv rd l) (K:xS P kt kv)
  (ht:P.underlying t=some (.map kt et)) (hz:(P.info? et).bind (·.zero)=some z)
  (n1: ∀v a,getM k l=some a→rd w A v a→N v) (n0:getM k l=none→N z):
  aa P X w (dR t (.map (some b)) (kv k) false) N:=by
 have key: ∀u q,(∀wa,Kp X w wa→(dR t (.map (some b)) (kv k) true).run P wa= .ok (.tuple #[u,.bool q]) wa)→ ∀wa,Kp X w wa→(dR t (.map (some b)) (kv k) false).run P wa= .ok u wa:=by
  intro u q hq wa hk;have h1:=hq wa hk;obtain⟨es,c,hm,_⟩:=h;have hb:=(hm.kp hk).2.1;simp only [dR,bO,run_underlying ht,bt,getObj,Sem.run,hb,K.bq,List.toList_toArray,K.find] at h1⊢;cases hf:rQ k es 0 with
  |none=>
   cases hi:P.info? et with
   |none=>simp [hi] at hz
   |some inf=>
    have zS:inf.zero=some z:=by simpa [hi] using hz
    simp [zeroValue,typeInfo,hi,zS,K.find,hf] at h1⊢;exact h1.1
  |some r=>
   simp [K.find,hf] at h1⊢;exact h1.1
 have:=WT (N:=fun v=> ∃u q,v= .tuple #[u,.bool q]∧N u) z h K ht hz (fun v a h1 h2=>⟨v,_,rfl,n1 v a h1 h2⟩) (fun h0=>⟨z,_,rfl,n0 h0⟩);obtain⟨v,hv,u,q,rfl,hn⟩:=this;refine FK u (key u q fun wa hk=>?_) hn;have:=hv wa hk;simp only [vS,bO] at this;cases hr:(dR t (.map (some b)) (kv k) true).run P wa with
 |ok a w2=>rw [hr] at this;simp only [bt,ck,Result.ok.injEq,Next.value.injEq] at this;rw [this.1,this.2]
 |halt a w2=>rw [hr] at this;simp [Result.andThen] at this
theorem Gs {t kt et b:Nat} {kv:κ→Value} {rd:World→XS→Value→α→Prop} {l:List (κ×α)} {k:κ} {v:Value} {a:α} {N:Value→World→XS→Prop} (h:iK w X A b kv rd l) (hm:tu rd)
  (hv:rd w A v a) (hA: ∀k,A k→X k∧k≠b) (K:xS P kt kv) (ht:P.underlying t=some (.map kt et)) (hX: ∀k,X k→k<w.heap.size)
  (n: ∀w' X',eD (· =b) X w X' w'→iK w' X' A b kv rd (fC k a l)→N undef w' X'):
  eU P R X w true (Instr.mapUpdate t (.map (some b)) (kv k) v) N:=by
 obtain⟨es,c,h1,h2⟩:=h;refine aip h1 K ht hX fun w' X' hg hi=>?_;have hc:eD (· =b) X w X' w':=hg.dM.mono fun k _ hk=>by simpa using hk
 refine n w' X' hc ⟨_,_,hi,?_⟩;rw [ag6];have mv:Mv A w A w':=fun k hk _=>⟨hk,hc.block k (hA k hk).1 (hA k hk).2⟩;exact(h2.put hv).mv hm mv
theorem UL {t kt et tk ty b:Nat} {kv:κ→Value} {rd:World→XS→Value→α→Prop} {l:List (κ×α)} {k:κ} {N:Value→World→XS→Prop} (h:iK w X A b kv rd l) (hm:tu rd)
  (hA: ∀k,A k→X k∧k≠b) (K:xS P kt kv) (ht:P.underlying t=some (.map kt et)) (hX: ∀k,X k→k<w.heap.size)
  (n: ∀w' X',eD (· =b) X w X' w'→iK w' X' A b kv rd (mz k l)→N (.tuple #[]) w' X'):
  eV P R X w true (Builtin.delete_ #[t,tk] ty #[.map (some b),kv k]) N:=by
 obtain⟨es,c,h1,h2⟩:=h;refine adf h1 K ht hX fun w' X' hg hi=>?_;have hc:eD (· =b) X w X' w':=hg.dM.mono fun k _ hk=>by simpa using hk
 refine n w' X' hc ⟨_,_,hi,?_⟩;rw [aad _ _ h1.2.2.1];have mv:Mv A w A w':=fun k hk _=>⟨hk,hc.block k (hA k hk).1 (hA k hk).2⟩;exact(h2.filter (fun x=>decide (x≠k))).mv hm mv
def Km (w:World) (X A:XS) (r b:Nat) (kv:κ→Value) (rd:World→XS→Value→α→Prop) (l left:List (κ×α)):Prop:=
 ∃es c MU,xT w X r b kv es c MU∧mJ w A rd es l∧mJ w A rd MU left∧MU.Sublist es
theorem Km.mv {r b:Nat} {kv:κ→Value} {rd:World→XS→Value→α→Prop} {l left:List (κ×α)} (h:Km w X A r b kv rd l left) (hm:tu rd) (v:Mv X w Y w') (va:Mv A w A' w'):Km w' Y A' r b kv rd l left:=by
 obtain⟨es,c,MU,h1,h2,h3,h4⟩:=h;refine⟨es,c,MU,⟨h1.1.mv v,?_,h1.2.2.1,?_⟩,h2.mv hm va,h3.mv hm va,h4⟩
 ·obtain⟨s,hs,_⟩:=h1.2.2.2;exact(v r h1.2.1 (Array.getElem?_eq_some_iff.1 hs).1).1
 ·obtain⟨s,hs,hl⟩:=h1.2.2.2;exact⟨s,by rw [(v r h1.2.1 (Array.getElem?_eq_some_iff.1 hs).1).2];exact hs,hl⟩
theorem Km.map {r b:Nat} {kv:κ→Value} {rd:World→XS→Value→α→Prop} {l left:List (κ×α)} (h:Km w X A r b kv rd l left):iK w X A b kv rd l:=
 let⟨es,c,_,h1,h2,_⟩:=h
 ⟨es,c,h1.1,h2⟩
theorem Km.nodup {r b:Nat} {kv:κ→Value} {rd:World→XS→Value→α→Prop} {l left:List (κ×α)} (h:Km w X A r b kv rd l left):(left.map (·.1)).Nodup:=by
 obtain⟨es,c,MU,h1,h2,h3,h4⟩:=h;rw [←h3.keys];exact h1.1.2.2.1.sublist (h4.map _)
theorem adi {l:List (κ×α)} (c:κ×α→Bool):(l.map (·.1)).Nodup→ ∀{k:κ} {a:α},(k,a)∈l→l.any c=(c (k,a)||(l.filter fun y=>decide (y.1≠k)).any c):=by
 induction l with
 |nil=>intro _ k a h;cases h
 |cons x l ih=>
  intro hn k a h;have ke:=List.nodup_cons.1 hn;rcases List.mem_cons.1 h with h|h
  ·subst h;have:l.filter (fun y=>decide (y.1≠k))=l:=List.filter_eq_self.2 fun y hy=>by
    have:y.1≠k:=fun e=>ke.1 (List.mem_map.2 ⟨y,hy,e⟩);simpa using this
   simp only [km,lV,ne_eq,not_true_eq_false,decide_false,bu,if_false];simp only [ne_eq] at this;rw [this]
  ·have hx:x.1≠k:=fun e=>ke.1 (List.mem_map.2 ⟨(k,a),h,e.symm⟩);have:=ih ke.2 h;simp only [km,lV,hx,ne_eq,not_false_eq_true,decide_true,if_true];simp only [ne_eq] at this;rw [this,←Bool.or_assoc,←Bool.or_assoc,Bool.or_comm (c x)]
theorem ag7 {l:List (κ×α)} {k:κ} {a:α} (h:(k,a)∈l):(l.filter fun y=>decide (y.1≠k)).length<l.length:=by
 refine Nat.lt_of_le_of_ne (List.length_filter_le _ _) fun e=>?_;have:=List.length_filter_eq_length_iff.1 e (k,a) h;simp at this
theorem aj.ew {X0:XS} {w0:World} (h:aj X0 w0 X w) (hA: ∀k,A k→X0 k):Mv A w0 A w:=fun k hk _=>⟨hk,h.kp.block k (hA k hk)⟩
theorem ag8 {t kt et b:Nat} {kv:κ→Value} {rd:World→XS→Value→α→Prop} {l:List (κ×α)} {N:Value→World→XS→Prop} (h:iK w X A b kv rd l) (hm:tu rd) (hA: ∀k,A k→X k)
  (ht:P.underlying t=some (.map kt et)) (hX: ∀k,X k→k<w.heap.size)
  (n: ∀r w' X',w.heap.size≤r→aj X w X' w'→Km w' X' A r b kv rd l l→N (ptr r 0) w' X'):eV P R X w m (Instr.range t (.map (some b))) N:=by
 obtain⟨es,c,h1,h2⟩:=h;refine ae9 h1 ht hX fun r w' X' hr hs hi=>n r w' X' hr hs ?_;have mv:Mv A w A w':=fun k hk _=>⟨hk,hs.kp.block k (hA k hk)⟩;exact⟨es,c,es,hi,h2.mv hm mv,h2.mv hm mv,List.Sublist.refl _⟩
theorem aiS {ty r b:Nat} {kv:κ→Value} {rd:World→XS→Value→α→Prop} {l left:List (κ×α)} {N:Value→World→XS→Prop} (h:Km w X A r b kv rd l left) (hm:tu rd)
  (hA: ∀k,A k→X k∧k≠r) (hX: ∀k,X k→k<w.heap.size)
  (n0:left=[]→ ∀w' X',aj X w X' w'→N (.tuple #[.bool false]) w' X')
  (n1: ∀k a v,(k,a)∈left→ ∀w' X',eD (· =r) X w X' w'→rd w' A v a→Km w' X' A r b kv rd l (left.filter fun y=>decide (y.1≠k))→
   (∀wa,Kp X' w' wa→(lU (ptr r 0)).run P wa= .ok (.tuple #[kv k,v]) wa)→N (.tuple #[.bool true,kv k,v]) w' X'):
  eV P R X w true (Instr.next (ptr r 0) false ty) N:=by
 obtain⟨es,c,MU,h1,h2,h3,h4⟩:=h;refine ag3 h1 hX (fun h0 w' X' hs=>n0 ?_ w' X' hs) fun x hx w' X' hg hi he=>?_
 ·subst h0;cases left with
  |nil=>rfl
  |cons y t=>exact h3.elim
 ·have hc:eD (· =r) X w X' w':=hg.dM.mono fun k _ hk=>by simpa using hk
  have mv:Mv A w A w':=fun k hk _=>⟨hk,hc.block k (hA k hk).1 (hA k hk).2⟩;obtain⟨a,ha,hra⟩:=h3.mem x hx;refine n1 x.1 a x.2.1 ha w' X' hc (hm _ _ _ _ _ _ hra mv) ?_ he;have hk: ∀y∈MU,decide (y.2.2≠x.2.2)=decide (y.1≠x.1):=by
   intro y hy;have hye:=h4.subset hy;have hxe:=h4.subset hx;have n1:=h1.1.2.2.1;have n2:=h1.1.2.2.2.1;obtain⟨i,hi9,rfl⟩:=pt hye;obtain⟨j,hj,rfl⟩:=pt hxe;have inj: ∀{β:Type} (f:jL κ→β),(es.map f).Nodup→(f es[i]=f es[j]↔i=j):=by
    intro β f n;constructor
    ·intro e;have hp:=List.pairwise_iff_getElem.1 n;rcases Nat.lt_trichotomy i j with h|h|h
     ·exact absurd (by rw [nQ,nQ];exact e) (hp i j (by simpa using hi9) (by simpa using hj) h)
     ·exact h
     ·exact absurd (by rw [nQ,nQ];exact e.symm) (hp j i (by simpa using hj) (by simpa using hi9) h)
    ·rintro rfl;rfl
   have e1:=inj (·.1) n1;have e2:=inj (·.2.2) n2;simp only [ne_eq,e1,e2]
  have hf:(MU.filter fun y=>decide (y.2.2≠x.2.2))=MU.filter fun y=>decide (y.1≠x.1):=List.filter_congr hk;refine⟨es,c,_,hi,h2.mv hm mv,?_,?_⟩
  ·rw [hf];exact(h3.filter (fun k=>decide (k≠x.1))).mv hm mv
  ·exact(List.filter_sublist).trans h4
theorem ag9 {r:Nat} {k v:Value} {N:Value→World→XS→Prop} (hX: ∀k,X k→k<w.heap.size)
  (h: ∀wa,Kp X w wa→(lU (ptr r 0)).run P wa= .ok (.tuple #[k,v]) wa) (n: ∀w' X',aj X w X' w'→N (.tuple #[k,v]) w' X'):
  eV P R X w m (lU (ptr r 0)) N:=afa hX h n
def abJ (w:World) (A:XS) (rd:World→XS→Value→α→Prop) (k:κ):List (jL κ)→List (κ×α)→Prop
 |[],[]=>True
 |e::es,x::l=>e.1=x.1∧(x.1≠k→rd w A e.2.1 x.2)∧abJ w A rd k es l
 |_,_=>False
theorem abJ.put {rd:World→XS→Value→α→Prop} {k:κ} {v:Value} {a:α} {c:Nat} (hv:rd w A v a): ∀{es:List (jL κ)} {l:List (κ×α)},(es.map (·.1)).Nodup→abJ w A rd k es l→mJ w A rd (BV k v c es) (fC k a l)
 |[],[],_,_=>⟨rfl,hv,trivial⟩
 |e::es,x::l,hn,⟨h1,h2,h3⟩=>by
  have ke:=List.nodup_cons.1 hn;unfold BV fC;by_cases hk:x.1=k
  ·rw [if_pos (h1.trans hk),if_pos hk];refine⟨h1.trans hk,hv,?_⟩;have cU: ∀y∈es,y.1≠k:=fun y hy e'=>ke.1 (List.mem_map.2 ⟨y,hy,e'.trans (hk.symm.trans h1.symm)⟩);clear hn ke h1 h2
   induction es generalizing l with
   |nil=>cases l<;>first|trivial|exact h3.elim
   |cons e2 es ih=>
    cases l with
    |nil=>exact h3.elim
    |cons y l=>exact⟨h3.1,h3.2.1 (h3.1▸cU e2 (by simp)),ih l h3.2.2 fun z hz=>cU z (by simp [hz])⟩
  ·rw [if_neg (by rw [h1];exact hk),if_neg hk];exact⟨h1,h2 hk,abJ.put hv ke.2 h3⟩
 |[],_::_,_,h=>h.elim
 |_::_,[],_,h=>h.elim
theorem gQ {l:List (κ×α)} {k:κ} {a:α} (h:getM k l=some a):(k,a)∈l:=by
 unfold getM at h;obtain⟨x,hx,rfl⟩:=Option.map_eq_some_iff.1 h;have h1:=List.mem_of_find?_eq_some hx;have h2:x.1=k:=by simpa using List.find?_some hx
 subst h2;exact h1
theorem pR {l:List (κ×α)} (hn:(l.map (·.1)).Nodup) {k:κ} {a:α} (h:(k,a)∈l):getM k l=some a:=by
 induction l with
 |nil=>cases h
 |cons x l ih=>
  have ke:=List.nodup_cons.1 hn;rcases List.mem_cons.1 h with h|h
  ·subst h;simp [getM]
  ·have hx:x.1≠k:=fun e=>ke.1 (List.mem_map.2 ⟨(k,a),h,e.symm⟩);have:=ih ke.2 h;simp only [getM,dF,hx,decide_false,bu,if_false];exact this
theorem tG {l:List (κ×α)} {k:κ} {a:α} : ∀{x:κ×α},(l.map (·.1)).Nodup→x∈fC k a l→x=(k,a)∨(x∈l∧x.1≠k):=by
 induction l with
 |nil=>intro x _ h;left;simpa [fC] using h
 |cons y l ih=>
  intro x hn h;have ke:=List.nodup_cons.1 hn;unfold fC at h;split at h
  ·rename_i hy;rcases List.mem_cons.1 h with h|h
   ·exact .inl h
   ·exact .inr ⟨by simp [h],fun e=>ke.1 (List.mem_map.2 ⟨x,h,e.trans hy.symm⟩)⟩
  ·rename_i hy;rcases List.mem_cons.1 h with h|h
   ·exact .inr ⟨by simp [h],by rw [h];exact hy⟩
   ·rcases ih ke.2 h with h|⟨h,h2⟩
    ·exact .inl h
    ·exact .inr ⟨by simp [h],h2⟩
theorem kX {t:TypeId} {l:List Value} {N:Value→World→XS→Prop} (hX: ∀k,X k→k<w.heap.size)
  (n: ∀b w' X',w.heap.size≤b→aj X w X' w'→bH w' X' b l t→N (ptr b 0) w' X'):eV P R X w m (Instr.box t (.agg l.toArray)) N:=
 aab hX fun b w' X' hb hs hx hr=>n b w' X' hb hs ⟨hx,by simpa [ad] using hr⟩
theorem rY {t:TypeId} {v:Value} {N:Value→World→XS→Prop} (ho:one v=true) (hX: ∀k,X k→k<w.heap.size)
  (n: ∀b w' X',w.heap.size≤b→aj X w X' w'→bH w' X' b [v] t→N (ptr b 0) w' X'):eV P R X w m (Instr.box t v) N:=
 aab hX fun b w' X' hb hs hx hr=>n b w' X' hb hs ⟨hx,by
  have:v.cells.toList=[v]:=by cases v<;>first|rfl|cases ho
  rw [this] at hr;exact hr⟩
theorem aj.dY {w:World} {X:XS} (h: ∀k,X k→k<w.heap.size):aj X w X w:=⟨Kp.refl _ _,fun _ h=>h,h⟩
theorem aiT {S f fo:Nat} {l:List Value} {v:Value} {N:Value→Prop} (hf:fieldInfo P S f=some (fo,1)) (hg:Hf P S f=some false) (hl:l[fo]? =some v) (k:N v):aa P X w (fdV S f fo 1 (.agg l.toArray)) N:=by
 unfold fieldInfo at hf;unfold Hf at hg;cases hu:P.underlying S with
 |none=>simp [hu] at hf
 |some d=>
  cases d<;>simp only [hu] at hf<;>try (cases hf;done)
  rename_i fs;cases hx:fs[f]? with
  |none=>simp [hx] at hf
  |some x=>
   simp only [hx,cN,hu] at hf hg;cases hi:P.info? x.type with
   |none=>simp [hi] at hf
   |some i=>
    simp only [hi,bM,aB,dg] at hf;cases hd:P.underlying x.type with
    |none=>simp [hd] at hg
    |some d2=>
     refine bX (v:=v) (fun wa=>?_) k;have vU:(isAgg x.type).run P wa= .ok false wa:=by
      cases d2<;>simp_all [isAgg,run_underlying hd]
     simp [fdV,Instr.field,run_underlying hu,hx,asAgg,part,vU,hf.1,hl]
theorem aiU {S f fo sz:Nat} {l l':List Value} {N:Value→Prop} (hf:fieldInfo P S f=some (fo,sz)) (hg:Hf P S f=some true) (hlen:decide (fo+sz≤l.length)=true) (hl:(l.drop fo).take sz=l')
  (k:N (.agg l'.toArray)):aa P X w (fdV S f fo sz (.agg l.toArray)) N:=by
 subst hl;unfold fieldInfo at hf;unfold Hf at hg;cases hu:P.underlying S with
 |none=>simp [hu] at hf
 |some d=>
  cases d<;>simp only [hu] at hf<;>try (cases hf;done)
  rename_i fs;cases hx:fs[f]? with
  |none=>simp [hx] at hf
  |some x=>
   simp only [hx,cN,hu] at hf hg;cases hi:P.info? x.type with
   |none=>simp [hi] at hf
   |some i=>
    simp only [hi,bM,aB,dg] at hf;cases hd:P.underlying x.type with
    |none=>simp [hd] at hg
    |some d2=>
     refine bX (v:=.agg ((l.drop fo).take sz).toArray) (fun wa=>?_) k;have vU:(isAgg x.type).run P wa= .ok true wa:=by
      cases d2<;>simp_all [isAgg,run_underlying hd]
     have hle:fo+sz≤l.length:=by simpa using hlen
     obtain⟨rfl,rfl⟩:=hf;simp [fdV,Instr.field,run_underlying hu,hx,asAgg,part,vU,sizeOf,typeInfo,hi,hle]
theorem akq {f:FuncId} {la lc l:List Value} {N:Value→World→XS→Prop} (hl:la++lc=l) (h:eC P R X w m f l.toArray N):eF P R X w m (.func (.func f) #[] lc.toArray) la.toArray N:=by
 subst hl;have e: ∀wa,(Gm (.func (.func f) #[] lc.toArray) la.toArray).run P wa=(callFunc f (la++lc).toArray).run P wa:=by
  intro wa;simp [Gm,iy,invoke]
 intro wa hk;have:=h wa hk;rw [e wa];exact this
theorem aha {fn:Fn} {a c:Array Value} {N:Value→Prop} (h:N (.func fn a c)):aa P X w (cx fn a c) N:=bX (fun wa=>by simp [cx]) h
theorem Ct.kp {f:FuncId} {args:Array Value} {F:XS} {Q:Value→World→World→Prop} (h:Ct P f args w X F Q) {w':World} (hk:Kp X w w'):Ct P f args w' X F Q:=fun wa ai=>h wa (hk.trans ai)
theorem Ct.since {f:FuncId} {args:Array Value} {F X':XS} {Q:Value→World→World→Prop} (h:Ct P f args w X F Q) {w':World} (hs:aj X w X' w'):Ct P f args w' X' F Q:=fun wa ai=>h wa (hs.kp.trans (ai.less hs.sub))
theorem Ct.ba {f:FuncId} {args:Array Value} {F:XS} {Q:Value→World→World→Prop} (h:Ct P f args w X F Q) (hX: ∀k,X k→k<w.heap.size):Ct P f args w (dL.ba w) F Q:=
 fun wa ai=>h wa (ai.less fun k hk=>hX k hk)
def idxOf (p:α→Bool):List α→Int
 |[]=> -1
 |x::l=>if p x then 0 else let i:=idxOf p l;if i<0 then i else i+1
theorem Kn (p:α→Bool): ∀l:List α,decide (idxOf p l≥0)=l.any p
 |[]=>rfl
 |x::l=>by
  have ih:=Kn p l;unfold idxOf;by_cases hp:p x
  ·simp [hp]
  ·simp only [hp,bu,if_false,km,Bool.false_or,←ih];by_cases hi:idxOf p l<0
   ·simp [hi]
   ·simp only [hi,if_false];congr 1;simp;omega
theorem WU {p:α→Bool} {l:List α} {i:Nat} (h: ∀k x,k<i→l[k]? =some x→p x=false) {x:α} (hx:l[i]? =some x) (hp:p x=true):idxOf p l=i:=by
 induction l generalizing i with
 |nil=>simp at hx
 |cons y l ih=>
  cases i with
  |zero=>simp only [fP,aB] at hx;subst hx;simp [idxOf,hp]
  |succ i=>
   have hy:=h 0 y zQ rfl;have:=ih (i:=i) (fun k z hk hz=>h (k+1) z zQ (by simpa using hz)) (by simpa using hx);simp only [idxOf,hy,bu,if_false,this];rw [if_neg zQ];omega
theorem PY {p:α→Bool} {l:List α} (h: ∀k x,k<l.length→l[k]? =some x→p x=false):idxOf p l= -1:=by
 induction l with
 |nil=>rfl
 |cons y l ih=>
  have hy:=h 0 y (by simp) rfl;have:=ih fun k z hk hz=>h (k+1) z (by simpa using hk) (by simpa using hz);simp [idxOf,hy,this]
theorem aj.less {X0 Y0:XS} {w0:World} (h:aj X0 w0 X w) (hs: ∀k,Y0 k→X0 k):aj Y0 w0 X w:=⟨h.kp.less hs,fun k hk=>h.sub k (hs k hk),h.has⟩
theorem Own.row {e k lo:Nat} {v:Value} {rows:List (List Value)} (h:Own w X lo e k v rows):(v= .slice none 0 0∧rows=[])∨
  ∃g cap cs,v= .slice (some ⟨g,0,none⟩) rows.length cap∧lo≤g∧bH w X g cs e∧rows.length≤cap∧cap≤maxLen∧cs.length=cap*k∧cs.take (rows.length*k)=rows.flatten:=by
 obtain⟨h1,h2,h3⟩:=h;rcases h2.2 with⟨rfl,hn⟩|⟨g,cap,cur,rfl,hb,hg,ta,lA,jj,ht⟩
 ·exact .inl ⟨rfl,fA hn⟩
 ·exact .inr ⟨g,cap,cur.toList,rfl,hb,⟨h3 g rfl,by simpa using hg⟩,ta,lA,by simpa using jj,ht⟩
theorem afZ {t:TypeId} {k g n cap:Nat} {z:Int} {i:Nat} {N:Value→Prop} (hz:z=i) (hi:i<n) (ht:P.underlying t=some (.slice (P.elem t))) (hs:(P.info? (P.elem t)).map (·.size)=some k) (h:N (ptr g (i*k))):
  aa P X w (dD t k (.slice (some ⟨g,0,none⟩) n cap) (.int .i64 z)) N:=by
 subst hz;refine bX (v:=ptr g (i*k)) (fun wa=>?_) h
 show(Instr.indexAt t _ _).run P wa=_
 rw [run_indexAt_slice (h:=ht),if_pos zQ];cases hq:P.info? (P.elem t)with
 |none=>simp [hq] at hs
 |some inf=>
  have:inf.size=k:=by simpa [hq] using hs
  simp [sizeOf,typeInfo,hq,this,vT]
theorem vO {t sz b o:Nat} {cs:List Value} {ty:TypeId} {v:Value} {N:Value→World→XS→Prop} (h:bH w X b cs ty) (ht:(P.info? t).map (·.size)=some sz)
  (hl:o+sz≤cs.length) (hv:v.cells.size=sz) (h1:v.cells.toList.all one=true) (hX: ∀k,X k→k<w.heap.size)
  (n: ∀w' X',eD (fun k=>k=b) X w X' w'→bH w' X' b (b8 cs o v.cells.toList) ty→N undef w' X'):eU P R X w true (dV t sz (ptr b o) v) N:=
 ae7 h ht hl hv h1 hX fun w' X' hg hr=>n w' X' (hg.dM.mono fun k _ hk=>by simpa using hk) hr
theorem ahZ {t:TypeId} {a:Option Addr} {n cap:Nat} {z:Int} {i:Nat} {N:Value→Prop} (hz:z=i) (hi:i≤cap) (ht:P.underlying t=some (.slice (P.elem t))) (hs:((P.info? (P.elem t)).map (·.size)).isSome=true) (h:N (.slice a i cap)):
  aa P X w (cp t (.slice a n cap) none (some (.int .i64 z)) none) N:=by
 subst hz;obtain⟨k,hk⟩:=Option.isSome_iff_exists.1 hs;refine bX (v:=.slice a i cap) (fun wa=>?_) h;rw [run_sliceAt_slice wa t _ _ _ _ ht,run_slice_h wa t a n cap ht .i64 i zQ zQ];cases hq:P.info? (P.elem t)with
 |none=>simp [hq] at hk
 |some inf=>
  have:a.map (fun x=>x.add 0)=a:=by cases a<;>simp [Addr.add]
  simp [sizeOf,typeInfo,hq,sliced,this]
variable {P : Program}
def abK (P:Program) (t e k:Nat):Bool:=match P.underlying t,P.info? e with
 |some (.slice e'),some i=>e'==e&&i.size==k&&(match i.zero with|some z=>z.cells.size==k|none=>false)&&decide (0<k)&&decide (k≤2^20)
 |_,_=>false
theorem adj {t e k:Nat} (h:abK P t e k=true):P.underlying t=some (.slice e)∧0<k∧k≤2^20∧ ∃z:Value,(P.info? e).bind (fun i=>i.zero.map fun z=>(i.size,z))=some (k,z):=by
 unfold abK at h;split at h
 ·rename_i e' i hu hi;simp only [aA,beq_iff_eq,decide_eq_true_eq] at h;obtain⟨⟨⟨⟨rfl,h2⟩,h4⟩,h5⟩,h6⟩:=h;cases hz:i.zero with
  |none=>simp [hz] at h4
  |some z=>exact⟨hu,h5,h6,z,by simp [hi,hz,h2]⟩
 ·cases h
section
variable {w : World} {X : XS} {R : Ending → World → Prop} {t e k : Nat} {m : Bool} {N : Value → World → XS → Prop}
theorem Lh {l:List Value} (hX: ∀k,X k→k<w.heap.size) (he:abK P t e k=true) (hk:(l.length==k)=true)
  (n: ∀v w' X',aj X w X' w'→Own w' X' w.heap.size e k v [l]→N v w' X'):eV P R X w m (gU t e k 1 #[(0,.agg l.toArray)]) N:=by
 obtain⟨hu,h0,h1,z,hz⟩:=adj he;have ai:l.length=k:=by simpa using hk
 refine C6 (rows:=[l]) l.toArray z hX hu hz zQ zQ ?_ (by simpa using ai) rfl (by simp) n;simp only [xU];exact He (x:=.agg l.toArray) (by simpa [ad] using ai) (by simp)
end
def LG (P:Program) (t:TypeId):Bool:=match P.underlying t with
 |some (.pointer _)=>true
 |_=>false
theorem DV {t:TypeId} (h:LG P t=true):P.underlying t=some (.pointer (P.pointee t)):=by
 unfold LG at h;split at h
 ·rename_i e he;simp [Program.pointee,he]
 ·cases h
section
variable {w : World} {X : XS} {N : Value → Prop} {t : TypeId} {xo yo : Operand}
theorem ahb {a:Addr} (ht:LG P t=true) (k:N (.bool false)):aa P X w (aJ .eql t xo yo (.pointer (some a)) (.pointer none)) N:=WJ (p:=some a) (DV ht) k
theorem ahc (ht:LG P t=true) (k:N (.bool true)):aa P X w (aJ .eql t xo yo (.pointer none) (.pointer none)) N:=WJ (p:=none) (DV ht) k
theorem aiV {a:Addr} (ht:LG P t=true) (k:N (.bool true)):aa P X w (aJ .neq t xo yo (.pointer (some a)) (.pointer none)) N:=by
 refine bX (fun wa=>?_) k;have:=run_neq_pointer_nil (P:=P) (w:=wa) t (some a) (DV ht);simp [aJ,eqGuard,this]
theorem aiW (ht:LG P t=true) (k:N (.bool false)):aa P X w (aJ .neq t xo yo (.pointer none) (.pointer none)) N:=by
 refine bX (fun wa=>?_) k;have:=run_neq_pointer_nil (P:=P) (w:=wa) t none (DV ht);simp [aJ,eqGuard,this]
end
variable {P : Program} {R : Ending → World → Prop} {X : XS} {w : World} {m : Bool}
section
variable {t ty e k bytes lo : Nat} {v x s : Value} {rows eo : List (List Value)} {row : List Value} {N : Value → World → XS → Prop}
theorem ahd (own:Own w X lo e k v rows) (hX: ∀k,X k→k<w.heap.size) (fv:lo≤w.heap.size) (he:oQ P t e k bytes=true) (hx:x.cells.toList=row) (hk:(row.length==k)=true)
  (h1:row.all one=true) (hb:(rows.length+1)*bytes≤140737488355328) (hl:rows.length+1≤2^63-1)
  (n: ∀v' w' X',eD (iu v) X w X' w'→Own w' X' lo e k v' (rows++[row])→(v'.ownBlock=v.ownBlock∨ ∃g,v'.ownBlock=some g∧w.heap.size≤g)→N v' w' X'):
  eV P R X w m (gU t e k 1 #[(0,x)]) fun s w1 X1=>eV P R X1 w1 true (gH t e k bytes ty v s) N:=by
 obtain⟨hu,jQ,uY,z,hi,hz,vu⟩:=mN he;have ai:row.length=k:=by simpa using hk
 have Il:x.cells.size=k:=by rw [←ai,←hx,dC]
 refine C6 (rows:=[row]) x.cells z hX hu hz zQ zQ ?_ (by simpa using ai) rfl (by simpa using hx) fun s w1 X1 aq uZ=>?_
 ·simp only [xU];exact He Il (by simp)
 ·have Ro:lo≤w1.heap.size:=ah fv aq.kp.size;refine Ax (eo:=[row]) z hu hi vu jQ aq.has Ro (own.since aq) uZ.sl (by simpa using h1) (by simpa using hb) (by simpa using hl) fun v2 w2 X2 hg ho fm=>?_;refine n v2 w2 X2 ((eD.tO aq (iu v)).trans (hg.dM.mono fun k _ hk=>hk.symm)) ho ?_;rcases fm with h|⟨g,h,eh⟩
  ·exact .inl h
  ·exact .inr ⟨g,h,ah aq.kp.size eh⟩
theorem aae (own:Own w X lo e k v rows) (hX: ∀k,X k→k<w.heap.size) (fv:lo≤w.heap.size) (he:oQ P t e k bytes=true) (src:Sl w X k s eo) (h1: ∀r∈eo,∀u∈r,one u=true)
  (hb:(rows.length+eo.length)*bytes≤140737488355328) (hl:rows.length+eo.length≤2^63-1)
  (n: ∀v' w' X',eD (iu v) X w X' w'→Own w' X' lo e k v' (rows++eo)→(v'.ownBlock=v.ownBlock∨ ∃g,v'.ownBlock=some g∧w.heap.size≤g)→N v' w' X'):
  eV P R X w true (gH t e k bytes ty v s) N:=by
 obtain⟨hu,jQ,uY,z,hi,hz,vu⟩:=mN he;refine Ax (eo:=eo) z hu hi vu jQ hX fv own src h1 hb hl fun v2 w2 X2 hg ho fm=>?_;exact n v2 w2 X2 (hg.dM.mono fun k _ hk=>hk.symm) ho fm
end
def uA (s:ByteArray):List Value:=s.data.toList.map fun b=>.int .u8 b.toNat
theorem LH (s:ByteArray):(uA s).length=s.size:=by unfold uA;rw [aG,dC];rfl
theorem Ko (s:ByteArray):(vy 1 s.size (.string s))=(pure (uA s).toArray:Sem (Array Value)):=by
 have hx:(s.extract 0 s.size)=s:=by
  apply ByteArray.ext;simp [ByteArray.data_extract]
 show(pure ((s.extract 0 s.size).data.map fun b=>aC .u8 b.toNat):Sem (Array Value))=_
 rw [hx]
 congr 1
 apply td;simp [uA]
theorem II (t u ty e:TypeId) (i:TypeInfo) (ht:P.underlying t=some (.slice e)) (hu:P.underlying u=some .string) (hi:P.info? e=some i) (h1:i.size=1)
  (g ka qK:Nat) (cur:Array Value) (hg:w.heap[g]? =some (.cells cur e (0,0))) (s:ByteArray) (uh:ka+s.size≤qK) (pj:ka+s.size≤cur.size):
  (eu #[t,u] ty #[.slice (some ⟨g,0,none⟩) ka qK,.string s]).run P w=
   .ok (.slice (some ⟨g,0,none⟩) (ka+s.size) qK) (w.setRow g (cur.toList.take ka++uA s++cur.toList.drop (ka+s.size)).toArray):=by
 have gD:=run_storeCells_at P g ka e (uA s) 0 cur w hg (by rw [LH];simpa using pj) (fun v hv=>by
  unfold uA at hv;obtain⟨b,_,rfl⟩:=List.mem_map.1 hv;rfl)
 simp only [Nat.add_zero,LH] at gD;simp [eu,run_underlying ht,run_underlying hu,sizeOf,typeInfo,hi,nF,uh,h1,Ko,mE,gD]
theorem IJ (t u ty e:TypeId) (i:TypeInfo) (z:Value) (ht:P.underlying t=some (.slice e)) (hu:P.underlying u=some .string) (hi:P.info? e=some i) (hz:i.zero=some z) (h1:i.size=1)
  (b:Addr) (ka qK:Nat) (abL:List Value) (fv:abL.length=ka) (holds: ∀j v,abL[j]? =some v→w.cell? (b.add j)=some v) (s:ByteArray)
  (hg:qK<ka+s.size) (h63:((ka+s.size:Nat):Int)≤9223372036854775807) (pj:tP (ka+s.size) qK*i.bytes≤281474976710656):
  (eu #[t,u] ty #[.slice (some b) ka qK,.string s]).run P w=
   .ok (.slice (some ⟨w.heap.size,0,none⟩) (ka+s.size) (grownCap w (ka+s.size) qK e))
    (w.drew.alloc (.cells (abL.toArray++(uA s).toArray++ll z.cells (grownCap w (ka+s.size) qK e-(ka+s.size))) e)):=by
 have hn: ¬(ka+s.size≤qK):=by omega
 have alS: ¬(9223372036854775807<((ka:Int)+(s.size:Int))):=by omega
 have alT: ¬(281474976710656<tP (ka+s.size) qK*i.bytes):=by omega
 have hfo:=run_firstCells_some (P:=P) w.drew 1 ka b ka qK abL zQ (by simpa using holds);simp [eu,run_underlying ht,run_underlying hu,sizeOf,typeInfo,zeroValue,hi,hz,nF,hn,alS,alT,Question.forced,Ko,h1,hfo,newRow,grownCap]
 congr 2
 apply td;simp [au]
theorem Kq (base:Nat) (t u ty e:TypeId) (i:TypeInfo) (z:Value) (bytes:Nat) (ht:P.underlying t=some (.slice e)) (hu:P.underlying u=some .string) (hi:P.info? e=some i) (hz:i.zero=some z)
  (h1:i.size=1) (H7:i.bytes=bytes) (vu:z.cells.size=1) (v:Value) (n:Nat) (xs:List Value) (Cg:w.ownsRow base e 1 v n xs) (s:ByteArray)
  (h63:n+s.size≤maxLen) (adk:(n+s.size)*bytes≤140737488355328) (akr:base≤w.heap.size):
  ∃v' w',(eu #[t,u] ty #[v,.string s]).run P w= .ok v' w'∧w'.ownsRow base e 1 v' (n+s.size) (xs++uA s)∧w.grownBy w' v.ownBlock∧(v'.ownBlock=v.ownBlock∨v'.ownBlock=some w.heap.size):=by
 subst H7;have PT:n+s.size≤9223372036854775807:=by simp only [maxLen] at h63;omega
 have hl:=LH s;have U6:xs.length=n:=by simpa using Cg.1
 have hlen:(xs++uA s).length=(n+s.size)*1:=by rw [ae,U6,hl];omega
 have grown: ∀(ba:Nat),ba<n+s.size→ ∀(row:Option Nat),
   (w.drew.alloc (.cells (xs.toArray++(uA s).toArray++ll z.cells (grownCap w (n+s.size) ba e-(n+s.size))) e)).ownsRow base e 1
    (.slice (some ⟨w.heap.size,0,none⟩) (n+s.size) (grownCap w (n+s.size) ba e)) (n+s.size) (xs++uA s)∧
   w.grownBy (w.drew.alloc (.cells (xs.toArray++(uA s).toArray++ll z.cells (grownCap w (n+s.size) ba e-(n+s.size))) e)) row:=by
  intro ba ho row;have eh:=grownCap_ge w (n+s.size) ba e;have lA:grownCap w (n+s.size) ba e≤maxLen:=grownCap_le_maxLen w (n+s.size) ba e h63;refine⟨⟨hlen,.inr ⟨w.heap.size,_,_,rfl,akr,heap_alloc_new w.drew _,eh,lA,?_,?_⟩⟩,⟨rfl,rfl,rfl,by simp,fun k hk _=>by first|exact heap_alloc_old w.drew _ k hk|exact heap_alloc_old w.drew _ hk⟩⟩
  ·simp only [qJ,il,size_zeroCells,vu,U6,hl];omega
  ·simp only [jb,au];rw [←au,←hlen];exact mV
 rcases Cg.2 with⟨rfl,rfl⟩|⟨g,cap,cur,rfl,hbg,hg,ta,lA,jj,LI⟩
 ·have hx:xs=[]:=fA U6;subst hx;by_cases hm:s.size=0
  ·have hn:uA s=[]:=fA (by rw [hl,hm]);refine⟨.slice none 0 0,w,?_,by rw [hm,hn];exact World.ownsRow_nil w base e 1,⟨rfl,rfl,rfl,bf _,fun _ _ _=>rfl⟩,Or.inl rfl⟩;have hf:=Ko s;rw [hm,hn] at hf;simp [eu,run_underlying ht,run_underlying hu,sizeOf,typeInfo,hi,nF,hm,h1,hf]
  ·have hr:=run_append_nil_string (P:=P) w t u ty e i z ht hu hi hz s zQ zQ (by have hb:=adk;simp only [fp] at hb;omega);have hgr:=grown 0 zQ (gW (.slice none 0 0));have he:(s.data.map fun b:UInt8=>aC .u8 b.toNat)=(uA s).toArray:=by
    apply td;simp [uA]
   rw [he] at hr;simp only [fp,cT,Array.empty_append] at hgr⊢;exact⟨_,_,hr,hgr.1,hgr.2,Or.inr rfl⟩
 ·rw [Nat.mul_one] at jj LI;by_cases uh:n+s.size≤cap
  ·have pj:n+s.size≤cur.size:=by rw [jj];exact uh
   have hr:=II (P:=P) (w:=w) t u ty e i ht hu hi h1 g n cap cur hg s uh pj;refine⟨_,_,hr,⟨hlen,.inr ⟨g,cap,_,rfl,hbg,setRow_heap w g cur _ e _ hg,uh,lA,?_,?_⟩⟩,⟨rfl,rfl,rfl,by simp,fun k _ hk=>setRow_other w g k _ (fun e=>hk (by simp [gW,e]))⟩,Or.inl rfl⟩
   ·simp only [il,ae,bp,bU,dC,hl];omega
   ·rw [LI,←hlen];exact mV
  ·have holds: ∀j u,xs[j]? =some u→w.cell? ((⟨g,0,none⟩:Addr).add j)=some u:=Cg.cells (g:=g) rfl;have hr:=IJ (P:=P) (w:=w) t u ty e i z ht hu hi hz h1 ⟨g,0,none⟩ n cap xs U6 holds s zQ zQ (growslice_fits zQ adk);have hgr:=grown cap zQ (gW (.slice (some ⟨g,0,none⟩) n cap));exact⟨_,_,hr,hgr.1,hgr.2,Or.inr rfl⟩
theorem aiX {t u ty e bytes lo:Nat} {v:Value} {s:ByteArray} {rows:List (List Value)} {N:Value→World→XS→Prop} (own:Own w X lo e 1 v rows) (hX: ∀k,X k→k<w.heap.size) (fv:lo≤w.heap.size)
  (he:oQ P t e 1 bytes=true) (hu:P.underlying u=some .string) (hb:(rows.length+s.size)*bytes≤140737488355328) (hl:rows.length+s.size≤2^63-1)
  (n: ∀v' w' X',eD (iu v) X w X' w'→Own w' X' lo e 1 v' (rows++(uA s).map fun x=>[x])→(v'.ownBlock=v.ownBlock∨ ∃g,v'.ownBlock=some g∧w.heap.size≤g)→N v' w' X'):
  eV P R X w true (eu #[t,u] ty #[v,.string s]) N:=by
 obtain⟨ht,jQ,uY,z,hi,hz,vu⟩:=mN he;intro wa hk;have own:=own.kp hk;cases hq:P.info? e with
 |none=>simp [hq] at hi
 |some ie=>
  cases qf:ie.zero with
  |none=>simp [hq,qf] at hi
  |some z'=>
   simp only [hq,qf,cN,bM,aB,dg] at hi;obtain⟨h1,rfl,rfl⟩:=hi;unfold jy;obtain⟨v',w',hr,Ik,hg,fm⟩:=Kq (P:=P) (w:=wa) lo t u ty e ie z' ie.bytes ht hu hq qf h1 rfl vu v rows.length rows.flatten own.2.1 s hl hb (ah fv hk.size);simp only [vS,bO,hr,bt,ck];have eI:((uA s).map fun x=>[x]).flatten=uA s:=by
    induction uA s with
    |nil=>rfl
    |cons a l ih=>simp [ih]
   refine⟨⟨hg.os,hg.tape,hg.output,hg.size,fun k lO oH=>hg.block k lO fun e=>oH (own.2.2 k e.symm)⟩,n _ _ _ ?_ ⟨?_,?_,?_⟩ ?_⟩
   ·exact⟨hg.os.trans hk.os,hg.tape.trans hk.tape,hg.output.trans hk.output,ah hk.size hg.size,
     fun k hx cU=>(hg.block k (aK (hX k hx) hk.size) fun e=>cU e.symm).trans (hk.block k hx),fun k h=>.inl h,
     fun k h=>h.elim (fun h=>aK (hX k h) (ah hk.size hg.size)) (fun h=>h.2)⟩
   ·intro r hr;rcases List.mem_append.1 hr with h|h
    ·exact own.1 r h
    ·obtain⟨x,_,rfl⟩:=List.mem_map.1 h;rfl
   ·rw [ae,aG,LH,gb,eI];exact Ik
   ·intro g MT;rcases fm with h|h
    ·exact .inl (own.2.2 g (h▸MT))
    ·rw [MT] at h;cases h;exact .inr ⟨bf _,(Ik.lt _ MT).2⟩
   ·rcases fm with h|h
    ·exact .inl h
    ·exact .inr ⟨_,h,hk.size⟩
theorem tQ {f:FuncId} {a b:Value} {N:Value→World→XS→Prop} (h:eC P R X w m f #[a,b] N):eF P R X w m (.func (.func f) #[a] #[]) #[b] N:=by
 have e: ∀wa,(Gm (.func (.func f) #[a] #[]) #[b]).run P wa=(callFunc f #[a,b]).run P wa:=by
  intro wa;simp [Gm,iy,invoke]
 intro wa hk;have:=h wa hk;rw [e wa];exact this
end Go.dL
set_option linter.unusedVariables false
set_option linter.unusedSimpArgs false
namespace Go.dL
variable {P : Program} {R : Ending → World → Prop} {X : XS} {w : World} {m : Bool}
def Ow (w:World) (X:XS) (e k:Nat) (v:Value) (rows:List (List Value)):Prop:=
 (∀r∈rows,r.length=k)∧((v= .slice none 0 0∧rows=[])∨ ∃g off cap cur,v= .slice (some ⟨g,off,none⟩) rows.length cap∧X g∧w.heap[g]? =some (.cells cur e (0,0))∧
  rows.length≤cap∧cap≤maxLen∧off+cap*k≤cur.size∧(cur.toList.drop off).take (rows.length*k)=rows.flatten)
theorem Ow.nil (w:World) (X:XS) (e k:Nat):Ow w X e k (.slice none 0 0) []:=⟨by simp,.inl ⟨rfl,rfl⟩⟩
theorem Own.ow {lo e k:Nat} {v:Value} {rows:List (List Value)} (h:Own w X lo e k v rows):Ow w X e k v rows:=by
 obtain⟨h1,h2,h3⟩:=h;refine⟨h1,?_⟩;rcases h2.2 with⟨rfl,hn⟩|⟨g,cap,cur,rfl,hb,hg,ta,lA,jj,ht⟩
 ·exact .inl ⟨rfl,fA hn⟩
 ·exact .inr ⟨g,0,cap,cur,rfl,h3 g rfl,hg,ta,lA,by omega,by rw [ja];exact ht⟩
theorem Ow.sl {e k:Nat} {v:Value} {rows:List (List Value)} (h:Ow w X e k v rows):Sl w X k v rows:=by
 obtain⟨h1,⟨rfl,rfl⟩|⟨g,off,cap,cur,rfl,hx,hg,ta,lA,jj,ht⟩⟩:=h
 ·exact Sl.nil w X k
 ·have hm:cap≤2^63-1:=lA;refine⟨h1,ah ta hm,_,cap,rfl,fun _=>⟨g,off,rfl,hx,cur,e,(0,0),hg,fun j v hj=>?_⟩,by simp,ta,hm⟩;rw [←ht,kF,gV] at hj;split at hj
  ·simpa using hj
  ·cases hj
theorem Ow.one {e k:Nat} {v:Value} {rows:List (List Value)} (h:Ow w X e k v rows):one v=true:=h.sl.one
theorem Ow.mono {e k:Nat} {v:Value} {rows:List (List Value)} {Y:XS} (h:Ow w X e k v rows) (hs: ∀k,X k→Y k):Ow w Y e k v rows:=by
 obtain⟨h1,h|⟨g,off,cap,cur,hv,hx,hr⟩⟩:=h
 ·exact⟨h1,.inl h⟩
 ·exact⟨h1,.inr ⟨g,off,cap,cur,hv,hs _ hx,hr⟩⟩
theorem Ow.mv {e k:Nat} {v:Value} {rows:List (List Value)} {w':World} {Y:XS} (h:Ow w X e k v rows) (m:Mv X w Y w'):Ow w' Y e k v rows:=by
 obtain⟨h1,h|⟨g,off,cap,cur,hv,hx,hg,hr⟩⟩:=h
 ·exact⟨h1,.inl h⟩
 ·obtain⟨m1,m2⟩:=m g hx (Array.getElem?_eq_some_iff.1 hg).1;exact⟨h1,.inr ⟨g,off,cap,cur,hv,m1,by rw [m2];exact hg,hr⟩⟩
theorem Ow.kp {e k:Nat} {v:Value} {rows:List (List Value)} {w':World} (h:Ow w X e k v rows) (hk:Kp X w w'):Ow w' X e k v rows:=by
 obtain⟨h1,h|⟨g,off,cap,cur,hv,hx,hg,hr⟩⟩:=h
 ·exact⟨h1,.inl h⟩
 ·exact⟨h1,.inr ⟨g,off,cap,cur,hv,hx,by rw [hk.block g hx];exact hg,hr⟩⟩
theorem Ow.aU {e k:Nat} {v:Value} {rows:List (List Value)} (h:Ow w X e k v rows) {g:Nat} (hg:v.ownBlock=some g):X g∧g<w.heap.size:=by
 obtain⟨h1,⟨rfl,_⟩|⟨g',off,cap,cur,rfl,hx,hb,hr⟩⟩:=h
 ·cases hg
 ·simp only [gW,aB] at hg;subst hg;exact⟨hx,(Array.getElem?_eq_some_iff.1 hb).1⟩
theorem Ow.tag {e k:Nat} {v:Value} {rows:List (List Value)} (h:Ow w X e k v rows) {g:Nat} (hg:v.ownBlock=some g): ∃cs:List Value,w.heap[g]? =some (.cells cs.toArray e (0,0)):=by
 obtain⟨h1,⟨rfl,_⟩|⟨g',off,cap,cur,rfl,hx,hb,hr⟩⟩:=h
 ·cases hg
 ·simp only [gW,aB] at hg;subst hg;exact⟨cur.toList,by simpa using hb⟩
theorem Ow.dJ {Y:XS} {e e' k g:Nat} {v:Value} {rows:List (List Value)} {cs:List Value} (h:Ow w X e k v rows) (hr:bH w Y g cs e') (he:decide (e≠e')=true):v.ownBlock≠some g:=fun hg=>by
 obtain⟨c,h1⟩:=h.tag hg;rw [hr.2] at h1;simp only [aB,yW] at h1;exact of_decide_eq_true he h1.2.1.symm
theorem Ow.dM {F X':XS} {w':World} {e k:Nat} {v:Value} {rows:List (List Value)} (h:Ow w X e k v rows) (c:eD F X w X' w') (hd: ∀g,v.ownBlock=some g→ ¬F g):Ow w' X' e k v rows:=by
 obtain⟨h1,h|⟨g,off,cap,cur,rfl,hx,hg,hr⟩⟩:=h
 ·exact⟨h1,.inl h⟩
 ·exact⟨h1,.inr ⟨g,off,cap,cur,rfl,c.sub g hx,by rw [c.block g hx (hd g rfl)];exact hg,hr⟩⟩
theorem Ow.tight {e k:Nat} {v:Value} {rows:List (List Value)} (h:Ow w X e k v rows):Ow w (iu v) e k v rows:=by
 obtain⟨h1,h|⟨g,off,cap,cur,rfl,hx,hr⟩⟩:=h
 ·exact⟨h1,.inl h⟩
 ·exact⟨h1,.inr ⟨g,off,cap,cur,rfl,rfl,hr⟩⟩
theorem C8 (t ty e:TypeId) (i:TypeInfo) (ht:P.underlying t=some (.slice e)) (hi:P.info? e=some i)
  (g off ka qK:Nat) (cur:Array Value) (hg:w.heap[g]? =some (.cells cur e (0,0)))
  (a:Addr) (m c:Nat) (news:List Value) (hl:news.length=m*i.size) (aks: ∀j u,news[j]? =some u→w.cell? (a.add j)=some u) (h1: ∀u∈news,u.oneCell'=true)
  (uh:ka+m≤qK) (pj:off+ka*i.size+news.length≤cur.size):
  (eu #[t,t] ty #[.slice (some ⟨g,off,none⟩) ka qK,.slice (some a) m c]).run P w=
   .ok (.slice (some ⟨g,off,none⟩) (ka+m) qK) (w.setRow g (cur.toList.take (off+ka*i.size)++news++cur.toList.drop (off+ka*i.size+news.length)).toArray):=by
 have hf:=run_firstCells_some (P:=P) w i.size m a m c news hl aks;have gD:=run_storeCells_at P g (off+ka*i.size) e news 0 cur w hg (by simpa using pj) h1;simp only [Nat.add_zero] at gD;simp [eu,run_underlying ht,sizeOf,typeInfo,hi,nF,uh,hf,mE,gD]
theorem C9 (t ty e:TypeId) (i:TypeInfo) (ht:P.underlying t=some (.slice e)) (hi:P.info? e=some i)
  (b:Addr) (ka qK:Nat) (uh:ka≤qK):
  (eu #[t,t] ty #[.slice (some b) ka qK,.slice none 0 0]).run P w= .ok (.slice (some b) ka qK) w:=by
 simp [eu,run_underlying ht,sizeOf,typeInfo,hi,nF,uh,vy,storeCells]
theorem PZ {t ty e k bytes:Nat} {v s:Value} {rows eo:List (List Value)} {N:Value→World→XS→Prop}
  (he:oQ P t e k bytes=true)
  (hX: ∀k,X k→k<w.heap.size) (own:Ow w X e k v rows) (src:Sl w X k s eo) (h1: ∀r∈eo,∀u∈r,one u=true)
  (hb:(rows.length+eo.length)*bytes≤140737488355328) (hl:rows.length+eo.length≤2^63-1)
  (n: ∀v' w' X',eD (iu v) X w X' w'→Ow w' X' e k v' (rows++eo)→(v'.ownBlock=v.ownBlock∨ ∃g,v'.ownBlock=some g∧w.heap.size≤g)→N v' w' X'):
  eV P R X w true (gH t e k bytes ty v s) N:=by
 obtain⟨hu,jQ,uY,z,hi,MD,vu⟩:=mN he;obtain⟨qs,⟨rfl,rfl⟩|⟨g,off,cap,cur,rfl,hx,hg,ta,lA,jj,qU⟩⟩:=own
 ·exact Ax (rows:=[]) (eo:=eo) z hu hi vu jQ hX (aN _) (Own.nil w X 0 e k) src h1 hb hl fun v2 w2 X2 hg ho fm=>
   n v2 w2 X2 (hg.dM.mono fun k _ hk=>hk.symm) ho.ow fm
 ·intro wa hk;have uW:wa.heap[g]? =some (.cells cur e (0,0)):=by rw [hk.block g hx];exact hg
  have src:=src.kp hk;cases hq:P.info? e with
  |none=>simp [hq] at hi
  |some ie=>
   cases qf:ie.zero with
   |none=>simp [hq,qf] at hi
   |some z'=>
    simp only [hq,qf,cN,bM,aB,dg] at hi;obtain⟨rfl,rfl,rfl⟩:=hi;unfold gH jy;rcases src.src with⟨rfl,rfl⟩|⟨a,c,rfl,DS⟩
    ·have hr:=C9 (P:=P) (w:=wa) t ty e ie hu hq ⟨g,off,none⟩ rows.length cap ta;simp only [vS,bO,hr,bt,ck];have MO:=Ext.refl wa;have hs:=aj.fh hX hk MO;refine⟨Step.fh MO,n _ _ _ (eD.tO hs _) ?_ (.inl rfl)⟩;rw [List.append_nil];exact⟨qs,.inr ⟨g,off,cap,cur,rfl,.inl hx,uW,ta,lA,jj,qU⟩⟩
    ·have sV:eo.flatten.length=eo.length*ie.size:=tJ src.1;have Uh:rows.flatten.length=rows.length*ie.size:=tJ qs;have G6: ∀u∈eo.flatten,u.oneCell'=true:=fun u hu=>by
      obtain⟨r,hr,hur⟩:=List.mem_flatten.1 hu;rw [←ON];exact h1 r hr u hur
     have Hc: ∀r∈rows++eo,r.length=ie.size:=fun r hr=>by
      rcases List.mem_append.1 hr with h|h
      ·exact qs r h
      ·exact src.1 r h
     have af0:rows.length+eo.length≤maxLen:=hl;by_cases uh:rows.length+eo.length≤cap
     ·have hmul:(rows.length+eo.length)*ie.size≤cap*ie.size:=fb _ uh;rw [nf] at hmul;have hr:=C8 (P:=P) (w:=wa) t ty e ie hu hq g off rows.length cap cur uW a eo.length c eo.flatten sV DS G6 uh zQ;simp only [vS,bO,hr,bt,ck];have aiY: ∀k,k≠g→(wa.setRow g (cur.toList.take (off+rows.length*ie.size)++eo.flatten++cur.toList.drop (off+rows.length*ie.size+eo.flatten.length)).toArray).heap[k]? =wa.heap[k]? :=fun k hk=>setRow_other wa g k _ hk;refine⟨⟨rfl,rfl,rfl,by simp,fun k lO oH=>aiY k fun e=>oH (e▸hx)⟩,n _ _ _ ?_ ⟨Hc,.inr ⟨g,off,cap,_,by rw [ae],.inl hx,setRow_heap wa g cur _ e _ uW,by rw [ae];exact uh,lA,?_,?_⟩⟩ (.inl rfl)⟩
      ·exact⟨hk.os,hk.tape,hk.output,by simpa using hk.size,fun k MO cU=>(aiY k fun e=>cU (by rw [e];rfl)).trans (hk.block k MO),fun k h=>.inl h,
        fun k h=>h.elim (fun h=>by have:=hX k h;have:=hk.size;simp;omega) (fun h=>h.2)⟩
      ·simp only [il,ae,bp,bU,dC];omega
      ·have dU:off≤cur.toList.length:=by rw [dC (xs:=cur)];omega
       have e1:(cur.toList.take (off+rows.length*ie.size)).drop off=rows.flatten:=by
        rw [List.drop_take,show off+rows.length*ie.size-off=rows.length*ie.size by omega,qU]
       have Am:(cur.toList.take (off+rows.length*ie.size)).length=off+rows.length*ie.size:=by rw [bp,dC (xs:=cur)];omega
       rw [au,List.drop_append_of_le_length zQ,e1,ae,nf,gb,←au,←Uh,←sV,←ae];exact mV
     ·have holds: ∀j u,rows.flatten[j]? =some u→wa.cell? ((⟨g,off,none⟩:Addr).add j)=some u:=fun j u hj=>by
       rw [←qU,kF,gV] at hj;split at hj
       ·rw [mE];simp only [World.cell?,uW];simpa using hj
       ·cases hj
      have hr:=run_append_grow (P:=P) wa t ty e ie z' hu hq qf ⟨g,off,none⟩ rows.length cap rows.flatten Uh holds a eo.length c eo.flatten sV DS zQ (by simp only [maxLen] at af0;omega) (growslice_fits zQ hb);simp only [vS,bO,hr,bt,ck];have eh:=grownCap_ge wa (rows.length+eo.length) cap e;have lA:grownCap wa (rows.length+eo.length) cap e≤maxLen:=grownCap_le_maxLen wa _ cap e af0;have AK: ∀k,k<wa.heap.size→(wa.drew.alloc (.cells (rows.flatten.toArray++eo.flatten.toArray++ll z'.cells (grownCap wa (rows.length+eo.length) cap e-(rows.length+eo.length))) e)).heap[k]? =wa.heap[k]? :=fun k hk=>heap_alloc_old wa.drew _ hk;refine⟨⟨rfl,rfl,rfl,by simp,fun k lO _=>AK k lO⟩,n _ _ _ ?_ ⟨Hc,.inr ⟨wa.heap.size,0,_,_,by rw [ae],.inr ⟨bf _,by simp⟩,heap_alloc_new wa.drew _,by rw [ae];exact eh,lA,?_,?_⟩⟩ (.inr ⟨_,rfl,hk.size⟩)⟩
      ·exact⟨hk.os,hk.tape,hk.output,by have:=hk.size;simp;omega,fun k MO _=>(AK k (aK (hX k MO) hk.size)).trans (hk.block k MO),fun k h=>.inl h,
        fun k h=>h.elim (fun h=>by have:=hX k h;have:=hk.size;simp;omega) (fun h=>h.2)⟩
      ·simp only [qJ,il,size_zeroCells,vu,Uh,sV,←nf];rw [fp];apply fb;omega
      ·simp only [jb,ja,au,gb];rw [←au,ae,nf,←Uh,←sV,←ae];exact mV
section
variable {t ty e k bytes : Nat} {v x s : Value} {rows eo : List (List Value)} {row : List Value} {N : Value → World → XS → Prop}
theorem Jm (own:Ow w X e k v rows) (hX: ∀k,X k→k<w.heap.size) (he:oQ P t e k bytes=true) (hx:x.cells.toList=row) (hk:(row.length==k)=true)
  (h1:row.all one=true) (hb:(rows.length+1)*bytes≤140737488355328) (hl:rows.length+1≤2^63-1)
  (n: ∀v' w' X',eD (iu v) X w X' w'→Ow w' X' e k v' (rows++[row])→(v'.ownBlock=v.ownBlock∨ ∃g,v'.ownBlock=some g∧w.heap.size≤g)→N v' w' X'):
  eV P R X w m (gU t e k 1 #[(0,x)]) fun s w1 X1=>eV P R X1 w1 true (gH t e k bytes ty v s) N:=by
 obtain⟨hu,jQ,uY,z,hi,MD,vu⟩:=mN he;have ai:row.length=k:=by simpa using hk
 have Il:x.cells.size=k:=by rw [←ai,←hx,dC]
 refine C6 (rows:=[row]) x.cells z hX hu MD zQ zQ ?_ (by simpa using ai) rfl (by simpa using hx) fun s w1 X1 aq uZ=>?_
 ·simp only [xU];exact He Il (by simp)
 ·refine PZ (eo:=[row]) he aq.has (own.mv aq.mv) uZ.sl (by simpa using h1) (by simpa using hb) (by simpa using hl) fun v2 w2 X2 hg ho fm=>?_;refine n v2 w2 X2 ((eD.tO aq (iu v)).trans hg) ho ?_;rcases fm with h|⟨g,h,eh⟩
  ·exact .inl h
  ·exact .inr ⟨g,h,ah aq.kp.size eh⟩
end
theorem Ap {k:Nat} : ∀{rows:List (List Value)} (i:Nat),(∀r∈rows,r.length=k)→(rows.drop i).flatten=rows.flatten.drop (i*k)
 |_,0,_=>by simp
 |[],i+1,_=>by simp
 |r::rows,i+1,h=>by
  have hr:=h r (by simp);rw [List.drop_succ_cons,Ap i fun x hx=>h x (aZ _ hx),cD,Nat.succ_mul,Nat.add_comm,←List.drop_drop,List.drop_left' hr]
theorem iY {k:Nat} : ∀{rows:List (List Value)} (i:Nat),(∀r∈rows,r.length=k)→(rows.take i).flatten=rows.flatten.take (i*k)
 |_,0,_=>by simp
 |[],i+1,_=>by simp
 |r::rows,i+1,h=>by
  have hr:=h r (by simp);have e1:r.take (k+i*k)=r:=List.take_of_length_le zQ;rw [List.take_succ_cons,cD,iY i fun x hx=>h x (aZ _ hx),cD,Nat.succ_mul,Nat.add_comm,List.take_append,hr,e1,show k+i*k-k=i*k by omega]
theorem ahe {t e k:Nat} {v:Value} {z:Int} {i:Nat} {rows:List (List Value)} {N:Value→Prop} (h:Ow w X e k v rows) (hz:z=i) (hi:i<rows.length) (ht:P.underlying t=some (.slice (P.elem t)))
  (hs:(P.info? (P.elem t)).map (·.size)=some k)
  (n: ∀v',Ow w X e k v' (rows.drop i)→v'.ownBlock=v.ownBlock→N v'):aa P X w (cp t v (some (.int .i64 z)) none none) N:=by
 subst hz;obtain⟨h1,⟨rfl,rfl⟩|⟨g,off,cap,cur,rfl,hx,hg,ta,lA,jj,qU⟩⟩:=h
 ·simp at hi
 ·have hq: ∃inf,P.info? (P.elem t)=some inf∧inf.size=k:=by
   cases hq:P.info? (P.elem t)with
   |none=>simp [hq] at hs
   |some inf=>exact⟨inf,rfl,by simpa [hq] using hs⟩
  obtain⟨inf,hq,dU⟩:=hq;have mR: ∀wa:World,(cp t (.slice (some ⟨g,off,none⟩) rows.length cap) (some (.int .i64 (i:Int))) none none).run P wa= .ok (.slice (some ⟨g,off+i*k,none⟩) (rows.drop i).length (cap-i)) wa:=fun wa=>by
   rw [run_sliceAt_slice wa t _ _ _ _ ht,run_slice_l wa t _ _ cap ht .i64 i zQ zQ];have cU: ¬cap=i:=by omega
   simp [sizeOf,typeInfo,hq,dU,sliced,mE,cU]
  refine bX mR (n _ ⟨fun r hr=>h1 r (List.mem_of_mem_drop hr),.inr ⟨g,off+i*k,cap-i,cur,rfl,hx,hg,by rw [bU];omega,by omega,?_,?_⟩⟩ rfl)
  ·have:i*k+(cap-i)*k=cap*k:=by rw [←nf];congr 1;omega
   omega
  ·rw [Ap i h1,←qU,List.drop_take,List.drop_drop,bU,Nat.sub_mul]
theorem VI {t e k:Nat} {v:Value} {z z':Int} {i:Nat} {rows:List (List Value)} {N:Value→Prop} (h:Ow w X e k v rows) (hz:z=i) (zS:z'=i) (hi:i≤rows.length) (ht:P.underlying t=some (.slice (P.elem t)))
  (hs:(P.info? (P.elem t)).map (·.size)=some k)
  (n: ∀v',Ow w X e k v' (rows.take i)→v'.ownBlock=v.ownBlock→N v'):aa P X w (cp t v none (some (.int .i64 z)) (some (.int .i64 z'))) N:=by
 subst hz;subst zS;have hq: ∃inf,P.info? (P.elem t)=some inf∧inf.size=k:=by
  cases hq:P.info? (P.elem t)with
  |none=>simp [hq] at hs
  |some inf=>exact⟨inf,rfl,by simpa [hq] using hs⟩
 obtain⟨inf,hq,dU⟩:=hq;obtain⟨h1,⟨rfl,rfl⟩|⟨g,off,cap,cur,rfl,hx,hg,ta,lA,jj,qU⟩⟩:=h
 ·simp only [bz,Nat.le_zero] at hi;subst hi;have mR: ∀wa:World,(cp t (.slice none 0 0) none (some (.int .i64 ((0:Nat):Int))) (some (.int .i64 ((0:Nat):Int)))).run P wa= .ok (.slice none 0 0) wa:=fun wa=>by
   rw [run_sliceAt_slice wa t _ _ _ _ ht,show((0:Nat):Int)=0 from rfl,run_slice_hm wa t none 0 0 ht .i64 .i64 0 0 zQ zQ zQ];simp [sizeOf,typeInfo,hq,sliced]
  exact bX mR (n _ (Ow.nil w X e k) rfl)
 ·have hlen:(rows.take i).length=i:=by rw [bp];omega
  have mR: ∀wa:World,(cp t (.slice (some ⟨g,off,none⟩) rows.length cap) none (some (.int .i64 (i:Int))) (some (.int .i64 (i:Int)))).run P wa= .ok (.slice (some ⟨g,off,none⟩) (rows.take i).length i) wa:=fun wa=>by
   rw [run_sliceAt_slice wa t _ _ _ _ ht,run_slice_hm wa t _ _ cap ht .i64 .i64 i i zQ zQ zQ,hlen];simp [sizeOf,typeInfo,hq,dU,sliced,mE]
  refine bX mR (n _ ⟨fun r hr=>h1 r (List.mem_of_mem_take hr),.inr ⟨g,off,i,cur,rfl,hx,hg,by omega,by omega,?_,?_⟩⟩ rfl)
  ·have:=fb k (ah hi ta);omega
  ·rw [iY i h1,←qU,List.take_take,hlen,Nat.min_eq_left (fb k hi)]
theorem iK.dJ {κ α:Type} [DecidableEq κ] {A F:XS} {kv:κ→Value} {rd:World→XS→Value→α→Prop} {l:List (κ×α)} {b g:Nat} {cs:List Value} {e:TypeId} (h:iK w X A b kv rd l) (hr:bH w F g cs e):b≠g:=by
 rintro rfl;obtain⟨es,c,h1,_⟩:=h;have:=h1.2.1;rw [hr.2] at this;cases this
theorem bH.dJ {F:XS} {b g:Nat} {cs mY:List Value} {e e':TypeId} (h:bH w X b cs e) (hr:bH w F g mY e') (he:decide (e≠e')=true):b≠g:=by
 rintro rfl;have:=h.2;rw [hr.2] at this;simp only [aB,yW] at this;exact of_decide_eq_true he this.2.1.symm
theorem iK.QH {κ α:Type} [DecidableEq κ] {A F:XS} {kv:κ→Value} {rd:World→XS→Value→α→Prop} {l:List (κ×α)} {b e k:Nat} {v:Value} {rows:List (List Value)} (h:iK w X A b kv rd l) (hr:Ow w F e k v rows):v.ownBlock≠some b:=fun hg=>by
 obtain⟨cs,h2⟩:=hr.tag hg;obtain⟨es,c,h1,_⟩:=h;have:=h1.2.1;rw [h2] at this;cases this
section
variable {t : TypeId}
theorem Fj {l:List Value} {N:Value→World→XS→Prop} (hX: ∀k,X k→k<w.heap.size) (hz:(P.info? t).bind (·.zero)=some (.agg l.toArray))
  (n: ∀b w' X',w.heap.size≤b→aj X w X' w'→bH w' X' b l t→N (ptr b 0) w' X'):eV P R X w m (gZ t true (.tuple #[])) N:=by
 intro wa hk;unfold jy;have hzv: ∀w,(zeroValue t).run P w= .ok (.agg l.toArray) w:=by
  intro w;cases hi:P.info? t with
  |none=>simp [hi] at hz
  |some inf=>
   have zS:inf.zero=some (.agg l.toArray):=by simpa [hi] using hz
   simp [zeroValue,typeInfo,hi,zS]
 have hr:(gZ t true (.tuple #[])).run P wa= .ok (ptr wa.heap.size 0) (wa.alloc (.cells l.toArray t)):=by simp [gZ,hzv,newVar,newRow,ad]
 simp only [vS,bO,hr,bt,ck];have hx:Ext wa (wa.alloc (.cells l.toArray t)):=Ext.alloc _ _;exact⟨Step.fh hx,n _ _ _ hk.size (aj.fh hX hk hx) ⟨.inr ⟨bf _,by simp⟩,by simpa using heap_alloc_new wa _⟩⟩
theorem adl {e k bytes c:Nat} {z:Int} {N:Value→World→XS→Prop} (hX: ∀k,X k→k<w.heap.size) (he:oQ P t e k bytes=true) (hz:z=c) (hc:c≤2^32) (hb:bytes≤1024) (hk:k≤1024)
  (n: ∀v w' X',aj X w X' w'→Own w' X' w.heap.size e k v []→N v w' X'):eV P R X w m (yU t (I 0) (I z)) N:=by
 subst hz;obtain⟨hu,jQ,uY,z,hi,MD,vu⟩:=mN he;intro wa ai;unfold jy;cases hq:P.info? e with
 |none=>simp [hq] at hi
 |some ie=>
  cases qf:ie.zero with
  |none=>simp [hq,qf] at hi
  |some z'=>
   simp only [hq,qf,cN,bM,aB,dg] at hi;obtain⟨h1,h2,h3⟩:=hi;have UA:ie.bytes*c≤281474976710656:=by
    have:=Nat.mul_le_mul (show ie.bytes≤1024 by omega) hc;omega
   obtain⟨w',hr,Ik,hg⟩:=run_make_own (P:=P) wa w.heap.size t e ie z' k hu hq qf h1 .i64 .i64 c UA (by simp only [maxLen];omega) ai.size;have uo:(yU t (I 0) (I (c:Int))).run P wa= .ok (.slice (some ⟨wa.heap.size,0,none⟩) 0 c) w':=hr;simp only [vS,bO,uo,bt,ck];have hx:Ext wa w':=⟨hg.os,hg.tape,hg.output,hg.size,fun k hk _=>hg.block k hk (by simp)⟩;refine⟨Step.fh hx,n _ _ _ (aj.fh hX ai hx) ⟨by simp,Ik,fun g MT=>?_⟩⟩;simp only [gW,aB] at MT;subst MT;exact .inr ⟨bf _,(Ik.lt _ rfl).2⟩
end
structure Ft (w0:World) (F0:XS) (w:World) (X F:XS):Prop where
 s:aj (out F0 w0) w0 X w
 aU: ∀k,F k→X k
 v: ∀k,F k→F0 k∨w0.heap.size≤k
section
variable {w0 w' : World} {F0 F F' G X' A : XS} {Q : Value → World → World → Prop} {N : Value → World → XS → Prop} {f : FuncId} {args : Array Value}
theorem Ft.init (h: ∀k,F0 k→k<w.heap.size):Ft w F0 w (ba w) F0:=⟨aj.out _ _,h,fun _ h=>.inl h⟩
theorem Ft.since (h:Ft w0 F0 w X F) (hs:aj X w X' w'):Ft w0 F0 w' X' F:=⟨h.s.trans hs,fun k hk=>hs.sub k (h.aU k hk),h.v⟩
theorem Ft.no (h:Ft w0 F0 w X F) {k:Nat} (hk:F k) (h0:out F0 w0 k):False:=by
 rcases h.v k hk with h1|h1
 ·exact h0.2 h1
 ·have:=h0.1;omega
theorem Ft.dM (h:Ft w0 F0 w X F) (c:eD G X w X' w') (hG: ∀k,G k→F k) (hF: ∀k,F' k→F k∨(X' k∧w.heap.size≤k)):Ft w0 F0 w' X' F':=by
 refine⟨h.s.dM c fun k h0 hk=>h.no (hG k hk) h0,fun k hk=>?_,fun k hk=>?_⟩
 ·rcases hF k hk with h1|h1
  ·exact c.sub k (h.aU k h1)
  ·exact h1.1
 ·rcases hF k hk with h1|h1
  ·exact h.v k h1
  ·right;have:=h1.2;have:=h.s.kp.size;omega
theorem Ft.less (h:Ft w0 F0 w X F) (hF: ∀k,F' k→F k):Ft w0 F0 w X F':=⟨h.s,fun k hk=>h.aU k (hF k hk),fun k hk=>h.v k (hF k hk)⟩
theorem Ft.more (h:Ft w0 F0 w X F) (hF: ∀k,F' k→F k∨(X k∧w0.heap.size≤k)):Ft w0 F0 w X F':=by
 refine⟨h.s,fun k hk=>?_,fun k hk=>?_⟩
 ·rcases hF k hk with h1|h1
  ·exact h.aU k h1
  ·exact h1.1
 ·rcases hF k hk with h1|h1
  ·exact h.v k h1
  ·exact .inr h1.2
theorem Ft.call (hT:Ft w0 F0 w X F) (h:Ct P f args w X G Q) (hf:enters P f=true) (hG: ∀k,G k→F k)
  (k: ∀v wa w' X',Q v wa w'→w.heap.size≤wa.heap.size→(∀k,made wa w' k→X' k)→Ft w0 F0 w' X' (fun k=>F k∨made wa w' k)→eD G X w X' w'→N v w' X'):eC P R X w true f args N:=by
 refine xl h hf hT.s.has (fun q hq=>hT.aU q (hG q hq)) fun v wa w' X' hq hle fU hkp hc=>k v wa w' X' hq hle fU ?_ hc;exact hT.dM hc hG fun q hq=>hq.imp id fun hm=>⟨fU q hm,ah hle hm.1⟩
theorem Ft.fin {v:Value} {Q:Value→World→Prop} (h:Ft w0 F0 w X F) (hq: ∀wa,Kp X w wa→Q v wa):fin (Bo F0 w0 Q) X w v:=aac h.s hq
theorem Ft.fL (h:Ft w0 F0 w X F) {wa:World} (hk:Kp X w wa) (hF: ∀k,F' k→F k): ∀k,F' k→F0 k∨made w0 wa k:=fun k ai=>by
 rcases h.v k (hF k ai)with h1|h1
 ·exact .inl h1
 ·exact .inr ⟨h1,aK (h.s.has k (h.aU k (hF k ai))) hk.size⟩
theorem Ft.P0 (h:Ft w0 nX w X F):aj (dL.ba w0) w0 X w:=
 ⟨⟨h.s.kp.os,h.s.kp.tape,h.s.kp.output,h.s.kp.size,fun k ai=>h.s.kp.block k ⟨ai,fun h=>h.elim⟩⟩,fun k ai=>h.s.sub k ⟨ai,fun h=>h.elim⟩,h.s.has⟩
def yK (w0:World) (X:XS):XS:=fun k=>X k∧w0.heap.size≤k
theorem Ft.new (h:Ft w0 F0 w X F):Ft w0 F0 w X (fun k=>F k∨yK w0 X k):=h.more fun k hk=>hk.imp id fun h=>h
theorem Ft.Jw (h:Ft w0 nX w X F):Ft w0 nX w X (yK w0 X):=h.more fun k hk=>.inr hk
theorem eD.ew (c:eD G X w X' w') (h: ∀k,A k→X k∧ ¬G k):Mv A w A w':=fun k hk _=>⟨hk,c.block k (h k hk).1 (h k hk).2⟩
theorem Kp.ew (hk:Kp X w w') (h: ∀k,A k→X k):Mv A w A w':=fun k ai _=>⟨ai,hk.block k (h k ai)⟩
theorem aj.dZ (hs:aj X w X' w') (h: ∀k,A k→X k):Mv A w A w':=fun k ai _=>⟨ai,hs.kp.block k (h k ai)⟩
end
theorem akt {w0:World} {t ty e k bytes:Nat} {v s:Value} {rows eo:List (List Value)} {N:Value→World→XS→Prop} (hT:Ft w0 nX w X (yK w0 X)) (hO:Ow w (yK w0 X) e k v rows) (he:oQ P t e k bytes=true)
  (src:Sl w X k s eo) (h1: ∀r∈eo,∀u∈r,one u=true) (hb:(rows.length+eo.length)*bytes≤140737488355328) (hl:rows.length+eo.length≤2^63-1)
  (n: ∀v' w' X',Ft w0 nX w' X' (yK w0 X')→Ow w' (yK w0 X') e k v' (rows++eo)→eD (iu v) X w X' w'→(v'.ownBlock=v.ownBlock∨ ∃g,v'.ownBlock=some g∧w.heap.size≤g)→N v' w' X'):
  eV P R X w true (gH t e k bytes ty v s) N:=by
 refine PZ he hT.s.has (hO.mono hT.aU) src h1 hb hl fun v' w' X' c ho fm=>?_;have hT':Ft w0 nX w' X' (yK w0 X'):=Ft.Jw (F:=yK w0 X) (hT.dM c (fun k hk=>(hO.aU hk).1) fun k hk=>.inl hk);refine n v' w' X' hT' (ho.tight.mono fun k hk=>⟨(ho.aU hk).1,?_⟩) c fm;have ai:v'.ownBlock=some k:=hk;rcases fm with e|⟨g,e,eh⟩
 ·exact(hO.aU (e▸ai)).1.2
 ·rw [ai] at e;have:k=g:=Option.some.inj e;have:=hT.s.kp.size;omega
def Dj (A B:XS):Prop:= ∀k,A k→B k→False
theorem Dj.symm {A B:XS} (h:Dj A B):Dj B A:=fun k a b=>h k b a
theorem Dj.grow {A B B' C:XS} (h:Dj A B) (hB: ∀k,B' k→B k∨C k) (hc:Dj A C):Dj A B':=fun k a b=>(hB k b).elim (h k a) (hc k a)
theorem Dj.less {A A' B B':XS} (h:Dj A B) (ha: ∀k,A' k→A k) (hb: ∀k,B' k→B k):Dj A' B':=fun k a b=>h k (ha k a) (hb k b)
end Go.dL
set_option linter.unusedVariables false
set_option linter.unusedSimpArgs false
namespace Go.dL
variable {P : Program} {R : Ending → World → Prop} {X : XS} {w : World} {m : Bool}
def Hg (w:World) (X:XS) (b:Nat) (cs:List Value) (ty:TypeId):Prop:=X b∧w.heap[b]? =some (.cells cs.toArray ty (cs.length,cs.length+1))
theorem Hg.cells {b:Nat} {cs:List Value} {ty:TypeId} (h:Hg w X b cs ty):Cells w X b 0 cs:=⟨h.1,_,_,_,h.2,fun j v hj=>by simpa using hj⟩
theorem Hg.since {b:Nat} {cs:List Value} {ty:TypeId} {Y:XS} {w':World} (h:Hg w X b cs ty) (hs:aj X w Y w'):Hg w' Y b cs ty:=⟨hs.sub _ h.1,by rw [hs.kp.block b h.1];exact h.2⟩
theorem YB (wa:World) (g n:Nat) (cs:Array Value) (e:TypeId) (h:wa.heap[g]? =some (.cells cs e (0,0))):(wa.freeze ⟨g,n,none⟩ 1).heap=wa.heap.setIfInBounds g (.cells cs e (n,n+1)):=by
 unfold rR;rw [if_neg (by decide)];obtain⟨hl,he⟩:=Array.getElem?_eq_some_iff.1 h;apply Array.ext
 ·simp
 ·intro i h1 h2;simp only [Array.getElem_modify,Array.getElem_setIfInBounds];split
  ·rename_i hi;subst hi;rw [he];simp
  ·rename_i hi;exact(Array.getElem_setIfInBounds_ne (by simpa using h2) hi).symm
theorem ahf {t e g n c:Nat} {cs:List Value} {N:Value→World→XS→Prop} (h:bH w X g cs e) (ht:P.underlying t=some (.slice e)) (he:P.underlying e=some (.int .u8)) (hX: ∀k,X k→k<w.heap.size)
  (k: ∀w' X',eD (· =g) X w X' w'→Hg w' X' g cs e→N (.slice (some ⟨g,0,none⟩) n c) w' X'):eV P R X w true (convert t t (.slice (some ⟨g,0,none⟩) n c)) N:=by
 intro wa hk;have hb:=(h.kp hk).2;have cH:=(Array.getElem?_eq_some_iff.1 hb).1;have DP:wa.shape? g=some (e,cs.length):=by unfold World.shape?;rw [hb];simp
 have hr:(convert t t (.slice (some ⟨g,0,none⟩) n c)).run P wa= .ok (.slice (some ⟨g,0,none⟩) n c) (wa.freeze ⟨g,cs.length,none⟩ 1):=by
  simp [convert,run_underlying ht,run_underlying he,markStringish,DP]
 have hh:=YB wa g cs.length cs.toArray e hb;unfold jy;simp only [vS,bO,hr,bt,ck];have ZO:(wa.freeze ⟨g,cs.length,none⟩ 1).os=wa.os:=by unfold rR;rw [if_neg (by decide)]
 have htp:(wa.freeze ⟨g,cs.length,none⟩ 1).tape=wa.tape:=by unfold rR;rw [if_neg (by decide)]
 have yB:(wa.freeze ⟨g,cs.length,none⟩ 1).output=wa.output:=by unfold rR;rw [if_neg (by decide)]
 have dU:(wa.freeze ⟨g,cs.length,none⟩ 1).heap.size=wa.heap.size:=by rw [hh];simp
 have AK: ∀q,q≠g→(wa.freeze ⟨g,cs.length,none⟩ 1).heap[q]? =wa.heap[q]? :=fun q hq=>by rw [hh,dQ,if_neg (Ne.symm hq)]
 refine⟨⟨ZO,htp,yB,by rw [dU];exact bf _,fun q _ hx=>AK q fun e=>hx (e▸h.1)⟩,k _ _ ?_ ⟨.inl h.1,by rw [hh,dQ,if_pos rfl,if_pos cH]⟩⟩;refine⟨ZO.trans hk.os,htp.trans hk.tape,yB.trans hk.output,by rw [dU];exact hk.size,fun q hx cU=>(AK q cU).trans (hk.block q hx),fun q h=>.inl h,fun q h=>?_⟩;rw [dU];exact h.elim (fun h=>aK (hX q h) hk.size) (fun h=>by have:=h.2;rwa [dU] at this)
theorem aku {t b o:Nat} {cs:List Value} {ty:TypeId} {v:Value} {N:Value→World→XS→Prop} (h:Hg w X b cs ty) (ht:(P.info? t).map (·.size)=some 1)
  (hl:o<cs.length) (h1:one v=true) (hX: ∀k,X k→k<w.heap.size)
  (n: ∀w' X',eD (· =b) X w X' w'→Hg w' X' b (cs.set o v) ty→N undef w' X'):eU P R X w true (dV t 1 (ptr b o) v) N:=by
 intro wa hk;have hb:wa.heap[b]? =some (.cells cs.toArray ty (cs.length,cs.length+1)):=by rw [hk.block b h.1];exact h.2
 have cH:=(Array.getElem?_eq_some_iff.1 hb).1;have hv:v.cells= #[v]:=tn h1;have DS:wa.cell? ⟨b,o,none⟩=some cs[o]:=by simp [World.cell?,hb,hl]
 have alU:wa.frozen? ⟨b,o,none⟩=false:=by simp [World.frozen?,hb];omega
 have gD:(store ⟨b,o,none⟩ v).run P wa= .ok () (wa.setRow b (cs.toArray.setIfInBounds o v)):=by
  rw [run_store P wa _ v _ (by rw [←ON];exact h1),DS];simp [alU,setCell_eq_setRow wa b o cs.toArray ty _ v hb]
 have hr:(Instr.storeAt t (ptr b o) v).run P wa= .ok () (wa.setRow b (cs.toArray.setIfInBounds o v)):=by
  cases hi:P.info? t with
  |none=>simp [hi] at ht
  |some i=>
   simp only [hi,bM,aB] at ht;simp [Instr.storeAt,Instr.sureAddr,ed,storeVar,sizeOf,typeInfo,hi,ht,hv,storeCells,mE];simpa using gD
 unfold dV jy;simp only [uS,bO,hr,bt,ck];have dU:(wa.setRow b (cs.toArray.setIfInBounds o v)).heap.size=wa.heap.size:=by simp
 refine⟨⟨rfl,rfl,rfl,by rw [dU];exact bf _,fun k _ hx=>setRow_other wa b k _ fun e=>hx (e▸h.1)⟩,n _ _ ?_ ⟨.inl h.1,?_⟩⟩
 ·refine⟨hk.os,hk.tape,hk.output,by rw [dU];exact hk.size,fun k hx cU=>?_,fun k h=>.inl h,fun k h=>?_⟩
  ·rw [setRow_other wa b k _ cU,hk.block k hx]
  ·rw [dU];exact h.elim (fun h=>aK (hX k h) hk.size) (fun h=>by have:=h.2;rwa [dU] at this)
 ·have:=setRow_heap wa b cs.toArray (cs.toArray.setIfInBounds o v) ty _ hb;rw [this,List.length_set];simp
def uH (l:List Nat):ByteArray:=⟨(l.map UInt8.ofNat).toArray⟩
theorem S9 (l:List Nat):(uH l).size=l.length:=by simp [uH,ByteArray.size]
theorem Ll {src dst e b o cap len:Nat} {l:List Nat} {N:Value→World→XS→Prop} (hlen:len=l.length) (hc:Cells w X b o (l.map fun x:Nat=>aC .u8 x)) (hs:P.underlying src=some (.slice e)) (he:P.underlying e=some (.int .u8)) (hd:P.underlying dst=some .string)
  (hX: ∀k,X k→k<w.heap.size) (n: ∀w' X',aj X w X' w'→N (.string (uH l)) w' X'):eV P R X w m (convert src dst (.slice (some ⟨b,o,none⟩) len cap)) N:=by
 subst hlen;intro wa hk;have hr:=run_convert_bytes_arg (P:=P) wa src e hs he b o l.length cap (l.map fun x:Nat=>(x:Int)) (by simp) (fun i hi=>by
  have:=(hc.kp hk).range i (.int .u8 ((l[i]:Nat):Int)) (by simp [hi]);rw [this];simp [kN,hi]) dst hd
 have e1:strOfNums (l.map fun x:Nat=>(x:Int))=uH l:=by
  unfold strOfNums uH;simp
 rw [e1] at hr;unfold jy;simp only [vS,bO,hr,bt,ck];have hx:=Ext.refl wa;exact⟨Step.fh hx,n _ _ (aj.fh hX hk hx)⟩
theorem WV {t:TypeId} {a b:ByteArray} {N:Value→Prop} (h:a.size+b.size≤2^62) (k:N (.string (a++b))):aa P X w (binOp .add t (.string a) (.string b)) N:=
 bX (fun wa=>by
  have:=run_string_add_sum (P:=P) wa a b zQ;simp [binOp,this]) k
theorem akv {t e k bytes ty:Nat} {s:Value} {rows:List (List Value)} {m':Bool} {N:Value→World→XS→Prop} (hX: ∀k,X k→k<w.heap.size) (he:oQ P t e k bytes=true) (src:Sl w X k s rows) (h1: ∀r∈rows,∀u∈r,one u=true)
  (hb:rows.length*bytes≤140737488355328) (hl:rows.length≤2^63-1)
  (n: ∀v w' X',aj X w X' w'→Ow w' (yK w X') e k v rows→N v w' X'):eV P R X w m (gU t e k 0 #[]) fun a w1 X1=>eV P R X1 w1 m' (gH t e k bytes ty a s) N:=by
 obtain⟨hu,jQ,uY,z,hi,MD,vu⟩:=mN he;cases hq:P.info? e with
 |none=>simp [hq] at hi
 |some ie=>
  cases qf:ie.zero with
  |none=>simp [hq,qf] at hi
  |some z'=>
   simp only [hq,qf,cN,bM,aB,dg] at hi;obtain⟨rfl,rfl,rfl⟩:=hi;intro wa hk;have hr:(iD t 0 #[]).run P wa= .ok (.slice (some ⟨wa.heap.size,0,none⟩) 0 0) (wa.alloc (.cells #[] e)):=by
    simp [iD,run_underlying hu,sizeOf,typeInfo,hq,Instr.fill,newRow];have tw: ∀f:Nat→Value,Array.map f (Array.range 0)= #[]:=fun f=>Array.eq_empty_of_size_eq_zero (by simp);rw [tw]
   unfold gU jy;simp only [vS,bO,hr,bt,ck];have hx:Ext wa (wa.alloc (.cells #[] e)):=Ext.alloc _ _;have aq:=aj.fh hX hk hx;refine⟨Step.fh hx,?_⟩;intro wb me;unfold gH jy;have alV:=(src.since aq).kp me;have Et:wb.heap[wa.heap.size]? =some (.cells #[] e (0,0)):=by
    rw [me.block _ (.inr ⟨bf _,by simp⟩)];exact heap_alloc_new wa _
   have dU:=me.size;have No:=aq.kp.size;have am1:=(Array.getElem?_eq_some_iff.1 Et).1;rcases alV.src with⟨rfl,rfl⟩|⟨a,c,rfl,DS⟩
   ·have jG:=C9 (P:=P) (w:=wb) t ty e ie hu hq ⟨wa.heap.size,0,none⟩ 0 0 (bf _);simp only [vS,bO,jG,bt,ck];have bQ:=aj.fh aq.has me (Ext.refl wb);exact⟨Step.fh (Ext.refl _),n _ _ _ (aq.trans bQ) ⟨by simp,.inr ⟨wa.heap.size,0,0,#[],rfl,⟨.inl (.inr ⟨bf _,by simp⟩),hk.size⟩,Et,bf _,aN _,by simp,by simp⟩⟩⟩
   ·have sV:rows.flatten.length=rows.length*ie.size:=tJ src.1;by_cases h0:rows=[]
    ·subst h0;have jG:=C8 (P:=P) (w:=wb) t ty e ie hu hq wa.heap.size 0 0 0 #[] Et a 0 c [] (by simp) (by simp) (by simp) (bf _) (by simp);have e0:wb.setRow wa.heap.size (#[].toList.take (0+0*ie.size)++[]++ #[].toList.drop (0+0*ie.size+([]:List Value).length)).toArray=wb:=by
      have:=setRow_self wb wa.heap.size #[] e (0,0) Et;simpa using this
     rw [e0] at jG;have sk:(eu #[t,t] ty #[.slice (some ⟨wa.heap.size,0,none⟩) 0 0,.slice (some a) ([]:List (List Value)).length c]).run P wb= .ok (.slice (some ⟨wa.heap.size,0,none⟩) 0 0) wb:=jG;simp only [vS,bO,sk,bt,ck];have bQ:=aj.fh aq.has me (Ext.refl wb);exact⟨Step.fh (Ext.refl _),n _ _ _ (aq.trans bQ) ⟨by simp,.inr ⟨wa.heap.size,0,0,#[],rfl,⟨.inl (.inr ⟨bf _,by simp⟩),hk.size⟩,Et,bf _,aN _,by simp,by simp⟩⟩⟩
    ·have Ki:0<rows.length:=List.length_pos_iff.2 h0;have jG:=run_append_grow (P:=P) wb t ty e ie z' hu hq qf ⟨wa.heap.size,0,none⟩ 0 0 [] (by simp) (by simp) a rows.length c rows.flatten sV DS zQ zQ (growslice_fits zQ (by simpa using hb));simp only [fp] at jG;simp only [vS,bO,jG,bt,ck];have eh:=grownCap_ge wb rows.length 0 e;have lA:grownCap wb rows.length 0 e≤maxLen:=grownCap_le_maxLen wb _ 0 e hl;have ZD:Ext wb (wb.drew.alloc (.cells ([].toArray++rows.flatten.toArray++ll z'.cells (grownCap wb rows.length 0 e-rows.length)) e)):=⟨rfl,rfl,rfl,by simp,fun k hk _=>heap_alloc_old wb.drew _ hk⟩;have bQ:=aj.fh aq.has me ZD;have fU:w.heap.size≤wb.heap.size:=ah No dU;refine⟨Step.fh ZD,n _ _ _ (aq.trans bQ) ⟨src.1,.inr ⟨wb.heap.size,0,_,_,rfl,⟨.inr ⟨bf _,by simp⟩,fU⟩,heap_alloc_new wb.drew _,eh,lA,?_,?_⟩⟩⟩
     ·simp only [qJ,il,size_zeroCells,vu,sV,bz,fp,←nf];apply fb;omega
     ·simp only [jb,ja,cT];rw [←sV];exact mV
theorem kK {t b o o':Nat} {cs:List Value} {ty:TypeId} {v:Value} {N:Value→World→XS→Prop} (h:bH w X b cs ty) (WW:o'=o) (ht:(P.info? t).map (·.size)=some 1)
  (hl:o<cs.length) (h1:one v=true) (hX: ∀k,X k→k<w.heap.size)
  (n: ∀w' X',eD (· =b) X w X' w'→bH w' X' b (b8 cs o [v]) ty→N undef w' X'):eU P R X w true (dV t 1 (ptr b o') v) N:=by
 subst WW;have hv:=tn h1;refine vO h ht zQ (by rw [hv];rfl) (by rw [hv];simp [h1]) hX fun w' X' c hr=>n w' X' c ?_;rw [hv] at hr;exact hr
theorem zH {t sz b o o':Nat} {cs:List Value} {ty:TypeId} {v:Value} {N:Value→World→XS→Prop} (h:bH w X b cs ty) (WW:o'=o) (ht:(P.info? t).map (·.size)=some sz)
  (hl:o+sz≤cs.length) (hv:v.cells.size=sz) (h1:v.cells.toList.all one=true) (hX: ∀k,X k→k<w.heap.size)
  (n: ∀w' X',eD (· =b) X w X' w'→bH w' X' b (b8 cs o v.cells.toList) ty→N undef w' X'):eU P R X w true (dV t sz (ptr b o') v) N:=by
 subst WW;exact vO h ht hl hv h1 hX n
variable {P : Program}
theorem afc {pl:bG} {fn:Func} {args:Array Value} {w:World} (hn:fn.ntmps=pl.n) (afV:args.size≤pl.n) (wy:(pl.boxes.all fun p=>decide (args.size≤p.1))=true):
  eH pl ⟨[],[]⟩ .start (lI args) (ba w) w { tmps:=args++dz (fn.ntmps-args.size) undef,defers:=[] } w:=by
 have abw:(args++dz (fn.ntmps-args.size) undef).size=pl.n:=by simp;omega
 have we: ∀s,s<pl.n→(args++dz (fn.ntmps-args.size) undef)[s]? =some (lI args s):=by
  intro s hs;rw [jK];split
  ·rename_i h1;simp [lI,kN,h1]
  ·rename_i h1;rw [iR,if_pos zQ];simp only [lI,kN];rw [jJ (by simpa using h1)];rfl
 have Kg: ∀b n,look pl.boxes b=some n→lI args b=undef:=by
  intro b n hb;have h1:=List.all_eq_true.1 wy _ (zi hb);simp only [decide_eq_true_eq] at h1;simp only [lI,kN];rw [jJ (by simpa using h1)];rfl
 exact {
  size:=abw
  defers:=rfl
  uV:=fun _ hp=>(by cases hp)
  ext:=Kp.refl _ _
  sU:=fun _ hk=>hk
  nk:=fun s hs=>we s (pN hs).1
  sig:=fun _ hp=>(by cases hp)
  box:=fun b n hb cells hc=>by rw [Kg b n hb] at hc;cases hc
  inj:=fun b b' n n' hb fR h1=>by rw [Kg b n hb] at h1;cases h1
  conv:=fun b n hb k hk=>by
   have h1:=List.all_eq_true.1 wy _ (zi hb);simp only [decide_eq_true_eq] at h1;rw [jK,if_neg zQ,iR] at hk;split at hk
   ·cases hk
   ·cases hk
  live:=fun _ hp=>(by cases hp)
  ptr:=fun _ hp=>(by cases hp) }
theorem eH.defs {pl:bG} {ds:Bk} {JM:List Deferred} {cs:CS} {env:Env} {X:XS} {w0 w:World} {a:Act} (h:eH pl ds cs env X w0 a w):eH pl ⟨JM,ds.pins⟩ cs env X w0 { a with defers:=JM } w:=
 ⟨h.size,rfl,h.uV,h.ext,h.sU,h.nk,h.sig,h.box,h.inj,h.conv,h.live,h.ptr⟩
def ftE (P:Program) (pl:bG) (fn:Func):Option FT:=
 if fn.ntmps==pl.n then match fn.body with
  |some (.seq (.region _ xZ false) (.seq (.region _ px false) rest))=>match px.toList with
   |[mk,df]=>match mk.op,mk.guard,mk.dst,df.op,df.guard,df.dst with
    | .makeFunc (.func _) ⟨[]⟩ _,none,some d',.defer ⟨.value (.tmp d),⟨[]⟩,_⟩,none,none=>match B7 P pl xZ xZ.toList .start,kJ P pl rest,B8 P pl fn.results.toList with
     |some t0,some t2,some (r,n)=>if d'==d&&decide (d<pl.n)&&(look pl.boxes d).isNone&&!pl.jh d then some ⟨.seq (.EY t0) t2,r,n⟩else none
     |_,_,_=>none
    |_,_,_,_,_,_=>none
   |_=>none
  |_=>none
 else none
def zj (fn:Func):Option FuncId:=match fn.body with
 |some (.seq _ (.seq (.region _ px _) _))=>match px.toList with
  |[mk,_]=>match mk.op with
   | .makeFunc (.func g) _ _=>some g
   |_=>none
  |_=>none
 |_=>none
def Idle (P:Program) (g:FuncId):Prop:=enters P g=true∧ ∀fD w,CallsD P g fD .returning w fun e u' w'=>(∃x,e= .returned x)∧u'= .returning∧w'=w
theorem eH.aside {pl:bG} {ds:Bk} {env:Env} {X:XS} {w0 w:World} {a:Act} {d:Nat} {v:Value} (h:eH pl ds .start env X w0 a w) (hd:d<pl.n) (hb:look pl.boxes d=none) (hg:pl.jh d=false):
  eH pl ds .start env X w0 (a.put (some d) v) w:=by
 have ne: ∀b n,look pl.boxes b=some n→b≠d:=fun b n fR e=>by rw [e,hb] at fR;cases fR
 have dU:d<a.tmps.size:=by rw [h.size];exact hd
 exact {
  size:=by simp [Act.put,h.size]
  defers:=h.defers
  uV:=fun p hp=>by
   obtain⟨ht,h2⟩:=h.uV p hp;refine⟨?_,h2⟩;have cU:p.1≠d:=fun e=>by
    rcases h2 with⟨n,_,hn,_⟩|uW
    ·exact ne p.1 n hn e
    ·rw [e,hg] at uW;cases uW
   rw [fz _ _ _ _ cU];exact ht
  ext:=h.ext
  sU:=h.sU
  nk:=fun s hs=>by
   have qv:s≠d:=fun e=>by rw [e,hg] at hs;cases hs
   rw [fz _ _ _ _ qv];exact h.nk s hs
  sig:=fun _ hp=>(by cases hp)
  box:=fun b n fR cells hc=>by
   obtain⟨k,ty,h1,h2⟩:=h.box b n fR cells hc;exact⟨k,ty,by rw [fz _ _ _ _ (ne b n fR)];exact h1,h2⟩
  inj:=fun b b' n n' h1 h2 h3 h4 k h5 h6=>h.inj b b' n n' h1 h2 h3 h4 k (by rwa [fz _ _ _ _ (ne b n h1)] at h5) (by rwa [fz _ _ _ _ (ne b' n' h2)] at h6)
  conv:=fun b n fR k hk=>h.conv b n fR k (by rwa [fz _ _ _ _ (ne b n fR)] at hk)
  live:=fun _ hp=>(by cases hp)
  ptr:=fun _ hp=>(by cases hp) }
def isSimple:TI→Bool
 | .box .. =>true
 | .wW .. =>true
 | .Er _=>true
 | .set .. =>true
 |_=>false
def x9:List TI→Env→Env
 |[],e=>e
 | .box b _ x::l,e=>x9 l (kT e b (.agg (x.ev e).cells))
 | .wW b x::l,e=>x9 l (kT e b (.agg #[x.ev e]))
 | .set d x::l,e=>x9 l (kT e d (x.ev e))
 |_::l,e=>x9 l e
theorem vz {gY:List PanicEntry→Env→World→XS→Prop} {next:Env→World→XS→Prop} {w:World} {X:XS} : ∀(l:List TI) (env:Env),l.all isSimple=true→gv P gY next l env w X→
  gv P gY (fun e w' X'=>e=x9 l env∧next e w' X') l env w X
 |[],env,_,h=>⟨rfl,h⟩
 |i::l,env,hs,h=>by
  rw [List.all_cons,aA] at hs;obtain⟨h1,h2⟩:=hs;cases i with
  |box b n x=>exact dt.2 ⟨(dt.1 h).1,vz l _ h2 (dt.1 h).2⟩
  |wW b x=>exact dt.2 ⟨(dt.1 h).1,vz l _ h2 (dt.1 h).2⟩
  |Er b=>exact dt.2 ⟨(dt.1 h).1,vz l _ h2 (dt.1 h).2⟩
  |set d x=>exact vz l _ h2 h
  |_=>cases h1
def tR:List Operand→Option (List Nat)
 |[]=>some []
 | .tmp b::l=>(tR l).map (b:: ·)
 |_::_=>none
def aiZ:Value→Option Value
 | .agg ⟨[v]⟩=>some v
 |_=>none
def P1:List Nat→Bool
 |[]=>true
 |b::l=>!B6 l b&&P1 l
def abM (P:Program) (pl:bG) (fn:Func) (args:Array Value):Option (FuncId×List Nat×List (Option Value)):=
 match fn.body with
 |some (.seq (.region _ xZ false) (.seq (.region _ px false) rest))=>match px.toList with
  |[mk,_]=>match mk.op with
   | .makeFunc (.func g) _ ya=>match tR ya.toList,B7 P pl xZ xZ.toList .start,kJ P pl rest with
    |some cb,some t0,some t2=>if t0.all isSimple&&P1 cb&&cb.all (fun b=>(look pl.boxes b).isSome&&dO (x9 t0 (lI args) b)&&!B6 t2.mk b)then
      some (g,cb,cb.map fun b=>if B6 t2.wr b then none else aiZ (x9 t0 (lI args) b))else none
    |_,_,_=>none
   |_=>none
  |_=>none
 |_=>none
theorem MV: ∀{l:List Operand} {cb:List Nat},tR l=some cb→l=cb.map .tmp
 |[],cb,h=>by simp only [tR,aB] at h;subst h;rfl
 |x::l,cb,h=>by
  cases x with
  |tmp b=>
   simp only [tR,Option.map_eq_some_iff] at h;obtain⟨c,h1,rfl⟩:=h;rw [MV h1];rfl
  |const v=>simp [tR] at h
  |global v=>simp [tR] at h
  |func v=>simp [tR] at h
theorem aaf {tmps:Array Value} : ∀(cb:List Nat),(∀b∈cb,∃k,tmps[b]? =some (ed k 0))→ ∃ks:List Nat,ks.length=cb.length∧ ∀(i:Nat) b,cb[i]? =some b→ ∃k,ks[i]? =some k∧tmps[b]? =some (ed k 0)
 |[],_=>⟨[],rfl,fun i b h=>by simp at h⟩
 |b::cb,h=>by
  obtain⟨k,hk⟩:=h b (by simp);obtain⟨ks,h1,h2⟩:=aaf cb fun c hc=>h c (aZ _ hc);refine⟨k::ks,by simp [h1],fun i c hc=>?_⟩;cases i with
  |zero=>simp only [fP,aB] at hc;subst hc;exact⟨k,rfl,hk⟩
  |succ i=>simpa using h2 i c (by simpa using hc)
theorem MW: ∀{l:List Nat},P1 l=true→l.Nodup
 |[],_=>List.nodup_nil
 |b::l,h=>by
  simp only [P1,aA,bV] at h;exact List.nodup_cons.2 ⟨fun hm=>by
   rw [wF.2 hm] at h;exact absurd h.1 (by simp),MW h.2⟩
theorem Rp {α:Type} {cb:List Nat} {ks:List α} {p:Nat×α} (h:p∈cb.zip ks): ∃i:Nat,cb[i]? =some p.1∧ks[i]? =some p.2:=by
 obtain⟨i,hi,e⟩:=pt h;refine⟨i,?_⟩;have h2:(cb.zip ks)[i]? =some p:=by rw [bB hi,e]
 rw [qg] at h2;exact h2
structure Outside (ks:List Nat) (w wa:World):Prop where
 os:wa.os=w.os
 tape:wa.tape=w.tape
 output:wa.output=w.output
 size:w.heap.size≤wa.heap.size
 block: ∀k,k<w.heap.size→ ¬k∈ks→wa.heap[k]? =w.heap[k]?
theorem Outside.refl (ks:List Nat) (w:World):Outside ks w w:=⟨rfl,rfl,rfl,bf _,fun _ _ _=>rfl⟩
theorem Outside.trans {ks:List Nat} {a b c:World} (h:Outside ks a b) (k:Outside ks b c):Outside ks a c:=
 ⟨k.os.trans h.os,k.tape.trans h.tape,k.output.trans h.output,ah h.size k.size,fun i hl hi=>(k.block i (aK hl h.size) hi).trans (h.block i hl hi)⟩
theorem Outside.kp {ks:List Nat} {X:XS} {w0 w wa:World} (h:Outside ks w wa) (k:Kp X w0 w) (hl: ∀i,X i→i<w.heap.size) (hX: ∀i,i∈ks→ ¬X i):Kp X w0 wa:=
 ⟨h.os.trans k.os,h.tape.trans k.tape,h.output.trans k.output,ah k.size h.size,fun i hi=>(h.block i (hl i hi) fun hm=>hX i hm hi).trans (k.block i hi)⟩
def PG (P:Program) (pl:bG) (fn:Func) (R:Ending→World→Prop) (g:FuncId) (cb:List Nat) (cv:List (Option Value)) (RP:List PanicEntry→World→Prop):Prop:=
 ∀(ks:List Nat) (EH:List (Array Value)) ch w',ks.length=cb.length→EH.length=cb.length→ks.Nodup→(∀(i:Nat) k cells,ks[i]? =some k→EH[i]? =some cells→ ∃ty,w'.heap[k]? =some (.cells cells ty (0,0)))→
  (∀(i:Nat) v cells,cv[i]? =some (some v)→EH[i]? =some cells→cells= #[v])→(∀(i:Nat) b n cells,cb[i]? =some b→look pl.boxes b=some n→EH[i]? =some cells→cells.size=n)→(∀wa,Outside ks w' wa→RP ch wa)→
  CallsD P g (ks.map fun k=>ed k 0).toArray (.panicking ch) w' fun e u kq=>(∃x,e= .returned x)∧settle u= .returning∧ ∃v,R (.returned v) kq∧
   ∀tmps:Array Value,(∀(i:Nat) b k,cb[i]? =some b→ks[i]? =some k→tmps[b]? =some (ed k 0))→(results fn tmps).run P kq= .ok v kq
def LJ (R:Ending→World→Prop) (RP:List PanicEntry→World→Prop):Ending→World→Prop
 | .panicked ch,w=>RP ch w
 |e,w=>R e w
theorem vA {P:Program} {gY:List PanicEntry→Env→World→XS→Prop} {next:Env→World→XS→Prop} {w:World} {X:XS} : ∀(l:List TI) (env:Env),l.all isSimple=true→gv P gY next l env w X→
  gv P (fun _ _ _ _=>False) next l env w X
 |[],env,_,h=>h
 |i::l,env,hs,h=>by
  rw [List.all_cons,aA] at hs;obtain⟨h1,h2⟩:=hs;cases i with
  |box b n x=>exact dt.2 ⟨(dt.1 h).1,vA l _ h2 (dt.1 h).2⟩
  |wW b x=>exact dt.2 ⟨(dt.1 h).1,vA l _ h2 (dt.1 h).2⟩
  |Er b=>exact dt.2 ⟨(dt.1 h).1,vA l _ h2 (dt.1 h).2⟩
  |set d x=>exact vA l _ h2 h
  |_=>cases h1
theorem adm {l:List Nat} (h: ∀(i j:Nat) k,l[i]? =some k→l[j]? =some k→i=j):l.Nodup:=
 List.pairwise_iff_getElem.2 fun i j hi hj ZL e=>by
  have:=h i j l[i] (bB hi) (by rw [e];exact bB hj);omega
theorem Kr {f:FuncId} {fn:Func} {pl:bG} {args:Array Value} {w:World} {R:Ending→World→Prop} {RP:List PanicEntry→World→Prop} {g0:FuncId} {cb:List Nat} {cv:List (Option Value)} {V:Prop} (hf:P.funcs[f]? =some fn)
  (hs:(decide (args.size≤pl.n)&&pl.boxes.all fun p=>decide (args.size≤p.1))=true) (kU: ∀g,zj fn=some g→Idle P g) (pT:abM P pl fn args=some (g0,cb,cv)) (qU:PG P pl fn R g0 cb cv RP) (hv:V=N7 P (ftE P pl fn) (LJ R RP) args w) (h:V):Calls P f args w R:=by
 subst hv;unfold N7 at h;simp only [aA,decide_eq_true_eq] at hs;split at h;case h_2=>exact h.elim
 rename_i ft hc;unfold ftE at hc;split at hc;case isFalse=>cases hc
 rename_i hn;have ke:fn.ntmps=pl.n:=by simpa using hn
 split at hc;case h_2=>cases hc
 rename_i _ id0 xZ id1 px rest hb;split at hc;case h_2=>cases hc
 rename_i _ mk df Ks;split at hc;case h_2=>cases hc
 rename_i _ _ _ _ _ _ g ya d' d SC Rq hmg hmd WX P2 Uz;split at hc;case h_2=>cases hc
 rename_i _ _ _ t0 t2 r nd pB jF Kf;split at hc;case isFalse=>cases hc
 rename_i mZ;simp only [aA,beq_iff_eq,bV,decide_eq_true_eq,gP] at mZ;obtain⟨⟨⟨Bs,gg⟩,hdb⟩,afd⟩:=mZ;subst Bs;injection hc with hc
 subst hc;have hG:zj fn=some g:=by unfold zj;rw [hb];simp [Ks,Rq]
 obtain⟨WY,G9⟩:=kU g hG;unfold abM at pT;rw [hb] at pT;dsimp only at pT;rw [Ks] at pT;dsimp only at pT;rw [Rq] at pT;dsimp only at pT;rw [pB,jF] at pT;split at pT;case h_2=>cases pT
 rename_i _ _ _ tS t0' t2' jj e0 e2;cases e0;cases e2;split at pT;case isFalse=>cases pT
 rename_i Cz;simp only [aA,lE,bV] at Cz;obtain⟨⟨af1,mP⟩,wy⟩:=Cz;simp only [aB,dg] at pT;obtain⟨rfl,rfl,rfl⟩:=pT;have ai0:=MV jj;have WZ:=afc (w:=w) ke hs.1 (by simpa using hs.2);refine calls_of_wp_defers hf hb ?_
 let K:=Us ⟨.seq (.EY t0) t2,r,nd⟩ (LJ R RP)
 have h0:gv P (fun ch=>K (.panic ch)) (fun e w X=>den P t2 K e w X) t0 (lI args) w (ba w):=h;replace h0:=vz t0 _ (List.all_eq_true.2 af1) h0;have h0':gv P (fun _ _ _ _=>False) (fun e w' X'=>e=x9 t0 (lI args)∧den P t2 K e w' X') t0 (lI args) w (ba w):=vA t0 _ (List.all_eq_true.2 af1) h0;refine wp_seq (wp_region_list (E9 (P:=P) (pl:=pl) (ds:=⟨[],[]⟩) ?_ ?_ xZ.toList .start t0 _ _ _ _ _ pB (fun _ _ _ hp=>by cases hp) WZ h0'));case refine_2=>exact fun ch a' w' dK X' eB _ hk _ hq=>hq.elim
 rintro OP a1 w1 sL X1 Im aq ⟨ai1,WC⟩;replace aq:=aq.drop
 show(Code.seq (xY id1 px false) rest).wp P (bodyPostD P fn R) a1 w1
 have me: ∀b∈tS,(∃n,look pl.boxes b=some n)∧ ∃k,a1.tmps[b]? =some (ed k 0):=fun b fR=>by
  have h1:=wy b fR;obtain⟨⟨h1,h2⟩,h3⟩:=h1;obtain⟨n,hn⟩:=Option.isSome_iff_exists.1 h1;rw [←ai1] at h2;obtain⟨cells,Bm⟩:=su.1 h2;obtain⟨k,ty,g1,_⟩:=aq.box b n hn cells Bm;exact⟨⟨n,hn⟩,k,g1⟩
 obtain⟨ks,lO,xj⟩:=aaf tS fun b fR=>(me b fR).2;have akw: ∀p,p∈tS.zip (ks.map fun k=>ed k 0)→a1.tmps[p.1]? =some p.2∧((∃n k,look pl.boxes p.1=some n∧p.2=ed k 0)∨pl.jh p.1=true):=fun p hp=>by
  obtain⟨i,g1,g2⟩:=Rp hp;obtain⟨k,g3,g4⟩:=xj i p.1 g1;rw [cr,g3] at g2;simp only [bM,aB] at g2;obtain⟨⟨n,hn⟩,_⟩:=me p.1 (aX g1);exact⟨by rw [←g2];exact g4,.inl ⟨n,k,hn,g2.symm⟩⟩
 have alW:ks.Nodup:=by
  have hcn:=MW mP;refine adm fun i j k hi hj=>?_;have jM:i<tS.length:=by rw [←lO];exact(List.getElem?_eq_some_iff.1 hi).1
  have Fz:j<tS.length:=by rw [←lO];exact(List.getElem?_eq_some_iff.1 hj).1
  have gi:tS[i]? =some tS[i]:=bB jM;have gj:tS[j]? =some tS[j]:=bB Fz;obtain⟨k1,e1,f1⟩:=xj i _ gi;obtain⟨k2,e2,f2⟩:=xj j _ gj;rw [hi] at e1;cases e1;rw [hj] at e2;cases e2;obtain⟨⟨m1,uq⟩,_⟩:=me tS[i] (xV jM);obtain⟨⟨m2,sa⟩,_⟩:=me tS[j] (xV Fz);have:=aq.inj tS[i] tS[j] m1 m2 uq sa (aq.conv _ _ uq _ f1) (aq.conv _ _ sa _ f2) k f1 f2;exact(List.getElem_inj hcn).1 this
 refine wp_seq (wp_region_list ?_);rw [Ks];have PV:cf mk (yielded px a1.tmps)=true:=by simp [cf,hmg]
 have af2:ya.map a1.eval=(ks.map fun k=>ed k 0).toArray:=by
  apply td;rw [Array.toList_map,ai0,List.map_map];refine List.ext_getElem? fun i=>?_;rw [cr,cr];cases hci:tS[i]? with
  |none=>
   have:ks[i]? =none:=by rw [List.getElem?_eq_none_iff] at hci⊢;omega
   rw [this];rfl
  |some b=>
   obtain⟨k,g1,g2⟩:=xj i b hci;rw [g1];simp [kD,jt,g2]
 have P3:(execOp a1.eval mk).run P w1= .ok (.value (.func (.func g) #[] (ks.map fun k=>ed k 0).toArray)) w1:=by
  rw [←af2];simp [execOp,Rq,cx]
 have akx: ∀b∈tS,b≠d':=fun b fR e=>by
  obtain⟨⟨n,hn⟩,_⟩:=me b fR;rw [e,hdb] at hn;cases hn
 clear af2;generalize hcg:(ks.map fun k=>ed k 0).toArray=fD at P3;unfold wpList;rw [if_pos PV];left;unfold iS;rw [P3,yV,hmd];have bQ:=aq.aside (v:=.func (.func g) #[] fD) gg hdb afd;have E8:(a1.put (some d') (.func (.func g) #[] fD)).eval (.tmp d')= .func (.func g) #[] fD:=by
  have:d'<a1.tmps.size:=by rw [aq.size];exact gg
  simp [kD,Act.put,jt,this]
 have adn: ∀p,p∈tS.zip (ks.map fun k=>ed k 0)→(a1.put (some d') (.func (.func g) #[] fD)).tmps[p.1]? =some p.2∧((∃n k,look pl.boxes p.1=some n∧p.2=ed k 0)∨pl.jh p.1=true):=fun p hp=>by
  obtain⟨g1,g2⟩:=akw p hp;obtain⟨i,g3,_⟩:=Rp hp;exact⟨by rw [fz _ _ _ _ (akx p.1 (aX g3))];exact g1,g2⟩
 generalize a1.put (some d') (.func (.func g) #[] fD)=a2 at bQ E8 adn;have mR:(execOp a2.eval df).run P w1= .ok (.defer { target:=.fn (.func g) fD,args:= #[] }) w1:=by
  simp [execOp,WX,resolve,E8,iy]
 unfold wpList;have hw:cf df (yielded px a2.tmps)=true:=by simp [cf,P2]
 rw [if_pos hw];left;unfold iS;rw [mR,sM,Uz]
 show rest.wp P (bodyPostD P fn R) { a2 with defers:= { target:=.fn (.func g) fD,args:= #[] } ::a2.defers } w1
 rw [bQ.defers];have cl:eH pl ⟨[{ target:=.fn (.func g) fD,args:= #[] }],tS.zip (ks.map fun k=>ed k 0)⟩ .start sL X1 Im { a2 with defers:=[{ target:=.fn (.func g) fD,args:= #[] }] } w1:=
  ⟨bQ.size,rfl,adn,bQ.ext,bQ.sU,bQ.nk,bQ.sig,bQ.box,bQ.inj,bQ.conv,bQ.live,bQ.ptr⟩
 have pY:=ou t2 (K':=fun ex e w' X'=>K ex e w' X'∧ ∀s,¬s∈t2.wr→e s=sL s) WC fun ex e w' X' _ he hk=>⟨hk,he⟩;refine wp_mono (Ly (pl:=pl) (ds:=⟨[{ target:=.fn (.func g) fD,args:= #[] }],tS.zip (ks.map fun k=>ed k 0)⟩) rest t2 _ sL X1 Im _ w1 jF (fun b fR p hp e=>?_) cl pY) fun ex a' w' hq=>?_
 ·obtain⟨i,g1,_⟩:=Rp hp;have h1:=(wy p.1 (aX g1)).2;rw [e,wF.2 fR] at h1;cases h1
 have ado: ∀w',(invoke (.fn (.func g) fD) #[]).run P w'= .ok (.enter g fD) w':=fun w'=>by
  simp only [invoke];have:=pD WY (#[]++fD) w';simpa using this
 have done:(∃env X w0,eH pl ⟨[{ target:=.fn (.func g) fD,args:= #[] }],tS.zip (ks.map fun k=>ed k 0)⟩ .start env X w0 a' w'∧K .ret env w0 X∧ ∀s,¬s∈t2.wr→env s=sL s)→Leaves P fn a'.tmps R a'.defers .returning w':=by
  rintro⟨e,X',eB,h5,h6,_⟩;have h6':bq (nd.all fun b=>dO (e b)) (∀wa,Kp X' eB wa→R (.returned (Ur r e)) wa):=h6;obtain⟨h7,h8⟩:=dt.1 h6';rw [h5.defers];refine leaves_cons (by simp) (f:=g) (args:=fD) (ado w') ?_;refine(G9 fD w').mono ?_;rintro _ _ kq ⟨⟨x,rfl⟩,rfl,rfl⟩;exact⟨_,Lz h5 Kf (List.all_eq_true.1 h7),h8 kq h5.ext⟩
 cases ex with
 |normal=>exact done hq
 |ret=>exact done hq
 |panic ch=>
  obtain⟨h5,e,X',eB,h6,⟨h7,he⟩,AJ⟩:=hq
  show Leaves P fn a'.tmps R a'.defers (.panicking ch) w'
  rw [h5];refine leaves_cons (by simp) (f:=g) (args:=fD) (ado w') ?_;have u6: ∀(i:Nat) b k,tS[i]? =some b→ks[i]? =some k→a'.tmps[b]? =some (ed k 0)∧ ∃n cells ty,look pl.boxes b=some n∧e b= .agg cells∧w'.heap[k]? =some (.cells cells ty (0,0))∧cells.size=n∧ ¬X' k:=fun i b k g1 g2=>
by
   obtain⟨q1,q2⟩:=AJ.2 (b,ed k 0) (aX (i:=i) (by rw [qg];exact⟨g1,by rw [cr,g2];rfl⟩));refine⟨q1,?_⟩;rcases q2 with q2|⟨n,k',cells,ty,q3,q4⟩
   ·obtain⟨⟨n,hn⟩,_⟩:=me b (aX g1);rw [(pN q2).2.1] at hn;cases hn
   ·have:k=k':=by simpa [ed] using q3
    subst this;exact⟨n,cells,ty,q4⟩
  have NZ: ∀(i:Nat) b,tS[i]? =some b→dO (e b)=true:=fun i b g1=>by
   obtain⟨k,g2,_⟩:=xj i b g1;obtain⟨_,_,cells,_,_,g4,_⟩:=u6 i b k g1 g2;rw [g4];rfl
  have hkX: ∀k,k∈ks→ ¬X' k:=fun k hm=>by
   obtain⟨i,g1⟩:=List.getElem?_of_mem hm;have jM:i<tS.length:=by rw [←lO];exact(List.getElem?_eq_some_iff.1 g1).1
   obtain⟨_,_,_,_,_,_,_,_,g9⟩:=u6 i _ k (bB jM) g1;exact g9
  rw [←hcg];refine(qU ks (tS.map fun b=>(e b).cells) ch w' lO (by simp) alW (fun i k cells g1 g2=>?_) (fun i v cells g1 g2=>?_) (fun i b n cells g1 g2 g3=>?_) fun wa ho=>h7 wa (ho.kp h6 AJ.1 hkX)).mono ?_
  ·rw [cr] at g2;obtain⟨b,g3,rfl⟩:=Option.map_eq_some_iff.1 g2;obtain⟨_,_,cells,ty,_,g4,g5,_⟩:=u6 i b k g3 g1;rw [g4];exact⟨ty,g5⟩
  ·rw [cr] at g1 g2;obtain⟨b,g3,rfl⟩:=Option.map_eq_some_iff.1 g2;rw [g3] at g1;simp only [bM,aB] at g1;split at g1
   ·cases g1
   ·rename_i hnw;have alX: ¬b∈t2.wr:=fun hm=>hnw (wF.2 hm);rw [he b alX,ai1];generalize x9 t0 (lI args) b=u at g1;unfold aiZ at g1;split at g1
    ·cases g1;rfl
    ·cases g1
  ·rw [cr,g1] at g3;simp only [bM,aB] at g3;obtain⟨k,g4,_⟩:=xj i b g1;obtain⟨_,n',tj,ty,q1,q2,q3,q4,_⟩:=u6 i b k g1 g4;rw [g2] at q1;cases q1;rw [←g3,q2];exact q4
  ·rintro e' u kq ⟨⟨x,rfl⟩,afe,v,hR,aky⟩
   show Leaves P fn a'.tmps R [] (settle u) kq
   rw [afe];exact⟨v,aky a'.tmps fun i b k g1 g2=>(u6 i b k g1 g2).1,hR⟩
 |exit i=>obtain⟨e,X',eB,h5,h6,_⟩:=hq;exact h6.elim
 |goto i=>obtain⟨e,X',eB,h5,h6,_⟩:=hq;exact h6.elim
 |outgrown=>exact hq.elim
theorem Kt {f:FuncId} {fn:Func} {pl:bG} {args:Array Value} {w:World} {R:Ending→World→Prop} {V:Prop} (hf:P.funcs[f]? =some fn)
  (hs:(decide (args.size≤pl.n)&&pl.boxes.all fun p=>decide (args.size≤p.1))=true) (kU: ∀g,zj fn=some g→Idle P g) (hR: ∀ch w,¬R (.panicked ch) w) (hv:V=N7 P (ftE P pl fn) R args w) (h:V):Calls P f args w R:=by
 subst hv;unfold N7 at h;simp only [aA,decide_eq_true_eq] at hs;split at h;case h_2=>exact h.elim
 rename_i ft hc;unfold ftE at hc;split at hc;case isFalse=>cases hc
 rename_i hn;have ke:fn.ntmps=pl.n:=by simpa using hn
 split at hc;case h_2=>cases hc
 rename_i _ id0 xZ id1 px rest hb;split at hc;case h_2=>cases hc
 rename_i _ mk df Ks;split at hc;case h_2=>cases hc
 rename_i _ _ _ _ _ _ g ya d' d SC Rq hmg hmd WX P2 Uz;split at hc;case h_2=>cases hc
 rename_i _ _ _ t0 t2 r nd pB jF Kf;split at hc;case isFalse=>cases hc
 rename_i mZ;simp only [aA,beq_iff_eq,bV,decide_eq_true_eq,gP] at mZ;obtain⟨⟨⟨Bs,gg⟩,hdb⟩,afd⟩:=mZ;subst Bs;injection hc with hc
 subst hc;have hG:zj fn=some g:=by unfold zj;rw [hb];simp [Ks,Rq]
 obtain⟨WY,G9⟩:=kU g hG;have WZ:=afc (w:=w) ke hs.1 (by simpa using hs.2);refine calls_of_wp_defers hf hb ?_
 let K:=Us ⟨.seq (.EY t0) t2,r,nd⟩ R
 have hKp: ∀ch env X w0 w',Kp X w0 w'→K (.panic ch) env w0 X→False:=fun ch env X w0 w' hk hq=>hR _ _ (hq w' hk);have h0:gv P (fun ch=>K (.panic ch)) (fun e w X=>den P t2 K e w X) t0 (lI args) w (ba w):=h;refine wp_seq (wp_region_list (E9 (P:=P) (pl:=pl) (ds:=⟨[],[]⟩) ?_ ?_ xZ.toList .start t0 _ _ _ _ _ pB (fun _ _ _ hp=>by cases hp) WZ h0));case refine_2=>exact fun ch a' w' dK X' eB _ hk _ hq=>(hKp _ _ _ _ _ hk hq).elim
 intro OP a1 w1 sL X1 Im aq WC;replace aq:=aq.drop
 show(Code.seq (xY id1 px false) rest).wp P (bodyPostD P fn R) a1 w1
 refine wp_seq (wp_region_list ?_);rw [Ks];have PV:cf mk (yielded px a1.tmps)=true:=by simp [cf,hmg]
 have P3:(execOp a1.eval mk).run P w1= .ok (.value (.func (.func g) #[] (ya.map a1.eval))) w1:=by
  simp [execOp,Rq,cx]
 generalize ya.map a1.eval=fD at P3;unfold wpList;rw [if_pos PV];left;unfold iS;rw [P3,yV,hmd];have bQ:=aq.aside (v:=.func (.func g) #[] fD) gg hdb afd;have E8:(a1.put (some d') (.func (.func g) #[] fD)).eval (.tmp d')= .func (.func g) #[] fD:=by
  have:d'<a1.tmps.size:=by rw [aq.size];exact gg
  simp [kD,Act.put,jt,this]
 generalize a1.put (some d') (.func (.func g) #[] fD)=a2 at bQ E8;have mR:(execOp a2.eval df).run P w1= .ok (.defer { target:=.fn (.func g) fD,args:= #[] }) w1:=by
  simp [execOp,WX,resolve,E8,iy]
 unfold wpList;have hw:cf df (yielded px a2.tmps)=true:=by simp [cf,P2]
 rw [if_pos hw];left;unfold iS;rw [mR,sM,Uz]
 show rest.wp P (bodyPostD P fn R) { a2 with defers:= { target:=.fn (.func g) fD,args:= #[] } ::a2.defers } w1
 rw [bQ.defers];have cl:=bQ.defs (JM:=[{ target:=.fn (.func g) fD,args:= #[] }]);refine wp_mono (Ly (pl:=pl) (ds:=⟨[{ target:=.fn (.func g) fD,args:= #[] }],[]⟩) rest t2 K sL X1 Im _ w1 jF (fun _ _ _ hp=>by cases hp) cl WC) fun ex a' w' hq=>?_;have done:(∃env X w0,eH pl ⟨[{ target:=.fn (.func g) fD,args:= #[] }],[]⟩ .start env X w0 a' w'∧K .ret env w0 X)→Leaves P fn a'.tmps R a'.defers .returning w':=by
  rintro⟨e,X',eB,h5,h6⟩;have h6':bq (nd.all fun b=>dO (e b)) (∀wa,Kp X' eB wa→R (.returned (Ur r e)) wa):=h6;obtain⟨h7,h8⟩:=dt.1 h6';rw [h5.defers];refine leaves_cons (by simp) (f:=g) (args:=fD) ?_ ?_
  ·simp only [invoke];have:=pD WY (#[]++fD) w';simpa using this
  ·refine(G9 fD w').mono ?_;rintro _ _ kq ⟨⟨x,rfl⟩,rfl,rfl⟩;exact⟨_,Lz h5 Kf (List.all_eq_true.1 h7),h8 kq h5.ext⟩
 cases ex with
 |normal=>exact done hq
 |ret=>exact done hq
 |panic ch=>obtain⟨h5,e,X',eB,h6,h7,_⟩:=hq;exact(hKp _ _ _ _ _ h6 h7).elim
 |exit i=>obtain⟨e,X',eB,h5,h6⟩:=hq;exact h6.elim
 |goto i=>obtain⟨e,X',eB,h5,h6⟩:=hq;exact h6.elim
 |outgrown=>exact hq.elim
def qy (fn:Func):List Nat:=fn.results.toList.map fun r=>match r with
 | .cell c _=>c
 | .tmp t=>t
def aff (fn:Func):Bool:=fn.results.toList.all fun r=>match r with
 | .cell _ _=>true
 | .tmp _=>false
def ftD (P:Program) (pl:bG) (fn:Func):Option FT:=
 if fn.ntmps==pl.n then match fn.body with
  |some (.seq (.region _ xZ false) (.seq (.region _ px false) rest))=>match px.toList with
   |[mk,df]=>match df.op,df.guard,df.dst with
    | .defer ⟨.value (.tmp d),⟨[]⟩,_⟩,none,none=>match B7 P pl xZ xZ.toList .start,B7 P pl px [mk] .start,kJ P pl rest with
     |some t0,some t1,some t2=>match t1 with
      |[.rd d' (.makeFunc (.func _) ⟨[]⟩ _) _ _]=>
       if d'==d&&pl.jh d&&(qy fn).all (fun c=>pl.jh c&&!B6 t2.mk c&&!B6 t2.wr c)&&aff fn&&!(t2.wr.contains d)&&!fn.results.isEmpty then some ⟨.seq (.EY t0) (.seq (.EY t1) t2),(qy fn).map Ex.t++[Ex.t d],[]⟩else none
      |_=>none
     |_,_,_=>none
    |_,_,_=>none
   |_=>none
  |_=>none
 else none
theorem Oper.afg {o:Oper} {a:Act} {w:World} {next next':Act→World→Prop} {Q Q':Exit→Act→World→Prop} (h:o.wp P a w next Q) (hn: ∀a w,next a w→next' a w) (hp: ∀c a w,Q (.panic c) a w→Q' (.panic c) a w)
  (ho: ∀a w,Q .outgrown a w→Q' .outgrown a w):o.wp P a w next' Q':=by
 unfold iS Oper.upon at*;have hl:LetsOut Q→LetsOut Q':=fun ⟨a,w,h⟩=>⟨a,w,ho a w h⟩;split at h
 ·exact hn _ _ h
 ·exact hn _ _ h
 ·exact hn _ _ h
 ·refine h.mono fun e w' he=>?_;cases e with
  |returned v=>exact hn _ _ he
  |panicked c=>exact hp _ _ _ he
  |outgrown=>exact hl he
 ·exact h.mono fun v w' hv=>hn _ _ hv
 ·exact hp _ _ _ h
 ·exact h
def Fh (P:Program) (fn:Func) (R:Ending→World→Prop) (vs:List Value) (u:FrameMode) (w:World):Prop:=
 ∃(ps:List Value) (g:FuncId) (fD:Array Value),vs=ps++[Value.func (.func g) #[] fD]∧enters P g=true∧
  CallsD P g fD u w fun e' u' w'=> ∃x v,e'= .returned x∧settle u'= .returning∧
   (∀tmps:Array Value,(∀(i:Nat) c,(qy fn)[i]? =some c→tmps[c]? =ps[i]?)→(results fn tmps).run P w'= .ok v w')∧R (.returned v) w'
def dP (P:Program) (fn:Func) (R:Ending→World→Prop) (vs:List Value):Ending→World→Prop
 | .returned _,w=>Fh P fn R vs .returning w
 | .panicked ch,w=>Fh P fn R vs (.panicking ch) w
 | .outgrown,_=>False
def nP:Ending→World→Prop:=fun _ _=>False
def af3 (P:Program) (fn:Func) (R:Ending→World→Prop) (res:List Ex):oD
 | .normal,e,w,X| .ret,e,w,X=> ∀wa,Kp X w wa→Fh P fn R (res.map (·.ev e)) .returning wa
 | .panic ch,e,w,X=> ∀wa,Kp X w wa→Fh P fn R (res.map (·.ev e)) (.panicking ch) wa
 |_,_,_,_=>False
def ai2 (P:Program) (pl:bG) (fn:Func) (R:Ending→World→Prop) (args:Array Value) (w:World):Prop:=match ftD P pl fn with
 |some ft=>match ft.code with
  | .seq (.EY t0) (.seq (.EY t1) t2)=>gv P (fun ch _ w X=>pn nP ch w X) (fun e w X=>gv P (fun ch _ w X=>pn nP ch w X) (fun e w X=>den P t2 (af3 P fn R ft.res) e w X) t1 e w X) t0 (lI args) w (ba w)
  |_=>False
 |none=>False
theorem W0 {f:FuncId} {fn:Func} {pl:bG} {args:Array Value} {w:World} {R:Ending→World→Prop} {V:Prop} (hf:P.funcs[f]? =some fn)
  (hs:(decide (args.size≤pl.n)&&pl.boxes.all fun p=>decide (args.size≤p.1))=true) (hv:V=ai2 P pl fn R args w) (h:V):Calls P f args w R:=by
 subst hv;unfold ai2 at h;simp only [aA,decide_eq_true_eq] at hs;split at h;case h_2=>exact h.elim
 rename_i ft hc;unfold ftD at hc;split at hc;case isFalse=>cases hc
 rename_i hn;have ke:fn.ntmps=pl.n:=by simpa using hn
 split at hc;case h_2=>cases hc
 rename_i _ id0 xZ id1 px rest hb;split at hc;case h_2=>cases hc
 rename_i _ mk df Ks;split at hc;case h_2=>cases hc
 rename_i _ _ _ d SC WX P2 Uz;split at hc;case h_2=>cases hc
 rename_i _ _ _ t0 t1 t2 pB Cp jF;split at hc;case h_2=>cases hc
 rename_i _ d' g0 ya ty ss;split at hc;case isFalse=>cases hc
 rename_i mZ;simp only [aA,beq_iff_eq,bV,lE] at mZ;obtain⟨⟨⟨⟨⟨Bs,hgd⟩,hgc⟩,hac⟩,hwr⟩,cU⟩:=mZ;subst Bs;injection hc with hc
 subst hc;have hdw: ¬d'∈t2.wr:=fun hm=>by simp [hm] at hwr
 have WZ:=afc (w:=w) ke hs.1 (by simpa using hs.2);refine calls_of_wp_defers hf hb ?_
 let K:=af3 P fn R ((qy fn).map Ex.t++[Ex.t d'])
 have hnp: ∀{ch X w0 w'},Kp X w0 w'→pn nP ch w0 X→False:=fun hk hq=>hq _ hk;have h0:gv P (fun ch _ w X=>pn nP ch w X) (fun e w X=>gv P (fun ch _ w X=>pn nP ch w X) (fun e w X=>den P t2 K e w X) [.rd d' (.makeFunc (.func g0) ⟨[]⟩ ya) ty ss] e w X) t0 (lI args) w (ba w):=h;refine wp_seq (wp_region_list (E9 (P:=P) (pl:=pl) (ds:=⟨[],[]⟩) ?_ ?_ xZ.toList .start t0 _ _ _ _ _ pB (fun _ _ _ hp=>by cases hp) WZ h0));case refine_2=>exact fun ch a' w' dK X' eB _ hk _ hq=>(hnp hk hq).elim
 intro OP a1 w1 sL X1 Im aq WC;replace aq:=aq.drop
 show(Code.seq (xY id1 px false) rest).wp P (bodyPostD P fn R) a1 w1
 refine wp_seq (wp_region_list ?_);rw [Ks];have h1:gv P (fun ch _ w X=>pn nP ch w X) (fun e w X=>den P t2 (fun ex e' w' X'=>K ex e' w' X'∧ ∀s,¬s∈t2.wr→e' s=e s) e w X∧ ∃fD,e d'= .func (.func g0) #[] fD) [.rd d' (.makeFunc (.func g0) ⟨[]⟩ ya) ty ss] sL Im X1:=by
  obtain⟨v,hv,hq⟩: ∃v,Rd P X1 Im (OK (Ds sL ss) (.makeFunc (.func g0) ⟨[]⟩ ya) ty) v∧den P t2 K (kT sL d' v) Im X1:=WC;refine⟨v,hv,ou t2 hq fun ex e w' X' _ he hk=>⟨hk,he⟩,?_⟩;have hr:(vS (cx (.func g0) (th (Ds sL ss) ⟨[]⟩) (th (Ds sL ss) ya))).run P Im= .ok (.value v) Im:=hv Im (Kp.refl _ _);rw [QF,QF] at hr;rw [kh];simp [vS,cx] at hr;exact⟨_,hr.symm⟩
 have h2:=E9 (P:=P) (pl:=pl) (ds:=⟨[],[]⟩) (ops:=px) (Q:=fun ex a w=>match ex with
   | .normal=>wpList P px (Exit.then (rest.wp P (bodyPostD P fn R)) (bodyPostD P fn R)) [df] a w
   |ex=>Exit.then (rest.wp P (bodyPostD P fn R)) (bodyPostD P fn R) ex a w) ?_ ?_ [mk] .start _ sL X1 Im a1 w1 Cp (fun _ _ _ hp=>by cases hp) aq h1
 ·unfold wpList at h2⊢;split at h2
  ·rename_i hw;rw [if_pos hw];refine h2.imp (fun h3=>Oper.afg h3 (fun a w hq=>hq) (fun c a w hq=>hq) fun a w hq=>hq) fun ⟨h3,a,w,h4⟩=>⟨h3,a,w,h4⟩
  ·rename_i hw;rw [if_neg hw];exact h2
 ·rintro cs2 a2 w2 Da X2 w02 bQ ⟨pY,fD,Bm⟩
  show wpList P px _ [df] a2 w2
  have E8:a2.eval (.tmp d')= .func (.func g0) #[] fD:=by
   have:=bQ.nk d' hgd;simp [kD,jt,this,Bm]
  have mR:(execOp a2.eval df).run P w2= .ok (.defer { target:=.fn (.func g0) fD,args:= #[] }) w2:=by
   simp [execOp,WX,resolve,E8,iy]
  unfold wpList;have hw:cf df (yielded px a2.tmps)=true:=by simp [cf,P2]
  rw [if_pos hw];left;unfold iS;rw [mR,sM,Uz]
  show rest.wp P (bodyPostD P fn R) { a2 with defers:= { target:=.fn (.func g0) fD,args:= #[] } ::a2.defers } w2
  rw [bQ.defers];have nK:=bQ.drop;have cl:eH pl ⟨[{ target:=.fn (.func g0) fD,args:= #[] }],(qy fn).map fun c=>(c,Da c)⟩ .start Da X2 w02 { a2 with defers:=[{ target:=.fn (.func g0) fD,args:= #[] }] } w2:=
   ⟨nK.size,rfl,fun p hp=>by
    obtain⟨c,hc,rfl⟩:=List.mem_map.1 hp;have hg:=(hgc c hc).1.1;exact⟨bQ.nk c hg,.inr hg⟩,nK.ext,nK.sU,nK.nk,nK.sig,nK.box,nK.inj,nK.conv,nK.live,nK.ptr⟩
  refine wp_mono (Ly (pl:=pl) (ds:=⟨[{ target:=.fn (.func g0) fD,args:= #[] }],(qy fn).map fun c=>(c,Da c)⟩) rest t2 _ Da X2 w02 _ w2 jF (fun b fR p hp e=>?_) cl pY) fun ex a' w' hq=>?_
  ·obtain⟨c,hc,rfl⟩:=List.mem_map.1 hp;have h3:=(hgc c hc).1.2;have e:c=b:=e;rw [e,wF.2 fR] at h3;cases h3
  have hcw: ∀c∈qy fn,¬c∈t2.wr:=fun c hc hm=>by
   have h3:=(hgc c hc).2;rw [wF.2 hm] at h3;cases h3
  have close: ∀(e:Env) (u:FrameMode) (wx:World),u≠ .run→(∀s,¬s∈t2.wr→e s=Da s)→(∀c∈qy fn,a'.tmps[c]? =some (Da c))→
    Fh P fn R (((qy fn).map Ex.t++[Ex.t d']).map (·.ev e)) u wx→Leaves P fn a'.tmps R [{ target:=.fn (.func g0) fD,args:= #[] }] u wx:=by
   rintro e u wx hu he htm ⟨vs,g,akz,ZI,WY,hcd⟩;rw [List.map_append,List.map_map,List.map_cons,List.map_nil] at ZI;obtain⟨DG,VF⟩:=List.append_inj' ZI rfl;simp only [List.cons.injEq,and_true] at VF;have alY:(Value.func (.func g0) #[] fD)= .func (.func g) #[] akz:=by
    rw [←Bm,←he d' hdw];exact VF
   injection alY with Ch _ qu
   injection Ch with Ch
   subst Ch;subst qu;refine leaves_cons hu (f:=g0) (args:=fD) ?_ ?_
   ·simp only [invoke];have:=pD WY (#[]++fD) wx;simpa using this
   ·refine hcd.mono ?_;rintro _ u' kq ⟨x,v,rfl,afe,Kf,hR⟩
    show Leaves P fn a'.tmps R [] (settle u') kq
    rw [afe];refine⟨v,Kf _ fun i c hi=>?_,hR⟩;have mh:c∈qy fn:=aX hi;rw [htm c mh,←DG,cr,hi]
    show some (Da c)=some (e c)
    rw [he c (hcw c mh)]
  have done:(∃env X w0,eH pl ⟨[{ target:=.fn (.func g0) fD,args:= #[] }],(qy fn).map fun c=>(c,Da c)⟩ .start env X w0 a' w'∧K .ret env w0 X∧ ∀s,¬s∈t2.wr→env s=Da s)→Leaves P fn a'.tmps R a'.defers .returning w':=by
   rintro⟨e,X',eB,h5,h6,h7⟩;rw [h5.defers];exact close e .returning w' (by simp) h7 (fun c hc=>(h5.uV (c,Da c) (List.mem_map.2 ⟨c,hc,rfl⟩)).1) (h6 w' h5.ext)
  cases ex with
  |normal=>exact done hq
  |ret=>exact done hq
  |panic ch=>
   obtain⟨h5,e,X',eB,h6,⟨h7,h8⟩,AJ⟩:=hq
   show Leaves P fn a'.tmps R a'.defers (.panicking ch) w'
   rw [h5];exact close e (.panicking ch) w' (by simp) h8 (fun c hc=>(AJ.2 (c,Da c) (List.mem_map.2 ⟨c,hc,rfl⟩)).1) (h7 w' h6)
  |exit i=>obtain⟨e,X',eB,h5,h6,_⟩:=hq;exact h6.elim
  |goto i=>obtain⟨e,X',eB,h5,h6,_⟩:=hq;exact h6.elim
  |outgrown=>exact hq.elim
 ·exact fun ch a' w' dK X' eB _ hk _ hq=>(hnp hk hq).elim
end Go.dL
set_option linter.unusedVariables false
set_option linter.unusedSimpArgs false
namespace Go.dL
variable {P : Program} {R : Ending → World → Prop} {X F G : XS} {w w0 : World} {m : Bool}
def afh (F:XS) (w0:World) (Q:Value→World→Prop) (QP:List PanicEntry→World→Prop):Ending→World→Prop:=fun e w'=>
 (∃v,e= .returned v∧Fr F w0 w'∧Q v w')∨ ∃ch,e= .panicked ch∧Fr F w0 w'∧QP ch w'
def Wg (P:Program) (f:FuncId) (args:Array Value) (w:World) (X F:XS) (Q:Value→World→World→Prop) (QP:List PanicEntry→World→World→Prop):Prop:=
 ∀wa,Kp X w wa→Calls P f args wa (afh F wa (fun v w'=>Q v wa w') fun ch w'=>QP ch wa w')
theorem Wg.mono {f:FuncId} {args:Array Value} {Q Q':Value→World→World→Prop} {QP QP':List PanicEntry→World→World→Prop} (h:Wg P f args w X F Q QP) (k: ∀v wa w',Kp X w wa→Q v wa w'→Q' v wa w') (kp: ∀ch wa w',Kp X w wa→QP ch wa w'→QP' ch wa w'):Wg P f args w X F Q' QP':=
 fun wa hk=>(h wa hk).mono fun _ _ hq=>hq.imp (fun ⟨v,he,hf,hq⟩=>⟨v,he,hf,k v wa _ hk hq⟩) fun ⟨v,he,hf,hq⟩=>⟨v,he,hf,kp v wa _ hk hq⟩
theorem akA {f:FuncId} {args:Array Value} {N:Value→World→XS→Prop} {Q:Value→World→World→Prop} {QP:List PanicEntry→World→World→Prop}
  (h:Wg P f args w X F Q QP) (hf:enters P f=true) (hX: ∀k,X k→k<w.heap.size) (hF: ∀k,F k→X k)
  (k: ∀v wa w' X',Q v wa w'→w.heap.size≤wa.heap.size→(∀k,made wa w' k→X' k)→Kp X w wa→eD F X w X' w'→N v w' X')
  (kp: ∀ch wa w' X',QP ch wa w'→w.heap.size≤wa.heap.size→(∀k,made wa w' k→X' k)→Kp X w wa→eD F X w X' w'→ ∀wb,Kp X' w' wb→R (.panicked ch) wb):eC P R X w true f args N:=by
 intro wa hk;unfold jy;rw [pD hf args wa];refine⟨rfl,(h wa hk).mono ?_⟩;rintro e w' (⟨v,rfl,ly,hq⟩|⟨ch,rfl,ly,hq⟩)
 ·exact⟨ly.mono hF,k v wa w' _ hq hk.size (fun g hg=>.inr hg) hk (eD.abG hX hk ly)⟩
 ·exact⟨ly.mono hF,kp ch wa w' _ hq hk.size (fun g hg=>.inr hg) hk (eD.abG hX hk ly)⟩
theorem agM {t:TypeId} {x:Value} {N:Value→World→XS→Prop} (hX: ∀k,X k→k<w.heap.size) (h: ∀wa,Kp X w wa→R (.panicked [{ v:=.iface t x,recovered:=false }]) wa):eV P R X w m (xW (.iface t x)) N:=by
 intro wa hk;have hr:(vS (xW (.iface t x))).run P wa= .halt (.panic (.iface t x)) wa:=by simp [vS,xW,goPanic,Sem.run]
 unfold jy;rw [hr];refine⟨Step.fh (Ext.refl wa),fun wb hb=>h wb ⟨hb.os.trans hk.os,hb.tape.trans hk.tape,hb.output.trans hk.output,ah hk.size hb.size,fun k hx=>(hb.block k (.inl hx)).trans (hk.block k hx)⟩⟩
def isIface (P:Program) (t:TypeId):Bool:=match P.underlying t with
 |some (.interface _)=>true
 |some _=>false
 |none=>true
theorem agL {t:TypeId} {x:Value} {N:Value→Prop} (ht:isIface P t=false) (h:N (.iface t x)):aa P X w (uz t x) N:=by
 unfold isIface at ht;cases hu:P.underlying t with
 |none=>simp [hu] at ht
 |some d=>refine bX (v:=.iface t x) (fun wa=>?_) h;cases d<;>simp_all [uz,run_underlying hu]
theorem agK {st t:TypeId} {x:Value} {N:Value→Prop} (ht:isIface P t=false) (h:N (.tuple #[x,.bool true])):aa P X w (xX (.iface t x) st t true) N:=by
 unfold isIface at ht;cases hu:P.underlying t with
 |none=>simp [hu] at ht
 |some d=>refine bX (v:=.tuple #[x,.bool true]) (fun wa=>?_) h;cases d<;>simp_all [xX,run_underlying hu]
section
variable {F0 X' : XS} {Q : Value → World → World → Prop} {QP : List PanicEntry → World → World → Prop} {N : Value → World → XS → Prop} {f : FuncId} {args : Array Value}
theorem Ft.Ud (hT:Ft w0 F0 w X F) (h:Wg P f args w X G Q QP) (hf:enters P f=true) (hG: ∀k,G k→F k)
  (k: ∀v wa w' X',Q v wa w'→w.heap.size≤wa.heap.size→(∀k,made wa w' k→X' k)→Ft w0 F0 w' X' (fun k=>F k∨made wa w' k)→eD G X w X' w'→N v w' X')
  (kp: ∀ch wa w' X',QP ch wa w'→w.heap.size≤wa.heap.size→(∀k,made wa w' k→X' k)→Ft w0 F0 w' X' (fun k=>F k∨made wa w' k)→eD G X w X' w'→ ∀wb,Kp X' w' wb→R (.panicked ch) wb):eC P R X w true f args N:=
 akA h hf hT.s.has (fun q hq=>hT.aU q (hG q hq)) (fun v wa w' X' hq hle fU _ hc=>k v wa w' X' hq hle fU (hT.dM hc hG fun q hq=>hq.imp id fun hm=>⟨fU q hm,ah hle hm.1⟩) hc)
  fun ch wa w' X' hq hle fU _ hc=>kp ch wa w' X' hq hle fU (hT.dM hc hG fun q hq=>hq.imp id fun hm=>⟨fU q hm,ah hle hm.1⟩) hc
theorem Ft.fr (h:Ft w0 F0 w X F) {wa:World} (hk:Kp X w wa):Fr F0 w0 wa:=
 ⟨hk.os.trans h.s.kp.os,hk.tape.trans h.s.kp.tape,hk.output.trans h.s.kp.output,ah h.s.kp.size hk.size,
  fun k hl hn=>(hk.block k (h.s.sub k ⟨hl,hn⟩)).trans (h.s.kp.block k ⟨hl,hn⟩)⟩
theorem Ft.aex {v:Value} {Q:Value→World→Prop} {QP:List PanicEntry→World→Prop} (h:Ft w0 F0 w X F) (hq: ∀wa,Kp X w wa→Q v wa):dL.fin (afh F0 w0 Q QP) X w v:=
 fun wa hk=>.inl ⟨v,rfl,h.fr hk,hq wa hk⟩
theorem Ft.gY {ch:List PanicEntry} {Q:Value→World→Prop} {QP:List PanicEntry→World→Prop} (h:Ft w0 F0 w X F) {wa:World} (hk:Kp X w wa) (hq:QP ch wa):afh F0 w0 Q QP (.panicked ch) wa:=.inr ⟨ch,rfl,h.fr hk,hq⟩
theorem adp {R:Ending→World→Prop} {RP:List PanicEntry→World→Prop} {v:Value} (h:dL.fin R X w v):dL.fin (LJ R RP) X w v:=fun wa hk=>h wa hk
theorem Ft.NS {v:Value} {Q:Value→World→Prop} {RP:List PanicEntry→World→Prop} (h:Ft w0 F0 w X F) (hq: ∀wa,Kp X w wa→Q v wa):dL.fin (LJ (Bo F0 w0 Q) RP) X w v:=
 adp (h.fin hq)
theorem Ft.ret {v:Value} {Q:Value→World→Prop} (h:Ft w0 F0 w X F) {wa:World} (hk:Kp X w wa) (hq:Q v wa):Bo F0 w0 Q (.returned v) wa:=⟨v,rfl,h.fr hk,hq⟩
theorem Wi {c:Bool} {A B:Prop} (h:c=false) (hb:B):if c=true then A else B:=by rw [if_neg (by simp [h])];exact hb
theorem ifT {c:Bool} {A B:Prop} (h:c=true) (ha:A):if c=true then A else B:=by rw [if_pos h];exact ha
theorem Ct.Ud (hT:Ft w0 F0 w X F) (h:Ct P f args w X G Q) (hf:enters P f=true) (hG: ∀k,G k→F k)
  (k: ∀v wa w' X',Q v wa w'→w.heap.size≤wa.heap.size→(∀k,made wa w' k→X' k)→Ft w0 F0 w' X' (fun k=>F k∨made wa w' k)→eD G X w X' w'→N v w' X'):eC P R X w true f args N:=
 hT.call h hf hG k
end
end Go.dL
set_option linter.unusedVariables false
set_option linter.unusedSimpArgs false
namespace Go.dL
variable {P : Program} {R : Ending → World → Prop} {X : XS} {w : World} {m : Bool}
theorem ahJ {t:TypeId} {s:ByteArray} {z:Int} {i:Nat} {N:Value→Prop} (hz:z=i) (hi:i≤s.size) (ht:P.underlying t=some .string) (k:N (.string (s.extract 0 i))):
  aa P X w (cp t (.string s) none (some (.int .i64 z)) none) N:=by
 subst hz;refine bX (fun wa=>?_) k;rw [run_sliceAt_string wa t _ _ _ _ ht,run_slice_string_h wa t s ht .i64 i zQ zQ];rfl
theorem ahK {t:TypeId} {s:ByteArray} {z:Int} {i:Nat} {N:Value→Prop} (hz:z=i) (hi:i≤s.size) (ht:P.underlying t=some .string) (k:N (.string (s.extract i s.size))):
  aa P X w (cp t (.string s) (some (.int .i64 z)) none none) N:=by
 subst hz;refine bX (fun wa=>?_) k;rw [run_sliceAt_string wa t _ _ _ _ ht,run_slice_string_l wa t s ht .i64 i zQ zQ];rfl
def rI (s:ByteArray):List Nat:=s.data.toList.map UInt8.toNat
theorem GR (s:ByteArray):(rI s).length=s.size:=by unfold rI;rw [aG,dC];rfl
theorem agH {s:ByteArray} {x:Nat} (h:x∈rI s):x<256:=by
 obtain⟨b,_,rfl⟩:=List.mem_map.1 h;exact UInt8.toNat_lt b
theorem acR {src dst e:TypeId} {s:ByteArray} {N:Value→World→XS→Prop} (hX: ∀k,X k→k<w.heap.size) (hl:s.size≤2^62) (hs:P.underlying src=some .string) (hd:P.underlying dst=some (.slice e)) (he:P.underlying e=some (.int .u8))
  (n: ∀v w' X',aj X w X' w'→Sl w' X' 1 v ((rI s).map fun x:Nat=>[.int .u8 (x:Int)])→N v w' X'):eV P R X w m (convert src dst (.string s)) N:=by
 unfold eV eW;intro wa hk;unfold jy;have hr:=run_bytes_of_string (P:=P) wa src dst e s hs hd he;simp only [vS,bO,hr,bt,ck];generalize hC:bytesRow s (grownCap wa s.size 0 e)=C;have AK: ∀k,k<wa.heap.size→(wa.drew.alloc (.cells C e (C.size,C.size+1))).heap[k]? =wa.heap[k]? :=fun k hk=>heap_alloc_old wa.drew _ hk;have hx:Ext wa (wa.drew.alloc (.cells C e (C.size,C.size+1))):=⟨rfl,rfl,rfl,by simp,fun k lO _=>AK k lO⟩;have eh:=grownCap_ge wa s.size 0 e;have lA:grownCap wa s.size 0 e≤maxLen:=grownCap_le_maxLen wa _ 0 e (by simp only [maxLen];omega);refine⟨Step.fh hx,n _ _ _ (aj.fh hX hk hx) ?_⟩;have hlen:((rI s).map fun x:Nat=>[aC .u8 (x:Int)]).length=s.size:=by rw [aG,GR]
 refine⟨fun r hr=>?_,by rw [hlen];omega,_,_,by rw [hlen],fun _=>⟨wa.heap.size,0,rfl,.inr ⟨bf _,by simp⟩,C,e,_,heap_alloc_new wa.drew _,fun j v hj=>?_⟩,by simp,by rw [hlen];exact eh,lA⟩
 ·obtain⟨x,_,rfl⟩:=List.mem_map.1 hr;rfl
 ·have hf:((rI s).map fun x:Nat=>[aC .u8 (x:Int)]).flatten=(rI s).map fun x:Nat=>aC .u8 (x:Int):=by
   generalize rI s=l
   induction l with
   |nil=>rfl
   |cons a l ih=>simp only [List.map_cons,cD,List.singleton_append,ih]
  rw [hf,cr] at hj;rw [←hC,fp];unfold bytesRow;have dU:j<s.data.size:=by
   cases hq:(rI s)[j]? with
   |none=>rw [hq] at hj;cases hj
   |some x=>
    have:=(List.getElem?_eq_some_iff.1 hq).1;rw [GR] at this;exact this
  rw [Array.getElem?_append_left (by rw [Array.size_map];exact dU),Array.getElem?_map];unfold rI at hj;rw [cr,Array.getElem?_toList] at hj;rw [←hj];cases s.data[j]? <;>rfl
structure Two (A B:Prop):Prop where
 a:A
 b:B
theorem q0t {A B p:Prop} (h:A→B→p):Two A B→p:=fun t=>h t.a t.b
theorem de {A B:Prop} (a:A) (b:B):Two A B:=⟨a,b⟩
theorem q0b {p q:Prop} (h:q→p:=by first|(intro q9;first|(with_reducible first|apply B2|apply wI|apply Wd|apply zk|apply Rh|apply afb|apply Cl|apply ag5|apply tB|apply NY|apply Ck|apply ae1|apply z6|apply ac8|apply aiu|apply z7|apply z8|apply abk|apply alM|apply akc|apply abm|apply alR|apply PF|apply Wc|apply vM|apply aha|apply akl);exact q9|(with_reducible apply ag4);(case k=>exact q9);(· rfl)|(with_reducible apply akj);(case k=>exact q9);(· exact qN)|(with_reducible apply akk);(case k=>exact q9);(· exact qN)|(with_reducible apply Av);(case k=>exact q9);(· exact qF);(· kernel_rfl);(· rfl)|(with_reducible apply Li);(case k=>exact q9);(· exact qF);(· kernel_rfl);(· rfl);(· exact qN)|(with_reducible apply afW);(case k=>exact q9);(· exact qF);(· exact qM);(· kernel_rfl);(· rfl)|(with_reducible apply Lj);(case k=>exact q9);(· exact qF);(· exact qM);(· kernel_rfl);(· rfl)|(with_reducible apply afU);(case n=>exact q9);(· exact qO);(· kernel_rfl)|(with_reducible apply aki);(case n=>exact q9);(· assumption);(· kernel_rfl)|(with_reducible apply akh);(case k=>exact q9);(· kernel_rfl)|(with_reducible apply afX);(case n=>exact q9);(· exact qO);(try (case hz=>rfl));(case hr=>first|assumption|(clear q9;exact List.getElem?_eq_getElem (by omega)));(try (case hz=>omega));(case ht=>kernel_rfl);(case hs=>kernel_rfl)|(with_reducible apply xk);(case k=>exact q9);(· kernel_rfl)|(with_reducible apply afR);(case h=>exact q9);(· rfl)|(with_reducible apply ahb);(case k=>exact q9);(· kernel_rfl)|(with_reducible apply ahc);(case k=>exact q9);(· kernel_rfl)|(with_reducible apply aiV);(case k=>exact q9);(· kernel_rfl)|(with_reducible apply aiW);(case k=>exact q9);(· kernel_rfl)|(with_reducible apply aiQ);(case k=>exact q9);(case h=>exact qE)|(with_reducible apply aiR);(case k=>exact q9);(case h=>exact qE)|(with_reducible apply abB);(case k=>exact q9);(· exact qC)|(with_reducible apply afT);(case h=>exact q9);(· omega);(· omega)|(with_reducible apply abn);(case h=>exact q9);(· omega);(· omega)|(with_reducible apply abI);(case h=>exact q9);(· kernel_rfl);(· kernel_rfl)|(with_reducible apply akm);(case h=>exact q9);(· kernel_rfl);(· kernel_rfl)|(with_reducible apply akp);(case k=>exact q9);(try (case hz=>rfl));(case hb=>assumption);(try (case hz=>omega));(case ht=>kernel_rfl)|(with_reducible apply akn);(case k=>exact q9);(· kernel_rfl);(· kernel_rfl);(try (case hz=>rfl));(case hn=>omega);(case hl=>rfl)|(with_reducible apply aiT);(case k=>exact q9);(case hf=>kernel_rfl);(case hg=>kernel_rfl);(case hl=>rfl)|(with_reducible apply aiU);(case k=>exact q9);(case hf=>kernel_rfl);(case hg=>kernel_rfl);(case hlen=>rfl);(case hl=>exact qN)|(with_reducible apply akq);(case h=>exact q9);(· rfl)|fail)|(apply q0t;intro a9 b9;first|(with_reducible first|apply abC|apply Uc|apply abF|apply abD|apply OX|apply abE|apply aiD|apply aiE|apply aiF|apply aiG|apply aiH|apply aiI|apply aiJ|apply aiK|apply aiL|apply aiM|apply aiN|apply ag1);(· exact a9);exact b9|(with_reducible apply aiP);(case hT=>exact a9);(case hF=>exact b9);(· exact qO);(· kernel_rfl)|fail)|fail):q→p:=h
theorem q0d {p q:Prop} (h:q→p:=by intro q9;first|(with_reducible refine aiv ?_ ?_);rotate_left;exact q9;omega|(with_reducible refine ac6 ?_ ?_);rotate_left;exact q9;omega|(with_reducible refine Jr ?_ ?_);rotate_left;exact q9;omega|(with_reducible refine aiA ?_ ?_);rotate_left;exact q9;omega|(with_reducible refine aiB ?_ ?_);rotate_left;exact q9;omega|(with_reducible refine aiC ?_ ?_);rotate_left;exact q9;omega|(with_reducible refine aiw ?_ ?_);rotate_left;exact q9;omega|(with_reducible refine aix ?_ ?_);rotate_left;exact q9;omega|(with_reducible refine Ww ?_ ?_);rotate_left;exact q9;omega|(with_reducible refine Wx ?_ ?_);rotate_left;exact q9;omega|(with_reducible refine aiy ?_ ?_);rotate_left;exact q9;omega|(with_reducible refine aiz ?_ ?_);rotate_left;exact q9;omega|fail):q→p:=h
theorem aI {p q:Prop} (k:q) (h:q→p:=by exact q0b):p:=h k
theorem bL {p q:Prop} (k:q) (h:q→p:=by first|exact q0d|exact q0b|fail):p:=h k
end Go.dL
namespace Go.Proofs.YtpdkoaklobnegaaGreat
open Go.Proofs.Tryz renaming prog → pg
open Go.dL
set_option maxRecDepth 100000
section
variable (R : Ending → World → Prop) (w0 : World) (X0 : XS)
end
end Go.Proofs.YtpdkoaklobnegaaGreat
