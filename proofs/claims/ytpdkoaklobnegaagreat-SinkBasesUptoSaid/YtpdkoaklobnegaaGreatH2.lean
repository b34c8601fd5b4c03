/-
 Part 2 of the proof: what the last text leans on.
-/
import Derived.Laws.Slices
import Derived.Laws.Pointers
import Derived.Recover
import Derived.Laws.MakeOwn
import Derived.Laws.BytesArg
import Derived.Laws.Concat
import Derived.Laws.IdiomStrings
import Derived.Test.YtpdkoaklobnegaaGreatProg
import Derived.KernelRfl
import Derived.Test.YtpdkoaklobnegaaGreatH1
open Go.Value renaming cells → ad, tuple → az, agg → aJ, int → aA, ownBlock → im, func → za
open Array renaming toList → af, length_toList → dy, ext' → te, getD_eq_getD_getElem? → jQ, size_append → qV, toList_append → jH, replicate → ew, getElem?_setIfInBounds → eB, getElem?_append → jY, getElem?_replicate → jv
open Go.Instr renaming extract → aE, box → de, makeFunc → cE, sliceAt → dR, lookup → ek, alloc → g7, makeMap → kR, mapUpdate → gJ, entry → mB, makeSlice → yz, buildSlice → ig
open List renaming all → aT, toArray → bb, length → aB, length_append → ae, getElem?_map → dQ, append_assoc → ax, mem_of_getElem? → bg, find?_cons → dN, filter_cons → iY, size_toArray → lO, take_left → nD, getElem?_eq_getElem → bL, findIdx?_cons → jd, mem_cons_of_mem → bm, getElem_map → oB, eq_nil_of_length_eq_zero → fQ, length_map → aS, length_take → bQ, length_drop → b8, flatten_cons → dg, getD → ly, any_cons → kT, getElem_of_mem → pE, flatten_append → fZ, drop_zero → kl, getElem?_cons_zero → gw, nil_append → cV, getElem?_take → jT, getElem?_drop → fu, length_nil → cA, getElem?_eq_none → jX, getElem?_zip_eq_some → qs, all_eq_true → mA, getElem_mem → xx
open Go.Op renaming unary → aY
open Go.UnOp renaming not → bF
open Option.some renaming injEq → aC
open Go.Sem renaming run_bind → bO, run_pure → ck
open Go.Result renaming andThen_ok → bw
open Nat renaming le_refl → bp, le_trans → ah, zero_add → fH, lt_of_lt_of_le → aU, add_mul → nM, mul_le_mul_right → dM, one_mul → xy, zero_le → aV
open Go.Fn renaming func → gD
open Go.IntKind renaming u8 → cN, u64 → bc
open Go.Builtin renaming append_ → ey, lenOf → oc, zeroCells → lP, min_ → lG, delete_ → jW, firstCells → vB, nextslicecap → tI
open Bool renaming false_eq_true → bA, and_eq_true → aG, not_eq_true' → bW
open Option renaming map_some → bN, bind_some → dv, map_none → yA, isNone_iff_eq_none → ib
open Go.Region renaming wanted → cf
open Prod.mk renaming injEq → dB
open Go.Addr renaming add_lit → nh
open Go.Oper renaming wp → jA, upon_defer → sU, upon_value → yB
open Go.Deferred renaming ofValue → iW
open Go.World renaming freeze → rW
open Go.Act renaming eval → lp
open Go.Code renaming region → xz
open Go.Obj.cells renaming injEq → yC
set_option linter.unusedSectionVars false
set_option linter.unusedVariables false
set_option linter.unusedSimpArgs false
namespace Go.fR
variable {P : Program} {R : Ending → World → Prop} {X Y A A' : XS} {w w' : World} {m : Bool} {κ : Type} [DecidableEq κ] {α : Type}
def Fq (P:Program) (S f:Nat):Option Bool:=match P.underlying S with
 |some (.struct fs)=>match fs[f]? with
  |some x=>match P.underlying x.type with
   |some (.struct _)|some (.array _ _)=>some true
   |some _=>some false
   |none=>none
  |none=>none
 |_=>none
def tJ (rd:World→XS→Value→α→Prop):Prop:= ∀(X Y:XS) (w w':World) (v:Value) (x:α),rd w X v x→Mv X w Y w'→rd w' Y v x
def nv (w:World) (A:XS) (rd:World→XS→Value→α→Prop):List (ke κ)→List (κ×α)→Prop
 |[],[]=>True
 |e::es,x::l=>e.1=x.1∧rd w A e.2.1 x.2∧nv w A rd es l
 |_,_=>False
theorem nv.mv {rd:World→XS→Value→α→Prop} (hm:tJ rd) (v:Mv A w A' w'): ∀{es:List (ke κ)} {l:List (κ×α)},nv w A rd es l→nv w' A' rd es l
 |[],[],_=>trivial
 |_::_,_::_,⟨h1,h2,h3⟩=>⟨h1,hm _ _ _ _ _ _ h2 v,nv.mv hm v h3⟩
 |[],_::_,h=>h.elim
 |_::_,[],h=>h.elim
theorem nv.keys {rd:World→XS→Value→α→Prop} : ∀{es:List (ke κ)} {l:List (κ×α)},nv w A rd es l→es.map (·.1)=l.map (·.1)
 |[],[],_=>rfl
 |_::_,_::_,⟨h1,_,h3⟩=>by simp [h1,nv.keys h3]
 |[],_::_,h=>h.elim
 |_::_,[],h=>h.elim
theorem nv.append {rd:World→XS→Value→α→Prop} : ∀{es Ay:List (ke κ)} {l l':List (κ×α)},nv w A rd es l→nv w A rd Ay l'→nv w A rd (es++Ay) (l++l')
 |[],_,[],_,_,h'=>h'
 |_::_,_,_::_,_,⟨h1,h2,h3⟩,h'=>⟨h1,h2,nv.append h3 h'⟩
 |[],_,_::_,_,h,_=>h.elim
 |_::_,_,[],_,h,_=>h.elim
def getM (k:κ) (l:List (κ×α)):Option α:=(l.find? fun x=>decide (x.1=k)).map (·.2)
def fW (k:κ) (a:α):List (κ×α)→List (κ×α)
 |[]=>[(k,a)]
 |x::l=>if x.1=k then(k,a)::l else x::fW k a l
def ni (k:κ) (l:List (κ×α)):List (κ×α):=l.filter fun x=>decide (x.1≠k)
theorem nv.get {rd:World→XS→Value→α→Prop} (k:κ): ∀{es:List (ke κ)} {l:List (κ×α)},nv w A rd es l→
  (Ds k es=none∧getM k l=none)∨ ∃v a,Ds k es=some v∧getM k l=some a∧rd w A v a
 |[],[],_=>.inl ⟨rfl,rfl⟩
 |e::es,x::l,⟨h1,h2,h3⟩=>by
  by_cases hk:x.1=k
  ·exact .inr ⟨e.2.1,x.2,by simp [Ds,h1,hk],by simp [getM,hk],h2⟩
  ·rcases nv.get k h3 with⟨q1,q2⟩|⟨v,a,q1,q2,q3⟩
   ·left;constructor
    ·simp only [Ds,dN,h1,hk,decide_false,bA,if_false];exact q1
    ·simp only [getM,dN,hk,decide_false,bA,if_false];exact q2
   ·right;refine⟨v,a,?_,?_,q3⟩
    ·simp only [Ds,dN,h1,hk,decide_false,bA,if_false];exact q1
    ·simp only [getM,dN,hk,decide_false,bA,if_false];exact q2
 |[],_::_,h=>h.elim
 |_::_,[],h=>h.elim
def Bc (k:κ) (v:Value) (c:Nat):List (ke κ)→List (ke κ)
 |[]=>[(k,v,c)]
 |e::es=>if e.1=k then(e.1,v,e.2.2)::es else e::Bc k v c es
theorem ad6 (k:κ) (v:Value) (c:Nat) (es:List (ke κ)):(BI k v c es).1=Bc k v c es:=by
 induction es with
 |nil=>simp [BI,Bc]
 |cons e es ih=>
  unfold BI at ih⊢
  by_cases hk:e.1=k
  ·simp [jd,hk,Bc]
  ·simp only [jd,hk,decide_false,bA,if_false,Bc]
   cases hf:es.findIdx? fun x=>decide (x.1=k)with
   |none=>rw [hf] at ih;simp only [yA,List.cons_append] at ih⊢;rw [ih]
   |some j=>rw [hf] at ih;simp only [bN,List.modify_succ_cons] at ih⊢;rw [ih]
theorem nv.put {rd:World→XS→Value→α→Prop} {k:κ} {v:Value} {a:α} {c:Nat} (hv:rd w A v a): ∀{es:List (ke κ)} {l:List (κ×α)},nv w A rd es l→nv w A rd (Bc k v c es) (fW k a l)
 |[],[],_=>⟨rfl,hv,trivial⟩
 |e::es,x::l,⟨h1,h2,h3⟩=>by
  unfold Bc fW
  by_cases hk:x.1=k
  ·rw [if_pos (h1.trans hk),if_pos hk];exact⟨h1.trans hk,hv,h3⟩
  ·rw [if_neg (by rw [h1];exact hk),if_neg hk];exact⟨h1,h2,nv.put hv h3⟩
 |[],_::_,h=>h.elim
 |_::_,[],h=>h.elim
def Sq (k:κ) (es:List (ke κ)):List (ke κ):=es.filter fun x=>decide (x.1≠k)
theorem Xj (k:κ): ∀(es:List (ke κ)),(es.map (·.1)).Nodup→Mh k es=Sq k es
 |[],_=>rfl
 |e::es,h=>by
  have h':(es.map (·.1)).Nodup:=(List.nodup_cons.1 h).2
  have ih:=Xj k es h'
  unfold Mh at ih⊢
  by_cases hk:e.1=k
  ·have:es.filter (fun x=>decide (x.1≠k))=es:=List.filter_eq_self.2 fun x hx=>by
    have:x.1≠k:=fun hxk=>(List.nodup_cons.1 h).1 (by simp only [List.mem_map];exact⟨x,hx,by rw [hxk,hk]⟩)
    simpa using this
   simp only [Sq] at this⊢
   simp only [jd,hk,decide_true,if_true,List.eraseIdx_cons_zero,ne_eq,not_true_eq_false,decide_false,iY,bA,if_false]
   exact this.symm
  ·simp only [jd,hk,decide_false,bA,if_false]
   cases hf:es.findIdx? fun x=>decide (x.1=k)with
   |none=>rw [hf] at ih;simp only [yA];simp only at ih;rw [ih];simp [Sq,hk,←ih]
   |some j=>rw [hf] at ih;simp only [bN,List.eraseIdx_cons_succ] at ih⊢;rw [ih];simp [Sq,hk]
theorem nv.filter {rd:World→XS→Value→α→Prop} (p:κ→Bool): ∀{es:List (ke κ)} {l:List (κ×α)},nv w A rd es l→nv w A rd (es.filter fun x=>p x.1) (l.filter fun x=>p x.1)
 |[],[],_=>trivial
 |e::es,x::l,⟨h1,h2,h3⟩=>by
  have ih:=nv.filter p h3
  by_cases hp:p x.1=true
  ·simp only [iY,h1,hp,if_true];exact⟨h1,h2,ih⟩
  ·simp only [iY,h1,hp,if_false];exact ih
 |[],_::_,h=>h.elim
 |_::_,[],h=>h.elim
theorem nv.mem {rd:World→XS→Value→α→Prop} : ∀{es:List (ke κ)} {l:List (κ×α)},nv w A rd es l→ ∀e∈es,∃a,(e.1,a)∈l∧rd w A e.2.1 a
 |[],[],_,_,h=>by cases h
 |e0::es,x::l,⟨h1,h2,h3⟩,e,he=>by
  rcases List.mem_cons.1 he with rfl|he
  ·exact⟨x.2,by rw [h1];simp,h2⟩
  ·obtain⟨a,ha,hr⟩:=nv.mem h3 e he
   exact⟨a,bm _ ha,hr⟩
 |[],_::_,h,_,_=>h.elim
 |_::_,[],h,_,_=>h.elim
def jm (w:World) (X A:XS) (b:Nat) (kv:κ→Value) (rd:World→XS→Value→α→Prop) (l:List (κ×α)):Prop:=
 ∃es c,mY w X b kv es c∧nv w A rd es l
theorem jm.mv {b:Nat} {kv:κ→Value} {rd:World→XS→Value→α→Prop} {l:List (κ×α)} (h:jm w X A b kv rd l) (hm:tJ rd) (v:Mv X w Y w') (va:Mv A w A' w'):jm w' Y A' b kv rd l:=
 let⟨es,c,h1,h2⟩:=h
 ⟨es,c,h1.mv v,h2.mv hm va⟩
theorem jm.nodup {b:Nat} {kv:κ→Value} {rd:World→XS→Value→α→Prop} {l:List (κ×α)} (h:jm w X A b kv rd l):(l.map (·.1)).Nodup:=by
 obtain⟨es,c,h1,h2⟩:=h;rw [←h2.keys];exact h1.2.2.1
theorem jm.x {b:Nat} {kv:κ→Value} {rd:World→XS→Value→α→Prop} {l:List (κ×α)} (h:jm w X A b kv rd l):X b∧b<w.heap.size:=
 let⟨_,_,h1,_⟩:=h
 ⟨h1.1,(Array.getElem?_eq_some_iff.1 h1.2.1).1⟩
theorem jm.own {b:Nat} {kv:κ→Value} {rd:World→XS→Value→α→Prop} {l:List (κ×α)} (h:jm w X A b kv rd l):jm w (fun k=>k=b) A b kv rd l:=
 let⟨es,c,h1,h2⟩:=h
 ⟨es,c,⟨rfl,h1.2⟩,h2⟩
theorem bJ.own {b:Nat} {cs:List Value} {ty:TypeId} (h:bJ w X b cs ty):bJ w (fun k=>k=b) b cs ty:=⟨rfl,h.2⟩
theorem bJ.lt {b:Nat} {cs:List Value} {ty:TypeId} (h:bJ w X b cs ty):b<w.heap.size:=(Array.getElem?_eq_some_iff.1 h.2).1
theorem Mv.one {b:Nat} (hk:Kp X w w') (hb:X b) (hy:Y b):Mv (fun k=>k=b) w Y w':=fun k ai _=>by subst ai;exact⟨hy,hk.block _ hb⟩
theorem zL {t:TypeId} {kv:κ→Value} (rd:World→XS→Value→α→Prop) (A:XS) {N:Value→World→XS→Prop} (hX: ∀k,X k→k<w.heap.size)
  (n: ∀b w' X',w.heap.size≤b→aj X w X' w'→jm w' X' A b kv rd []→N (.map (some b)) w' X'):eV P R X w m (kR t none) N:=
 Yq hX fun b w' X' hb hs hm=>n b w' X' hb hs ⟨[],0,hm,trivial⟩
theorem Tk {t kt et b:Nat} {kv:κ→Value} {rd:World→XS→Value→α→Prop} {l:List (κ×α)} {k:κ} {N:Value→Prop} (z:Value) (h:jm w X A b kv rd l) (K:xq P kt kv)
  (ht:P.underlying t=some (.map kt et)) (hz:(P.info? et).bind (·.zero)=some z)
  (n1: ∀v a,getM k l=some a→rd w A v a→N (.tuple #[v,.bool true])) (n0:getM k l=none→N (.tuple #[z,.bool false])):
  aa P X w (ek t (.map (some b)) (kv k) true) N:=by
 obtain⟨es,c,h1,h2⟩:=h
 refine Yp z h1 K ht hz ?_
 rcases h2.get k with⟨q1,q2⟩|⟨v,a,q1,q2,q3⟩
 ·rw [q1];exact n0 q2
 ·rw [q1];exact n1 v a q2 q3
theorem Iu {t kt et b:Nat} {kv:κ→Value} {rd:World→XS→Value→α→Prop} {l:List (κ×α)} {k:κ} {N:Value→Prop} (z:Value) (h:jm w X A b kv rd l) (K:xq P kt kv)
  (ht:P.underlying t=some (.map kt et)) (hz:(P.info? et).bind (·.zero)=some z)
  (n1: ∀v a,getM k l=some a→rd w A v a→N v) (n0:getM k l=none→N z):
  aa P X w (ek t (.map (some b)) (kv k) false) N:=by
 have key: ∀u q,(∀wa,Kp X w wa→(ek t (.map (some b)) (kv k) true).run P wa= .ok (.tuple #[u,.bool q]) wa)→ ∀wa,Kp X w wa→(ek t (.map (some b)) (kv k) false).run P wa= .ok u wa:=by
  intro u q hq wa hk
  have h1:=hq wa hk
  obtain⟨es,c,hm,_⟩:=h
  have hb:=(hm.kp hk).2.1
  simp only [ek,bO,run_underlying ht,bw,getObj,Sem.run,hb,K.bz,List.toList_toArray,K.find] at h1⊢
  cases hf:rT k es 0 with
  |none=>
   cases hi:P.info? et with
   |none=>simp [hi] at hz
   |some inf=>
    have zE:inf.zero=some z:=by simpa [hi] using hz
    simp [zeroValue,typeInfo,hi,zE,K.find,hf] at h1⊢
    exact h1.1
  |some r=>
   simp [K.find,hf] at h1⊢
   exact h1.1
 have:=Tk (N:=fun v=> ∃u q,v= .tuple #[u,.bool q]∧N u) z h K ht hz (fun v a h1 h2=>⟨v,_,rfl,n1 v a h1 h2⟩) (fun h0=>⟨z,_,rfl,n0 h0⟩)
 obtain⟨v,hv,u,q,rfl,hn⟩:=this
 refine D7 u (key u q fun wa hk=>?_) hn
 have:=hv wa hk
 simp only [vS,bO] at this
 cases hr:(ek t (.map (some b)) (kv k) true).run P wa with
 |ok a w2=>rw [hr] at this;simp only [bw,ck,Result.ok.injEq,Next.value.injEq] at this;rw [this.1,this.2]
 |halt a w2=>rw [hr] at this;simp [Result.andThen] at this
theorem Fs {t kt et b:Nat} {kv:κ→Value} {rd:World→XS→Value→α→Prop} {l:List (κ×α)} {k:κ} {v:Value} {a:α} {N:Value→World→XS→Prop} (h:jm w X A b kv rd l) (hm:tJ rd)
  (hv:rd w A v a) (hA: ∀k,A k→X k∧k≠b) (K:xq P kt kv) (ht:P.underlying t=some (.map kt et)) (hX: ∀k,X k→k<w.heap.size)
  (n: ∀w' X',fO (· =b) X w X' w'→jm w' X' A b kv rd (fW k a l)→N undef w' X'):
  eU P R X w true (gJ t (.map (some b)) (kv k) v) N:=by
 obtain⟨es,c,h1,h2⟩:=h
 refine aeX h1 K ht hX fun w' X' hg hi=>?_
 have hc:fO (· =b) X w X' w':=hg.ej.mono fun k _ hk=>by simpa using hk
 refine n w' X' hc ⟨_,_,hi,?_⟩
 rw [ad6]
 have mv:Mv A w A w':=fun k hk _=>⟨hk,hc.block k (hA k hk).1 (hA k hk).2⟩
 exact(h2.put hv).mv hm mv
theorem Tl {t kt et tk ty b:Nat} {kv:κ→Value} {rd:World→XS→Value→α→Prop} {l:List (κ×α)} {k:κ} {N:Value→World→XS→Prop} (h:jm w X A b kv rd l) (hm:tJ rd)
  (hA: ∀k,A k→X k∧k≠b) (K:xq P kt kv) (ht:P.underlying t=some (.map kt et)) (hX: ∀k,X k→k<w.heap.size)
  (n: ∀w' X',fO (· =b) X w X' w'→jm w' X' A b kv rd (ni k l)→N (.tuple #[]) w' X'):
  eV P R X w true (jW #[t,tk] ty #[.map (some b),kv k]) N:=by
 obtain⟨es,c,h1,h2⟩:=h
 refine aai h1 K ht hX fun w' X' hg hi=>?_
 have hc:fO (· =b) X w X' w':=hg.ej.mono fun k _ hk=>by simpa using hk
 refine n w' X' hc ⟨_,_,hi,?_⟩
 rw [Xj _ _ h1.2.2.1]
 have mv:Mv A w A w':=fun k hk _=>⟨hk,hc.block k (hA k hk).1 (hA k hk).2⟩
 exact(h2.filter (fun x=>decide (x≠k))).mv hm mv
def Iv (w:World) (X A:XS) (r b:Nat) (kv:κ→Value) (rd:World→XS→Value→α→Prop) (l left:List (κ×α)):Prop:=
 ∃es c Lq,xt w X r b kv es c Lq∧nv w A rd es l∧nv w A rd Lq left∧Lq.Sublist es
theorem Iv.mv {r b:Nat} {kv:κ→Value} {rd:World→XS→Value→α→Prop} {l left:List (κ×α)} (h:Iv w X A r b kv rd l left) (hm:tJ rd) (v:Mv X w Y w') (va:Mv A w A' w'):Iv w' Y A' r b kv rd l left:=by
 obtain⟨es,c,Lq,h1,h2,h3,h4⟩:=h
 refine⟨es,c,Lq,⟨h1.1.mv v,?_,h1.2.2.1,?_⟩,h2.mv hm va,h3.mv hm va,h4⟩
 ·obtain⟨s,hs,_⟩:=h1.2.2.2
  exact(v r h1.2.1 (Array.getElem?_eq_some_iff.1 hs).1).1
 ·obtain⟨s,hs,hl⟩:=h1.2.2.2
  exact⟨s,by rw [(v r h1.2.1 (Array.getElem?_eq_some_iff.1 hs).1).2];exact hs,hl⟩
theorem Iv.map {r b:Nat} {kv:κ→Value} {rd:World→XS→Value→α→Prop} {l left:List (κ×α)} (h:Iv w X A r b kv rd l left):jm w X A b kv rd l:=
 let⟨es,c,_,h1,h2,_⟩:=h
 ⟨es,c,h1.1,h2⟩
theorem Iv.nodup {r b:Nat} {kv:κ→Value} {rd:World→XS→Value→α→Prop} {l left:List (κ×α)} (h:Iv w X A r b kv rd l left):(left.map (·.1)).Nodup:=by
 obtain⟨es,c,Lq,h1,h2,h3,h4⟩:=h
 rw [←h3.keys]
 exact h1.1.2.2.1.sublist (h4.map _)
theorem aan {l:List (κ×α)} (c:κ×α→Bool):(l.map (·.1)).Nodup→ ∀{k:κ} {a:α},(k,a)∈l→l.any c=(c (k,a)||(l.filter fun y=>decide (y.1≠k)).any c):=by
 induction l with
 |nil=>intro _ k a h;cases h
 |cons x l ih=>
  intro hn k a h
  have kN:=List.nodup_cons.1 hn
  rcases List.mem_cons.1 h with h|h
  ·subst h
   have:l.filter (fun y=>decide (y.1≠k))=l:=List.filter_eq_self.2 fun y hy=>by
    have:y.1≠k:=fun e=>kN.1 (List.mem_map.2 ⟨y,hy,e⟩)
    simpa using this
   simp only [kT,iY,ne_eq,not_true_eq_false,decide_false,bA,if_false]
   simp only [ne_eq] at this
   rw [this]
  ·have hx:x.1≠k:=fun e=>kN.1 (List.mem_map.2 ⟨(k,a),h,e.symm⟩)
   have:=ih kN.2 h
   simp only [kT,iY,hx,ne_eq,not_false_eq_true,decide_true,if_true]
   simp only [ne_eq] at this
   rw [this,←Bool.or_assoc,←Bool.or_assoc,Bool.or_comm (c x)]
theorem ad7 {l:List (κ×α)} {k:κ} {a:α} (h:(k,a)∈l):(l.filter fun y=>decide (y.1≠k)).length<l.length:=by
 refine Nat.lt_of_le_of_ne (List.length_filter_le _ _) fun e=>?_
 have:=List.length_filter_eq_length_iff.1 e (k,a) h
 simp at this
theorem aj.fC {X0:XS} {w0:World} (h:aj X0 w0 X w) (hA: ∀k,A k→X0 k):Mv A w0 A w:=fun k hk _=>⟨hk,h.kp.block k (hA k hk)⟩
theorem ad8 {t kt et b:Nat} {kv:κ→Value} {rd:World→XS→Value→α→Prop} {l:List (κ×α)} {N:Value→World→XS→Prop} (h:jm w X A b kv rd l) (hm:tJ rd) (hA: ∀k,A k→X k)
  (ht:P.underlying t=some (.map kt et)) (hX: ∀k,X k→k<w.heap.size)
  (n: ∀r w' X',w.heap.size≤r→aj X w X' w'→Iv w' X' A r b kv rd l l→N (ptr r 0) w' X'):eV P R X w m (Instr.range t (.map (some b))) N:=by
 obtain⟨es,c,h1,h2⟩:=h
 refine abR h1 ht hX fun r w' X' hr hs hi=>n r w' X' hr hs ?_
 have mv:Mv A w A w':=fun k hk _=>⟨hk,hs.kp.block k (hA k hk)⟩
 exact⟨es,c,es,hi,h2.mv hm mv,h2.mv hm mv,List.Sublist.refl _⟩
theorem afg {ty r b:Nat} {kv:κ→Value} {rd:World→XS→Value→α→Prop} {l left:List (κ×α)} {N:Value→World→XS→Prop} (h:Iv w X A r b kv rd l left) (hm:tJ rd)
  (hA: ∀k,A k→X k∧k≠r) (hX: ∀k,X k→k<w.heap.size)
  (n0:left=[]→ ∀w' X',aj X w X' w'→N (.tuple #[.bool false]) w' X')
  (n1: ∀k a v,(k,a)∈left→ ∀w' X',fO (· =r) X w X' w'→rd w' A v a→Iv w' X' A r b kv rd l (left.filter fun y=>decide (y.1≠k))→
   (∀wa,Kp X' w' wa→(mB (ptr r 0)).run P wa= .ok (.tuple #[kv k,v]) wa)→N (.tuple #[.bool true,kv k,v]) w' X'):
  eV P R X w true (Instr.next (ptr r 0) false ty) N:=by
 obtain⟨es,c,Lq,h1,h2,h3,h4⟩:=h
 refine adZ h1 hX (fun h0 w' X' hs=>n0 ?_ w' X' hs) fun x hx w' X' hg hi he=>?_
 ·subst h0;cases left with
  |nil=>rfl
  |cons y t=>exact h3.elim
 ·have hc:fO (· =r) X w X' w':=hg.ej.mono fun k _ hk=>by simpa using hk
  have mv:Mv A w A w':=fun k hk _=>⟨hk,hc.block k (hA k hk).1 (hA k hk).2⟩
  obtain⟨a,ha,hra⟩:=h3.mem x hx
  refine n1 x.1 a x.2.1 ha w' X' hc (hm _ _ _ _ _ _ hra mv) ?_ he
  have hk: ∀y∈Lq,decide (y.2.2≠x.2.2)=decide (y.1≠x.1):=by
   intro y hy
   have hye:=h4.subset hy
   have hxe:=h4.subset hx
   have n1:=h1.1.2.2.1
   have n2:=h1.1.2.2.2.1
   obtain⟨i,hi9,rfl⟩:=pE hye
   obtain⟨j,hj,rfl⟩:=pE hxe
   have inj: ∀{β:Type} (f:ke κ→β),(es.map f).Nodup→(f es[i]=f es[j]↔i=j):=by
    intro β f n
    constructor
    ·intro e
     have hp:=List.pairwise_iff_getElem.1 n
     rcases Nat.lt_trichotomy i j with h|h|h
     ·exact absurd (by rw [oB,oB];exact e) (hp i j (by simpa using hi9) (by simpa using hj) h)
     ·exact h
     ·exact absurd (by rw [oB,oB];exact e.symm) (hp j i (by simpa using hj) (by simpa using hi9) h)
    ·rintro rfl;rfl
   have e1:=inj (·.1) n1
   have e2:=inj (·.2.2) n2
   simp only [ne_eq,e1,e2]
  have hf:(Lq.filter fun y=>decide (y.2.2≠x.2.2))=Lq.filter fun y=>decide (y.1≠x.1):=List.filter_congr hk
  refine⟨es,c,_,hi,h2.mv hm mv,?_,?_⟩
  ·rw [hf];exact(h3.filter (fun k=>decide (k≠x.1))).mv hm mv
  ·exact(List.filter_sublist).trans h4
theorem ad9 {r:Nat} {k v:Value} {N:Value→World→XS→Prop} (hX: ∀k,X k→k<w.heap.size)
  (h: ∀wa,Kp X w wa→(mB (ptr r 0)).run P wa= .ok (.tuple #[k,v]) wa) (n: ∀w' X',aj X w X' w'→N (.tuple #[k,v]) w' X'):
  eV P R X w m (mB (ptr r 0)) N:=abS hX h n
def Yu (w:World) (A:XS) (rd:World→XS→Value→α→Prop) (k:κ):List (ke κ)→List (κ×α)→Prop
 |[],[]=>True
 |e::es,x::l=>e.1=x.1∧(x.1≠k→rd w A e.2.1 x.2)∧Yu w A rd k es l
 |_,_=>False
theorem Yu.put {rd:World→XS→Value→α→Prop} {k:κ} {v:Value} {a:α} {c:Nat} (hv:rd w A v a): ∀{es:List (ke κ)} {l:List (κ×α)},(es.map (·.1)).Nodup→Yu w A rd k es l→nv w A rd (Bc k v c es) (fW k a l)
 |[],[],_,_=>⟨rfl,hv,trivial⟩
 |e::es,x::l,hn,⟨h1,h2,h3⟩=>by
  have kN:=List.nodup_cons.1 hn
  unfold Bc fW
  by_cases hk:x.1=k
  ·rw [if_pos (h1.trans hk),if_pos hk]
   refine⟨h1.trans hk,hv,?_⟩
   have dr: ∀y∈es,y.1≠k:=fun y hy e'=>kN.1 (List.mem_map.2 ⟨y,hy,e'.trans (hk.symm.trans h1.symm)⟩)
   clear hn kN h1 h2
   induction es generalizing l with
   |nil=>cases l<;>first|trivial|exact h3.elim
   |cons e2 es ih=>
    cases l with
    |nil=>exact h3.elim
    |cons y l=>exact⟨h3.1,h3.2.1 (h3.1▸dr e2 (by simp)),ih l h3.2.2 fun z hz=>dr z (by simp [hz])⟩
  ·rw [if_neg (by rw [h1];exact hk),if_neg hk];exact⟨h1,h2 hk,Yu.put hv kN.2 h3⟩
 |[],_::_,_,h=>h.elim
 |_::_,[],_,h=>h.elim
theorem ic {l:List (κ×α)} {k:κ} {a:α} (h:getM k l=some a):(k,a)∈l:=by
 unfold getM at h
 obtain⟨x,hx,rfl⟩:=Option.map_eq_some_iff.1 h
 have h1:=List.mem_of_find?_eq_some hx
 have h2:x.1=k:=by simpa using List.find?_some hx
 subst h2;exact h1
theorem qg {l:List (κ×α)} (hn:(l.map (·.1)).Nodup) {k:κ} {a:α} (h:(k,a)∈l):getM k l=some a:=by
 induction l with
 |nil=>cases h
 |cons x l ih=>
  have kN:=List.nodup_cons.1 hn
  rcases List.mem_cons.1 h with h|h
  ·subst h;simp [getM]
  ·have hx:x.1≠k:=fun e=>kN.1 (List.mem_map.2 ⟨(k,a),h,e.symm⟩)
   have:=ih kN.2 h
   simp only [getM,dN,hx,decide_false,bA,if_false]
   exact this
theorem tK {l:List (κ×α)} {k:κ} {a:α} : ∀{x:κ×α},(l.map (·.1)).Nodup→x∈fW k a l→x=(k,a)∨(x∈l∧x.1≠k):=by
 induction l with
 |nil=>intro x _ h;left;simpa [fW] using h
 |cons y l ih=>
  intro x hn h
  have kN:=List.nodup_cons.1 hn
  unfold fW at h
  split at h
  ·rename_i hy
   rcases List.mem_cons.1 h with h|h
   ·exact .inl h
   ·exact .inr ⟨by simp [h],fun e=>kN.1 (List.mem_map.2 ⟨x,h,e.trans hy.symm⟩)⟩
  ·rename_i hy
   rcases List.mem_cons.1 h with h|h
   ·exact .inr ⟨by simp [h],by rw [h];exact hy⟩
   ·rcases ih kN.2 h with h|⟨h,h2⟩
    ·exact .inl h
    ·exact .inr ⟨by simp [h],h2⟩
theorem lQ {t:TypeId} {l:List Value} {N:Value→World→XS→Prop} (hX: ∀k,X k→k<w.heap.size)
  (n: ∀b w' X',w.heap.size≤b→aj X w X' w'→bJ w' X' b l t→N (ptr b 0) w' X'):eV P R X w m (de t (.agg l.toArray)) N:=
 Xg hX fun b w' X' hb hs hx hr=>n b w' X' hb hs ⟨hx,by simpa [ad] using hr⟩
theorem sI {t:TypeId} {v:Value} {N:Value→World→XS→Prop} (ho:one v=true) (hX: ∀k,X k→k<w.heap.size)
  (n: ∀b w' X',w.heap.size≤b→aj X w X' w'→bJ w' X' b [v] t→N (ptr b 0) w' X'):eV P R X w m (de t v) N:=
 Xg hX fun b w' X' hb hs hx hr=>n b w' X' hb hs ⟨hx,by
  have:v.cells.toList=[v]:=by cases v<;>first|rfl|cases ho
  rw [this] at hr;exact hr⟩
theorem aj.eP {w:World} {X:XS} (h: ∀k,X k→k<w.heap.size):aj X w X w:=⟨Kp.refl _ _,fun _ h=>h,h⟩
theorem afh {S f fo:Nat} {l:List Value} {v:Value} {N:Value→Prop} (hf:fieldInfo P S f=some (fo,1)) (hg:Fq P S f=some false) (hl:l[fo]? =some v) (k:N v):aa P X w (Xh S f fo 1 (.agg l.toArray)) N:=by
 unfold fieldInfo at hf
 unfold Fq at hg
 cases hu:P.underlying S with
 |none=>simp [hu] at hf
 |some d=>
  cases d<;>simp only [hu] at hf<;>try (cases hf;done)
  rename_i fs
  cases hx:fs[f]? with
  |none=>simp [hx] at hf
  |some x=>
   simp only [hx,dv,hu] at hf hg
   cases hi:P.info? x.type with
   |none=>simp [hi] at hf
   |some i=>
    simp only [hi,bN,aC,dB] at hf
    cases hd:P.underlying x.type with
    |none=>simp [hd] at hg
    |some d2=>
     refine b9 (v:=v) (fun wa=>?_) k
     have wo:(isAgg x.type).run P wa= .ok false wa:=by
      cases d2<;>simp_all [isAgg,run_underlying hd]
     simp [Xh,Instr.field,run_underlying hu,hx,asAgg,part,wo,hf.1,hl]
theorem afi {S f fo sz:Nat} {l l':List Value} {N:Value→Prop} (hf:fieldInfo P S f=some (fo,sz)) (hg:Fq P S f=some true) (hlen:decide (fo+sz≤l.length)=true) (hl:(l.drop fo).take sz=l')
  (k:N (.agg l'.toArray)):aa P X w (Xh S f fo sz (.agg l.toArray)) N:=by
 subst hl
 unfold fieldInfo at hf
 unfold Fq at hg
 cases hu:P.underlying S with
 |none=>simp [hu] at hf
 |some d=>
  cases d<;>simp only [hu] at hf<;>try (cases hf;done)
  rename_i fs
  cases hx:fs[f]? with
  |none=>simp [hx] at hf
  |some x=>
   simp only [hx,dv,hu] at hf hg
   cases hi:P.info? x.type with
   |none=>simp [hi] at hf
   |some i=>
    simp only [hi,bN,aC,dB] at hf
    cases hd:P.underlying x.type with
    |none=>simp [hd] at hg
    |some d2=>
     refine b9 (v:=.agg ((l.drop fo).take sz).toArray) (fun wa=>?_) k
     have wo:(isAgg x.type).run P wa= .ok true wa:=by
      cases d2<;>simp_all [isAgg,run_underlying hd]
     have hle:fo+sz≤l.length:=by simpa using hlen
     obtain⟨rfl,rfl⟩:=hf
     simp [Xh,Instr.field,run_underlying hu,hx,asAgg,part,wo,sizeOf,typeInfo,hi,hle]
theorem Kl {f:FuncId} {la lc l:List Value} {N:Value→World→XS→Prop} (hl:la++lc=l) (h:eC P R X w m f l.toArray N):eF P R X w m (.func (.func f) #[] lc.toArray) la.toArray N:=by
 subst hl
 have e: ∀wa,(Fg (.func (.func f) #[] lc.toArray) la.toArray).run P wa=(callFunc f (la++lc).toArray).run P wa:=by
  intro wa
  simp [Fg,iW,invoke]
 intro wa hk
 have:=h wa hk
 rw [e wa];exact this
theorem jx {fn:Fn} {a c:Array Value} {N:Value→Prop} (h:N (.func fn a c)):aa P X w (cE fn a c) N:=b9 (fun wa=>by simp [cE]) h
theorem Ct.kp {f:FuncId} {args:Array Value} {F:XS} {Q:Value→World→World→Prop} (h:Ct P f args w X F Q) {w':World} (hk:Kp X w w'):Ct P f args w' X F Q:=fun wa ai=>h wa (hk.trans ai)
theorem Ct.since {f:FuncId} {args:Array Value} {F X':XS} {Q:Value→World→World→Prop} (h:Ct P f args w X F Q) {w':World} (hs:aj X w X' w'):Ct P f args w' X' F Q:=fun wa ai=>h wa (hs.kp.trans (ai.less hs.sub))
theorem Ct.aW {f:FuncId} {args:Array Value} {F:XS} {Q:Value→World→World→Prop} (h:Ct P f args w X F Q) (hX: ∀k,X k→k<w.heap.size):Ct P f args w (fR.aW w) F Q:=
 fun wa ai=>h wa (ai.less fun k hk=>hX k hk)
def idxOf (p:α→Bool):List α→Int
 |[]=> -1
 |x::l=>if p x then 0 else let i:=idxOf p l;if i<0 then i else i+1
theorem Iw (p:α→Bool): ∀l:List α,decide (idxOf p l≥0)=l.any p
 |[]=>rfl
 |x::l=>by
  have ih:=Iw p l
  unfold idxOf
  by_cases hp:p x
  ·simp [hp]
  ·simp only [hp,bA,if_false,kT,Bool.false_or,←ih]
   by_cases hi:idxOf p l<0
   ·simp [hi]
   ·simp only [hi,if_false];congr 1;simp;omega
theorem Tm {p:α→Bool} {l:List α} {i:Nat} (h: ∀k x,k<i→l[k]? =some x→p x=false) {x:α} (hx:l[i]? =some x) (hp:p x=true):idxOf p l=i:=by
 induction l generalizing i with
 |nil=>simp at hx
 |cons y l ih=>
  cases i with
  |zero=>simp only [gw,aC] at hx;subst hx;simp [idxOf,hp]
  |succ i=>
   have hy:=h 0 y (by omega) rfl
   have:=ih (i:=i) (fun k z hk hz=>h (k+1) z (by omega) (by simpa using hz)) (by simpa using hx)
   simp only [idxOf,hy,bA,if_false,this]
   rw [if_neg (by omega)];omega
theorem NB {p:α→Bool} {l:List α} (h: ∀k x,k<l.length→l[k]? =some x→p x=false):idxOf p l= -1:=by
 induction l with
 |nil=>rfl
 |cons y l ih=>
  have hy:=h 0 y (by simp) rfl
  have:=ih fun k z hk hz=>h (k+1) z (by simpa using hk) (by simpa using hz)
  simp [idxOf,hy,this]
theorem aj.less {X0 Y0:XS} {w0:World} (h:aj X0 w0 X w) (hs: ∀k,Y0 k→X0 k):aj Y0 w0 X w:=⟨h.kp.less hs,fun k hk=>h.sub k (hs k hk),h.has⟩
theorem Own.row {e k lo:Nat} {v:Value} {rows:List (List Value)} (h:Own w X lo e k v rows):(v= .slice none 0 0∧rows=[])∨
  ∃g cap cs,v= .slice (some ⟨g,0,none⟩) rows.length cap∧lo≤g∧bJ w X g cs e∧rows.length≤cap∧cap≤maxLen∧cs.length=cap*k∧cs.take (rows.length*k)=rows.flatten:=by
 obtain⟨h1,h2,h3⟩:=h
 rcases h2.2 with⟨rfl,hn⟩|⟨g,cap,cur,rfl,hb,hg,tE,m6,kj,ht⟩
 ·exact .inl ⟨rfl,fQ hn⟩
 ·exact .inr ⟨g,cap,cur.toList,rfl,hb,⟨h3 g rfl,by simpa using hg⟩,tE,m6,by simpa using kj,ht⟩
theorem adx {t:TypeId} {k g n cap:Nat} {z:Int} {i:Nat} {N:Value→Prop} (hz:z=i) (hi:i<n) (ht:P.underlying t=some (.slice (P.elem t))) (hs:(P.info? (P.elem t)).map (·.size)=some k) (h:N (ptr g (i*k))):
  aa P X w (dx t k (.slice (some ⟨g,0,none⟩) n cap) (.int .i64 z)) N:=by
 subst hz
 refine b9 (v:=ptr g (i*k)) (fun wa=>?_) h
 show(Instr.indexAt t _ _).run P wa=_
 rw [run_indexAt_slice (h:=ht),if_pos (by omega)]
 cases hq:P.info? (P.elem t)with
 |none=>simp [hq] at hs
 |some inf=>
  have:inf.size=k:=by simpa [hq] using hs
  simp [sizeOf,typeInfo,hq,this,wm]
theorem Bd {t sz b o:Nat} {cs:List Value} {ty:TypeId} {v:Value} {N:Value→World→XS→Prop} (h:bJ w X b cs ty) (ht:(P.info? t).map (·.size)=some sz)
  (hl:o+sz≤cs.length) (hv:v.cells.size=sz) (h1:v.cells.toList.all one=true) (hX: ∀k,X k→k<w.heap.size)
  (n: ∀w' X',fO (fun k=>k=b) X w X' w'→bJ w' X' b (cd cs o v.cells.toList) ty→N undef w' X'):eU P R X w true (eo t sz (ptr b o) v) N:=
 abP h ht hl hv h1 hX fun w' X' hg hr=>n w' X' (hg.ej.mono fun k _ hk=>by simpa using hk) hr
variable {P : Program}
def Yv (P:Program) (t e k:Nat):Bool:=match P.underlying t,P.info? e with
 |some (.slice e'),some i=>e'==e&&i.size==k&&(match i.zero with|some z=>z.cells.size==k|none=>false)&&decide (0<k)&&decide (k≤2^20)
 |_,_=>false
theorem aao {t e k:Nat} (h:Yv P t e k=true):P.underlying t=some (.slice e)∧0<k∧k≤2^20∧ ∃z:Value,(P.info? e).bind (fun i=>i.zero.map fun z=>(i.size,z))=some (k,z):=by
 unfold Yv at h
 split at h
 ·rename_i e' i hu hi
  simp only [aG,beq_iff_eq,decide_eq_true_eq] at h
  obtain⟨⟨⟨⟨rfl,h2⟩,h4⟩,h5⟩,h6⟩:=h
  cases hz:i.zero with
  |none=>simp [hz] at h4
  |some z=>exact⟨hu,h5,h6,z,by simp [hi,hz,h2]⟩
 ·cases h
section
variable {w : World} {X : XS} {R : Ending → World → Prop} {t e k : Nat} {m : Bool} {N : Value → World → XS → Prop}
theorem Km {l:List Value} (hX: ∀k,X k→k<w.heap.size) (he:Yv P t e k=true) (hk:(l.length==k)=true)
  (n: ∀v w' X',aj X w X' w'→Own w' X' w.heap.size e k v [l]→N v w' X'):eV P R X w m (jc t e k 1 #[(0,.agg l.toArray)]) N:=by
 obtain⟨hu,h0,h1,z,hz⟩:=aao he
 have ai:l.length=k:=by simpa using hk
 refine BH (rows:=[l]) l.toArray z hX hu hz (by omega) (by omega) ?_ (by simpa using ai) rfl (by simp) n
 simp only [xy]
 exact Fp (x:=.agg l.toArray) (by simpa [ad] using ai) (by simp)
end
def Kn (P:Program) (t:TypeId):Bool:=match P.underlying t with
 |some (.pointer _)=>true
 |_=>false
theorem CH {t:TypeId} (h:Kn P t=true):P.underlying t=some (.pointer (P.pointee t)):=by
 unfold Kn at h
 split at h
 ·rename_i e he;simp [Program.pointee,he]
 ·cases h
section
variable {w : World} {X : XS} {N : Value → Prop} {t : TypeId} {xo yo : Operand}
theorem lR {a:Addr} (ht:Kn P t=true) (k:N (.bool false)):aa P X w (aI .eql t xo yo (.pointer (some a)) (.pointer none)) N:=S9 (p:=some a) (CH ht) k
theorem El (ht:Kn P t=true) (k:N (.bool true)):aa P X w (aI .eql t xo yo (.pointer none) (.pointer none)) N:=S9 (p:=none) (CH ht) k
theorem od {a:Addr} (ht:Kn P t=true) (k:N (.bool true)):aa P X w (aI .neq t xo yo (.pointer (some a)) (.pointer none)) N:=by
 refine b9 (fun wa=>?_) k
 have:=run_neq_pointer_nil (P:=P) (w:=wa) t (some a) (CH ht)
 simp [aI,eqGuard,this]
theorem Em (ht:Kn P t=true) (k:N (.bool false)):aa P X w (aI .neq t xo yo (.pointer none) (.pointer none)) N:=by
 refine b9 (fun wa=>?_) k
 have:=run_neq_pointer_nil (P:=P) (w:=wa) t none (CH ht)
 simp [aI,eqGuard,this]
end
variable {P : Program} {R : Ending → World → Prop} {X : XS} {w : World} {m : Bool}
section
variable {t ty e k bytes lo : Nat} {v x s : Value} {rows eD : List (List Value)} {row : List Value} {N : Value → World → XS → Prop}
theorem aea (own:Own w X lo e k v rows) (hX: ∀k,X k→k<w.heap.size) (fT:lo≤w.heap.size) (he:oV P t e k bytes=true) (hx:x.cells.toList=row) (hk:(row.length==k)=true)
  (h1:row.all one=true) (hb:(rows.length+1)*bytes≤140737488355328) (hl:rows.length+1≤2^63-1)
  (n: ∀v' w' X',fO (jw v) X w X' w'→Own w' X' lo e k v' (rows++[row])→(v'.ownBlock=v.ownBlock∨ ∃g,v'.ownBlock=some g∧w.heap.size≤g)→N v' w' X'):
  eV P R X w m (jc t e k 1 #[(0,x)]) fun s w1 X1=>eV P R X1 w1 true (iS t e k bytes ty v s) N:=by
 obtain⟨hu,kX,xu,z,hi,hz,vu⟩:=nx he
 have ai:row.length=k:=by simpa using hk
 have G3:x.cells.size=k:=by rw [←ai,←hx,dy]
 refine BH (rows:=[row]) x.cells z hX hu hz (by omega) (by omega) ?_ (by simpa using ai) rfl (by simpa using hx) fun s w1 X1 au vy=>?_
 ·simp only [xy]
  exact Fp G3 (by simp)
 ·have Pq:lo≤w1.heap.size:=ah fT au.kp.size
  refine zI (eD:=[row]) z hu hi vu kX au.has Pq (own.since au) vy.sl (by simpa using h1) (by simpa using hb) (by simpa using hl) fun v2 w2 X2 hg ho gQ=>?_
  refine n v2 w2 X2 ((fO.tH au (jw v)).trans (hg.ej.mono fun k _ hk=>hk.symm)) ho ?_
  rcases gQ with h|⟨g,h,eI⟩
  ·exact .inl h
  ·exact .inr ⟨g,h,ah au.kp.size eI⟩
theorem Xk (own:Own w X lo e k v rows) (hX: ∀k,X k→k<w.heap.size) (fT:lo≤w.heap.size) (he:oV P t e k bytes=true) (src:Sl w X k s eD) (h1: ∀r∈eD,∀u∈r,one u=true)
  (hb:(rows.length+eD.length)*bytes≤140737488355328) (hl:rows.length+eD.length≤2^63-1)
  (n: ∀v' w' X',fO (jw v) X w X' w'→Own w' X' lo e k v' (rows++eD)→(v'.ownBlock=v.ownBlock∨ ∃g,v'.ownBlock=some g∧w.heap.size≤g)→N v' w' X'):
  eV P R X w true (iS t e k bytes ty v s) N:=by
 obtain⟨hu,kX,xu,z,hi,hz,vu⟩:=nx he
 refine zI (eD:=eD) z hu hi vu kX hX fT own src h1 hb hl fun v2 w2 X2 hg ho gQ=>?_
 exact n v2 w2 X2 (hg.ej.mono fun k _ hk=>hk.symm) ho gQ
end
def uM (s:ByteArray):List Value:=s.data.toList.map fun b=>.int .u8 b.toNat
theorem Ko (s:ByteArray):(uM s).length=s.size:=by unfold uM;rw [aS,dy];rfl
theorem Ix (s:ByteArray):(vB 1 s.size (.string s))=(pure (uM s).toArray:Sem (Array Value)):=by
 have hx:(s.extract 0 s.size)=s:=by
  apply ByteArray.ext
  simp [ByteArray.data_extract]
 show(pure ((s.extract 0 s.size).data.map fun b=>aA .u8 b.toNat):Sem (Array Value))=_
 rw [hx]
 congr 1
 apply te
 simp [uM]
theorem HA (t u ty e:TypeId) (i:TypeInfo) (ht:P.underlying t=some (.slice e)) (hu:P.underlying u=some .string) (hi:P.info? e=some i) (h1:i.size=1)
  (g kH qW:Nat) (cur:Array Value) (hg:w.heap[g]? =some (.cells cur e (0,0))) (s:ByteArray) (uu:kH+s.size≤qW) (xA:kH+s.size≤cur.size):
  (ey #[t,u] ty #[.slice (some ⟨g,0,none⟩) kH qW,.string s]).run P w=
   .ok (.slice (some ⟨g,0,none⟩) (kH+s.size) qW) (w.setRow g (cur.toList.take kH++uM s++cur.toList.drop (kH+s.size)).toArray):=by
 have ix:=run_storeCells_at P g kH e (uM s) 0 cur w hg (by rw [Ko];simpa using xA) (fun v hv=>by
  unfold uM at hv
  obtain⟨b,_,rfl⟩:=List.mem_map.1 hv;rfl)
 simp only [Nat.add_zero,Ko] at ix
 simp [ey,run_underlying ht,run_underlying hu,sizeOf,typeInfo,hi,oc,uu,h1,Ix,nh,ix]
theorem HB (t u ty e:TypeId) (i:TypeInfo) (z:Value) (ht:P.underlying t=some (.slice e)) (hu:P.underlying u=some .string) (hi:P.info? e=some i) (hz:i.zero=some z) (h1:i.size=1)
  (b:Addr) (kH qW:Nat) (Yw:List Value) (fT:Yw.length=kH) (holds: ∀j v,Yw[j]? =some v→w.cell? (b.add j)=some v) (s:ByteArray)
  (hg:qW<kH+s.size) (h63:((kH+s.size:Nat):Int)≤9223372036854775807) (xA:tI (kH+s.size) qW*i.bytes≤281474976710656):
  (ey #[t,u] ty #[.slice (some b) kH qW,.string s]).run P w=
   .ok (.slice (some ⟨w.heap.size,0,none⟩) (kH+s.size) (grownCap w (kH+s.size) qW e))
    (w.drew.alloc (.cells (Yw.toArray++(uM s).toArray++lP z.cells (grownCap w (kH+s.size) qW e-(kH+s.size))) e)):=by
 have hn: ¬(kH+s.size≤qW):=by omega
 have ahK: ¬(9223372036854775807<((kH:Int)+(s.size:Int))):=by omega
 have ahL: ¬(281474976710656<tI (kH+s.size) qW*i.bytes):=by omega
 have hfo:=run_firstCells_some (P:=P) w.drew 1 kH b kH qW Yw (by omega) (by simpa using holds)
 simp [ey,run_underlying ht,run_underlying hu,sizeOf,typeInfo,zeroValue,hi,hz,oc,hn,ahK,ahL,Question.forced,Ix,h1,hfo,newRow,grownCap]
 congr 2
 apply te
 simp [ax]
theorem Iy (base:Nat) (t u ty e:TypeId) (i:TypeInfo) (z:Value) (bytes:Nat) (ht:P.underlying t=some (.slice e)) (hu:P.underlying u=some .string) (hi:P.info? e=some i) (hz:i.zero=some z)
  (h1:i.size=1) (G4:i.bytes=bytes) (vu:z.cells.size=1) (v:Value) (n:Nat) (xs:List Value) (BP:w.ownsRow base e 1 v n xs) (s:ByteArray)
  (h63:n+s.size≤maxLen) (aap:(n+s.size)*bytes≤140737488355328) (agZ:base≤w.heap.size):
  ∃v' w',(ey #[t,u] ty #[v,.string s]).run P w= .ok v' w'∧w'.ownsRow base e 1 v' (n+s.size) (xs++uM s)∧w.grownBy w' v.ownBlock∧(v'.ownBlock=v.ownBlock∨v'.ownBlock=some w.heap.size):=by
 subst G4
 have Nu:n+s.size≤9223372036854775807:=by simp only [maxLen] at h63;omega
 have hl:=Ko s
 have Tn:xs.length=n:=by simpa using BP.1
 have hlen:(xs++uM s).length=(n+s.size)*1:=by rw [ae,Tn,hl];omega
 have grown: ∀(aW:Nat),aW<n+s.size→ ∀(row:Option Nat),
   (w.drew.alloc (.cells (xs.toArray++(uM s).toArray++lP z.cells (grownCap w (n+s.size) aW e-(n+s.size))) e)).ownsRow base e 1
    (.slice (some ⟨w.heap.size,0,none⟩) (n+s.size) (grownCap w (n+s.size) aW e)) (n+s.size) (xs++uM s)∧
   w.grownBy (w.drew.alloc (.cells (xs.toArray++(uM s).toArray++lP z.cells (grownCap w (n+s.size) aW e-(n+s.size))) e)) row:=by
  intro aW ho row
  have eI:=grownCap_ge w (n+s.size) aW e
  have m6:grownCap w (n+s.size) aW e≤maxLen:=grownCap_le_maxLen w (n+s.size) aW e h63
  refine⟨⟨hlen,.inr ⟨w.heap.size,_,_,rfl,agZ,heap_alloc_new w.drew _,eI,m6,?_,?_⟩⟩,⟨rfl,rfl,rfl,by simp,fun k hk _=>by first|exact heap_alloc_old w.drew _ k hk|exact heap_alloc_old w.drew _ hk⟩⟩
  ·simp only [qV,lO,size_zeroCells,vu,Tn,hl]
   omega
  ·simp only [jH,ax]
   rw [←ax,←hlen]
   exact nD
 rcases BP.2 with⟨rfl,rfl⟩|⟨g,cap,cur,rfl,hbg,hg,tE,m6,kj,Kq⟩
 ·have hx:xs=[]:=fQ Tn
  subst hx
  by_cases hm:s.size=0
  ·have hn:uM s=[]:=fQ (by rw [hl,hm])
   refine⟨.slice none 0 0,w,?_,by rw [hm,hn];exact World.ownsRow_nil w base e 1,⟨rfl,rfl,rfl,bp _,fun _ _ _=>rfl⟩,Or.inl rfl⟩
   have hf:=Ix s
   rw [hm,hn] at hf
   simp [ey,run_underlying ht,run_underlying hu,sizeOf,typeInfo,hi,oc,hm,h1,hf]
  ·have hr:=run_append_nil_string (P:=P) w t u ty e i z ht hu hi hz s (by omega) (by omega) (by have hb:=aap;simp only [fH] at hb;omega)
   have Xl:=grown 0 (by omega) (im (.slice none 0 0))
   have he:(s.data.map fun b:UInt8=>aA .u8 b.toNat)=(uM s).toArray:=by
    apply te;simp [uM]
   rw [he] at hr
   simp only [fH,cV,Array.empty_append] at Xl⊢
   exact⟨_,_,hr,Xl.1,Xl.2,Or.inr rfl⟩
 ·rw [Nat.mul_one] at kj Kq
  by_cases uu:n+s.size≤cap
  ·have xA:n+s.size≤cur.size:=by rw [kj];exact uu
   have hr:=HA (P:=P) (w:=w) t u ty e i ht hu hi h1 g n cap cur hg s uu xA
   refine⟨_,_,hr,⟨hlen,.inr ⟨g,cap,_,rfl,hbg,setRow_heap w g cur _ e _ hg,uu,m6,?_,?_⟩⟩,⟨rfl,rfl,rfl,by simp,fun k _ hk=>setRow_other w g k _ (fun e=>hk (by simp [im,e]))⟩,Or.inl rfl⟩
   ·simp only [lO,ae,bQ,b8,dy,hl]
    omega
   ·rw [Kq,←hlen]
    exact nD
  ·have holds: ∀j u,xs[j]? =some u→w.cell? ((⟨g,0,none⟩:Addr).add j)=some u:=BP.cells (g:=g) rfl
   have hr:=HB (P:=P) (w:=w) t u ty e i z ht hu hi hz h1 ⟨g,0,none⟩ n cap xs Tn holds s (by omega) (by omega) (growslice_fits (by omega) aap)
   have Xl:=grown cap (by omega) (im (.slice (some ⟨g,0,none⟩) n cap))
   exact⟨_,_,hr,Xl.1,Xl.2,Or.inr rfl⟩
theorem afj {t u ty e bytes lo:Nat} {v:Value} {s:ByteArray} {rows:List (List Value)} {N:Value→World→XS→Prop} (own:Own w X lo e 1 v rows) (hX: ∀k,X k→k<w.heap.size) (fT:lo≤w.heap.size)
  (he:oV P t e 1 bytes=true) (hu:P.underlying u=some .string) (hb:(rows.length+s.size)*bytes≤140737488355328) (hl:rows.length+s.size≤2^63-1)
  (n: ∀v' w' X',fO (jw v) X w X' w'→Own w' X' lo e 1 v' (rows++(uM s).map fun x=>[x])→(v'.ownBlock=v.ownBlock∨ ∃g,v'.ownBlock=some g∧w.heap.size≤g)→N v' w' X'):
  eV P R X w true (ey #[t,u] ty #[v,.string s]) N:=by
 obtain⟨ht,kX,xu,z,hi,hz,vu⟩:=nx he
 intro wa hk
 have own:=own.kp hk
 cases hq:P.info? e with
 |none=>simp [hq] at hi
 |some ie=>
  cases qq:ie.zero with
  |none=>simp [hq,qq] at hi
  |some z'=>
   simp only [hq,qq,dv,bN,aC,dB] at hi
   obtain⟨h1,rfl,rfl⟩:=hi
   unfold kh
   obtain⟨v',w',hr,GX,hg,gQ⟩:=Iy (P:=P) (w:=wa) lo t u ty e ie z' ie.bytes ht hu hq qq h1 rfl vu v rows.length rows.flatten own.2.1 s hl hb (ah fT hk.size)
   simp only [vS,bO,hr,bw,ck]
   have iq:((uM s).map fun x=>[x]).flatten=uM s:=by
    induction uM s with
    |nil=>rfl
    |cons a l ih=>simp [ih]
   refine⟨⟨hg.os,hg.tape,hg.output,hg.size,fun k tG pz=>hg.block k tG fun e=>pz (own.2.2 k e.symm)⟩,n _ _ _ ?_ ⟨?_,?_,?_⟩ ?_⟩
   ·exact⟨hg.os.trans hk.os,hg.tape.trans hk.tape,hg.output.trans hk.output,ah hk.size hg.size,
     fun k hx dr=>(hg.block k (aU (hX k hx) hk.size) fun e=>dr e.symm).trans (hk.block k hx),fun k h=>.inl h,
     fun k h=>h.elim (fun h=>aU (hX k h) (ah hk.size hg.size)) (fun h=>h.2)⟩
   ·intro r hr
    rcases List.mem_append.1 hr with h|h
    ·exact own.1 r h
    ·obtain⟨x,_,rfl⟩:=List.mem_map.1 h;rfl
   ·rw [ae,aS,Ko,fZ,iq];exact GX
   ·intro g Lo
    rcases gQ with h|h
    ·exact .inl (own.2.2 g (h▸Lo))
    ·rw [Lo] at h;cases h
     exact .inr ⟨bp _,(GX.lt _ Lo).2⟩
   ·rcases gQ with h|h
    ·exact .inl h
    ·exact .inr ⟨_,h,hk.size⟩
theorem tL {f:FuncId} {a b:Value} {N:Value→World→XS→Prop} (h:eC P R X w m f #[a,b] N):eF P R X w m (.func (.func f) #[a] #[]) #[b] N:=by
 have e: ∀wa,(Fg (.func (.func f) #[a] #[]) #[b]).run P wa=(callFunc f #[a,b]).run P wa:=by
  intro wa
  simp [Fg,iW,invoke]
 intro wa hk
 have:=h wa hk
 rw [e wa];exact this
end Go.fR
set_option linter.unusedVariables false
set_option linter.unusedSimpArgs false
namespace Go.fR
variable {P : Program} {R : Ending → World → Prop} {X : XS} {w : World} {m : Bool}
def Ow (w:World) (X:XS) (e k:Nat) (v:Value) (rows:List (List Value)):Prop:=
 (∀r∈rows,r.length=k)∧((v= .slice none 0 0∧rows=[])∨ ∃g off cap cur,v= .slice (some ⟨g,off,none⟩) rows.length cap∧X g∧w.heap[g]? =some (.cells cur e (0,0))∧
  rows.length≤cap∧cap≤maxLen∧off+cap*k≤cur.size∧(cur.toList.drop off).take (rows.length*k)=rows.flatten)
theorem Ow.nil (w:World) (X:XS) (e k:Nat):Ow w X e k (.slice none 0 0) []:=⟨by simp,.inl ⟨rfl,rfl⟩⟩
theorem Own.ow {lo e k:Nat} {v:Value} {rows:List (List Value)} (h:Own w X lo e k v rows):Ow w X e k v rows:=by
 obtain⟨h1,h2,h3⟩:=h
 refine⟨h1,?_⟩
 rcases h2.2 with⟨rfl,hn⟩|⟨g,cap,cur,rfl,hb,hg,tE,m6,kj,ht⟩
 ·exact .inl ⟨rfl,fQ hn⟩
 ·exact .inr ⟨g,0,cap,cur,rfl,h3 g rfl,hg,tE,m6,by omega,by rw [kl];exact ht⟩
theorem Ow.sl {e k:Nat} {v:Value} {rows:List (List Value)} (h:Ow w X e k v rows):Sl w X k v rows:=by
 obtain⟨h1,⟨rfl,rfl⟩|⟨g,off,cap,cur,rfl,hx,hg,tE,m6,kj,ht⟩⟩:=h
 ·exact Sl.nil w X k
 ·have hm:cap≤2^63-1:=m6
  refine⟨h1,ah tE hm,_,cap,rfl,fun _=>⟨g,off,rfl,hx,cur,e,(0,0),hg,fun j v hj=>?_⟩,by simp,tE,hm⟩
  rw [←ht,jT,fu] at hj
  split at hj
  ·simpa using hj
  ·cases hj
theorem Ow.one {e k:Nat} {v:Value} {rows:List (List Value)} (h:Ow w X e k v rows):one v=true:=h.sl.one
theorem Ow.mono {e k:Nat} {v:Value} {rows:List (List Value)} {Y:XS} (h:Ow w X e k v rows) (hs: ∀k,X k→Y k):Ow w Y e k v rows:=by
 obtain⟨h1,h|⟨g,off,cap,cur,hv,hx,hr⟩⟩:=h
 ·exact⟨h1,.inl h⟩
 ·exact⟨h1,.inr ⟨g,off,cap,cur,hv,hs _ hx,hr⟩⟩
theorem Ow.mv {e k:Nat} {v:Value} {rows:List (List Value)} {w':World} {Y:XS} (h:Ow w X e k v rows) (m:Mv X w Y w'):Ow w' Y e k v rows:=by
 obtain⟨h1,h|⟨g,off,cap,cur,hv,hx,hg,hr⟩⟩:=h
 ·exact⟨h1,.inl h⟩
 ·obtain⟨m1,m2⟩:=m g hx (Array.getElem?_eq_some_iff.1 hg).1
  exact⟨h1,.inr ⟨g,off,cap,cur,hv,m1,by rw [m2];exact hg,hr⟩⟩
theorem Ow.kp {e k:Nat} {v:Value} {rows:List (List Value)} {w':World} (h:Ow w X e k v rows) (hk:Kp X w w'):Ow w' X e k v rows:=by
 obtain⟨h1,h|⟨g,off,cap,cur,hv,hx,hg,hr⟩⟩:=h
 ·exact⟨h1,.inl h⟩
 ·exact⟨h1,.inr ⟨g,off,cap,cur,hv,hx,by rw [hk.block g hx];exact hg,hr⟩⟩
theorem Ow.ba {e k:Nat} {v:Value} {rows:List (List Value)} (h:Ow w X e k v rows) {g:Nat} (hg:v.ownBlock=some g):X g∧g<w.heap.size:=by
 obtain⟨h1,⟨rfl,_⟩|⟨g',off,cap,cur,rfl,hx,hb,hr⟩⟩:=h
 ·cases hg
 ·simp only [im,aC] at hg;subst hg
  exact⟨hx,(Array.getElem?_eq_some_iff.1 hb).1⟩
theorem Ow.tag {e k:Nat} {v:Value} {rows:List (List Value)} (h:Ow w X e k v rows) {g:Nat} (hg:v.ownBlock=some g): ∃cs:List Value,w.heap[g]? =some (.cells cs.toArray e (0,0)):=by
 obtain⟨h1,⟨rfl,_⟩|⟨g',off,cap,cur,rfl,hx,hb,hr⟩⟩:=h
 ·cases hg
 ·simp only [im,aC] at hg;subst hg
  exact⟨cur.toList,by simpa using hb⟩
theorem Ow.dS {Y:XS} {e e' k g:Nat} {v:Value} {rows:List (List Value)} {cs:List Value} (h:Ow w X e k v rows) (hr:bJ w Y g cs e') (he:decide (e≠e')=true):v.ownBlock≠some g:=fun hg=>by
 obtain⟨c,h1⟩:=h.tag hg
 rw [hr.2] at h1
 simp only [aC,yC] at h1
 exact of_decide_eq_true he h1.2.1.symm
theorem Ow.ej {F X':XS} {w':World} {e k:Nat} {v:Value} {rows:List (List Value)} (h:Ow w X e k v rows) (c:fO F X w X' w') (hd: ∀g,v.ownBlock=some g→ ¬F g):Ow w' X' e k v rows:=by
 obtain⟨h1,h|⟨g,off,cap,cur,rfl,hx,hg,hr⟩⟩:=h
 ·exact⟨h1,.inl h⟩
 ·exact⟨h1,.inr ⟨g,off,cap,cur,rfl,c.sub g hx,by rw [c.block g hx (hd g rfl)];exact hg,hr⟩⟩
theorem Ow.tight {e k:Nat} {v:Value} {rows:List (List Value)} (h:Ow w X e k v rows):Ow w (jw v) e k v rows:=by
 obtain⟨h1,h|⟨g,off,cap,cur,rfl,hx,hr⟩⟩:=h
 ·exact⟨h1,.inl h⟩
 ·exact⟨h1,.inr ⟨g,off,cap,cur,rfl,rfl,hr⟩⟩
theorem BQ (t ty e:TypeId) (i:TypeInfo) (ht:P.underlying t=some (.slice e)) (hi:P.info? e=some i)
  (g off kH qW:Nat) (cur:Array Value) (hg:w.heap[g]? =some (.cells cur e (0,0)))
  (a:Addr) (m c:Nat) (news:List Value) (hl:news.length=m*i.size) (ag0: ∀j u,news[j]? =some u→w.cell? (a.add j)=some u) (h1: ∀u∈news,u.oneCell'=true)
  (uu:kH+m≤qW) (xA:off+kH*i.size+news.length≤cur.size):
  (ey #[t,t] ty #[.slice (some ⟨g,off,none⟩) kH qW,.slice (some a) m c]).run P w=
   .ok (.slice (some ⟨g,off,none⟩) (kH+m) qW) (w.setRow g (cur.toList.take (off+kH*i.size)++news++cur.toList.drop (off+kH*i.size+news.length)).toArray):=by
 have hf:=run_firstCells_some (P:=P) w i.size m a m c news hl ag0
 have ix:=run_storeCells_at P g (off+kH*i.size) e news 0 cur w hg (by simpa using xA) h1
 simp only [Nat.add_zero] at ix
 simp [ey,run_underlying ht,sizeOf,typeInfo,hi,oc,uu,hf,nh,ix]
theorem BR (t ty e:TypeId) (i:TypeInfo) (ht:P.underlying t=some (.slice e)) (hi:P.info? e=some i)
  (b:Addr) (kH qW:Nat) (uu:kH≤qW):
  (ey #[t,t] ty #[.slice (some b) kH qW,.slice none 0 0]).run P w= .ok (.slice (some b) kH qW) w:=by
 simp [ey,run_underlying ht,sizeOf,typeInfo,hi,oc,uu,vB,storeCells]
theorem NC {t ty e k bytes:Nat} {v s:Value} {rows eD:List (List Value)} {N:Value→World→XS→Prop}
  (he:oV P t e k bytes=true)
  (hX: ∀k,X k→k<w.heap.size) (own:Ow w X e k v rows) (src:Sl w X k s eD) (h1: ∀r∈eD,∀u∈r,one u=true)
  (hb:(rows.length+eD.length)*bytes≤140737488355328) (hl:rows.length+eD.length≤2^63-1)
  (n: ∀v' w' X',fO (jw v) X w X' w'→Ow w' X' e k v' (rows++eD)→(v'.ownBlock=v.ownBlock∨ ∃g,v'.ownBlock=some g∧w.heap.size≤g)→N v' w' X'):
  eV P R X w true (iS t e k bytes ty v s) N:=by
 obtain⟨hu,kX,xu,z,hi,ND,vu⟩:=nx he
 obtain⟨vC,⟨rfl,rfl⟩|⟨g,off,cap,cur,rfl,hx,hg,tE,m6,kj,uN⟩⟩:=own
 ·exact zI (rows:=[]) (eD:=eD) z hu hi vu kX hX (aV _) (Own.nil w X 0 e k) src h1 hb hl fun v2 w2 X2 hg ho gQ=>
   n v2 w2 X2 (hg.ej.mono fun k _ hk=>hk.symm) ho.ow gQ
 ·intro wa hk
  have vt:wa.heap[g]? =some (.cells cur e (0,0)):=by rw [hk.block g hx];exact hg
  have src:=src.kp hk
  cases hq:P.info? e with
  |none=>simp [hq] at hi
  |some ie=>
   cases qq:ie.zero with
   |none=>simp [hq,qq] at hi
   |some z'=>
    simp only [hq,qq,dv,bN,aC,dB] at hi
    obtain⟨rfl,rfl,rfl⟩:=hi
    unfold iS kh
    rcases src.src with⟨rfl,rfl⟩|⟨a,c,rfl,CC⟩
    ·have hr:=BR (P:=P) (w:=wa) t ty e ie hu hq ⟨g,off,none⟩ rows.length cap tE
     simp only [vS,bO,hr,bw,ck]
     have Lr:=Ext.refl wa
     have hs:=aj.fE hX hk Lr
     refine⟨Step.fE Lr,n _ _ _ (fO.tH hs _) ?_ (.inl rfl)⟩
     rw [List.append_nil]
     exact⟨vC,.inr ⟨g,off,cap,cur,rfl,.inl hx,vt,tE,m6,kj,uN⟩⟩
    ·have td:eD.flatten.length=eD.length*ie.size:=tF src.1
     have Sr:rows.flatten.length=rows.length*ie.size:=tF vC
     have Mj: ∀u∈eD.flatten,u.oneCell'=true:=fun u hu=>by
      obtain⟨r,hr,hur⟩:=List.mem_flatten.1 hu
      rw [←Nk];exact h1 r hr u hur
     have Fl: ∀r∈rows++eD,r.length=ie.size:=fun r hr=>by
      rcases List.mem_append.1 hr with h|h
      ·exact vC r h
      ·exact src.1 r h
     have ady:rows.length+eD.length≤maxLen:=hl
     by_cases uu:rows.length+eD.length≤cap
     ·have hmul:(rows.length+eD.length)*ie.size≤cap*ie.size:=dM _ uu
      rw [nM] at hmul
      have hr:=BQ (P:=P) (w:=wa) t ty e ie hu hq g off rows.length cap cur vt a eD.length c eD.flatten td CC Mj uu (by omega)
      simp only [vS,bO,hr,bw,ck]
      have afk: ∀k,k≠g→(wa.setRow g (cur.toList.take (off+rows.length*ie.size)++eD.flatten++cur.toList.drop (off+rows.length*ie.size+eD.flatten.length)).toArray).heap[k]? =wa.heap[k]? :=fun k hk=>setRow_other wa g k _ hk
      refine⟨⟨rfl,rfl,rfl,by simp,fun k tG pz=>afk k fun e=>pz (e▸hx)⟩,n _ _ _ ?_ ⟨Fl,.inr ⟨g,off,cap,_,by rw [ae],.inl hx,setRow_heap wa g cur _ e _ vt,by rw [ae];exact uu,m6,?_,?_⟩⟩ (.inl rfl)⟩
      ·exact⟨hk.os,hk.tape,hk.output,by simpa using hk.size,fun k Lr dr=>(afk k fun e=>dr (by rw [e];rfl)).trans (hk.block k Lr),fun k h=>.inl h,
        fun k h=>h.elim (fun h=>by have:=hX k h;have:=hk.size;simp;omega) (fun h=>h.2)⟩
      ·simp only [lO,ae,bQ,b8,dy]
       omega
      ·have eu:off≤cur.toList.length:=by rw [dy (xs:=cur)];omega
       have e1:(cur.toList.take (off+rows.length*ie.size)).drop off=rows.flatten:=by
        rw [List.drop_take,show off+rows.length*ie.size-off=rows.length*ie.size by omega,uN]
       have En:(cur.toList.take (off+rows.length*ie.size)).length=off+rows.length*ie.size:=by rw [bQ,dy (xs:=cur)];omega
       rw [ax,List.drop_append_of_le_length (by omega),e1,ae,nM,fZ,←ax,←Sr,←td,←ae]
       exact nD
     ·have holds: ∀j u,rows.flatten[j]? =some u→wa.cell? ((⟨g,off,none⟩:Addr).add j)=some u:=fun j u hj=>by
       rw [←uN,jT,fu] at hj
       split at hj
       ·rw [nh]
        simp only [World.cell?,vt]
        simpa using hj
       ·cases hj
      have hr:=run_append_grow (P:=P) wa t ty e ie z' hu hq qq ⟨g,off,none⟩ rows.length cap rows.flatten Sr holds a eD.length c eD.flatten td CC (by omega) (by simp only [maxLen] at ady;omega) (growslice_fits (by omega) hb)
      simp only [vS,bO,hr,bw,ck]
      have eI:=grownCap_ge wa (rows.length+eD.length) cap e
      have m6:grownCap wa (rows.length+eD.length) cap e≤maxLen:=grownCap_le_maxLen wa _ cap e ady
      have Fu: ∀k,k<wa.heap.size→(wa.drew.alloc (.cells (rows.flatten.toArray++eD.flatten.toArray++lP z'.cells (grownCap wa (rows.length+eD.length) cap e-(rows.length+eD.length))) e)).heap[k]? =wa.heap[k]? :=fun k hk=>heap_alloc_old wa.drew _ hk
      refine⟨⟨rfl,rfl,rfl,by simp,fun k tG _=>Fu k tG⟩,n _ _ _ ?_ ⟨Fl,.inr ⟨wa.heap.size,0,_,_,by rw [ae],.inr ⟨bp _,by simp⟩,heap_alloc_new wa.drew _,by rw [ae];exact eI,m6,?_,?_⟩⟩ (.inr ⟨_,rfl,hk.size⟩)⟩
      ·exact⟨hk.os,hk.tape,hk.output,by have:=hk.size;simp;omega,fun k Lr _=>(Fu k (aU (hX k Lr) hk.size)).trans (hk.block k Lr),fun k h=>.inl h,
        fun k h=>h.elim (fun h=>by have:=hX k h;have:=hk.size;simp;omega) (fun h=>h.2)⟩
      ·simp only [qV,lO,size_zeroCells,vu,Sr,td,←nM]
       rw [fH]
       apply dM
       omega
      ·simp only [jH,kl,ax,fZ]
       rw [←ax,ae,nM,←Sr,←td,←ae]
       exact nD
section
variable {t ty e k bytes : Nat} {v x s : Value} {rows eD : List (List Value)} {row : List Value} {N : Value → World → XS → Prop}
theorem NF (own:Ow w X e k v rows) (hX: ∀k,X k→k<w.heap.size) (he:oV P t e k bytes=true) (hx:x.cells.toList=row) (hk:(row.length==k)=true)
  (h1:row.all one=true) (hb:(rows.length+1)*bytes≤140737488355328) (hl:rows.length+1≤2^63-1)
  (n: ∀v' w' X',fO (jw v) X w X' w'→Ow w' X' e k v' (rows++[row])→(v'.ownBlock=v.ownBlock∨ ∃g,v'.ownBlock=some g∧w.heap.size≤g)→N v' w' X'):
  eV P R X w m (jc t e k 1 #[(0,x)]) fun s w1 X1=>eV P R X1 w1 true (iS t e k bytes ty v s) N:=by
 obtain⟨hu,kX,xu,z,hi,ND,vu⟩:=nx he
 have ai:row.length=k:=by simpa using hk
 have G3:x.cells.size=k:=by rw [←ai,←hx,dy]
 refine BH (rows:=[row]) x.cells z hX hu ND (by omega) (by omega) ?_ (by simpa using ai) rfl (by simpa using hx) fun s w1 X1 au vy=>?_
 ·simp only [xy]
  exact Fp G3 (by simp)
 ·refine NC (eD:=[row]) he au.has (own.mv au.mv) vy.sl (by simpa using h1) (by simpa using hb) (by simpa using hl) fun v2 w2 X2 hg ho gQ=>?_
  refine n v2 w2 X2 ((fO.tH au (jw v)).trans hg) ho ?_
  rcases gQ with h|⟨g,h,eI⟩
  ·exact .inl h
  ·exact .inr ⟨g,h,ah au.kp.size eI⟩
end
theorem zM {k:Nat} : ∀{rows:List (List Value)} (i:Nat),(∀r∈rows,r.length=k)→(rows.drop i).flatten=rows.flatten.drop (i*k)
 |_,0,_=>by simp
 |[],i+1,_=>by simp
 |r::rows,i+1,h=>by
  have hr:=h r (by simp)
  rw [List.drop_succ_cons,zM i fun x hx=>h x (bm _ hx),dg,Nat.succ_mul,Nat.add_comm,←List.drop_drop,List.drop_left' hr]
theorem jU {k:Nat} : ∀{rows:List (List Value)} (i:Nat),(∀r∈rows,r.length=k)→(rows.take i).flatten=rows.flatten.take (i*k)
 |_,0,_=>by simp
 |[],i+1,_=>by simp
 |r::rows,i+1,h=>by
  have hr:=h r (by simp)
  have e1:r.take (k+i*k)=r:=List.take_of_length_le (by omega)
  rw [List.take_succ_cons,dg,jU i fun x hx=>h x (bm _ hx),dg,Nat.succ_mul,Nat.add_comm,List.take_append,hr,e1,show k+i*k-k=i*k by omega]
theorem aeb {t e k:Nat} {v:Value} {z:Int} {i:Nat} {rows:List (List Value)} {N:Value→Prop} (h:Ow w X e k v rows) (hz:z=i) (hi:i<rows.length) (ht:P.underlying t=some (.slice (P.elem t)))
  (hs:(P.info? (P.elem t)).map (·.size)=some k)
  (n: ∀v',Ow w X e k v' (rows.drop i)→v'.ownBlock=v.ownBlock→N v'):aa P X w (dR t v (some (.int .i64 z)) none none) N:=by
 subst hz
 obtain⟨h1,⟨rfl,rfl⟩|⟨g,off,cap,cur,rfl,hx,hg,tE,m6,kj,uN⟩⟩:=h
 ·simp at hi
 ·have hq: ∃inf,P.info? (P.elem t)=some inf∧inf.size=k:=by
   cases hq:P.info? (P.elem t)with
   |none=>simp [hq] at hs
   |some inf=>exact⟨inf,rfl,by simpa [hq] using hs⟩
  obtain⟨inf,hq,eu⟩:=hq
  have oy: ∀wa:World,(dR t (.slice (some ⟨g,off,none⟩) rows.length cap) (some (.int .i64 (i:Int))) none none).run P wa= .ok (.slice (some ⟨g,off+i*k,none⟩) (rows.drop i).length (cap-i)) wa:=fun wa=>by
   rw [run_sliceAt_slice wa t _ _ _ _ ht,run_slice_l wa t _ _ cap ht .i64 i (by omega) (by omega)]
   have dr: ¬cap=i:=by omega
   simp [sizeOf,typeInfo,hq,eu,sliced,nh,dr]
  refine b9 oy (n _ ⟨fun r hr=>h1 r (List.mem_of_mem_drop hr),.inr ⟨g,off+i*k,cap-i,cur,rfl,hx,hg,by rw [b8];omega,by omega,?_,?_⟩⟩ rfl)
  ·have:i*k+(cap-i)*k=cap*k:=by rw [←nM];congr 1;omega
   omega
  ·rw [zM i h1,←uN,List.drop_take,List.drop_drop,b8,Nat.sub_mul]
theorem To {t e k:Nat} {v:Value} {z z':Int} {i:Nat} {rows:List (List Value)} {N:Value→Prop} (h:Ow w X e k v rows) (hz:z=i) (zE:z'=i) (hi:i≤rows.length) (ht:P.underlying t=some (.slice (P.elem t)))
  (hs:(P.info? (P.elem t)).map (·.size)=some k)
  (n: ∀v',Ow w X e k v' (rows.take i)→v'.ownBlock=v.ownBlock→N v'):aa P X w (dR t v none (some (.int .i64 z)) (some (.int .i64 z'))) N:=by
 subst hz;subst zE
 have hq: ∃inf,P.info? (P.elem t)=some inf∧inf.size=k:=by
  cases hq:P.info? (P.elem t)with
  |none=>simp [hq] at hs
  |some inf=>exact⟨inf,rfl,by simpa [hq] using hs⟩
 obtain⟨inf,hq,eu⟩:=hq
 obtain⟨h1,⟨rfl,rfl⟩|⟨g,off,cap,cur,rfl,hx,hg,tE,m6,kj,uN⟩⟩:=h
 ·simp only [cA,Nat.le_zero] at hi;subst hi
  have oy: ∀wa:World,(dR t (.slice none 0 0) none (some (.int .i64 ((0:Nat):Int))) (some (.int .i64 ((0:Nat):Int)))).run P wa= .ok (.slice none 0 0) wa:=fun wa=>by
   rw [run_sliceAt_slice wa t _ _ _ _ ht,show((0:Nat):Int)=0 from rfl,run_slice_hm wa t none 0 0 ht .i64 .i64 0 0 (by omega) (by omega) (by omega)]
   simp [sizeOf,typeInfo,hq,sliced]
  exact b9 oy (n _ (Ow.nil w X e k) rfl)
 ·have hlen:(rows.take i).length=i:=by rw [bQ];omega
  have oy: ∀wa:World,(dR t (.slice (some ⟨g,off,none⟩) rows.length cap) none (some (.int .i64 (i:Int))) (some (.int .i64 (i:Int)))).run P wa= .ok (.slice (some ⟨g,off,none⟩) (rows.take i).length i) wa:=fun wa=>by
   rw [run_sliceAt_slice wa t _ _ _ _ ht,run_slice_hm wa t _ _ cap ht .i64 .i64 i i (by omega) (by omega) (by omega),hlen]
   simp [sizeOf,typeInfo,hq,eu,sliced,nh]
  refine b9 oy (n _ ⟨fun r hr=>h1 r (List.mem_of_mem_take hr),.inr ⟨g,off,i,cur,rfl,hx,hg,by omega,by omega,?_,?_⟩⟩ rfl)
  ·have:=dM k (ah hi tE)
   omega
  ·rw [jU i h1,←uN,List.take_take,hlen,Nat.min_eq_left (dM k hi)]
theorem jm.dS {κ α:Type} [DecidableEq κ] {A F:XS} {kv:κ→Value} {rd:World→XS→Value→α→Prop} {l:List (κ×α)} {b g:Nat} {cs:List Value} {e:TypeId} (h:jm w X A b kv rd l) (hr:bJ w F g cs e):b≠g:=by
 rintro rfl
 obtain⟨es,c,h1,_⟩:=h
 have:=h1.2.1
 rw [hr.2] at this;cases this
theorem bJ.dS {F:XS} {b g:Nat} {cs nJ:List Value} {e e':TypeId} (h:bJ w X b cs e) (hr:bJ w F g nJ e') (he:decide (e≠e')=true):b≠g:=by
 rintro rfl
 have:=h.2
 rw [hr.2] at this
 simp only [aC,yC] at this
 exact of_decide_eq_true he this.2.1.symm
theorem jm.Pr {κ α:Type} [DecidableEq κ] {A F:XS} {kv:κ→Value} {rd:World→XS→Value→α→Prop} {l:List (κ×α)} {b e k:Nat} {v:Value} {rows:List (List Value)} (h:jm w X A b kv rd l) (hr:Ow w F e k v rows):v.ownBlock≠some b:=fun hg=>by
 obtain⟨cs,h2⟩:=hr.tag hg
 obtain⟨es,c,h1,_⟩:=h
 have:=h1.2.1
 rw [h2] at this;cases this
section
variable {t : TypeId}
theorem Eo {l:List Value} {N:Value→World→XS→Prop} (hX: ∀k,X k→k<w.heap.size) (hz:(P.info? t).bind (·.zero)=some (.agg l.toArray))
  (n: ∀b w' X',w.heap.size≤b→aj X w X' w'→bJ w' X' b l t→N (ptr b 0) w' X'):eV P R X w m (g7 t true (.tuple #[])) N:=by
 intro wa hk
 unfold kh
 have hzv: ∀w,(zeroValue t).run P w= .ok (.agg l.toArray) w:=by
  intro w
  cases hi:P.info? t with
  |none=>simp [hi] at hz
  |some inf=>
   have zE:inf.zero=some (.agg l.toArray):=by simpa [hi] using hz
   simp [zeroValue,typeInfo,hi,zE]
 have hr:(g7 t true (.tuple #[])).run P wa= .ok (ptr wa.heap.size 0) (wa.alloc (.cells l.toArray t)):=by simp [g7,hzv,newVar,newRow,ad]
 simp only [vS,bO,hr,bw,ck]
 have hx:Ext wa (wa.alloc (.cells l.toArray t)):=Ext.alloc _ _
 exact⟨Step.fE hx,n _ _ _ hk.size (aj.fE hX hk hx) ⟨.inr ⟨bp _,by simp⟩,by simpa using heap_alloc_new wa _⟩⟩
theorem aaq {e k bytes c:Nat} {z:Int} {N:Value→World→XS→Prop} (hX: ∀k,X k→k<w.heap.size) (he:oV P t e k bytes=true) (hz:z=c) (hc:c≤2^32) (hb:bytes≤1024) (hk:k≤1024)
  (n: ∀v w' X',aj X w X' w'→Own w' X' w.heap.size e k v []→N v w' X'):eV P R X w m (yz t (I 0) (I z)) N:=by
 subst hz
 obtain⟨hu,kX,xu,z,hi,ND,vu⟩:=nx he
 intro wa ai
 unfold kh
 cases hq:P.info? e with
 |none=>simp [hq] at hi
 |some ie=>
  cases qq:ie.zero with
  |none=>simp [hq,qq] at hi
  |some z'=>
   simp only [hq,qq,dv,bN,aC,dB] at hi
   obtain⟨h1,h2,h3⟩:=hi
   have SO:ie.bytes*c≤281474976710656:=by
    have:=Nat.mul_le_mul (show ie.bytes≤1024 by omega) hc
    omega
   obtain⟨w',hr,GX,hg⟩:=run_make_own (P:=P) wa w.heap.size t e ie z' k hu hq qq h1 .i64 .i64 c SO (by simp only [maxLen];omega) ai.size
   have Aw:(yz t (I 0) (I (c:Int))).run P wa= .ok (.slice (some ⟨wa.heap.size,0,none⟩) 0 c) w':=hr
   simp only [vS,bO,Aw,bw,ck]
   have hx:Ext wa w':=⟨hg.os,hg.tape,hg.output,hg.size,fun k hk _=>hg.block k hk (by simp)⟩
   refine⟨Step.fE hx,n _ _ _ (aj.fE hX ai hx) ⟨by simp,GX,fun g Lo=>?_⟩⟩
   simp only [im,aC] at Lo
   subst Lo
   exact .inr ⟨bp _,(GX.lt _ rfl).2⟩
end
structure Ft (w0:World) (F0:XS) (w:World) (X F:XS):Prop where
 s:aj (out F0 w0) w0 X w
 ba: ∀k,F k→X k
 v: ∀k,F k→F0 k∨w0.heap.size≤k
section
variable {w0 w' : World} {F0 F F' G X' A : XS} {Q : Value → World → World → Prop} {N : Value → World → XS → Prop} {f : FuncId} {args : Array Value}
theorem Ft.init (h: ∀k,F0 k→k<w.heap.size):Ft w F0 w (aW w) F0:=⟨aj.out _ _,h,fun _ h=>.inl h⟩
theorem Ft.since (h:Ft w0 F0 w X F) (hs:aj X w X' w'):Ft w0 F0 w' X' F:=⟨h.s.trans hs,fun k hk=>hs.sub k (h.ba k hk),h.v⟩
theorem Ft.no (h:Ft w0 F0 w X F) {k:Nat} (hk:F k) (h0:out F0 w0 k):False:=by
 rcases h.v k hk with h1|h1
 ·exact h0.2 h1
 ·have:=h0.1;omega
theorem Ft.ej (h:Ft w0 F0 w X F) (c:fO G X w X' w') (hG: ∀k,G k→F k) (hF: ∀k,F' k→F k∨(X' k∧w.heap.size≤k)):Ft w0 F0 w' X' F':=by
 refine⟨h.s.ej c fun k h0 hk=>h.no (hG k hk) h0,fun k hk=>?_,fun k hk=>?_⟩
 ·rcases hF k hk with h1|h1
  ·exact c.sub k (h.ba k h1)
  ·exact h1.1
 ·rcases hF k hk with h1|h1
  ·exact h.v k h1
  ·right;have:=h1.2;have:=h.s.kp.size;omega
theorem Ft.less (h:Ft w0 F0 w X F) (hF: ∀k,F' k→F k):Ft w0 F0 w X F':=⟨h.s,fun k hk=>h.ba k (hF k hk),fun k hk=>h.v k (hF k hk)⟩
theorem Ft.more (h:Ft w0 F0 w X F) (hF: ∀k,F' k→F k∨(X k∧w0.heap.size≤k)):Ft w0 F0 w X F':=by
 refine⟨h.s,fun k hk=>?_,fun k hk=>?_⟩
 ·rcases hF k hk with h1|h1
  ·exact h.ba k h1
  ·exact h1.1
 ·rcases hF k hk with h1|h1
  ·exact h.v k h1
  ·exact .inr h1.2
theorem Ft.call (hT:Ft w0 F0 w X F) (h:Ct P f args w X G Q) (hf:enters P f=true) (hG: ∀k,G k→F k)
  (k: ∀v wa w' X',Q v wa w'→w.heap.size≤wa.heap.size→(∀k,made wa w' k→X' k)→Ft w0 F0 w' X' (fun k=>F k∨made wa w' k)→fO G X w X' w'→N v w' X'):eC P R X w true f args N:=by
 refine xw h hf hT.s.has (fun q hq=>hT.ba q (hG q hq)) fun v wa w' X' hq hle hU hkp hc=>k v wa w' X' hq hle hU ?_ hc
 exact hT.ej hc hG fun q hq=>hq.imp id fun hm=>⟨hU q hm,ah hle hm.1⟩
theorem Ft.fin {v:Value} {Q:Value→World→Prop} (h:Ft w0 F0 w X F) (hq: ∀wa,Kp X w wa→Q v wa):fin (Ny F0 w0 Q) X w v:=Xi h.s hq
theorem Ft.gK (h:Ft w0 F0 w X F) {wa:World} (hk:Kp X w wa) (hF: ∀k,F' k→F k): ∀k,F' k→F0 k∨made w0 wa k:=fun k ai=>by
 rcases h.v k (hF k ai)with h1|h1
 ·exact .inl h1
 ·exact .inr ⟨h1,aU (h.s.has k (h.ba k (hF k ai))) hk.size⟩
theorem Ft.NG (h:Ft w0 nX w X F):aj (fR.aW w0) w0 X w:=
 ⟨⟨h.s.kp.os,h.s.kp.tape,h.s.kp.output,h.s.kp.size,fun k ai=>h.s.kp.block k ⟨ai,fun h=>h.elim⟩⟩,fun k ai=>h.s.sub k ⟨ai,fun h=>h.elim⟩,h.s.has⟩
def yD (w0:World) (X:XS):XS:=fun k=>X k∧w0.heap.size≤k
theorem Ft.new (h:Ft w0 F0 w X F):Ft w0 F0 w X (fun k=>F k∨yD w0 X k):=h.more fun k hk=>hk.imp id fun h=>h
theorem Ft.Iz (h:Ft w0 nX w X F):Ft w0 nX w X (yD w0 X):=h.more fun k hk=>.inr hk
theorem fO.fC (c:fO G X w X' w') (h: ∀k,A k→X k∧ ¬G k):Mv A w A w':=fun k hk _=>⟨hk,c.block k (h k hk).1 (h k hk).2⟩
theorem Kp.fC (hk:Kp X w w') (h: ∀k,A k→X k):Mv A w A w':=fun k ai _=>⟨ai,hk.block k (h k ai)⟩
theorem aj.fg (hs:aj X w X' w') (h: ∀k,A k→X k):Mv A w A w':=fun k ai _=>⟨ai,hs.kp.block k (h k ai)⟩
end
theorem ag1 {w0:World} {t ty e k bytes:Nat} {v s:Value} {rows eD:List (List Value)} {N:Value→World→XS→Prop} (hT:Ft w0 nX w X (yD w0 X)) (hO:Ow w (yD w0 X) e k v rows) (he:oV P t e k bytes=true)
  (src:Sl w X k s eD) (h1: ∀r∈eD,∀u∈r,one u=true) (hb:(rows.length+eD.length)*bytes≤140737488355328) (hl:rows.length+eD.length≤2^63-1)
  (n: ∀v' w' X',Ft w0 nX w' X' (yD w0 X')→Ow w' (yD w0 X') e k v' (rows++eD)→fO (jw v) X w X' w'→(v'.ownBlock=v.ownBlock∨ ∃g,v'.ownBlock=some g∧w.heap.size≤g)→N v' w' X'):
  eV P R X w true (iS t e k bytes ty v s) N:=by
 refine NC he hT.s.has (hO.mono hT.ba) src h1 hb hl fun v' w' X' c ho gQ=>?_
 have hT':Ft w0 nX w' X' (yD w0 X'):=Ft.Iz (F:=yD w0 X) (hT.ej c (fun k hk=>(hO.ba hk).1) fun k hk=>.inl hk)
 refine n v' w' X' hT' (ho.tight.mono fun k hk=>⟨(ho.ba hk).1,?_⟩) c gQ
 have ai:v'.ownBlock=some k:=hk
 rcases gQ with e|⟨g,e,eI⟩
 ·exact(hO.ba (e▸ai)).1.2
 ·rw [ai] at e
  have:k=g:=Option.some.inj e
  have:=hT.s.kp.size
  omega
def Dj (A B:XS):Prop:= ∀k,A k→B k→False
theorem Dj.symm {A B:XS} (h:Dj A B):Dj B A:=fun k a b=>h k b a
theorem Dj.grow {A B B' C:XS} (h:Dj A B) (hB: ∀k,B' k→B k∨C k) (hc:Dj A C):Dj A B':=fun k a b=>(hB k b).elim (h k a) (hc k a)
theorem Dj.less {A A' B B':XS} (h:Dj A B) (ha: ∀k,A' k→A k) (hb: ∀k,B' k→B k):Dj A' B':=fun k a b=>h k (ha k a) (hb k b)
end Go.fR
set_option linter.unusedVariables false
set_option linter.unusedSimpArgs false
namespace Go.fR
variable {P : Program} {R : Ending → World → Prop} {X : XS} {w : World} {m : Bool}
def Fv (w:World) (X:XS) (b:Nat) (cs:List Value) (ty:TypeId):Prop:=X b∧w.heap[b]? =some (.cells cs.toArray ty (cs.length,cs.length+1))
theorem Fv.cells {b:Nat} {cs:List Value} {ty:TypeId} (h:Fv w X b cs ty):Cells w X b 0 cs:=⟨h.1,_,_,_,h.2,fun j v hj=>by simpa using hj⟩
theorem Fv.since {b:Nat} {cs:List Value} {ty:TypeId} {Y:XS} {w':World} (h:Fv w X b cs ty) (hs:aj X w Y w'):Fv w' Y b cs ty:=⟨hs.sub _ h.1,by rw [hs.kp.block b h.1];exact h.2⟩
theorem V5 (wa:World) (g n:Nat) (cs:Array Value) (e:TypeId) (h:wa.heap[g]? =some (.cells cs e (0,0))):(wa.freeze ⟨g,n,none⟩ 1).heap=wa.heap.setIfInBounds g (.cells cs e (n,n+1)):=by
 unfold rW
 rw [if_neg (by decide)]
 obtain⟨hl,he⟩:=Array.getElem?_eq_some_iff.1 h
 apply Array.ext
 ·simp
 ·intro i h1 h2
  simp only [Array.getElem_modify,Array.getElem_setIfInBounds]
  split
  ·rename_i hi;subst hi;rw [he];simp
  ·rename_i hi;exact(Array.getElem_setIfInBounds_ne (by simpa using h2) hi).symm
theorem aec {t e g n c:Nat} {cs:List Value} {N:Value→World→XS→Prop} (h:bJ w X g cs e) (ht:P.underlying t=some (.slice e)) (he:P.underlying e=some (.int .u8)) (hX: ∀k,X k→k<w.heap.size)
  (k: ∀w' X',fO (· =g) X w X' w'→Fv w' X' g cs e→N (.slice (some ⟨g,0,none⟩) n c) w' X'):eV P R X w true (convert t t (.slice (some ⟨g,0,none⟩) n c)) N:=by
 intro wa hk
 have hb:=(h.kp hk).2
 have dh:=(Array.getElem?_eq_some_iff.1 hb).1
 have G5:wa.shape? g=some (e,cs.length):=by unfold World.shape?;rw [hb];simp
 have hr:(convert t t (.slice (some ⟨g,0,none⟩) n c)).run P wa= .ok (.slice (some ⟨g,0,none⟩) n c) (wa.freeze ⟨g,cs.length,none⟩ 1):=by
  simp [convert,run_underlying ht,run_underlying he,markStringish,G5]
 have hh:=V5 wa g cs.length cs.toArray e hb
 unfold kh
 simp only [vS,bO,hr,bw,ck]
 have Xm:(wa.freeze ⟨g,cs.length,none⟩ 1).os=wa.os:=by unfold rW;rw [if_neg (by decide)]
 have htp:(wa.freeze ⟨g,cs.length,none⟩ 1).tape=wa.tape:=by unfold rW;rw [if_neg (by decide)]
 have yw:(wa.freeze ⟨g,cs.length,none⟩ 1).output=wa.output:=by unfold rW;rw [if_neg (by decide)]
 have eu:(wa.freeze ⟨g,cs.length,none⟩ 1).heap.size=wa.heap.size:=by rw [hh];simp
 have Fu: ∀q,q≠g→(wa.freeze ⟨g,cs.length,none⟩ 1).heap[q]? =wa.heap[q]? :=fun q hq=>by rw [hh,eB,if_neg (Ne.symm hq)]
 refine⟨⟨Xm,htp,yw,by rw [eu];exact bp _,fun q _ hx=>Fu q fun e=>hx (e▸h.1)⟩,k _ _ ?_ ⟨.inl h.1,by rw [hh,eB,if_pos rfl,if_pos dh]⟩⟩
 refine⟨Xm.trans hk.os,htp.trans hk.tape,yw.trans hk.output,by rw [eu];exact hk.size,fun q hx dr=>(Fu q dr).trans (hk.block q hx),fun q h=>.inl h,fun q h=>?_⟩
 rw [eu]
 exact h.elim (fun h=>aU (hX q h) hk.size) (fun h=>by have:=h.2;rwa [eu] at this)
theorem ag2 {t b o:Nat} {cs:List Value} {ty:TypeId} {v:Value} {N:Value→World→XS→Prop} (h:Fv w X b cs ty) (ht:(P.info? t).map (·.size)=some 1)
  (hl:o<cs.length) (h1:one v=true) (hX: ∀k,X k→k<w.heap.size)
  (n: ∀w' X',fO (· =b) X w X' w'→Fv w' X' b (cs.set o v) ty→N undef w' X'):eU P R X w true (eo t 1 (ptr b o) v) N:=by
 intro wa hk
 have hb:wa.heap[b]? =some (.cells cs.toArray ty (cs.length,cs.length+1)):=by rw [hk.block b h.1];exact h.2
 have dh:=(Array.getElem?_eq_some_iff.1 hb).1
 have hv:v.cells= #[v]:=tD h1
 have CC:wa.cell? ⟨b,o,none⟩=some cs[o]:=by simp [World.cell?,hb,hl]
 have ahM:wa.frozen? ⟨b,o,none⟩=false:=by simp [World.frozen?,hb];omega
 have ix:(store ⟨b,o,none⟩ v).run P wa= .ok () (wa.setRow b (cs.toArray.setIfInBounds o v)):=by
  rw [run_store P wa _ v _ (by rw [←Nk];exact h1),CC]
  simp [ahM,setCell_eq_setRow wa b o cs.toArray ty _ v hb]
 have hr:(Instr.storeAt t (ptr b o) v).run P wa= .ok () (wa.setRow b (cs.toArray.setIfInBounds o v)):=by
  cases hi:P.info? t with
  |none=>simp [hi] at ht
  |some i=>
   simp only [hi,bN,aC] at ht
   simp [Instr.storeAt,Instr.sureAddr,fz,storeVar,sizeOf,typeInfo,hi,ht,hv,storeCells,nh]
   simpa using ix
 unfold eo kh
 simp only [uS,bO,hr,bw,ck]
 have eu:(wa.setRow b (cs.toArray.setIfInBounds o v)).heap.size=wa.heap.size:=by simp
 refine⟨⟨rfl,rfl,rfl,by rw [eu];exact bp _,fun k _ hx=>setRow_other wa b k _ fun e=>hx (e▸h.1)⟩,n _ _ ?_ ⟨.inl h.1,?_⟩⟩
 ·refine⟨hk.os,hk.tape,hk.output,by rw [eu];exact hk.size,fun k hx dr=>?_,fun k h=>.inl h,fun k h=>?_⟩
  ·rw [setRow_other wa b k _ dr,hk.block k hx]
  ·rw [eu]
   exact h.elim (fun h=>aU (hX k h) hk.size) (fun h=>by have:=h.2;rwa [eu] at this)
 ·have:=setRow_heap wa b cs.toArray (cs.toArray.setIfInBounds o v) ty _ hb
  rw [this,List.length_set]
  simp
def uW (l:List Nat):ByteArray:=⟨(l.map UInt8.ofNat).toArray⟩
theorem QK (l:List Nat):(uW l).size=l.length:=by simp [uW,ByteArray.size]
theorem Kr {src dst e b o cap len:Nat} {l:List Nat} {N:Value→World→XS→Prop} (hlen:len=l.length) (hc:Cells w X b o (l.map fun x:Nat=>aA .u8 x)) (hs:P.underlying src=some (.slice e)) (he:P.underlying e=some (.int .u8)) (hd:P.underlying dst=some .string)
  (hX: ∀k,X k→k<w.heap.size) (n: ∀w' X',aj X w X' w'→N (.string (uW l)) w' X'):eV P R X w m (convert src dst (.slice (some ⟨b,o,none⟩) len cap)) N:=by
 subst hlen
 intro wa hk
 have hr:=run_convert_bytes_arg (P:=P) wa src e hs he b o l.length cap (l.map fun x:Nat=>(x:Int)) (by simp) (fun i hi=>by
  have:=(hc.kp hk).range i (.int .u8 ((l[i]:Nat):Int)) (by simp [hi])
  rw [this];simp [ly,hi]) dst hd
 have e1:strOfNums (l.map fun x:Nat=>(x:Int))=uW l:=by
  unfold strOfNums uW
  simp
 rw [e1] at hr
 unfold kh
 simp only [vS,bO,hr,bw,ck]
 have hx:=Ext.refl wa
 exact⟨Step.fE hx,n _ _ (aj.fE hX hk hx)⟩
theorem Tp {t:TypeId} {a b:ByteArray} {N:Value→Prop} (h:a.size+b.size≤2^62) (k:N (.string (a++b))):aa P X w (binOp .add t (.string a) (.string b)) N:=
 b9 (fun wa=>by
  have:=run_string_add_sum (P:=P) wa a b (by omega)
  simp [binOp,this]) k
theorem ag3 {t e k bytes ty:Nat} {s:Value} {rows:List (List Value)} {m':Bool} {N:Value→World→XS→Prop} (hX: ∀k,X k→k<w.heap.size) (he:oV P t e k bytes=true) (src:Sl w X k s rows) (h1: ∀r∈rows,∀u∈r,one u=true)
  (hb:rows.length*bytes≤140737488355328) (hl:rows.length≤2^63-1)
  (n: ∀v w' X',aj X w X' w'→Ow w' (yD w X') e k v rows→N v w' X'):eV P R X w m (jc t e k 0 #[]) fun a w1 X1=>eV P R X1 w1 m' (iS t e k bytes ty a s) N:=by
 obtain⟨hu,kX,xu,z,hi,ND,vu⟩:=nx he
 cases hq:P.info? e with
 |none=>simp [hq] at hi
 |some ie=>
  cases qq:ie.zero with
  |none=>simp [hq,qq] at hi
  |some z'=>
   simp only [hq,qq,dv,bN,aC,dB] at hi
   obtain⟨rfl,rfl,rfl⟩:=hi
   intro wa hk
   have hr:(ig t 0 #[]).run P wa= .ok (.slice (some ⟨wa.heap.size,0,none⟩) 0 0) (wa.alloc (.cells #[] e)):=by
    simp [ig,run_underlying hu,sizeOf,typeInfo,hq,Instr.fill,newRow]
    have xp: ∀f:Nat→Value,Array.map f (Array.range 0)= #[]:=fun f=>Array.eq_empty_of_size_eq_zero (by simp)
    rw [xp]
   unfold jc kh
   simp only [vS,bO,hr,bw,ck]
   have hx:Ext wa (wa.alloc (.cells #[] e)):=Ext.alloc _ _
   have au:=aj.fE hX hk hx
   refine⟨Step.fE hx,?_⟩
   intro wb sH
   unfold iS kh
   have ahN:=(src.since au).kp sH
   have Dt:wb.heap[wa.heap.size]? =some (.cells #[] e (0,0)):=by
    rw [sH.block _ (.inr ⟨bp _,by simp⟩)]
    exact heap_alloc_new wa _
   have eu:=sH.size
   have Mk:=au.kp.size
   have aje:=(Array.getElem?_eq_some_iff.1 Dt).1
   rcases ahN.src with⟨rfl,rfl⟩|⟨a,c,rfl,CC⟩
   ·have lE:=BR (P:=P) (w:=wb) t ty e ie hu hq ⟨wa.heap.size,0,none⟩ 0 0 (bp _)
    simp only [vS,bO,lE,bw,ck]
    have b6:=aj.fE au.has sH (Ext.refl wb)
    exact⟨Step.fE (Ext.refl _),n _ _ _ (au.trans b6) ⟨by simp,.inr ⟨wa.heap.size,0,0,#[],rfl,⟨.inl (.inr ⟨bp _,by simp⟩),hk.size⟩,Dt,bp _,aV _,by simp,by simp⟩⟩⟩
   ·have td:rows.flatten.length=rows.length*ie.size:=tF src.1
    by_cases h0:rows=[]
    ·subst h0
     have lE:=BQ (P:=P) (w:=wb) t ty e ie hu hq wa.heap.size 0 0 0 #[] Dt a 0 c [] (by simp) (by simp) (by simp) (bp _) (by simp)
     have e0:wb.setRow wa.heap.size (#[].toList.take (0+0*ie.size)++[]++ #[].toList.drop (0+0*ie.size+([]:List Value).length)).toArray=wb:=by
      have:=setRow_self wb wa.heap.size #[] e (0,0) Dt
      simpa using this
     rw [e0] at lE
     have yE:(ey #[t,t] ty #[.slice (some ⟨wa.heap.size,0,none⟩) 0 0,.slice (some a) ([]:List (List Value)).length c]).run P wb= .ok (.slice (some ⟨wa.heap.size,0,none⟩) 0 0) wb:=lE
     simp only [vS,bO,yE,bw,ck]
     have b6:=aj.fE au.has sH (Ext.refl wb)
     exact⟨Step.fE (Ext.refl _),n _ _ _ (au.trans b6) ⟨by simp,.inr ⟨wa.heap.size,0,0,#[],rfl,⟨.inl (.inr ⟨bp _,by simp⟩),hk.size⟩,Dt,bp _,aV _,by simp,by simp⟩⟩⟩
    ·have Io:0<rows.length:=List.length_pos_iff.2 h0
     have lE:=run_append_grow (P:=P) wb t ty e ie z' hu hq qq ⟨wa.heap.size,0,none⟩ 0 0 [] (by simp) (by simp) a rows.length c rows.flatten td CC (by omega) (by omega) (growslice_fits (by omega) (by simpa using hb))
     simp only [fH] at lE
     simp only [vS,bO,lE,bw,ck]
     have eI:=grownCap_ge wb rows.length 0 e
     have m6:grownCap wb rows.length 0 e≤maxLen:=grownCap_le_maxLen wb _ 0 e hl
     have Xn:Ext wb (wb.drew.alloc (.cells ([].toArray++rows.flatten.toArray++lP z'.cells (grownCap wb rows.length 0 e-rows.length)) e)):=⟨rfl,rfl,rfl,by simp,fun k hk _=>heap_alloc_old wb.drew _ hk⟩
     have b6:=aj.fE au.has sH Xn
     have hU:w.heap.size≤wb.heap.size:=ah Mk eu
     refine⟨Step.fE Xn,n _ _ _ (au.trans b6) ⟨src.1,.inr ⟨wb.heap.size,0,_,_,rfl,⟨.inr ⟨bp _,by simp⟩,hU⟩,heap_alloc_new wb.drew _,eI,m6,?_,?_⟩⟩⟩
     ·simp only [qV,lO,size_zeroCells,vu,td,cA,fH,←nM]
      apply dM
      omega
     ·simp only [jH,kl,cV]
      rw [←td]
      exact nD
theorem lB {t b o o':Nat} {cs:List Value} {ty:TypeId} {v:Value} {N:Value→World→XS→Prop} (h:bJ w X b cs ty) (Tq:o'=o) (ht:(P.info? t).map (·.size)=some 1)
  (hl:o<cs.length) (h1:one v=true) (hX: ∀k,X k→k<w.heap.size)
  (n: ∀w' X',fO (· =b) X w X' w'→bJ w' X' b (cd cs o [v]) ty→N undef w' X'):eU P R X w true (eo t 1 (ptr b o') v) N:=by
 subst Tq
 have hv:=tD h1
 refine Bd h ht (by omega) (by rw [hv];rfl) (by rw [hv];simp [h1]) hX fun w' X' c hr=>n w' X' c ?_
 rw [hv] at hr
 exact hr
theorem Be {t sz b o o':Nat} {cs:List Value} {ty:TypeId} {v:Value} {N:Value→World→XS→Prop} (h:bJ w X b cs ty) (Tq:o'=o) (ht:(P.info? t).map (·.size)=some sz)
  (hl:o+sz≤cs.length) (hv:v.cells.size=sz) (h1:v.cells.toList.all one=true) (hX: ∀k,X k→k<w.heap.size)
  (n: ∀w' X',fO (· =b) X w X' w'→bJ w' X' b (cd cs o v.cells.toList) ty→N undef w' X'):eU P R X w true (eo t sz (ptr b o') v) N:=by
 subst Tq
 exact Bd h ht hl hv h1 hX n
variable {P : Program}
theorem abX {pl:bI} {fn:Func} {args:Array Value} {w:World} (hn:fn.ntmps=pl.n) (adt:args.size≤pl.n) (wq:(pl.boxes.all fun p=>decide (args.size≤p.1))=true):
  fm pl ⟨[],[]⟩ .start (mE args) (aW w) w { tmps:=args++ew (fn.ntmps-args.size) undef,defers:=[] } w:=by
 have Yn:(args++ew (fn.ntmps-args.size) undef).size=pl.n:=by simp;omega
 have wu: ∀s,s<pl.n→(args++ew (fn.ntmps-args.size) undef)[s]? =some (mE args s):=by
  intro s hs
  rw [jY]
  split
  ·rename_i h1
   simp [mE,ly,h1]
  ·rename_i h1
   rw [jv,if_pos (by omega)]
   simp only [mE,ly]
   rw [jX (by simpa using h1)]
   rfl
 have Il: ∀b n,look pl.boxes b=some n→mE args b=undef:=by
  intro b n hb
  have h1:=List.all_eq_true.1 wq _ (y7 hb)
  simp only [decide_eq_true_eq] at h1
  simp only [mE,ly]
  rw [jX (by simpa using h1)]
  rfl
 exact {
  size:=Yn
  defers:=rfl
  vm:=fun _ hp=>(by cases hp)
  ext:=Kp.refl _ _
  tC:=fun _ hk=>hk
  nS:=fun s hs=>wu s (qe hs).1
  sig:=fun _ hp=>(by cases hp)
  box:=fun b n hb cells hc=>by rw [Il b n hb] at hc;cases hc
  inj:=fun b b' n n' hb gC h1=>by rw [Il b n hb] at h1;cases h1
  conv:=fun b n hb k hk=>by
   have h1:=List.all_eq_true.1 wq _ (y7 hb)
   simp only [decide_eq_true_eq] at h1
   rw [jY,if_neg (by omega),jv] at hk
   split at hk
   ·cases hk
   ·cases hk
  live:=fun _ hp=>(by cases hp)
  ptr:=fun _ hp=>(by cases hp) }
theorem fm.defs {pl:bI} {ds:Bk} {IA:List Deferred} {cs:CS} {env:Env} {X:XS} {w0 w:World} {a:Act} (h:fm pl ds cs env X w0 a w):fm pl ⟨IA,ds.pins⟩ cs env X w0 { a with defers:=IA } w:=
 ⟨h.size,rfl,h.vm,h.ext,h.tC,h.nS,h.sig,h.box,h.inj,h.conv,h.live,h.ptr⟩
def ftE (P:Program) (pl:bI) (fn:Func):Option FT:=
 if fn.ntmps==pl.n then match fn.body with
  |some (.seq (.region _ xB false) (.seq (.region _ pF false) rest))=>match pF.toList with
   |[mk,df]=>match mk.op,mk.guard,mk.dst,df.op,df.guard,df.dst with
    | .makeFunc (.func _) ⟨[]⟩ _,none,some d',.defer ⟨.value (.tmp d),⟨[]⟩,_⟩,none,none=>match Bx P pl xB xB.toList .start,lA P pl rest,By P pl fn.results.toList with
     |some t0,some t2,some (r,n)=>if d'==d&&decide (d<pl.n)&&(look pl.boxes d).isNone&&!pl.jM d then some ⟨.seq (.DW t0) t2,r,n⟩else none
     |_,_,_=>none
    |_,_,_,_,_,_=>none
   |_=>none
  |_=>none
 else none
def zc (fn:Func):Option FuncId:=match fn.body with
 |some (.seq _ (.seq (.region _ pF _) _))=>match pF.toList with
  |[mk,_]=>match mk.op with
   | .makeFunc (.func g) _ _=>some g
   |_=>none
  |_=>none
 |_=>none
def Idle (P:Program) (g:FuncId):Prop:=enters P g=true∧ ∀fX w,CallsD P g fX .returning w fun e u' w'=>(∃x,e= .returned x)∧u'= .returning∧w'=w
theorem fm.aside {pl:bI} {ds:Bk} {env:Env} {X:XS} {w0 w:World} {a:Act} {d:Nat} {v:Value} (h:fm pl ds .start env X w0 a w) (hd:d<pl.n) (hb:look pl.boxes d=none) (hg:pl.jM d=false):
  fm pl ds .start env X w0 (a.put (some d) v) w:=by
 have ne: ∀b n,look pl.boxes b=some n→b≠d:=fun b n gC e=>by rw [e,hb] at gC;cases gC
 have eu:d<a.tmps.size:=by rw [h.size];exact hd
 exact {
  size:=by simp [Act.put,h.size]
  defers:=h.defers
  vm:=fun p hp=>by
   obtain⟨ht,h2⟩:=h.vm p hp
   refine⟨?_,h2⟩
   have dr:p.1≠d:=fun e=>by
    rcases h2 with⟨n,_,hn,_⟩|vt
    ·exact ne p.1 n hn e
    ·rw [e,hg] at vt;cases vt
   rw [fS _ _ _ _ dr];exact ht
  ext:=h.ext
  tC:=h.tC
  nS:=fun s hs=>by
   have qX:s≠d:=fun e=>by rw [e,hg] at hs;cases hs
   rw [fS _ _ _ _ qX];exact h.nS s hs
  sig:=fun _ hp=>(by cases hp)
  box:=fun b n gC cells hc=>by
   obtain⟨k,ty,h1,h2⟩:=h.box b n gC cells hc
   exact⟨k,ty,by rw [fS _ _ _ _ (ne b n gC)];exact h1,h2⟩
  inj:=fun b b' n n' h1 h2 h3 h4 k h5 h6=>h.inj b b' n n' h1 h2 h3 h4 k (by rwa [fS _ _ _ _ (ne b n h1)] at h5) (by rwa [fS _ _ _ _ (ne b' n' h2)] at h6)
  conv:=fun b n gC k hk=>h.conv b n gC k (by rwa [fS _ _ _ _ (ne b n gC)] at hk)
  live:=fun _ hp=>(by cases hp)
  ptr:=fun _ hp=>(by cases hp) }
def isSimple:TI→Bool
 | .box .. =>true
 | .xe .. =>true
 | .Dq _=>true
 | .set .. =>true
 |_=>false
def xC:List TI→Env→Env
 |[],e=>e
 | .box b _ x::l,e=>xC l (lM e b (.agg (x.ev e).cells))
 | .xe b x::l,e=>xC l (lM e b (.agg #[x.ev e]))
 | .set d x::l,e=>xC l (lM e d (x.ev e))
 |_::l,e=>xC l e
theorem vD {iX:List PanicEntry→Env→World→XS→Prop} {next:Env→World→XS→Prop} {w:World} {X:XS} : ∀(l:List TI) (env:Env),l.all isSimple=true→gO P iX next l env w X→
  gO P iX (fun e w' X'=>e=xC l env∧next e w' X') l env w X
 |[],env,_,h=>⟨rfl,h⟩
 |i::l,env,hs,h=>by
  rw [List.all_cons,aG] at hs
  obtain⟨h1,h2⟩:=hs
  cases i with
  |box b n x=>exact dF.2 ⟨(dF.1 h).1,vD l _ h2 (dF.1 h).2⟩
  |xe b x=>exact dF.2 ⟨(dF.1 h).1,vD l _ h2 (dF.1 h).2⟩
  |Dq b=>exact dF.2 ⟨(dF.1 h).1,vD l _ h2 (dF.1 h).2⟩
  |set d x=>exact vD l _ h2 h
  |_=>cases h1
def tM:List Operand→Option (List Nat)
 |[]=>some []
 | .tmp b::l=>(tM l).map (b:: ·)
 |_::_=>none
def afl:Value→Option Value
 | .agg ⟨[v]⟩=>some v
 |_=>none
def NH:List Nat→Bool
 |[]=>true
 |b::l=>!Bw l b&&NH l
def Yy (P:Program) (pl:bI) (fn:Func) (args:Array Value):Option (FuncId×List Nat×List (Option Value)):=
 match fn.body with
 |some (.seq (.region _ xB false) (.seq (.region _ pF false) rest))=>match pF.toList with
  |[mk,_]=>match mk.op with
   | .makeFunc (.func g) _ xD=>match tM xD.toList,Bx P pl xB xB.toList .start,lA P pl rest with
    |some cb,some t0,some t2=>if t0.all isSimple&&NH cb&&cb.all (fun b=>(look pl.boxes b).isSome&&ez (xC t0 (mE args) b)&&!Bw t2.mk b)then
      some (g,cb,cb.map fun b=>if Bw t2.wr b then none else afl (xC t0 (mE args) b))else none
    |_,_,_=>none
   |_=>none
  |_=>none
 |_=>none
theorem Ls: ∀{l:List Operand} {cb:List Nat},tM l=some cb→l=cb.map .tmp
 |[],cb,h=>by simp only [tM,aC] at h;subst h;rfl
 |x::l,cb,h=>by
  cases x with
  |tmp b=>
   simp only [tM,Option.map_eq_some_iff] at h
   obtain⟨c,h1,rfl⟩:=h
   rw [Ls h1];rfl
  |const v=>simp [tM] at h
  |global v=>simp [tM] at h
  |func v=>simp [tM] at h
theorem Xo {tmps:Array Value} : ∀(cb:List Nat),(∀b∈cb,∃k,tmps[b]? =some (fz k 0))→ ∃ks:List Nat,ks.length=cb.length∧ ∀(i:Nat) b,cb[i]? =some b→ ∃k,ks[i]? =some k∧tmps[b]? =some (fz k 0)
 |[],_=>⟨[],rfl,fun i b h=>by simp at h⟩
 |b::cb,h=>by
  obtain⟨k,hk⟩:=h b (by simp)
  obtain⟨ks,h1,h2⟩:=Xo cb fun c hc=>h c (bm _ hc)
  refine⟨k::ks,by simp [h1],fun i c hc=>?_⟩
  cases i with
  |zero=>simp only [gw,aC] at hc;subst hc;exact⟨k,rfl,hk⟩
  |succ i=>simpa using h2 i c (by simpa using hc)
theorem Lt: ∀{l:List Nat},NH l=true→l.Nodup
 |[],_=>List.nodup_nil
 |b::l,h=>by
  simp only [NH,aG,bW] at h
  exact List.nodup_cons.2 ⟨fun hm=>by
   rw [wJ.2 hm] at h
   exact absurd h.1 (by simp),Lt h.2⟩
theorem Ps {α:Type} {cb:List Nat} {ks:List α} {p:Nat×α} (h:p∈cb.zip ks): ∃i:Nat,cb[i]? =some p.1∧ks[i]? =some p.2:=by
 obtain⟨i,hi,e⟩:=pE h
 refine⟨i,?_⟩
 have h2:(cb.zip ks)[i]? =some p:=by rw [bL hi,e]
 rw [qs] at h2
 exact h2
def Yz (P:Program) (fn:Func) (R:Ending→World→Prop) (g:FuncId) (cb:List Nat) (cv:List (Option Value)) (RP:List PanicEntry→World→Prop):Prop:=
 ∀(ks:List Nat) (abY:List (Array Value)) ch w',ks.length=cb.length→abY.length=cb.length→ks.Nodup→(∀(i:Nat) k cells,ks[i]? =some k→abY[i]? =some cells→ ∃ty,w'.heap[k]? =some (.cells cells ty (0,0)))→
  (∀(i:Nat) v cells,cv[i]? =some (some v)→abY[i]? =some cells→cells= #[v])→RP ch w'→
  CallsD P g (ks.map fun k=>fz k 0).toArray (.panicking ch) w' fun e u kW=>(∃x,e= .returned x)∧settle u= .returning∧ ∃v,R (.returned v) kW∧
   ∀tmps:Array Value,(∀(i:Nat) b k,cb[i]? =some b→ks[i]? =some k→tmps[b]? =some (fz k 0))→(results fn tmps).run P kW= .ok v kW
def Ss (R:Ending→World→Prop) (RP:List PanicEntry→World→Prop):Ending→World→Prop
 | .panicked ch,w=>RP ch w
 |e,w=>R e w
theorem vE {P:Program} {iX:List PanicEntry→Env→World→XS→Prop} {next:Env→World→XS→Prop} {w:World} {X:XS} : ∀(l:List TI) (env:Env),l.all isSimple=true→gO P iX next l env w X→
  gO P (fun _ _ _ _=>False) next l env w X
 |[],env,_,h=>h
 |i::l,env,hs,h=>by
  rw [List.all_cons,aG] at hs
  obtain⟨h1,h2⟩:=hs
  cases i with
  |box b n x=>exact dF.2 ⟨(dF.1 h).1,vE l _ h2 (dF.1 h).2⟩
  |xe b x=>exact dF.2 ⟨(dF.1 h).1,vE l _ h2 (dF.1 h).2⟩
  |Dq b=>exact dF.2 ⟨(dF.1 h).1,vE l _ h2 (dF.1 h).2⟩
  |set d x=>exact vE l _ h2 h
  |_=>cases h1
theorem aar {l:List Nat} (h: ∀(i j:Nat) k,l[i]? =some k→l[j]? =some k→i=j):l.Nodup:=
 List.pairwise_iff_getElem.2 fun i j hi hj hij e=>by
  have:=h i j l[i] (bL hi) (by rw [e];exact bL hj)
  omega
theorem IB {f:FuncId} {fn:Func} {pl:bI} {args:Array Value} {w:World} {R:Ending→World→Prop} {RP:List PanicEntry→World→Prop} {g0:FuncId} {cb:List Nat} {cv:List (Option Value)} {V:Prop} (hf:P.funcs[f]? =some fn)
  (hs:(decide (args.size≤pl.n)&&pl.boxes.all fun p=>decide (args.size≤p.1))=true) (m4: ∀g,zc fn=some g→Idle P g) (rX:Yy P pl fn args=some (g0,cb,cv)) (uN:Yz P fn R g0 cb cv RP) (hv:V=Md P (ftE P pl fn) (Ss R RP) args w) (h:V):Calls P f args w R:=by
 subst hv
 unfold Md at h
 simp only [aG,decide_eq_true_eq] at hs
 split at h
 case h_2=>exact h.elim
 rename_i ft hc
 unfold ftE at hc
 split at hc
 case isFalse=>cases hc
 rename_i hn
 have kN:fn.ntmps=pl.n:=by simpa using hn
 split at hc
 case h_2=>cases hc
 rename_i _ id0 xB id1 pF rest hb
 split at hc
 case h_2=>cases hc
 rename_i _ mk df IC
 split at hc
 case h_2=>cases hc
 rename_i _ _ _ _ _ _ g xD d' d QL Pt hmg hmd Tr NI SN
 split at hc
 case h_2=>cases hc
 rename_i _ _ _ t0 t2 r nd sG lS Ik
 split at hc
 case isFalse=>cases hc
 rename_i nK
 simp only [aG,beq_iff_eq,bW,decide_eq_true_eq,ib] at nK
 obtain⟨⟨⟨Lm,iI⟩,Xp⟩,abZ⟩:=nK
 subst Lm
 injection hc with hc
 subst hc
 have hG:zc fn=some g:=by unfold zc;rw [hb];simp [IC,Pt]
 obtain⟨Ts,Fw⟩:=m4 g hG
 unfold Yy at rX
 rw [hb] at rX
 dsimp only at rX
 rw [IC] at rX
 dsimp only at rX
 rw [Pt] at rX
 dsimp only at rX
 rw [sG,lS] at rX
 split at rX
 case h_2=>cases rX
 rename_i _ _ _ uO t0' t2' kj e0 e2
 cases e0;cases e2
 split at rX
 case isFalse=>cases rX
 rename_i Ep
 simp only [aG,mA,bW] at Ep
 obtain⟨⟨adz,py⟩,wq⟩:=Ep
 simp only [aC,dB] at rX
 obtain⟨rfl,rfl,rfl⟩:=rX
 have afm:=Ls kj
 have Tt:=abX (w:=w) kN hs.1 (by simpa using hs.2)
 refine calls_of_wp_defers hf hb ?_
 let K:=SH ⟨.seq (.DW t0) t2,r,nd⟩ (Ss R RP)
 have h0:gO P (fun ch=>K (.panic ch)) (fun e w X=>den P t2 K e w X) t0 (mE args) w (aW w):=h
 replace h0:=vD t0 _ (List.all_eq_true.2 adz) h0
 have h0':gO P (fun _ _ _ _=>False) (fun e w' X'=>e=xC t0 (mE args)∧den P t2 K e w' X') t0 (mE args) w (aW w):=vE t0 _ (List.all_eq_true.2 adz) h0
 refine wp_seq (wp_region_list (D3 (P:=P) (pl:=pl) (ds:=⟨[],[]⟩) ?_ ?_ xB.toList .start t0 _ _ _ _ _ sG (fun _ _ _ hp=>by cases hp) Tt h0'))
 case refine_2=>exact fun ch a' w' dT X' fi _ hk _ hq=>hq.elim
 rintro Nm a1 w1 sT X1 G6 au ⟨afn,Ln⟩
 replace au:=au.drop
 show(Code.seq (xz id1 pF false) rest).wp P (bodyPostD P fn R) a1 w1
 have sH: ∀b∈uO,(∃n,look pl.boxes b=some n)∧ ∃k,a1.tmps[b]? =some (fz k 0):=fun b gC=>by
  have h1:=wq b gC
  obtain⟨⟨h1,h2⟩,h3⟩:=h1
  obtain⟨n,hn⟩:=Option.isSome_iff_exists.1 h1
  rw [←afn] at h2
  obtain⟨cells,D6⟩:=sP.1 h2
  obtain⟨k,ty,g1,_⟩:=au.box b n hn cells D6
  exact⟨⟨n,hn⟩,k,g1⟩
 obtain⟨ks,tG,yF⟩:=Xo uO fun b gC=>(sH b gC).2
 have ag4: ∀p,p∈uO.zip (ks.map fun k=>fz k 0)→a1.tmps[p.1]? =some p.2∧((∃n k,look pl.boxes p.1=some n∧p.2=fz k 0)∨pl.jM p.1=true):=fun p hp=>by
  obtain⟨i,g1,g2⟩:=Ps hp
  obtain⟨k,g3,g4⟩:=yF i p.1 g1
  rw [dQ,g3] at g2
  simp only [bN,aC] at g2
  obtain⟨⟨n,hn⟩,_⟩:=sH p.1 (bg g1)
  exact⟨by rw [←g2];exact g4,.inl ⟨n,k,hn,g2.symm⟩⟩
 have ahO:ks.Nodup:=by
  have hcn:=Lt py
  refine aar fun i j k hi hj=>?_
  have mP:i<uO.length:=by rw [←tG];exact(List.getElem?_eq_some_iff.1 hi).1
  have D8:j<uO.length:=by rw [←tG];exact(List.getElem?_eq_some_iff.1 hj).1
  have gi:uO[i]? =some uO[i]:=bL mP
  have gj:uO[j]? =some uO[j]:=bL D8
  obtain⟨k1,e1,f1⟩:=yF i _ gi
  obtain⟨k2,e2,f2⟩:=yF j _ gj
  rw [hi] at e1;cases e1
  rw [hj] at e2;cases e2
  obtain⟨⟨m1,uP⟩,_⟩:=sH uO[i] (xx mP)
  obtain⟨⟨m2,sJ⟩,_⟩:=sH uO[j] (xx D8)
  have:=au.inj uO[i] uO[j] m1 m2 uP sJ (au.conv _ _ uP _ f1) (au.conv _ _ sJ _ f2) k f1 f2
  exact(List.getElem_inj hcn).1 this
 refine wp_seq (wp_region_list ?_)
 rw [IC]
 have GZ:cf mk (yielded pF a1.tmps)=true:=by simp [cf,hmg]
 have adA:xD.map a1.eval=(ks.map fun k=>fz k 0).toArray:=by
  apply te
  rw [Array.toList_map,afm,List.map_map]
  refine List.ext_getElem? fun i=>?_
  rw [dQ,dQ]
  cases hci:uO[i]? with
  |none=>
   have:ks[i]? =none:=by rw [List.getElem?_eq_none_iff] at hci⊢;omega
   rw [this];rfl
  |some b=>
   obtain⟨k,g1,g2⟩:=yF i b hci
   rw [g1]
   simp [lp,jQ,g2]
 have NJ:(execOp a1.eval mk).run P w1= .ok (.value (.func (.func g) #[] (ks.map fun k=>fz k 0).toArray)) w1:=by
  rw [←adA]
  simp [execOp,Pt,cE]
 have ag5: ∀b∈uO,b≠d':=fun b gC e=>by
  obtain⟨⟨n,hn⟩,_⟩:=sH b gC
  rw [e,Xp] at hn;cases hn
 clear adA
 generalize hcg:(ks.map fun k=>fz k 0).toArray=fX at NJ
 unfold wpList
 rw [if_pos GZ]
 left
 unfold jA
 rw [NJ,yB,hmd]
 have b6:=au.aside (v:=.func (.func g) #[] fX) iI Xp abZ
 have DZ:(a1.put (some d') (.func (.func g) #[] fX)).eval (.tmp d')= .func (.func g) #[] fX:=by
  have:d'<a1.tmps.size:=by rw [au.size];exact iI
  simp [lp,Act.put,jQ,this]
 have aas: ∀p,p∈uO.zip (ks.map fun k=>fz k 0)→(a1.put (some d') (.func (.func g) #[] fX)).tmps[p.1]? =some p.2∧((∃n k,look pl.boxes p.1=some n∧p.2=fz k 0)∨pl.jM p.1=true):=fun p hp=>by
  obtain⟨g1,g2⟩:=ag4 p hp
  obtain⟨i,g3,_⟩:=Ps hp
  exact⟨by rw [fS _ _ _ _ (ag5 p.1 (bg g3))];exact g1,g2⟩
 generalize a1.put (some d') (.func (.func g) #[] fX)=a2 at b6 DZ aas
 have oy:(execOp a2.eval df).run P w1= .ok (.defer { target:=.fn (.func g) fX,args:= #[] }) w1:=by
  simp [execOp,Tr,resolve,DZ,iW]
 unfold wpList
 have hw:cf df (yielded pF a2.tmps)=true:=by simp [cf,NI]
 rw [if_pos hw]
 left
 unfold jA
 rw [oy,sU,SN]
 show rest.wp P (bodyPostD P fn R) { a2 with defers:= { target:=.fn (.func g) fX,args:= #[] } ::a2.defers } w1
 rw [b6.defers]
 have cw:fm pl ⟨[{ target:=.fn (.func g) fX,args:= #[] }],uO.zip (ks.map fun k=>fz k 0)⟩ .start sT X1 G6 { a2 with defers:=[{ target:=.fn (.func g) fX,args:= #[] }] } w1:=
  ⟨b6.size,rfl,aas,b6.ext,b6.tC,b6.nS,b6.sig,b6.box,b6.inj,b6.conv,b6.live,b6.ptr⟩
 have pO:=oK t2 (K':=fun ex e w' X'=>K ex e w' X'∧ ∀s,¬s∈t2.wr→e s=sT s) Ln fun ex e w' X' _ he hk=>⟨hk,he⟩
 refine wp_mono (Kd (pl:=pl) (ds:=⟨[{ target:=.fn (.func g) fX,args:= #[] }],uO.zip (ks.map fun k=>fz k 0)⟩) rest t2 _ sT X1 G6 _ w1 lS (fun b gC p hp e=>?_) cw pO) fun ex a' w' hq=>?_
 ·obtain⟨i,g1,_⟩:=Ps hp
  have h1:=(wq p.1 (bg g1)).2
  rw [e,wJ.2 gC] at h1
  cases h1
 have aat: ∀w',(invoke (.fn (.func g) fX) #[]).run P w'= .ok (.enter g fX) w':=fun w'=>by
  simp only [invoke]
  have:=rS Ts (#[]++fX) w'
  simpa using this
 have done:(∃env X w0,fm pl ⟨[{ target:=.fn (.func g) fX,args:= #[] }],uO.zip (ks.map fun k=>fz k 0)⟩ .start env X w0 a' w'∧K .ret env w0 X∧ ∀s,¬s∈t2.wr→env s=sT s)→Leaves P fn a'.tmps R a'.defers .returning w':=by
  rintro⟨e,X',fi,h5,h6,_⟩
  have h6':bz (nd.all fun b=>ez (e b)) (∀wa,Kp X' fi wa→R (.returned (SG r e)) wa):=h6
  obtain⟨h7,h8⟩:=dF.1 h6'
  rw [h5.defers]
  refine leaves_cons (by simp) (f:=g) (args:=fX) (aat w') ?_
  refine(Fw fX w').mono ?_
  rintro _ _ kW ⟨⟨x,rfl⟩,rfl,rfl⟩
  exact⟨_,Ke h5 Ik (List.all_eq_true.1 h7),h8 kW h5.ext⟩
 cases ex with
 |normal=>exact done hq
 |ret=>exact done hq
 |panic ch=>
  obtain⟨h5,e,X',fi,h6,⟨h7,he⟩,Bz⟩:=hq
  show Leaves P fn a'.tmps R a'.defers (.panicking ch) w'
  rw [h5]
  refine leaves_cons (by simp) (f:=g) (args:=fX) (aat w') ?_
  have xE: ∀(i:Nat) b k,uO[i]? =some b→ks[i]? =some k→a'.tmps[b]? =some (fz k 0)∧ ∃n cells ty,look pl.boxes b=some n∧e b= .agg cells∧w'.heap[k]? =some (.cells cells ty (0,0))∧cells.size=n∧ ¬X' k:=fun i b k g1 g2=>
by
   obtain⟨q1,q2⟩:=Bz (b,fz k 0) (bg (i:=i) (by rw [qs];exact⟨g1,by rw [dQ,g2];rfl⟩))
   refine⟨q1,?_⟩
   rcases q2 with q2|⟨n,k',cells,ty,q3,q4⟩
   ·obtain⟨⟨n,hn⟩,_⟩:=sH b (bg g1)
    rw [(qe q2).2.1] at hn;cases hn
   ·have:k=k':=by simpa [fz] using q3
    subst this
    exact⟨n,cells,ty,q4⟩
  have Mi: ∀(i:Nat) b,uO[i]? =some b→ez (e b)=true:=fun i b g1=>by
   obtain⟨k,g2,_⟩:=yF i b g1
   obtain⟨_,_,cells,_,_,g4,_⟩:=xE i b k g1 g2
   rw [g4];rfl
  rw [←hcg]
  refine(uN ks (uO.map fun b=>(e b).cells) ch w' tG (by simp) ahO (fun i k cells g1 g2=>?_) (fun i v cells g1 g2=>?_) (h7 w' h6)).mono ?_
  ·rw [dQ] at g2
   obtain⟨b,g3,rfl⟩:=Option.map_eq_some_iff.1 g2
   obtain⟨_,_,cells,ty,_,g4,g5,_⟩:=xE i b k g3 g1
   rw [g4]
   exact⟨ty,g5⟩
  ·rw [dQ] at g1 g2
   obtain⟨b,g3,rfl⟩:=Option.map_eq_some_iff.1 g2
   rw [g3] at g1
   simp only [bN,aC] at g1
   split at g1
   ·cases g1
   ·rename_i hnw
    have ahP: ¬b∈t2.wr:=fun hm=>hnw (wJ.2 hm)
    rw [he b ahP,afn]
    generalize xC t0 (mE args) b=u at g1
    unfold afl at g1
    split at g1
    ·cases g1;rfl
    ·cases g1
  ·rintro e' u kW ⟨⟨x,rfl⟩,ab0,v,hR,ag6⟩
   show Leaves P fn a'.tmps R [] (settle u) kW
   rw [ab0]
   exact⟨v,ag6 a'.tmps fun i b k g1 g2=>(xE i b k g1 g2).1,hR⟩
 |exit i=>obtain⟨e,X',fi,h5,h6,_⟩:=hq;exact h6.elim
 |goto i=>obtain⟨e,X',fi,h5,h6,_⟩:=hq;exact h6.elim
 |outgrown=>exact hq.elim
theorem ID {f:FuncId} {fn:Func} {pl:bI} {args:Array Value} {w:World} {R:Ending→World→Prop} {V:Prop} (hf:P.funcs[f]? =some fn)
  (hs:(decide (args.size≤pl.n)&&pl.boxes.all fun p=>decide (args.size≤p.1))=true) (m4: ∀g,zc fn=some g→Idle P g) (hR: ∀ch w,¬R (.panicked ch) w) (hv:V=Md P (ftE P pl fn) R args w) (h:V):Calls P f args w R:=by
 subst hv
 unfold Md at h
 simp only [aG,decide_eq_true_eq] at hs
 split at h
 case h_2=>exact h.elim
 rename_i ft hc
 unfold ftE at hc
 split at hc
 case isFalse=>cases hc
 rename_i hn
 have kN:fn.ntmps=pl.n:=by simpa using hn
 split at hc
 case h_2=>cases hc
 rename_i _ id0 xB id1 pF rest hb
 split at hc
 case h_2=>cases hc
 rename_i _ mk df IC
 split at hc
 case h_2=>cases hc
 rename_i _ _ _ _ _ _ g xD d' d QL Pt hmg hmd Tr NI SN
 split at hc
 case h_2=>cases hc
 rename_i _ _ _ t0 t2 r nd sG lS Ik
 split at hc
 case isFalse=>cases hc
 rename_i nK
 simp only [aG,beq_iff_eq,bW,decide_eq_true_eq,ib] at nK
 obtain⟨⟨⟨Lm,iI⟩,Xp⟩,abZ⟩:=nK
 subst Lm
 injection hc with hc
 subst hc
 have hG:zc fn=some g:=by unfold zc;rw [hb];simp [IC,Pt]
 obtain⟨Ts,Fw⟩:=m4 g hG
 have Tt:=abX (w:=w) kN hs.1 (by simpa using hs.2)
 refine calls_of_wp_defers hf hb ?_
 let K:=SH ⟨.seq (.DW t0) t2,r,nd⟩ R
 have hKp: ∀ch env X w0 w',Kp X w0 w'→K (.panic ch) env w0 X→False:=fun ch env X w0 w' hk hq=>hR _ _ (hq w' hk)
 have h0:gO P (fun ch=>K (.panic ch)) (fun e w X=>den P t2 K e w X) t0 (mE args) w (aW w):=h
 refine wp_seq (wp_region_list (D3 (P:=P) (pl:=pl) (ds:=⟨[],[]⟩) ?_ ?_ xB.toList .start t0 _ _ _ _ _ sG (fun _ _ _ hp=>by cases hp) Tt h0))
 case refine_2=>exact fun ch a' w' dT X' fi _ hk _ hq=>(hKp _ _ _ _ _ hk hq).elim
 intro Nm a1 w1 sT X1 G6 au Ln
 replace au:=au.drop
 show(Code.seq (xz id1 pF false) rest).wp P (bodyPostD P fn R) a1 w1
 refine wp_seq (wp_region_list ?_)
 rw [IC]
 have GZ:cf mk (yielded pF a1.tmps)=true:=by simp [cf,hmg]
 have NJ:(execOp a1.eval mk).run P w1= .ok (.value (.func (.func g) #[] (xD.map a1.eval))) w1:=by
  simp [execOp,Pt,cE]
 generalize xD.map a1.eval=fX at NJ
 unfold wpList
 rw [if_pos GZ]
 left
 unfold jA
 rw [NJ,yB,hmd]
 have b6:=au.aside (v:=.func (.func g) #[] fX) iI Xp abZ
 have DZ:(a1.put (some d') (.func (.func g) #[] fX)).eval (.tmp d')= .func (.func g) #[] fX:=by
  have:d'<a1.tmps.size:=by rw [au.size];exact iI
  simp [lp,Act.put,jQ,this]
 generalize a1.put (some d') (.func (.func g) #[] fX)=a2 at b6 DZ
 have oy:(execOp a2.eval df).run P w1= .ok (.defer { target:=.fn (.func g) fX,args:= #[] }) w1:=by
  simp [execOp,Tr,resolve,DZ,iW]
 unfold wpList
 have hw:cf df (yielded pF a2.tmps)=true:=by simp [cf,NI]
 rw [if_pos hw]
 left
 unfold jA
 rw [oy,sU,SN]
 show rest.wp P (bodyPostD P fn R) { a2 with defers:= { target:=.fn (.func g) fX,args:= #[] } ::a2.defers } w1
 rw [b6.defers]
 have cw:=b6.defs (IA:=[{ target:=.fn (.func g) fX,args:= #[] }])
 refine wp_mono (Kd (pl:=pl) (ds:=⟨[{ target:=.fn (.func g) fX,args:= #[] }],[]⟩) rest t2 K sT X1 G6 _ w1 lS (fun _ _ _ hp=>by cases hp) cw Ln) fun ex a' w' hq=>?_
 have done:(∃env X w0,fm pl ⟨[{ target:=.fn (.func g) fX,args:= #[] }],[]⟩ .start env X w0 a' w'∧K .ret env w0 X)→Leaves P fn a'.tmps R a'.defers .returning w':=by
  rintro⟨e,X',fi,h5,h6⟩
  have h6':bz (nd.all fun b=>ez (e b)) (∀wa,Kp X' fi wa→R (.returned (SG r e)) wa):=h6
  obtain⟨h7,h8⟩:=dF.1 h6'
  rw [h5.defers]
  refine leaves_cons (by simp) (f:=g) (args:=fX) ?_ ?_
  ·simp only [invoke]
   have:=rS Ts (#[]++fX) w'
   simpa using this
  ·refine(Fw fX w').mono ?_
   rintro _ _ kW ⟨⟨x,rfl⟩,rfl,rfl⟩
   exact⟨_,Ke h5 Ik (List.all_eq_true.1 h7),h8 kW h5.ext⟩
 cases ex with
 |normal=>exact done hq
 |ret=>exact done hq
 |panic ch=>obtain⟨h5,e,X',fi,h6,h7,_⟩:=hq;exact(hKp _ _ _ _ _ h6 h7).elim
 |exit i=>obtain⟨e,X',fi,h5,h6⟩:=hq;exact h6.elim
 |goto i=>obtain⟨e,X',fi,h5,h6⟩:=hq;exact h6.elim
 |outgrown=>exact hq.elim
def qY (fn:Func):List Nat:=fn.results.toList.map fun r=>match r with
 | .cell c _=>c
 | .tmp t=>t
def ab1 (fn:Func):Bool:=fn.results.toList.all fun r=>match r with
 | .cell _ _=>true
 | .tmp _=>false
def ftD (P:Program) (pl:bI) (fn:Func):Option FT:=
 if fn.ntmps==pl.n then match fn.body with
  |some (.seq (.region _ xB false) (.seq (.region _ pF false) rest))=>match pF.toList with
   |[mk,df]=>match df.op,df.guard,df.dst with
    | .defer ⟨.value (.tmp d),⟨[]⟩,_⟩,none,none=>match Bx P pl xB xB.toList .start,Bx P pl pF [mk] .start,lA P pl rest with
     |some t0,some t1,some t2=>match t1 with
      |[.rd d' (.makeFunc (.func _) ⟨[]⟩ _) _ _]=>
       if d'==d&&pl.jM d&&(qY fn).all (fun c=>pl.jM c&&!Bw t2.mk c&&!Bw t2.wr c)&&ab1 fn&&!(t2.wr.contains d)&&!fn.results.isEmpty then some ⟨.seq (.DW t0) (.seq (.DW t1) t2),(qY fn).map Ex.t++[Ex.t d],[]⟩else none
      |_=>none
     |_,_,_=>none
    |_,_,_=>none
   |_=>none
  |_=>none
 else none
theorem Oper.ab2 {o:Oper} {a:Act} {w:World} {next next':Act→World→Prop} {Q Q':Exit→Act→World→Prop} (h:o.wp P a w next Q) (hn: ∀a w,next a w→next' a w) (hp: ∀c a w,Q (.panic c) a w→Q' (.panic c) a w)
  (ho: ∀a w,Q .outgrown a w→Q' .outgrown a w):o.wp P a w next' Q':=by
 unfold jA Oper.upon at*
 have hl:LetsOut Q→LetsOut Q':=fun ⟨a,w,h⟩=>⟨a,w,ho a w h⟩
 split at h
 ·exact hn _ _ h
 ·exact hn _ _ h
 ·exact hn _ _ h
 ·refine h.mono fun e w' he=>?_
  cases e with
  |returned v=>exact hn _ _ he
  |panicked c=>exact hp _ _ _ he
  |outgrown=>exact hl he
 ·exact h.mono fun v w' hv=>hn _ _ hv
 ·exact hp _ _ _ h
 ·exact h
def Er (P:Program) (fn:Func) (R:Ending→World→Prop) (vs:List Value) (u:FrameMode) (w:World):Prop:=
 ∃(ps:List Value) (g:FuncId) (fX:Array Value),vs=ps++[za (.func g) #[] fX]∧enters P g=true∧
  CallsD P g fX u w fun e' u' w'=> ∃x v,e'= .returned x∧settle u'= .returning∧
   (∀tmps:Array Value,(∀(i:Nat) c,(qY fn)[i]? =some c→tmps[c]? =ps[i]?)→(results fn tmps).run P w'= .ok v w')∧R (.returned v) w'
def dP (P:Program) (fn:Func) (R:Ending→World→Prop) (vs:List Value):Ending→World→Prop
 | .returned _,w=>Er P fn R vs .returning w
 | .panicked ch,w=>Er P fn R vs (.panicking ch) w
 | .outgrown,_=>False
def nP:Ending→World→Prop:=fun _ _=>False
def adB (P:Program) (fn:Func) (R:Ending→World→Prop) (res:List Ex):oT
 | .normal,e,w,X| .ret,e,w,X=> ∀wa,Kp X w wa→Er P fn R (res.map (·.ev e)) .returning wa
 | .panic ch,e,w,X=> ∀wa,Kp X w wa→Er P fn R (res.map (·.ev e)) (.panicking ch) wa
 |_,_,_,_=>False
def afo (P:Program) (pl:bI) (fn:Func) (R:Ending→World→Prop) (args:Array Value) (w:World):Prop:=match ftD P pl fn with
 |some ft=>match ft.code with
  | .seq (.DW t0) (.seq (.DW t1) t2)=>gO P (fun ch _ w X=>pn nP ch w X) (fun e w X=>gO P (fun ch _ w X=>pn nP ch w X) (fun e w X=>den P t2 (adB P fn R ft.res) e w X) t1 e w X) t0 (mE args) w (aW w)
  |_=>False
 |none=>False
theorem Tu {f:FuncId} {fn:Func} {pl:bI} {args:Array Value} {w:World} {R:Ending→World→Prop} {V:Prop} (hf:P.funcs[f]? =some fn)
  (hs:(decide (args.size≤pl.n)&&pl.boxes.all fun p=>decide (args.size≤p.1))=true) (hv:V=afo P pl fn R args w) (h:V):Calls P f args w R:=by
 subst hv
 unfold afo at h
 simp only [aG,decide_eq_true_eq] at hs
 split at h
 case h_2=>exact h.elim
 rename_i ft hc
 unfold ftD at hc
 split at hc
 case isFalse=>cases hc
 rename_i hn
 have kN:fn.ntmps=pl.n:=by simpa using hn
 split at hc
 case h_2=>cases hc
 rename_i _ id0 xB id1 pF rest hb
 split at hc
 case h_2=>cases hc
 rename_i _ mk df IC
 split at hc
 case h_2=>cases hc
 rename_i _ _ _ d QL Tr NI SN
 split at hc
 case h_2=>cases hc
 rename_i _ _ _ t0 t1 t2 sG Es lS
 split at hc
 case h_2=>cases hc
 rename_i _ d' g0 xD ty ss
 split at hc
 case isFalse=>cases hc
 rename_i nK
 simp only [aG,beq_iff_eq,bW,mA] at nK
 obtain⟨⟨⟨⟨⟨Lm,hgd⟩,hgc⟩,hac⟩,hwr⟩,dr⟩:=nK
 subst Lm
 injection hc with hc
 subst hc
 have hdw: ¬d'∈t2.wr:=fun hm=>by simp [hm] at hwr
 have Tt:=abX (w:=w) kN hs.1 (by simpa using hs.2)
 refine calls_of_wp_defers hf hb ?_
 let K:=adB P fn R ((qY fn).map Ex.t++[Ex.t d'])
 have hnp: ∀{ch X w0 w'},Kp X w0 w'→pn nP ch w0 X→False:=fun hk hq=>hq _ hk
 have h0:gO P (fun ch _ w X=>pn nP ch w X) (fun e w X=>gO P (fun ch _ w X=>pn nP ch w X) (fun e w X=>den P t2 K e w X) [.rd d' (.makeFunc (.func g0) ⟨[]⟩ xD) ty ss] e w X) t0 (mE args) w (aW w):=h
 refine wp_seq (wp_region_list (D3 (P:=P) (pl:=pl) (ds:=⟨[],[]⟩) ?_ ?_ xB.toList .start t0 _ _ _ _ _ sG (fun _ _ _ hp=>by cases hp) Tt h0))
 case refine_2=>exact fun ch a' w' dT X' fi _ hk _ hq=>(hnp hk hq).elim
 intro Nm a1 w1 sT X1 G6 au Ln
 replace au:=au.drop
 show(Code.seq (xz id1 pF false) rest).wp P (bodyPostD P fn R) a1 w1
 refine wp_seq (wp_region_list ?_)
 rw [IC]
 have h1:gO P (fun ch _ w X=>pn nP ch w X) (fun e w X=>den P t2 (fun ex e' w' X'=>K ex e' w' X'∧ ∀s,¬s∈t2.wr→e' s=e s) e w X∧ ∃fX,e d'= .func (.func g0) #[] fX) [.rd d' (.makeFunc (.func g0) ⟨[]⟩ xD) ty ss] sT G6 X1:=by
  obtain⟨v,hv,hq⟩: ∃v,Rd P X1 G6 (Nh (Cy sT ss) (.makeFunc (.func g0) ⟨[]⟩ xD) ty) v∧den P t2 K (lM sT d' v) G6 X1:=Ln
  refine⟨v,hv,oK t2 hq fun ex e w' X' _ he hk=>⟨hk,he⟩,?_⟩
  have hr:(vS (cE (.func g0) (tB (Cy sT ss) ⟨[]⟩) (tB (Cy sT ss) xD))).run P G6= .ok (.value v) G6:=hv G6 (Kp.refl _ _)
  rw [Pj,Pj] at hr
  rw [kS]
  simp [vS,cE] at hr
  exact⟨_,hr.symm⟩
 have h2:=D3 (P:=P) (pl:=pl) (ds:=⟨[],[]⟩) (ops:=pF) (Q:=fun ex a w=>match ex with
   | .normal=>wpList P pF (Exit.then (rest.wp P (bodyPostD P fn R)) (bodyPostD P fn R)) [df] a w
   |ex=>Exit.then (rest.wp P (bodyPostD P fn R)) (bodyPostD P fn R) ex a w) ?_ ?_ [mk] .start _ sT X1 G6 a1 w1 Es (fun _ _ _ hp=>by cases hp) au h1
 ·unfold wpList at h2⊢
  split at h2
  ·rename_i hw
   rw [if_pos hw]
   refine h2.imp (fun h3=>Oper.ab2 h3 (fun a w hq=>hq) (fun c a w hq=>hq) fun a w hq=>hq) fun ⟨h3,a,w,h4⟩=>⟨h3,a,w,h4⟩
  ·rename_i hw
   rw [if_neg hw]
   exact h2
 ·rintro cs2 a2 w2 BS X2 w02 b6 ⟨pO,fX,D6⟩
  show wpList P pF _ [df] a2 w2
  have DZ:a2.eval (.tmp d')= .func (.func g0) #[] fX:=by
   have:=b6.nS d' hgd
   simp [lp,jQ,this,D6]
  have oy:(execOp a2.eval df).run P w2= .ok (.defer { target:=.fn (.func g0) fX,args:= #[] }) w2:=by
   simp [execOp,Tr,resolve,DZ,iW]
  unfold wpList
  have hw:cf df (yielded pF a2.tmps)=true:=by simp [cf,NI]
  rw [if_pos hw]
  left
  unfold jA
  rw [oy,sU,SN]
  show rest.wp P (bodyPostD P fn R) { a2 with defers:= { target:=.fn (.func g0) fX,args:= #[] } ::a2.defers } w2
  rw [b6.defers]
  have oC:=b6.drop
  have cw:fm pl ⟨[{ target:=.fn (.func g0) fX,args:= #[] }],(qY fn).map fun c=>(c,BS c)⟩ .start BS X2 w02 { a2 with defers:=[{ target:=.fn (.func g0) fX,args:= #[] }] } w2:=
   ⟨oC.size,rfl,fun p hp=>by
    obtain⟨c,hc,rfl⟩:=List.mem_map.1 hp
    have hg:=(hgc c hc).1.1
    exact⟨b6.nS c hg,.inr hg⟩,oC.ext,oC.tC,oC.nS,oC.sig,oC.box,oC.inj,oC.conv,oC.live,oC.ptr⟩
  refine wp_mono (Kd (pl:=pl) (ds:=⟨[{ target:=.fn (.func g0) fX,args:= #[] }],(qY fn).map fun c=>(c,BS c)⟩) rest t2 _ BS X2 w02 _ w2 lS (fun b gC p hp e=>?_) cw pO) fun ex a' w' hq=>?_
  ·obtain⟨c,hc,rfl⟩:=List.mem_map.1 hp
   have h3:=(hgc c hc).1.2
   have e:c=b:=e
   rw [e,wJ.2 gC] at h3
   cases h3
  have hcw: ∀c∈qY fn,¬c∈t2.wr:=fun c hc hm=>by
   have h3:=(hgc c hc).2
   rw [wJ.2 hm] at h3
   cases h3
  have close: ∀(e:Env) (u:FrameMode) (wx:World),u≠ .run→(∀s,¬s∈t2.wr→e s=BS s)→(∀c∈qY fn,a'.tmps[c]? =some (BS c))→
    Er P fn R (((qY fn).map Ex.t++[Ex.t d']).map (·.ev e)) u wx→Leaves P fn a'.tmps R [{ target:=.fn (.func g0) fX,args:= #[] }] u wx:=by
   rintro e u wx hu he htm ⟨vs,g,ag7,Xq,Ts,hcd⟩
   rw [List.map_append,List.map_map,List.map_cons,List.map_nil] at Xq
   obtain⟨CI,Tv⟩:=List.append_inj' Xq rfl
   simp only [List.cons.injEq,and_true] at Tv
   have ahQ:(za (.func g0) #[] fX)= .func (.func g) #[] ag7:=by
    rw [←D6,←he d' hdw];exact Tv
   injection ahQ with IE _ xF
   injection IE with IE
   subst IE;subst xF
   refine leaves_cons hu (f:=g0) (args:=fX) ?_ ?_
   ·simp only [invoke]
    have:=rS Ts (#[]++fX) wx
    simpa using this
   ·refine hcd.mono ?_
    rintro _ u' kW ⟨x,v,rfl,ab0,Ik,hR⟩
    show Leaves P fn a'.tmps R [] (settle u') kW
    rw [ab0]
    refine⟨v,Ik _ fun i c hi=>?_,hR⟩
    have mT:c∈qY fn:=bg hi
    rw [htm c mT,←CI,dQ,hi]
    show some (BS c)=some (e c)
    rw [he c (hcw c mT)]
  have done:(∃env X w0,fm pl ⟨[{ target:=.fn (.func g0) fX,args:= #[] }],(qY fn).map fun c=>(c,BS c)⟩ .start env X w0 a' w'∧K .ret env w0 X∧ ∀s,¬s∈t2.wr→env s=BS s)→Leaves P fn a'.tmps R a'.defers .returning w':=by
   rintro⟨e,X',fi,h5,h6,h7⟩
   rw [h5.defers]
   exact close e .returning w' (by simp) h7 (fun c hc=>(h5.vm (c,BS c) (List.mem_map.2 ⟨c,hc,rfl⟩)).1) (h6 w' h5.ext)
  cases ex with
  |normal=>exact done hq
  |ret=>exact done hq
  |panic ch=>
   obtain⟨h5,e,X',fi,h6,⟨h7,h8⟩,Bz⟩:=hq
   show Leaves P fn a'.tmps R a'.defers (.panicking ch) w'
   rw [h5]
   exact close e (.panicking ch) w' (by simp) h8 (fun c hc=>(Bz (c,BS c) (List.mem_map.2 ⟨c,hc,rfl⟩)).1) (h7 w' h6)
  |exit i=>obtain⟨e,X',fi,h5,h6,_⟩:=hq;exact h6.elim
  |goto i=>obtain⟨e,X',fi,h5,h6,_⟩:=hq;exact h6.elim
  |outgrown=>exact hq.elim
 ·exact fun ch a' w' dT X' fi _ hk _ hq=>(hnp hk hq).elim
end Go.fR
set_option linter.unusedVariables false
set_option linter.unusedSimpArgs false
namespace Go.fR
variable {P : Program} {R : Ending → World → Prop} {X : XS} {w : World} {m : Bool}
theorem afp {t:TypeId} {s:ByteArray} {z:Int} {i:Nat} {N:Value→Prop} (hz:z=i) (hi:i≤s.size) (ht:P.underlying t=some .string) (k:N (.string (s.extract 0 i))):
  aa P X w (dR t (.string s) none (some (.int .i64 z)) none) N:=by
 subst hz
 refine b9 (fun wa=>?_) k
 rw [run_sliceAt_string wa t _ _ _ _ ht,run_slice_string_h wa t s ht .i64 i (by omega) (by omega)]
 rfl
theorem afq {t:TypeId} {s:ByteArray} {z:Int} {i:Nat} {N:Value→Prop} (hz:z=i) (hi:i≤s.size) (ht:P.underlying t=some .string) (k:N (.string (s.extract i s.size))):
  aa P X w (dR t (.string s) (some (.int .i64 z)) none none) N:=by
 subst hz
 refine b9 (fun wa=>?_) k
 rw [run_sliceAt_string wa t _ _ _ _ ht,run_slice_string_l wa t s ht .i64 i (by omega) (by omega)]
 rfl
def rY (s:ByteArray):List Nat:=s.data.toList.map UInt8.toNat
theorem Fx (s:ByteArray):(rY s).length=s.size:=by unfold rY;rw [aS,dy];rfl
theorem aed {s:ByteArray} {x:Nat} (h:x∈rY s):x<256:=by
 obtain⟨b,_,rfl⟩:=List.mem_map.1 h
 exact UInt8.toNat_lt b
theorem aau {src dst e:TypeId} {s:ByteArray} {N:Value→World→XS→Prop} (hX: ∀k,X k→k<w.heap.size) (hl:s.size≤2^62) (hs:P.underlying src=some .string) (hd:P.underlying dst=some (.slice e)) (he:P.underlying e=some (.int .u8))
  (n: ∀v w' X',aj X w X' w'→Sl w' X' 1 v ((rY s).map fun x:Nat=>[.int .u8 (x:Int)])→N v w' X'):eV P R X w m (convert src dst (.string s)) N:=by
 unfold eV eW
 intro wa hk
 unfold kh
 have hr:=run_bytes_of_string (P:=P) wa src dst e s hs hd he
 simp only [vS,bO,hr,bw,ck]
 generalize hC:bytesRow s (grownCap wa s.size 0 e)=C
 have Fu: ∀k,k<wa.heap.size→(wa.drew.alloc (.cells C e (C.size,C.size+1))).heap[k]? =wa.heap[k]? :=fun k hk=>heap_alloc_old wa.drew _ hk
 have hx:Ext wa (wa.drew.alloc (.cells C e (C.size,C.size+1))):=⟨rfl,rfl,rfl,by simp,fun k tG _=>Fu k tG⟩
 have eI:=grownCap_ge wa s.size 0 e
 have m6:grownCap wa s.size 0 e≤maxLen:=grownCap_le_maxLen wa _ 0 e (by simp only [maxLen];omega)
 refine⟨Step.fE hx,n _ _ _ (aj.fE hX hk hx) ?_⟩
 have hlen:((rY s).map fun x:Nat=>[aA .u8 (x:Int)]).length=s.size:=by rw [aS,Fx]
 refine⟨fun r hr=>?_,by rw [hlen];omega,_,_,by rw [hlen],fun _=>⟨wa.heap.size,0,rfl,.inr ⟨bp _,by simp⟩,C,e,_,heap_alloc_new wa.drew _,fun j v hj=>?_⟩,by simp,by rw [hlen];exact eI,m6⟩
 ·obtain⟨x,_,rfl⟩:=List.mem_map.1 hr
  rfl
 ·have hf:((rY s).map fun x:Nat=>[aA .u8 (x:Int)]).flatten=(rY s).map fun x:Nat=>aA .u8 (x:Int):=by
   generalize rY s=l
   induction l with
   |nil=>rfl
   |cons a l ih=>simp only [List.map_cons,dg,List.singleton_append,ih]
  rw [hf,dQ] at hj
  rw [←hC,fH]
  unfold bytesRow
  have eu:j<s.data.size:=by
   cases hq:(rY s)[j]? with
   |none=>rw [hq] at hj;cases hj
   |some x=>
    have:=(List.getElem?_eq_some_iff.1 hq).1
    rw [Fx] at this
    exact this
  rw [Array.getElem?_append_left (by rw [Array.size_map];exact eu),Array.getElem?_map]
  unfold rY at hj
  rw [dQ,Array.getElem?_toList] at hj
  rw [←hj]
  cases s.data[j]? <;>rfl
end Go.fR
namespace Go.Proofs.YtpdkoaklobnegaaGreat
open Go.Proofs.Tryz renaming prog → pg
open Go.fR
set_option maxRecDepth 100000
section
variable (R : Ending → World → Prop) (w0 : World) (X0 : XS)
noncomputable def Du:bI:=⟨169,[],[],[0,1,2,6,7,8,9,10,11,12,13,14,15,16,17,19,38,47,73,77,84,85,115,116,122,123,154,167],[23,24,25,27,28,29,31,32,33,35,36,37,44,45,46,62,63,64,66,67,68,70,71,72,110,111,112,113,114,143,144,145,147,148,149,151,152,153,160,161,162,163,164,165,166],[9,11,13]⟩
def vF (p0:Value) (p1 p2:Int):Prop:=
 (eC pg R X0 w0 true 9 #[] fun a b c=>
 aa pg c b (aY bF a) fun d=>
 (ao d
 (fin R c b (B false))
 ((eC pg R c b true 22 #[p0] fun e g h=>
 aa pg h g (aY bF e) fun i=>
 un (aL i false (I p1)) fun j=>
 aF pg h g i false (vS (binOp .lss 3 j (I 0))) fun k=>
 ay pg h g (aN i (B true) k) fun l=>
 un (aL l false (I p1)) fun m=>
 aF pg h g l false (vS (binOp .gtr 3 m (I 1000))) fun n=>
 ay pg h g (aN l (B true) n) fun o=>
 un (aL o false (I p2)) fun q=>
 aF pg h g o false (vS (binOp .lss 3 q (I 0))) fun r=>
 ay pg h g (aN o (B true) r) fun s=>
 un (aL s false (I p2)) fun t=>
 aF pg h g s false (vS (binOp .gtr 3 t (I 1000))) fun v=>
 ay pg h g (aN s (B true) v) fun y=>
 (ao y
 (eC pg R h g true 9 #[] fun z A C=>
 (fin R C A z))
 ((eC pg R h g true 11 #[] fun D E F=>
 eC pg R F E true 11 #[] fun G H L=>
 (aa pg L H (aI .eql 26 (.tmp 42) (.const (.pointer none)) D (.pointer none)) fun M=>
 un (aL M false G) fun N=>
 aF pg L H M false (vS (aI .eql 26 (.tmp 45) (.const (.pointer none)) N (.pointer none))) fun O=>
 ay pg L H (aN M (B true) O) fun Q=>
 (ao Q
 (fin R L H (B false))
 ((eC pg R L H true 12 #[D,(I 4096),(I p1)] fun S T U=>
 aa pg U T (aE S 0) fun V=>
 aa pg U T (aE S 1) fun Y=>
 (eC pg R U T true 12 #[G,(I 4096),(I p2)] fun Z a0 b0=>
 aa pg b0 a0 (aE Z 0) fun c0=>
 aa pg b0 a0 (aE Z 1) fun d0=>
 (aa pg b0 a0 (aI .eql 28 (.tmp 60) (.const (.pointer none)) V (.pointer none)) fun e0=>
 un (aL e0 false c0) fun g0=>
 aF pg b0 a0 e0 false (vS (aI .eql 28 (.tmp 63) (.const (.pointer none)) g0 (.pointer none))) fun h0=>
 ay pg b0 a0 (aN e0 (B true) h0) fun i0=>
 un (aL i0 false Y) fun j0=>
 aF pg b0 a0 i0 false (vS (aI .neq 29 (.tmp 67) (.const (I 0)) j0 (I 0))) fun k0=>
 ay pg b0 a0 (aN i0 (B true) k0) fun l0=>
 un (aL l0 false d0) fun m0=>
 aF pg b0 a0 l0 false (vS (aI .neq 29 (.tmp 71) (.const (I 0)) m0 (I 0))) fun n0=>
 ay pg b0 a0 (aN l0 (B true) n0) fun o0=>
 (ao o0
 (fin R b0 a0 (B false))
 (((wK b0 a0 (I 0) c0 V 13 11 9 fun q0 r0 s0 t0 v0 y0 z0=>
 aa pg z0 y0 (cr 66 3 p0) fun A0=>
 aa pg z0 y0 (binOp .lss 3 s0 A0) fun C0=>
 (ao C0
 ((aa pg z0 y0 (dx 66 39 p0 s0) fun D0=>
 aa pg z0 y0 (aQ 70 0 0 1 D0) fun E0=>
 aa pg z0 y0 (aX 3 E0) fun F0=>
 ((jn (fun (G0 H0:Value) (L0:World) (M0:XS)=>
 (eC pg R M0 L0 true 19 #[G0] fun N0 O0 Q0=>
 eC pg R Q0 O0 true 19 #[H0] fun S0 T0 U0=>
 aa pg U0 T0 (aI .neq 35 (.tmp 156) (.tmp 158) N0 S0) fun V0=>
 un (aL V0 false G0) fun Y0=>
 jn (fun (Z0:Value) (a1:World) (b1:XS)=>
 un (aL V0 false H0) fun c1=>
 jn (fun (d1:Value) (e1:World) (g1:XS)=>
 jn (fun (h1:Value) (i1:World) (j1:XS)=>
 aF pg j1 i1 V0 false (vS (aY bF h1)) fun k1=>
 ay pg j1 i1 (aN V0 (B true) k1) fun l1=>
 (ao l1
 (fin R j1 i1 (B false))
 (((aa pg j1 i1 (binOp .add 3 s0 (I 1)) fun m1=>
 wL q0 r0 m1 H0 G0 i1 j1))))) fun n1=>
 (gE V0 false (eC pg R g1 e1 true 18 #[Z0,d1] n1) (n1 undef e1 g1))) fun o1=>
 (gE V0 false (eC pg R b1 a1 true 14 #[c1] o1) (o1 undef a1 b1))) fun q1=>
 (gE V0 false (eC pg R U0 T0 true 14 #[Y0] q1) (q1 undef T0 U0)))) fun r1=>
 aa pg z0 y0 (aI .eql 3 (.tmp 84) (.const (I 1)) F0 (I 1)) fun s1=>
 (ao s1
 (aa pg z0 y0 (dx 66 39 p0 s0) fun t1=>
 aa pg z0 y0 (aQ 70 2 2 36 t1) fun v1=>
 aa pg z0 y0 (gL 48 36 v1) fun y1=>
 eC pg R z0 y0 true 15 #[v0,y1] fun z1 A1 C1=>
 aa pg C1 A1 (aE z1 0) fun D1=>
 aa pg C1 A1 (aE z1 1) fun E1=>
 (aa pg C1 A1 (dx 66 39 p0 s0) fun F1=>
 aa pg C1 A1 (aQ 70 2 2 36 F1) fun G1=>
 aa pg C1 A1 (gL 48 36 G1) fun H1=>
 eC pg R C1 A1 true 15 #[t0,H1] fun L1 M1 N1=>
 aa pg N1 M1 (aE L1 0) fun O1=>
 aa pg N1 M1 (aE L1 1) fun Q1=>
 (aa pg N1 M1 (aI .neq 29 (.tmp 107) (.tmp 108) E1 Q1) fun S1=>
 un (aL S1 false D1) fun T1=>
 un (aL S1 false O1) fun U1=>
 jn (fun (V1:Value) (Y1:World) (Z1:XS)=>
 aF pg Z1 Y1 S1 false (vS (aY bF V1)) fun a2=>
 ay pg Z1 Y1 (aN S1 (B true) a2) fun b2=>
 (ao b2
 (fin R Z1 Y1 (B false))
 (r1 v0 t0 Y1 Z1))) fun c2=>
 (gE S1 false (eC pg R N1 M1 true 27 #[T1,U1] c2) (c2 undef M1 N1)))))
 (aa pg z0 y0 (aI .eql 3 (.tmp 84) (.const (I 2)) F0 (I 2)) fun d2=>
 (ao d2
 (eC pg R z0 y0 true 16 #[v0] fun e2 g2 h2=>
 eC pg R h2 g2 true 16 #[t0] fun i2 j2 k2=>
 aa pg k2 j2 (aI .neq 29 (.tmp 119) (.tmp 121) e2 i2) fun l2=>
 (ao l2
 (fin R k2 j2 (B false))
 (r1 v0 t0 j2 k2)))
 (aa pg z0 y0 (aI .eql 3 (.tmp 84) (.const (I 4)) F0 (I 4)) fun m2=>
 (ao m2
 (eC pg R z0 y0 true 28 #[D,(.slice none 0 0)] fun _ n2 o2=>
 (eC pg R o2 n2 true 28 #[G,(.slice none 0 0)] fun _ q2 r2=>
 (eC pg R r2 q2 true 12 #[D,(I 4096),(I p1)] fun s2 t2 v2=>
 aa pg v2 t2 (aE s2 0) fun y2=>
 aa pg v2 t2 (aE s2 1) fun z2=>
 (eC pg R v2 t2 true 12 #[G,(I 4096),(I p2)] fun A2 C2 D2=>
 aa pg D2 C2 (aE A2 0) fun E2=>
 aa pg D2 C2 (aE A2 1) fun F2=>
 (aa pg D2 C2 (aI .eql 28 (.tmp 141) (.const (.pointer none)) y2 (.pointer none)) fun G2=>
 un (aL G2 false E2) fun H2=>
 aF pg D2 C2 G2 false (vS (aI .eql 28 (.tmp 144) (.const (.pointer none)) H2 (.pointer none))) fun L2=>
 ay pg D2 C2 (aN G2 (B true) L2) fun M2=>
 un (aL M2 false z2) fun N2=>
 aF pg D2 C2 M2 false (vS (aI .neq 29 (.tmp 148) (.const (I 0)) N2 (I 0))) fun O2=>
 ay pg D2 C2 (aN M2 (B true) O2) fun Q2=>
 un (aL Q2 false F2) fun S2=>
 aF pg D2 C2 Q2 false (vS (aI .neq 29 (.tmp 152) (.const (I 0)) S2 (I 0))) fun T2=>
 ay pg D2 C2 (aN Q2 (B true) T2) fun U2=>
 (ao U2
 (fin R D2 C2 (B false))
 (r1 y2 E2 C2 D2)))))))
 (r1 v0 t0 y0 z0))))))))))
 (eC pg R z0 y0 true 9 #[] fun V2 Y2 Z2=>
 (fin R Z2 Y2 V2))))))))))))))))))))
def zN:Prop:=
 (eC pg R X0 w0 true 11 #[] fun a b c=>
 (aa pg c b (aI .eql 26 (.tmp 10) (.const (.pointer none)) a (.pointer none)) fun d=>
 (ao d
 (fin R c b (B false))
 ((eC pg R c b true 12 #[a,(I 4096),(I 0)] fun e g h=>
 aa pg h g (aE e 0) fun i=>
 aa pg h g (aE e 1) fun j=>
 (aa pg h g (aI .eql 28 (.tmp 17) (.const (.pointer none)) i (.pointer none)) fun k=>
 un (aL k false j) fun l=>
 aF pg h g k false (vS (aI .neq 29 (.tmp 20) (.const (I 0)) l (I 0))) fun m=>
 ay pg h g (aN k (B true) m) fun n=>
 (ao n
 (fin R h g (B false))
 ((eC pg R h g true 13 #[(I 0),(I 5),(.string { data:= #[97] })] fun o q r=>
 eC pg R r q true 15 #[i,o] fun s t v=>
 aa pg v t (aE s 0) fun y=>
 aa pg v t (aE s 1) fun z=>
 (eC pg R v t true 13 #[(I 4),(I 7),(.string { data:= #[98] })] fun A C D=>
 eC pg R D C true 15 #[i,A] fun E F G=>
 aa pg G F (aE E 0) fun H=>
 aa pg G F (aE E 1) fun L=>
 (eC pg R G F true 14 #[i] fun M N O=>
 (aa pg O N (aI .eql 29 (.tmp 37) (.const (I 0)) z (I 0)) fun Q=>
 un (aL Q true L) fun S=>
 aF pg O N Q true (vS (aI .eql 29 (.tmp 40) (.const (I 0)) S (I 0))) fun T=>
 ay pg O N (aN Q T (B false)) fun U=>
 un (aL U true y) fun V=>
 aF pg O N U true (vS (cr 56 3 V)) fun Y=>
 aF pg O N U true (vS (aI .eql 3 (.tmp 45) (.const (I 1)) Y (I 1))) fun Z=>
 ay pg O N (aN U Z (B false)) fun a0=>
 un (aL a0 true y) fun b0=>
 aF pg O N a0 true (vS (dx 56 36 b0 (I 0))) fun c0=>
 aF pg O N a0 true (vS (aQ 48 0 0 1 c0)) fun d0=>
 aF pg O N a0 true (vS (aX 3 d0)) fun e0=>
 aF pg O N a0 true (vS (aI .eql 3 (.tmp 52) (.const (I 14)) e0 (I 14))) fun g0=>
 ay pg O N (aN a0 g0 (B false)) fun h0=>
 un (aL h0 true y) fun i0=>
 aF pg O N h0 true (vS (dx 56 36 i0 (I 0))) fun j0=>
 aF pg O N h0 true (vS (aQ 48 7 9 3 j0)) fun k0=>
 aF pg O N h0 true (vS (aQ 35 0 0 1 k0)) fun l0=>
 aF pg O N h0 true (vS (aX 3 l0)) fun m0=>
 aF pg O N h0 true (vS (aI .eql 3 (.tmp 60) (.const (I 5)) m0 (I 5))) fun n0=>
 ay pg O N (aN h0 n0 (B false)) fun o0=>
 un (aL o0 true H) fun q0=>
 aF pg O N o0 true (vS (cr 56 3 q0)) fun r0=>
 aF pg O N o0 true (vS (aI .eql 3 (.tmp 65) (.const (I 1)) r0 (I 1))) fun s0=>
 ay pg O N (aN o0 s0 (B false)) fun t0=>
 un (aL t0 true H) fun v0=>
 aF pg O N t0 true (vS (dx 56 36 v0 (I 0))) fun y0=>
 aF pg O N t0 true (vS (aQ 48 7 9 3 y0)) fun z0=>
 aF pg O N t0 true (vS (aQ 35 0 0 1 z0)) fun A0=>
 aF pg O N t0 true (vS (aX 3 A0)) fun C0=>
 aF pg O N t0 true (vS (aI .eql 3 (.tmp 73) (.const (I 5)) C0 (I 5))) fun D0=>
 ay pg O N (aN t0 D0 (B false)) fun E0=>
 un (aL E0 true M) fun F0=>
 aF pg O N E0 true (vS (cr 54 3 F0)) fun G0=>
 aF pg O N E0 true (vS (aI .eql 3 (.tmp 78) (.const (I 1)) G0 (I 1))) fun H0=>
 ay pg O N (aN E0 H0 (B false)) fun L0=>
 un (aL L0 true M) fun M0=>
 aF pg O N L0 true (vS (dx 54 4 M0 (I 0))) fun N0=>
 aF pg O N L0 true (vS (aQ 74 0 0 1 N0)) fun O0=>
 aF pg O N L0 true (vS (aX 9 O0)) fun Q0=>
 aF pg O N L0 true (vS (aI .eql 9 (.tmp 85) (.const (.string { data:= #[97] })) Q0 (.string { data:= #[97] }))) fun S0=>
 ay pg O N (aN L0 S0 (B false)) fun T0=>
 un (aL T0 true i) fun U0=>
 jn (fun (V0:Value) (Y0:World) (Z0:XS)=>
 aF pg Z0 Y0 T0 true (vS (Xh 35 0 0 1 V0)) fun a1=>
 aF pg Z0 Y0 T0 true (vS (aI .eql 3 (.tmp 91) (.const (I 5)) a1 (I 5))) fun b1=>
 ay pg Z0 Y0 (aN T0 b1 (B false)) fun c1=>
 (fin R Z0 Y0 c1)) fun d1=>
 (gE T0 true (eC pg R O N true 19 #[U0] d1) (d1 undef N O))))))))))))))
noncomputable def Dv:bI:=⟨38,[],[],[0,1,4,5,6,15],[11,12,13,14,18],[5,6]⟩
def vG (p0:Value) (p1:Int):Prop:=
 (((lq X0 w0 (I 0) (I 0) 6 5 fun a b c d e g=>
 aa pg g e (cr 23 3 p0) fun h=>
 aa pg g e (binOp .lss 3 c h) fun i=>
 un (aL i true d) fun j=>
 un (aL i true (I p1)) fun k=>
 aF pg g e i true (vS (binOp .leq 3 j k)) fun l=>
 ay pg g e (aN i l (B false)) fun m=>
 (ao m
 ((aa pg g e (dx 23 4 p0 c) fun n=>
 aa pg g e (aQ 53 0 0 1 n) fun o=>
 aa pg g e (aX 9 o) fun q=>
 aa pg g e (nu 9 3 q) fun r=>
 aa pg g e (binOp .add 3 (I 1) r) fun s=>
 aa pg g e (dx 23 4 p0 c) fun t=>
 aa pg g e (aQ 53 1 1 3 t) fun v=>
 aa pg g e (aQ 51 2 2 1 v) fun y=>
 aa pg g e (aX 9 y) fun z=>
 aa pg g e (nu 9 3 z) fun A=>
 eC pg R g e false 40 #[d,s,(I p1)] fun C D E=>
 eC pg R E D true 40 #[C,A,(I p1)] fun F G H=>
 ((aa pg H G (binOp .add 3 c (I 1)) fun L=>
 lr a b L F G H))))
 (fin R g e d)))))
def Lu:Prop:=
 (eV pg R X0 w0 true (kR 104 none) fun a b c=>
 aa pg c b (fF 106 #[a,(I 0),(I 0),(I 0),(B false)] #[(0,a)]) fun d=>
 eV pg R c b true (de 106 d) fun e g h=>
 (fin R h g e))
noncomputable def Tw:bI:=⟨87,[(15,(pg.cellsOf 117))],[62,66,73],[0,1,2,6,7,8,9,10,11,12,13,16,22,30,45,70,72,83,85],[19,20,21,61,63,64,65,67,68,69],[11,12]⟩
def BT (p0:Value) (p1 p2:Int):Prop:=
 (aa pg X0 w0 (binOp .lss 3 (I p2) (I 0)) fun a=>
 un (aL a false (I p2)) fun b=>
 aF pg X0 w0 a false (vS (binOp .gtr 3 b (I 1000))) fun c=>
 ay pg X0 w0 (aN a (B true) c) fun d=>
 (ao d
 ((fin R X0 w0 (az #[(.pointer none),(I 1)])))
 ((eC pg R X0 w0 true 41 #[p0,(.string { data:= #[115,105,110,107] }),(I p1)] fun e g h=>
 aa pg h g (aE e 0) fun i=>
 aa pg h g (aE e 1) fun j=>
 (aa pg h g (aI .neq 29 (.tmp 29) (.const (I 0)) j (I 0)) fun k=>
 (ao k
 ((fin R h g (az #[(.pointer none),j])))
 ((eV pg R h g true (kR 110 none) fun l m n=>
 aa pg n m (fF 112 #[i,(I p2),(I 0),(B false),l,(I 0),(I 0),(I 0),(.slice none 0 0)] #[(0,i),(1,(I p2)),(4,l)]) fun o=>
 eV pg R n m true (de 112 o) fun q r s=>
 (eC pg R s r true 42 #[i] fun t v y=>
 aa pg y v (aI .eql 3 (.tmp 38) (.const (I 1)) t (I 1)) fun z=>
 (eC pg R y v true 42 #[i] fun A C D=>
 (lq D C A z 12 11 fun E F G H L M=>
 eC pg R M L true 43 #[i] fun N O Q=>
 aa pg Q O (binOp .lss 3 G N) fun S=>
 (ao S
 (((jn (fun (T:Value) (U:World) (V:XS)=>
 (aa pg V U (binOp .add 3 G (I 1)) fun Y=>
 lr E F Y T U V)) fun Z=>
 eC pg R Q O true 44 #[i,G] fun a0 b0 c0=>
 aa pg c0 b0 (aE a0 0) fun d0=>
 aa pg c0 b0 (aE a0 1) fun _=>
 (eC pg R c0 b0 true 45 #[d0] fun e0 g0 h0=>
 aa pg h0 g0 (aE e0 0) fun i0=>
 aa pg h0 g0 (aE e0 1) fun j0=>
 un (aJ (ad i0)) fun k0=>
 bz (aB (af (ad i0))==29) (bz (aT (af (ad i0)) one) ((aa pg h0 g0 (aI .neq 29 (.tmp 59) (.const (I 0)) j0 (I 0)) fun l0=>
 bz (ez k0) (un (cellOf k0 0) fun m0=>
 un (aL l0 false m0) fun n0=>
 aF pg h0 g0 l0 false (vS (aI .neq 3 (.tmp 63) (.const (I 11)) n0 (I 11))) fun o0=>
 un (aL l0 false o0) fun q0=>
 un (aL q0 true m0) fun r0=>
 aF pg h0 g0 q0 true (vS (aI .neq 3 (.tmp 67) (.const (I 12)) r0 (I 12))) fun s0=>
 aF pg h0 g0 l0 false (aN q0 s0 (B false)) fun t0=>
 ay pg h0 g0 (aN l0 (B true) t0) fun v0=>
 (ao v0
 ((fin R h0 g0 (az #[(.pointer none),(I 13)])))
 ((aa pg h0 g0 (aY bF H) fun y0=>
 (ao y0
 (bz (ez k0) (aa pg h0 g0 (aI .eql 3 (.tmp 74) (.const (I 12)) m0 (I 12)) fun z0=>
 (bz (ez k0) (un (eQ k0 0 29) fun A0=>
 eC pg R h0 g0 true 46 #[q,A0,z0] fun _ C0 D0=>
 (Z z0 C0 D0)))))
 ((bz (ez k0) (un (eQ k0 0 29) fun E0=>
 eC pg R h0 g0 true 47 #[q,E0] fun F0 G0 H0=>
 aa pg H0 G0 (aY bF F0) fun L0=>
 (ao L0
 ((fin R H0 G0 (az #[(.pointer none),(I 13)])))
 (Z H G0 H0)))))))))))))))))
 (((aa pg Q O (aY bF H) fun M0=>
 (ao M0
 ((fin R Q O (az #[(.pointer none),(I 13)])))
 (((fin R Q O (az #[q,(I 0)]))))))))))))))))))))
noncomputable def IF:bI:=⟨23,[(6,(pg.cellsOf 48)),(7,(pg.cellsOf 48))],[21],[0,1,2,18],[],[]⟩
def zO (p0 p1:Int) (p2:ByteArray):Prop:=
 (aa pg X0 w0 (fF 33 #[(I 1),(I 1),(I p1)] #[(0,(I 1)),(1,(I 1)),(2,(I p1))]) fun a=>
 aa pg X0 w0 (fF 35 #[(I p1),(I 0),(I 1)] #[(0,(I p1)),(2,(I 1))]) fun b=>
 aa pg X0 w0 (fF 51 #[(I 1),(.float .f64 4607182418800017408),(.string ⟨#[]⟩)] #[(0,(I 1)),(1,(.float .f64 4607182418800017408))]) fun c=>
 un (cellOf c 0) fun d=>
 un (cellOf c 1) fun e=>
 un (cellOf c 2) fun g=>
 aa pg X0 w0 (fF 53 #[(.string p2),d,e,g] #[(0,(.string p2)),(1,c)]) fun h=>
 eV pg R X0 w0 true (jc 23 53 4 1 #[(0,h)]) fun i j k=>
 un (cellOf a 0) fun l=>
 un (cellOf a 1) fun m=>
 un (cellOf a 2) fun n=>
 un (cellOf b 0) fun o=>
 un (cellOf b 1) fun q=>
 un (cellOf b 2) fun r=>
 aa pg k j (fF 48 #[(I 12),(I 31),(I 32),l,m,n,(I 0),(I 0),(I 0),o,q,r,(I 0),(I 0),(I 0),(B false),(I 0),(I 0),(.slice none 0 0),(.slice none 0 0),i,(.slice none 0 0),(.slice none 0 0),(.slice none 0 0),(I 0),(I 0),(.float .f64 0),(.float .f64 0),(I 0),(I 0),(I 0),(I 0),(I 0),(I 0),(.slice none 0 0),(.slice none 0 0)] #[(0,(I 12)),(1,(I 31)),(2,(I 32)),(3,a),(7,b),(14,i)]) fun s=>
 un (aJ (ad s)) fun t=>
 bz (aB (af (ad s))==36) (bz (aT (af (ad s)) one) (((jn (fun (v:Value)=>
 bz (ez v) (un (eQ v 0 36) fun y=>
 un (aJ (ad y)) fun z=>
 bz (aB (af (ad y))==36) (bz (aT (af (ad y)) one) (un (eQ z 0 36) fun A=>
 bz (aT [z] ez) (fin R k j A))))) fun C=>
 aa pg k j (binOp .gtr 3 (I p0) (I 0)) fun D=>
 (ao D
 (aa pg k j (fF 35 #[(I p0),(I 0),(I 1)] #[(0,(I p0)),(2,(I 1))]) fun E=>
 bz (ez t) (un (aJ (bb (cd (af (ad t)) 12 (af (ad E))))) fun F=>
 bz (aB (af (ad E))==3) (bz (aT (af (ad E)) one) (C F))))
 (C t)))))))
def zP (p0:Value):Prop:=
 ((ay pg X0 w0 (aH p0) fun a=>
 aa pg X0 w0 (aQ 112 4 4 1 a) fun b=>
 aa pg X0 w0 (aX 110 b) fun c=>
 eC pg R X0 w0 true 49 #[c] fun d e g=>
 eC pg R g e true 48 #[d] fun h i j=>
 aa pg j i (cr 36 3 h) fun k=>
 (lq j i (I 0) (.slice none 0 0) 13 3 fun l m n o q r=>
 aa pg r q (binOp .lss 3 n k) fun s=>
 (ao s
 ((aa pg r q (dx 36 1 h n) fun t=>
 aa pg r q (aX 9 t) fun v=>
 (ay pg r q (aH p0) fun y=>
 aa pg r q (aQ 112 4 4 1 y) fun z=>
 aa pg r q (aX 110 z) fun A=>
 aa pg r q (ek 110 A v false) fun C=>
 un (cellOf C 0) fun D=>
 un (cellOf C 1) fun E=>
 un (cellOf C 2) fun F=>
 aa pg r q (fF 74 #[v,D,E,F] #[(0,v),(1,C)]) fun G=>
 eV pg R r q true (jc 54 74 4 1 #[(0,G)]) fun H L M=>
 eV pg R M L true (iS 54 74 4 48 54 o H) fun N O Q=>
 ((aa pg Q O (binOp .add 3 n (I 1)) fun S=>
 lr l m S N O Q)))))
 (fin R r q o)))))
def BU (p0 p1:Value):Prop:=
 (aa pg X0 w0 (cr 54 3 p0) fun a=>
 aa pg X0 w0 (cr 54 3 p1) fun b=>
 aa pg X0 w0 (aI .neq 3 (.tmp 7) (.tmp 9) a b) fun c=>
 (ao c
 (fin R X0 w0 (B false))
 (((jB X0 w0 (I 0) 5 fun d e g h i=>
 aa pg i h (cr 54 3 p0) fun j=>
 aa pg i h (binOp .lss 3 g j) fun k=>
 (ao k
 ((aa pg i h (dx 54 4 p0 g) fun l=>
 aa pg i h (aQ 74 0 0 1 l) fun m=>
 aa pg i h (aX 9 m) fun n=>
 aa pg i h (dx 54 4 p1 g) fun o=>
 aa pg i h (aQ 74 0 0 1 o) fun q=>
 aa pg i h (aX 9 q) fun r=>
 aa pg i h (aI .neq 9 (.tmp 21) (.tmp 26) n r) fun s=>
 un (aL s false p0) fun t=>
 un (aL s false g) fun v=>
 aF pg i h s false (vS (dx 54 4 t v)) fun y=>
 aF pg i h s false (vS (aQ 74 1 1 3 y)) fun z=>
 aF pg i h s false (vS (gL 51 3 z)) fun A=>
 un (aL s false p1) fun C=>
 aF pg i h s false (vS (dx 54 4 C v)) fun D=>
 aF pg i h s false (vS (aQ 74 1 1 3 D)) fun E=>
 aF pg i h s false (vS (gL 51 3 E)) fun F=>
 jn (fun (G:Value) (H:World) (L:XS)=>
 aF pg L H s false (vS (aY bF G)) fun M=>
 ay pg L H (aN s (B true) M) fun N=>
 (ao N
 (fin R L H (B false))
 (((aa pg L H (binOp .add 3 g (I 1)) fun O=>
 jC d e O H L))))) fun Q=>
 (gE s false (eC pg R i h true 25 #[A,F] Q) (Q undef h i))))
 (fin R i h (B true))))))))
def AD (p0:Value):Prop:=
 (ay pg X0 w0 (aH p0) fun a=>
 aa pg X0 w0 (aQ 112 5 5 3 a) fun b=>
 aa pg X0 w0 (gL 35 3 b) fun c=>
 un (aJ (ad c)) fun d=>
 bz (aB (af (ad c))==3) (bz (aT (af (ad c)) one) (un (eQ d 0 3) fun e=>
 bz (aT [d] ez) (fin R X0 w0 e))))
def AE (p0:Value):Prop:=
 (ay pg X0 w0 (aH p0) fun a=>
 aa pg X0 w0 (aQ 106 0 0 1 a) fun b=>
 aa pg X0 w0 (aX 104 b) fun c=>
 eC pg R X0 w0 true 59 #[c] fun d e g=>
 eC pg R g e true 48 #[d] fun h i j=>
 (fin R j i h))
def BV (p0:Value):Prop:=
 (((lq X0 w0 (I 0) (I 0) 4 3 fun a b c d e g=>
 aa pg g e (cr 66 3 p0) fun h=>
 aa pg g e (binOp .lss 3 c h) fun i=>
 un (aL i true c) fun j=>
 aF pg g e i true (vS (binOp .lss 3 j (I 200))) fun k=>
 ay pg g e (aN i k (B false)) fun l=>
 un (aL l true d) fun m=>
 aF pg g e l true (vS (binOp .leq 3 m (I 20000))) fun n=>
 ay pg g e (aN l n (B false)) fun o=>
 (ao o
 ((aa pg g e (dx 66 39 p0 c) fun q=>
 aa pg g e (aQ 70 2 2 36 q) fun r=>
 aa pg g e (gL 48 36 r) fun s=>
 eC pg R g e true 61 #[s,(I 20000)] fun t v y=>
 aa pg y v (binOp .add 3 d t) fun z=>
 ((aa pg y v (binOp .add 3 c (I 1)) fun A=>
 lr a b A z v y))))
 (((aa pg g e (cr 66 3 p0) fun C=>
 aa pg g e (binOp .leq 3 C (I 200)) fun D=>
 un (aL D true d) fun E=>
 aF pg g e D true (vS (binOp .leq 3 E (I 20000))) fun F=>
 ay pg g e (aN D F (B false)) fun G=>
 (fin R g e G))))))))
noncomputable def Et:bI:=⟨28,[],[],[0,1,4,5,6,15],[11,12,13,14],[5,6]⟩
def wM (p0:Value) (p1:Int):Prop:=
 (((lq X0 w0 (I 0) (I 0) 6 5 fun a b c d e g=>
 aa pg g e (cr 36 3 p0) fun h=>
 aa pg g e (binOp .lss 3 c h) fun i=>
 un (aL i true d) fun j=>
 un (aL i true (I p1)) fun k=>
 aF pg g e i true (vS (binOp .leq 3 j k)) fun l=>
 ay pg g e (aN i l (B false)) fun m=>
 (ao m
 ((aa pg g e (dx 36 1 p0 c) fun n=>
 aa pg g e (aX 9 n) fun o=>
 aa pg g e (nu 9 3 o) fun q=>
 aa pg g e (binOp .add 3 (I 1) q) fun r=>
 eC pg R g e true 40 #[d,r,(I p1)] fun s t v=>
 ((aa pg v t (binOp .add 3 c (I 1)) fun y=>
 lr a b y s t v))))
 (fin R g e d)))))
noncomputable def Ml:bI:=⟨24,[(2,(pg.cellsOf 51)),(3,(pg.cellsOf 51))],[5,7,11,13,18,20],[0,1,4],[10,12,14,15,17,19,21,22],[]⟩
def BW (bf:Int) (bB:Nat) (bD:ByteArray) (dE:Int) (dJ:Nat) (dL:ByteArray):Prop:=
 (aa pg X0 w0 (aI .eql 3 (.tmp 6) (.tmp 8) (I bf) (I dE)) fun a=>
 un (aL a true (.string bD)) fun b=>
 un (aL a true (.string dL)) fun c=>
 aF pg X0 w0 a true (vS (aI .eql 9 (.tmp 12) (.tmp 14) b c)) fun d=>
 ay pg X0 w0 (aN a d (B false)) fun e=>
 un (aL e true (.float .f64 bB)) fun g=>
 un (aL e true (.float .f64 dJ)) fun h=>
 jn (fun (i:Value) (j:World) (k:XS)=>
 ay pg k j (aN e i (B false)) fun l=>
 (fin R k j l)) fun m=>
 (gE e true (eC pg R X0 w0 true 63 #[g,h] m) (m undef w0 X0)))
def CJ (p0 p1:Value):Prop:=
 (aa pg X0 w0 (cr 56 3 p0) fun a=>
 aa pg X0 w0 (cr 56 3 p1) fun b=>
 aa pg X0 w0 (aI .neq 3 (.tmp 7) (.tmp 9) a b) fun c=>
 (ao c
 (fin R X0 w0 (B false))
 (((jB X0 w0 (I 0) 5 fun d e g h i=>
 aa pg i h (cr 56 3 p0) fun j=>
 aa pg i h (binOp .lss 3 g j) fun k=>
 (ao k
 ((aa pg i h (dx 56 36 p0 g) fun l=>
 aa pg i h (gL 48 36 l) fun m=>
 aa pg i h (dx 56 36 p1 g) fun n=>
 aa pg i h (gL 48 36 n) fun o=>
 eC pg R i h true 64 #[m,o] fun q r s=>
 aa pg s r (aY bF q) fun t=>
 (ao t
 (fin R s r (B false))
 (((aa pg s r (binOp .add 3 g (I 1)) fun v=>
 jC d e v r s))))))
 (fin R i h (B true))))))))
def zQ (p0 p1:Value):Prop:=
 (eC pg R X0 w0 true 20 #[p0] fun a b c=>
 aa pg c b (cr 36 3 a) fun d=>
 (lq c b (I 0) (I 0) 13 4 fun e g h i j k=>
 aa pg k j (binOp .lss 3 h d) fun l=>
 (ao l
 (((jn (fun (m:Value) (n:World) (o:XS)=>
 (aa pg o n (binOp .add 3 h (I 1)) fun q=>
 lr e g q m n o)) fun r=>
 aa pg k j (dx 36 1 a h) fun s=>
 aa pg k j (aX 9 s) fun t=>
 (ay pg k j (aH p0) fun v=>
 aa pg k j (aQ 106 0 0 1 v) fun y=>
 aa pg k j (aX 104 y) fun z=>
 aa pg k j (ek 104 z t false) fun A=>
 (ay pg k j (aH A) fun C=>
 aa pg k j (aQ 141 0 0 1 C) fun D=>
 aa pg k j (aX 95 D) fun E=>
 aa pg k j (cr 95 3 E) fun F=>
 ay pg k j (aH A) fun G=>
 aa pg k j (aQ 141 1 1 1 G) fun H=>
 aa pg k j (aX 3 H) fun L=>
 aa pg k j (binOp .sub 3 F L) fun M=>
 (aa pg k j (aI .eql 3 (.tmp 33) (.const (I 0)) M (I 0)) fun N=>
 (ao N
 (r i j k)
 ((((jn (fun (O:Value)=>
 aa pg k j (binOp .add 3 i (I 1)) fun Q=>
 (ay pg k j (aH p0) fun S=>
 aa pg k j (aQ 106 1 1 1 S) fun T=>
 aa pg k j (aX 3 T) fun U=>
 aa pg k j (binOp .sub 3 M O) fun V=>
 aa pg k j (binOp .sub 3 U V) fun Y=>
 ay pg k j (aH p0) fun Z=>
 aa pg k j (aQ 106 1 1 1 Z) fun a0=>
 eU pg R k j true (eo 3 1 a0 Y) fun _ b0 c0=>
 (ay pg c0 b0 (aH A) fun d0=>
 aa pg c0 b0 (aQ 141 0 0 1 d0) fun e0=>
 aa pg c0 b0 (aX 95 e0) fun g0=>
 ay pg c0 b0 (aH A) fun h0=>
 aa pg c0 b0 (aQ 141 1 1 1 h0) fun i0=>
 aa pg c0 b0 (aX 3 i0) fun j0=>
 aa pg c0 b0 (binOp .add 3 j0 O) fun k0=>
 ay pg c0 b0 (aH A) fun l0=>
 aa pg c0 b0 (aQ 141 1 1 1 l0) fun m0=>
 aa pg c0 b0 (aX 3 m0) fun n0=>
 aa pg c0 b0 (binOp .add 3 n0 O) fun o0=>
 aa pg c0 b0 (dR 95 g0 none (some k0) (some o0)) fun q0=>
 ay pg c0 b0 (aH A) fun r0=>
 aa pg c0 b0 (aQ 141 0 0 1 r0) fun s0=>
 eU pg R c0 b0 true (eo 95 1 s0 q0) fun _ t0 v0=>
 (ay pg v0 t0 (aH A) fun y0=>
 aa pg v0 t0 (aQ 141 0 0 1 y0) fun z0=>
 aa pg v0 t0 (aX 95 z0) fun A0=>
 aa pg v0 t0 (cr 95 3 A0) fun C0=>
 ay pg v0 t0 (aH A) fun D0=>
 aa pg v0 t0 (aQ 141 1 1 1 D0) fun E0=>
 eU pg R v0 t0 true (eo 3 1 E0 C0) fun _ F0 G0=>
 (r Q F0 G0))))) fun H0=>
 aa pg k j (cr 22 3 p1) fun L0=>
 aa pg k j (binOp .lss 3 i L0) fun M0=>
 un (aL M0 true p1) fun N0=>
 un (aL M0 true i) fun O0=>
 aF pg k j M0 true (vS (dx 22 1 N0 O0)) fun Q0=>
 aF pg k j M0 true (vS (aX 3 Q0)) fun S0=>
 aF pg k j M0 true (vS (binOp .geq 3 S0 (I 0))) fun T0=>
 ay pg k j (aN M0 T0 (B false)) fun U0=>
 (ao U0
 (aa pg k j (dx 22 1 p1 i) fun V0=>
 aa pg k j (aX 3 V0) fun Y0=>
 aa pg k j (binOp .add 3 M (I 1)) fun Z0=>
 aa pg k j (binOp .rem 3 Y0 Z0) fun a1=>
 (H0 a1))
 (H0 (I 0))))))))))))))
 (((ay pg k j (aH p0) fun b1=>
 aa pg k j (aQ 106 4 4 1 b1) fun c1=>
 eU pg R k j true (eo 4 1 c1 (B false)) fun _ d1 e1=>
 (ay pg e1 d1 (aH p0) fun g1=>
 aa pg e1 d1 (aQ 106 3 3 1 g1) fun h1=>
 eU pg R e1 d1 true (eo 3 1 h1 (I 0)) fun _ i1 j1=>
 fin R j1 i1 (az #[]))))))))
noncomputable def Pu:bI:=⟨20,[],[],[0,1,2,6,14],[10,11,12,13],[]⟩
def Eu (p0 p1 p2:Int):Prop:=
 (aa pg X0 w0 (binOp .gtr 3 (I p1) (I p2)) fun a=>
 un (aL a false (I p0)) fun b=>
 un (aL a false (I p2)) fun c=>
 aF pg X0 w0 a false (vS (binOp .gtr 3 b c)) fun d=>
 ay pg X0 w0 (aN a (B true) d) fun e=>
 (ao e
 (aa pg X0 w0 (binOp .add 3 (I p2) (I 1)) fun g=>
 (fin R X0 w0 g))
 ((aa pg X0 w0 (binOp .add 3 (I p0) (I p1)) fun h=>
 (fin R X0 w0 h)))))
noncomputable def V6:bI:=⟨79,[],[],[0,1,2,6,7,9,10,12,13,14,15,16,22,26,33,42,43,44,45,52,58,66,70,76],[29,30,31],[44]⟩
def Dw (p0:Value) (p1:ByteArray) (p2:Int):Prop:=
 (eC pg R X0 w0 true 79 #[(.string p1),(I 1)] fun a b c=>
 aa pg c b (aE a 0) fun _=>
 aa pg c b (aE a 1) fun d=>
 (aa pg c b (aI .neq 29 (.tmp 23) (.const (I 0)) d (I 0)) fun e=>
 (ao e
 ((fin R c b (az #[(.pointer none),d])))
 (aa pg c b (binOp .lss 3 (I p2) (I 64)) fun g=>
 un (aL g false (I p2)) fun h=>
 aF pg c b g false (vS (binOp .gtr 3 h (I 262144))) fun i=>
 ay pg c b (aN g (B true) i) fun j=>
 (ao j
 ((fin R c b (az #[(.pointer none),(I 1)])))
 (eC pg R c b true 80 #[p0] fun k l m=>
 (ao k
 ((fin R m l (az #[(.pointer none),(I 12)])))
 (((aa pg m l (fF 158 #[p0,(.string p1),(I p2),(.slice none 0 0),(I 0)] #[(0,p0),(1,(.string p1)),(2,(I p2))]) fun n=>
 eV pg R m l true (de 158 n) fun o q r=>
 (eC pg R r q true 20 #[p0] fun s t v=>
 aa pg v t (cr 36 3 s) fun y=>
 (jB v t (I 0) 44 fun z A C D E=>
 aa pg E D (binOp .lss 3 C y) fun F=>
 (ao F
 (((jn (fun (G:World) (H:XS)=>
 (aa pg H G (binOp .add 3 C (I 1)) fun L=>
 jC z A L G H)) fun M=>
 aa pg E D (dx 36 1 s C) fun N=>
 aa pg E D (aX 9 N) fun O=>
 (eC pg R E D true 81 #[(.string p1),O] fun Q S T=>
 (aa pg T S (aI .eql 3 (.tmp 51) (.const (I 0)) Q (I 0)) fun U=>
 (ao U
 (M S T)
 ((eC pg R T S true 82 #[o,Q,O] fun V Y Z=>
 (aa pg Z Y (aI .neq 29 (.tmp 57) (.const (I 0)) V (I 0)) fun a0=>
 (ao a0
 ((fin R Z Y (az #[(.pointer none),V])))
 (M Y Z)))))))))))
 (((ay pg E D (aH o) fun b0=>
 aa pg E D (aQ 158 3 3 1 b0) fun c0=>
 aa pg E D (aX 156 c0) fun d0=>
 aa pg E D (cr 156 3 d0) fun e0=>
 aa pg E D (aI .eql 3 (.tmp 65) (.const (I 0)) e0 (I 0)) fun g0=>
 (ao g0
 (eC pg R E D true 83 #[o,(I 1)] fun h0 i0 j0=>
 (aa pg j0 i0 (aI .neq 29 (.tmp 69) (.const (I 0)) h0 (I 0)) fun k0=>
 (ao k0
 ((fin R j0 i0 (az #[(.pointer none),h0])))
 (((fin R j0 i0 (az #[o,(I 0)])))))))
 ((eC pg R E D true 84 #[o] fun l0 m0 n0=>
 (aa pg n0 m0 (aI .neq 29 (.tmp 75) (.const (I 0)) l0 (I 0)) fun o0=>
 (ao o0
 ((fin R n0 m0 (az #[(.pointer none),l0])))
 (((fin R n0 m0 (az #[o,(I 0)])))))))))))))))))))))))))
def BX (p0:Value):Prop:=
 (ay pg X0 w0 (aH p0) fun a=>
 aa pg X0 w0 (aQ 158 3 3 1 a) fun b=>
 aa pg X0 w0 (aX 156 b) fun c=>
 aa pg X0 w0 (dx 156 1 c (I 0)) fun d=>
 aa pg X0 w0 (aX 164 d) fun e=>
 ay pg X0 w0 (aH e) fun g=>
 aa pg X0 w0 (aQ 163 0 0 1 g) fun h=>
 aa pg X0 w0 (aX 3 h) fun i=>
 (fin R X0 w0 i))
def CK (p0:Value):Prop:=
 (eC pg R X0 w0 true 85 #[p0] fun a b c=>
 ay pg c b (aH a) fun d=>
 aa pg c b (aQ 163 0 0 1 d) fun e=>
 aa pg c b (aX 3 e) fun g=>
 eC pg R c b false 85 #[p0] fun h i j=>
 ay pg j i (aH h) fun k=>
 aa pg j i (aQ 163 1 1 1 k) fun l=>
 aa pg j i (aX 161 l) fun m=>
 aa pg j i (cr 161 3 m) fun n=>
 aa pg j i (binOp .add 3 g n) fun o=>
 (fin R j i o))
noncomputable def NK:bI:=⟨19,[],[],[0,1,4,5,15],[10,11,12,13,14],[]⟩
def CL (p0:Value) (p1:Int):Prop:=
 (eC pg R X0 w0 true 42 #[p0] fun a b c=>
 aa pg c b (binOp .lss 3 (I p1) a) fun d=>
 un (aL d false (I p1)) fun e=>
 un (aL d false p0) fun g=>
 jn (fun (h:Value) (i:World) (j:XS)=>
 aF pg j i d false (vS (binOp .geq 3 e h)) fun k=>
 ay pg j i (aN d (B true) k) fun l=>
 (ao l
 ((fin R j i (az #[(.slice none 0 0),(I 8)])))
 ((eC pg R j i true 86 #[p0,(I p1)] fun m n o=>
 (fin R o n (az #[m,(I 0)])))))) fun q=>
 (gE d false (eC pg R c b true 43 #[g] q) (q undef b c)))
noncomputable def KE:bI:=⟨31,[(4,(pg.cellsOf 117)),(7,(pg.cellsOf 74))],[11,15,26,28],[0,1,2,9,16,17,18,19],[],[18]⟩
def AF (p0:Value) (_p1_0 _p1_1 _p1_2 _p1_3 iQ iR je _p1_7 _p1_8 _p1_9:Int) (_p1_10:Bool) (_p1_11:Int) (_p1_12:Nat) (_p1_13 _p1_14 _p1_15 jZ:Value) (_p1_17 _p1_18:Int) (_p1_19 _p1_20:Nat) (_p1_21 _p1_22 _p1_23 _p1_24 _p1_25 _p1_26:Int) (_p1_27 _p1_28:Value) (p2:Bool):Prop:=
 (aa pg X0 w0 (aY bF (B p2)) fun a=>
 (ao a
 (fin R X0 w0 (az #[]))
 ((ay pg X0 w0 (aH p0) fun b=>
 aa pg X0 w0 (aQ 112 5 5 3 b) fun c=>
 eU pg R X0 w0 true (eo 35 3 c (.agg #[(I iQ),(I iR),(I je)])) fun _ d e=>
 (aa pg e d (cr 54 3 jZ) fun g=>
 (jB e d (I 0) 18 fun h i j k l=>
 aa pg l k (binOp .lss 3 j g) fun m=>
 (ao m
 ((aa pg l k (dx 54 4 jZ j) fun n=>
 aa pg l k (gL 74 4 n) fun o=>
 un (aJ (ad o)) fun q=>
 bz (aB (af (ad o))==4) (bz (aT (af (ad o)) one) ((ay pg l k (aH p0) fun r=>
 aa pg l k (aQ 112 4 4 1 r) fun s=>
 aa pg l k (aX 110 s) fun t=>
 bz (ez q) (un (cellOf q 0) fun v=>
 un (eQ q 1 3) fun y=>
 eU pg R l k true (gJ 110 t v y) fun _ z A=>
 ((aa pg A z (binOp .add 3 j (I 1)) fun C=>
 jC h i C z A))))))))
 (fin R l k (az #[])))))))))
noncomputable def KF:bI:=⟨37,[(3,(pg.cellsOf 117))],[5,8,16,18,20,23,31],[0,1,4,7,14],[30,32,33,34,35],[]⟩
def AG (p0:Value) (dE dJ dL gX iQ iR je jf lH km:Int) (_p1_10:Bool) (_p1_11:Int) (_p1_12:Nat) (_p1_13 j5 _p1_15 jZ:Value) (_p1_17 _p1_18:Int) (_p1_19 _p1_20:Nat) (_p1_21 _p1_22 _p1_23 _p1_24 _p1_25 _p1_26:Int) (_p1_27 _p1_28:Value):Prop:=
 (aa pg X0 w0 (aI .eql 3 (.tmp 6) (.const (I 11)) (I dE) (I 11)) fun a=>
 (ao a
 (ay pg X0 w0 (aH p0) fun b=>
 aa pg X0 w0 (aQ 112 5 5 3 b) fun c=>
 aa pg X0 w0 (gL 35 3 c) fun d=>
 aa pg X0 w0 (aI .neq 35 (.tmp 9) (.tmp 13) (.agg #[(I jf),(I lH),(I km)]) d) fun e=>
 (ao e
 (fin R X0 w0 (B false))
 ((eC pg R X0 w0 true 55 #[p0,(.agg #[(I dJ),(I dL),(I gX)]),(.agg #[(I iQ),(I iR),(I je)]),j5] fun _ g h=>
 (fin R h g (B true))))))
 ((ay pg X0 w0 (aH p0) fun i=>
 aa pg X0 w0 (aQ 112 5 5 3 i) fun j=>
 aa pg X0 w0 (gL 35 3 j) fun k=>
 aa pg X0 w0 (aI .eql 35 (.tmp 24) (.tmp 28) (.agg #[(I iQ),(I iR),(I je)]) k) fun l=>
 un (aL l true jZ) fun m=>
 un (aL l true p0) fun n=>
 jn (fun (o:Value) (q:World) (r:XS)=>
 jn (fun (s:Value) (t:World) (v:XS)=>
 ay pg v t (aN l s (B false)) fun y=>
 (fin R v t y)) fun z=>
 (gE l true (eC pg R r q true 93 #[m,o,(za (gD 94) #[] #[])] z) (z undef q r))) fun A=>
 (gE l true (eC pg R X0 w0 false 14 #[n] A) (A undef w0 X0))))))
def j6 (p0:Value):Prop:=
 eV pg R X0 w0 true (de 110 p0) fun a b c=>
 (aa pg c b (cE (gD 98) #[] #[a]) fun d=>
 (fin R c b d))
noncomputable def V7:bI:=⟨34,[(1,(pg.cellsOf 48)),(3,(pg.cellsOf 48))],[14,19],[0,2,4,10,13],[18,20,21,22,24,25,26,27,29,30,31,32],[]⟩
def Dx (bf bB bD bT cm cn cq cy dp cQ bX bV dq cZ cW:Int) (cX:Bool) (da dc:Int) (cG cC cH cI cJ cY:Value) (cK cR:Int) (cS cT:Nat) (cU gh gk gm gn gp:Int) (gq gr:Value):Prop:=
 (eC pg R X0 w0 true 99 #[(.agg #[(I bf),(I bB),(I bD),(I bT),(I cm),(I cn),(I cq),(I cy),(I dp),(I cQ),(I bX),(I bV),(I dq),(I cZ),(I cW),(B cX),(I da),(I dc),cG,cC,cH,cI,cJ,cY,(I cK),(I cR),(.float .f64 cS),(.float .f64 cT),(I cU),(I gh),(I gk),(I gm),(I gn),(I gp),gq,gr])] fun a b c=>
 aa pg c b (aE a 0) fun d=>
 aa pg c b (aE a 1) fun e=>
 un (aJ (ad d)) fun g=>
 bz (aB (af (ad d))==36) (bz (aT (af (ad d)) one) ((aa pg c b (aY bF e) fun h=>
 (ao h
 (fin R c b (I 7))
 (eC pg R c b true 100 #[(I bB)] fun i j k=>
 aa pg k j (aY bF i) fun l=>
 un (aL l false (I bD)) fun m=>
 jn (fun (n:Value) (o:World) (q:XS)=>
 aF pg q o l false (vS (aY bF n)) fun r=>
 ay pg q o (aN l (B true) r) fun s=>
 bz (ez g) (un (eQ g 0 36) fun t=>
 un (aL s false t) fun v=>
 jn (fun (y:Value) (z:World) (A:XS)=>
 aF pg A z s false (vS (aY bF y)) fun C=>
 ay pg A z (aN s (B true) C) fun D=>
 un (aL D false (.agg #[(I bf),(I bB),(I bD),(I bT),(I cm),(I cn),(I cq),(I cy),(I dp),(I cQ),(I bX),(I bV),(I dq),(I cZ),(I cW),(B cX),(I da),(I dc),cG,cC,cH,cI,cJ,cY,(I cK),(I cR),(.float .f64 cS),(.float .f64 cT),(I cU),(I gh),(I gk),(I gm),(I gn),(I gp),gq,gr])) fun E=>
 jn (fun (F:Value) (G:World) (H:XS)=>
 aF pg H G D false (vS (aY bF F)) fun L=>
 ay pg H G (aN D (B true) L) fun M=>
 (ao M
 (fin R H G (I 4))
 (fin R H G (I 0)))) fun N=>
 (gE D false (eC pg R A z true 102 #[E] N) (N undef z A))) fun O=>
 (gE s false (eC pg R q o true 101 #[v] O) (O undef o q)))) fun Q=>
 (gE l false (eC pg R k j true 100 #[m] Q) (Q undef j k))))))))
noncomputable def Pv:bI:=⟨37,[(2,(pg.cellsOf 35)),(3,(pg.cellsOf 35))],[7,9,11,13,20,22,25,27],[0,1,4,5,6,15,19,29,33],[],[]⟩
def Ev (bf bB bD dE dJ dL:Int):Prop:=
 (((jn (fun (a b:Value)=>
 (aa pg X0 w0 (binOp .lss 3 a b) fun c=>
 (ao c
 ((fin R X0 w0 (I (-1))))
 (aa pg X0 w0 (binOp .gtr 3 a b) fun d=>
 (ao d
 (fin R X0 w0 (I 1))
 (fin R X0 w0 (I 0))))))) fun e=>
 aa pg X0 w0 (aI .neq 3 (.tmp 16) (.tmp 17) (I bf) (I dE)) fun g=>
 (ao g
 (e (I bf) (I dE))
 (aa pg X0 w0 (aI .neq 3 (.tmp 21) (.tmp 23) (I bB) (I dJ)) fun h=>
 (ao h
 (e (I bB) (I dJ))
 (e (I bD) (I dL))))))))
noncomputable def KG:bI:=⟨36,[(3,(pg.cellsOf 117))],[],[0,1,4,5,6,7,8,15,26],[],[]⟩
def AH (p0:Value) (dE dJ dL gX iQ iR je jf lH km:Int) (jr:Bool) (js:Int) (kI:Nat) (kJ j5 lX jZ:Value) (lY lZ:Int) (l7 kK:Nat) (l8 l9 mc me mf mg:Int) (mh mi:Value):Prop:=
 (eC pg R X0 w0 true 91 #[(.agg #[(I dE),(I dJ),(I dL),(I gX),(I iQ),(I iR),(I je),(I jf),(I lH),(I km),(B jr),(I js),(.float .f64 kI),kJ,j5,lX,jZ,(I lY),(I lZ),(.float .f64 l7),(.float .f64 kK),(I l8),(I l9),(I mc),(I me),(I mf),(I mg),mh,mi])] fun a b c=>
 aa pg c b (aE a 0) fun d=>
 aa pg c b (aE a 1) fun e=>
 (((jn (fun (g h:Value) (i:World) (j:XS)=>
 (jn (fun (k:Value) (l:World) (m:XS)=>
 eC pg R m l true 57 #[p0,k] fun n o q=>
 (fin R q o (az #[h,n]))) fun r=>
 aa pg j i (aI .eql 29 (.tmp 25) (.const (I 0)) g (I 0)) fun s=>
 (ao s
 (ay pg j i (aH p0) fun t=>
 aa pg j i (aQ 112 0 0 1 t) fun v=>
 aa pg j i (aX 107 v) fun y=>
 eC pg R j i true 104 #[y] fun z A C=>
 (r z A C))
 (r g i j)))) fun D=>
 aa pg c b (aI .eql 29 (.tmp 14) (.const (I 0)) e (I 0)) fun E=>
 (ao E
 (ay pg c b (aH p0) fun F=>
 aa pg c b (aQ 112 0 0 1 F) fun G=>
 aa pg c b (aX 107 G) fun H=>
 eC pg R c b true 103 #[H,d] fun L M N=>
 aa pg N M (aE L 0) fun O=>
 aa pg N M (aE L 1) fun Q=>
 (D Q O M N))
 (D e (I 0) b c))))))
noncomputable def IG:bI:=⟨53,[(5,(pg.cellsOf 33)),(6,(pg.cellsOf 35)),(9,(pg.cellsOf 53))],[16,17,24,30,32],[0,1,2,3,10,11,12,13,19],[],[12]⟩
def zR (p0:Value) (dE dJ dL tN tO tP:Int) (p3:Value):Prop:=
 (aa pg X0 w0 (cr 23 3 p3) fun a=>
 (jB X0 w0 (I 0) 12 fun b c d e g=>
 aa pg g e (binOp .lss 3 d a) fun h=>
 (ao h
 (((jn (fun (i:World) (j:XS)=>
 (aa pg j i (binOp .add 3 d (I 1)) fun k=>
 jC b c k i j)) fun l=>
 aa pg g e (dx 23 4 p3 d) fun m=>
 aa pg g e (gL 53 4 m) fun n=>
 un (aJ (ad n)) fun o=>
 bz (aB (af (ad n))==4) (bz (aT (af (ad n)) one) ((bz (ez o) (un (cellOf o 1) fun q=>
 aa pg g e (aI .eql 3 (.tmp 18) (.const (I 0)) q (I 0)) fun r=>
 (ao r
 (ay pg g e (aH p0) fun s=>
 aa pg g e (aQ 112 4 4 1 s) fun t=>
 aa pg g e (aX 110 t) fun v=>
 bz (ez o) (un (cellOf o 0) fun y=>
 eV pg R g e true (jW #[110,9] 0 #[v,y]) fun _ z A=>
 (l z A)))
 ((ay pg g e (aH p0) fun C=>
 aa pg g e (aQ 112 4 4 1 C) fun D=>
 aa pg g e (aX 110 D) fun E=>
 bz (ez o) (un (cellOf o 0) fun F=>
 un (eQ o 1 3) fun G=>
 eU pg R g e true (gJ 110 E F G) fun _ H L=>
 (l H L))))))))))))
 (((ay pg g e (aH p0) fun M=>
 aa pg g e (aQ 112 5 5 3 M) fun N=>
 eU pg R g e true (eo 35 3 N (.agg #[(I tN),(I tO),(I tP)])) fun _ O Q=>
 (ay pg Q O (aH p0) fun S=>
 aa pg Q O (aQ 112 6 8 1 S) fun T=>
 aa pg Q O (aX 63 T) fun U=>
 eC pg R Q O false 60 #[p3] fun V Y Z=>
 aa pg Z Y (fF 73 #[(I dE),(I dJ),(I dL),(I tN),(I tO),(I tP),V] #[(0,(.agg #[(I dE),(I dJ),(I dL)])),(1,(.agg #[(I tN),(I tO),(I tP)])),(2,V)]) fun a0=>
 eV pg R Z Y false (jc 63 73 7 1 #[(0,a0)]) fun b0 c0 d0=>
 eV pg R d0 c0 true (iS 63 73 7 72 63 U b0) fun e0 g0 h0=>
 ay pg h0 g0 (aH p0) fun i0=>
 aa pg h0 g0 (aQ 112 6 8 1 i0) fun j0=>
 eU pg R h0 g0 true (eo 63 1 j0 e0) fun _ k0 l0=>
 fin R l0 k0 (az #[]))))))))
noncomputable def KH:bI:=⟨23,[],[],[0,1,4,6],[],[]⟩
def AI (p0:Value) (p1:Int):Prop:=
 ((jn (fun (a:World) (b:XS)=>
 (fin R b a (I p1))) fun c=>
 aa pg X0 w0 (aI .eql 29 (.tmp 5) (.const (I 12)) (I p1) (I 12)) fun d=>
 (ao d
 (ay pg X0 w0 (aH p0) fun e=>
 aa pg X0 w0 (aQ 112 3 3 1 e) fun g=>
 eU pg R X0 w0 true (eo 4 1 g (B true)) fun _ h i=>
 (aa pg i h (fF 35 #[(I 0),(I 0),(I 0)] #[]) fun j=>
 ay pg i h (aH p0) fun k=>
 aa pg i h (aQ 112 5 5 3 k) fun l=>
 eU pg R i h true (eo 35 3 l j) fun _ m n=>
 ay pg n m (aH p0) fun o=>
 aa pg n m (aQ 112 4 4 1 o) fun q=>
 eU pg R n m true (eo 110 1 q (Value.map none)) fun _ r s=>
 ay pg s r (aH p0) fun t=>
 aa pg s r (aQ 112 6 8 1 t) fun v=>
 eU pg R s r true (eo 63 1 v (.slice none 0 0)) fun _ y z=>
 (aa pg z y (fF 184 #[] #[]) fun A=>
 aa pg z y (Instr.makeInterface 184 A) fun C=>
 eV pg R z y true (Instr.panic C) fun _ D E=>
 (c D E))))
 (c w0 X0))))
noncomputable def NL:bI:=⟨55,[],[],[0,1,4,5,24,45],[12,13,14,15,16,17,18,19,20,21,22,23],[]⟩
def CM (p0:Value) (p1:Int):Prop:=
 (BL X0 w0 fun a b c d=>
 ay pg d c (aH p0) fun e=>
 aa pg d c (aQ 158 3 3 1 e) fun g=>
 aa pg d c (aX 156 g) fun h=>
 aa pg d c (cr 156 3 h) fun i=>
 aa pg d c (binOp .gtr 3 i (I 1)) fun j=>
 un (aL j true p0) fun k=>
 aF pg d c j true (aH k) fun l=>
 aF pg d c j true (vS (aQ 158 3 3 1 l)) fun m=>
 aF pg d c j true (vS (aX 156 m)) fun n=>
 aF pg d c j true (vS (dx 156 1 n (I 1))) fun o=>
 aF pg d c j true (vS (aX 164 o)) fun q=>
 aF pg d c j true (aH q) fun r=>
 aF pg d c j true (vS (aQ 163 0 0 1 r)) fun s=>
 aF pg d c j true (vS (aX 3 s)) fun t=>
 un (aL j true (I p1)) fun v=>
 aF pg d c j true (vS (binOp .leq 3 t v)) fun y=>
 ay pg d c (aN j y (B false)) fun z=>
 (ao z
 ((ay pg d c (aH p0) fun A=>
 aa pg d c (aQ 158 0 0 1 A) fun C=>
 aa pg d c (aX 26 C) fun D=>
 ay pg d c (aH p0) fun E=>
 aa pg d c (aQ 158 1 1 1 E) fun F=>
 aa pg d c (aX 9 F) fun G=>
 ay pg d c (aH p0) fun H=>
 aa pg d c (aQ 158 3 3 1 H) fun L=>
 aa pg d c (aX 156 L) fun M=>
 aa pg d c (dx 156 1 M (I 0)) fun N=>
 aa pg d c (aX 164 N) fun O=>
 ay pg d c (aH O) fun Q=>
 aa pg d c (aQ 163 0 0 1 Q) fun S=>
 aa pg d c (aX 3 S) fun T=>
 eC pg R d c false 106 #[G,T] fun U V Y=>
 eC pg R Y V true 105 #[D,U] fun Z a0 b0=>
 (aa pg b0 a0 (aI .neq 29 (.tmp 44) (.const (I 0)) Z (I 0)) fun c0=>
 (ao c0
 (fin R b0 a0 Z)
 ((ay pg b0 a0 (aH p0) fun d0=>
 aa pg b0 a0 (aQ 158 3 3 1 d0) fun e0=>
 aa pg b0 a0 (aX 156 e0) fun g0=>
 aa pg b0 a0 (dR 156 g0 (some (I 1)) none none) fun h0=>
 ay pg b0 a0 (aH p0) fun i0=>
 aa pg b0 a0 (aQ 158 3 3 1 i0) fun j0=>
 eU pg R b0 a0 true (eo 156 1 j0 h0) fun _ k0 l0=>
 (BM a b k0 l0)))))))
 (fin R d c (I 0))))
def j7 (p0:Value):Prop:=
 eV pg R X0 w0 true (de 104 p0) fun a b c=>
 (aa pg c b (cE (gD 107) #[] #[a]) fun d=>
 (fin R c b d))
def m8 (p0:Value):Prop:=
 (aa pg X0 w0 (aI .eql 23 (.tmp 3) (.const (.slice none 0 0)) p0 (.slice none 0 0)) fun a=>
 (ao a
 (fin R X0 w0 (.slice none 0 0))
 (eV pg R X0 w0 true (jc 23 53 4 0 #[]) fun b c d=>
 eV pg R d c true (iS 23 53 4 48 23 b p0) fun e g h=>
 (fin R h g e))))
noncomputable def HC:bI:=⟨72,[(2,(pg.cellsOf 48))],[7,11,18,25,34,43,55,66],[0,1,4,5,6,51],[47,48,49,50],[5,6]⟩
def yG (_p0_0 _p0_1 _p0_2 _p0_3 _p0_4 _p0_5 _p0_6 _p0_7 _p0_8 _p0_9 _p0_10 _p0_11 _p0_12 _p0_13 _p0_14:Int) (_p0_15:Bool) (_p0_16 _p0_17:Int) (cG cC cH cI cJ cY:Value) (cK cR:Int) (cS cT:Nat) (cU gh gk gm gn gp:Int) (gq gr:Value) (p1:Int):Prop:=
 (eC pg R X0 w0 false 23 #[cG,(I p1)] fun a b c=>
 eC pg R c b true 108 #[cC,(I p1)] fun d e g=>
 eC pg R g e true 40 #[a,d,(I p1)] fun h i j=>
 (eC pg R j i true 10 #[cH,(I p1)] fun k l m=>
 eC pg R m l true 40 #[h,k,(I p1)] fun n o q=>
 (aa pg q o (cr 22 3 cI) fun r=>
 aa pg q o (binOp .add 3 (I p1) (I 1)) fun s=>
 aa pg q o (lG #[3,3] 3 #[r,s]) fun t=>
 eC pg R q o true 40 #[n,t,(I p1)] fun v y z=>
 (aa pg z y (cr 38 3 cJ) fun A=>
 aa pg z y (binOp .add 3 (I p1) (I 1)) fun C=>
 aa pg z y (lG #[3,3] 3 #[A,C]) fun D=>
 eC pg R z y true 40 #[v,D,(I p1)] fun E F G=>
 ((lq G F (I 0) E 6 5 fun H L M N O Q=>
 aa pg Q O (cr 39 3 cY) fun S=>
 aa pg Q O (binOp .lss 3 M S) fun T=>
 un (aL T true N) fun U=>
 un (aL T true (I p1)) fun V=>
 aF pg Q O T true (vS (binOp .leq 3 U V)) fun Y=>
 ay pg Q O (aN T Y (B false)) fun Z=>
 (ao Z
 ((aa pg Q O (dx 39 29 cY M) fun a0=>
 aa pg Q O (gL 117 29 a0) fun b0=>
 eC pg R Q O true 109 #[b0,(I p1)] fun c0 d0 e0=>
 eC pg R e0 d0 true 40 #[N,c0,(I p1)] fun g0 h0 i0=>
 ((aa pg i0 h0 (binOp .add 3 M (I 1)) fun j0=>
 lr H L j0 g0 h0 i0))))
 (((aa pg Q O (binOp .add 3 N (I 1)) fun k0=>
 eC pg R Q O true 110 #[(.agg #[(I cK),(I cR),(.float .f64 cS),(.float .f64 cT),(I cU),(I gh),(I gk),(I gm),(I gn),(I gp),gq,gr]),(I p1)] fun l0 m0 n0=>
 eC pg R n0 m0 true 40 #[k0,l0,(I p1)] fun o0 q0 r0=>
 (fin R r0 q0 o0)))))))))))
noncomputable def uv:bI:=⟨9,[],[],[0,1,4],[],[]⟩
def nN (p0:Value) (p1:ByteArray):Prop:=
 (eC pg R X0 w0 true 371 #[p0,(.string p1)] fun a b c=>
 aa pg c b (binOp .geq 3 a (I 0)) fun d=>
 (fin R c b d))
noncomputable def Fy:bI:=⟨9,[(4,(pg.cellsOf 266))],[],[0,1],[],[]⟩
def xG (p0:Value) (p1:ByteArray):Prop:=
 (aa pg X0 w0 (fF 35 #[(I 0),(I 0),(I 0)] #[]) fun a=>
 eC pg R X0 w0 true 372 #[p0,(.string p1),a,(B true)] fun b c d=>
 un (aJ (ad b)) fun e=>
 bz (aB (af (ad b))==7) (bz (aT (af (ad b)) one) (un (eQ e 0 7) fun g=>
 bz (aT [e] ez) (fin R d c g))))
def oW (p0:Value):Prop:=
 (aa pg X0 w0 (aI .eql 36 (.tmp 3) (.const (.slice none 0 0)) p0 (.slice none 0 0)) fun a=>
 (ao a
 (fin R X0 w0 (.slice none 0 0))
 (eV pg R X0 w0 true (jc 36 9 1 0 #[]) fun b c d=>
 eV pg R d c true (iS 36 9 1 16 36 b p0) fun e g h=>
 (fin R h g e))))
def kZ (p0 p1:Value):Prop:=
 (eC pg R X0 w0 true 379 #[p0,p1] fun a b c=>
 aa pg c b (binOp .geq 3 a (I 0)) fun d=>
 (fin R c b d))
noncomputable def KI:bI:=⟨8,[(2,(pg.cellsOf 53))],[4],[0,1,3],[],[]⟩
def AJ (bf:ByteArray) (_p0_1:Int) (_p0_2:Nat) (_p0_3:ByteArray) (c0:Value):Prop:=
 (aa pg X0 w0 (aX 9 c0) fun a=>
 aa pg X0 w0 (aI .eql 9 (.tmp 5) (.tmp 6) (.string bf) a) fun b=>
 (fin R X0 w0 b))
noncomputable def wv:bI:=⟨19,[],[],[0,1,4,5,7,8,9,16],[],[8]⟩
def oX (p0:Value) (p1:ByteArray):Prop:=
 (aa pg X0 w0 (cr 36 3 p0) fun a=>
 (jB X0 w0 (I 0) 8 fun b c d e g=>
 aa pg g e (binOp .lss 3 d a) fun h=>
 (ao h
 (((aa pg g e (dx 36 1 p0 d) fun i=>
 aa pg g e (aX 9 i) fun j=>
 aa pg g e (aI .eql 9 (.tmp 11) (.tmp 15) (.string p1) j) fun k=>
 (ao k
 (fin R g e d)
 (((aa pg g e (binOp .add 3 d (I 1)) fun l=>
 jC b c l e g)))))))
 ((((fin R g e (I (-1)))))))))
noncomputable def Fz:bI:=⟨41,[(6,(pg.cellsOf 35)),(8,(pg.cellsOf 266)),(9,(pg.cellsOf 266)),(11,(pg.cellsOf 337))],[27,33,35,37,38],[0,1,2,3,19,20,21,22,32],[26,28,29,30,31],[9,21]⟩
def xH (p0:Value) (p1:ByteArray) (tN tO tP:Int) (p3:Bool):Prop:=
 (aa pg X0 w0 (fF 266 #[(.string p1),(I 0),(.float .f64 0),(.string ⟨#[]⟩),(I 0),(I 0),(I 0)] #[(0,(.string p1))]) fun a=>
 un (aJ (ad a)) fun b=>
 bz (aB (af (ad a))==7) (bz (aT (af (ad a)) one) ((ay pg X0 w0 (aH p0) fun c=>
 aa pg X0 w0 (aQ 382 0 0 1 c) fun d=>
 aa pg X0 w0 (aX 379 d) fun e=>
 aa pg X0 w0 (ek 379 e (.string p1) false) fun g=>
 aa pg X0 w0 (cr 286 3 g) fun h=>
 (lq X0 w0 (I 0) b 21 9 fun i j k l m n=>
 aa pg n m (binOp .lss 3 k h) fun o=>
 (ao o
 (((jn (fun (q:Value) (r:World) (s:XS)=>
 (aa pg s r (binOp .add 3 k (I 1)) fun t=>
 lr i j t q r s)) fun v=>
 aa pg n m (dx 286 6 g k) fun y=>
 aa pg n m (gL 337 6 y) fun z=>
 un (aJ (ad z)) fun A=>
 bz (aB (af (ad z))==6) (bz (aT (af (ad z)) one) ((bz (ez A) (un (eQ A 0 3) fun C=>
 un (aL (B p3) false C) fun D=>
 un (aL (B p3) false (.agg #[(I tN),(I tO),(I tP)])) fun E=>
 jn (fun (F:Value) (G:World) (H:XS)=>
 aF pg H G (B p3) false (vS (binOp .leq 3 F (I 0))) fun L=>
 ay pg H G (aN (B p3) (B true) L) fun M=>
 (ao M
 (bz (ez A) (bz (ez l) (un (eQ A 3 3) fun N=>
 un (aJ (bb (cd (af (ad l)) 1 (af (ad N))))) fun O=>
 bz (aB (af (ad N))==3) (bz (aT (af (ad N)) one) (un (aJ (bb (cd (af (ad O)) 4 (af (ad C))))) fun Q=>
 bz (aB (af (ad C))==3) (bz (aT (af (ad C)) one) (v Q G H)))))))
 (v l G H))) fun S=>
 (gE (B p3) false (eC pg R n m true 53 #[D,E] S) (S undef m n)))))))))
 (((bz (ez l) (un (eQ l 0 7) fun T=>
 un (aJ (ad T)) fun U=>
 bz (aB (af (ad T))==7) (bz (aT (af (ad T)) one) (un (eQ U 0 7) fun V=>
 bz (aT [U] ez) (fin R n m V)))))))))))))
def lT (p0 p1:Value):Prop:=
 (aa pg X0 w0 (cr 23 3 p0) fun a=>
 (jB X0 w0 (I 0) 8 fun b c d e g=>
 aa pg g e (binOp .lss 3 d a) fun h=>
 (ao h
 (((aa pg g e (dx 23 4 p0 d) fun i=>
 aa pg g e (gL 53 4 i) fun j=>
 eF pg R g e true p1 #[j] fun k l m=>
 (ao k
 (fin R m l d)
 (((aa pg m l (binOp .add 3 d (I 1)) fun n=>
 jC b c n l m)))))))
 ((((fin R g e (I (-1)))))))))
noncomputable def NM:bI:=⟨10,[],[],[0,1,4],[],[]⟩
def CN (p0 p1:Nat):Prop:=
 (eC pg R X0 w0 true 111 #[(.float .f64 p0)] fun a b c=>
 eC pg R c b true 111 #[(.float .f64 p1)] fun d e g=>
 aa pg g e (aI .eql 196 (.tmp 6) (.tmp 8) a d) fun h=>
 (fin R g e h))
noncomputable def Pw:bI:=⟨142,[(2,(pg.cellsOf 48)),(3,(pg.cellsOf 48))],[8,10,14,16,21,23,28,30,35,37,42,44,49,51,55,57,61,63,68,70,75,77,82,84,88,90,94,96,101,103,108,110,115,117,129,131,136,138],[0,1,4,5,6,7],[13,15,17,18,20,22,24,25,27,29,31,32,34,36,38,39,41,43,45,46,48,50,52,53,60,62,64,65,67,69,71,72,74,76,78,79,81,83,85,86,93,95,97,98,100,102,104,105,107,109,111,112,114,116,118,119,122,123,125,126,128,130,132,133,135,137,139,140],[]⟩
def Ew (bf bB bD bT cm cn cq cy dp cQ bX bV dq cZ cW:Int) (cX:Bool) (da dc:Int) (cG cC cH cI cJ cY:Value) (cK cR:Int) (cS cT:Nat) (cU gh gk gm gn gp:Int) (gq gr:Value) (dE dJ dL gX iQ iR je jf lH km jr js kI kJ j5:Int) (lX:Bool) (jZ lY:Int) (lZ l7 kK l8 l9 mc:Value) (me mf:Int) (mg mh:Nat) (mi ux uy uz uA uB:Int) (uC uD:Value):Prop:=
 (aa pg X0 w0 (aI .eql 3 (.tmp 9) (.tmp 11) (I bf) (I dE)) fun a=>
 un (aL a true (I bB)) fun b=>
 un (aL a true (I dJ)) fun c=>
 aF pg X0 w0 a true (vS (aI .eql 3 (.tmp 15) (.tmp 17) b c)) fun d=>
 ay pg X0 w0 (aN a d (B false)) fun e=>
 un (aL e true (I bD)) fun g=>
 un (aL e true (I dL)) fun h=>
 aF pg X0 w0 e true (vS (aI .eql 3 (.tmp 22) (.tmp 24) g h)) fun i=>
 ay pg X0 w0 (aN e i (B false)) fun j=>
 un (aL j true (.agg #[(I bT),(I cm),(I cn)])) fun k=>
 un (aL j true (.agg #[(I gX),(I iQ),(I iR)])) fun l=>
 aF pg X0 w0 j true (vS (aI .eql 33 (.tmp 29) (.tmp 31) k l)) fun m=>
 ay pg X0 w0 (aN j m (B false)) fun n=>
 un (aL n true (I cq)) fun o=>
 un (aL n true (I je)) fun q=>
 aF pg X0 w0 n true (vS (aI .eql 3 (.tmp 36) (.tmp 38) o q)) fun r=>
 ay pg X0 w0 (aN n r (B false)) fun s=>
 un (aL s true (I cy)) fun t=>
 un (aL s true (I jf)) fun v=>
 aF pg X0 w0 s true (vS (aI .eql 3 (.tmp 43) (.tmp 45) t v)) fun y=>
 ay pg X0 w0 (aN s y (B false)) fun z=>
 un (aL z true (I dp)) fun A=>
 un (aL z true (I lH)) fun C=>
 aF pg X0 w0 z true (vS (aI .eql 29 (.tmp 50) (.tmp 52) A C)) fun D=>
 ay pg X0 w0 (aN z D (B false)) fun E=>
 (aa pg X0 w0 (aI .eql 35 (.tmp 56) (.tmp 58) (.agg #[(I cQ),(I bX),(I bV)]) (.agg #[(I km),(I jr),(I js)])) fun F=>
 un (aL F true (.agg #[(I dq),(I cZ),(I cW)])) fun G=>
 un (aL F true (.agg #[(I kI),(I kJ),(I j5)])) fun H=>
 aF pg X0 w0 F true (vS (aI .eql 35 (.tmp 62) (.tmp 64) G H)) fun L=>
 ay pg X0 w0 (aN F L (B false)) fun M=>
 un (aL M true (B cX)) fun N=>
 un (aL M true (B lX)) fun O=>
 aF pg X0 w0 M true (vS (aI .eql 4 (.tmp 69) (.tmp 71) N O)) fun Q=>
 ay pg X0 w0 (aN M Q (B false)) fun S=>
 un (aL S true (I da)) fun T=>
 un (aL S true (I jZ)) fun U=>
 aF pg X0 w0 S true (vS (aI .eql 3 (.tmp 76) (.tmp 78) T U)) fun V=>
 ay pg X0 w0 (aN S V (B false)) fun Y=>
 un (aL Y true (I dc)) fun Z=>
 un (aL Y true (I lY)) fun a0=>
 aF pg X0 w0 Y true (vS (aI .eql 3 (.tmp 83) (.tmp 85) Z a0)) fun b0=>
 ay pg X0 w0 (aN Y b0 (B false)) fun c0=>
 (eC pg R X0 w0 true 112 #[cG,lZ] fun d0 e0 g0=>
 un (aL d0 true cC) fun h0=>
 un (aL d0 true l7) fun i0=>
 jn (fun (j0:Value) (k0:World) (l0:XS)=>
 ay pg l0 k0 (aN d0 j0 (B false)) fun m0=>
 un (aL m0 true cH) fun n0=>
 un (aL m0 true kK) fun o0=>
 jn (fun (q0:Value) (r0:World) (s0:XS)=>
 ay pg s0 r0 (aN m0 q0 (B false)) fun t0=>
 un (aL t0 true cI) fun v0=>
 un (aL t0 true l8) fun y0=>
 jn (fun (z0:Value) (A0:World) (C0:XS)=>
 ay pg C0 A0 (aN t0 z0 (B false)) fun D0=>
 un (aL D0 true cJ) fun E0=>
 un (aL D0 true l9) fun F0=>
 jn (fun (G0:Value) (H0:World) (L0:XS)=>
 ay pg L0 H0 (aN D0 G0 (B false)) fun M0=>
 (un (aL E true c0) fun N0=>
 ay pg L0 H0 (aN E N0 (B false)) fun O0=>
 un (aL O0 true M0) fun Q0=>
 ay pg L0 H0 (aN O0 Q0 (B false)) fun S0=>
 un (aL S0 true cY) fun T0=>
 un (aL S0 true mc) fun U0=>
 jn (fun (V0:Value) (Y0:World) (Z0:XS)=>
 ay pg Z0 Y0 (aN S0 V0 (B false)) fun a1=>
 un (aL a1 true (.agg #[(I cK),(I cR),(.float .f64 cS),(.float .f64 cT),(I cU),(I gh),(I gk),(I gm),(I gn),(I gp),gq,gr])) fun b1=>
 un (aL a1 true (.agg #[(I me),(I mf),(.float .f64 mg),(.float .f64 mh),(I mi),(I ux),(I uy),(I uz),(I uA),(I uB),uC,uD])) fun c1=>
 jn (fun (d1:Value) (e1:World) (g1:XS)=>
 ay pg g1 e1 (aN a1 d1 (B false)) fun h1=>
 (fin R g1 e1 h1)) fun i1=>
 (gE a1 true (eC pg R Z0 Y0 true 118 #[b1,c1] i1) (i1 undef Y0 Z0))) fun j1=>
 (gE S0 true (eC pg R L0 H0 true 117 #[T0,U0] j1) (j1 undef H0 L0)))) fun k1=>
 (gE D0 true (eC pg R C0 A0 true 116 #[E0,F0] k1) (k1 undef A0 C0))) fun l1=>
 (gE t0 true (eC pg R s0 r0 true 115 #[v0,y0] l1) (l1 undef r0 s0))) fun m1=>
 (gE m0 true (eC pg R l0 k0 true 114 #[n0,o0] m1) (m1 undef k0 l0))) fun n1=>
 (gE d0 true (eC pg R g0 e0 true 113 #[h0,i0] n1) (n1 undef e0 g0)))))
noncomputable def Tx:bI:=⟨11,[],[],[0,2],[6,7,8,9],[]⟩
def IH (p0:ByteArray):Prop:=
 (aa pg X0 w0 (nu 9 3 (.string p0)) fun a=>
 aa pg X0 w0 (binOp .geq 3 a (I 1)) fun b=>
 un (aL b true (.string p0)) fun c=>
 aF pg X0 w0 b true (vS (nu 9 3 c)) fun d=>
 aF pg X0 w0 b true (vS (binOp .leq 3 d (I 20))) fun e=>
 ay pg X0 w0 (aN b e (B false)) fun g=>
 (fin R X0 w0 g))
noncomputable def V8:bI:=⟨24,[],[],[0,1,4,5,6,14],[9,10,11,12,17,18,19],[]⟩
def Lv (p0:ByteArray) (p1:Int):Prop:=
 (aa pg X0 w0 (aI .eql 9 (.tmp 7) (.const (.string { data:= #[] })) (.string p0) (.string { data:= #[] })) fun a=>
 un (aL a false (.string p0)) fun b=>
 aF pg X0 w0 a false (vS (nu 9 3 b)) fun c=>
 aF pg X0 w0 a false (vS (binOp .gtr 3 c (I 11))) fun d=>
 ay pg X0 w0 (aN a (B true) d) fun e=>
 (ao e
 ((fin R X0 w0 (az #[(.string { data:= #[] }),(I 10)])))
 (aa pg X0 w0 (binOp .lss 3 (I p1) (I 1)) fun g=>
 un (aL g false (I p1)) fun h=>
 aF pg X0 w0 g false (vS (binOp .gtr 3 h (I 99999999))) fun i=>
 ay pg X0 w0 (aN g (B true) i) fun j=>
 (ao j
 ((fin R X0 w0 (az #[(.string { data:= #[] }),(I 1)])))
 (((eC pg R X0 w0 true 106 #[(.string p0),(I p1)] fun k l m=>
 (fin R m l (az #[k,(I 0)])))))))))
def AK (p0:Value):Prop:=
 (ay pg X0 w0 (aH p0) fun a=>
 aa pg X0 w0 (aQ 106 4 4 1 a) fun b=>
 aa pg X0 w0 (aX 4 b) fun c=>
 (fin R X0 w0 c))
noncomputable def RF:bI:=⟨54,[],[],[0,1,4,5,7,28,34,35,36,37,45],[14,15,16,17,18,19,20,22,23,24,25,26,27,42,43,44],[5,36]⟩
def G7 (p0 p1:ByteArray):Prop:=
 (aa pg X0 w0 (nu 9 3 (.string p1)) fun a=>
 aa pg X0 w0 (nu 9 3 (.string p0)) fun b=>
 aa pg X0 w0 (binOp .add 3 b (I 9)) fun c=>
 aa pg X0 w0 (aI .neq 3 (.tmp 9) (.tmp 12) a c) fun d=>
 un (aL d false (.string p1)) fun e=>
 un (aL d false (.string p0)) fun g=>
 aF pg X0 w0 d false (vS (nu 9 3 g)) fun h=>
 aF pg X0 w0 d false (vS (dR 9 e none (some h) none)) fun i=>
 aF pg X0 w0 d false (vS (aI .neq 9 (.tmp 18) (.tmp 19) i g)) fun j=>
 ay pg X0 w0 (aN d (B true) j) fun k=>
 un (aL k false (.string p1)) fun l=>
 un (aL k false (.string p0)) fun m=>
 aF pg X0 w0 k false (vS (nu 9 3 m)) fun n=>
 aF pg X0 w0 k false (vS (Instr.index 9 l n)) fun o=>
 aF pg X0 w0 k false (vS (aI .neq 5 (.tmp 26) (.const (aA cN 46)) o (aA cN 46))) fun q=>
 ay pg X0 w0 (aN k (B true) q) fun r=>
 (ao r
 (fin R X0 w0 (I 0))
 (((aa pg X0 w0 (nu 9 3 (.string p0)) fun s=>
 aa pg X0 w0 (binOp .add 3 s (I 1)) fun t=>
 aa pg X0 w0 (dR 9 (.string p1) (some t) none none) fun v=>
 eV pg R X0 w0 true (convert 9 95 v) fun y z A=>
 aa pg A z (cr 95 3 y) fun C=>
 (lq A z (I 0) (I 0) 36 5 fun D E F G H L=>
 aa pg L H (binOp .lss 3 F C) fun M=>
 (ao M
 ((aa pg L H (dx 95 1 y F) fun N=>
 aa pg L H (aX 5 N) fun O=>
 (aa pg L H (binOp .lss 5 O (aA cN 48)) fun Q=>
 un (aL Q false O) fun S=>
 aF pg L H Q false (vS (binOp .gtr 5 S (aA cN 57))) fun T=>
 ay pg L H (aN Q (B true) T) fun U=>
 (ao U
 (fin R L H (I 0))
 ((aa pg L H (binOp .mul 3 G (I 10)) fun V=>
 aa pg L H (binOp .sub 5 O (aA cN 48)) fun Y=>
 aa pg L H (mO IntKind.i64 5 3 Y) fun Z=>
 aa pg L H (binOp .add 3 V Z) fun a0=>
 ((aa pg L H (binOp .add 3 F (I 1)) fun b0=>
 lr D E b0 a0 H L))))))))
 (fin R L H G))))))))
noncomputable def NN:bI:=⟨96,[],[],[0,1,2,6,7,8,9,11,13,14,21,67],[54,55,56,57,58,59,60,61,62,63,64,65,66],[]⟩
def CO (p0:Value) (p1:Int) (p2:ByteArray):Prop:=
 ((jn (fun (a:World) (b:XS)=>
 ay pg b a (aH p0) fun c=>
 aa pg b a (aQ 158 0 0 1 c) fun d=>
 aa pg b a (aX 26 d) fun e=>
 eC pg R b a true 138 #[e,(.string p2)] fun g h i=>
 aa pg i h (aE g 0) fun j=>
 aa pg i h (aE g 1) fun _=>
 (eC pg R i h true 139 #[j] fun k l m=>
 aa pg m l (aE k 0) fun n=>
 aa pg m l (aE k 1) fun o=>
 (ay pg m l (aH p0) fun q=>
 aa pg m l (aQ 158 3 3 1 q) fun r=>
 aa pg m l (aX 156 r) fun s=>
 aa pg m l (fF 163 #[(I p1),n,o] #[(0,(I p1)),(1,n),(2,o)]) fun t=>
 eV pg R m l true (de 163 t) fun v y z=>
 eV pg R z y true (jc 156 164 1 1 #[(0,v)]) fun A C D=>
 eV pg R D C true (iS 156 164 1 8 156 s A) fun E F G=>
 ay pg G F (aH p0) fun H=>
 aa pg G F (aQ 158 3 3 1 H) fun L=>
 eU pg R G F true (eo 156 1 L E) fun _ M N=>
 (fin R N M (I 0))))) fun O=>
 ay pg X0 w0 (aH p0) fun Q=>
 aa pg X0 w0 (aQ 158 3 3 1 Q) fun S=>
 aa pg X0 w0 (aX 156 S) fun T=>
 aa pg X0 w0 (cr 156 3 T) fun U=>
 (aa pg X0 w0 (binOp .gtr 3 U (I 0)) fun V=>
 (ao V
 (ay pg X0 w0 (aH p0) fun Y=>
 aa pg X0 w0 (aQ 158 3 3 1 Y) fun Z=>
 aa pg X0 w0 (aX 156 Z) fun a0=>
 aa pg X0 w0 (binOp .sub 3 U (I 1)) fun b0=>
 aa pg X0 w0 (dx 156 1 a0 b0) fun c0=>
 aa pg X0 w0 (aX 164 c0) fun d0=>
 (ay pg X0 w0 (aH p0) fun e0=>
 aa pg X0 w0 (aQ 158 0 0 1 e0) fun g0=>
 aa pg X0 w0 (aX 26 g0) fun h0=>
 ay pg X0 w0 (aH p0) fun i0=>
 aa pg X0 w0 (aQ 158 1 1 1 i0) fun j0=>
 aa pg X0 w0 (aX 9 j0) fun k0=>
 ay pg X0 w0 (aH d0) fun l0=>
 aa pg X0 w0 (aQ 163 0 0 1 l0) fun m0=>
 aa pg X0 w0 (aX 3 m0) fun n0=>
 eC pg R X0 w0 false 106 #[k0,n0] fun o0 q0 r0=>
 eC pg R r0 q0 true 138 #[h0,o0] fun s0 t0 v0=>
 aa pg v0 t0 (aE s0 0) fun y0=>
 aa pg v0 t0 (aE s0 1) fun _=>
 (aa pg v0 t0 (cr 95 3 y0) fun z0=>
 ay pg v0 t0 (aH d0) fun A0=>
 aa pg v0 t0 (aQ 163 2 2 1 A0) fun C0=>
 aa pg v0 t0 (aX 3 C0) fun D0=>
 aa pg v0 t0 (aI .neq 3 (.tmp 48) (.tmp 52) z0 D0) fun E0=>
 un (aL E0 false (I p1)) fun F0=>
 un (aL E0 false d0) fun G0=>
 aF pg v0 t0 E0 false (aH G0) fun H0=>
 aF pg v0 t0 E0 false (vS (aQ 163 0 0 1 H0)) fun L0=>
 aF pg v0 t0 E0 false (vS (aX 3 L0)) fun M0=>
 aF pg v0 t0 E0 false (aH G0) fun N0=>
 aF pg v0 t0 E0 false (vS (aQ 163 1 1 1 N0)) fun O0=>
 aF pg v0 t0 E0 false (vS (aX 161 O0)) fun Q0=>
 aF pg v0 t0 E0 false (vS (cr 161 3 Q0)) fun S0=>
 aF pg v0 t0 E0 false (vS (binOp .add 3 M0 S0)) fun T0=>
 aF pg v0 t0 E0 false (vS (aI .neq 3 (.tmp 55) (.tmp 65) F0 T0)) fun U0=>
 ay pg v0 t0 (aN E0 (B true) U0) fun V0=>
 (ao V0
 (fin R v0 t0 (I 13))
 (O t0 v0)))))
 (O w0 X0)))))
noncomputable def NO:bI:=⟨32,[],[],[0,1,4,5,18],[],[]⟩
def CP (p0:Value) (p1:Int):Prop:=
 (ay pg X0 w0 (aH p0) fun a=>
 aa pg X0 w0 (aQ 158 0 0 1 a) fun b=>
 aa pg X0 w0 (aX 26 b) fun c=>
 ay pg X0 w0 (aH p0) fun d=>
 aa pg X0 w0 (aQ 158 1 1 1 d) fun e=>
 aa pg X0 w0 (aX 9 e) fun g=>
 eC pg R X0 w0 false 106 #[g,(I p1)] fun h i j=>
 eC pg R j i true 140 #[c,h] fun k l m=>
 ((jn (fun (n:World) (o:XS)=>
 (fin R o n k)) fun q=>
 aa pg m l (aI .eql 29 (.tmp 17) (.const (I 0)) k (I 0)) fun r=>
 (ao r
 (ay pg m l (aH p0) fun s=>
 aa pg m l (aQ 158 3 3 1 s) fun t=>
 aa pg m l (aX 156 t) fun v=>
 aa pg m l (fF 163 #[(I p1),(.slice none 0 0),(I 0)] #[(0,(I p1))]) fun y=>
 eV pg R m l true (de 163 y) fun z A C=>
 eV pg R C A true (jc 156 164 1 1 #[(0,z)]) fun D E F=>
 eV pg R F E true (iS 156 164 1 8 156 v D) fun G H L=>
 ay pg L H (aH p0) fun M=>
 aa pg L H (aQ 158 3 3 1 M) fun N=>
 eU pg R L H true (eo 156 1 N G) fun _ O Q=>
 (q O Q))
 (q l m)))))
def CQ (p0:Value):Prop:=
 (eC pg R X0 w0 true 85 #[p0] fun a b c=>
 (ay pg c b (aH p0) fun d=>
 aa pg c b (aQ 158 1 1 1 d) fun e=>
 aa pg c b (aX 9 e) fun g=>
 ay pg c b (aH a) fun h=>
 aa pg c b (aQ 163 0 0 1 h) fun i=>
 aa pg c b (aX 3 i) fun j=>
 eC pg R c b true 106 #[g,j] fun k l m=>
 ((jn (fun (n:World) (o:XS)=>
 eC pg R o n true 104 #[p0] fun q r s=>
 (fin R s r q)) fun t=>
 ay pg m l (aH p0) fun v=>
 aa pg m l (aQ 158 0 0 1 v) fun y=>
 aa pg m l (aX 26 y) fun z=>
 eC pg R m l true 138 #[z,k] fun A C D=>
 aa pg D C (aE A 0) fun E=>
 aa pg D C (aE A 1) fun _=>
 (aa pg D C (cr 95 3 E) fun F=>
 ay pg D C (aH a) fun G=>
 aa pg D C (aQ 163 2 2 1 G) fun H=>
 aa pg D C (aX 3 H) fun L=>
 aa pg D C (binOp .gtr 3 F L) fun M=>
 (ao M
 (ay pg D C (aH p0) fun N=>
 aa pg D C (aQ 158 0 0 1 N) fun O=>
 aa pg D C (aX 26 O) fun Q=>
 ay pg D C (aH a) fun S=>
 aa pg D C (aQ 163 2 2 1 S) fun T=>
 aa pg D C (aX 3 T) fun U=>
 eC pg R D C true 141 #[Q,k,U] fun V Y Z=>
 (aa pg Z Y (aI .neq 29 (.tmp 45) (.const (I 0)) V (I 0)) fun a0=>
 (ao a0
 (fin R Z Y V)
 (t Y Z))))
 (t C D)))))))
def CT (p0:Value):Prop:=
 (ay pg X0 w0 (aH p0) fun a=>
 aa pg X0 w0 (aQ 158 3 3 1 a) fun b=>
 aa pg X0 w0 (aX 156 b) fun c=>
 ay pg X0 w0 (aH p0) fun d=>
 aa pg X0 w0 (aQ 158 3 3 1 d) fun e=>
 aa pg X0 w0 (aX 156 e) fun g=>
 aa pg X0 w0 (cr 156 3 g) fun h=>
 aa pg X0 w0 (binOp .sub 3 h (I 1)) fun i=>
 aa pg X0 w0 (dx 156 1 c i) fun j=>
 aa pg X0 w0 (aX 164 j) fun k=>
 (fin R X0 w0 k))
noncomputable def RG:bI:=⟨52,[],[],[0,1,4,5,23],[],[5]⟩
def G8 (p0:Value) (p1:Int):Prop:=
 (ay pg X0 w0 (aH p0) fun a=>
 aa pg X0 w0 (aQ 158 3 3 1 a) fun b=>
 aa pg X0 w0 (aX 156 b) fun c=>
 aa pg X0 w0 (cr 156 3 c) fun d=>
 aa pg X0 w0 (binOp .sub 3 d (I 1)) fun e=>
 (jB X0 w0 e 5 fun g h i j k=>
 ay pg k j (aH p0) fun l=>
 aa pg k j (aQ 158 3 3 1 l) fun m=>
 aa pg k j (aX 156 m) fun n=>
 aa pg k j (dx 156 1 n i) fun o=>
 aa pg k j (aX 164 o) fun q=>
 ay pg k j (aH q) fun r=>
 aa pg k j (aQ 163 0 0 1 r) fun s=>
 aa pg k j (aX 3 s) fun t=>
 aa pg k j (binOp .gtr 3 t (I p1)) fun v=>
 (ao v
 ((aa pg k j (binOp .sub 3 i (I 1)) fun y=>
 (jC g h y j k)))
 (((ay pg k j (aH p0) fun z=>
 aa pg k j (aQ 158 3 3 1 z) fun A=>
 aa pg k j (aX 156 A) fun C=>
 aa pg k j (dx 156 1 C i) fun D=>
 aa pg k j (aX 164 D) fun E=>
 ay pg k j (aH E) fun F=>
 aa pg k j (aQ 163 1 1 1 F) fun G=>
 aa pg k j (aX 161 G) fun H=>
 ay pg k j (aH p0) fun L=>
 aa pg k j (aQ 158 3 3 1 L) fun M=>
 aa pg k j (aX 156 M) fun N=>
 aa pg k j (dx 156 1 N i) fun O=>
 aa pg k j (aX 164 O) fun Q=>
 ay pg k j (aH Q) fun S=>
 aa pg k j (aQ 163 0 0 1 S) fun T=>
 aa pg k j (aX 3 T) fun U=>
 aa pg k j (binOp .sub 3 (I p1) U) fun V=>
 aa pg k j (dx 161 1 H V) fun Y=>
 aa pg k j (aX 95 Y) fun Z=>
 eV pg R k j false (jc 95 5 1 0 #[]) fun a0 b0 c0=>
 eV pg R c0 b0 true (iS 95 5 1 1 95 a0 Z) fun d0 e0 g0=>
 (fin R g0 e0 d0)))))))
def AL (p0:Value):Prop:=
 (eV pg R X0 w0 true (jc 95 5 1 0 #[]) fun a b c=>
 eV pg R c b true (iS 95 5 1 1 95 a p0) fun d e g=>
 aa pg g e (fF 223 #[d,(I 0),(I 0),(I 0)] #[(0,d)]) fun h=>
 eV pg R g e true (de 223 h) fun i j k=>
 (fin R k j i))
def qZ (p0 p1:Value):Prop:=
 ay pg X0 w0 (aH p1) fun a=>
 aa pg X0 w0 (aQ 117 0 0 1 a) fun b=>
 eC pg R X0 w0 true 142 #[p0,b] fun _ c d=>
 (ay pg d c (aH p1) fun e=>
 aa pg d c (aQ 117 0 0 1 e) fun g=>
 aa pg d c (aX 3 g) fun h=>
 ((jn (fun (i:World) (j:XS)=>
 fin R j i (az #[])) fun k=>
 aa pg d c (aI .eql 3 (.tmp 13) (.const (I 1)) h (I 1)) fun l=>
 (ao l
 (ay pg d c (aH p1) fun m=>
 aa pg d c (aQ 117 11 17 12 m) fun n=>
 eC pg R d c true 143 #[p0,n] fun _ o q=>
 (k o q))
 ((jn (fun (r:Value)=>
 ao r
 (ay pg d c (aH p1) fun s=>
 aa pg d c (aQ 117 5 11 1 s) fun t=>
 eC pg R d c true 142 #[p0,t] fun _ v y=>
 (k v y))
 (aa pg d c (aI .eql 3 (.tmp 13) (.const (I 3)) h (I 3)) fun z=>
 (ao z
 (ay pg d c (aH p1) fun A=>
 aa pg d c (aQ 117 1 1 3 A) fun C=>
 aa pg d c (gL 33 3 C) fun D=>
 ay pg d c (aH p1) fun E=>
 aa pg d c (aQ 117 2 4 3 E) fun F=>
 aa pg d c (gL 35 3 F) fun G=>
 ay pg d c (aH p1) fun H=>
 aa pg d c (aQ 117 7 13 1 H) fun L=>
 aa pg d c (aX 36 L) fun M=>
 ay pg d c (aH p1) fun N=>
 aa pg d c (aQ 117 8 14 1 N) fun O=>
 aa pg d c (aX 23 O) fun Q=>
 un (cellOf D 0) fun S=>
 un (cellOf D 1) fun T=>
 un (cellOf D 2) fun U=>
 un (cellOf G 0) fun V=>
 un (cellOf G 1) fun Y=>
 un (cellOf G 2) fun Z=>
 aa pg d c (fF 229 #[S,T,U,V,Y,Z,M,Q] #[(0,D),(1,G),(2,M),(3,Q)]) fun a0=>
 eV pg R d c false (g7 229 true (az #[])) fun b0 c0 d0=>
 eU pg R d0 c0 true (eo 229 8 b0 a0) fun _ e0 g0=>
 (eC pg R g0 e0 true 144 #[p0,b0] fun _ h0 i0=>
 (aa pg i0 h0 (aQ 229 0 0 3 b0) fun j0=>
 aa pg i0 h0 (gL 33 3 j0) fun k0=>
 aa pg i0 h0 (aQ 229 1 3 3 b0) fun l0=>
 aa pg i0 h0 (gL 35 3 l0) fun m0=>
 aa pg i0 h0 (aQ 229 2 6 1 b0) fun n0=>
 aa pg i0 h0 (aX 36 n0) fun o0=>
 aa pg i0 h0 (aQ 229 3 7 1 b0) fun q0=>
 aa pg i0 h0 (aX 23 q0) fun r0=>
 ay pg i0 h0 (aH p1) fun s0=>
 aa pg i0 h0 (aQ 117 1 1 3 s0) fun t0=>
 eU pg R i0 h0 true (eo 33 3 t0 k0) fun _ v0 y0=>
 ay pg y0 v0 (aH p1) fun z0=>
 aa pg y0 v0 (aQ 117 2 4 3 z0) fun A0=>
 eU pg R y0 v0 true (eo 35 3 A0 m0) fun _ C0 D0=>
 ay pg D0 C0 (aH p1) fun E0=>
 aa pg D0 C0 (aQ 117 7 13 1 E0) fun F0=>
 eU pg R D0 C0 true (eo 36 1 F0 o0) fun _ G0 H0=>
 ay pg H0 G0 (aH p1) fun L0=>
 aa pg H0 G0 (aQ 117 8 14 1 L0) fun M0=>
 eU pg R H0 G0 true (eo 23 1 M0 r0) fun _ N0 O0=>
 (ay pg O0 N0 (aH p1) fun Q0=>
 aa pg O0 N0 (aQ 117 9 15 1 Q0) fun S0=>
 aa pg O0 N0 (cE (gD 142) #[p0] #[]) fun T0=>
 eC pg R O0 N0 true 145 #[p0,S0,T0] fun _ U0 V0=>
 (k U0 V0)))))
 (aa pg d c (aI .eql 3 (.tmp 13) (.const (I 4)) h (I 4)) fun Y0=>
 (ao Y0
 (ay pg d c (aH p1) fun Z0=>
 aa pg d c (aQ 117 1 1 3 Z0) fun a1=>
 eC pg R d c true 146 #[p0,a1] fun _ b1 c1=>
 (ay pg c1 b1 (aH p1) fun d1=>
 aa pg c1 b1 (aQ 117 4 10 1 d1) fun e1=>
 eC pg R c1 b1 true 147 #[p0,e1] fun _ g1 h1=>
 (ay pg h1 g1 (aH p1) fun i1=>
 aa pg h1 g1 (aQ 117 2 4 3 i1) fun j1=>
 eC pg R h1 g1 true 148 #[p0,j1] fun _ k1 l1=>
 (k k1 l1))))
 (aa pg d c (aI .eql 3 (.tmp 13) (.const (I 5)) h (I 5)) fun m1=>
 (ao m1
 (ay pg d c (aH p1) fun n1=>
 aa pg d c (aQ 117 2 4 3 n1) fun o1=>
 eC pg R d c true 148 #[p0,o1] fun _ q1 r1=>
 (k q1 r1))
 (aa pg d c (aI .eql 3 (.tmp 13) (.const (I 6)) h (I 6)) fun s1=>
 (ao s1
 (ay pg d c (aH p1) fun t1=>
 aa pg d c (aQ 117 6 12 1 t1) fun v1=>
 eC pg R d c true 149 #[p0,v1] fun _ y1 z1=>
 (ay pg z1 y1 (aH p1) fun A1=>
 aa pg z1 y1 (aQ 117 5 11 1 A1) fun C1=>
 eC pg R z1 y1 true 142 #[p0,C1] fun _ D1 E1=>
 (ay pg E1 D1 (aH p1) fun F1=>
 aa pg E1 D1 (aQ 117 2 4 3 F1) fun G1=>
 eC pg R E1 D1 true 148 #[p0,G1] fun _ H1 L1=>
 (k H1 L1))))
 (aa pg d c (aI .eql 3 (.tmp 13) (.const (I 9)) h (I 9)) fun M1=>
 (ao M1
 (ay pg d c (aH p1) fun N1=>
 aa pg d c (aQ 117 1 1 3 N1) fun O1=>
 eC pg R d c true 146 #[p0,O1] fun _ Q1 S1=>
 (ay pg S1 Q1 (aH p1) fun T1=>
 aa pg S1 Q1 (aQ 117 2 4 3 T1) fun U1=>
 eC pg R S1 Q1 true 148 #[p0,U1] fun _ V1 Y1=>
 (ay pg Y1 V1 (aH p1) fun Z1=>
 aa pg Y1 V1 (aQ 117 9 15 1 Z1) fun a2=>
 aa pg Y1 V1 (cE (gD 142) #[p0] #[]) fun b2=>
 eC pg R Y1 V1 true 145 #[p0,a2,b2] fun _ c2 d2=>
 (k c2 d2))))
 (aa pg d c (aI .eql 3 (.tmp 13) (.const (I 10)) h (I 10)) fun e2=>
 (ao e2
 (ay pg d c (aH p1) fun g2=>
 aa pg d c (aQ 117 1 1 3 g2) fun h2=>
 eC pg R d c true 146 #[p0,h2] fun _ i2 j2=>
 (k i2 j2))
 (aa pg d c (aI .eql 3 (.tmp 13) (.const (I 11)) h (I 11)) fun k2=>
 (ao k2
 (ay pg d c (aH p1) fun l2=>
 aa pg d c (aQ 117 3 7 3 l2) fun m2=>
 eC pg R d c true 148 #[p0,m2] fun _ n2 o2=>
 (ay pg o2 n2 (aH p1) fun q2=>
 aa pg o2 n2 (aQ 117 2 4 3 q2) fun r2=>
 eC pg R o2 n2 true 148 #[p0,r2] fun _ s2 t2=>
 (ay pg t2 s2 (aH p1) fun v2=>
 aa pg t2 s2 (aQ 117 1 1 3 v2) fun y2=>
 eC pg R t2 s2 true 146 #[p0,y2] fun _ z2 A2=>
 (ay pg A2 z2 (aH p1) fun C2=>
 aa pg A2 z2 (aQ 117 8 14 1 C2) fun D2=>
 aa pg A2 z2 (cE (gD 151) #[p0] #[]) fun E2=>
 eC pg R A2 z2 true 150 #[p0,D2,E2] fun _ F2 G2=>
 (k F2 G2)))))
 (aa pg d c (aI .eql 3 (.tmp 13) (.const (I 12)) h (I 12)) fun H2=>
 (ao H2
 (ay pg d c (aH p1) fun L2=>
 aa pg d c (aQ 117 2 4 3 L2) fun M2=>
 eC pg R d c true 148 #[p0,M2] fun _ N2 O2=>
 (ay pg O2 N2 (aH p1) fun Q2=>
 aa pg O2 N2 (aQ 117 10 16 1 Q2) fun S2=>
 aa pg O2 N2 (cE (gD 153) #[p0] #[]) fun T2=>
 eC pg R O2 N2 true 152 #[p0,S2,T2] fun _ U2 V2=>
 (k U2 V2)))
 (k c d)))))))))))))))))) fun Y2=>
 aa pg d c (aI .eql 3 (.tmp 13) (.const (I 2)) h (I 2)) fun Z2=>
 (ao Z2
 (Y2 Z2)
 (aa pg d c (aI .eql 3 (.tmp 13) (.const (I 7)) h (I 7)) fun a3=>
 (ao a3
 (Y2 a3)
 (aa pg d c (aI .eql 3 (.tmp 13) (.const (I 8)) h (I 8)) fun b3=>
 (Y2 b3)))))))))))
def zS (p0:Value):Prop:=
 (ay pg X0 w0 (aH p0) fun a=>
 aa pg X0 w0 (aQ 223 2 2 1 a) fun b=>
 aa pg X0 w0 (aX 29 b) fun c=>
 aa pg X0 w0 (aI .eql 29 (.tmp 7) (.const (I 0)) c (I 0)) fun d=>
 un (aL d true p0) fun e=>
 aF pg X0 w0 d true (aH e) fun g=>
 aF pg X0 w0 d true (vS (aQ 223 1 1 1 g)) fun h=>
 aF pg X0 w0 d true (vS (aX 3 h)) fun i=>
 aF pg X0 w0 d true (aH e) fun j=>
 aF pg X0 w0 d true (vS (aQ 223 0 0 1 j)) fun k=>
 aF pg X0 w0 d true (vS (aX 95 k)) fun l=>
 aF pg X0 w0 d true (vS (cr 95 3 l)) fun m=>
 aF pg X0 w0 d true (vS (binOp .lss 3 i m)) fun n=>
 ay pg X0 w0 (aN d n (B false)) fun o=>
 (ao o
 (ay pg X0 w0 (aH p0) fun q=>
 aa pg X0 w0 (aQ 223 1 1 1 q) fun r=>
 aa pg X0 w0 (aX 3 r) fun s=>
 (fin R X0 w0 (az #[(I 6),s])))
 ((eC pg R X0 w0 true 154 #[p0] fun t v y=>
 aa pg y v (aE t 0) fun z=>
 aa pg y v (aE t 1) fun A=>
 (fin R y v (az #[z,A]))))))
noncomputable def Px:bI:=⟨23,[],[],[0,1,2,3,4,5,6,10,21],[],[]⟩
def uE (bf bB bD bT cm cn cq cy dp cQ:Int) (bX:Bool) (bV:Int) (dq:Nat) (cZ cW cX da:Value) (dc cG:Int) (cC cH:Nat) (cI cJ cY cK cR cS:Int) (cT cU:Value):Prop:=
 eV pg R X0 w0 true (de 117 (.agg #[(I bf),(I bB),(I bD),(I bT),(I cm),(I cn),(I cq),(I cy),(I dp),(I cQ),(B bX),(I bV),(.float .f64 dq),cZ,cW,cX,da,(I dc),(I cG),(.float .f64 cC),(.float .f64 cH),(I cI),(I cJ),(I cY),(I cK),(I cR),(I cS),cT,cU])) fun a b c=>
 (aa pg c b (gL 117 29 a) fun d=>
 eC pg R c b true 155 #[d] fun e g h=>
 (aa pg h g (aI .neq 29 (.tmp 9) (.const (I 0)) e (I 0)) fun i=>
 (ao i
 ((fin R h g (az #[(.slice none 0 0),e])))
 ((eC pg R h g true 156 #[] fun j k l=>
 (aa pg l k (fF 175 #[j,(.pointer none)] #[(0,j)]) fun m=>
 eV pg R l k true (de 175 m) fun n o q=>
 eC pg R q o true 89 #[n,a] fun _ r s=>
 (eC pg R s r true 157 #[j] fun t v y=>
 (aa pg y v (cr 95 3 t) fun z=>
 aa pg y v (binOp .gtr 3 z (I 262144)) fun A=>
 (ao A
 ((fin R y v (az #[(.slice none 0 0),(I 2)])))
 (((fin R y v (az #[t,(I 0)])))))))))))))
def Ey (p0 p1:Value):Prop:=
 (eV pg R X0 w0 true (convert 95 9 p0) fun a b c=>
 eV pg R c b true (convert 95 9 p1) fun d e g=>
 aa pg g e (aI .eql 9 (.tmp 6) (.tmp 8) a d) fun h=>
 (fin R g e h))
def iT (p0 p1 p2:Value):Prop:=
 (aa pg X0 w0 (cr 54 3 p0) fun a=>
 aa pg X0 w0 (cr 54 3 p1) fun b=>
 aa pg X0 w0 (aI .neq 3 (.tmp 11) (.tmp 13) a b) fun c=>
 (ao c
 (fin R X0 w0 (B false))
 ((aa pg X0 w0 (cr 54 3 p0) fun d=>
 (jB X0 w0 (I 0) 17 fun e g h i j=>
 aa pg j i (binOp .lss 3 h d) fun k=>
 (ao k
 ((aa pg j i (dx 54 4 p0 h) fun l=>
 aa pg j i (gL 74 4 l) fun m=>
 un (aJ (ad m)) fun n=>
 bz (aB (af (ad m))==4) (bz (aT (af (ad m)) one) ((aa pg j i (dx 54 4 p1 h) fun o=>
 aa pg j i (gL 74 4 o) fun q=>
 un (aJ (ad q)) fun r=>
 bz (aB (af (ad q))==4) (bz (aT (af (ad q)) one) ((bz (ez n) (bz (ez r) (un (eQ n 0 4) fun s=>
 un (eQ r 0 4) fun t=>
 eF pg R j i true p2 #[s,t] fun v y z=>
 aa pg z y (aY bF v) fun A=>
 (ao A
 (fin R z y (B false))
 (((aa pg z y (binOp .add 3 h (I 1)) fun C=>
 jC e g C y z))))))))))))))
 (fin R j i (B true))))))))
noncomputable def FA:bI:=⟨17,[(2,(pg.cellsOf 74)),(3,(pg.cellsOf 74))],[5,7,11,13],[0,1,4],[10,12,14,15],[]⟩
def xI (bf:ByteArray) (bB:Int) (bD:Nat) (bT dE:ByteArray) (dJ:Int) (dL:Nat) (gX:ByteArray):Prop:=
 (aa pg X0 w0 (aI .eql 9 (.tmp 6) (.tmp 8) (.string bf) (.string dE)) fun a=>
 un (aL a true (.agg #[(I bB),(.float .f64 bD),(.string bT)])) fun b=>
 un (aL a true (.agg #[(I dJ),(.float .f64 dL),(.string gX)])) fun c=>
 jn (fun (d:Value) (e:World) (g:XS)=>
 ay pg g e (aN a d (B false)) fun h=>
 (fin R g e h)) fun i=>
 (gE a true (eC pg R X0 w0 true 95 #[b,c] i) (i undef w0 X0)))
noncomputable def RH:bI:=⟨17,[(2,(pg.cellsOf 51)),(3,(pg.cellsOf 51))],[],[0,1,4],[7,8,9,11,12,13,14,15],[]⟩
def G9 (bf:Int) (bB:Nat) (bD:ByteArray) (dE:Int) (dJ:Nat) (dL:ByteArray):Prop:=
 (eC pg R X0 w0 true 158 #[(.agg #[(I bf),(.float .f64 bB),(.string bD)])] fun a b c=>
 un (aL a true (.agg #[(I dE),(.float .f64 dJ),(.string dL)])) fun d=>
 jn (fun (e:Value) (g:World) (h:XS)=>
 ay pg h g (aN a e (B false)) fun i=>
 un (aL i true (.agg #[(I bf),(.float .f64 bB),(.string bD)])) fun j=>
 un (aL i true (.agg #[(I dE),(.float .f64 dJ),(.string dL)])) fun k=>
 jn (fun (l:Value) (m:World) (n:XS)=>
 aF pg n m i true (vS (aI .eql 3 (.tmp 14) (.const (I 0)) l (I 0))) fun o=>
 ay pg n m (aN i o (B false)) fun q=>
 (fin R n m q)) fun r=>
 (gE i true (eC pg R h g true 159 #[j,k] r) (r undef g h))) fun s=>
 (gE a true (eC pg R c b true 158 #[d] s) (s undef b c)))
noncomputable def NP:bI:=⟨98,[(1,(pg.cellsOf 48)),(2,(pg.cellsOf 48)),(4,(pg.cellsOf 35))],[6,13,14,15,16,17,22,23,24,25,26,27,32,33,34,35,36,37,38,43,44,45,46,47,52,53,54,55,60,61,65,66,67,68,71,72,73,77,78,81,87,88,89,90,96],[0,3,7,9,18,28,39,48,56,62,69,74,79,82,91,93],[],[]⟩
def xJ (bf bB bD bT cm cn cq cy dp cQ bX bV dq cZ cW:Int) (cX:Bool) (da dc:Int) (cG cC cH cI cJ cY:Value) (cK cR:Int) (cS cT:Nat) (cU gh gk gm gn gp:Int) (gq gr:Value):Prop:=
 (aa pg X0 w0 (fF 35 #[(I 0),(I 0),(I 0)] #[]) fun a=>
 un (aJ (ad a)) fun b=>
 bz (aB (af (ad a))==3) (bz (aT (af (ad a)) one) ((((jn (fun (c:Value)=>
 (bz (ez c) (un (eQ c 0 36) fun d=>
 un (aJ (ad d)) fun e=>
 bz (aB (af (ad d))==36) (bz (aT (af (ad d)) one) ((un (eQ e 0 36) fun g=>
 bz (aT [e] ez) (fin R X0 w0 (az #[g,(B true)])))))))) fun h=>
 aa pg X0 w0 (aI .eql 3 (.tmp 7) (.const (I 1)) (I bf) (I 1)) fun i=>
 (ao i
 (aa pg X0 w0 (fF 33 #[(I 0),(I 0),(I 0)] #[]) fun j=>
 bz (ez b) (un (aJ (bb (cd [(I bf),(I bB),(I bD),(I bT),(I cm),(I cn),(I cq),(I cy),(I dp),(I cQ),(I bX),(I bV),(I dq),(I cZ),(I cW),(B cX),(I da),(I dc),cG,cC,cH,cI,cJ,cY,(I cK),(I cR),(.float .f64 cS),(.float .f64 cT),(I cU),(I gh),(I gk),(I gm),(I gn),(I gp),gq,gr] 3 (af (ad j))))) fun k=>
 bz (aB (af (ad j))==3) (bz (aT (af (ad j)) one) (un (aJ (bb (cd (af (ad k)) 6 [(I 0)]))) fun l=>
 un (aJ (bb (cd (af (ad l)) 7 [(I 0)]))) fun m=>
 un (eQ b 0 3) fun n=>
 un (aJ (bb (cd (af (ad m)) 9 (af (ad n))))) fun o=>
 bz (aB (af (ad n))==3) (bz (aT (af (ad n)) one) (un (aJ (bb (cd (af (ad o)) 18 [(.slice none 0 0)]))) fun q=>
 (h q)))))))
 (aa pg X0 w0 (aI .eql 3 (.tmp 7) (.const (I 2)) (I bf) (I 2)) fun r=>
 (ao r
 (aa pg X0 w0 (fF 33 #[(I 0),(I 0),(I 0)] #[]) fun s=>
 bz (ez b) (un (aJ (bb (cd [(I bf),(I bB),(I bD),(I bT),(I cm),(I cn),(I cq),(I cy),(I dp),(I cQ),(I bX),(I bV),(I dq),(I cZ),(I cW),(B cX),(I da),(I dc),cG,cC,cH,cI,cJ,cY,(I cK),(I cR),(.float .f64 cS),(.float .f64 cT),(I cU),(I gh),(I gk),(I gm),(I gn),(I gp),gq,gr] 3 (af (ad s))))) fun t=>
 bz (aB (af (ad s))==3) (bz (aT (af (ad s)) one) (un (aJ (bb (cd (af (ad t)) 6 [(I 0)]))) fun v=>
 un (aJ (bb (cd (af (ad v)) 8 [(I 0)]))) fun y=>
 un (eQ b 0 3) fun z=>
 un (aJ (bb (cd (af (ad y)) 9 (af (ad z))))) fun A=>
 bz (aB (af (ad z))==3) (bz (aT (af (ad z)) one) (un (aJ (bb (cd (af (ad A)) 19 [(.slice none 0 0)]))) fun C=>
 un (aJ (bb (cd (af (ad C)) 22 [(.slice none 0 0)]))) fun D=>
 (h D)))))))
 (aa pg X0 w0 (aI .eql 3 (.tmp 7) (.const (I 3)) (I bf) (I 3)) fun E=>
 (ao E
 (aa pg X0 w0 (fF 33 #[(I 0),(I 0),(I 0)] #[]) fun F=>
 bz (ez b) (un (aJ (bb (cd [(I bf),(I bB),(I bD),(I bT),(I cm),(I cn),(I cq),(I cy),(I dp),(I cQ),(I bX),(I bV),(I dq),(I cZ),(I cW),(B cX),(I da),(I dc),cG,cC,cH,cI,cJ,cY,(I cK),(I cR),(.float .f64 cS),(.float .f64 cT),(I cU),(I gh),(I gk),(I gm),(I gn),(I gp),gq,gr] 3 (af (ad F))))) fun G=>
 bz (aB (af (ad F))==3) (bz (aT (af (ad F)) one) (un (aJ (bb (cd (af (ad G)) 6 [(I 0)]))) fun H=>
 un (aJ (bb (cd (af (ad H)) 7 [(I 0)]))) fun L=>
 un (eQ b 0 3) fun M=>
 un (aJ (bb (cd (af (ad L)) 9 (af (ad M))))) fun N=>
 bz (aB (af (ad M))==3) (bz (aT (af (ad M)) one) (un (aJ (bb (cd (af (ad N)) 19 [(.slice none 0 0)]))) fun O=>
 un (aJ (bb (cd (af (ad O)) 20 [(.slice none 0 0)]))) fun Q=>
 un (aJ (bb (cd (af (ad Q)) 21 [(.slice none 0 0)]))) fun S=>
 (h S)))))))
 (aa pg X0 w0 (aI .eql 3 (.tmp 7) (.const (I 4)) (I bf) (I 4)) fun T=>
 (ao T
 (aa pg X0 w0 (fF 33 #[(I 0),(I 0),(I 0)] #[]) fun U=>
 bz (ez b) (un (aJ (bb (cd [(I bf),(I bB),(I bD),(I bT),(I cm),(I cn),(I cq),(I cy),(I dp),(I cQ),(I bX),(I bV),(I dq),(I cZ),(I cW),(B cX),(I da),(I dc),cG,cC,cH,cI,cJ,cY,(I cK),(I cR),(.float .f64 cS),(.float .f64 cT),(I cU),(I gh),(I gk),(I gm),(I gn),(I gp),gq,gr] 3 (af (ad U))))) fun V=>
 bz (aB (af (ad U))==3) (bz (aT (af (ad U)) one) (un (aJ (bb (cd (af (ad V)) 6 [(I 0)]))) fun Y=>
 un (aJ (bb (cd (af (ad Y)) 8 [(I 0)]))) fun Z=>
 un (eQ b 0 3) fun a0=>
 un (aJ (bb (cd (af (ad Z)) 9 (af (ad a0))))) fun b0=>
 bz (aB (af (ad a0))==3) (bz (aT (af (ad a0)) one) (un (aJ (bb (cd (af (ad b0)) 22 [(.slice none 0 0)]))) fun c0=>
 (h c0)))))))
 (aa pg X0 w0 (aI .eql 3 (.tmp 7) (.const (I 5)) (I bf) (I 5)) fun d0=>
 (ao d0
 (aa pg X0 w0 (fF 33 #[(I 0),(I 0),(I 0)] #[]) fun e0=>
 bz (ez b) (un (aJ (bb (cd [(I bf),(I bB),(I bD),(I bT),(I cm),(I cn),(I cq),(I cy),(I dp),(I cQ),(I bX),(I bV),(I dq),(I cZ),(I cW),(B cX),(I da),(I dc),cG,cC,cH,cI,cJ,cY,(I cK),(I cR),(.float .f64 cS),(.float .f64 cT),(I cU),(I gh),(I gk),(I gm),(I gn),(I gp),gq,gr] 3 (af (ad e0))))) fun g0=>
 bz (aB (af (ad e0))==3) (bz (aT (af (ad e0)) one) (un (aJ (bb (cd (af (ad g0)) 6 [(I 0)]))) fun h0=>
 un (aJ (bb (cd (af (ad h0)) 15 [(B false)]))) fun i0=>
 un (eQ b 0 3) fun j0=>
 un (aJ (bb (cd (af (ad i0)) 9 (af (ad j0))))) fun k0=>
 bz (aB (af (ad j0))==3) (bz (aT (af (ad j0)) one) (h k0))))))
 ((jn (fun (l0:Value)=>
 ao l0
 (aa pg X0 w0 (fF 33 #[(I 0),(I 0),(I 0)] #[]) fun m0=>
 un (aJ (bb (cd [(I bf),(I bB),(I bD),(I bT),(I cm),(I cn),(I cq),(I cy),(I dp),(I cQ),(I bX),(I bV),(I dq),(I cZ),(I cW),(B cX),(I da),(I dc),cG,cC,cH,cI,cJ,cY,(I cK),(I cR),(.float .f64 cS),(.float .f64 cT),(I cU),(I gh),(I gk),(I gm),(I gn),(I gp),gq,gr] 3 (af (ad m0))))) fun n0=>
 bz (aB (af (ad m0))==3) (bz (aT (af (ad m0)) one) (un (aJ (bb (cd (af (ad n0)) 6 [(I 0)]))) fun o0=>
 (h o0))))
 (aa pg X0 w0 (aI .eql 3 (.tmp 7) (.const (I 8)) (I bf) (I 8)) fun q0=>
 (ao q0
 (bz (ez b) (un (eQ b 0 3) fun r0=>
 un (aJ (bb (cd [(I bf),(I bB),(I bD),(I bT),(I cm),(I cn),(I 0),(I cy),(I dp),(I cQ),(I bX),(I bV),(I dq),(I cZ),(I cW),(B cX),(I 0),(I 0),cG,cC,cH,cI,cJ,cY,(I cK),(I cR),(.float .f64 cS),(.float .f64 cT),(I cU),(I gh),(I gk),(I gm),(I gn),(I gp),gq,gr] 9 (af (ad r0))))) fun s0=>
 bz (aB (af (ad r0))==3) (bz (aT (af (ad r0)) one) (h s0))))
 (aa pg X0 w0 (aI .eql 3 (.tmp 7) (.const (I 9)) (I bf) (I 9)) fun t0=>
 (ao t0
 ((h (.agg #[(I bf),(I bB),(I bD),(I bT),(I cm),(I cn),(I 0),(I cy),(I dp),(I cQ),(I bX),(I bV),(I dq),(I cZ),(I cW),(B cX),(I 0),(I dc),cG,cC,cH,cI,cJ,(.slice none 0 0),(I cK),(I cR),(.float .f64 cS),(.float .f64 cT),(I cU),(I gh),(I gk),(I gm),(I gn),(I gp),gq,gr])))
 (aa pg X0 w0 (aI .eql 3 (.tmp 7) (.const (I 10)) (I bf) (I 10)) fun v0=>
 (ao v0
 (aa pg X0 w0 (fF 46 #[(I 0),(I 0),(.float .f64 0),(.float .f64 0),(I 0),(I 0),(I 0),(I 0),(I 0),(I 0),(.slice none 0 0),(.slice none 0 0)] #[]) fun y0=>
 un (aJ (bb (cd [(I bf),(I bB),(I bD),(I bT),(I cm),(I cn),(I 0),(I cy),(I dp),(I cQ),(I bX),(I bV),(I dq),(I cZ),(I cW),(B cX),(I da),(I dc),cG,cC,cH,cI,cJ,cY,(I cK),(I cR),(.float .f64 cS),(.float .f64 cT),(I cU),(I gh),(I gk),(I gm),(I gn),(I gp),gq,gr] 24 (af (ad y0))))) fun z0=>
 bz (aB (af (ad y0))==12) (bz (aT (af (ad y0)) one) (h z0)))
 (aa pg X0 w0 (aI .eql 3 (.tmp 7) (.const (I 11)) (I bf) (I 11)) fun A0=>
 (ao A0
 ((h (.agg #[(I bf),(I bB),(I bD),(I bT),(I cm),(I cn),(I 0),(I cy),(I dp),(I cQ),(I bX),(I bV),(I dq),(I cZ),(I cW),(B cX),(I da),(I dc),cG,cC,cH,cI,cJ,cY,(I cK),(I cR),(.float .f64 cS),(.float .f64 cT),(I cU),(I gh),(I gk),(I gm),(I gn),(I gp),gq,gr])))
 (aa pg X0 w0 (aI .eql 3 (.tmp 7) (.const (I 12)) (I bf) (I 12)) fun C0=>
 (ao C0
 (bz (ez b) (aa pg X0 w0 (fF 33 #[(I 0),(I 0),(I 0)] #[]) fun D0=>
 un (eQ b 0 3) fun E0=>
 un (aJ (bb (cd [(I bf),(I bB),(I bD),(I bT),(I cm),(I cn),(I cq),(I cy),(I dp),(I cQ),(I bX),(I bV),(I dq),(I cZ),(I cW),(B cX),(I da),(I dc),cG,cC,cH,cI,cJ,cY,(I cK),(I cR),(.float .f64 cS),(.float .f64 cT),(I cU),(I gh),(I gk),(I gm),(I gn),(I gp),gq,gr] 12 (af (ad E0))))) fun F0=>
 bz (aB (af (ad E0))==3) (bz (aT (af (ad E0)) one) (un (aJ (bb (cd (af (ad F0)) 9 (af (ad E0))))) fun G0=>
 bz (aB (af (ad E0))==3) (bz (aT (af (ad E0)) one) (un (aJ (bb (cd (af (ad G0)) 3 (af (ad D0))))) fun H0=>
 bz (aB (af (ad D0))==3) (bz (aT (af (ad D0)) one) (un (aJ (bb (cd (af (ad H0)) 20 [(.slice none 0 0)]))) fun L0=>
 (h L0)))))))))
 (aa pg X0 w0 (aI .eql 3 (.tmp 7) (.const (I 13)) (I bf) (I 13)) fun M0=>
 (ao M0
 ((h (.agg #[(I bf),(I bB),(I bD),(I bT),(I cm),(I cn),(I cq),(I cy),(I dp),(I cQ),(I bX),(I bV),(I dq),(I cZ),(I cW),(B cX),(I da),(I dc),cG,cC,cH,cI,cJ,cY,(I cK),(I cR),(.float .f64 cS),(.float .f64 cT),(I cU),(I gh),(I gk),(I gm),(I gn),(I gp),gq,gr])))
 (aa pg X0 w0 (aI .eql 3 (.tmp 7) (.const (I 14)) (I bf) (I 14)) fun N0=>
 (ao N0
 (bz (ez b) (un (eQ b 0 3) fun O0=>
 un (aJ (bb (cd [(I bf),(I bB),(I bD),(I bT),(I cm),(I cn),(I cq),(I cy),(I dp),(I cQ),(I bX),(I bV),(I dq),(I cZ),(I cW),(B cX),(I da),(I dc),cG,cC,cH,cI,cJ,cY,(I cK),(I cR),(.float .f64 cS),(.float .f64 cT),(I cU),(I gh),(I gk),(I gm),(I gn),(I gp),gq,gr] 9 (af (ad O0))))) fun Q0=>
 bz (aB (af (ad O0))==3) (bz (aT (af (ad O0)) one) (h Q0))))
 (bz (aT [(I bf),(I bB),(I bD),(I bT),(I cm),(I cn),(I cq),(I cy),(I dp),(I cQ),(I bX),(I bV),(I dq),(I cZ),(I cW),(B cX),(I da),(I dc),cG,cC,cH,cI,cJ,cY,(I cK),(I cR),(.float .f64 cS),(.float .f64 cT),(I cU),(I gh),(I gk),(I gm),(I gn),(I gp),gq,gr] one) ((fin R X0 w0 (az #[(.agg #[(I bf),(I bB),(I bD),(I bT),(I cm),(I cn),(I cq),(I cy),(I dp),(I cQ),(I bX),(I bV),(I dq),(I cZ),(I cW),(B cX),(I da),(I dc),cG,cC,cH,cI,cJ,cY,(I cK),(I cR),(.float .f64 cS),(.float .f64 cT),(I cU),(I gh),(I gk),(I gm),(I gn),(I gp),gq,gr]),(B false)]))))))))))))))))))) fun S0=>
 aa pg X0 w0 (aI .eql 3 (.tmp 7) (.const (I 6)) (I bf) (I 6)) fun T0=>
 (ao T0
 (S0 T0)
 (aa pg X0 w0 (aI .eql 3 (.tmp 7) (.const (I 7)) (I bf) (I 7)) fun U0=>
 (S0 U0))))))))))))))))))))
noncomputable def Ty:bI:=⟨21,[],[],[0,2],[5,6,7,8,9,10,11,13,14,15,17,18,19],[]⟩
def II (p0:Int):Prop:=
 (eC pg R X0 w0 true 163 #[(I p0)] fun a b c=>
 un (aL a false (I p0)) fun d=>
 aF pg c b a false (vS (binOp .gtr 3 d (I 20))) fun e=>
 un (aL a false e) fun g=>
 un (aL g true (I p0)) fun h=>
 aF pg c b g true (vS (binOp .leq 3 h (I 22))) fun i=>
 aF pg c b a false (aN g i (B false)) fun j=>
 ay pg c b (aN a (B true) j) fun k=>
 un (aL k false (I p0)) fun l=>
 aF pg c b k false (vS (aI .eql 3 (.tmp 14) (.const (I 31)) l (I 31))) fun m=>
 ay pg c b (aN k (B true) m) fun n=>
 un (aL n false (I p0)) fun o=>
 aF pg c b n false (vS (aI .eql 3 (.tmp 18) (.const (I 32)) o (I 32))) fun q=>
 ay pg c b (aN n (B true) q) fun r=>
 (fin R c b r))
noncomputable def Tz:bI:=⟨132,[(1,(pg.cellsOf 48)),(3,(pg.cellsOf 46))],[6,8,13,18,23,28,34,40,45,50,54,55,59,60,65,66,72,73,79,85,91,97,107,110,114,118,122,126],[0,2,4,5],[12,14,15,17,19,20,22,24,25,27,29,30,31,33,35,36,37,39,41,42,44,46,47,49,51,52,58,61,62,64,67,68,69,71,74,75,76,78,80,81,82,84,86,87,88,90,92,93,94,96,98,99,100,103,104,106,108,109,111,112,113,115,116,117,119,120,121,123,124,125,127,128,129,130],[]⟩
def BY (_p0_0 _p0_1 _p0_2 bT cm cn cq cy dp cQ bX bV dq cZ cW:Int) (cX:Bool) (da dc:Int) (cG cC cH cI cJ cY:Value) (cK cR:Int) (cS cT:Nat) (cU gh gk gm gn gp:Int) (gq gr:Value):Prop:=
 (bz (aT [(I cK),(I cR),(.float .f64 cS),(.float .f64 cT),(I cU),(I gh),(I gk),(I gm),(I gn),(I gp),gq,gr] one) ((aa pg X0 w0 (fF 33 #[(I 0),(I 0),(I 0)] #[]) fun a=>
 aa pg X0 w0 (aI .eql 33 (.tmp 9) (.tmp 10) (.agg #[(I bT),(I cm),(I cn)]) a) fun b=>
 un (aL b true (I cq)) fun c=>
 aF pg X0 w0 b true (vS (aI .eql 3 (.tmp 14) (.const (I 0)) c (I 0))) fun d=>
 ay pg X0 w0 (aN b d (B false)) fun e=>
 un (aL e true (I cy)) fun g=>
 aF pg X0 w0 e true (vS (aI .eql 3 (.tmp 19) (.const (I 0)) g (I 0))) fun h=>
 ay pg X0 w0 (aN e h (B false)) fun i=>
 un (aL i true (I dp)) fun j=>
 aF pg X0 w0 i true (vS (aI .eql 29 (.tmp 24) (.const (I 0)) j (I 0))) fun k=>
 ay pg X0 w0 (aN i k (B false)) fun l=>
 un (aL l true (.agg #[(I cQ),(I bX),(I bV)])) fun m=>
 aF pg X0 w0 l true (vS (fF 35 #[(I 0),(I 0),(I 0)] #[])) fun n=>
 aF pg X0 w0 l true (vS (aI .eql 35 (.tmp 29) (.tmp 30) m n)) fun o=>
 ay pg X0 w0 (aN l o (B false)) fun q=>
 un (aL q true (.agg #[(I dq),(I cZ),(I cW)])) fun r=>
 aF pg X0 w0 q true (vS (fF 35 #[(I 0),(I 0),(I 0)] #[])) fun s=>
 aF pg X0 w0 q true (vS (aI .eql 35 (.tmp 35) (.tmp 36) r s)) fun t=>
 ay pg X0 w0 (aN q t (B false)) fun v=>
 un (aL v true (B cX)) fun y=>
 aF pg X0 w0 v true (vS (aY bF y)) fun z=>
 ay pg X0 w0 (aN v z (B false)) fun A=>
 un (aL A true (I da)) fun C=>
 aF pg X0 w0 A true (vS (aI .eql 3 (.tmp 46) (.const (I 0)) C (I 0))) fun D=>
 ay pg X0 w0 (aN A D (B false)) fun E=>
 un (aL E true (I dc)) fun F=>
 aF pg X0 w0 E true (vS (aI .eql 3 (.tmp 51) (.const (I 0)) F (I 0))) fun G=>
 ay pg X0 w0 (aN E G (B false)) fun H=>
 (aa pg X0 w0 (aI .eql 3 (.tmp 56) (.const (I 0)) (I cK) (I 0)) fun L=>
 un (aL L true (I cR)) fun M=>
 aF pg X0 w0 L true (vS (aI .eql 3 (.tmp 61) (.const (I 0)) M (I 0))) fun N=>
 ay pg X0 w0 (aN L N (B false)) fun O=>
 un (aL O true (.float .f64 cS)) fun Q=>
 jn (fun (S:Value) (T:World) (U:XS)=>
 aF pg U T O true (vS (aI .eql 196 (.tmp 68) (.const (aA bc 0)) S (aA bc 0))) fun V=>
 ay pg U T (aN O V (B false)) fun Y=>
 un (aL Y true (.float .f64 cT)) fun Z=>
 jn (fun (a0:Value) (b0:World) (c0:XS)=>
 aF pg c0 b0 Y true (vS (aI .eql 196 (.tmp 75) (.const (aA bc 0)) a0 (aA bc 0))) fun d0=>
 ay pg c0 b0 (aN Y d0 (B false)) fun e0=>
 un (aL e0 true (.agg #[(I cU),(I gh),(I gk)])) fun g0=>
 aF pg c0 b0 e0 true (vS (fF 35 #[(I 0),(I 0),(I 0)] #[])) fun h0=>
 aF pg c0 b0 e0 true (vS (aI .eql 35 (.tmp 80) (.tmp 81) g0 h0)) fun i0=>
 ay pg c0 b0 (aN e0 i0 (B false)) fun j0=>
 un (aL j0 true (.agg #[(I gm),(I gn),(I gp)])) fun k0=>
 aF pg c0 b0 j0 true (vS (fF 35 #[(I 0),(I 0),(I 0)] #[])) fun l0=>
 aF pg c0 b0 j0 true (vS (aI .eql 35 (.tmp 86) (.tmp 87) k0 l0)) fun m0=>
 ay pg c0 b0 (aN j0 m0 (B false)) fun n0=>
 un (aL n0 true gq) fun o0=>
 aF pg c0 b0 n0 true (vS (cr 43 3 o0)) fun q0=>
 aF pg c0 b0 n0 true (vS (aI .eql 3 (.tmp 93) (.const (I 0)) q0 (I 0))) fun r0=>
 ay pg c0 b0 (aN n0 r0 (B false)) fun s0=>
 un (aL s0 true gr) fun t0=>
 aF pg c0 b0 s0 true (vS (cr 44 3 t0)) fun v0=>
 aF pg c0 b0 s0 true (vS (aI .eql 3 (.tmp 99) (.const (I 0)) v0 (I 0))) fun y0=>
 ay pg c0 b0 (aN s0 y0 (B false)) fun z0=>
 (un (aL H true z0) fun A0=>
 ay pg c0 b0 (aN H A0 (B false)) fun C0=>
 un (aL C0 true cG) fun D0=>
 aF pg c0 b0 C0 true (vS (cr 36 3 D0)) fun E0=>
 un (aL C0 true cC) fun F0=>
 aF pg c0 b0 C0 true (vS (cr 37 3 F0)) fun G0=>
 aF pg c0 b0 C0 true (vS (binOp .add 3 E0 G0)) fun H0=>
 un (aL C0 true cH) fun L0=>
 aF pg c0 b0 C0 true (vS (cr 23 3 L0)) fun M0=>
 aF pg c0 b0 C0 true (vS (binOp .add 3 H0 M0)) fun N0=>
 un (aL C0 true cI) fun O0=>
 aF pg c0 b0 C0 true (vS (cr 22 3 O0)) fun Q0=>
 aF pg c0 b0 C0 true (vS (binOp .add 3 N0 Q0)) fun S0=>
 un (aL C0 true cJ) fun T0=>
 aF pg c0 b0 C0 true (vS (cr 38 3 T0)) fun U0=>
 aF pg c0 b0 C0 true (vS (binOp .add 3 S0 U0)) fun V0=>
 un (aL C0 true cY) fun Y0=>
 aF pg c0 b0 C0 true (vS (cr 39 3 Y0)) fun Z0=>
 aF pg c0 b0 C0 true (vS (binOp .add 3 V0 Z0)) fun a1=>
 aF pg c0 b0 C0 true (vS (aI .eql 3 (.tmp 129) (.const (I 0)) a1 (I 0))) fun b1=>
 ay pg c0 b0 (aN C0 b1 (B false)) fun c1=>
 (fin R c0 b0 c1))) fun d1=>
 (gE Y true (eC pg R U T true 111 #[Z] d1) (d1 undef T U))) fun e1=>
 (gE O true (eC pg R X0 w0 true 111 #[Q] e1) (e1 undef w0 X0))))))
noncomputable def Py:bI:=⟨95,[(1,(pg.cellsOf 48))],[3,17,21,26,31,36,42,46,51,57,61,66,67,68,70,76,81,83,85,87,92],[0,2,4,5,15,40,55,74,79,90],[20,22,23,25,27,28,30,32,33,35,37,38,45,47,48,50,52,53,60,62,63,65,69,71,72],[]⟩
def zd (bf bB bD bT cm cn cq cy dp cQ bX bV dq cZ cW:Int) (cX:Bool) (da dc:Int) (cG cC cH cI cJ cY:Value) (cK cR:Int) (cS cT:Nat) (cU gh gk gm gn gp:Int) (gq gr:Value):Prop:=
 (((jn (fun (a:Value)=>
 ao a
 (eC pg R X0 w0 true 164 #[(.agg #[(I bf),(I bB),(I bD),(I bT),(I cm),(I cn),(I cq),(I cy),(I dp),(I cQ),(I bX),(I bV),(I dq),(I cZ),(I cW),(B cX),(I da),(I dc),cG,cC,cH,cI,cJ,cY,(I cK),(I cR),(.float .f64 cS),(.float .f64 cT),(I cU),(I gh),(I gk),(I gm),(I gn),(I gp),gq,gr])] fun b c d=>
 (fin R d c b))
 (aa pg X0 w0 (aI .eql 3 (.tmp 4) (.const (I 8)) (I bf) (I 8)) fun e=>
 (ao e
 (eC pg R X0 w0 true 163 #[(I cq)] fun g h i=>
 un (aL g true (I da)) fun j=>
 aF pg i h g true (vS (binOp .geq 3 j (I 1))) fun k=>
 ay pg i h (aN g k (B false)) fun l=>
 un (aL l true (I dc)) fun m=>
 aF pg i h l true (vS (binOp .geq 3 m (I 0))) fun n=>
 ay pg i h (aN l n (B false)) fun o=>
 un (aL o true (I dc)) fun q=>
 aF pg i h o true (vS (binOp .leq 3 q (I 8))) fun r=>
 ay pg i h (aN o r (B false)) fun s=>
 un (aL s true (.agg #[(I cQ),(I bX),(I bV)])) fun t=>
 jn (fun (v:Value) (y:World) (z:XS)=>
 ay pg z y (aN s v (B false)) fun A=>
 (fin R z y A)) fun C=>
 (gE s true (eC pg R i h true 165 #[t] C) (C undef h i)))
 (aa pg X0 w0 (aI .eql 3 (.tmp 4) (.const (I 9)) (I bf) (I 9)) fun D=>
 (ao D
 (eC pg R X0 w0 true 163 #[(I cq)] fun E F G=>
 un (aL E true (I da)) fun H=>
 aF pg G F E true (vS (binOp .geq 3 H (I 1))) fun L=>
 ay pg G F (aN E L (B false)) fun M=>
 un (aL M true cY) fun N=>
 jn (fun (O:Value) (Q:World) (S:XS)=>
 ay pg S Q (aN M O (B false)) fun T=>
 (fin R S Q T)) fun U=>
 (gE M true (eC pg R G F true 166 #[N] U) (U undef F G)))
 (aa pg X0 w0 (aI .eql 3 (.tmp 4) (.const (I 10)) (I bf) (I 10)) fun V=>
 (ao V
 (eC pg R X0 w0 true 163 #[(I cq)] fun Y Z a0=>
 un (aL Y true (.agg #[(I cK),(I cR),(.float .f64 cS),(.float .f64 cT),(I cU),(I gh),(I gk),(I gm),(I gn),(I gp),gq,gr])) fun b0=>
 jn (fun (c0:Value) (d0:World) (e0:XS)=>
 ay pg e0 d0 (aN Y c0 (B false)) fun g0=>
 un (aL g0 true (I cK)) fun h0=>
 un (aL g0 true (I cq)) fun i0=>
 aF pg e0 d0 g0 true (vS (aI .eql 3 (.tmp 69) (.tmp 71) h0 i0)) fun j0=>
 ay pg e0 d0 (aN g0 j0 (B false)) fun k0=>
 (fin R e0 d0 k0)) fun l0=>
 (gE Y true (eC pg R a0 Z true 167 #[b0] l0) (l0 undef Z a0)))
 (aa pg X0 w0 (aI .eql 3 (.tmp 4) (.const (I 11)) (I bf) (I 11)) fun m0=>
 (ao m0
 (eC pg R X0 w0 true 163 #[(I cq)] fun n0 o0 q0=>
 (fin R q0 o0 n0))
 (aa pg X0 w0 (aI .eql 3 (.tmp 4) (.const (I 12)) (I bf) (I 12)) fun r0=>
 (ao r0
 (eC pg R X0 w0 true 168 #[(.agg #[(I dq),(I cZ),(I cW)]),(.agg #[(I cQ),(I bX),(I bV)]),(.agg #[(I bT),(I cm),(I cn)]),cH] fun s0 t0 v0=>
 (fin R v0 t0 s0))
 (aa pg X0 w0 (aI .eql 3 (.tmp 4) (.const (I 14)) (I bf) (I 14)) fun y0=>
 (ao y0
 (eC pg R X0 w0 true 165 #[(.agg #[(I cQ),(I bX),(I bV)])] fun z0 A0 C0=>
 (fin R C0 A0 z0))
 (fin R X0 w0 (B true))))))))))))))) fun D0=>
 aa pg X0 w0 (aI .eql 3 (.tmp 4) (.const (I 1)) (I bf) (I 1)) fun E0=>
 (ao E0
 (D0 E0)
 (aa pg X0 w0 (aI .eql 3 (.tmp 4) (.const (I 2)) (I bf) (I 2)) fun F0=>
 (ao F0
 (D0 F0)
 (aa pg X0 w0 (aI .eql 3 (.tmp 4) (.const (I 3)) (I bf) (I 3)) fun G0=>
 (ao G0
 (D0 G0)
 (aa pg X0 w0 (aI .eql 3 (.tmp 4) (.const (I 4)) (I bf) (I 4)) fun H0=>
 (ao H0
 (D0 H0)
 (aa pg X0 w0 (aI .eql 3 (.tmp 4) (.const (I 5)) (I bf) (I 5)) fun L0=>
 (ao L0
 (D0 L0)
 (aa pg X0 w0 (aI .eql 3 (.tmp 4) (.const (I 6)) (I bf) (I 6)) fun M0=>
 (ao M0
 (D0 M0)
 (aa pg X0 w0 (aI .eql 3 (.tmp 4) (.const (I 7)) (I bf) (I 7)) fun N0=>
 (D0 N0))))))))))))))))
def AM (p0 p1:Value):Prop:=
 (eC pg R X0 w0 true 43 #[p0] fun a b c=>
 (aa pg c b (cr 95 3 p1) fun d=>
 aa pg c b (binOp .gtr 3 d (I 262144)) fun e=>
 (ao e
 ((fin R c b (az #[(I 0),(I 2)])))
 (aa pg c b (binOp .gtr 3 a (I 99999999)) fun g=>
 (ao g
 ((fin R c b (az #[(I 0),(I 1)])))
 ((((jn (fun (h:World) (i:XS)=>
 eC pg R i h true 85 #[p0] fun j k l=>
 (eC pg R l k true 169 #[p1] fun m n o=>
 aa pg o n (aE m 0) fun q=>
 aa pg o n (aE m 1) fun _=>
 (ay pg o n (aH p0) fun r=>
 aa pg o n (aQ 158 0 0 1 r) fun s=>
 aa pg o n (aX 26 s) fun t=>
 ay pg o n (aH p0) fun v=>
 aa pg o n (aQ 158 1 1 1 v) fun y=>
 aa pg o n (aX 9 y) fun z=>
 ay pg o n (aH j) fun A=>
 aa pg o n (aQ 163 0 0 1 A) fun C=>
 aa pg o n (aX 3 C) fun D=>
 eC pg R o n false 106 #[z,D] fun E F G=>
 eC pg R G F true 170 #[t,E,q] fun H L M=>
 (aa pg M L (aI .neq 29 (.tmp 65) (.const (I 0)) H (I 0)) fun N=>
 (ao N
 ((fin R M L (az #[(I 0),H])))
 ((ay pg M L (aH j) fun O=>
 aa pg M L (aQ 163 1 1 1 O) fun Q=>
 aa pg M L (aX 161 Q) fun S=>
 eV pg R M L false (jc 95 5 1 0 #[]) fun T U V=>
 eV pg R V U false (iS 95 5 1 1 95 T p1) fun Y Z a0=>
 eV pg R a0 Z false (jc 161 95 1 1 #[(0,Y)]) fun b0 c0 d0=>
 eV pg R d0 c0 true (iS 161 95 1 24 161 S b0) fun e0 g0 h0=>
 ay pg h0 g0 (aH j) fun i0=>
 aa pg h0 g0 (aQ 163 1 1 1 i0) fun j0=>
 eU pg R h0 g0 true (eo 161 1 j0 e0) fun _ k0 l0=>
 (ay pg l0 k0 (aH j) fun m0=>
 aa pg l0 k0 (aQ 163 2 2 1 m0) fun n0=>
 aa pg l0 k0 (aX 3 n0) fun o0=>
 aa pg l0 k0 (cr 95 3 q) fun q0=>
 aa pg l0 k0 (binOp .add 3 o0 q0) fun r0=>
 ay pg l0 k0 (aH j) fun s0=>
 aa pg l0 k0 (aQ 163 2 2 1 s0) fun t0=>
 eU pg R l0 k0 true (eo 3 1 t0 r0) fun _ v0 y0=>
 ((fin R y0 v0 (az #[a,(I 0)]))))))))))) fun z0=>
 ay pg c b (aH p0) fun A0=>
 aa pg c b (aQ 158 2 2 1 A0) fun C0=>
 aa pg c b (aX 3 C0) fun D0=>
 eC pg R c b false 85 #[p0] fun E0 F0 G0=>
 ay pg G0 F0 (aH E0) fun H0=>
 aa pg G0 F0 (aQ 163 2 2 1 H0) fun L0=>
 aa pg G0 F0 (aX 3 L0) fun M0=>
 aa pg G0 F0 (binOp .geq 3 M0 D0) fun N0=>
 (ao N0
 (eC pg R G0 F0 true 104 #[p0] fun O0 Q0 S0=>
 (aa pg S0 Q0 (aI .neq 29 (.tmp 34) (.const (I 0)) O0 (I 0)) fun T0=>
 (ao T0
 ((fin R S0 Q0 (az #[(I 0),O0])))
 ((eC pg R S0 Q0 true 83 #[p0,a] fun U0 V0 Y0=>
 (aa pg Y0 V0 (aI .neq 29 (.tmp 40) (.const (I 0)) U0 (I 0)) fun Z0=>
 (ao Z0
 ((fin R Y0 V0 (az #[(I 0),U0])))
 (z0 V0 Y0))))))))
 (z0 F0 G0)))))))))))
def CU (p0:Value):Prop:=
 (ay pg X0 w0 (aH p0) fun a=>
 aa pg X0 w0 (aQ 158 0 0 1 a) fun b=>
 aa pg X0 w0 (aX 26 b) fun c=>
 ay pg X0 w0 (aH p0) fun d=>
 aa pg X0 w0 (aQ 158 1 1 1 d) fun e=>
 aa pg X0 w0 (aX 9 e) fun g=>
 eC pg R X0 w0 false 85 #[p0] fun h i j=>
 ay pg j i (aH h) fun k=>
 aa pg j i (aQ 163 0 0 1 k) fun l=>
 aa pg j i (aX 3 l) fun m=>
 eC pg R j i false 106 #[g,m] fun n o q=>
 eC pg R q o true 171 #[c,n] fun r s t=>
 ((jn (fun (v:World) (y:XS)=>
 (fin R y v r)) fun z=>
 aa pg t s (aI .eql 29 (.tmp 19) (.const (I 0)) r (I 0)) fun A=>
 (ao A
 (eC pg R t s true 43 #[p0] fun C D E=>
 aa pg E D (binOp .sub 3 C (I 1)) fun F=>
 ay pg E D (aH p0) fun G=>
 aa pg E D (aQ 158 4 4 1 G) fun H=>
 eU pg R E D true (eo 3 1 H F) fun _ L M=>
 (z L M))
 (z s t)))))
noncomputable def HD:bI:=⟨11,[],[],[0,1,2,3,4],[],[]⟩
def yH (p0:Value) (p1:ByteArray):Prop:=
 eV pg R X0 w0 true (de 26 p0) fun a b c=>
 eV pg R c b true (de 9 (.string p1)) fun d e g=>
 (aa pg g e (aX 26 a) fun h=>
 aa pg g e (aX 26 a) fun i=>
 aa pg g e (aX 9 d) fun j=>
 aa pg g e (cE (gD 174) #[] #[a,d]) fun k=>
 eC pg R g e false 173 #[i,j] fun l m n=>
 eC pg R n m true 172 #[h,l,k] fun o q r=>
 (fin R r q o))
noncomputable def V9:bI:=⟨29,[],[],[0,1,4,5,6,10],[],[1,6]⟩
def Lw (p0:ByteArray) (p1:Int):Prop:=
 (eV pg R X0 w0 true (jc 95 5 1 8 #[(0,(aA cN 48)),(1,(aA cN 48)),(2,(aA cN 48)),(3,(aA cN 48)),(4,(aA cN 48)),(5,(aA cN 48)),(6,(aA cN 48)),(7,(aA cN 48))]) fun a b c=>
 eV pg R c b true (convert 95 95 a) fun d e g=>
 ((lq g e (I 7) (I p1) 6 1 fun h i j k l m=>
 aa pg m l (binOp .geq 3 j (I 0)) fun n=>
 (ao n
 ((aa pg m l (dx 95 1 d j) fun o=>
 aa pg m l (aX 5 o) fun q=>
 aa pg m l (binOp .rem 3 k (I 10)) fun r=>
 aa pg m l (mO cN 3 5 r) fun s=>
 aa pg m l (binOp .add 5 q s) fun t=>
 aa pg m l (dx 95 1 d j) fun v=>
 eU pg R m l true (eo 5 1 v t) fun _ y z=>
 (aa pg z y (binOp .quo 3 k (I 10)) fun A=>
 ((aa pg z y (binOp .sub 3 j (I 1)) fun C=>
 lr h i C A y z)))))
 (((aa pg m l (binOp .add 9 (.string p0) (.string { data:= #[46] })) fun D=>
 eV pg R m l true (convert 95 9 d) fun E F G=>
 aa pg G F (binOp .add 9 D E) fun H=>
 (fin R G F H))))))))
noncomputable def FB:bI:=⟨38,[],[],[0,1,4,5,6,15],[11,12,13,14,18],[5,6]⟩
def xK (p0:Value) (p1:Int):Prop:=
 (((lq X0 w0 (I 0) (I 0) 6 5 fun a b c d e g=>
 aa pg g e (cr 37 3 p0) fun h=>
 aa pg g e (binOp .lss 3 c h) fun i=>
 un (aL i true d) fun j=>
 un (aL i true (I p1)) fun k=>
 aF pg g e i true (vS (binOp .leq 3 j k)) fun l=>
 ay pg g e (aN i l (B false)) fun m=>
 (ao m
 ((aa pg g e (dx 37 7 p0 c) fun n=>
 aa pg g e (aQ 266 0 0 1 n) fun o=>
 aa pg g e (aX 9 o) fun q=>
 aa pg g e (nu 9 3 q) fun r=>
 aa pg g e (binOp .add 3 (I 1) r) fun s=>
 aa pg g e (dx 37 7 p0 c) fun t=>
 aa pg g e (aQ 266 1 1 3 t) fun v=>
 aa pg g e (aQ 51 2 2 1 v) fun y=>
 aa pg g e (aX 9 y) fun z=>
 aa pg g e (nu 9 3 z) fun A=>
 eC pg R g e false 40 #[d,s,(I p1)] fun C D E=>
 eC pg R E D true 40 #[C,A,(I p1)] fun F G H=>
 ((aa pg H G (binOp .add 3 c (I 1)) fun L=>
 lr a b L F G H))))
 (fin R g e d)))))
noncomputable def HE:bI:=⟨67,[(2,(pg.cellsOf 117))],[7,11,18,27,39,49,61],[0,1,4,5,6,35],[31,32,33,34,38],[5,6]⟩
def yI (_p0_0 _p0_1 _p0_2 _p0_3 _p0_4 _p0_5 _p0_6 _p0_7 _p0_8 _p0_9:Int) (_p0_10:Bool) (_p0_11:Int) (_p0_12:Nat) (cZ cW cX da:Value) (dc cG:Int) (cC cH:Nat) (cI cJ cY cK cR cS:Int) (cT cU:Value) (p1:Int):Prop:=
 (eC pg R X0 w0 false 23 #[cZ,(I p1)] fun a b c=>
 eC pg R c b true 10 #[cW,(I p1)] fun d e g=>
 eC pg R g e true 40 #[a,d,(I p1)] fun h i j=>
 (aa pg j i (cr 22 3 cX) fun k=>
 aa pg j i (binOp .add 3 (I p1) (I 1)) fun l=>
 aa pg j i (lG #[3,3] 3 #[k,l]) fun m=>
 eC pg R j i true 40 #[h,m,(I p1)] fun n o q=>
 ((lq q o (I 0) n 6 5 fun r s t v y z=>
 aa pg z y (cr 54 3 da) fun A=>
 aa pg z y (binOp .lss 3 t A) fun C=>
 un (aL C true v) fun D=>
 un (aL C true (I p1)) fun E=>
 aF pg z y C true (vS (binOp .leq 3 D E)) fun F=>
 ay pg z y (aN C F (B false)) fun G=>
 (ao G
 ((aa pg z y (dx 54 4 da t) fun H=>
 aa pg z y (aQ 74 0 0 1 H) fun L=>
 aa pg z y (aX 9 L) fun M=>
 aa pg z y (nu 9 3 M) fun N=>
 aa pg z y (binOp .add 3 (I 1) N) fun O=>
 aa pg z y (dx 54 4 da t) fun Q=>
 aa pg z y (aQ 74 1 1 3 Q) fun S=>
 aa pg z y (aQ 51 2 2 1 S) fun T=>
 aa pg z y (aX 9 T) fun U=>
 aa pg z y (nu 9 3 U) fun V=>
 eC pg R z y false 40 #[v,O,(I p1)] fun Y Z a0=>
 eC pg R a0 Z true 40 #[Y,V,(I p1)] fun b0 c0 d0=>
 ((aa pg d0 c0 (binOp .add 3 t (I 1)) fun e0=>
 lr r s e0 b0 c0 d0))))
 (((aa pg z y (binOp .add 3 v (I 1)) fun g0=>
 eC pg R z y true 110 #[(.agg #[(I dc),(I cG),(.float .f64 cC),(.float .f64 cH),(I cI),(I cJ),(I cY),(I cK),(I cR),(I cS),cT,cU]),(I p1)] fun h0 i0 j0=>
 eC pg R j0 i0 true 40 #[g0,h0,(I p1)] fun k0 l0 m0=>
 (fin R m0 l0 k0)))))))))
noncomputable def Ez:bI:=⟨15,[(2,(pg.cellsOf 46))],[5,9],[0,1,4],[],[]⟩
def wN (_p0_0 _p0_1:Int) (_p0_2 _p0_3:Nat) (_p0_4 _p0_5 _p0_6 _p0_7 _p0_8 _p0_9:Int) (bX bV:Value) (p1:Int):Prop:=
 (eC pg R X0 w0 false 176 #[bX,(I p1)] fun a b c=>
 eC pg R c b true 177 #[bV,(I p1)] fun d e g=>
 eC pg R g e true 40 #[a,d,(I p1)] fun h i j=>
 (fin R j i h))
def BZ (p0 p1:Value):Prop:=
 (aa pg X0 w0 (cr 36 3 p0) fun a=>
 aa pg X0 w0 (cr 36 3 p1) fun b=>
 aa pg X0 w0 (aI .neq 3 (.tmp 7) (.tmp 9) a b) fun c=>
 (ao c
 (fin R X0 w0 (B false))
 (((jB X0 w0 (I 0) 5 fun d e g h i=>
 aa pg i h (cr 36 3 p0) fun j=>
 aa pg i h (binOp .lss 3 g j) fun k=>
 (ao k
 ((aa pg i h (dx 36 1 p0 g) fun l=>
 aa pg i h (aX 9 l) fun m=>
 aa pg i h (dx 36 1 p1 g) fun n=>
 aa pg i h (aX 9 n) fun o=>
 aa pg i h (aI .neq 9 (.tmp 20) (.tmp 24) m o) fun q=>
 (ao q
 (fin R i h (B false))
 (((aa pg i h (binOp .add 3 g (I 1)) fun r=>
 jC d e r h i))))))
 (fin R i h (B true))))))))
def CV (p0 p1:Value):Prop:=
 (aa pg X0 w0 (cr 37 3 p0) fun a=>
 aa pg X0 w0 (cr 37 3 p1) fun b=>
 aa pg X0 w0 (aI .neq 3 (.tmp 7) (.tmp 9) a b) fun c=>
 (ao c
 (fin R X0 w0 (B false))
 (((jB X0 w0 (I 0) 5 fun d e g h i=>
 aa pg i h (cr 37 3 p0) fun j=>
 aa pg i h (binOp .lss 3 g j) fun k=>
 (ao k
 ((aa pg i h (dx 37 7 p0 g) fun l=>
 aa pg i h (gL 266 7 l) fun m=>
 aa pg i h (dx 37 7 p1 g) fun n=>
 aa pg i h (gL 266 7 n) fun o=>
 eC pg R i h true 178 #[m,o] fun q r s=>
 aa pg s r (aY bF q) fun t=>
 (ao t
 (fin R s r (B false))
 (((aa pg s r (binOp .add 3 g (I 1)) fun v=>
 jC d e v r s))))))
 (fin R i h (B true))))))))
def AN (p0 p1:Value):Prop:=
 (aa pg X0 w0 (cr 23 3 p0) fun a=>
 aa pg X0 w0 (cr 23 3 p1) fun b=>
 aa pg X0 w0 (aI .neq 3 (.tmp 7) (.tmp 9) a b) fun c=>
 (ao c
 (fin R X0 w0 (B false))
 (((jB X0 w0 (I 0) 5 fun d e g h i=>
 aa pg i h (cr 23 3 p0) fun j=>
 aa pg i h (binOp .lss 3 g j) fun k=>
 (ao k
 ((aa pg i h (dx 23 4 p0 g) fun l=>
 aa pg i h (aQ 53 0 0 1 l) fun m=>
 aa pg i h (aX 9 m) fun n=>
 aa pg i h (dx 23 4 p1 g) fun o=>
 aa pg i h (aQ 53 0 0 1 o) fun q=>
 aa pg i h (aX 9 q) fun r=>
 aa pg i h (aI .neq 9 (.tmp 21) (.tmp 26) n r) fun s=>
 un (aL s false p0) fun t=>
 un (aL s false g) fun v=>
 aF pg i h s false (vS (dx 23 4 t v)) fun y=>
 aF pg i h s false (vS (aQ 53 1 1 3 y)) fun z=>
 aF pg i h s false (vS (gL 51 3 z)) fun A=>
 un (aL s false p1) fun C=>
 aF pg i h s false (vS (dx 23 4 C v)) fun D=>
 aF pg i h s false (vS (aQ 53 1 1 3 D)) fun E=>
 aF pg i h s false (vS (gL 51 3 E)) fun F=>
 jn (fun (G:Value) (H:World) (L:XS)=>
 aF pg L H s false (vS (aY bF G)) fun M=>
 ay pg L H (aN s (B true) M) fun N=>
 (ao N
 (fin R L H (B false))
 (((aa pg L H (binOp .add 3 g (I 1)) fun O=>
 jC d e O H L))))) fun Q=>
 (gE s false (eC pg R i h true 25 #[A,F] Q) (Q undef h i))))
 (fin R i h (B true))))))))
def CW (p0 p1:Value):Prop:=
 (aa pg X0 w0 (cr 22 3 p0) fun a=>
 aa pg X0 w0 (cr 22 3 p1) fun b=>
 aa pg X0 w0 (aI .neq 3 (.tmp 7) (.tmp 9) a b) fun c=>
 (ao c
 (fin R X0 w0 (B false))
 (((jB X0 w0 (I 0) 5 fun d e g h i=>
 aa pg i h (cr 22 3 p0) fun j=>
 aa pg i h (binOp .lss 3 g j) fun k=>
 (ao k
 ((aa pg i h (dx 22 1 p0 g) fun l=>
 aa pg i h (aX 3 l) fun m=>
 aa pg i h (dx 22 1 p1 g) fun n=>
 aa pg i h (aX 3 n) fun o=>
 aa pg i h (aI .neq 3 (.tmp 20) (.tmp 24) m o) fun q=>
 (ao q
 (fin R i h (B false))
 (((aa pg i h (binOp .add 3 g (I 1)) fun r=>
 jC d e r h i))))))
 (fin R i h (B true))))))))
def AO (p0 p1:Value):Prop:=
 (aa pg X0 w0 (cr 38 3 p0) fun a=>
 aa pg X0 w0 (cr 38 3 p1) fun b=>
 aa pg X0 w0 (aI .neq 3 (.tmp 7) (.tmp 9) a b) fun c=>
 (ao c
 (fin R X0 w0 (B false))
 (((jB X0 w0 (I 0) 5 fun d e g h i=>
 aa pg i h (cr 38 3 p0) fun j=>
 aa pg i h (binOp .lss 3 g j) fun k=>
 (ao k
 ((aa pg i h (dx 38 4 p0 g) fun l=>
 aa pg i h (gL 42 4 l) fun m=>
 aa pg i h (dx 38 4 p1 g) fun n=>
 aa pg i h (gL 42 4 n) fun o=>
 eC pg R i h true 179 #[m,o] fun q r s=>
 aa pg s r (aY bF q) fun t=>
 (ao t
 (fin R s r (B false))
 (((aa pg s r (binOp .add 3 g (I 1)) fun v=>
 jC d e v r s))))))
 (fin R i h (B true))))))))
def CX (p0 p1:Value):Prop:=
 (aa pg X0 w0 (cr 39 3 p0) fun a=>
 aa pg X0 w0 (cr 39 3 p1) fun b=>
 aa pg X0 w0 (aI .neq 3 (.tmp 7) (.tmp 9) a b) fun c=>
 (ao c
 (fin R X0 w0 (B false))
 (((jB X0 w0 (I 0) 5 fun d e g h i=>
 aa pg i h (cr 39 3 p0) fun j=>
 aa pg i h (binOp .lss 3 g j) fun k=>
 (ao k
 ((aa pg i h (dx 39 29 p0 g) fun l=>
 aa pg i h (gL 117 29 l) fun m=>
 aa pg i h (dx 39 29 p1 g) fun n=>
 aa pg i h (gL 117 29 n) fun o=>
 eC pg R i h true 180 #[m,o] fun q r s=>
 aa pg s r (aY bF q) fun t=>
 (ao t
 (fin R s r (B false))
 (((aa pg s r (binOp .add 3 g (I 1)) fun v=>
 jC d e v r s))))))
 (fin R i h (B true))))))))
noncomputable def Mm:bI:=⟨38,[(2,(pg.cellsOf 46)),(3,(pg.cellsOf 46))],[5,7,11,13,18,20,25,27,32,34],[0,1,4],[10,12,14,15,17,19,21,22,24,26,28,29,31,33,35,36],[]⟩
def B0 (bf bB:Int) (bD bT:Nat) (cm cn cq cy dp cQ:Int) (bX bV:Value) (dE dJ:Int) (dL gX:Nat) (iQ iR je jf lH km:Int) (jr js:Value):Prop:=
 (eC pg R X0 w0 true 179 #[(.agg #[(I bf),(I bB),(.float .f64 bD),(.float .f64 bT)]),(.agg #[(I dE),(I dJ),(.float .f64 dL),(.float .f64 gX)])] fun a b c=>
 un (aL a true (.agg #[(I cm),(I cn),(I cq)])) fun d=>
 un (aL a true (.agg #[(I iQ),(I iR),(I je)])) fun e=>
 aF pg c b a true (vS (aI .eql 35 (.tmp 12) (.tmp 14) d e)) fun g=>
 ay pg c b (aN a g (B false)) fun h=>
 un (aL h true (.agg #[(I cy),(I dp),(I cQ)])) fun i=>
 un (aL h true (.agg #[(I jf),(I lH),(I km)])) fun j=>
 aF pg c b h true (vS (aI .eql 35 (.tmp 19) (.tmp 21) i j)) fun k=>
 ay pg c b (aN h k (B false)) fun l=>
 un (aL l true bX) fun m=>
 un (aL l true jr) fun n=>
 jn (fun (o:Value) (q:World) (r:XS)=>
 ay pg r q (aN l o (B false)) fun s=>
 un (aL s true bV) fun t=>
 un (aL s true js) fun v=>
 jn (fun (y:Value) (z:World) (A:XS)=>
 ay pg A z (aN s y (B false)) fun C=>
 (fin R A z C)) fun D=>
 (gE s true (eC pg R r q true 182 #[t,v] D) (D undef q r))) fun E=>
 (gE l true (eC pg R c b true 181 #[m,n] E) (E undef b c)))
noncomputable def KJ:bI:=⟨21,[],[],[0,1,4,5,6,14],[],[]⟩
def AP (p0:Value) (p1:ByteArray):Prop:=
 (ay pg X0 w0 (aH p0) fun a=>
 aa pg X0 w0 (aQ 106 0 0 1 a) fun b=>
 aa pg X0 w0 (aX 104 b) fun c=>
 aa pg X0 w0 (ek 104 c (.string p1) false) fun d=>
 (aa pg X0 w0 (aI .eql 135 (.tmp 13) (.const (.pointer none)) d (.pointer none)) fun e=>
 (ao e
 ((fin R X0 w0 (az #[(.slice none 0 0),(I 8)])))
 ((eV pg R X0 w0 true (jc 95 5 1 0 #[]) fun g h i=>
 ay pg i h (aH d) fun j=>
 aa pg i h (aQ 141 0 0 1 j) fun k=>
 aa pg i h (aX 95 k) fun l=>
 eV pg R i h true (iS 95 5 1 1 95 g l) fun m n o=>
 (fin R o n (az #[m,(I 0)])))))))
def Ha (p0:Value):Prop:=
 ((((jn (fun (a b:Value) (c:World) (d:XS)=>
 (fin R d c (az #[a,b]))) fun e=>
 lq X0 w0 (I 0) (.slice none 0 0) 5 4 fun g h i j k l=>
 aa pg l k (cr 95 3 p0) fun m=>
 aa pg l k (binOp .sub 3 m i) fun n=>
 aa pg l k (binOp .geq 3 n (I 12)) fun o=>
 (ao o
 ((aa pg l k (dR 95 p0 (some i) none none) fun q=>
 eC pg R l k true 202 #[q] fun r s t=>
 aa pg t s (mO IntKind.i64 281 3 r) fun v=>
 (aa pg t s (binOp .gtr 3 v (I 262144)) fun y=>
 un (aL y false p0) fun z=>
 un (aL y false i) fun A=>
 aF pg t s y false (vS (binOp .add 3 A (I 4))) fun C=>
 aF pg t s y false (vS (dR 95 z (some C) none none)) fun D=>
 aF pg t s y false (vS (binOp .add 3 A (I 4))) fun E=>
 aF pg t s y false (vS (dR 95 z (some A) (some E) none)) fun F=>
 jn (fun (G:Value) (H:World) (L:XS)=>
 jn (fun (M:Value) (N:World) (O:XS)=>
 aF pg O N y false (vS (aI .neq 281 (.tmp 25) (.tmp 31) G M)) fun Q=>
 ay pg O N (aN y (B true) Q) fun S=>
 un (aL S false v) fun T=>
 un (aL S false p0) fun U=>
 aF pg O N S false (vS (cr 95 3 U)) fun V=>
 un (aL S false i) fun Y=>
 aF pg O N S false (vS (binOp .sub 3 V Y)) fun Z=>
 aF pg O N S false (vS (binOp .sub 3 Z (I 12))) fun a0=>
 aF pg O N S false (vS (binOp .gtr 3 T a0)) fun b0=>
 ay pg O N (aN S (B true) b0) fun c0=>
 (ao c0
 (e j i N O)
 ((aa pg O N (binOp .add 3 i (I 8)) fun d0=>
 aa pg O N (binOp .add 3 i (I 8)) fun e0=>
 aa pg O N (binOp .add 3 e0 v) fun g0=>
 aa pg O N (dR 95 p0 (some d0) (some g0) none) fun h0=>
 (aa pg O N (binOp .add 3 i (I 8)) fun i0=>
 aa pg O N (binOp .add 3 i0 v) fun j0=>
 aa pg O N (dR 95 p0 (some j0) none none) fun k0=>
 eC pg R O N true 202 #[k0] fun l0 m0 n0=>
 eC pg R n0 m0 true 203 #[h0] fun o0 q0 r0=>
 aa pg r0 q0 (aI .neq 281 (.tmp 57) (.tmp 59) l0 o0) fun s0=>
 (ao s0
 (e j i q0 r0)
 ((eV pg R r0 q0 true (jc 95 5 1 0 #[]) fun t0 v0 y0=>
 eV pg R y0 v0 true (iS 95 5 1 1 95 t0 h0) fun z0 A0 C0=>
 eV pg R C0 A0 true (jc 161 95 1 1 #[(0,z0)]) fun D0 E0 F0=>
 eV pg R F0 E0 true (iS 161 95 1 24 161 j D0) fun G0 H0 L0=>
 (aa pg L0 H0 (binOp .add 3 v (I 12)) fun M0=>
 aa pg L0 H0 (binOp .add 3 i M0) fun N0=>
 (lr g h N0 G0 H0 L0)))))))))) fun O0=>
 (gE y false (eC pg R L H true 203 #[F] O0) (O0 undef H L))) fun Q0=>
 (gE y false (eC pg R t s false 202 #[D] Q0) (Q0 undef s t)))))
 (e j i k l))))))
noncomputable def HF:bI:=⟨29,[],[],[0,1,2,3,4,5,6,10,18],[],[]⟩
def yJ (p0:Value) (p1:ByteArray):Prop:=
 eV pg R X0 w0 true (de 26 p0) fun a b c=>
 eV pg R c b true (de 9 (.string p1)) fun d e g=>
 (((jn (fun (h:Value) (i:World) (j:XS)=>
 (aa pg j i (aX 26 a) fun k=>
 aa pg j i (cE (gD 204) #[] #[a,d]) fun l=>
 eC pg R j i true 172 #[k,h,l] fun m n o=>
 (fin R o n m))) fun q=>
 aa pg g e (aX 9 d) fun r=>
 eC pg R g e true 73 #[r] fun s t v=>
 aa pg v t (aY bF s) fun y=>
 (ao y
 (q (I 10) t v)
 (aa pg v t (aX 26 a) fun z=>
 ay pg v t (aH z) fun A=>
 aa pg v t (aQ 106 0 0 1 A) fun C=>
 aa pg v t (aX 104 C) fun D=>
 aa pg v t (aX 9 d) fun E=>
 aa pg v t (ek 104 D E false) fun F=>
 aa pg v t (aI .neq 135 (.tmp 16) (.const (.pointer none)) F (.pointer none)) fun G=>
 (ao G
 (q (I 9) t v)
 (aa pg v t (aX 26 a) fun H=>
 ay pg v t (aH H) fun L=>
 aa pg v t (aQ 106 0 0 1 L) fun M=>
 aa pg v t (aX 104 M) fun N=>
 aa pg v t (Builtin.len_ #[104] 3 #[N]) fun O=>
 aa pg v t (binOp .geq 3 O (I 64)) fun Q=>
 (ao Q
 (q (I 3) t v)
 (q (I 0) t v)))))))))
noncomputable def Mn:bI:=⟨35,[],[],[0,1,2,3,4,5,6,7,30],[13,14,15,16,17,18,19,20,21,22,23,24,25,26,27,28,29],[]⟩
def B1 (p0:Value) (p1:ByteArray) (p2:Int):Prop:=
 eV pg R X0 w0 true (de 26 p0) fun a b c=>
 eV pg R c b true (de 9 (.string p1)) fun d e g=>
 eV pg R g e true (de 3 (I p2)) fun h i j=>
 (aa pg j i (aX 26 a) fun k=>
 aa pg j i (aX 9 d) fun l=>
 eC pg R j i true 173 #[k,l] fun m n o=>
 ((jn (fun (q:Value)=>
 aa pg o n (aX 26 a) fun r=>
 aa pg o n (cE (gD 205) #[] #[a,d,h]) fun s=>
 eC pg R o n true 172 #[r,q,s] fun t v y=>
 (fin R y v t)) fun z=>
 aa pg o n (aI .eql 29 (.tmp 11) (.const (I 0)) m (I 0)) fun A=>
 aF pg o n A true (vS (aX 3 h)) fun C=>
 aF pg o n A true (vS (binOp .lss 3 C (I 0))) fun D=>
 un (aL A true D) fun E=>
 aF pg o n E false (vS (aX 3 h)) fun F=>
 aF pg o n E false (vS (aX 26 a)) fun G=>
 aF pg o n E false (aH G) fun H=>
 aF pg o n E false (vS (aQ 106 0 0 1 H)) fun L=>
 aF pg o n E false (vS (aX 104 L)) fun M=>
 aF pg o n E false (vS (aX 9 d)) fun N=>
 aF pg o n E false (vS (ek 104 M N false)) fun O=>
 aF pg o n E false (aH O) fun Q=>
 aF pg o n E false (vS (aQ 141 0 0 1 Q)) fun S=>
 aF pg o n E false (vS (aX 95 S)) fun T=>
 aF pg o n E false (vS (cr 95 3 T)) fun U=>
 aF pg o n E false (vS (binOp .gtr 3 F U)) fun V=>
 aF pg o n A true (aN E (B true) V) fun Y=>
 ay pg o n (aN A Y (B false)) fun Z=>
 (ao Z
 (z (I 1))
 (z m)))))
def tQ (p0 p1:Value):Prop:=
 ay pg X0 w0 (aH p0) fun a=>
 aa pg X0 w0 (aQ 175 0 0 1 a) fun b=>
 aa pg X0 w0 (aX 173 b) fun c=>
 aa pg X0 w0 (aI .neq 173 (.tmp 7) (.const (.pointer none)) c (.pointer none)) fun d=>
 (ao d
 (ay pg X0 w0 (aH p0) fun e=>
 aa pg X0 w0 (aQ 175 0 0 1 e) fun g=>
 aa pg X0 w0 (aX 173 g) fun h=>
 ay pg X0 w0 (aH p1) fun i=>
 aa pg X0 w0 (aX 3 i) fun j=>
 eC pg R X0 w0 true 206 #[h,j] fun _ k l=>
 (fin R l k (az #[])))
 ((ay pg X0 w0 (aH p0) fun m=>
 aa pg X0 w0 (aQ 175 1 1 1 m) fun n=>
 aa pg X0 w0 (aX 169 n) fun o=>
 eC pg R X0 w0 true 207 #[o] fun q r s=>
 ay pg s r (aH p1) fun t=>
 eU pg R s r true (eo 3 1 t q) fun _ v y=>
 (eC pg R y v true 208 #[p0] fun _ z A=>
 fin R A z (az #[])))))
def xL (p0 p1:Value):Prop:=
 ay pg X0 w0 (aH p1) fun a=>
 aa pg X0 w0 (aQ 46 0 0 4 a) fun b=>
 eC pg R X0 w0 true 209 #[p0,b] fun _ c d=>
 (ay pg d c (aH p1) fun e=>
 aa pg d c (aQ 46 1 4 3 e) fun g=>
 eC pg R d c true 148 #[p0,g] fun _ h i=>
 (ay pg i h (aH p1) fun j=>
 aa pg i h (aQ 46 2 7 3 j) fun k=>
 eC pg R i h true 148 #[p0,k] fun _ l m=>
 (ay pg m l (aH p1) fun n=>
 aa pg m l (aQ 46 3 10 1 n) fun o=>
 aa pg m l (cE (gD 211) #[p0] #[]) fun q=>
 eC pg R m l true 210 #[p0,o,q] fun _ r s=>
 (ay pg s r (aH p1) fun t=>
 aa pg s r (aQ 46 4 11 1 t) fun v=>
 aa pg s r (cE (gD 144) #[p0] #[]) fun y=>
 eC pg R s r true 212 #[p0,v,y] fun _ z A=>
 fin R A z (az #[])))))
def vH (p0 p1:Value):Prop:=
 ay pg X0 w0 (aH p1) fun a=>
 aa pg X0 w0 (aQ 229 0 0 3 a) fun b=>
 eC pg R X0 w0 true 146 #[p0,b] fun _ c d=>
 (ay pg d c (aH p1) fun e=>
 aa pg d c (aQ 229 1 3 3 e) fun g=>
 eC pg R d c true 148 #[p0,g] fun _ h i=>
 (ay pg i h (aH p1) fun j=>
 aa pg i h (aQ 229 2 6 1 j) fun k=>
 aa pg i h (cE (gD 214) #[p0] #[]) fun l=>
 eC pg R i h true 213 #[p0,k,l] fun _ m n=>
 (ay pg n m (aH p1) fun o=>
 aa pg n m (aQ 229 3 7 1 o) fun q=>
 aa pg n m (cE (gD 151) #[p0] #[]) fun r=>
 eC pg R n m true 150 #[p0,q,r] fun _ s t=>
 fin R t s (az #[]))))
def AQ (p0 p1 p2:Value):Prop:=
 ay pg X0 w0 (aH p1) fun a=>
 aa pg X0 w0 (aX 22 a) fun b=>
 aa pg X0 w0 (cr 22 3 b) fun c=>
 ((jn (fun (d:Value) (e:World) (g:XS)=>
 (jB g e (I 0) 39 fun h i j k l=>
 aa pg l k (binOp .lss 3 j d) fun m=>
 (ao m
 ((((jn (fun (n:World) (o:XS)=>
 ay pg o n (aH p1) fun q=>
 aa pg o n (aX 22 q) fun r=>
 aa pg o n (dx 22 1 r j) fun s=>
 eF pg R o n true p2 #[s] fun _ t v=>
 ((aa pg v t (binOp .add 3 j (I 1)) fun y=>
 jC h i y t v))) fun z=>
 ay pg l k (aH p0) fun A=>
 aa pg l k (aQ 175 0 0 1 A) fun C=>
 aa pg l k (aX 173 C) fun D=>
 aa pg l k (aI .eql 173 (.tmp 45) (.const (.pointer none)) D (.pointer none)) fun E=>
 (ao E
 ((ay pg l k (aH p1) fun F=>
 aa pg l k (aX 22 F) fun G=>
 eV pg R l k true (jc 22 3 1 1 #[(0,(I 0))]) fun H L M=>
 eV pg R M L true (iS 22 3 1 8 22 G H) fun N O Q=>
 ay pg Q O (aH p1) fun S=>
 eU pg R Q O true (eo 22 1 S N) fun _ T U=>
 (z T U)))
 (z k l))))))
 (fin R l k (az #[]))))) fun V=>
 ay pg X0 w0 (aH p0) fun Y=>
 aa pg X0 w0 (aQ 175 0 0 1 Y) fun Z=>
 aa pg X0 w0 (aX 173 Z) fun a0=>
 aa pg X0 w0 (aI .neq 173 (.tmp 16) (.const (.pointer none)) a0 (.pointer none)) fun b0=>
 (ao b0
 (ay pg X0 w0 (aH p0) fun c0=>
 aa pg X0 w0 (aQ 175 0 0 1 c0) fun d0=>
 aa pg X0 w0 (aX 173 d0) fun e0=>
 eC pg R X0 w0 true 206 #[e0,c] fun _ g0 h0=>
 (V c g0 h0))
 (ay pg X0 w0 (aH p0) fun i0=>
 aa pg X0 w0 (aQ 175 1 1 1 i0) fun j0=>
 aa pg X0 w0 (aX 169 j0) fun k0=>
 ay pg X0 w0 (aH p0) fun l0=>
 aa pg X0 w0 (aQ 175 1 1 1 l0) fun m0=>
 aa pg X0 w0 (aX 169 m0) fun n0=>
 eC pg R X0 w0 false 216 #[n0] fun o0 q0 r0=>
 eC pg R r0 q0 true 215 #[k0,o0] fun s0 t0 v0=>
 (eC pg R v0 t0 true 208 #[p0] fun _ y0 z0=>
 (ay pg z0 y0 (aH p1) fun A0=>
 eU pg R z0 y0 true (eo 22 1 A0 (.slice none 0 0)) fun _ C0 D0=>
 (V s0 C0 D0)))))))
def tR (p0 p1:Value):Prop:=
 ay pg X0 w0 (aH p1) fun a=>
 aa pg X0 w0 (aQ 33 0 0 1 a) fun b=>
 eC pg R X0 w0 true 142 #[p0,b] fun _ c d=>
 (ay pg d c (aH p1) fun e=>
 aa pg d c (aQ 33 1 1 1 e) fun g=>
 eC pg R d c true 142 #[p0,g] fun _ h i=>
 (ay pg i h (aH p1) fun j=>
 aa pg i h (aQ 33 2 2 1 j) fun k=>
 eC pg R i h true 142 #[p0,k] fun _ l m=>
 fin R m l (az #[])))
def yK (p0 p1:Value):Prop:=
 ay pg X0 w0 (aH p0) fun a=>
 aa pg X0 w0 (aQ 175 0 0 1 a) fun b=>
 aa pg X0 w0 (aX 173 b) fun c=>
 aa pg X0 w0 (aI .neq 173 (.tmp 7) (.const (.pointer none)) c (.pointer none)) fun d=>
 (ao d
 (ay pg X0 w0 (aH p0) fun e=>
 aa pg X0 w0 (aQ 175 0 0 1 e) fun g=>
 aa pg X0 w0 (aX 173 g) fun h=>
 ay pg X0 w0 (aH p1) fun i=>
 aa pg X0 w0 (aX 4 i) fun j=>
 eC pg R X0 w0 true 217 #[h,j] fun _ k l=>
 (fin R l k (az #[])))
 ((ay pg X0 w0 (aH p0) fun m=>
 aa pg X0 w0 (aQ 175 1 1 1 m) fun n=>
 aa pg X0 w0 (aX 169 n) fun o=>
 eC pg R X0 w0 true 218 #[o] fun q r s=>
 ay pg s r (aH p1) fun t=>
 eU pg R s r true (eo 4 1 t q) fun _ v y=>
 (eC pg R y v true 208 #[p0] fun _ z A=>
 fin R A z (az #[])))))
def rZ (p0 p1:Value):Prop:=
 ay pg X0 w0 (aH p1) fun a=>
 aa pg X0 w0 (aQ 35 0 0 1 a) fun b=>
 eC pg R X0 w0 true 142 #[p0,b] fun _ c d=>
 (ay pg d c (aH p1) fun e=>
 aa pg d c (aQ 35 1 1 1 e) fun g=>
 eC pg R d c true 142 #[p0,g] fun _ h i=>
 (ay pg i h (aH p1) fun j=>
 aa pg i h (aQ 35 2 2 1 j) fun k=>
 eC pg R i h true 142 #[p0,k] fun _ l m=>
 fin R m l (az #[])))
def xM (p0 p1:Value):Prop:=
 ay pg X0 w0 (aH p0) fun a=>
 aa pg X0 w0 (aQ 175 0 0 1 a) fun b=>
 aa pg X0 w0 (aX 173 b) fun c=>
 aa pg X0 w0 (aI .neq 173 (.tmp 7) (.const (.pointer none)) c (.pointer none)) fun d=>
 (ao d
 (ay pg X0 w0 (aH p0) fun e=>
 aa pg X0 w0 (aQ 175 0 0 1 e) fun g=>
 aa pg X0 w0 (aX 173 g) fun h=>
 ay pg X0 w0 (aH p1) fun i=>
 aa pg X0 w0 (aX 40 i) fun j=>
 eC pg R X0 w0 true 219 #[h,j] fun _ k l=>
 (fin R l k (az #[])))
 ((ay pg X0 w0 (aH p0) fun m=>
 aa pg X0 w0 (aQ 175 1 1 1 m) fun n=>
 aa pg X0 w0 (aX 169 n) fun o=>
 eC pg R X0 w0 true 220 #[o] fun q r s=>
 ay pg s r (aH p1) fun t=>
 eU pg R s r true (eo 40 1 t q) fun _ v y=>
 (eC pg R y v true 208 #[p0] fun _ z A=>
 fin R A z (az #[])))))
def mZ (p0 p1 p2:Value):Prop:=
 ay pg X0 w0 (aH p1) fun a=>
 aa pg X0 w0 (aX 23 a) fun b=>
 aa pg X0 w0 (cr 23 3 b) fun c=>
 ((jn (fun (d:Value) (e:World) (g:XS)=>
 (jB g e (I 0) 39 fun h i j k l=>
 aa pg l k (binOp .lss 3 j d) fun m=>
 (ao m
 ((((jn (fun (n:World) (o:XS)=>
 ay pg o n (aH p1) fun q=>
 aa pg o n (aX 23 q) fun r=>
 aa pg o n (dx 23 4 r j) fun s=>
 eF pg R o n true p2 #[s] fun _ t v=>
 ((aa pg v t (binOp .add 3 j (I 1)) fun y=>
 jC h i y t v))) fun z=>
 ay pg l k (aH p0) fun A=>
 aa pg l k (aQ 175 0 0 1 A) fun C=>
 aa pg l k (aX 173 C) fun D=>
 aa pg l k (aI .eql 173 (.tmp 45) (.const (.pointer none)) D (.pointer none)) fun E=>
 (ao E
 ((ay pg l k (aH p1) fun F=>
 aa pg l k (aX 23 F) fun G=>
 eV pg R l k false (jc 23 53 4 1 #[(0,(.agg #[(.string { data:= #[] }),(I 0),(.float .f64 0),(.string { data:= #[] })]))]) fun H L M=>
 eV pg R M L true (iS 23 53 4 48 23 G H) fun N O Q=>
 ay pg Q O (aH p1) fun S=>
 eU pg R Q O true (eo 23 1 S N) fun _ T U=>
 (z T U)))
 (z k l))))))
 (fin R l k (az #[]))))) fun V=>
 ay pg X0 w0 (aH p0) fun Y=>
 aa pg X0 w0 (aQ 175 0 0 1 Y) fun Z=>
 aa pg X0 w0 (aX 173 Z) fun a0=>
 aa pg X0 w0 (aI .neq 173 (.tmp 16) (.const (.pointer none)) a0 (.pointer none)) fun b0=>
 (ao b0
 (ay pg X0 w0 (aH p0) fun c0=>
 aa pg X0 w0 (aQ 175 0 0 1 c0) fun d0=>
 aa pg X0 w0 (aX 173 d0) fun e0=>
 eC pg R X0 w0 true 206 #[e0,c] fun _ g0 h0=>
 (V c g0 h0))
 (ay pg X0 w0 (aH p0) fun i0=>
 aa pg X0 w0 (aQ 175 1 1 1 i0) fun j0=>
 aa pg X0 w0 (aX 169 j0) fun k0=>
 ay pg X0 w0 (aH p0) fun l0=>
 aa pg X0 w0 (aQ 175 1 1 1 l0) fun m0=>
 aa pg X0 w0 (aX 169 m0) fun n0=>
 eC pg R X0 w0 false 216 #[n0] fun o0 q0 r0=>
 eC pg R r0 q0 true 215 #[k0,o0] fun s0 t0 v0=>
 (eC pg R v0 t0 true 208 #[p0] fun _ y0 z0=>
 (ay pg z0 y0 (aH p1) fun A0=>
 eU pg R z0 y0 true (eo 23 1 A0 (.slice none 0 0)) fun _ C0 D0=>
 (V s0 C0 D0)))))))
def r5 (p0 p1:Value):Prop:=
 ay pg X0 w0 (aH p1) fun a=>
 aa pg X0 w0 (aQ 53 0 0 1 a) fun b=>
 eC pg R X0 w0 true 214 #[p0,b] fun _ c d=>
 (ay pg d c (aH p1) fun e=>
 aa pg d c (aQ 53 1 1 3 e) fun g=>
 eC pg R d c true 221 #[p0,g] fun _ h i=>
 fin R i h (az #[]))
def ny (p0 p1 p2:Value):Prop:=
 ay pg X0 w0 (aH p1) fun a=>
 aa pg X0 w0 (aX 54 a) fun b=>
 aa pg X0 w0 (cr 54 3 b) fun c=>
 ((jn (fun (d:Value) (e:World) (g:XS)=>
 (jB g e (I 0) 39 fun h i j k l=>
 aa pg l k (binOp .lss 3 j d) fun m=>
 (ao m
 ((((jn (fun (n:World) (o:XS)=>
 ay pg o n (aH p1) fun q=>
 aa pg o n (aX 54 q) fun r=>
 aa pg o n (dx 54 4 r j) fun s=>
 eF pg R o n true p2 #[s] fun _ t v=>
 ((aa pg v t (binOp .add 3 j (I 1)) fun y=>
 jC h i y t v))) fun z=>
 ay pg l k (aH p0) fun A=>
 aa pg l k (aQ 175 0 0 1 A) fun C=>
 aa pg l k (aX 173 C) fun D=>
 aa pg l k (aI .eql 173 (.tmp 45) (.const (.pointer none)) D (.pointer none)) fun E=>
 (ao E
 ((ay pg l k (aH p1) fun F=>
 aa pg l k (aX 54 F) fun G=>
 eV pg R l k false (jc 54 74 4 1 #[(0,(.agg #[(.string { data:= #[] }),(I 0),(.float .f64 0),(.string { data:= #[] })]))]) fun H L M=>
 eV pg R M L true (iS 54 74 4 48 54 G H) fun N O Q=>
 ay pg Q O (aH p1) fun S=>
 eU pg R Q O true (eo 54 1 S N) fun _ T U=>
 (z T U)))
 (z k l))))))
 (fin R l k (az #[]))))) fun V=>
 ay pg X0 w0 (aH p0) fun Y=>
 aa pg X0 w0 (aQ 175 0 0 1 Y) fun Z=>
 aa pg X0 w0 (aX 173 Z) fun a0=>
 aa pg X0 w0 (aI .neq 173 (.tmp 16) (.const (.pointer none)) a0 (.pointer none)) fun b0=>
 (ao b0
 (ay pg X0 w0 (aH p0) fun c0=>
 aa pg X0 w0 (aQ 175 0 0 1 c0) fun d0=>
 aa pg X0 w0 (aX 173 d0) fun e0=>
 eC pg R X0 w0 true 206 #[e0,c] fun _ g0 h0=>
 (V c g0 h0))
 (ay pg X0 w0 (aH p0) fun i0=>
 aa pg X0 w0 (aQ 175 1 1 1 i0) fun j0=>
 aa pg X0 w0 (aX 169 j0) fun k0=>
 ay pg X0 w0 (aH p0) fun l0=>
 aa pg X0 w0 (aQ 175 1 1 1 l0) fun m0=>
 aa pg X0 w0 (aX 169 m0) fun n0=>
 eC pg R X0 w0 false 216 #[n0] fun o0 q0 r0=>
 eC pg R r0 q0 true 215 #[k0,o0] fun s0 t0 v0=>
 (eC pg R v0 t0 true 208 #[p0] fun _ y0 z0=>
 (ay pg z0 y0 (aH p1) fun A0=>
 eU pg R z0 y0 true (eo 54 1 A0 (.slice none 0 0)) fun _ C0 D0=>
 (V s0 C0 D0)))))))
def sV (p0 p1:Value):Prop:=
 ay pg X0 w0 (aH p1) fun a=>
 aa pg X0 w0 (aQ 74 0 0 1 a) fun b=>
 eC pg R X0 w0 true 214 #[p0,b] fun _ c d=>
 (ay pg d c (aH p1) fun e=>
 aa pg d c (aQ 74 1 1 3 e) fun g=>
 eC pg R d c true 221 #[p0,g] fun _ h i=>
 fin R i h (az #[]))
def xN (p0:Value):Prop:=
 (ay pg X0 w0 (aH p0) fun a=>
 aa pg X0 w0 (aQ 223 2 2 1 a) fun b=>
 aa pg X0 w0 (aX 29 b) fun c=>
 ay pg X0 w0 (aH p0) fun d=>
 aa pg X0 w0 (aQ 223 3 3 1 d) fun e=>
 aa pg X0 w0 (aX 3 e) fun g=>
 (fin R X0 w0 (az #[c,g])))
noncomputable def Wa:bI:=⟨22,[(1,(pg.cellsOf 117)),(3,(pg.cellsOf 117))],[],[0,2,4,10,13],[17,18,19,20],[]⟩
def Lx (bf bB bD bT cm cn cq cy dp cQ:Int) (bX:Bool) (bV:Int) (dq:Nat) (cZ cW cX da:Value) (dc cG:Int) (cC cH:Nat) (cI cJ cY cK cR cS:Int) (cT cU:Value):Prop:=
 (eC pg R X0 w0 true 222 #[(.agg #[(I bf),(I bB),(I bD),(I bT),(I cm),(I cn),(I cq),(I cy),(I dp),(I cQ),(B bX),(I bV),(.float .f64 dq),cZ,cW,cX,da,(I dc),(I cG),(.float .f64 cC),(.float .f64 cH),(I cI),(I cJ),(I cY),(I cK),(I cR),(I cS),cT,cU])] fun a b c=>
 aa pg c b (aE a 0) fun d=>
 aa pg c b (aE a 1) fun e=>
 un (aJ (ad d)) fun g=>
 bz (aB (af (ad d))==29) (bz (aT (af (ad d)) one) ((aa pg c b (aY bF e) fun h=>
 (ao h
 (fin R c b (I 7))
 (bz (ez g) (un (eQ g 0 29) fun i=>
 eC pg R c b true 223 #[i] fun j k l=>
 aa pg l k (aY bF j) fun m=>
 un (aL m false (.agg #[(I bf),(I bB),(I bD),(I bT),(I cm),(I cn),(I cq),(I cy),(I dp),(I cQ),(B bX),(I bV),(.float .f64 dq),cZ,cW,cX,da,(I dc),(I cG),(.float .f64 cC),(.float .f64 cH),(I cI),(I cJ),(I cY),(I cK),(I cR),(I cS),cT,cU])) fun n=>
 jn (fun (o:Value) (q:World) (r:XS)=>
 aF pg r q m false (vS (aY bF o)) fun s=>
 ay pg r q (aN m (B true) s) fun t=>
 (ao t
 (fin R r q (I 4))
 (fin R r q (I 0)))) fun v=>
 (gE m false (eC pg R l k true 224 #[n] v) (v undef k l)))))))))
def AR:Prop:=
 (aa pg X0 w0 (fF 308 #[(.slice none 0 0)] #[]) fun a=>
 eV pg R X0 w0 true (de 308 a) fun b c d=>
 (fin R d c b))
def xO (p0:Value):Prop:=
 (eV pg R X0 w0 true (jc 95 5 1 0 #[]) fun a b c=>
 ay pg c b (aH p0) fun d=>
 aa pg c b (aQ 308 0 0 1 d) fun e=>
 aa pg c b (aX 95 e) fun g=>
 eV pg R c b true (iS 95 5 1 1 95 a g) fun h i j=>
 (fin R j i h))
end
end Go.Proofs.YtpdkoaklobnegaaGreat
