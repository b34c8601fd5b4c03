/-
 Part 3 of the proof: what the last text leans on.
-/
import Derived.Laws.Slices
import Derived.Laws.Pointers
import Derived.Test.YtfndblbeikocdaaGreatY2
open Bool renaming false_eq_true → bh
open List renaming filter_cons → fT, replicate → eZ, find?_cons → bS, findIdx?_cons → gS, getElem_map → mL, any_cons → iK, length_take → aW, foldl_cons → gV, getElem_of_mem → ti, append_assoc → aB, getElem?_append_right → gM
open Go.Instr renaming lookup → ck, entry → kI, mapUpdate → dE, makeFunc → ct
open Go.Builtin renaming clear_ → e6, zeroCells → ez
open Option renaming map_some → bH, map_none → xN
open Go.Sem renaming run_bind → bL
open Go.Result renaming andThen_ok → bk
open Option.some renaming injEq → ax
set_option linter.unusedSectionVars false
set_option linter.unusedVariables false
set_option linter.unusedSimpArgs false
namespace Go.bu
variable {P : Program} {R : Ending → World → Prop} {X Y A A' : XS} {w w' : World} {m : Bool} {κ : Type} [DecidableEq κ] {α : Type}
def SH (P:Program) (S f:Nat):Option Bool:=match P.underlying S with
 |some (.struct fs)=>match fs[f]? with
  |some x=>match P.underlying x.type with
   |some (.struct _)|some (.array _ _)=>some true
   |some _=>some false
   |none=>none
  |none=>none
 |_=>none
def oB (rd:World→XS→Value→α→Prop):Prop:= ∀(X Y:XS) (w w':World) (v:Value) (x:α),rd w X v x→Mv X w Y w'→rd w' Y v x
def jq (w:World) (A:XS) (rd:World→XS→Value→α→Prop):List (iq κ)→List (κ×α)→Prop
 |[],[]=>True
 |e::es,x::l=>e.1=x.1∧rd w A e.2.1 x.2∧jq w A rd es l
 |_,_=>False
theorem jq.mv {rd:World→XS→Value→α→Prop} (hm:oB rd) (v:Mv A w A' w'): ∀{es:List (iq κ)} {l:List (κ×α)},jq w A rd es l→jq w' A' rd es l
 |[],[],_=>trivial
 |_::_,_::_,⟨h1,h2,h3⟩=>⟨h1,hm _ _ _ _ _ _ h2 v,jq.mv hm v h3⟩
 |[],_::_,h=>h.elim
 |_::_,[],h=>h.elim
theorem jq.keys {rd:World→XS→Value→α→Prop} : ∀{es:List (iq κ)} {l:List (κ×α)},jq w A rd es l→es.map (·.1)=l.map (·.1)
 |[],[],_=>rfl
 |_::_,_::_,⟨h1,_,h3⟩=>by simp [h1,jq.keys h3]
 |[],_::_,h=>h.elim
 |_::_,[],h=>h.elim
theorem jq.append {rd:World→XS→Value→α→Prop} : ∀{es VT:List (iq κ)} {l l':List (κ×α)},jq w A rd es l→jq w A rd VT l'→jq w A rd (es++VT) (l++l')
 |[],_,[],_,_,h'=>h'
 |_::_,_,_::_,_,⟨h1,h2,h3⟩,h'=>⟨h1,h2,jq.append h3 h'⟩
 |[],_,_::_,_,h,_=>h.elim
 |_::_,_,[],_,h,_=>h.elim
def getM (k:κ) (l:List (κ×α)):Option α:=(l.find? fun x=>decide (x.1=k)).map (·.2)
def bM (k:κ) (a:α):List (κ×α)→List (κ×α)
 |[]=>[(k,a)]
 |x::l=>if x.1=k then(k,a)::l else x::bM k a l
def jk (k:κ) (l:List (κ×α)):List (κ×α):=l.filter fun x=>decide (x.1≠k)
theorem jq.get {rd:World→XS→Value→α→Prop} (k:κ): ∀{es:List (iq κ)} {l:List (κ×α)},jq w A rd es l→
  (CG k es=none∧getM k l=none)∨ ∃v a,CG k es=some v∧getM k l=some a∧rd w A v a
 |[],[],_=>.inl ⟨rfl,rfl⟩
 |e::es,x::l,⟨h1,h2,h3⟩=>by
  by_cases hk:x.1=k
  ·exact .inr ⟨e.2.1,x.2,by simp [CG,h1,hk],by simp [getM,hk],h2⟩
  ·rcases jq.get k h3 with⟨q1,q2⟩|⟨v,a,q1,q2,q3⟩
   ·left;constructor
    ·simp only [CG,bS,h1,hk,decide_false,bh,if_false];exact q1
    ·simp only [getM,bS,hk,decide_false,bh,if_false];exact q2
   ·right;refine⟨v,a,?_,?_,q3⟩
    ·simp only [CG,bS,h1,hk,decide_false,bh,if_false];exact q1
    ·simp only [getM,bS,hk,decide_false,bh,if_false];exact q2
 |[],_::_,h=>h.elim
 |_::_,[],h=>h.elim
def Al (k:κ) (v:Value) (c:Nat):List (iq κ)→List (iq κ)
 |[]=>[(k,v,c)]
 |e::es=>if e.1=k then(e.1,v,e.2.2)::es else e::Al k v c es
theorem V5 (k:κ) (v:Value) (c:Nat) (es:List (iq κ)):(Bm k v c es).1=Al k v c es:=by
 induction es with
 |nil=>simp [Bm,Al]
 |cons e es ih=>
  unfold Bm at ih⊢;by_cases hk:e.1=k
  ·simp [gS,hk,Al]
  ·simp only [gS,hk,decide_false,bh,if_false,Al];cases hf:es.findIdx? fun x=>decide (x.1=k)with
   |none=>rw [hf] at ih;simp only [xN,List.cons_append] at ih⊢;rw [ih]
   |some j=>rw [hf] at ih;simp only [bH,List.modify_succ_cons] at ih⊢;rw [ih]
theorem jq.put {rd:World→XS→Value→α→Prop} {k:κ} {v:Value} {a:α} {c:Nat} (hv:rd w A v a): ∀{es:List (iq κ)} {l:List (κ×α)},jq w A rd es l→jq w A rd (Al k v c es) (bM k a l)
 |[],[],_=>⟨rfl,hv,trivial⟩
 |e::es,x::l,⟨h1,h2,h3⟩=>by
  unfold Al bM;by_cases hk:x.1=k
  ·rw [if_pos (h1.trans hk),if_pos hk];exact⟨h1.trans hk,hv,h3⟩
  ·rw [if_neg (by rw [h1];exact hk),if_neg hk];exact⟨h1,h2,jq.put hv h3⟩
 |[],_::_,h=>h.elim
 |_::_,[],h=>h.elim
def QD (k:κ) (es:List (iq κ)):List (iq κ):=es.filter fun x=>decide (x.1≠k)
theorem V6 (k:κ): ∀(es:List (iq κ)),(es.map (·.1)).Nodup→K3 k es=QD k es
 |[],_=>rfl
 |e::es,h=>by
  have h':(es.map (·.1)).Nodup:=(List.nodup_cons.1 h).2;have ih:=V6 k es h';unfold K3 at ih⊢;by_cases hk:e.1=k
  ·have:es.filter (fun x=>decide (x.1≠k))=es:=List.filter_eq_self.2 fun x hx=>by
    have:x.1≠k:=fun hxk=>(List.nodup_cons.1 h).1 (by simp only [List.mem_map];exact⟨x,hx,by rw [hxk,hk]⟩);simpa using this
   simp only [QD] at this⊢;simp only [gS,hk,decide_true,if_true,List.eraseIdx_cons_zero,ne_eq,not_true_eq_false,decide_false,fT,bh,if_false];exact this.symm
  ·simp only [gS,hk,decide_false,bh,if_false];cases hf:es.findIdx? fun x=>decide (x.1=k)with
   |none=>rw [hf] at ih;simp only [xN];simp only at ih;rw [ih];simp [QD,hk,←ih]
   |some j=>rw [hf] at ih;simp only [bH,List.eraseIdx_cons_succ] at ih⊢;rw [ih];simp [QD,hk]
theorem jq.filter {rd:World→XS→Value→α→Prop} (p:κ→Bool): ∀{es:List (iq κ)} {l:List (κ×α)},jq w A rd es l→jq w A rd (es.filter fun x=>p x.1) (l.filter fun x=>p x.1)
 |[],[],_=>trivial
 |e::es,x::l,⟨h1,h2,h3⟩=>by
  have ih:=jq.filter p h3;by_cases hp:p x.1=true
  ·simp only [fT,h1,hp,if_true];exact⟨h1,h2,ih⟩
  ·simp only [fT,h1,hp,if_false];exact ih
 |[],_::_,h=>h.elim
 |_::_,[],h=>h.elim
theorem jq.mem {rd:World→XS→Value→α→Prop} : ∀{es:List (iq κ)} {l:List (κ×α)},jq w A rd es l→ ∀e∈es,∃a,(e.1,a)∈l∧rd w A e.2.1 a
 |[],[],_,_,h=>by cases h
 |e0::es,x::l,⟨h1,h2,h3⟩,e,he=>by
  rcases List.mem_cons.1 he with rfl|he
  ·exact⟨x.2,by rw [h1];simp,h2⟩
  ·obtain⟨a,ha,hr⟩:=jq.mem h3 e he;exact⟨a,List.mem_cons_of_mem _ ha,hr⟩
 |[],_::_,h,_,_=>h.elim
 |_::_,[],h,_,_=>h.elim
def fy (w:World) (X A:XS) (b:Nat) (kv:κ→Value) (rd:World→XS→Value→α→Prop) (l:List (κ×α)):Prop:=
 ∃es c,jR w X b kv es c∧jq w A rd es l
theorem fy.mv {b:Nat} {kv:κ→Value} {rd:World→XS→Value→α→Prop} {l:List (κ×α)} (h:fy w X A b kv rd l) (hm:oB rd) (v:Mv X w Y w') (va:Mv A w A' w'):fy w' Y A' b kv rd l:=
 let⟨es,c,h1,h2⟩:=h
 ⟨es,c,h1.mv v,h2.mv hm va⟩
theorem fy.nodup {b:Nat} {kv:κ→Value} {rd:World→XS→Value→α→Prop} {l:List (κ×α)} (h:fy w X A b kv rd l):(l.map (·.1)).Nodup:=by
 obtain⟨es,c,h1,h2⟩:=h;rw [←h2.keys];exact h1.2.2.1
theorem fy.x {b:Nat} {kv:κ→Value} {rd:World→XS→Value→α→Prop} {l:List (κ×α)} (h:fy w X A b kv rd l):X b∧b<w.heap.size:=
 let⟨_,_,h1,_⟩:=h
 ⟨h1.1,(Array.getElem?_eq_some_iff.1 h1.2.1).1⟩
theorem fy.own {b:Nat} {kv:κ→Value} {rd:World→XS→Value→α→Prop} {l:List (κ×α)} (h:fy w X A b kv rd l):fy w (fun k=>k=b) A b kv rd l:=
 let⟨es,c,h1,h2⟩:=h
 ⟨es,c,⟨rfl,h1.2⟩,h2⟩
theorem bI.own {b:Nat} {cs:List Value} {ty:TypeId} (h:bI w X b cs ty):bI w (fun k=>k=b) b cs ty:=⟨rfl,h.2⟩
theorem bI.lt {b:Nat} {cs:List Value} {ty:TypeId} (h:bI w X b cs ty):b<w.heap.size:=(Array.getElem?_eq_some_iff.1 h.2).1
theorem Mv.one {b:Nat} (hk:Kp X w w') (hb:X b) (hy:Y b):Mv (fun k=>k=b) w Y w':=fun k ah _=>by subst ah;exact⟨hy,hk.block _ hb⟩
theorem sf {t:TypeId} {kv:κ→Value} (rd:World→XS→Value→α→Prop) (A:XS) {N:Value→World→XS→Prop} (hX: ∀k,X k→k<w.heap.size)
  (n: ∀b w' X',w.heap.size≤b→ak X w X' w'→fy w' X' A b kv rd []→N (.map (some b)) w' X'):eV P R X w m (Instr.makeMap t none) N:=
 Xb hX fun b w' X' hb hs hm=>n b w' X' hb hs ⟨[],0,hm,trivial⟩
theorem oS {t kt et b:Nat} {kv:κ→Value} {rd:World→XS→Value→α→Prop} {l:List (κ×α)} {k:κ} {N:Value→Prop} (z:Value) (h:fy w X A b kv rd l) (K:rA P kt kv)
  (ht:P.underlying t=some (.map kt et)) (hz:(P.info? et).bind (·.zero)=some z)
  (n1: ∀v a,getM k l=some a→rd w A v a→N (.tuple #[v,.bool true])) (n0:getM k l=none→N (.tuple #[z,.bool false])):
  ad P X w (ck t (.map (some b)) (kv k) true) N:=by
 obtain⟨es,c,h1,h2⟩:=h;refine Xa z h1 K ht hz ?_;rcases h2.get k with⟨q1,q2⟩|⟨v,a,q1,q2,q3⟩
 ·rw [q1];exact n0 q2
 ·rw [q1];exact n1 v a q2 q3
theorem mP {t kt et b:Nat} {kv:κ→Value} {rd:World→XS→Value→α→Prop} {l:List (κ×α)} {k:κ} {N:Value→Prop} (z:Value) (h:fy w X A b kv rd l) (K:rA P kt kv)
  (ht:P.underlying t=some (.map kt et)) (hz:(P.info? et).bind (·.zero)=some z)
  (n1: ∀v a,getM k l=some a→rd w A v a→N v) (n0:getM k l=none→N z):
  ad P X w (ck t (.map (some b)) (kv k) false) N:=by
 have key: ∀u q,(∀wa,Kp X w wa→(ck t (.map (some b)) (kv k) true).run P wa= .ok (.tuple #[u,.bool q]) wa)→ ∀wa,Kp X w wa→(ck t (.map (some b)) (kv k) false).run P wa= .ok u wa:=by
  intro u q hq wa hk;have h1:=hq wa hk;obtain⟨es,c,hm,_⟩:=h;have hb:=(hm.kp hk).2.1;simp only [ck,bL,run_underlying ht,bk,getObj,Sem.run,hb,K.aF,List.toList_toArray,K.find] at h1⊢;cases hf:nN k es 0 with
  |none=>
   cases hi:P.info? et with
   |none=>simp [hi] at hz
   |some inf=>
    have AB:inf.zero=some z:=by simpa [hi] using hz
    simp [zeroValue,typeInfo,hi,AB,K.find,hf] at h1⊢;exact h1.1
  |some r=>
   simp [K.find,hf] at h1⊢;exact h1.1
 have:=oS (N:=fun v=> ∃u q,v= .tuple #[u,.bool q]∧N u) z h K ht hz (fun v a h1 h2=>⟨v,_,rfl,n1 v a h1 h2⟩) (fun h0=>⟨z,_,rfl,n0 h0⟩);obtain⟨v,hv,u,q,rfl,hn⟩:=this;refine AT u (key u q fun wa hk=>?_) hn;have:=hv wa hk;simp only [vS,bL] at this;cases hr:(ck t (.map (some b)) (kv k) true).run P wa with
 |ok a w2=>rw [hr] at this;simp only [bk,Sem.run_pure,Result.ok.injEq,Next.value.injEq] at this;rw [this.1,this.2]
 |halt a w2=>rw [hr] at this;simp [Result.andThen] at this
theorem se {t kt et b:Nat} {kv:κ→Value} {rd:World→XS→Value→α→Prop} {l:List (κ×α)} {k:κ} {v:Value} {a:α} {N:Value→World→XS→Prop} (h:fy w X A b kv rd l) (hm:oB rd)
  (hv:rd w A v a) (hA: ∀k,A k→X k∧k≠b) (K:rA P kt kv) (ht:P.underlying t=some (.map kt et)) (hX: ∀k,X k→k<w.heap.size)
  (n: ∀w' X',ef (· =b) X w X' w'→fy w' X' A b kv rd (bM k a l)→N undef w' X'):
  eU P R X w true (dE t (.map (some b)) (kv k) v) N:=by
 obtain⟨es,c,h1,h2⟩:=h;refine ZR h1 K ht hX fun w' X' hg hi=>?_;have hc:ef (· =b) X w X' w':=hg.dF.mono fun k _ hk=>by simpa using hk
 refine n w' X' hc ⟨_,_,hi,?_⟩;rw [V5];have mv:Mv A w A w':=fun k hk _=>⟨hk,hc.block k (hA k hk).1 (hA k hk).2⟩;exact(h2.put hv).mv hm mv
theorem R1 {t kt et tk ty b:Nat} {kv:κ→Value} {rd:World→XS→Value→α→Prop} {l:List (κ×α)} {k:κ} {N:Value→World→XS→Prop} (h:fy w X A b kv rd l) (hm:oB rd)
  (hA: ∀k,A k→X k∧k≠b) (K:rA P kt kv) (ht:P.underlying t=some (.map kt et)) (hX: ∀k,X k→k<w.heap.size)
  (n: ∀w' X',ef (· =b) X w X' w'→fy w' X' A b kv rd (jk k l)→N (.tuple #[]) w' X'):
  eV P R X w true (Builtin.delete_ #[t,tk] ty #[.map (some b),kv k]) N:=by
 obtain⟨es,c,h1,h2⟩:=h;refine ZS h1 K ht hX fun w' X' hg hi=>?_;have hc:ef (· =b) X w X' w':=hg.dF.mono fun k _ hk=>by simpa using hk
 refine n w' X' hc ⟨_,_,hi,?_⟩;rw [V6 _ _ h1.2.2.1];have mv:Mv A w A w':=fun k hk _=>⟨hk,hc.block k (hA k hk).1 (hA k hk).2⟩;exact(h2.filter (fun x=>decide (x≠k))).mv hm mv
def tj (w:World) (X A:XS) (r b:Nat) (kv:κ→Value) (rd:World→XS→Value→α→Prop) (l left:List (κ×α)):Prop:=
 ∃es c Du,wL w X r b kv es c Du∧jq w A rd es l∧jq w A rd Du left∧Du.Sublist es
theorem tj.mv {r b:Nat} {kv:κ→Value} {rd:World→XS→Value→α→Prop} {l left:List (κ×α)} (h:tj w X A r b kv rd l left) (hm:oB rd) (v:Mv X w Y w') (va:Mv A w A' w'):tj w' Y A' r b kv rd l left:=by
 obtain⟨es,c,Du,h1,h2,h3,h4⟩:=h;refine⟨es,c,Du,⟨h1.1.mv v,?_,h1.2.2.1,?_⟩,h2.mv hm va,h3.mv hm va,h4⟩
 ·obtain⟨s,hs,_⟩:=h1.2.2.2;exact(v r h1.2.1 (Array.getElem?_eq_some_iff.1 hs).1).1
 ·obtain⟨s,hs,hl⟩:=h1.2.2.2;exact⟨s,by rw [(v r h1.2.1 (Array.getElem?_eq_some_iff.1 hs).1).2];exact hs,hl⟩
theorem tj.map {r b:Nat} {kv:κ→Value} {rd:World→XS→Value→α→Prop} {l left:List (κ×α)} (h:tj w X A r b kv rd l left):fy w X A b kv rd l:=
 let⟨es,c,_,h1,h2,_⟩:=h
 ⟨es,c,h1.1,h2⟩
theorem tj.nodup {r b:Nat} {kv:κ→Value} {rd:World→XS→Value→α→Prop} {l left:List (κ×α)} (h:tj w X A r b kv rd l left):(left.map (·.1)).Nodup:=by
 obtain⟨es,c,Du,h1,h2,h3,h4⟩:=h;rw [←h3.keys];exact h1.1.2.2.1.sublist (h4.map _)
theorem ZY {l:List (κ×α)} (c:κ×α→Bool):(l.map (·.1)).Nodup→ ∀{k:κ} {a:α},(k,a)∈l→l.any c=(c (k,a)||(l.filter fun y=>decide (y.1≠k)).any c):=by
 induction l with
 |nil=>intro _ k a h;cases h
 |cons x l ih=>
  intro hn k a h;have j3:=List.nodup_cons.1 hn;rcases List.mem_cons.1 h with h|h
  ·subst h;have:l.filter (fun y=>decide (y.1≠k))=l:=List.filter_eq_self.2 fun y hy=>by
    have:y.1≠k:=fun e=>j3.1 (List.mem_map.2 ⟨y,hy,e⟩);simpa using this
   simp only [iK,fT,ne_eq,not_true_eq_false,decide_false,bh,if_false];simp only [ne_eq] at this;rw [this]
  ·have hx:x.1≠k:=fun e=>j3.1 (List.mem_map.2 ⟨(k,a),h,e.symm⟩);have:=ih j3.2 h;simp only [iK,fT,hx,ne_eq,not_false_eq_true,decide_true,if_true];simp only [ne_eq] at this;rw [this,←Bool.or_assoc,←Bool.or_assoc,Bool.or_comm (c x)]
theorem Mo {β:Type} {f:β→κ×α→β} (hf: ∀s x y,f (f s x) y=f (f s y) x) {l:List (κ×α)} : ∀{k:κ} {a:α} (s:β),(l.map (·.1)).Nodup→(k,a)∈l→
  l.foldl f s=(l.filter fun y=>decide (y.1≠k)).foldl f (f s (k,a)):=by
 induction l with
 |nil=>intro k a s _ h;cases h
 |cons x l ih=>
  intro k a s hn h;have j3:=List.nodup_cons.1 hn;rcases List.mem_cons.1 h with h|h
  ·subst h;have:l.filter (fun y=>decide (y.1≠k))=l:=List.filter_eq_self.2 fun y hy=>by
    have:y.1≠k:=fun e=>j3.1 (List.mem_map.2 ⟨y,hy,e⟩);simpa using this
   simp only [gV,fT,ne_eq,not_true_eq_false,decide_false,bh,if_false];simp only [ne_eq] at this;rw [this]
  ·have hx:x.1≠k:=fun e=>j3.1 (List.mem_map.2 ⟨(k,a),h,e.symm⟩);have:=ih (f s x) j3.2 h;simp only [gV,fT,hx,ne_eq,not_false_eq_true,decide_true,if_true];simp only [ne_eq] at this;rw [this,hf]
theorem Iy {l:List (κ×α)} {k:κ} {a:α} (h:(k,a)∈l):(l.filter fun y=>decide (y.1≠k)).length<l.length:=by
 refine Nat.lt_of_le_of_ne (List.length_filter_le _ _) fun e=>?_;have:=List.length_filter_eq_length_iff.1 e (k,a) h;simp at this
theorem ak.j6 {X0:XS} {w0:World} (h:ak X0 w0 X w) (hA: ∀k,A k→X0 k):Mv A w0 A w:=fun k hk _=>⟨hk,h.kp.block k (hA k hk)⟩
theorem Iz {t kt et b:Nat} {kv:κ→Value} {rd:World→XS→Value→α→Prop} {l:List (κ×α)} {N:Value→World→XS→Prop} (h:fy w X A b kv rd l) (hm:oB rd) (hA: ∀k,A k→X k)
  (ht:P.underlying t=some (.map kt et)) (hX: ∀k,X k→k<w.heap.size)
  (n: ∀r w' X',w.heap.size≤r→ak X w X' w'→tj w' X' A r b kv rd l l→N (ptr r 0) w' X'):eV P R X w m (Instr.range t (.map (some b))) N:=by
 obtain⟨es,c,h1,h2⟩:=h;refine abF h1 ht hX fun r w' X' hr hs hi=>n r w' X' hr hs ?_;have mv:Mv A w A w':=fun k hk _=>⟨hk,hs.kp.block k (hA k hk)⟩;exact⟨es,c,es,hi,h2.mv hm mv,h2.mv hm mv,List.Sublist.refl _⟩
theorem Mp {ty r b:Nat} {kv:κ→Value} {rd:World→XS→Value→α→Prop} {l left:List (κ×α)} {N:Value→World→XS→Prop} (h:tj w X A r b kv rd l left) (hm:oB rd)
  (hA: ∀k,A k→X k∧k≠r) (hX: ∀k,X k→k<w.heap.size)
  (n0:left=[]→ ∀w' X',ak X w X' w'→N (.tuple #[.bool false]) w' X')
  (n1: ∀k a v,(k,a)∈left→ ∀w' X',ef (· =r) X w X' w'→rd w' A v a→tj w' X' A r b kv rd l (left.filter fun y=>decide (y.1≠k))→
   (∀wa,Kp X' w' wa→(kI (ptr r 0)).run P wa= .ok (.tuple #[kv k,v]) wa)→N (.tuple #[.bool true,kv k,v]) w' X'):
  eV P R X w true (Instr.next (ptr r 0) false ty) N:=by
 obtain⟨es,c,Du,h1,h2,h3,h4⟩:=h;refine adz h1 hX (fun h0 w' X' hs=>n0 ?_ w' X' hs) fun x hx w' X' hg hi he=>?_
 ·subst h0;cases left with
  |nil=>rfl
  |cons y t=>exact h3.elim
 ·have hc:ef (· =r) X w X' w':=hg.dF.mono fun k _ hk=>by simpa using hk
  have mv:Mv A w A w':=fun k hk _=>⟨hk,hc.block k (hA k hk).1 (hA k hk).2⟩;obtain⟨a,ha,hra⟩:=h3.mem x hx;refine n1 x.1 a x.2.1 ha w' X' hc (hm _ _ _ _ _ _ hra mv) ?_ he;have hk: ∀y∈Du,decide (y.2.2≠x.2.2)=decide (y.1≠x.1):=by
   intro y hy;have hye:=h4.subset hy;have GL:=h4.subset hx;have n1:=h1.1.2.2.1;have n2:=h1.1.2.2.2.1;obtain⟨i,hi9,rfl⟩:=ti hye;obtain⟨j,hj,rfl⟩:=ti GL;have inj: ∀{β:Type} (f:iq κ→β),(es.map f).Nodup→(f es[i]=f es[j]↔i=j):=by
    intro β f n;constructor
    ·intro e;have hp:=List.pairwise_iff_getElem.1 n;rcases Nat.lt_trichotomy i j with h|h|h
     ·exact absurd (by rw [mL,mL];exact e) (hp i j (by simpa using hi9) (by simpa using hj) h)
     ·exact h
     ·exact absurd (by rw [mL,mL];exact e.symm) (hp j i (by simpa using hj) (by simpa using hi9) h)
    ·rintro rfl;rfl
   have e1:=inj (·.1) n1;have e2:=inj (·.2.2) n2;simp only [ne_eq,e1,e2]
  have hf:(Du.filter fun y=>decide (y.2.2≠x.2.2))=Du.filter fun y=>decide (y.1≠x.1):=List.filter_congr hk;refine⟨es,c,_,hi,h2.mv hm mv,?_,?_⟩
  ·rw [hf];exact(h3.filter (fun k=>decide (k≠x.1))).mv hm mv
  ·exact(List.filter_sublist).trans h4
theorem IA {r:Nat} {k v:Value} {N:Value→World→XS→Prop} (hX: ∀k,X k→k<w.heap.size)
  (h: ∀wa,Kp X w wa→(kI (ptr r 0)).run P wa= .ok (.tuple #[k,v]) wa) (n: ∀w' X',ak X w X' w'→N (.tuple #[k,v]) w' X'):
  eV P R X w m (kI (ptr r 0)) N:=abG hX h n
def Np (w:World) (A:XS) (rd:World→XS→Value→α→Prop) (k:κ):List (iq κ)→List (κ×α)→Prop
 |[],[]=>True
 |e::es,x::l=>e.1=x.1∧(x.1≠k→rd w A e.2.1 x.2)∧Np w A rd k es l
 |_,_=>False
def QE (w:World) (X A:XS) (b:Nat) (kv:κ→Value) (rd:World→XS→Value→α→Prop) (k:κ) (l:List (κ×α)):Prop:=
 ∃es c,jR w X b kv es c∧Np w A rd k es l
theorem jq.ZZ {rd:World→XS→Value→α→Prop} {k:κ} : ∀{es:List (iq κ)} {l:List (κ×α)},jq w A rd es l→
  (∀x v,x∈l→x.1≠k→rd w A v x.2→rd w' A' v x.2)→Np w' A' rd k es l
 |[],[],_,_=>trivial
 |e::es,x::l,⟨h1,h2,h3⟩,hm=>⟨h1,fun hk=>hm x _ (by simp) hk h2,jq.ZZ h3 fun y v hy=>hm y v (by simp [hy])⟩
 |[],_::_,h,_=>h.elim
 |_::_,[],h,_=>h.elim
theorem fy.ZZ {b:Nat} {kv:κ→Value} {rd:World→XS→Value→α→Prop} {k:κ} {l:List (κ×α)} (h:fy w X A b kv rd l) (m:Mv (fun g=>g=b) w Y w')
  (hm: ∀x v,x∈l→x.1≠k→rd w A v x.2→rd w' A' v x.2):QE w' Y A' b kv rd k l:=by
 obtain⟨es,c,h1,h2⟩:=h;exact⟨es,c,jR.mv (X:=fun g=>g=b) ⟨rfl,h1.2⟩ m,h2.ZZ hm⟩
theorem Np.put {rd:World→XS→Value→α→Prop} {k:κ} {v:Value} {a:α} {c:Nat} (hv:rd w A v a): ∀{es:List (iq κ)} {l:List (κ×α)},(es.map (·.1)).Nodup→Np w A rd k es l→jq w A rd (Al k v c es) (bM k a l)
 |[],[],_,_=>⟨rfl,hv,trivial⟩
 |e::es,x::l,hn,⟨h1,h2,h3⟩=>by
  have j3:=List.nodup_cons.1 hn;unfold Al bM;by_cases hk:x.1=k
  ·rw [if_pos (h1.trans hk),if_pos hk];refine⟨h1.trans hk,hv,?_⟩;have bW: ∀y∈es,y.1≠k:=fun y hy e'=>j3.1 (List.mem_map.2 ⟨y,hy,e'.trans (hk.symm.trans h1.symm)⟩);clear hn j3 h1 h2
   induction es generalizing l with
   |nil=>cases l<;>first|trivial|exact h3.elim
   |cons e2 es ih=>
    cases l with
    |nil=>exact h3.elim
    |cons y l=>exact⟨h3.1,h3.2.1 (h3.1▸bW e2 (by simp)),ih l h3.2.2 fun z hz=>bW z (by simp [hz])⟩
  ·rw [if_neg (by rw [h1];exact hk),if_neg hk];exact⟨h1,h2 hk,Np.put hv j3.2 h3⟩
 |[],_::_,_,h=>h.elim
 |_::_,[],_,h=>h.elim
theorem Pu {t kt et b:Nat} {kv:κ→Value} {rd:World→XS→Value→α→Prop} {l:List (κ×α)} {k:κ} {v:Value} {a:α} {N:Value→World→XS→Prop} (h:QE w X A b kv rd k l) (hm:oB rd)
  (hv:rd w A v a) (hA: ∀k,A k→X k∧k≠b) (K:rA P kt kv) (ht:P.underlying t=some (.map kt et)) (hX: ∀k,X k→k<w.heap.size)
  (n: ∀w' X',ef (· =b) X w X' w'→fy w' X' A b kv rd (bM k a l)→N undef w' X'):
  eU P R X w true (dE t (.map (some b)) (kv k) v) N:=by
 obtain⟨es,c,h1,h2⟩:=h;refine ZR h1 K ht hX fun w' X' hg hi=>?_;have hc:ef (· =b) X w X' w':=hg.dF.mono fun k _ hk=>by simpa using hk
 refine n w' X' hc ⟨_,_,hi,?_⟩;rw [V5];have mv:Mv A w A w':=fun k hk _=>⟨hk,hc.block k (hA k hk).1 (hA k hk).2⟩;exact(h2.put hv h1.2.2.1).mv hm mv
theorem kR {l:List (κ×α)} {k:κ} {a:α} (h:getM k l=some a):(k,a)∈l:=by
 unfold getM at h;obtain⟨x,hx,rfl⟩:=Option.map_eq_some_iff.1 h;have h1:=List.mem_of_find?_eq_some hx;have h2:x.1=k:=by simpa using List.find?_some hx
 subst h2;exact h1
theorem mR {l:List (κ×α)} (hn:(l.map (·.1)).Nodup) {k:κ} {a:α} (h:(k,a)∈l):getM k l=some a:=by
 induction l with
 |nil=>cases h
 |cons x l ih=>
  have j3:=List.nodup_cons.1 hn;rcases List.mem_cons.1 h with h|h
  ·subst h;simp [getM]
  ·have hx:x.1≠k:=fun e=>j3.1 (List.mem_map.2 ⟨(k,a),h,e.symm⟩);have:=ih j3.2 h;simp only [getM,bS,hx,decide_false,bh,if_false];exact this
theorem fc {l:List (κ×α)} {k:κ} {a:α} : ∀{x:κ×α},(l.map (·.1)).Nodup→x∈bM k a l→x=(k,a)∨(x∈l∧x.1≠k):=by
 induction l with
 |nil=>intro x _ h;left;simpa [bM] using h
 |cons y l ih=>
  intro x hn h;have j3:=List.nodup_cons.1 hn;unfold bM at h;split at h
  ·rename_i hy;rcases List.mem_cons.1 h with h|h
   ·exact .inl h
   ·exact .inr ⟨by simp [h],fun e=>j3.1 (List.mem_map.2 ⟨x,h,e.trans hy.symm⟩)⟩
  ·rename_i hy;rcases List.mem_cons.1 h with h|h
   ·exact .inr ⟨by simp [h],by rw [h];exact hy⟩
   ·rcases ih j3.2 h with h|⟨h,h2⟩
    ·exact .inl h
    ·exact .inr ⟨by simp [h],h2⟩
theorem ns {t:TypeId} {l:List Value} {N:Value→World→XS→Prop} (hX: ∀k,X k→k<w.heap.size)
  (n: ∀b w' X',w.heap.size≤b→ak X w X' w'→bI w' X' b l t→N (ptr b 0) w' X'):eV P R X w m (Instr.box t (.agg l.toArray)) N:=
 VZ hX fun b w' X' hb hs hx hr=>n b w' X' hb hs ⟨hx,by simpa [Value.cells] using hr⟩
theorem oh {t:TypeId} {v:Value} {N:Value→World→XS→Prop} (ho:one v=true) (hX: ∀k,X k→k<w.heap.size)
  (n: ∀b w' X',w.heap.size≤b→ak X w X' w'→bI w' X' b [v] t→N (ptr b 0) w' X'):eV P R X w m (Instr.box t v) N:=
 VZ hX fun b w' X' hb hs hx hr=>n b w' X' hb hs ⟨hx,by
  have:v.cells.toList=[v]:=by cases v<;>first|rfl|cases ho
  rw [this] at hr;exact hr⟩
theorem ak.iS {w:World} {X:XS} (h: ∀k,X k→k<w.heap.size):ak X w X w:=⟨Kp.refl _ _,fun _ h=>h,h⟩
theorem afn {S f fo sz:Nat} {l l':List Value} {N:Value→Prop} (hf:fieldInfo P S f=some (fo,sz)) (hg:SH P S f=some true) (hlen:decide (fo+sz≤l.length)=true) (hl:(l.drop fo).take sz=l')
  (k:N (.agg l'.toArray)):ad P X w (fdV S f fo sz (.agg l.toArray)) N:=by
 subst hl;unfold fieldInfo at hf;unfold SH at hg;cases hu:P.underlying S with
 |none=>simp [hu] at hf
 |some d=>
  cases d<;>simp only [hu] at hf<;>try (cases hf;done)
  rename_i fs;cases hx:fs[f]? with
  |none=>simp [hx] at hf
  |some x=>
   simp only [hx,Option.bind_some,hu] at hf hg;cases hi:P.info? x.type with
   |none=>simp [hi] at hf
   |some i=>
    simp only [hi,bH,ax,Prod.mk.injEq] at hf;cases hd:P.underlying x.type with
    |none=>simp [hd] at hg
    |some d2=>
     refine cx (v:=.agg ((l.drop fo).take sz).toArray) (fun wa=>?_) k;have x5:(isAgg x.type).run P wa= .ok true wa:=by
      cases d2<;>simp_all [isAgg,run_underlying hd]
     have hle:fo+sz≤l.length:=by simpa using hlen
     obtain⟨rfl,rfl⟩:=hf;simp [fdV,Instr.field,run_underlying hu,hx,asAgg,part,x5,sizeOf,typeInfo,hi,hle]
theorem agw {f:FuncId} {la lc l:List Value} {N:Value→World→XS→Prop} (hl:la++lc=l) (h:eC P R X w m f l.toArray N):eF P R X w m (.func (.func f) #[] lc.toArray) la.toArray N:=by
 subst hl;have e: ∀wa,(D4 (.func (.func f) #[] lc.toArray) la.toArray).run P wa=(callFunc f (la++lc).toArray).run P wa:=by
  intro wa;simp [D4,Deferred.ofValue,invoke]
 intro wa hk;have:=h wa hk;rw [e wa];exact this
theorem adG {fn:Fn} {a c:Array Value} {N:Value→Prop} (h:N (.func fn a c)):ad P X w (ct fn a c) N:=cx (fun wa=>by simp [ct]) h
theorem Ct.kp {f:FuncId} {args:Array Value} {F:XS} {Q:Value→World→World→Prop} (h:Ct P f args w X F Q) {w':World} (hk:Kp X w w'):Ct P f args w' X F Q:=fun wa ah=>h wa (hk.trans ah)
theorem Ct.since {f:FuncId} {args:Array Value} {F X':XS} {Q:Value→World→World→Prop} (h:Ct P f args w X F Q) {w':World} (hs:ak X w X' w'):Ct P f args w' X' F Q:=fun wa ah=>h wa (hs.kp.trans (ah.less hs.sub))
theorem Ct.aS {f:FuncId} {args:Array Value} {F:XS} {Q:Value→World→World→Prop} (h:Ct P f args w X F Q) (hX: ∀k,X k→k<w.heap.size):Ct P f args w (bu.aS w) F Q:=
 fun wa ah=>h wa (ah.less fun k hk=>hX k hk)
def idxOf (p:α→Bool):List α→Int
 |[]=> -1
 |x::l=>if p x then 0 else let i:=idxOf p l;if i<0 then i else i+1
theorem pU (p:α→Bool): ∀l:List α,decide (idxOf p l≥0)=l.any p
 |[]=>rfl
 |x::l=>by
  have ih:=pU p l;unfold idxOf;by_cases hp:p x
  ·simp [hp]
  ·simp only [hp,bh,if_false,iK,Bool.false_or,←ih];by_cases hi:idxOf p l<0
   ·simp [hi]
   ·simp only [hi,if_false];congr 1;simp;omega
theorem uy {p:α→Bool} {l:List α} {i:Nat} (h: ∀k x,k<i→l[k]? =some x→p x=false) {x:α} (hx:l[i]? =some x) (hp:p x=true):idxOf p l=i:=by
 induction l generalizing i with
 |nil=>simp at hx
 |cons y l ih=>
  cases i with
  |zero=>simp only [List.getElem?_cons_zero,ax] at hx;subst hx;simp [idxOf,hp]
  |succ i=>
   have hy:=h 0 y zQ rfl;have:=ih (i:=i) (fun k z hk hz=>h (k+1) z zQ (by simpa using hz)) (by simpa using hx);simp only [idxOf,hy,bh,if_false,this];rw [if_neg zQ];omega
theorem qg {p:α→Bool} {l:List α} (h: ∀k x,k<l.length→l[k]? =some x→p x=false):idxOf p l= -1:=by
 induction l with
 |nil=>rfl
 |cons y l ih=>
  have hy:=h 0 y (by simp) rfl;have:=ih fun k z hk hz=>h (k+1) z (by simpa using hk) (by simpa using hz);simp [idxOf,hy,this]
theorem ak.less {X0 Y0:XS} {w0:World} (h:ak X0 w0 X w) (hs: ∀k,Y0 k→X0 k):ak Y0 w0 X w:=⟨h.kp.less hs,fun k hk=>h.sub k (hs k hk),h.has⟩
theorem Own.vM {g n cap:Nat} {e k lo:Nat} {cs:List Value} {rows:List (List Value)} (h:bI w X g cs e) (eo:lo≤g) (hr: ∀r∈rows,r.length=k) (hn:rows.length=n) (hc:n≤cap) (hm:cap≤maxLen)
  (hl:cs.length=cap*k) (ht:cs.take (n*k)=rows.flatten):Own w X lo e k (.slice (some ⟨g,0,none⟩) n cap) rows:=
 ⟨hr,⟨by rw [gQ hr],.inr ⟨g,cap,cs.toArray,by rw [hn],eo,h.2,by rw [hn];exact hc,hm,by simpa using hl,by rw [hn];simpa using ht⟩⟩,fun g' hg=>by simp only [Value.ownBlock,ax] at hg;subst hg;exact h.1⟩
theorem Own.row {e k lo:Nat} {v:Value} {rows:List (List Value)} (h:Own w X lo e k v rows):(v= .slice none 0 0∧rows=[])∨
  ∃g cap cs,v= .slice (some ⟨g,0,none⟩) rows.length cap∧lo≤g∧bI w X g cs e∧rows.length≤cap∧cap≤maxLen∧cs.length=cap*k∧cs.take (rows.length*k)=rows.flatten:=by
 obtain⟨h1,h2,h3⟩:=h;rcases h2.2 with⟨rfl,hn⟩|⟨g,cap,cur,rfl,hb,hg,jh,iB,lR,ht⟩
 ·exact .inl ⟨rfl,List.eq_nil_of_length_eq_zero hn⟩
 ·exact .inr ⟨g,cap,cur.toList,rfl,hb,⟨h3 g rfl,by simpa using hg⟩,jh,iB,by simpa using lR,ht⟩
theorem Ag {α:Type} {p:α→Bool} : ∀{l:List α},¬idxOf p l= -1→ ∃(i:Nat) (x:α),idxOf p l=i∧l[i]? =some x∧p x=true∧ ∀y∈l.take i,p y=false
 |[],h=>absurd rfl h
 |z::l,h=>by
  by_cases hp:p z=true
  ·exact⟨0,z,by simp [idxOf,hp],rfl,hp,by simp⟩
  ·have hpz:p z=false:=by simpa using hp
   have h': ¬idxOf p l= -1:=by
    intro e;apply h;simp [idxOf,hpz,e]
   obtain⟨i,x,h1,h2,h3,h4⟩:=Ag h';refine⟨i+1,x,?_,by simpa using h2,h3,?_⟩
   ·simp only [idxOf,hpz,bh,if_false,h1];rw [if_neg zQ];omega
   ·intro y hy;simp only [List.take_succ_cons,List.mem_cons] at hy;rcases hy with rfl|hy
    ·exact hpz
    ·exact h4 y hy
theorem KE {l:List Value} {i:Nat} {v:Value} (h:i<l.length):cz l i [v]=l.set i v:=by
 unfold cz;apply List.ext_getElem?;intro j;rw [List.getElem?_set];by_cases h1:j<i
 ·rw [aB,List.getElem?_append_left (by rw [aW];omega),List.getElem?_take_of_lt h1,if_neg zQ]
 ·by_cases h2:j=i
  ·subst h2;rw [aB,gM (by rw [aW];omega),aW,Nat.min_eq_left zQ,Nat.sub_self,if_pos rfl,if_pos h];rfl
  ·rw [gM (by simp;omega),List.getElem?_drop,if_neg zQ]
   congr 1;simp;omega
theorem Qr {t:TypeId} {k g n cap:Nat} {z:Int} {i:Nat} {N:Value→Prop} (hz:z=i) (hi:i<n) (ht:P.underlying t=some (.slice (P.elem t))) (hs:(P.info? (P.elem t)).map (·.size)=some k) (h:N (ptr g (i*k))):
  ad P X w (dt t k (.slice (some ⟨g,0,none⟩) n cap) (.int .i64 z)) N:=by
 subst hz;refine cx (v:=ptr g (i*k)) (fun wa=>?_) h
 show(Instr.indexAt t _ _).run P wa=_
 rw [run_indexAt_slice (h:=ht),if_pos zQ];cases hq:P.info? (P.elem t)with
 |none=>simp [hq] at hs
 |some inf=>
  have:inf.size=k:=by simpa [hq] using hs
  simp [sizeOf,typeInfo,hq,this,uv]
theorem qh {t sz b o:Nat} {cs:List Value} {ty:TypeId} {v:Value} {N:Value→World→XS→Prop} (h:bI w X b cs ty) (ht:(P.info? t).map (·.size)=some sz)
  (hl:o+sz≤cs.length) (hv:v.cells.size=sz) (h1:v.cells.toList.all one=true) (hX: ∀k,X k→k<w.heap.size)
  (n: ∀w' X',ef (fun k=>k=b) X w X' w'→bI w' X' b (cz cs o v.cells.toList) ty→N undef w' X'):eU P R X w true (st1 t sz (ptr b o) v) N:=
 abD h ht hl hv h1 hX fun w' X' hg hr=>n w' X' (hg.dF.mono fun k _ hk=>by simpa using hk) hr
theorem yL {t:TypeId} {a:Option Addr} {n cap:Nat} {z:Int} {i:Nat} {N:Value→Prop} (hz:z=i) (hi:i≤cap) (ht:P.underlying t=some (.slice (P.elem t))) (hs:((P.info? (P.elem t)).map (·.size)).isSome=true) (h:N (.slice a i cap)):
  ad P X w (Instr.sliceAt t (.slice a n cap) none (some (.int .i64 z)) none) N:=by
 subst hz;obtain⟨k,hk⟩:=Option.isSome_iff_exists.1 hs;refine cx (v:=.slice a i cap) (fun wa=>?_) h;rw [run_sliceAt_slice wa t _ _ _ _ ht,run_slice_h wa t a n cap ht .i64 i zQ zQ];cases hq:P.info? (P.elem t)with
 |none=>simp [hq] at hk
 |some inf=>
  have:a.map (fun x=>x.add 0)=a:=by cases a<;>simp [Addr.add]
  simp [sizeOf,typeInfo,hq,sliced,this]
theorem Ru {t:TypeId} {k g n cap:Nat} {z:Int} {i:Nat} {N:Value→Prop} (hz:z=i) (hi:i≤n) (hc:n≤cap) (ht:P.underlying t=some (.slice (P.elem t))) (hs:(P.info? (P.elem t)).map (·.size)=some k)
  (h:N (.slice (if cap=i then some ⟨g,0,none⟩else some ⟨g,i*k,none⟩) (n-i) (cap-i))):
  ad P X w (Instr.sliceAt t (.slice (some ⟨g,0,none⟩) n cap) (some (.int .i64 z)) none none) N:=by
 subst hz;refine cx (fun wa=>?_) h;rw [run_sliceAt_slice wa t _ _ _ _ ht,run_slice_l wa t _ n cap ht .i64 i zQ zQ];cases hq:P.info? (P.elem t)with
 |none=>simp [hq] at hs
 |some inf=>
  have:inf.size=k:=by simpa [hq] using hs
  simp [sizeOf,typeInfo,hq,sliced,this,uv]
theorem adH {t e ty g o n cap:Nat} {cs:List Value} {tb:TypeId} {z:Value} {N:Value→World→XS→Prop} (h:bI w X g cs tb) (ht:P.underlying t=some (.slice e)) (hz:(P.info? e).bind (·.zero)=some z)
  (ho:one z=true) (hl:o+n≤cs.length) (hX: ∀k,X k→k<w.heap.size) (a:Option Addr) (ha:a=some ⟨g,o,none⟩∨n=0)
  (k: ∀w' X',ef (fun k=>k=g) X w X' w'→bI w' X' g (cz cs o (eZ n z)) tb→N (.tuple #[]) w' X'):
  eV P R X w true (e6 #[t] ty #[.slice a n cap]) N:=by
 intro wa hk;have hb:=(h.kp hk).2;have Z3: ∀w,(zeroValue e).run P w= .ok z w:=by
  intro w;cases hi:P.info? e with
  |none=>simp [hi] at hz
  |some inf=>
   have AB:inf.zero=some z:=by simpa [hi] using hz
   simp [zeroValue,typeInfo,hi,AB]
 have hzc:z.cells= #[z]:=uM ho;have agx:(ez z.cells n).toList=eZ n z:=by
  rw [hzc];simp [ez];apply List.ext_getElem
  ·simp
  ·intro i h1 h2;simp [Nat.mod_one]
 have hr:(e6 #[t] ty #[.slice a n cap]).run P wa= .ok (.tuple #[]) (if n=0 then wa else wa.setRow g (cz cs o (eZ n z)).toArray):=by
  by_cases h0:n=0
  ·subst h0;rw [if_pos rfl];cases a<;>simp [e6,run_underlying ht]
  ·rw [if_neg h0];obtain rfl:a=some ⟨g,o,none⟩:=by rcases ha with h|h;exact h;exact absurd h h0
   have fV:=run_storeCells_at P g o tb (eZ n z) 0 cs.toArray wa hb (by simpa using hl) (fun x hx=>by
    rw [List.eq_of_mem_replicate hx,←AE];exact ho)
   simp only [Nat.add_zero] at fV;obtain⟨m,rfl⟩: ∃m,n=m+1:=⟨n-1,by omega⟩;simp only [e6];simp [run_underlying ht,Z3,agx,fV,cz]
 unfold jt;simp only [vS,bL,hr,bk,Sem.run_pure];by_cases h0:n=0
 ·subst h0;rw [if_pos rfl];have hx:=Ext.refl wa;have hs:=ak.fk hX hk hx;refine⟨Step.fk hx,k _ _ (ef.qk hs _) ?_⟩;have:cz cs o (eZ 0 z)=cs:=by simp [cz]
  rw [this];exact h.since hs
 ·rw [if_neg h0];have fB:(wa.setRow g (cz cs o (eZ n z)).toArray).heap.size=wa.heap.size:=by simp
  refine⟨⟨rfl,rfl,rfl,by rw [fB];exact Nat.le_refl _,fun j _ hx=>setRow_other wa g j _ fun e=>hx (e▸h.1)⟩,k _ _ ?_ ⟨.inl h.1,setRow_heap wa g _ _ tb _ hb⟩⟩;refine⟨hk.os,hk.tape,hk.output,by rw [fB];exact hk.size,fun j hx bW=>?_,fun j h=>.inl h,fun j h=>?_⟩
  ·rw [setRow_other wa g j _ (fun e=>bW e),hk.block j hx]
  ·rw [fB];exact h.elim (fun h=>Nat.lt_of_lt_of_le (hX j h) hk.size) (fun h=>by have:=h.2;rwa [fB] at this)
variable {P : Program}
def Xn (P:Program) (t e k:Nat):Bool:=match P.underlying t,P.info? e with
 |some (.slice e'),some i=>e'==e&&i.size==k&&(match i.zero with|some z=>z.cells.size==k|none=>false)&&decide (0<k)&&decide (k≤2^20)
 |_,_=>false
theorem Z4 {t e k:Nat} (h:Xn P t e k=true):P.underlying t=some (.slice e)∧0<k∧k≤2^20∧ ∃z:Value,(P.info? e).bind (fun i=>i.zero.map fun z=>(i.size,z))=some (k,z):=by
 unfold Xn at h;split at h
 ·rename_i e' i hu hi;simp only [Bool.and_eq_true,beq_iff_eq,decide_eq_true_eq] at h;obtain⟨⟨⟨⟨rfl,h2⟩,h4⟩,h5⟩,h6⟩:=h;cases hz:i.zero with
  |none=>simp [hz] at h4
  |some z=>exact⟨hu,h5,h6,z,by simp [hi,hz,h2]⟩
 ·cases h
section
variable {w : World} {X : XS} {R : Ending → World → Prop} {t e k : Nat} {m : Bool} {N : Value → World → XS → Prop}
theorem vO {l:List Value} (hX: ∀k,X k→k<w.heap.size) (he:Xn P t e k=true) (hk:(l.length==k)=true)
  (n: ∀v w' X',ak X w X' w'→Own w' X' w.heap.size e k v [l]→N v w' X'):eV P R X w m (gq t e k 1 #[(0,.agg l.toArray)]) N:=by
 obtain⟨hu,h0,h1,z,hz⟩:=Z4 he;have ah:l.length=k:=by simpa using hk
 refine EB (rows:=[l]) l.toArray z hX hu hz zQ zQ ?_ (by simpa using ah) rfl (by simp) n;simp only [Nat.one_mul];exact K4 (x:=.agg l.toArray) (by simpa [Value.cells] using ah) (by simp)
end
def IB (P:Program) (t:TypeId):Bool:=match P.underlying t with
 |some (.pointer _)=>true
 |_=>false
theorem B5 {t:TypeId} (h:IB P t=true):P.underlying t=some (.pointer (P.pointee t)):=by
 unfold IB at h;split at h
 ·rename_i e he;simp [Program.pointee,he]
 ·cases h
section
variable {w : World} {X : XS} {N : Value → Prop} {t : TypeId} {xo yo : Operand}
theorem adI {a:Addr} (ht:IB P t=true) (k:N (.bool false)):ad P X w (aH .eql t xo yo (.pointer (some a)) (.pointer none)) N:=SB (p:=some a) (B5 ht) k
theorem adJ (ht:IB P t=true) (k:N (.bool true)):ad P X w (aH .eql t xo yo (.pointer none) (.pointer none)) N:=SB (p:=none) (B5 ht) k
theorem afo {a:Addr} (ht:IB P t=true) (k:N (.bool true)):ad P X w (aH .neq t xo yo (.pointer (some a)) (.pointer none)) N:=by
 refine cx (fun wa=>?_) k;have:=run_neq_pointer_nil (P:=P) (w:=wa) t (some a) (B5 ht);simp [aH,eqGuard,this]
theorem afp (ht:IB P t=true) (k:N (.bool false)):ad P X w (aH .neq t xo yo (.pointer none) (.pointer none)) N:=by
 refine cx (fun wa=>?_) k;have:=run_neq_pointer_nil (P:=P) (w:=wa) t none (B5 ht);simp [aH,eqGuard,this]
end
end Go.bu
