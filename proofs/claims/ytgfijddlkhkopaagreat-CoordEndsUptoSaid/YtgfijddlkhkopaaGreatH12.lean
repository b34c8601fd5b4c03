/-
 Part 12 of the proof: what the last text leans on.
-/
import Derived.WalkKit
import Derived.Test.YtgfijddlkhkopaaGreatH11
open Go.Op renaming bytesLess → bY
open Go.Proofs renaming ltOf → nj, enters_of → yG
open Bool renaming not_eq_true → AL, or_eq_true → oP, and_eq_true → aD
open List renaming not_mem_nil → dC
namespace Go.Proofs.YtgfijddlkhkopaaGreat
open Go.Proofs.Tryz renaming prog → pg
open Go.aG Go.RowKit Go.Sort
set_option maxRecDepth 100000
set_option maxHeartbeats 4000000
set_option linter.unusedVariables false
set_option linter.unusedSimpArgs false
theorem acs (a b:bH) (W:World):Calls pg 42 #[a.v,b.v] W λe w'=>e= .returned (.bool (a.less b))/\acu W w':=by
 go_enter Tryz.func42,Tryz.ntmps42
 go_wp2
 all_goals go_ret
 all_goals refine⟨?_,_,by rw[alloc_eq_grow,alloc_eq_grow,grow_grow]⟩
 all_goals simp_all [bH.less]
theorem acv (a b:bH) (W:World):Calls pg 41 #[a.v,b.v] W
  λe w'=>e= .returned (I (if a.less b then-1 else 1))/\acu W w':=by
 have ag8:=acs a b;change∀W',Calls pg 42 #[.agg #[I a.dX,I a.ba,I a.sq],.agg #[I b.dX,I b.ba,I b.sq]] W' _ at ag8;generalize a.less b=r at ag8⊢
 go_enter Tryz.func41,Tryz.ntmps41
 go_wp2_with (go_at_call 42;refine(ag8 _).mono ?_;rintro e w' ⟨rfl,os,rfl⟩)
 all_goals go_ret
 all_goals refine⟨?_,_,by rw[alloc_eq_grow,alloc_eq_grow,grow_grow,grow_grow]⟩
 all_goals rfl
variable {a b : bH}
theorem bH.O7:a.less b=true↔a.dX<b.dX\/a.dX=b.dX/\(a.ba<b.ba\/a.ba=b.ba/\a.sq<b.sq):=by
 unfold bH.less;split
 ·simp;omega
 ·split
  ·simp;omega
  grind
theorem bH.aaB (a:bH):a.less a=false:=by
 rw[<-AL,bH.O7];omega
variable {c : bH}
theorem bH.acw (h1:a.less b=true) (h2:b.less c=true):a.less c=true:=by
 rw[bH.O7] at*;omega
theorem bH.aaC (h1:a.less b=false) (h2:b.less c=false):a.less c=false:=by
 rw[<-AL,bH.O7] at*;omega
instance:Inhabited bH:=⟨⟨0,0,0⟩⟩
instance:Inhabited fe:=⟨⟨⟨#[]⟩,.zero,.zero⟩⟩
def acx (x y:bH):Int:=if x.less y then-1 else 1
theorem V2 (x y:bH):nj acx x y=x.less y:=by grind [nj,acx]
theorem ale:Go.Sort.SWO (nj acx) where
 irrefl x:=by rw[V2];exact bH.aaB _
 trans x y z:=by grind [V2,bH.acw]
 ntrans x y z:=by grind [V2,bH.aaC]
variable {lo : Nat} {X : XS} {w : World}
theorem aaD {v:Value} {xs:List bH} (own:Own w X lo 34 3 v (xs.map bH.l)) (hb:xs.length<2^61):
  Ct pg 85 #[v,.func (.func 41) #[] #[]] w X (ga v) λr _ w'=>r= .tuple #[]/\ ∃ys:List bH,ys.Perm xs/\ys.Pairwise (λa b=>b.less a=false)/\Own w' (ga v) lo 34 3 v (ys.map bH.l):=by
 have h:=abx (P:=pg) (ρ:=Tryz.Oh) Tryz.ajT (k:=3) zQ Tryz.isAgg34 Tryz.sizeOf34 (enc:=bH.l) (λ_=>rfl)
  (λx u hu=>by simp only[bH.l,List.mem_cons,dC,or_false] at hu;rcases hu with h|h|h<;>subst h<;>rfl) (cf:=acx) ale (g:=41)
  (yG Tryz.func41 kQ rfl) (λx y W=>acv x y W) own hb
 simp only[V2] at h;exact h
theorem Qt: ∀l:List UInt8,bY l l=false
 |[]=>rfl
 |a::l=>by simp[bY,Qt l,UInt8.lt_irrefl]
theorem TP: ∀{a b:List UInt8},bY a b=false->a≠b->bY b a=true
 |[],[],_,h=>absurd rfl h
 |_::_,[],_,_=>by rfl
 |[],_::_,h,_=>by simp[bY] at h
 |a::l,b::m,h,cj=>by
  simp only[bY,oP,aD,decide_eq_true_eq,beq_iff_eq,Bool.or_eq_false_iff,Bool.and_eq_false_iff,decide_eq_false_iff_not] at h⊢;obtain⟨h1,h2⟩:=h;by_cases wX:a=b
  ·subst wX;right;refine⟨rfl,TP ?_ λe=>cj (by rw[e])⟩
   grind
  grind
theorem Lj: ∀{a b c:List UInt8},bY a b=true->bY b c=true->bY a c=true
 |[],[],_,h,_=>by simp[bY] at h
 |[],_::_,[],_,h=>by simp[bY] at h
 |[],_::_,_::_,_,_=>by simp[bY]
 |_::_,[],_,h,_=>by simp[bY] at h
 |_::_,_::_,[],_,h=>by simp[bY] at h
 |a::l,b::m,c::r,h1,h2=>by
  simp only[bY,oP,aD,decide_eq_true_eq,beq_iff_eq] at h1 h2⊢;rcases h1 with h1|⟨rfl,h1⟩
  ·rcases h2 with h2|⟨rfl,h2⟩
   ·exact .inl (UInt8.lt_trans h1 h2)
   ·exact .inl h1
  ·rcases h2 with h2|⟨rfl,h2⟩
   ·exact .inl h2
   ·exact .inr ⟨rfl,Lj h1 h2⟩
theorem aaE (a b:fe) (W:World):Calls pg 157 #[.agg a.l.toArray,.agg b.l.toArray] W
  λe w'=>e= .returned (I (if bY a.key.toList b.key.toList then-1 else 1))/\acu W w':=by
 change Calls pg _ #[.agg #[.string a.key,I a.val.kind,.float .f64 a.val.num,.string a.val.text,I a.aV.wall,I a.aV.du,I a.aV.node],.agg #[.string b.key,I b.val.kind,.float .f64 b.val.num,.string b.val.text,I b.aV.wall,I b.aV.du,I b.aV.node]] W _
 go_enter Tryz.func157,Tryz.ntmps157
 go_wp2
 all_goals go_ret
 all_goals refine⟨?_,_,by rw[alloc_eq_grow,alloc_eq_grow,grow_grow]⟩
 all_goals simp_all
def acy (x y:fe):Int:=if bY x.key.toList y.key.toList then-1 else 1
theorem acz (x y:fe):nj acy x y=bY x.key.toList y.key.toList:=by grind [nj,acy]
theorem acA {a b c:List UInt8} (h1:bY a b=false) (h2:bY b c=false):bY a c=false:=by grind [TP,Lj]
theorem alf:Go.Sort.SWO (nj acy) where
 irrefl x:=by rw[acz];exact Qt _
 trans x y z:=by grind [acz,Lj]
 ntrans x y z:=by grind [acz,acA]
theorem aaF {v:Value} {xs:List fe} (own:Own w X lo 175 7 v (xs.map fe.l)) (hb:xs.length<2^61):
  Ct pg 156 #[v,.func (.func 157) #[] #[]] w X (ga v) λr _ w'=>r= .tuple #[]/\ ∃ys:List fe,ys.Perm xs/\Own w' (ga v) lo 175 7 v (ys.map fe.l):=by
 have h:=abx (P:=pg) (ρ:=Tryz.Li) Tryz.ag7 (k:=7) zQ Tryz.isAgg175 Tryz.sizeOf175 (enc:=fe.l) (λ_=>rfl)
  (λx u hu=>by simp only[fe.l,List.mem_cons,dC,or_false] at hu;rcases hu with h|h|h|h|h|h|h<;>subst h<;>rfl) (cf:=acy) alf (g:=157)
  (yG Tryz.func157 kQ rfl) (λx y W=>aaE x y W) own hb
 exact h.mono λ_ _ _ _ ⟨q1,ys,q2,_,q3⟩=>⟨q1,ys,q2,q3⟩
end Go.Proofs.YtgfijddlkhkopaaGreat