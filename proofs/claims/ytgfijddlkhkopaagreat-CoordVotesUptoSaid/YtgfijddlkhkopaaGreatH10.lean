/- Part 10 of the proof. -/
import Derived.Shelf.SlIter.Nil
import Derived.Shelf.SlIterI.Nil
import Derived.Shelf.SortM.Plain
import Derived.Shelf.SortM.SortNone
import Derived.Shelf.SlSortCmp.WholeK
import Derived.Ground.GgzProg
import Derived.Ground.SlgmProg
import Derived.Ground.SlsfProg
import Derived.Shelf.SlGeneric
import Derived.Test.YtgfijddlkhkopaaGreatProg
import Derived.WalkKit
import Derived.Shelf.SlIter.Collect
import Derived.Test.YtgfijddlkhkopaaGreatH9
set_option linter.all false
open Go.Value renaming int → ay
open Go.IntKind renaming i64 → cD
open Go.Op renaming bytesLess → cB
open List renaming length_map → af, length → bB, mem_singleton → ax, length_singleton → bF, map_append → aC, mem_cons → il, not_mem_nil → dJ, toList_toArray → cX, map_map → cd, nodup_nil → ti, map_nil → lx, length_cons → aJ, take_add_one → bW, take_of_length_le → az, filter_cons → eP, eq_nil_of_length_eq_zero → iJ, append_assoc → ao
open Go.Operand renaming tmp → kT
open Nat renaming le_refl → au, le_trans → ad, zero_le → ak
open Go.Obj.cells renaming inj → kE
open Go.World renaming putObj_heap_other → fC, alloc_heap_new → jI, cell? → fw, putObj_heap_same → kn
open Go.Proofs renaming ltOf → nk, enters_of → yR
open Go.Fence renaming wide → gu
open Go.Ground renaming data → tj, phase → rV
open Go.Result renaming andThen → xK
open Go.Code renaming wpIn → DC
open Go.Shelf renaming Ren → iS
open Go.Proofs.SlLaysF0 renaming n6 → xf
open Bool renaming not_eq_true → AV, or_eq_true → o9, and_eq_true → aA
open Go.Oper renaming semAt_plain → AW
open Go.KeepsWalks renaming alloc → AX, putObj → Av
namespace Go.Proofs
open Go.Proofs.Tryz renaming prog → pg
open Go.Shelf
def Tryz.NZ:iS:=⟨fun|6=>85|15=>143|14=>142|28=>210|29=>211|20=>202|21=>203|22=>204|23=>205|24=>206|25=>207|26=>208|27=>209|46=>282|47=>283|48=>284|49=>285|50=>286|57=>341|n=>n,fun|22=>59|24=>34|25=>118|3=>3|39=>263|0=>0|53=>351|55=>264|4=>4|46=>344|45=>343|50=>348|5=>5|9=>9|66=>411|70=>317|76=>466|77=>467|n=>n,fun|n=>n⟩
theorem Tryz.akc:xf pg Tryz.NZ:= {
 mixed:=by kernel_rfl
 f6:=⟨Tryz.f85.name,by decide,Tryz.func85.trans Go.aK.kS⟩
 f14:=⟨Tryz.f142.name,by decide,Tryz.func142.trans Go.aK.kS⟩
 f15:=Tryz.func143.trans Go.aK.kS
 f20:=⟨Tryz.f202.name,by decide,Tryz.func202.trans Go.aK.kS⟩
 f21:=⟨Tryz.f203.name,by decide,Tryz.func203.trans Go.aK.kS⟩
 f22:=⟨Tryz.f204.name,by decide,Tryz.func204.trans Go.aK.kS⟩
 f23:=⟨Tryz.f205.name,by decide,Tryz.func205.trans Go.aK.kS⟩
 f24:=⟨Tryz.f206.name,by decide,Tryz.func206.trans Go.aK.kS⟩
 f25:=⟨Tryz.f207.name,by decide,Tryz.func207.trans Go.aK.kS⟩
 f26:=⟨Tryz.f208.name,by decide,Tryz.func208.trans Go.aK.kS⟩
 f27:=⟨Tryz.f209.name,by decide,Tryz.func209.trans Go.aK.kS⟩
 f28:=Tryz.func210.trans Go.aK.kS
 f29:=Tryz.func211.trans Go.aK.kS
 f46:=⟨Tryz.f282.name,by decide,Tryz.func282.trans Go.aK.kS⟩
 f47:=Tryz.func283.trans Go.aK.kS
 f48:=Tryz.func284.trans Go.aK.kS
 f49:=⟨Tryz.f285.name,by decide,Tryz.func285.trans Go.aK.kS⟩
 f50:=⟨Tryz.f286.name,by decide,Tryz.func286.trans Go.aK.kS⟩
 f57:=⟨Tryz.f341.name,by decide,Tryz.func341.trans Go.aK.kS⟩
 t0:=Tryz.underlying0
 a0:=Tryz.isAgg0
 z0:=Tryz.sizeOf0
 v0:=Tryz.zeroValue0
 t3:=Tryz.underlying3
 a3:=Tryz.isAgg3
 z3:=Tryz.sizeOf3
 v3:=Tryz.zeroValue3
 t4:=Tryz.underlying4
 a4:=Tryz.isAgg4
 z4:=Tryz.sizeOf4
 v4:=Tryz.zeroValue4
 t5:=Tryz.underlying5
 a5:=Tryz.isAgg5
 z5:=Tryz.sizeOf5
 v5:=Tryz.zeroValue5
 t9:=Tryz.underlying9
 a9:=Tryz.isAgg9
 z9:=Tryz.sizeOf9
 v9:=Tryz.zeroValue9
 t22:=Tryz.underlying59
 a22:=Tryz.isAgg59
 z22:=Tryz.sizeOf59
 v22:=Tryz.zeroValue59
 t25:=Tryz.underlying118
 a25:=Tryz.isAgg118
 z25:=Tryz.sizeOf118
 v25:=Tryz.zeroValue118
 t39:=Tryz.underlying263
 a39:=Tryz.isAgg263
 z39:=Tryz.sizeOf263
 v39:=Tryz.zeroValue263
 t45:=Tryz.underlying343
 a45:=Tryz.isAgg343
 z45:=Tryz.sizeOf343
 v45:=Tryz.zeroValue343
 t46:=Tryz.underlying344
 a46:=Tryz.isAgg344
 z46:=Tryz.sizeOf344
 v46:=Tryz.zeroValue344
 t50:=Tryz.underlying348
 a50:=Tryz.isAgg348
 z50:=Tryz.sizeOf348
 v50:=Tryz.zeroValue348
 t53:=Tryz.underlying351
 a53:=Tryz.isAgg351
 z53:=Tryz.sizeOf351
 v53:=Tryz.zeroValue351
 t55:=Tryz.underlying264
 a55:=Tryz.isAgg264
 z55:=Tryz.sizeOf264
 v55:=Tryz.zeroValue264
 t66:=Tryz.underlying411
 a66:=Tryz.isAgg411
 z66:=Tryz.sizeOf411
 v66:=Tryz.zeroValue411
 t70:=Tryz.underlying317
 a70:=Tryz.isAgg317
 z70:=Tryz.sizeOf317
 v70:=Tryz.zeroValue317
 t76:=Tryz.underlying466
 a76:=Tryz.isAgg466
 z76:=Tryz.sizeOf466
 v76:=Tryz.zeroValue466
 t77:=Tryz.underlying467
 a77:=Tryz.isAgg467
 z77:=Tryz.sizeOf467
 v77:=Tryz.zeroValue467 }
def Tryz.KW:iS:=⟨fun|6=>156|15=>143|14=>227|28=>210|29=>211|20=>297|21=>298|22=>299|23=>300|24=>301|25=>302|26=>303|27=>304|46=>344|47=>283|48=>284|49=>345|50=>346|57=>366|n=>n,fun|22=>41|24=>175|25=>275|3=>3|39=>263|0=>0|53=>351|55=>264|4=>4|46=>344|45=>343|50=>348|5=>5|9=>9|66=>411|70=>317|76=>466|77=>467|n=>n,fun|n=>n⟩
theorem Tryz.aho:xf pg Tryz.KW:= {
 mixed:=by kernel_rfl
 f6:=⟨Tryz.f156.name,by decide,Tryz.func156.trans Go.aK.kS⟩
 f14:=⟨Tryz.f227.name,by decide,Tryz.func227.trans Go.aK.kS⟩
 f15:=Tryz.func143.trans Go.aK.kS
 f20:=⟨Tryz.f297.name,by decide,Tryz.func297.trans Go.aK.kS⟩
 f21:=⟨Tryz.f298.name,by decide,Tryz.func298.trans Go.aK.kS⟩
 f22:=⟨Tryz.f299.name,by decide,Tryz.func299.trans Go.aK.kS⟩
 f23:=⟨Tryz.f300.name,by decide,Tryz.func300.trans Go.aK.kS⟩
 f24:=⟨Tryz.f301.name,by decide,Tryz.func301.trans Go.aK.kS⟩
 f25:=⟨Tryz.f302.name,by decide,Tryz.func302.trans Go.aK.kS⟩
 f26:=⟨Tryz.f303.name,by decide,Tryz.func303.trans Go.aK.kS⟩
 f27:=⟨Tryz.f304.name,by decide,Tryz.func304.trans Go.aK.kS⟩
 f28:=Tryz.func210.trans Go.aK.kS
 f29:=Tryz.func211.trans Go.aK.kS
 f46:=⟨Tryz.f344.name,by decide,Tryz.func344.trans Go.aK.kS⟩
 f47:=Tryz.func283.trans Go.aK.kS
 f48:=Tryz.func284.trans Go.aK.kS
 f49:=⟨Tryz.f345.name,by decide,Tryz.func345.trans Go.aK.kS⟩
 f50:=⟨Tryz.f346.name,by decide,Tryz.func346.trans Go.aK.kS⟩
 f57:=⟨Tryz.f366.name,by decide,Tryz.func366.trans Go.aK.kS⟩
 t0:=Tryz.underlying0
 a0:=Tryz.isAgg0
 z0:=Tryz.sizeOf0
 v0:=Tryz.zeroValue0
 t3:=Tryz.underlying3
 a3:=Tryz.isAgg3
 z3:=Tryz.sizeOf3
 v3:=Tryz.zeroValue3
 t4:=Tryz.underlying4
 a4:=Tryz.isAgg4
 z4:=Tryz.sizeOf4
 v4:=Tryz.zeroValue4
 t5:=Tryz.underlying5
 a5:=Tryz.isAgg5
 z5:=Tryz.sizeOf5
 v5:=Tryz.zeroValue5
 t9:=Tryz.underlying9
 a9:=Tryz.isAgg9
 z9:=Tryz.sizeOf9
 v9:=Tryz.zeroValue9
 t22:=Tryz.underlying41
 a22:=Tryz.isAgg41
 z22:=Tryz.sizeOf41
 v22:=Tryz.zeroValue41
 t25:=Tryz.underlying275
 a25:=Tryz.isAgg275
 z25:=Tryz.sizeOf275
 v25:=Tryz.zeroValue275
 t39:=Tryz.underlying263
 a39:=Tryz.isAgg263
 z39:=Tryz.sizeOf263
 v39:=Tryz.zeroValue263
 t45:=Tryz.underlying343
 a45:=Tryz.isAgg343
 z45:=Tryz.sizeOf343
 v45:=Tryz.zeroValue343
 t46:=Tryz.underlying344
 a46:=Tryz.isAgg344
 z46:=Tryz.sizeOf344
 v46:=Tryz.zeroValue344
 t50:=Tryz.underlying348
 a50:=Tryz.isAgg348
 z50:=Tryz.sizeOf348
 v50:=Tryz.zeroValue348
 t53:=Tryz.underlying351
 a53:=Tryz.isAgg351
 z53:=Tryz.sizeOf351
 v53:=Tryz.zeroValue351
 t55:=Tryz.underlying264
 a55:=Tryz.isAgg264
 z55:=Tryz.sizeOf264
 v55:=Tryz.zeroValue264
 t66:=Tryz.underlying411
 a66:=Tryz.isAgg411
 z66:=Tryz.sizeOf411
 v66:=Tryz.zeroValue411
 t70:=Tryz.underlying317
 a70:=Tryz.isAgg317
 z70:=Tryz.sizeOf317
 v70:=Tryz.zeroValue317
 t76:=Tryz.underlying466
 a76:=Tryz.isAgg466
 z76:=Tryz.sizeOf466
 v76:=Tryz.zeroValue466
 t77:=Tryz.underlying467
 a77:=Tryz.isAgg467
 z77:=Tryz.sizeOf467
 v77:=Tryz.zeroValue467 }
end Go.Proofs
namespace Go.Proofs.YtgfijddlkhkopaaGreat
open Go.Proofs.Tryz renaming prog → pg
open Go.aK Go.RowKit Go.Sort
set_option maxRecDepth 100000
set_option maxHeartbeats 4000000
theorem acG (a b:bX) (W:World):Calls pg 42 #[a.v,b.v] W λe w'=>e= .returned (.bool (a.less b))/\acH W w':=by
 go_enter Tryz.func42,Tryz.ntmps42
 go_wp2
 all_goals go_ret
 all_goals refine⟨?_,_,by rw[alloc_eq_grow,alloc_eq_grow,grow_grow]⟩
 all_goals simp_all [bX.less]
theorem acI (a b:bX) (W:World):Calls pg 41 #[a.v,b.v] W
  λe w'=>e= .returned (I (if a.less b then-1 else 1))/\acH W w':=by
 have ahp:=acG a b;change∀W',Calls pg 42 #[.agg #[I a.dW,I a.aR,I a.sq],.agg #[I b.dW,I b.aR,I b.sq]] W' _ at ahp;generalize a.less b=r at ahp⊢
 go_enter Tryz.func41,Tryz.ntmps41
 go_wp2_with (go_at_call 42;refine(ahp _).mono ?_;rintro e w' ⟨rfl,os,rfl⟩)
 all_goals go_ret
 all_goals refine⟨?_,_,by rw[alloc_eq_grow,alloc_eq_grow,grow_grow,grow_grow]⟩
 all_goals rfl
variable {a b : bX}
theorem bX.O3:a.less b=true↔a.dW<b.dW\/a.dW=b.dW/\(a.aR<b.aR\/a.aR=b.aR/\a.sq<b.sq):=by
 unfold bX.less;split
 ·simp;omega
 ·split
  ·simp;omega
  grind
theorem bX.aaI (a:bX):a.less a=false:=by
 rw[<-AV,bX.O3];omega
variable {c : bX}
theorem bX.acJ (h1:a.less b=true) (h2:b.less c=true):a.less c=true:=by
 rw[bX.O3] at*;omega
theorem bX.aaJ (h1:a.less b=false) (h2:b.less c=false):a.less c=false:=by
 rw[<-AV,bX.O3] at*;omega
instance:Inhabited bX:=⟨⟨0,0,0⟩⟩
instance:Inhabited fg:=⟨⟨⟨#[]⟩,.zero,.zero⟩⟩
def acK (x y:bX):Int:=if x.less y then-1 else 1
theorem V9 (x y:bX):nk acK x y=x.less y:=by grind [nk,acK]
theorem alD:Go.Sort.SWO (nk acK) where
 irrefl x:=by rw[V9];exact bX.aaI _
 trans x y z:=by grind [V9,bX.acJ]
 ntrans x y z:=by grind [V9,bX.aaJ]
variable {v : Value} {lo : Nat} {X : XS} {w : World}
theorem aaK {xs:List bX} (own:Own w X lo 34 3 v (xs.map bX.l)) (hb:xs.length<2^61):
  Ct pg 85 #[v,.func (.func 41) #[] #[]] w X (fv v) λr _ w'=>r= .tuple #[]/\ ∃ys:List bX,ys.Perm xs/\ys.Pairwise (λa b=>b.less a=false)/\Own w' (fv v) lo 34 3 v (ys.map bX.l):=by
 have h:=abQ (P:=pg) (ρ:=Tryz.NZ) Tryz.akc (k:=3) zQ Tryz.isAgg34 Tryz.sizeOf34 (enc:=bX.l) (λ_=>rfl)
  (λx u hu=>by simp only[bX.l,il,dJ,or_false] at hu;rcases hu with h|h|h<;>subst h<;>rfl) (cf:=acK) alD (g:=41)
  (yR Tryz.func41 kQ rfl) (λx y W=>acI x y W) own hb
 simp only[V9] at h;exact h
theorem Ql: ∀l:List UInt8,cB l l=false
 |[]=>rfl
 |a::l=>by simp[cB,Ql l,UInt8.lt_irrefl]
theorem TT: ∀{a b:List UInt8},cB a b=false->a≠b->cB b a=true
 |[],[],_,h=>absurd rfl h
 |_::_,[],_,_=>by rfl
 |[],_::_,h,_=>by simp[cB] at h
 |a::l,b::m,h,cu=>by
  simp only[cB,o9,aA,decide_eq_true_eq,beq_iff_eq,Bool.or_eq_false_iff,Bool.and_eq_false_iff,decide_eq_false_iff_not] at h⊢;obtain⟨h1,h2⟩:=h;by_cases xg:a=b
  ·subst xg;right;refine⟨rfl,TT ?_ λe=>cu (by rw[e])⟩
   grind
  grind
theorem KX: ∀{a b c:List UInt8},cB a b=true->cB b c=true->cB a c=true
 |[],[],_,h,_=>by simp[cB] at h
 |[],_::_,[],_,h=>by simp[cB] at h
 |[],_::_,_::_,_,_=>by simp[cB]
 |_::_,[],_,h,_=>by simp[cB] at h
 |_::_,_::_,[],_,h=>by simp[cB] at h
 |a::l,b::m,c::r,h1,h2=>by
  simp only[cB,o9,aA,decide_eq_true_eq,beq_iff_eq] at h1 h2⊢;rcases h1 with h1|⟨rfl,h1⟩
  ·rcases h2 with h2|⟨rfl,h2⟩
   ·exact .inl (UInt8.lt_trans h1 h2)
   ·exact .inl h1
  ·rcases h2 with h2|⟨rfl,h2⟩
   ·exact .inl h2
   ·exact .inr ⟨rfl,KX h1 h2⟩
theorem aaL (a b:fg) (W:World):Calls pg 157 #[.agg a.l.toArray,.agg b.l.toArray] W
  λe w'=>e= .returned (I (if cB a.key.toList b.key.toList then-1 else 1))/\acH W w':=by
 change Calls pg _ #[.agg #[.string a.key,I a.val.kind,.float .f64 a.val.num,.string a.val.text,I a.aU.wall,I a.aU.dA,I a.aU.node],.agg #[.string b.key,I b.val.kind,.float .f64 b.val.num,.string b.val.text,I b.aU.wall,I b.aU.dA,I b.aU.node]] W _
 go_enter Tryz.func157,Tryz.ntmps157
 go_wp2
 all_goals go_ret
 all_goals refine⟨?_,_,by rw[alloc_eq_grow,alloc_eq_grow,grow_grow]⟩
 all_goals simp_all
def acM (x y:fg):Int:=if cB x.key.toList y.key.toList then-1 else 1
theorem acN (x y:fg):nk acM x y=cB x.key.toList y.key.toList:=by grind [nk,acM]
theorem acO {a b c:List UInt8} (h1:cB a b=false) (h2:cB b c=false):cB a c=false:=by grind [TT,KX]
theorem alE:Go.Sort.SWO (nk acM) where
 irrefl x:=by rw[acN];exact Ql _
 trans x y z:=by grind [acN,KX]
 ntrans x y z:=by grind [acN,acO]
theorem aaM {xs:List fg} (own:Own w X lo 175 7 v (xs.map fg.l)) (hb:xs.length<2^61):
  Ct pg 156 #[v,.func (.func 157) #[] #[]] w X (fv v) λr _ w'=>r= .tuple #[]/\ ∃ys:List fg,ys.Perm xs/\Own w' (fv v) lo 175 7 v (ys.map fg.l):=by
 have h:=abQ (P:=pg) (ρ:=Tryz.KW) Tryz.aho (k:=7) zQ Tryz.isAgg175 Tryz.sizeOf175 (enc:=fg.l) (λ_=>rfl)
  (λx u hu=>by simp only[fg.l,il,dJ,or_false] at hu;rcases hu with h|h|h|h|h|h|h<;>subst h<;>rfl) (cf:=acM) alE (g:=157)
  (yR Tryz.func157 kQ rfl) (λx y W=>aaL x y W) own hb
 exact h.mono λ_ _ _ _ ⟨q1,ys,q2,_,q3⟩=>⟨q1,ys,q2,q3⟩
open Go.Maps Go.Shelf Go.ChangeMaps
abbrev HL:Nat:=86
abbrev Xa:Nat:=104
abbrev tT:Nat:=34
structure G7 (w:World) (b:Nat) (es:List (jy bX)) (c:Nat):Prop where
 gL:w.heap[b]? =some (.map (es.map (lS λk:bX=>k.v)).toArray c)
 nd:(es.map (·.2.2)).Nodup
 lt: ∀x∈es,x.2.2<c
def ug (es:List (jy bX)) (seen:Array Nat):List (jy bX):=es.filter λx=>!seen.contains x.2.2
theorem O4 (es:List (jy bX)) (seen:Array Nat):(leftOf (es.map (lS λk:bX=>k.v)).toArray seen).toList=(ug es seen).map (lS λk:bX=>k.v):=by
 simp only[leftOf,ug,Array.toList_filter,cX,List.filter_map];rfl
variable {seen : Array Nat} {es : List (jy bX)}
theorem Qm (hn:(es.map (·.2.2)).Nodup) {x:jy bX} (hx:x∈ug es seen):((x::ug es (seen.push x.2.2)).Perm (ug es seen)):=by
 have lJ:=List.mem_filter.1 hx;have e:ug es (seen.push x.2.2)=(ug es seen).filter λy=>decide (y.2.2≠x.2.2):=by
  unfold ug;rw[List.filter_filter]
  congr 1
  funext y
  by_cases hy:y.2.2=x.2.2<;>simp_all
 rw[e];have mL:((ug es seen).map (·.2.2)).Nodup:=hn.sublist (List.Sublist.map _ List.filter_sublist);generalize ug es seen=l at hx mL
 induction l with
 |nil=>cases hx
 |cons y l ih=>
  have h1:=List.nodup_cons.1 mL;rcases List.mem_cons.1 hx with rfl|AY
  ·rw[eP,if_neg sQ];have:l.filter (λy=>decide (y.2.2≠x.2.2))=l:=List.filter_eq_self.2 λz hz=>by
    have:z.2.2≠x.2.2:=λe=>h1.1 (List.mem_map.2 ⟨z,hz,e⟩)
    grind
   rw[this]
  ·have cu:y.2.2≠x.2.2:=λe=>h1.1 (List.mem_map.2 ⟨x,AY,e.symm⟩);rw[eP,if_pos gQ];exact(List.Perm.swap _ _ _).trans ((ih AY h1.2).cons _)
theorem afp (w:World) (r:Nat) (o:Obj):w.grownBy (setBlock w r o) (some r)/\(setBlock w r o).heap.size=w.heap.size:=
 ⟨⟨rfl,rfl,rfl,by simp[setBlock],λk hk cu=>by
  have:r≠k:=λe=>cu (by rw[e]);simp[setBlock,Array.getElem?_setIfInBounds,this]⟩,by simp[setBlock]⟩
variable {r : Nat}
section
variable {F : Fence} {n : Nat} {ops : Array Oper} {Q : Exit -> Act -> World -> Prop} {o : Oper} {rest : List Oper} {a : Act} {b c : Nat}
theorem O5 (hg:o.guard=none) (m:Operand) (xe:o.op=Op.range Xa m) (hm:a.eval m= .map (some b)) (h:G7 w b es c)
  (hK:wpListIn F n pg ops Q rest (a.put o.dst (ptr w.heap.size 0)) (w.alloc (.mapIter (some b) c #[] c))):wpListIn F n pg ops Q (o::rest) a w:=by
 refine wpListIn_plain hg λK' hK'=>?_;have oN:=run_range_map (P:=pg) w Xa tT 116 b _ c kQ h.gL;unfold Oper.wpIn;refine⟨by simp[Oper.about,xe],?_⟩;rw[AW F _ _ (by rw[xe];intro c AR;cases AR)];simp[execOp,xe,hm,oN,xK];exact hK' _ _ hK
theorem Qn (hg:o.guard=none) (it:Operand) (xe:o.op=Op.next it false) (seen:Array Nat) (N1:a.eval it= .pointer (some ⟨r,0,none⟩)) (hb:G7 w b es c) (N7:r≠b) (hr:w.heap[r]? =some (.mapIter (some b) c seen c))
  (aoo:ug es seen=[]->wpListIn F n pg ops Q rest (a.put o.dst (.tuple #[.bool false])) w)
  (aop: ∀x∈ug es seen,∀w',w.grownBy w' (some r)->w'.heap.size=w.heap.size->w'.heap[r]? =some (.mapIter (some b) c (seen.push x.2.2) c)->
   (Instr.entry (.pointer (some ⟨r,0,none⟩))).run pg w'= .ok (.tuple #[x.1.v,x.2.1]) w'->wpListIn F n pg ops Q rest (a.put o.dst (.tuple #[.bool true,x.1.v,x.2.1])) w'):
  wpListIn F n pg ops Q (o::rest) a w:=by
 refine wpListIn_plain hg λK' hK'=>?_;unfold Oper.wpIn;refine⟨by simp[Oper.about,xe],?_⟩;rw[AW F _ _ (by rw[xe];intro c AR;cases AR)];have hold: ∀x∈((es.map (lS λk:bX=>k.v)).toArray).toList,x.born<c:=by
  intro x hx;simp only[cX,List.mem_map] at hx;obtain⟨y,hy,rfl⟩:=hx;exact hb.lt y hy
 rcases run_next_at (P:=pg) w o.type r b c c seen _ c hr hb.gL hold (au _)with⟨hz,oN⟩|⟨e,he,w1,EP,oN⟩
 ·simp[execOp,xe,N1,oN,xK];refine hK' _ _ (aoo ?_);have:(ug es seen).map (lS λk:bX=>k.v)=[]:=by rw[<-O4];exact iJ (by simpa using hz)
  simpa using this
 ·rw[O4] at he;obtain⟨x,hx,rfl⟩:=List.mem_map.1 he;simp[execOp,xe,N1,oN,xK];have pM:r<w.heap.size:=(Array.getElem?_eq_some_iff.1 hr).1;obtain⟨hw,gh⟩:w.grownBy (setBlock w1 r (.mapIter (some b) c (seen.push x.2.2) c)) (some r)/\(setBlock w1 r (.mapIter (some b) c (seen.push x.2.2) c)).heap.size=w.heap.size:=by
   have h1:=afp w1 r (.mapIter (some b) c (seen.push x.2.2) c);rcases EP with e|e
   ·rw[e] at h1⊢;exact h1
   ·rw[e] at h1⊢;exact⟨⟨h1.1.os,h1.1.tape,h1.1.output,h1.1.size,h1.1.block⟩,h1.2⟩
  have jY:(setBlock w1 r (.mapIter (some b) c (seen.push x.2.2) c)).heap[r]? =some (.mapIter (some b) c (seen.push x.2.2) c):=KY (by rcases EP with rfl|rfl<;>exact pM);refine hK' _ _ (aop x hx _ hw gh jY ?_);have dO:=(hw.block b (Array.getElem?_eq_some_iff.1 hb.gL).1 (λe=>N7 (by cases e;rfl))).trans hb.gL;exact run_entry_at (P:=pg) _ r b c seen (es.map (lS λk:bX=>k.v)).toArray c (lS (λk:bX=>k.v) x) jY dO (by rw[cX];exact List.mem_map.2 ⟨x,(List.mem_filter.1 hx).1,rfl⟩)
   (by rw[cX,cd];exact hb.nd)
theorem N8 {b c:Nat} (hb:G7 w b es c) (hr:w.heap[r]? =some (.mapIter (some b) c seen c)):w.rangeLeft b r=(ug es seen).length:=by
 unfold World.rangeLeft;rw[hb.gL,hr];have h1:=congrArg bB (O4 es seen)
 grind
theorem aaN {Bm:Nat} (hBm:Bm<w.heap.size) (hm:w.cell? ⟨Bm,0,none⟩=some (.map (some b))) (h:G7 w b es c):
  SeqGives gu 5 pg HL #[.pointer (some ⟨Bm,0,none⟩)] (λt:bX=>t.v) (λts=>ts.Perm (es.map (·.1))) es.length w:=λl J W hW hJ hY h0=>by
 have hT:G7 W b es c:=⟨(hW.block b (Array.getElem?_eq_some_iff.1 h.gL).1).trans h.gL,h.nd,h.lt⟩;have KZ:=(hW.cell (p:=⟨Bm,0,none⟩) hBm).trans hm;refine callsIn_of_wp (f:=HL) (fn:=Tryz.f86) kQ rfl trivial ?_ rfl;rw[Tryz.ntmps86];change DC _ _ _ _ _ ⟨#[.func (.yield l) #[] #[],.pointer (some ⟨Bm,0,none⟩),undef,undef,undef,undef,undef,undef,undef,undef,undef,undef,undef,undef],[]⟩ W
 gi_wp2_with (first
  |(gi_at_range;refine O5 rfl _ rfl rfl hT ?_)
  |gi_in)
 have Gf:=(Array.getElem?_eq_some_iff.1 hT.gL).1;have ER:W.grownBy (W.alloc (.mapIter (some b) c #[] c)) none:=⟨rfl,rfl,rfl,by simp,λk hk _=>Below.heap_alloc _ _ k hk⟩;have Gg:(W.alloc (.mapIter (some b) c #[] c)).heap[W.heap.size]? =some (.mapIter (some b) c #[] c):=jI _ _
 gi_loopw [3] (λ_ wr=> ∃(seen:Array Nat) (ts:List bX),G7 wr b es c/\wr.heap[W.heap.size]? =some (.mapIter (some b) c seen c)/\(ts++(ug es seen).map (·.1)).Perm (es.map (·.1))/\J ts wr)
  (λ_ wr=>wr.rangeLeft b W.heap.size)
 case atStart=>
  refine⟨#[],[],⟨(ER.block b Gf sQ).trans hT.gL,h.nd,h.lt⟩,Gg,?_,hJ [] W _ none h0 ER (λr e=>by cases e)⟩;have:ug es #[]=es:=List.filter_eq_self.2 sQ;rw[this];rfl
 case round=>
  obtain⟨seen,ts,hb,hr,hp,hJs⟩:=hrel
  gi_wp2_with (first
   |(gi_at_next;refine Qn rfl _ rfl seen rfl hb zQ hr ?_ ?_)
   |gi_in)
  ·intro hl0
   gi_wp2
   go_end0
   exact⟨⟨_,rfl⟩,ts,by rw[hl0] at hp;simpa using hp,hJs⟩
  ·intro x v0 bn hx w2 vj bH jJ BQ;have hJ2:J ts w2:=hJ ts wr w2 (some W.heap.size) hJs vj (λr e=>by cases e;exact⟨au _,_,hr,rfl⟩);have xh:G7 w2 b es c:=⟨(vj.block b (Array.getElem?_eq_some_iff.1 hb.gL).1 (λe=>by cases e;omega)).trans hb.gL,hb.nd,hb.lt⟩;have hlen:ts.length<es.length:=by
    have h1:=hp.length_eq;have h2:=List.length_pos_of_mem hx;simp only[List.length_append,af] at h1;omega
   have hJ3:J ts (w2.alloc (.cells #[ay cD x.dW,ay cD x.aR,ay cD x.sq] 34)):=hJ ts w2 _ none hJ2 ⟨rfl,rfl,rfl,by simp,λk hk _=>Below.heap_alloc _ _ k hk⟩ (λr e=>by cases e);obtain⟨fn,tmps,assign,body,hy,hR⟩:=hY ts x _ hJ3 hlen;change (Instr.yield l #[Value.agg #[ay cD x.dW,ay cD x.aR,ay cD x.sq]]).run pg _=_ at hy;have rW:G7 (w2.alloc (.cells #[ay cD x.dW,ay cD x.aR,ay cD x.sq] 34)) b es c:=⟨(Below.heap_alloc _ _ b (Array.getElem?_eq_some_iff.1 xh.gL).1).trans xh.gL,hb.nd,hb.lt⟩;have DW:(w2.alloc (.cells #[ay cD x.dW,ay cD x.aR,ay cD x.sq] 34)).heap[W.heap.size]? =some (.mapIter (some b) c (seen.push bn) c):=(Below.heap_alloc _ _ _ (Array.getElem?_eq_some_iff.1 jJ).1).trans jJ;clear bH
   gi_wp2
   refine hR.mono ?_;rintro e W3 ⟨rfl,hJ4,ES⟩;have yS:G7 W3 b es c:=⟨ES.same b _ rW.gL rfl,hb.nd,hb.lt⟩;have zy:=ES.same _ _ DW rfl
   gi_wp2
   go_roundw
   case rel=>
    refine⟨seen.push bn,ts++[x],yS,zy,?_,hJ4⟩;have hq:=(Qm h.nd hx).map (·.1);refine List.Perm.trans ?_ hp;rw[ao];exact(List.Perm.append_left ts hq)
   case measure=>
    rw[N8 yS zy,N8 hb hr];have:=(Qm h.nd hx).length_eq;simp only[aJ] at this;omega
end
abbrev C3:Nat:=59
abbrev T3 (t:bX):List Value:=[ay cD t.dW,ay cD t.aR,ay cD t.sq]
def K0:Code:=(Code.region 2 #[{ dst:=some 5,op:=Op.alloc tT,type:=0,pos:= "iter.go:51",after:= #[],guard:=none },{ dst:=none,op:=Op.store tT (kT 5) (kT 7),type:=0,pos:= "iter.go:51",after:= #[{ on:=0,ground:=tj },{ on:=0,ground:=rV }],guard:=none }] false)
def Sj:Code:=(Code.block 1 (Code.region 3 #[{ dst:=some 8,op:=Op.load C3 (kT 2),type:=C3,pos:= "iter.go:52",after:= #[],guard:=none },{ dst:=some 9,op:=Op.load tT (kT 5),type:=tT,pos:= "iter.go:52",after:= #[],guard:=none },{ dst:=some 10,op:=Op.buildSlice C3 1 #[(0,kT 9)],type:=C3,pos:= "iter.go:52",after:= #[{ on:=1,ground:=tj }],guard:=none },{ dst:=some 11,op:=Op.call { callee:=Callee.builtin Builtin.append,args:= #[kT 8,kT 10],argTypes:= #[C3,C3] },type:=C3,pos:= "iter.go:52",after:= #[{ on:=0,ground:=tj },{ on:=2,ground:=tj }],guard:=none },{ dst:=none,op:=Op.store C3 (kT 2) (kT 11),type:=0,pos:= "iter.go:52",after:= #[{ on:=3,ground:=tj },{ on:=3,ground:=Ground.chain },{ on:=0,ground:=rV },{ on:=1,ground:=rV },{ on:=2,ground:=rV },{ on:=3,ground:=rV }],guard:=none }] false))
def xL (fn:FuncId) (sv:Value) (Bs D:Nat) (st:LoopState) (ia:Option Code):Loop:=
 { state:=st,pending:=ia,fn,tmps:= #[.slice none 0 0,sv,.pointer (some ⟨Bs,0,none⟩),undef,.slice none 0 0,undef,sv,undef,undef,undef,undef,undef,undef],params:= #[7],assign:=K0,body:=Sj,defers:=D }
structure ApT (w0:World) (fn:FuncId) (sv:Value) (Bs l D:Nat) (ts:List bX) (W:World):Prop where
 box: ∃v,W.heap[Bs]? =some (.cells #[v] C3 (0,0))/\W.ownsRow w0.heap.size tT 3 v ts.length (ts.map T3).flatten
 L:W.heap[l]? =some (.loop (xL fn sv Bs D .ready none))
 K:W.heap[D]? =some (.deferred (some []))
 below:Below w0.heap.size w0 W
theorem acP (w0:World) (fn:FuncId) (sv:Value) (Bs l D B:Nat) (hB:w0.heap.size<=B):AbidesFrom B (ApT w0 fn sv Bs l D):=λs W W' row h hg bt=>by
 have Ec: ∀r,row=some r-> ∃o:Obj,W.heap[r]? =some o/\o.isWalk=true:=λr e=>(bt r e).2;obtain⟨v,hv,hr⟩:=h.box;exact⟨⟨v,(grownBy_keeps hg Ec hv rfl).trans hv,ownsRow_abides_a hr hg Ec⟩,(grownBy_keeps hg Ec h.L rfl).trans h.L,(grownBy_keeps hg Ec h.K rfl).trans h.K,
  h.below.grown hg h.below.size (λk e=>ad hB (bt k e).1)⟩
theorem afq (w:World) (xs:List Value) (t:TypeId): ∀(j:Nat) u,xs[j]? =some u->(w.alloc (.cells xs.toArray t)).cell? ((⟨w.heap.size,0,none⟩:Addr).add j)=some u:=by
 intro j u hj;rw[Addr.add_lit];simp only[fw,jI];simpa using hj
theorem ahq (m:Nat) (w0:World) (fn:FuncId) (sv:Value) (Bs l D:Nat) (hBl:Bs≠l) (hDl:D≠l) (hDB:D≠Bs) (h0B:w0.heap.size<=Bs) (h0l:w0.heap.size<=l)
    (N:Nat) (hN:N<=2^40) (ts:List bX) (x:bX) (W:World) (h:ApT w0 fn sv Bs l D ts W) (hlen:ts.length<N):
    YieldAt gu m pg l #[x.v] W λe W'=>e= .returned (.bool true)/\ApT w0 fn sv Bs l D (ts++[x]) W'/\KeepsWalks W W':=by
  have cu:C3≠tT:=by decide
  obtain⟨i0,hi,K3,HM,JF⟩:=info_parts (P:=pg) (e:=tT) (z:=(⟨0,0,0⟩:bX).v) (size:=3) (bytes:=24) kQ;obtain⟨v,hv,bt⟩:=h.box;refine⟨fn,#[.slice none 0 0,sv,.pointer (some ⟨Bs,0,none⟩),undef,.slice none 0 0,undef,sv,x.v,undef,undef,undef,undef,undef],K0,Sj,by simpa [xL] using run_yield (P:=pg) (args:= #[x.v]) h.L rfl,roundIn_of_wpIn trivial ?_⟩;have hlW:l<W.heap.size:=(Array.getElem?_eq_some_iff.1 h.L).1;have hBW:Bs<W.heap.size:=(Array.getElem?_eq_some_iff.1 hv).1;have hDW:D<W.heap.size:=(Array.getElem?_eq_some_iff.1 h.K).1;obtain⟨WA,hWA⟩: ∃WA,W.alloc (.cells #[ay cD x.dW,ay cD x.aR,ay cD x.sq] tT)=WA:=⟨_,rfl⟩;have acQ: ∀k,k<W.heap.size->WA.heap[k]? =W.heap[k]? :=λk hk=>by rw[<-hWA];exact Below.heap_alloc _ _ k hk
  have hvA:=(acQ Bs hBW).trans hv;have hLA:=(acQ l hlW).trans h.L;have hKA:=(acQ D hDW).trans h.K;have hxA:WA.heap[W.heap.size]? =some (.cells #[ay cD x.dW,ay cD x.aR,ay cD x.sq] tT (0,0)):=by rw[<-hWA];exact jI _ _
  have hkA:KeepsWalks W WA:=by rw[<-hWA];exact AX _ _
  have TU:Below w0.heap.size w0 WA:=by rw[<-hWA];exact h.below.alloc h.below.size _
  have ajD:WA.ownsRow w0.heap.size tT 3 v ts.length (ts.map T3).flatten:=by rw[<-hWA];exact bt.alloc _
  have ash:WA.heap.size=W.heap.size+1:=by rw[<-hWA];simp
  have hbr:=run_beginRound (P:=pg) hLA rfl;obtain⟨W2,TV⟩: ∃W2,WA.putObj l (.loop { xL fn sv Bs D .ready none with state:=.busy })=W2:=⟨_,rfl⟩;rw[TV] at hbr;have vj:WA.grownBy W2 (some l):=by rw[<-TV];exact grownBy_putObj_a _ _ _
  have HN:KeepsWalks W W2:=hkA.trans (by rw[<-TV];exact Av _ hLA rfl);have rX:W2.heap[Bs]? =some (.cells #[v] C3 (0,0)):=by rw[<-TV];exact(fC hBl).trans hvA
  have hK2:W2.heap[D]? =some (.deferred (some [])):=by rw[<-TV];exact(fC hDl).trans hKA
  have hL2:W2.heap[l]? =some (.loop { xL fn sv Bs D .ready none with state:=.busy }):=by rw[<-TV];exact kn zQ
  have Xb:W2.heap[W.heap.size]? =some (.cells #[ay cD x.dW,ay cD x.aR,ay cD x.sq] tT (0,0)):=by rw[<-TV];exact(fC zQ).trans hxA
  have Ed:W2.ownsRow w0.heap.size tT 3 v ts.length (ts.map T3).flatten:=ajD.kept vj (ownsRow_ne_a ajD hLA (λcur e=>by first|cases e|exact cu (kE e).2.1));have xh:Below w0.heap.size w0 W2:=TU.grown vj TU.size (λk e=>by cases e;exact h0l);have asi:W2.cell? ⟨W.heap.size,0,none⟩=some (ay cD x.dW):=by simp[fw,Xb]
  have asj:W2.cell? ⟨W.heap.size,1,none⟩=some (ay cD x.aR):=by simp[fw,Xb]
  have asl:W2.cell? ⟨W.heap.size,2,none⟩=some (ay cD x.sq):=by simp[fw,Xb]
  obtain⟨qJ,Xd⟩:=cell_of_box_a rX;have apL:Bs<W2.heap.size:=(Array.getElem?_eq_some_iff.1 rX).1;have wo:l<W2.heap.size:=(Array.getElem?_eq_some_iff.1 hL2).1;have apM:D<W2.heap.size:=(Array.getElem?_eq_some_iff.1 hK2).1;have acS: ∀{j:Nat} {o:Obj},W2.heap[j]? =some o->(∀cur,o≠ .cells cur tT (0,0))->some j≠v.ownBlock:=λhj pc=>by
    rcases ownsRow_ne_a Ed hj pc with e|e
    · rw[e];simp
    · exact λe'=>e e'.symm
  clear TV;unfold K0
  gi_wp2_with gi_round_op_a
  unfold Sj;have HJ:(2:Nat)^40<=maxLen:=by decide
  gi_wp2_with (first
    | (gi_at_builtin; refine wpListIn_append_own _ rfl _ _ C3 rfl w0.heap.size tT i0 (⟨0, 0, 0⟩ : bX).v 3 24 kQ hi K3 HM JF rfl dQ _ _ _ rfl (Ed.alloc _) ⟨W2.heap.size, 0, none⟩ 1 1 (T3 x) rfl rfl (afq _ _ _) (by simp[Value.oneCell', T3]) zQ zQ (by have := xh.size; simp; omega) ?_; intro v' w3 acT Xe ar5
       have HO:w3.heap[Bs]? =some (.cells #[v] C3 (0,0)):=(Xe.block Bs oQ (acS rX (λcur e=>by first|cases e|exact cu (kE e).2.1))).trans ((Below.heap_alloc _ _ Bs apL).trans rX);obtain⟨vu,hf3⟩:=cell_of_box_a HO;obtain⟨g',K4,acU,rfl,ar4,asm,rI,jJ,DW,zy⟩: ∃g' K4 acU,v'= .slice (some ⟨g',0,none⟩) (ts.length+1) K4/\w0.heap.size<=g'/\w3.heap[g']? =some (.cells acU tT (0,0))/\ts.length+1<=K4/\K4<=maxLen/\acU.size=K4*3/\acU.toList.take ((ts.length+1)*3)=(ts.map T3).flatten++T3 x:=by
         rcases acT.2 with⟨_,h0⟩|h'
         · exact absurd h0 zQ
         · exact h'
       go_frame)
    |gi_round_op_a)
  have acV:(W2.alloc (.cells #[ay cD x.dW,ay cD x.aR,ay cD x.sq] tT)).grownBy w3 v.ownBlock:=Xe;have hL3:w3.heap[l]? =some (.loop { xL fn sv Bs D .ready none with state:=.busy }):=(acV.block l oQ (acS hL2 (λcur e=>by first|cases e|exact cu (kE e).2.1))).trans ((Below.heap_alloc _ _ l wo).trans hL2);have hK3:w3.heap[D]? =some (.deferred (some [])):=(acV.block D oQ (acS hK2 (λcur e=>by first|cases e|exact cu (kE e).2.1))).trans ((Below.heap_alloc _ _ D apM).trans hK2);obtain⟨w4,Gh⟩: ∃w4,w3.setCell ⟨Bs,0,none⟩ (.slice (some ⟨g',0,none⟩) (ts.length+1) K4)=w4:=⟨_,rfl⟩;rw[Gh];have hg4:w3.grownBy w4 (some Bs):=by rw[<-Gh];exact grownBy_setCell0_a _ _ _
  have hv4:w4.heap[Bs]? =some (.cells #[.slice (some ⟨g',0,none⟩) (ts.length+1) K4] C3 (0,0)):=by rw[<-Gh];exact heap_setCell_box_a _ HO
  have Xf:w4.heap[l]? =some (.loop { xL fn sv Bs D .ready none with state:=.busy }):=(hg4.block l (Array.getElem?_eq_some_iff.1 hL3).1 (λe=>hBl (by cases e;rfl))).trans hL3;have hK4:w4.heap[D]? =some (.deferred (some [])):=(hg4.block D (Array.getElem?_eq_some_iff.1 hK3).1 (λe=>hDB (by cases e;rfl))).trans hK3;have CH:=acT.kept hg4 (ownsRow_ne_a acT HO (λcur e=>by first|cases e|exact cu (kE e).2.1));have Qo:l<w4.heap.size:=(Array.getElem?_eq_some_iff.1 Xf).1;have rW:Below w0.heap.size w0 w3:=(xh.alloc xh.size _).grown acV (by have:=xh.size;simp;omega) (λk e=>(Ed.lt k e).1);have yS:Below w0.heap.size w0 w4:=rW.grown hg4 rW.size (λk e=>by cases e;exact h0B);have ES:KeepsWalks W w4:=((HN.trans (AX _ _)).trans (KeepsWalks.of_grownBy acV (ownsRow_not_walk_a (Ed.alloc _)))).trans (by rw[<-Gh];exact KeepsWalks.setCell _ _ _);clear Gh;refine⟨_,_,run_endRound none Xf,rfl,⟨⟨_,(fC hBl).trans hv4,?_⟩,kn Qo,(fC hDl).trans hK4,yS.grown (grownBy_putObj_a _ _ _) yS.size (λk e=>by cases e;exact h0l)⟩,ES.trans (Av _ Xf rfl)⟩;have:=CH.kept (grownBy_putObj_a w4 l (.loop { { xL fn sv Bs D .ready none with state:=.busy } with state:=if(none:Option Code).isNone then .ready else .done,pending:=none })) (ownsRow_ne_a CH Xf (λcur e=>by first|cases e|exact cu (kE e).2.1));simpa using this
abbrev Qp:Nat:=141
abbrev acW:Nat:=84
theorem acX (n:Nat) (hn:2<=n) (g:Nat) (lb:Array Value) (eg: ∀args w,(callFunc g args).run pg w= .ok (.enter g args) w)
    (S:List bX->Prop) (N:Nat) (hN:N<=2^40) (w:World) (ahr:SeqGives gu (n-1) pg g lb (λt:bX=>t.v) S N w):
    CallsIn gu n pg Qp #[.slice none 0 0,.func (.func g) #[] lb] w λe w'=> ∃(v:Value) (ts:List bX),e= .returned v/\S ts/\w'.ownsRow w.heap.size tT 3 v ts.length (ts.map T3).flatten/\Below w.heap.size w w':=by
  have h1:1<=n:=by omega
  refine callsIn_of_wp_marks (f:=Qp) (fn:=Tryz.f141) kQ rfl trivial ?_ rfl;rw[Tryz.ntmps141];change DC _ _ _ _ _ ⟨#[.slice none 0 0,.func (.func g) #[] lb,undef,undef,undef,undef,undef,undef,undef,undef,undef,undef,undef],[]⟩ w
  gi_wp2
  refine wpIn_rangeFunc ?_;intro fn hfn;obtain⟨W0,hW0⟩: ∃W0,w.alloc (.cells #[.slice none 0 0] C3)=W0:=⟨_,rfl⟩;have gw:W0.heap.size=w.heap.size+1:=by rw[<-hW0];simp
  have hv0:W0.heap[w.heap.size]? =some (.cells #[.slice none 0 0] C3 (0,0)):=by rw[<-hW0];exact jI w _
  have xM:Below w.heap.size w W0:=by rw[<-hW0];exact(Below.refl _ w).alloc (au _) _
  rw[hW0];obtain⟨W1,hW1⟩: ∃W1,(W0.alloc (.deferred (some []))).alloc (.loop (xL fn (.func (.func g) #[] lb) w.heap.size W0.heap.size .ready none))=W1:=⟨_,rfl⟩;have hold: ∀k,k<W0.heap.size->W1.heap[k]? =W0.heap[k]? :=λk hk=>by
    rw[<-hW1];exact(Below.heap_alloc _ _ k oQ).trans (Below.heap_alloc _ _ k hk)
  have mc:Below w.heap.size w W1:=by rw[<-hW1];exact(xM.alloc xM.size _).alloc (by have:=xM.size;simp;omega) _
  have hM:ApT w fn (.func (.func g) #[] lb) w.heap.size (W0.heap.size+1) W0.heap.size [] W1:=
    ⟨⟨_,(hold w.heap.size zQ).trans hv0,⟨rfl,.inl ⟨rfl,rfl⟩⟩⟩,
     by rw[<-hW1];have:=jI (W0.alloc (.deferred (some []))) (.loop (xL fn (.func (.func g) #[] lb) w.heap.size W0.heap.size .ready none));rwa [World.size_alloc] at this,
     by rw[<-hW1];exact(Below.heap_alloc _ _ _ sQ).trans (jI W0 _),mc⟩
  refine⟨W0.heap.size+1,[{ target:=.collected W0.heap.size,args:= #[] }],W1,{ target:=.fn (.func g) lb,args:= #[.func (.yield (W0.heap.size+1)) #[] #[]] },W1,g,
    #[.func (.yield (W0.heap.size+1)) #[] #[]]++lb,W1,?_,?_,?_,?_,λ_=>h1,?_⟩
  · rw[<-hW1];exact run_enterLoop_outer _ _ _ _ _
  · simp[resolve,go_sem]
  · intro f' hf';simp[Target.leads] at hf';subst hf';trivial
  · simp[invoke,go_sem,eg]
  · refine(ahr (W0.heap.size+1) (ApT w fn (.func (.func g) #[] lb) w.heap.size (W0.heap.size+1) W0.heap.size) W1 mc (acP _ _ _ _ _ _ _ mc.size)
      (λpre x W hJ hl=>ahq (n-1-1) w fn _ w.heap.size (W0.heap.size+1) W0.heap.size zQ zQ zQ (au _) zQ N hN pre x W hJ hl) hM).mono ?_
    rintro e W2 ⟨⟨v0,rfl⟩,ts,hS,h2⟩;obtain⟨v,hv,bt⟩:=h2.box;have ux:=run_endLoop (P:=pg) h2.L (by simp[xL]);obtain⟨W3,Qq⟩: ∃W3,W2.putObj (W0.heap.size+1) (.loop { xL fn (.func (.func g) #[] lb) w.heap.size W0.heap.size .ready none with state:=.exhausted })=W3:=⟨_,rfl⟩;rw[Qq] at ux;have Xe:W2.grownBy W3 (some (W0.heap.size+1)):=by rw[<-Qq];exact grownBy_putObj_a _ _ _
    have HO:W3.heap[w.heap.size]? =some (.cells #[v] C3 (0,0)):=by rw[<-Qq];exact(fC zQ).trans hv
    have hK3:W3.heap[W0.heap.size]? =some (.deferred (some [])):=by rw[<-Qq];exact(fC zQ).trans h2.K
    have MZ:=bt.kept Xe (ownsRow_ne_a bt h2.L (λcur e=>by first|cases e|exact cu (kE e).2.1));have rW:Below w.heap.size w W3:=h2.below.grown Xe h2.below.size (λk e=>by cases e;omega);obtain⟨vu,hf3⟩:=cell_of_box_a HO;clear Qq;refine⟨none,W3,ux,?_⟩
    gi_wp2
    rw[<-gw];refine⟨by simp,.inl ⟨_,_,rfl,run_takeDeferred hK3,?_⟩⟩;exact⟨_,results_tmp rfl _ _ _,v,ts,rfl,hS,MZ.kept (grownBy_putObj_a _ _ _) (ownsRow_ne_a MZ hK3 (λcur e=>by first|cases e|exact cu (kE e).2.1)),rW.grown (grownBy_putObj_a _ _ _) rW.size (λk e=>by cases e;omega)⟩
theorem ahs (n:Nat) (hn:3<=n) (g:Nat) (lb:Array Value) (eg: ∀args w,(callFunc g args).run pg w= .ok (.enter g args) w)
  (S:List bX->Prop) (N:Nat) (hN:N<=2^40) (w:World) (ahr:SeqGives gu (n-1-1) pg g lb (λt:bX=>t.v) S N w):
  CallsIn gu n pg acW #[.func (.func g) #[] lb] w λe w'=> ∃(v:Value) (ts:List bX),e= .returned v/\S ts/\w'.ownsRow w.heap.size tT 3 v ts.length (ts.map T3).flatten/\Below w.heap.size w w':=by
 have h1:1<=n:=by omega
 have e11: ∀args w,(callFunc Qp args).run pg w= .ok (.enter Qp args) w:=enters_of (fn:=Tryz.f141) kQ kQ rfl;refine callsIn_of_wp (f:=acW) (fn:=Tryz.f84) kQ rfl trivial ?_ rfl;rw[Tryz.ntmps84];change DC _ _ _ _ _ ⟨#[.func (.func g) #[] lb,undef,undef,undef,undef],[]⟩ w
 gi_wp2_with (refine⟨trivial,?_⟩;gi_at_fn Qp;refine(acX (n-1) zQ g lb eg S N hN _ ahr).mono ?_;rintro e w' ⟨v,ts,rfl,hS,bt,hb⟩)
 go_ret
 exact⟨v,ts,rfl,hS,bt,hb⟩
open Go.Proofs
attribute [local irreducible] un jn jh ji ld1 jt st1 nW mP pN sR qj JG ET gT rY aY nU nV eW eV eU eC eF gE nB fin jl bC dF vS N9 JH JI HP JJ JK Oa Ob JL Oc Gi Gj JM JN JO Od Oe JP
variable {Y : XS}
section
variable {xb : Nat} {x : AcV} {vw : Value}
theorem AZ {sn:List fg} (h:aH w Y xb (JQ x vw) aT) (hY: ∀k,Y k->X k) (hv:Sl w X 7 x.vs (sn.map fg.l)) (hl:sn.length<=2^40):
  Ct pg 105 #[ptr xb 0] w X nX λv wa w'=> ∃ys:List fg,ys.Perm sn/\Own w' (made wa w') wa.heap.size 175 7 v (ys.map fg.l):=by
 intro w0 hk;have bt:=(h.mono hY).mv hk.cE;have hF:FX nX (bP w0) w0:=λk ah=>ah.elim;have hT:=hF.ft (Kp.refl _ _);have hs:=ai.init w0;refine G8.1 λ_=>?_;repeat' refine aq ?_;intros
 refine cM (K5 (hv.mv hk.cE) hl) kQ hs.has ?_;rintro v DX w1 X1 q1 qw nY aB;have u1:Own w1 X1 w0.heap.size _ _ v _:=q1.up nY qw;have eo:Ft w0 nX w1 X1 (fv v):=(hT.since aB).more λk ah=>.inr ⟨u1.2.2 k ah,(u1.ge ah).1⟩;refine eo.call (aaM u1 zQ) kQ (λ_ h=>h) λr xN w2 X2 hq lK ko da c2=>?_;obtain⟨rfl,ys,hp,ho⟩:=hq;clear hs;have hs:=ai.fL da.s.has
 skip
 exact da.fin λwa aL=>⟨ys,hp,((xO ho (Y:=X2) λg hg=>da.bg g (.inl hg)).kp aL).tight⟩
end
variable {mb : Nat}
theorem aht:Ct pg 40 #[.map (some mb)] w X nX λv wa w'=> ∃bx,v= .func (.func HL) #[] #[ptr bx 0]/\aH w' (made wa w') bx [.map (some mb)] Xa:=by
 intro w0 hk;have hs:=ai.init w0;refine oO.1 λ_=>?_;refine uy rfl hs.has λbx w1 X1 gn aB bt=>?_;repeat' refine aq ?_;intros
 exact cH aB λwa aL=>⟨bx,rfl,⟨gn,(bt.kp aL).lt⟩,(bt.kp aL).2⟩
variable {l : List (bX × Nat)} {bx : Nat}
theorem aaO (h:dS w X nX mb (λk:bX=>k.v) zz l) (hb:aH w X bx [.map (some mb)] Xa) (hl:l.length<=2^40):
  Ct pg acW #[.func (.func HL) #[] #[ptr bx 0]] w X nX λv wa w'=> ∃ts:List bX,ts.Perm (l.map (·.1))/\Own w' (made wa w') wa.heap.size tT 3 v (ts.map bX.l):=by
 intro wa hk;obtain⟨es,c,h1,h2⟩:=h;have CI:=h2.keys;have hlen:es.length=l.length:=by have:=congrArg bB CI;simpa using this
 have KJ:=h1.kp hk;have hT:G7 wa mb es c:=by
  exact⟨KJ.2.1,KJ.2.2.2.1,KJ.2.2.2.2⟩
 have hS:=callsIn_wide.1 (ahs 7 zQ HL #[ptr bx 0] (λargs w=>pG kQ args w) _ es.length zQ wa (aaN (hb.kp hk).lt (by have:=(hb.kp hk).2;simp[fw,this]) hT));refine hS.mono ?_;rintro e w' ⟨v,ts,rfl,hp,bt,dO⟩;have hx:Ext wa w':=⟨dO.os,dO.tape,dO.output,dO.size,λk ah _=>dO.block k ah⟩;refine⟨v,rfl,hx,ts,by rw[<-CI];exact hp,?_⟩;refine⟨λr hr=>by obtain⟨x,_,rfl⟩:=List.mem_map.1 hr;rfl,?_,λq hq=>⟨?_,?_⟩⟩
 ·rw[af];exact bt
 ·exact(bt.lt _ hq).1
 ·exact(bt.lt _ hq).2
theorem Sk (h:dS w X nX mb (λk:bX=>k.v) zz l) (hb:aH w X bx [.map (some mb)] Xa) (hl:l.length<=2^40):
  Ct pg 39 #[.func (.func HL) #[] #[ptr bx 0],.func (.func 41) #[] #[]] w X nX λv wa w'=> ∃ts:List bX,ts.Perm (l.map (·.1))/\ts.Pairwise (λa b=>b.less a=false)/\Own w' (made wa w') wa.heap.size tT 3 v (ts.map bX.l):=by
 intro w0 hk;replace h:=h.mv EU hk.cE (A':=nX) (λ_ h _=>h.elim);replace hb:=hb.mv hk.cE;have hF:FX nX (bP w0) w0:=λk ah=>ah.elim;have hT:=hF.ft (Kp.refl _ _);have hs:=ai.init w0;refine Cf.1 λ_=>?_;refine cM (aaO h hb hl) kQ hs.has ?_;rintro v DX w1 X1 ⟨ts,hp,ho⟩ qw nY aB;have u1:Own w1 X1 w0.heap.size _ _ v _:=ho.up nY qw;have eo:Ft w0 nX w1 X1 (fv v):=(hT.since aB).more λk ah=>.inr ⟨u1.2.2 k ah,(u1.ge ah).1⟩;have cI:ts.length=l.length:=by rw[hp.length_eq,af]
 refine eo.call (aaK u1 zQ) kQ (λ_ h=>h) λr xN w2 X2 hq lK ko da c2=>?_;obtain⟨rfl,ys,hp2,hpw,kF⟩:=hq;clear hs;have hs:=ai.fL da.s.has
 skip
 exact da.fin λwa aL=>⟨ys,hp2.trans hp,hpw,((xO kF (Y:=X2) λg hg=>da.bg g (.inl hg)).kp aL).tight⟩
theorem Qr {nb:Nat} {c:CoV} {DY vm va:Value} {al:List (bX×Nat)} (h:aH w Y nb (G9 c DY vm va) nT) (hY: ∀k,Y k->X k) (TW:dS w X nX c.ab (λk:bX=>k.v) zz al) (hl:al.length<=2^40):
  Ct pg 15 #[ptr nb 0] w X nX λv wa w'=> ∃ts:List bX,ts.Perm (al.map (·.1))/\ts.Pairwise (λa b=>b.less a=false)/\Own w' (made wa w') wa.heap.size tT 3 v (ts.map bX.l):=by
 intro w0 hk;replace h:=(h.mv (Mv.sub hY)).mv hk.cE;replace TW:=TW.mv EU hk.cE (A':=nX) (λ_ h _=>h.elim);have hs:=ai.init w0;refine IB.1 λ_=>?_;repeat' refine aq ?_;intros
 refine cM aht kQ hs.has ?_;rintro _ wa w2 X2 ⟨bx,rfl,hb⟩ hle gC bH;refine cM (Sk (TW.mv EU bH.mv (A':=nX) (λ_ h _=>h.elim)) (hb.mono gC) hl) kQ bH.has ?_;rintro v w3 w4 X4 ⟨ts,hp,hpw,ho⟩ tJ py gd;exact cH (bH.trans gd) λwa aL=>⟨ts,hp,hpw,((ho.up py (by have:=bH.kp.size;omega)).kp aL).tight⟩
structure ar6 (l:List fe):Prop where
 may: ∀r∈l,r.may=true
 ids:l.Pairwise λx y=>x.id≠y.id
 asn: ∀{r q:fe} {x:Nat},r∈l->q∈l->fe.Sm r x=true->fe.Sm q x=true->r=q
abbrev Sp:=List (Int×List BA)
variable {k : BA}
theorem akd {l:List BA} :l.any (λx=>decide (k=x))=true↔k∈l:=by grind
def IC (g:Int) (k:BA) (m:Sp):Sp:=if((getM g m).getD []).any (λx=>decide (k=x))then m else cU g (((getM g m).getD [])++[k]) m
variable {m : Sp} {ds : tK}
theorem TX {r:List BA} (h:(jc ds m (k::r)).2=0): ∃g,nZ ds k=some g/\jc ds m (k::r)=jc ds (IC g.id k m) r:=by
 rw[jc] at h;by_cases hg:iN k=true
 ·rw[if_pos hg] at h;cases hr:nZ ds k with
  |none=>grind
  |some g=>
   refine⟨g,rfl,?_⟩;rw[jc,if_pos hg,hr];rfl
 grind
variable {g : Int}
theorem Xg (id:Int) (y:BA):y∈(getM id (IC g k m)).getD []↔(y∈(getM id m).getD []\/(y=k/\g=id)):=by
 unfold IC;split
 ·grind
 ·by_cases e:id=g
  ·subst e;rw[jK];simp
  grind [pO]
theorem acY (h:(m.map (·.1)).Nodup):((IC g k m).map (·.1)).Nodup:=by
 unfold IC;split
 ·exact h
 ·exact Qs h
theorem afr (hn:(m.map (·.1)).Nodup) (h: ∀e∈m,e.2≠[]): ∀e∈IC g k m,e.2≠[]:=by
 unfold IC;split
 ·exact h
 ·intro e he;rcases mV hn he with rfl|⟨h1,_⟩
  ·simp
  grind
theorem ahu (h:k ∉ (getM g m).getD []):uz bB (IC g k m)=uz bB m+1:=by
 unfold IC;rw[if_neg (λe=>h (akd.1 e))];cases hg:getM g m with
 |none=>rw[Xh hg];simp
 |some l=>
  have:=Xi (f:=bB) (a:=l++[k]) hg
  grind
structure apN (ds:tK) (m m':Sp) (keys:List BA):Prop where
 rt: ∀k∈keys,∃r,nZ ds k=some r
 mem: ∀id k,(k∈(getM id m').getD []↔(k∈(getM id m).getD []\/(k∈keys/\ ∃r,nZ ds k=some r/\r.id=id)))
 nd:(m'.map (·.1)).Nodup
 full: ∀e∈m',e.2≠[]
theorem Sq: ∀{keys:List BA} {m:Sp},(m.map (·.1)).Nodup->(∀e∈m,e.2≠[])->(jc ds m keys).2=0->apN ds m (jc ds m keys).1 keys
 |[],m,hn,hf,_=>⟨λk hk=>(by cases hk),λid k=>by simp[jc],hn,hf⟩
 |k::r,m,hn,hf,h=>by
  obtain⟨g,h1,h2⟩:=TX h;rw[h2] at h⊢;have ih:=Sq (acY (g:=g.id) (k:=k) hn) (afr hn hf) h;refine⟨λy hy=>?_,λid y=>?_,ih.nd,ih.full⟩
  ·rcases List.mem_cons.1 hy with rfl|hy
   ·grind
   ·exact ih.rt y hy
  ·rw[ih.mem id y,Xg];constructor
   ·rintro((h3|⟨rfl,h4⟩)|⟨h3,h4⟩)
    ·grind
    ·grind
    simp_all
   ·rintro(h3|⟨h3,q,h4,h5⟩)
    ·grind
    ·rcases List.mem_cons.1 h3 with rfl|h3
     ·grind
     grind
theorem Xj: ∀{keys:List BA} {m:Sp},keys.Nodup->(∀id,∀k∈keys,k ∉ (getM id m).getD [])->(jc ds m keys).2=0->uz bB (jc ds m keys).1=uz bB m+keys.length
 |[],m,_,_,_=>by rfl
 |k::r,m,hn,hm,h=>by
  obtain⟨g,h1,h2⟩:=TX h;rw[h2] at h⊢;rw[Xj (List.nodup_cons.1 hn).2 (λid y hy lJ=>?_) h,ahu (hm _ k sQ),aJ]
  ·omega
  ·rcases(Xg id y).1 lJ with h3|⟨rfl,_⟩
   ·grind
   grind
structure alF (ds:tK) (keys:List BA) (gs:List pd):Prop where
 rt: ∀k∈keys,∃g∈gs,k∈g.keys/\nZ ds k=some g.pe
 own: ∀g∈gs,∀k∈g.keys,k∈keys/\nZ ds k=some g.pe
 full: ∀g∈gs,g.keys≠[]
 nd:gs.Pairwise λa b=>a.pe.id≠b.pe.id
variable {keys : List BA}
theorem TY (hW: ∀(i:Int) (r:fe),getM i ds=some r->r.id=i) (h:(jc ds [] keys).2=0):alF ds keys (mW ds (jc ds [] keys).1):=by
 have hg:=Sq (m:=[]) ti (λe he=>by cases he) h;generalize (jc ds [] keys).1=m at hg;have oc: ∀{k:BA} {r:fe},nZ ds k=some r->getM r.id ds=some r:=λhr=>by grind [Of]
 have hk: ∀id k,k∈(getM id m).getD []->k∈keys/\ ∃r,nZ ds k=some r/\r.id=id/\(getM id ds).getD .zero=r:=λid k ah=>by
  rcases(hg.mem id k).1 ah with h1|⟨h1,r,h2,h3⟩
  ·simp[getM] at h1
  grind
 have lJ: ∀id,id∈qk (m.map (·.1))↔ ∃l,(id,l)∈m:=λid=>by
  rw[(pH _).mem_iff,List.mem_map];exact⟨λ⟨e,h1,h2⟩=>⟨e.2,by grind⟩,λ⟨l,h1⟩=>⟨_,h1,rfl⟩⟩
 refine⟨λk ah=>?_,λg mN k ah=>?_,λg mN=>?_,?_⟩
 ·obtain⟨r,hr⟩:=hg.rt k ah;have h1:=(hg.mem r.id k).2 (.inr ⟨ah,r,hr,rfl⟩);refine⟨⟨(getM r.id ds).getD .zero,(getM r.id m).getD []⟩,List.mem_map.2 ⟨r.id,(lJ _).2 ?_,rfl⟩,h1,?_⟩
  ·cases hm:getM r.id m with
   |none=>rw[hm] at h1;simp at h1
   |some l=>exact⟨l,gS hm⟩
  ·rw[hr,oc hr];rfl
 ·obtain⟨id,h1,rfl⟩:=List.mem_map.1 mN;obtain⟨h2,r,h3,_,h5⟩:=hk id k ah;exact⟨h2,by rw[h3];exact congrArg some h5.symm⟩
 ·obtain⟨id,h1,rfl⟩:=List.mem_map.1 mN;obtain⟨l,h2⟩:=(lJ id).1 h1
  show(getM id m).getD []≠[]
  rw[wI hg.nd h2];exact hg.full _ h2
 ·refine List.pairwise_map.2 (List.Pairwise.imp_of_mem (R:=λa b=>a≠b) (λ{a b} ha hb xg=>?_) ((pH _).nodup_iff.2 hg.nd));have key: ∀id,id∈qk (m.map (·.1))->((getM id ds).getD .zero).id=id:=λid hi=>by
   obtain⟨l,h2⟩:=(lJ id).1 hi;cases l with
   |nil=>exact absurd rfl (hg.full _ h2)
   |cons k l=>
    obtain⟨_,r,_,h4,h5⟩:=hk id k (by rw[wI hg.nd h2];simp);rw[h5,h4]
  show((getM a ds).getD .zero).id≠((getM b ds).getD .zero).id
  rw[key a ha,key b hb];omega
theorem ahv (hn:(m.map (·.1)).Nodup):((qk (m.map (·.1))).map λid=>((getM id m).getD []).length).sum=uz bB m:=by
 rw[((pH (m.map (·.1))).map _).sum_nat,cd];have:(m.map ((λid=>((getM id m).getD []).length)∘λx=>x.1))=m.map λe=>e.2.length:=List.map_congr_left λe he=>by
  show((getM e.1 m).getD []).length=e.2.length
  rw[wI hn (show(e.1,e.2)∈m from he)];rfl
 rw[this];rfl
theorem acZ (hn:keys.Nodup) (h:(jc ds [] keys).2=0):((mW ds (jc ds [] keys).1).map λg=>g.keys.length).sum=keys.length:=by
 have hg:=Sq (m:=[]) ti (λe he=>by cases he) h;have hs:=Xj (m:=[]) hn (λid k _=>by simp[getM]) h;unfold mW;rw[cd]
 show((qk _).map λid=>((getM id (jc ds [] keys).1).getD []).length).sum=_
 rw[ahv hg.nd,hs];simp[uz]
theorem Qt (q:List (List UInt8)):q.map encStr=((q.map λx=>(⟨x.toArray⟩:ByteArray)).map S1).flatten:=by
 induction q with
 |nil=>rfl
 |cons a q ih=>grind
theorem ake (ks:List ByteArray):(ks.map S1).flatten=(ks.map bl).map encStr:=by
 rw[Qt]
 congr 2
 rw[cd];conv=>lhs;rw[<-List.map_id ks]
 rfl
theorem ac0 {ks:List ByteArray} (h:Own w X lo 9 1 v (ks.map S1)) (aso:ks.length<=2^40):
  Ct pg 114 #[v] w X (fv v) λ_ wa w'=>Own w' (fv v) lo 9 1 v ((fT ks).map S1):=by
 intro wa hk;replace h:=h.kp hk;obtain⟨h1,h2,h3⟩:=h;have hlen:(fT ks).length=ks.length:=(kU _).length_eq;rcases h2.2 with⟨rfl,hz⟩|⟨g,cap,cur,rfl,ac1,hg,r1,r2,r3,r4⟩
 ·refine(AnyM.slices_Sort_string_none Tryz.Wa none 0 wa).mono ?_;rintro e w' ⟨rfl,rfl⟩;have JR:ks=[]:=iJ gQ;subst JR;have e0:(fT []).map S1=[]:=by simp[fT]
  refine⟨_,rfl,Fr.refl _ _,?_⟩
  show Own w' _ lo _ 1 _ ((fT []).map S1)
  grind [Own.nil]
 ·have hl:(ks.map bl).length=(ks.map S1).length:=by simp
  have hH:Holds encStr wa g 0 (ks.map bl).toArray:=holds_of_block hg (by rw[hl,<-ake,<-r4];simp);have hU:g<wa.heap.size:=(Array.getElem?_eq_some_iff.1 hg).1;have cS:=AnyM.slices_Sort_string Tryz.Wa g 0 cap (ks.map bl) wa hH hU gQ;rw[hl] at cS;refine cS.mono ?_;rintro e w' ⟨rfl,n,os,rfl⟩;have ER:=grownBy_sorted (w:=wa) (g:=g) (n:=n) (os:=os) ((ks.map bl).mergeSort λx y=>decide (x<=y)).toArray;have xP:=ownsRow_sorted (w:=wa) (base:=lo) (g:=g) (cap:=cap) (n:=n) (e:=9) (os:=os) (cur:=cur) (ss:=ks.map bl) (ts:=(ks.map bl).mergeSort λx y=>decide (x<=y)) sQ ac1 hg zQ r2 zQ;have e1:((ks.map bl).mergeSort λx y=>decide (x<=y)).map encStr=((fT ks).map S1).flatten:=Qt _;refine⟨_,rfl,⟨ER.os,ER.tape,ER.output,ER.size,λk ah hn=>ER.block k ah λe=>hn (by cases e;rfl)⟩,λr hr=>by obtain⟨x,_,rfl⟩:=List.mem_map.1 hr;rfl,?_,λq hq=>hq⟩;rw[e1,hl] at xP;have e2:((fT ks).map S1).length=(ks.map S1).length:=by rw[af,af,hlen]
  grind
variable {p : List jz}
theorem Aw (h:nG p=0):p.length<=40/\zg p 0=0:=by
 unfold nG at h;split at h
 ·exact absurd h dQ
 ·split at h
  ·rename_i h1 h2;exact absurd h h2
  ·rename_i h1 h2;exact⟨by omega,by rcases Classical.em (zg p 0=0)with e|e;exact e;exact absurd e h2⟩
theorem O6 {ds:tK} : ∀{keys:List BA} {m:List (Int×List BA)},(jc ds m keys).1.length<=m.length+keys.length
 |[],m=>by simp[jc]
 |k::r,m=>by
  rw[jc,aJ];split
  ·split
   ·simp only;omega
   ·rename_i g _;have ih:=O6 (ds:=ds) (keys:=r) (m:=if((getM g.id m).getD []).any (λx=>decide (k=x))then m else cU g.id (((getM g.id m).getD [])++[k]) m);have h2:(if((getM g.id m).getD []).any (λx=>decide (k=x))then m else cU g.id (((getM g.id m).getD [])++[k]) m).length<=m.length+1:=by
     split
     ·omega
     ·exact C4 _
    omega
  ·simp only;omega
theorem Qu {a b:Int} (h:p.length<=40): ∀k∈fq a b p,k.size<=24:=λk hk=>by
 obtain⟨y,hy,rfl⟩:=List.mem_map.1 ((kU _).mem_iff.1 hk);exact((EV _ _ p [] 0 ti (λx hx=>by cases hx) (au _)).2.1 y hy).2.2
theorem Gk {a b:Int} :(fq a b p).length<=p.length:=by
 unfold fq;rw[(kU _).length_eq,af];have:=(EV a b p [] 0 ti (λx hx=>by cases hx) (au _)).2.2;omega
def Ee (ids:List Int) (sl:List fg) (wl:List KV) (g:pd):cJ:= { Cg with kind:=3,range:=g.pe.id,iE:=g.pe.iE,parts:=ids,seen:=sl,writes:=wl }
def ID (p:List jz) (ds:tK) (ids:List Int):Prop:= ∃gk:List BA,gk≠[]/\(∀k∈gk,k∈fq 1 1 p\/ ∃o∈p,k=o.key/\(o.code=2\/o.code=3))/\(jc ds [] gk).2=0/\ids=(mW ds (jc ds [] gk).1).map (·.pe.id)
def O7 (p:List jz) (ds:tK):Prop:=(∃e wl,Xk p e wl/\(e≠0\/wl=[]))\/ ∃gk:List BA,gk≠[]/\(∀k∈gk,k∈fq 1 1 p\/ ∃o∈p,k=o.key/\(o.code=2\/o.code=3))/\(jc ds [] gk).2≠0
def O8 (n:br) (b:Nat) (n':br):Prop:=
 (∃ki a,((∃e,e≠0/\a=EW e (n.A b).x.aG .zero false aX)\/ ∃vs,aK.one vs=true/\a=EW 0 (n.A b).x.aG (n.A b).x.st true vs)/\O7 (n.A b).p n.ds/\Told { n with al:=kq (n.A b).x.aG n.al,ex:=b::n.ex,va:=ki,ra:=n.ra++[a] } [] n')\/
 ∃(ids:List Int) (pm:List cJ) (vq gX:Value) (iK:List (List Value)),ids≠[]/\ids.length<=80/\pm.map (·.range)=ids/\(∀m∈pm,m.kind=3/\m.parts=ids/\m.C5)/\ID (n.A b).p n.ds ids/\
  Told (dN n b { n.A b with x:= { (n.A b).x with pre:=true,vq:=vq },vw:=gX,rw:=iK,ws:=pm.map λm=>m.asked (n.A b).x,ids:=ids }) (pm.map λm=>(m.asked (n.A b).x).pP (20+n.c.id)) n'
section
variable {w' wa w0 : World} {X' : XS} {own aM bY : Nat -> Nat} {n n' : br} {b : Nat}
theorem Og (h:j9 w own n) (hX:tn own X) (hb:n.dE b) (hp:(n.A b).x.pre=false) (hq:(n.A b).x.vq=aX/\(n.A b).ids=[]/\(n.A b).pq=false) (Qv:(n.A b).ws=[]) (pf:(n.A b).sn.length<=2^20)
  (hW: ∀(i:Int) (r:fe),getM i n.ds=some r->r.id=i) (hi:1<=n.c.id/\n.c.id<=2) (hl:n.rm.length<=2^10) (wo:n.ra.length<=2^10) (EX:nG (n.A b).p=0):
  Ct pg 64 #[ptr n.nb 0,ptr b 0] w X (gH own) λ_ wa w'=>NQ ea own wa w' λ_ n'=>O8 n b n':=by
 intro w0 hk;have s:=St.init h hX hk;obtain⟨ha,oa⟩:=s.va hb;have hs:=s.rf;obtain⟨-,-,JS,-,Qa,-⟩:=s.h.act hb;have JS:=JS.sl.mono (s.sub _ iz.1);refine Nx.1 λ_=>?_;repeat' refine aq ?_;intros
 refine cM (aaP (Qa.mono (s.sub 4)) JS) kQ s.has ?_;rintro v DX w1 X1 ⟨vl,wl,ew,rfl,lE,HQ,alG,hex⟩ qw nY aB;obtain⟨ir,s1,m1,-,n1⟩:=(s.since aB).yD (N:=made DX w1) λk hk=>⟨nY k hk,s.nw (ad qw hk.1)⟩;replace Qa:=(Qa.mv (aB.gY (s.sub 4))).mv m1;replace lE:=lE.mono n1;clear hs ha oa JS s;have Xl: ∀{w2:World} {X2:XS} {lZ:Nat->Nat} {e:Int},Sn w0 own w2 X2 lZ n->e≠0->O7 (n.A b).p n.ds->
   eC pg (vy (gH own) w0 λv w'=>NQ ea own w0 w' λ_ n'=>O8 n b n') X2 w2 true 43 #[ptr n.nb 0,ptr b 0,I e] λ_ w X=>fin (vy (gH own) w0 λv w'=>NQ ea own w0 w' λ_ n'=>O8 n b n') X w (.tuple #[]):=λ{w2 X2 lZ e} s2 he haw=>
  s2.call (zU (n:=n) (b:=b) (code:=e) s2.h s2.x hb hq.2.2 zQ hi (by rw[hq.2.1];simp;omega)) kQ λv w3 X3 nH n3 s3 ⟨ki,q⟩ _=>s3.fin λ_ _=>.inl ⟨ki,_,.inl ⟨e,he,rfl⟩,haw,by rw[hp] at q;exact q⟩
 have hs:=s1.rf;by_cases hew:ew=0;case neg=>
  repeat' refine aI ?_;intros
  exact Xl s1 hew (.inl ⟨ew,wl,hex,.inl hew⟩)
 subst hew;have ac2:=lE.mono (s1.sub 4);obtain⟨ha,oa⟩:=s1.va hb;have Sr: ∀{w2:World} {X2:XS} {lZ:Nat->Nat},Sn w0 own w2 X2 lZ n->Sl w2 X2 7 (n.A b).x.vs ((n.A b).sn.map fg.l):=λs2=>(s2.h.act hb).2.2.1.sl.mono (s2.sub _ iz.1);by_cases hw0:wl=[]
 ·have apO:(wl.length:Int)=0:=by rw[hw0];rfl
  repeat' refine aI ?_;intros
  refine cM (AZ ha (λ_ h=>h) (Sr s1) zQ) kQ hs.has ?_;rintro vr xN w2 X2 ⟨ys,hys,q2⟩ lK ko bH;have s2:=s1.since bH;have ovr:=q2.sl.one;clear hs;obtain⟨t1,t2,t3,rfl⟩:=q2.sl.form;repeat' refine aq ?_;intros
  refine s2.call (CJ (n:=n) (b:=b) (code:=0) (t:=.zero) (st:=(n.A b).x.st) (on:=true) (vs:=.slice t1 t2 t3) s2.h s2.x hb ovr zQ) kQ λv w3 X3 nH n3 s3 q3 m3=>?_;obtain⟨ki,rfl⟩:=q3;exact s3.fin λ_ _=>.inl ⟨ki,_,.inr ⟨_,ovr,rfl⟩,.inl ⟨0,wl,hex,.inr hw0⟩,Told.nil _⟩
 have apO: ¬(wl.length:Int)=0:=λe=>hw0 (List.length_eq_zero_iff.1 zQ);repeat' refine aI ?_;intros
 refine cM (A3 (Qa.mono (s1.sub 4)) (by have:=(Aw EX).1;omega)) kQ hs.has ?_;rintro vk xN w2 X2 q2 lK ko bH;have hnl:(fq 1 1 (n.A b).p).length<=40:=ad Gk (Aw EX).1;have kF:Own w2 X2 w1.heap.size 9 1 vk ((fq 1 1 (n.A b).p++(wl.take 0).map (·.key)).map S1):=by rw[List.take_zero,lx,List.append_nil];exact q2.up ko lK
 clear hs;have hs:=ai.fL bH.has;repeat' refine aq ?_;intros
 refine gM (λn' a b' w X=> ∃i:Nat,a=I (i:Nat)/\n'=wl.length-i/\i<=wl.length/\ai X1 w1 X w/\Own w X w1.heap.size 9 1 b' ((fq 1 1 (n.A b).p++(wl.take i).map (·.key)).map S1)) wl.length ⟨0,rfl,rfl,ak _,bH.trans hs,kF.since hs⟩ ?_;clear hs kF;rintro n' a b' w X ⟨i,rfl,rfl,EL,hs,lT⟩;have ahw:=ac2.since hs;rcases dB (wl) i with⟨cI,y,hx,hd⟩|⟨dC,hd⟩
 ·repeat' first|refine aI ?_;intros|(with_reducible apply Xm);(case hX=>exact hs.has);(case he=>kernel_rfl);(case ho=>first|rfl|assumption);(case hk=>rfl);intro acc w X aB ho;obtain⟨_,_,_,rfl⟩:=ho.sl.form;replace hs:=hs.trans aB
  have hlen:((fq 1 1 (n.A b).p++(wl.take i).map (·.key)).map S1).length<=80:=by simp;omega
  refine qK (lT.since aB) hs s1.has kQ ho.sl (λr jY u hu=>?_) (by simp only[bF];omega) (by simp only[bF];omega) λv' w' X' tp wj c' dc=>?_
  ·rw[ax] at jY;subst jY;rw[ax] at hu;subst hu;rfl
  clear hs;repeat' first|refine aq ?_;intros|((with_reducible refine fG ((wl).length-(i+1)) ?_ ?_);omega;exact⟨i+1,by simp,rfl,by omega,tp,by rw[bW,hx];simp only[Option.toList_some,aC,List.map_cons,lx,<-ao] at wj⊢;exact wj⟩)
 rw[az dC] at lT;obtain⟨k0,iy⟩: ∃k0,k0=fq 1 1 (n.A b).p++wl.map (·.key):=⟨_,rfl⟩;rw[<-iy] at lT;have ar7:k0.length<=80:=by rw[iy];simp;omega
 have hkn: ∀k∈k0,(k∈fq 1 1 (n.A b).p\/ ∃o∈(n.A b).p,k=o.key/\(o.code=2\/o.code=3))/\k.size<=24:=λk ah=>by
  rw[iy] at ah;rcases List.mem_append.1 ah with e|e
  ·exact⟨.inl e,Qu (Aw EX).1 k e⟩
  ·obtain⟨x,hx,rfl⟩:=List.mem_map.1 e;exact⟨.inr (alG x hx).2,(alG x hx).1⟩
 have apP:k0≠[]:=by rw[iy];intro e;exact hw0 (List.map_eq_nil_iff.1 (List.append_eq_nil_iff.1 e).2)
 repeat' refine aI ?_;intros
 refine xQ (ac0 lT zQ) kQ hs.has (λk ah=>lT.2.2 k ah) λv zA w3 X3 Qw rn mX _ c3=>?_;have s3:=(s1.since hs).loc c3 λk ah=>s1.nw (lT.ge ah).1;have m3:Mv (bZ ir 4) w1 (bZ ir 4) w3:=λk (e:ir k=4) _=>⟨e,(c3.block k (hs.sub k (s1.x k zQ)) λah=>by have:=(lT.ge ah).1;have:=s1.h.lt k zQ;omega).trans (hs.kp.block k (s1.x k zQ))⟩;have ac3:=Qw.sl.mono λk ah=>c3.sub k (lT.2.2 k ah);obtain⟨gk,hgk⟩: ∃gk,gk=fT k0:=⟨_,rfl⟩;have apQ:gk.length=k0.length:=by rw[hgk];exact(kU _).length_eq
 have ahx: ∀k∈gk,(k∈fq 1 1 (n.A b).p\/ ∃o∈(n.A b).p,k=o.key/\(o.code=2\/o.code=3))/\k.size<=24:=λk ah=>hkn k (by rw[hgk] at ah;exact(kU _).mem_iff.1 ah);have ac4:gk≠[]:=λe=>apP (List.length_eq_zero_iff.1 (by rw[<-apQ,e];rfl));rw[<-hgk] at ac3;replace lE:=lE.mv m3;clear hs ahw ac2 lT Qw ha oa c3 s1 m1 m3;have hs:=s3.rf;have hr:=s3.v.1;repeat' refine aq ?_;intros
 refine cM (Oh (s3.Aa 2:) hW ac3 zQ λk ah=>ad (ahx k ah).2 dQ) kQ hs.has ?_;rintro v4 zB w4 X4 q4 tJ py gd;obtain⟨l7,s4,m4,-,n4⟩:=(s3.since gd).yD (N:=made zB w4) λk hk=>⟨py k hk,s3.nw (ad tJ hk.1)⟩;replace lE:=(lE.mv (gd.gY (s3.sub 4))).mv m4;clear hs hr ac3 s3 m4;have hs:=s4.rf;by_cases he:(jc n.ds [] gk).2≠0
 ·rw[if_pos he] at q4;subst q4;repeat' refine aI ?_;intros
  exact Xl s4 he (.inr ⟨gk,ac4,λk hk=>(ahx k hk).1,he⟩)
 rw[if_neg he] at q4;obtain⟨vg,rfl,me⟩:=q4;have A4:(jc n.ds [] gk).2=0:=Classical.not_not.1 he;have alH:=TY hW A4;obtain⟨gs,mO⟩: ∃gs,gs=mW n.ds (jc n.ds [] gk).1:=⟨_,rfl⟩;rw[<-mO] at me alH;have apR:gs≠[]:=by
  obtain⟨k,ah⟩:=List.exists_mem_of_ne_nil _ ac4;obtain⟨g,hg,_⟩:=alH.rt k ah;exact List.ne_nil_of_mem hg
 have hU:gs.length<=80:=by
  rw[mO,mW,af,(pH _).length_eq,af];have:=O6 (ds:=n.ds) (keys:=gk) (m:=[]);simp only[List.length_nil] at this;omega
 replace me:=eY.mv me pd.mv (Mv.sub n4);have oc:(n.A b).x.aG=(n.A b).x.aG:=rfl;obtain⟨ha,oa⟩:=s4.va hb;have od:=(s4.h.act hb).1;repeat' refine aI ?_;intros
 refine s4.st (o:=9) (tx b 0) od (ea (dN n b { n.A b with x:= { (n.A b).x with pre:=true },pq:=true })) zQ kQ (Nat.le_of_ble_eq_true rfl) rfl (λ_ _ _ h=>rq dQ h)
  (IE (λi hq' w K A p=>by
   rcases i with _|_|_|_|_|_|_|_|i<;>first|exact p|exact absurd rfl hq'|skip
   ·exact⟨p.1,p.2.1,λe=>by cases e⟩
   ·exact λ_=>by
     show Own w A 0 Qx 1 (n.A b).x.vq ((n.A b).ids.map I1)
     rw[hq.1,hq.2.1];exact Own.nil _ _ _ _ _)) (λw5 X5 mY s5 m5=>?_) iz.1 iz.2
 replace lE:=lE.mv m5;replace me:=eY.mv me pd.mv m5;clear hs ha od Xl s4 oa;have hs:=s5.rf;have EY:=eY.mv me pd.mv (Mv.sub (s5.sub 4));repeat' refine aq ?_;intros
 refine fY (λn' a w X=> ∃(i:Nat) (vq:Value) (aM:Nat->Nat),a=I (i:Nat)/\n'=gs.length-i/\i<=gs.length/\Sn w0 own w X aM (dN n b { n.A b with x:= { (n.A b).x with pre:=true,vq:=vq },ids:=(gs.take i).map (·.pe.id),pq:=true })/\
  Sl w (bZ aM 4) 4 vl (wl.map KV.l)/\eY w (bZ aM 4) 5 vg pd.rd gs) gs.length ⟨0,(n.A b).x.vq,mY,rfl,rfl,ak _,by rw[List.take_zero,lx,<-hq.2.1];exact s5,lE,me⟩ ?_
 clear s5 hs EY lE me;rintro n' _ w6 X6 ⟨i,vq,rr,rfl,rfl,hi6,s6,lE,me⟩;have hs:=s6.rf;have EY:=eY.mv me pd.mv (Mv.sub (s6.sub 4));rcases dB (gs) i with⟨cI,g,hx,hd⟩|⟨dC,hd⟩
 ·obtain⟨ha,oa⟩:=s6.vs hb;repeat' refine aI ?_;intros
  refine Gl EY hx rfl kQ kQ λbb oo ll qI jE=>?_;obtain⟨HR,rfl,K6⟩:=jE;have ovk:=K6.one;change Cells w6 X6 bb oo [I g.pe.id,I g.pe.iE,.float .f64 g.pe.lo,.float .f64 g.pe.hi,HR] at qI;repeat' first|refine aq ?_;intros|(refine q1s hs ?_;intro _ _ _ w X hs ho)
  replace lE:=lE.mv (hs.gY (s6.sub 4));replace me:=eY.mv me pd.mv (hs.gY (s6.sub 4));have s7:=s6.since hs;have uA:=CK s7.h b 7 dQ hb;have od:=(s7.h.act (b:=b) hb).1;rw[jA] at uA od;have oc:((gs.take (i+1)).map (·.pe.id)).map I1=((gs.take i).map (·.pe.id)).map I1++[[I g.pe.id]]:=by
   rw[bW,hx];simp
  refine s7.ap1 (tx b 0) (tx b 7) 0 od (uA rfl) ho.sl (λr hr u hu=>?_) oQ (λv=>ea (dN n b { n.A b with x:= { (n.A b).x with pre:=true,vq:=v },ids:=(gs.take (i+1)).map (·.pe.id),pq:=true })) (λ_ _ _ _ h=>rq dQ h) (λ_ _ _ _ h=>rq dQ λ_=>by
   show Own _ _ 0 Qx 1 _ (((gs.take (i+1)).map (·.pe.id)).map I1)
   rw[oc];exact h) (λ_ _ _ _ _ h=>h) (λv'=>Qy) (λv' w9 X9 pQ s9 m9=>?_) (wq:=by unfold tx;omega)
  ·rw[ax] at hr;subst hr;rw[ax] at hu;subst hu;rfl
  clear hs;repeat' refine aq ?_;intros
  exact ey (gs.length-(i+1)) zQ ⟨i+1,v',pQ,by simp,rfl,by omega,s9,lE.mv m9,eY.mv me pd.mv m9⟩
 rw[az zQ] at s6;obtain⟨ids,A5⟩: ∃ids,ids=gs.map (·.pe.id):=⟨_,rfl⟩;rw[<-A5] at s6;have uA:=CK s6.h b 7 dQ hb;rw[jA] at uA;obtain⟨rZ,s7,m7,e7,_⟩:=s6.EZ (F':=ea (dN n b { n.A b with x:= { (n.A b).x with pre:=true,vq:=vq },ids:=ids,pq:=false })) (· =tx b 7) iz.1.symm (λc hc w K=>by subst hc;exact rq dQ λe=>nomatch e) λc hc K A hK p=>by
  by_cases e:c=tx b 3
  ·subst e;rw[wu _ _ _ dQ] at p;have p:=p hb;rw[jA] at p;exact rq dQ ⟨p.1,p.2.1,λ_=>(uA rfl).sl.mono hK⟩
  ·exact(Qy (d:= { n.A b with x:= { (n.A b).x with pre:=true,vq:=vq },ids:=ids,pq:=true }) (d':= { n.A b with x:= { (n.A b).x with pre:=true,vq:=vq },ids:=ids,pq:=false }): ∀c,(c≠tx b 7/\c≠tx b 3/\c≠tx b 3)->_) c ⟨hc,e,e⟩ _ _ _ p
 replace lE:=lE.mv m7;replace me:=eY.mv me pd.mv m7;have Oi:Sl w6 (bZ rZ 4) 1 vq (ids.map I1):=(uA rfl).sl.mono e7;have lU:ids.length<=80:=by rw[A5,af];exact hU
 have Oj:(n.A b).rw.length=0:=by have:=(s7.h.act (b:=b) hb).2.2.2.1.1;rw[jA] at this;rw[show(n.A b).rw.length=(n.A b).ws.length from this,Qv];rfl
 clear uA e7 s6 hs EY m7;obtain⟨q1,q2,q3,rfl⟩:=Oi.form;have hs:=s7.rf;have EY:=eY.mv me pd.mv (Mv.sub (s7.sub 4));repeat' refine aI ?_;intros
 obtain⟨D,hD⟩: ∃D:Value->List (List Value)->List cJ->oP,D=λvw rw pm=> { n.A b with x:= { (n.A b).x with pre:=true,vq:=.slice q1 q2 q3 },vw:=vw,rw:=rw,ws:=pm.map λm=>m.asked (n.A b).x,ids:=ids,pq:=false } :=⟨_,rfl⟩;have hD0:({ n.A b with x:= { (n.A b).x with pre:=true,vq:=.slice q1 q2 q3 },ids:=ids,pq:=false } :oP)=D (n.A b).vw (n.A b).rw []:=by rw[hD];dsimp only;rw[Qv];rfl
 rw[hD0] at s7;refine Xn (λn' a _ _ _ w X=> ∃(i:Nat) (gX:Value) (iK:List (List Value)) (pm:List cJ) (aM:Nat->Nat) (n1:br),a=I (i:Nat)/\n'=gs.length-i/\i<=gs.length/\Sn w0 own w X aM n1/\Told (dN n b (D gX iK pm)) (pm.map λm=>(m.asked (n.A b).x).pP (20+n.c.id)) n1/\iK.length=i/\
  Sl w (bZ aM 4) 4 vl (wl.map KV.l)/\eY w (bZ aM 4) 5 vg pd.rd gs/\Sl w (bZ aM 4) 1 (.slice q1 q2 q3) (ids.map I1)/\pm.map (·.range)=(gs.take i).map (·.pe.id)/\ ∀m∈pm,m.kind=3/\m.parts=ids/\m.C5) gs.length ⟨0,_,_,[],rZ,_,rfl,rfl,ak _,s7,Told.nil _,Oj,lE,me,Oi,rfl,λm hm=>absurd hm sQ⟩ ?_
 clear s7 lE me Oi Oj hi6 dC hd hs EY hD0;rintro n' _ _ _ _ w6 X6 ⟨i,K7,K8,pm,rr,n1,rfl,rfl,hi6,s6,ht,pM,lE,me,Oi,A6,nK⟩;have hs:=s6.rf;have EY:=eY.mv me pd.mv (Mv.sub (s6.sub 4));obtain⟨Xo,Qz,xc,Gm⟩:=id ht;have e1:n1.nb=n.nb/\n1.c=n.c/\n1.A b=D K7 K8 pm/\n1.rm.length=n.rm.length+pm.length:=by rw[xc];exact⟨rfl,rfl,jA,by rw[af] at Gm;exact Gm⟩
 have wy:pm.length=i:=by have:=congrArg bB A6;simp at this;omega
 have mc:n1.dE b:=by rw[xc];exact hb
 obtain⟨ha,oa⟩:=s6.va mc;have JS:=(s6.h.act mc).2.2.1.sl.mono (s6.sub _ iz.1);rw[e1.2.2.1,hD] at ha oa JS;rcases dB (gs) i with⟨cI,g,hx,hd⟩|⟨dC,hd⟩
 ·repeat' refine aI ?_;intros
  refine Gl EY hx rfl kQ kQ λbb oo ll qI jE=>?_;obtain⟨HR,rfl,K6⟩:=jE;have ovk:=K6.one;change Cells w6 X6 bb oo [I g.pe.id,I g.pe.iE,.float .f64 g.pe.lo,.float .f64 g.pe.hi,HR] at qI;repeat' refine aq ?_;intros
  refine cM (AZ ha (λ_ h=>h) JS (by dsimp only;omega)) kQ hs.has ?_;rintro vr QA w7 X7 ⟨ys,hys,q7⟩ Ss Ha np;have hr7:Sl w7 X7 7 vr (ys.map fg.l):=(q7.mono Ha).sl;have hyl:ys.length<=2^20:=by rw[hys.length_eq];exact pf
  have ahy:=K6.since np;have alI:=(lE.mono (s6.sub 4)).since np;clear hs;have hs:=ai.fL np.has;repeat' refine aq ?_;intros
  refine gM (λn' a b' w X=> ∃(j:Nat) (vb:Value) (sl:List fg),a=I (j:Nat)/\b'=(Ee ids sl [] g).v aX vb aX (.slice q1 q2 q3) aX aX aX aX/\n'=ys.length-j/\j<=ys.length/\ai X7 w7 X w/\sl.length<=j/\
   Own w X w7.heap.size 175 7 vb (sl.map fg.l)) ys.length ⟨0,aX,[],rfl,rfl,rfl,ak _,hs,au _,Own.nil _ _ _ _ _⟩ ?_
  clear hs;rintro n' _ _ w X ⟨j,vc,sl,rfl,rfl,rfl,hj,hs,hsj,TZ⟩;have Oj:=hr7.since hs;rcases dB ys j with⟨hlj,y,hy,hdj⟩|⟨hgj,hdj⟩
  ·repeat' first|refine aI ?_;intros|with_reducible apply cK
   refine HS (vI (ahy.since hs)) kQ hs.has (λahz w8 X8 lV=>?_) (λahz w8 X8 lV=>?_)
   ·have ahA:=TZ.since lV;replace hs:=hs.trans lV;clear TZ lV;repeat' first|refine aq ?_;intros|(with_reducible apply QB);(case hX=>exact hs.has);(case he=>kernel_rfl);(case hk=>rfl);intro acc w X aB ho;obtain⟨_,_,_,rfl⟩:=ho.sl.form;replace hs:=hs.trans aB
    refine qK (ahA.since aB) hs np.has kQ ho.sl (λr jY u hu=>?_) (by simp only[af,bF];omega) (by simp only[af,bF];omega) λv' w' X' tp wj c' dc=>?_
    ·rw[ax] at jY;subst jY;simp only[il,dJ,or_false] at hu;rcases hu with rfl|rfl|rfl|rfl|rfl|rfl|rfl<;>rfl
    clear hs;have hs:=ai.fL tp.has;have ov':=wj.sl.one;repeat' refine aq ?_;intros
    exact fG (ys.length-(j+1)) zQ ⟨j+1,v',sl++[y],by simp,rfl,rfl,by omega,tp,by simp;omega,by rw[aC];exact wj⟩
   ·repeat' refine aq ?_;intros
    exact fG (ys.length-(j+1)) zQ ⟨j+1,vc,sl,by simp,rfl,rfl,by omega,hs.trans lV,by omega,TZ.since lV⟩
  have ar8:sl.length<=2^20:=by omega
  have apT: ∀k,fv vc k->rr k=0/\w0.heap.size<=k:=λk e=>s6.nw (ad np.kp.size (TZ.ge e).1);replace lE:=lE.mv ((np.trans hs).gY (s6.sub 4));replace me:=eY.mv me pd.mv ((np.trans hs).gY (s6.sub 4));replace Oi:=Oi.mv ((np.trans hs).gY (s6.sub 4));replace s6:=s6.since (np.trans hs);have apU:=ahy.since hs;have ahw:=alI.since hs;obtain⟨wc,Xc,hwc,hXc⟩: ∃wc Xc,wc=w/\Xc=X:=⟨_,_,rfl,rfl⟩;subst hwc hXc;clear hs Oj alI ahy;have hs:=s6.rf;repeat' refine aI ?_;intros
  refine gM (λn' a b' w X=> ∃(j:Nat) (vb:Value) (kl:List KV),a=I (j:Nat)/\b'=(Ee ids sl kl g).v aX vc vb (.slice q1 q2 q3) aX aX aX aX/\n'=wl.length-j/\j<=wl.length/\ai Xc wc X w/\kl.length<=j/\
   Own w X wc.heap.size 178 4 vb (kl.map KV.l)) wl.length ⟨0,aX,[],rfl,rfl,rfl,ak _,hs,au _,Own.nil _ _ _ _ _⟩ ?_
  clear hs;rintro n' _ _ w X ⟨j,vb,kl,rfl,rfl,rfl,hj,hs,hkj,yT⟩;have apV:=ahw.since hs;rcases dB wl j with⟨hlj,y,hy,hdj⟩|⟨asp,hdj⟩
  ·repeat' first|refine aI ?_;intros|with_reducible apply cK
   refine HS (vI (apU.since hs)) kQ hs.has (λahz w8 X8 lV=>?_) (λahz w8 X8 lV=>?_)
   ·have ahA:=yT.since lV;replace hs:=hs.trans lV;clear yT lV;repeat' first|refine aq ?_;intros|(with_reducible apply QB);(case hX=>exact hs.has);(case he=>kernel_rfl);(case hk=>rfl);intro acc w X aB ho;obtain⟨_,_,_,rfl⟩:=ho.sl.form;replace hs:=hs.trans aB
    refine qK (ahA.since aB) hs s6.has kQ ho.sl (λr jY u hu=>?_) (by simp only[af,bF];omega) (by simp only[af,bF];omega) λv' w' X' tp wj c' dc=>?_
    ·rw[ax] at jY;subst jY;simp only[il,dJ,or_false] at hu;rcases hu with rfl|rfl|rfl|rfl<;>rfl
    clear hs;have hs:=ai.fL tp.has;have ov':=wj.sl.one;repeat' refine aq ?_;intros
    exact fG (wl.length-(j+1)) zQ ⟨j+1,v',kl++[y],by simp,rfl,rfl,by omega,tp,by simp;omega,by rw[aC];exact wj⟩
   ·repeat' refine aq ?_;intros
    exact fG (wl.length-(j+1)) zQ ⟨j+1,vb,kl,by simp,rfl,rfl,by omega,hs.trans lV,by omega,yT.since lV⟩
  repeat' refine aI ?_;intros
  obtain⟨Su,s8,m8,-,n8⟩:=(s6.since hs).yD (N:=λk=>fv vb k\/fv vc k) λk e=>by
   rcases e with e|e
   ·exact⟨yT.2.2 k e,s6.nw (yT.ge e).1⟩
   ·exact⟨hs.sub k (TZ.2.2 k e),apT k e⟩
  replace m8:=Mv.trans (hs.gY (s6.sub 4)) m8;replace lE:=lE.mv m8;replace me:=eY.mv me pd.mv m8;replace Oi:=Oi.mv m8;have hm8:(Ee ids sl kl g).at w (bZ Su 4) aX vc vb (.slice q1 q2 q3) aX aX aX aX:=
   ⟨Sl.nil _ _ _,(xO (TZ.since hs) λk e=>n8 k (.inr e)).sl,(xO yT λk e=>n8 k (.inl e)).sl,Oi,Sl.nil _ _ _,eY.nil _ _ _,eY.nil _ _ _,eY.nil _ _ _⟩
  have hf8:(Ee ids sl kl g).C5:=⟨by simp[Ee,Cg],by show sl.length<=_;omega,by show kl.length<=_;omega,by show ids.length<=_;omega⟩;rw[<-e1.1];refine s8.call (Ol (n:=n1) (b:=b) (m:=Ee ids sl kl g) s8.h s8.x mc hm8 hf8 (by rw[e1.2.1];exact hi) (by rw[e1.2.2.2];omega) (by rw[e1.2.2.1,hD];dsimp only;omega)) kQ λv w9 X9 pQ n9 s9 q9 m9=>?_;obtain⟨vw9,rw9,QC,Xp⟩:=q9;rw[e1.2.2.1,e1.2.1] at Xp;clear hs;repeat' refine aq ?_;intros
  refine E3 (gs.length-(i+1)) zQ ⟨i+1,vw9,rw9,pm++[Ee ids sl kl g],pQ,n9,by simp,rfl,by omega,s9,?_,by rw[QC,e1.2.2.1,hD];dsimp only;omega,lE.mv m9,eY.mv me pd.mv m9,Oi.mv m9,by rw[bW,hx];simp[A6,Ee],λm hm=>by
   rcases List.mem_append.1 hm with e|e
   ·exact nK m e
   ·rw[ax] at e;subst e;exact⟨rfl,rfl,hf8⟩⟩
  have fQ:=ht.set (b:=b) (e:=D vw9 rw9 (pm++[Ee ids sl kl g]));rw[Ax] at fQ;rw[aC];refine fQ.add ?_;rw[hD] at Xp⊢;simp only[aC,List.map_cons,lx];exact Xp
 ·rw[az dC] at A6;rw[hD] at ht;repeat' refine aI ?_;intros
  exact s6.fin λ_ _=>.inr ⟨ids,pm,_,K7,K8,by rw[A5];exact λe=>apR (List.map_eq_nil_iff.1 e),lU,by rw[A6,A5],nK,⟨gk,ac4,λk hk=>(ahx k hk).1,A4,by rw[A5,mO]⟩,by rw[<-hq.2.2] at ht;exact ht⟩
end
end Go.Proofs.YtgfijddlkhkopaaGreat