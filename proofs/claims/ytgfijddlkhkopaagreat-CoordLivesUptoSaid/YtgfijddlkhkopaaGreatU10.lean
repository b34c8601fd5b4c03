/- Part 10 of the proof. -/
import Derived.Shelf.SlIter.Nil
import Derived.Shelf.SlIterI.Nil
import Derived.Shelf.SortM.Plain
import Derived.Shelf.SortM.SortNone
import Derived.Shelf.SlSortCmp.WholeK
import Derived.Ground.GgzProg
import Derived.Ground.SlgmProg
import Derived.Ground.SlsfProg
import Derived.Shelf.SlGeneric
import Derived.Test.YtgfijddlkhkopaaGreatProg
import Derived.WalkKit
import Derived.Shelf.SlIter.Collect
import Derived.Test.YtgfijddlkhkopaaGreatU9
set_option linter.all false
open Go.Value renaming int → ay
open Go.IntKind renaming i64 → bZ
open Go.Op renaming bytesLess → bW
open List renaming length_map → ah, length → ba, mem_singleton → aw, length_singleton → cd, map_append → aD, mem_cons → ic, not_mem_nil → dH, toList_toArray → cN, map_map → bz, nodup_nil → sN, map_nil → kR, length_cons → aK, take_add_one → cj, take_of_length_le → az, filter_cons → eo, eq_nil_of_length_eq_zero → iH, append_assoc → ao
open Go.Operand renaming tmp → kE
open Nat renaming le_refl → au, le_trans → ad, zero_le → aq
open Go.Obj.cells renaming inj → ko
open Go.World renaming putObj_heap_other → fy, alloc_heap_new → jC, cell? → fj, putObj_heap_same → j9
open Go.Proofs renaming ltOf → mI, enters_of → yB
open Go.Fence renaming wide → gh
open Go.Ground renaming data → sO, phase → rB
open Go.Result renaming andThen → xn
open Go.Code renaming wpIn → Dg
open Go.Shelf renaming Ren → iO
open Go.Proofs.SlLaysF0 renaming n6 → wH
open Bool renaming not_eq_true → AK, or_eq_true → oh, and_eq_true → aF
open Go.Oper renaming semAt_plain → AL
open Go.KeepsWalks renaming alloc → AM, putObj → Ak
namespace Go.Proofs
open Go.Proofs.Tryz renaming prog → pg
open Go.Shelf
def Tryz.NJ:iO:=⟨fun|6=>85|15=>143|14=>142|28=>210|29=>211|20=>202|21=>203|22=>204|23=>205|24=>206|25=>207|26=>208|27=>209|46=>282|47=>283|48=>284|49=>285|50=>286|57=>341|n=>n,fun|22=>59|24=>34|25=>118|3=>3|39=>263|0=>0|53=>351|55=>264|4=>4|46=>344|45=>343|50=>348|5=>5|9=>9|66=>411|70=>317|76=>466|77=>467|n=>n,fun|n=>n⟩
theorem Tryz.akj:wH pg Tryz.NJ:= {
 mixed:=by kernel_rfl
 f6:=⟨Tryz.f85.name,by decide,Tryz.func85.trans Go.aL.kS⟩
 f14:=⟨Tryz.f142.name,by decide,Tryz.func142.trans Go.aL.kS⟩
 f15:=Tryz.func143.trans Go.aL.kS
 f20:=⟨Tryz.f202.name,by decide,Tryz.func202.trans Go.aL.kS⟩
 f21:=⟨Tryz.f203.name,by decide,Tryz.func203.trans Go.aL.kS⟩
 f22:=⟨Tryz.f204.name,by decide,Tryz.func204.trans Go.aL.kS⟩
 f23:=⟨Tryz.f205.name,by decide,Tryz.func205.trans Go.aL.kS⟩
 f24:=⟨Tryz.f206.name,by decide,Tryz.func206.trans Go.aL.kS⟩
 f25:=⟨Tryz.f207.name,by decide,Tryz.func207.trans Go.aL.kS⟩
 f26:=⟨Tryz.f208.name,by decide,Tryz.func208.trans Go.aL.kS⟩
 f27:=⟨Tryz.f209.name,by decide,Tryz.func209.trans Go.aL.kS⟩
 f28:=Tryz.func210.trans Go.aL.kS
 f29:=Tryz.func211.trans Go.aL.kS
 f46:=⟨Tryz.f282.name,by decide,Tryz.func282.trans Go.aL.kS⟩
 f47:=Tryz.func283.trans Go.aL.kS
 f48:=Tryz.func284.trans Go.aL.kS
 f49:=⟨Tryz.f285.name,by decide,Tryz.func285.trans Go.aL.kS⟩
 f50:=⟨Tryz.f286.name,by decide,Tryz.func286.trans Go.aL.kS⟩
 f57:=⟨Tryz.f341.name,by decide,Tryz.func341.trans Go.aL.kS⟩
 t0:=Tryz.underlying0
 a0:=Tryz.isAgg0
 z0:=Tryz.sizeOf0
 v0:=Tryz.zeroValue0
 t3:=Tryz.underlying3
 a3:=Tryz.isAgg3
 z3:=Tryz.sizeOf3
 v3:=Tryz.zeroValue3
 t4:=Tryz.underlying4
 a4:=Tryz.isAgg4
 z4:=Tryz.sizeOf4
 v4:=Tryz.zeroValue4
 t5:=Tryz.underlying5
 a5:=Tryz.isAgg5
 z5:=Tryz.sizeOf5
 v5:=Tryz.zeroValue5
 t9:=Tryz.underlying9
 a9:=Tryz.isAgg9
 z9:=Tryz.sizeOf9
 v9:=Tryz.zeroValue9
 t22:=Tryz.underlying59
 a22:=Tryz.isAgg59
 z22:=Tryz.sizeOf59
 v22:=Tryz.zeroValue59
 t25:=Tryz.underlying118
 a25:=Tryz.isAgg118
 z25:=Tryz.sizeOf118
 v25:=Tryz.zeroValue118
 t39:=Tryz.underlying263
 a39:=Tryz.isAgg263
 z39:=Tryz.sizeOf263
 v39:=Tryz.zeroValue263
 t45:=Tryz.underlying343
 a45:=Tryz.isAgg343
 z45:=Tryz.sizeOf343
 v45:=Tryz.zeroValue343
 t46:=Tryz.underlying344
 a46:=Tryz.isAgg344
 z46:=Tryz.sizeOf344
 v46:=Tryz.zeroValue344
 t50:=Tryz.underlying348
 a50:=Tryz.isAgg348
 z50:=Tryz.sizeOf348
 v50:=Tryz.zeroValue348
 t53:=Tryz.underlying351
 a53:=Tryz.isAgg351
 z53:=Tryz.sizeOf351
 v53:=Tryz.zeroValue351
 t55:=Tryz.underlying264
 a55:=Tryz.isAgg264
 z55:=Tryz.sizeOf264
 v55:=Tryz.zeroValue264
 t66:=Tryz.underlying411
 a66:=Tryz.isAgg411
 z66:=Tryz.sizeOf411
 v66:=Tryz.zeroValue411
 t70:=Tryz.underlying317
 a70:=Tryz.isAgg317
 z70:=Tryz.sizeOf317
 v70:=Tryz.zeroValue317
 t76:=Tryz.underlying466
 a76:=Tryz.isAgg466
 z76:=Tryz.sizeOf466
 v76:=Tryz.zeroValue466
 t77:=Tryz.underlying467
 a77:=Tryz.isAgg467
 z77:=Tryz.sizeOf467
 v77:=Tryz.zeroValue467 }
def Tryz.KH:iO:=⟨fun|6=>156|15=>143|14=>227|28=>210|29=>211|20=>297|21=>298|22=>299|23=>300|24=>301|25=>302|26=>303|27=>304|46=>344|47=>283|48=>284|49=>345|50=>346|57=>366|n=>n,fun|22=>41|24=>175|25=>275|3=>3|39=>263|0=>0|53=>351|55=>264|4=>4|46=>344|45=>343|50=>348|5=>5|9=>9|66=>411|70=>317|76=>466|77=>467|n=>n,fun|n=>n⟩
theorem Tryz.ahk:wH pg Tryz.KH:= {
 mixed:=by kernel_rfl
 f6:=⟨Tryz.f156.name,by decide,Tryz.func156.trans Go.aL.kS⟩
 f14:=⟨Tryz.f227.name,by decide,Tryz.func227.trans Go.aL.kS⟩
 f15:=Tryz.func143.trans Go.aL.kS
 f20:=⟨Tryz.f297.name,by decide,Tryz.func297.trans Go.aL.kS⟩
 f21:=⟨Tryz.f298.name,by decide,Tryz.func298.trans Go.aL.kS⟩
 f22:=⟨Tryz.f299.name,by decide,Tryz.func299.trans Go.aL.kS⟩
 f23:=⟨Tryz.f300.name,by decide,Tryz.func300.trans Go.aL.kS⟩
 f24:=⟨Tryz.f301.name,by decide,Tryz.func301.trans Go.aL.kS⟩
 f25:=⟨Tryz.f302.name,by decide,Tryz.func302.trans Go.aL.kS⟩
 f26:=⟨Tryz.f303.name,by decide,Tryz.func303.trans Go.aL.kS⟩
 f27:=⟨Tryz.f304.name,by decide,Tryz.func304.trans Go.aL.kS⟩
 f28:=Tryz.func210.trans Go.aL.kS
 f29:=Tryz.func211.trans Go.aL.kS
 f46:=⟨Tryz.f344.name,by decide,Tryz.func344.trans Go.aL.kS⟩
 f47:=Tryz.func283.trans Go.aL.kS
 f48:=Tryz.func284.trans Go.aL.kS
 f49:=⟨Tryz.f345.name,by decide,Tryz.func345.trans Go.aL.kS⟩
 f50:=⟨Tryz.f346.name,by decide,Tryz.func346.trans Go.aL.kS⟩
 f57:=⟨Tryz.f366.name,by decide,Tryz.func366.trans Go.aL.kS⟩
 t0:=Tryz.underlying0
 a0:=Tryz.isAgg0
 z0:=Tryz.sizeOf0
 v0:=Tryz.zeroValue0
 t3:=Tryz.underlying3
 a3:=Tryz.isAgg3
 z3:=Tryz.sizeOf3
 v3:=Tryz.zeroValue3
 t4:=Tryz.underlying4
 a4:=Tryz.isAgg4
 z4:=Tryz.sizeOf4
 v4:=Tryz.zeroValue4
 t5:=Tryz.underlying5
 a5:=Tryz.isAgg5
 z5:=Tryz.sizeOf5
 v5:=Tryz.zeroValue5
 t9:=Tryz.underlying9
 a9:=Tryz.isAgg9
 z9:=Tryz.sizeOf9
 v9:=Tryz.zeroValue9
 t22:=Tryz.underlying41
 a22:=Tryz.isAgg41
 z22:=Tryz.sizeOf41
 v22:=Tryz.zeroValue41
 t25:=Tryz.underlying275
 a25:=Tryz.isAgg275
 z25:=Tryz.sizeOf275
 v25:=Tryz.zeroValue275
 t39:=Tryz.underlying263
 a39:=Tryz.isAgg263
 z39:=Tryz.sizeOf263
 v39:=Tryz.zeroValue263
 t45:=Tryz.underlying343
 a45:=Tryz.isAgg343
 z45:=Tryz.sizeOf343
 v45:=Tryz.zeroValue343
 t46:=Tryz.underlying344
 a46:=Tryz.isAgg344
 z46:=Tryz.sizeOf344
 v46:=Tryz.zeroValue344
 t50:=Tryz.underlying348
 a50:=Tryz.isAgg348
 z50:=Tryz.sizeOf348
 v50:=Tryz.zeroValue348
 t53:=Tryz.underlying351
 a53:=Tryz.isAgg351
 z53:=Tryz.sizeOf351
 v53:=Tryz.zeroValue351
 t55:=Tryz.underlying264
 a55:=Tryz.isAgg264
 z55:=Tryz.sizeOf264
 v55:=Tryz.zeroValue264
 t66:=Tryz.underlying411
 a66:=Tryz.isAgg411
 z66:=Tryz.sizeOf411
 v66:=Tryz.zeroValue411
 t70:=Tryz.underlying317
 a70:=Tryz.isAgg317
 z70:=Tryz.sizeOf317
 v70:=Tryz.zeroValue317
 t76:=Tryz.underlying466
 a76:=Tryz.isAgg466
 z76:=Tryz.sizeOf466
 v76:=Tryz.zeroValue466
 t77:=Tryz.underlying467
 a77:=Tryz.isAgg467
 z77:=Tryz.sizeOf467
 v77:=Tryz.zeroValue467 }
end Go.Proofs
namespace Go.Proofs.YtgfijddlkhkopaaGreat
open Go.Proofs.Tryz renaming prog → pg
open Go.aL Go.RowKit Go.Sort
set_option maxRecDepth 100000
set_option maxHeartbeats 4000000
theorem acD (a b:bE) (W:World):Calls pg 42 #[a.v,b.v] W λe w'=>e= .returned (.bool (a.less b))/\acE W w':=by
 go_enter Tryz.func42,Tryz.ntmps42
 go_wp2
 all_goals go_ret
 all_goals refine⟨?_,_,by rw[alloc_eq_grow,alloc_eq_grow,grow_grow]⟩
 all_goals simp_all [bE.less]
theorem acF (a b:bE) (W:World):Calls pg 41 #[a.v,b.v] W
  λe w'=>e= .returned (I (if a.less b then-1 else 1))/\acE W w':=by
 have ahl:=acD a b;change∀W',Calls pg 42 #[.agg #[I a.ep,I a.aR,I a.sq],.agg #[I b.ep,I b.aR,I b.sq]] W' _ at ahl;generalize a.less b=r at ahl⊢
 go_enter Tryz.func41,Tryz.ntmps41
 go_wp2_with (go_at_call 42;refine(ahl _).mono ?_;rintro e w' ⟨rfl,os,rfl⟩)
 all_goals go_ret
 all_goals refine⟨?_,_,by rw[alloc_eq_grow,alloc_eq_grow,grow_grow,grow_grow]⟩
 all_goals rfl
variable {a b : bE}
theorem bE.OP:a.less b=true↔a.ep<b.ep\/a.ep=b.ep/\(a.aR<b.aR\/a.aR=b.aR/\a.sq<b.sq):=by
 unfold bE.less;split
 ·simp;omega
 ·split
  ·simp;omega
  grind
theorem bE.aaG (a:bE):a.less a=false:=by
 rw[<-AK,bE.OP];omega
variable {c : bE}
theorem bE.acG (h1:a.less b=true) (h2:b.less c=true):a.less c=true:=by
 rw[bE.OP] at*;omega
theorem bE.aaH (h1:a.less b=false) (h2:b.less c=false):a.less c=false:=by
 rw[<-AK,bE.OP] at*;omega
instance:Inhabited bE:=⟨⟨0,0,0⟩⟩
instance:Inhabited fb:=⟨⟨⟨#[]⟩,.zero,.zero⟩⟩
def acH (x y:bE):Int:=if x.less y then-1 else 1
theorem Wa (x y:bE):mI acH x y=x.less y:=by grind [mI,acH]
theorem alK:Go.Sort.SWO (mI acH) where
 irrefl x:=by rw[Wa];exact bE.aaG _
 trans x y z:=by grind [Wa,bE.acG]
 ntrans x y z:=by grind [Wa,bE.aaH]
variable {v : Value} {lo : Nat} {X : XS} {w : World}
theorem aaI {xs:List bE} (own:Own w X lo 34 3 v (xs.map bE.l)) (hb:xs.length<2^61):
  Ct pg 85 #[v,.func (.func 41) #[] #[]] w X (eT v) λr _ w'=>r= .tuple #[]/\ ∃ys:List bE,ys.Perm xs/\ys.Pairwise (λa b=>b.less a=false)/\Own w' (eT v) lo 34 3 v (ys.map bE.l):=by
 have h:=abL (P:=pg) (ρ:=Tryz.NJ) Tryz.akj (k:=3) zQ Tryz.isAgg34 Tryz.sizeOf34 (enc:=bE.l) (λ_=>rfl)
  (λx u hu=>by simp only[bE.l,ic,dH,or_false] at hu;rcases hu with h|h|h<;>subst h<;>rfl) (cf:=acH) alK (g:=41)
  (yB Tryz.func41 kQ rfl) (λx y W=>acF x y W) own hb
 simp only[Wa] at h;exact h
theorem Qc: ∀l:List UInt8,bW l l=false
 |[]=>rfl
 |a::l=>by simp[bW,Qc l,UInt8.lt_irrefl]
theorem TU: ∀{a b:List UInt8},bW a b=false->a≠b->bW b a=true
 |[],[],_,h=>absurd rfl h
 |_::_,[],_,_=>by rfl
 |[],_::_,h,_=>by simp[bW] at h
 |a::l,b::m,h,ct=>by
  simp only[bW,oh,aF,decide_eq_true_eq,beq_iff_eq,Bool.or_eq_false_iff,Bool.and_eq_false_iff,decide_eq_false_iff_not] at h⊢;obtain⟨h1,h2⟩:=h;by_cases wI:a=b
  ·subst wI;right;refine⟨rfl,TU ?_ λe=>ct (by rw[e])⟩
   grind
  grind
theorem KI: ∀{a b c:List UInt8},bW a b=true->bW b c=true->bW a c=true
 |[],[],_,h,_=>by simp[bW] at h
 |[],_::_,[],_,h=>by simp[bW] at h
 |[],_::_,_::_,_,_=>by simp[bW]
 |_::_,[],_,h,_=>by simp[bW] at h
 |_::_,_::_,[],_,h=>by simp[bW] at h
 |a::l,b::m,c::r,h1,h2=>by
  simp only[bW,oh,aF,decide_eq_true_eq,beq_iff_eq] at h1 h2⊢;rcases h1 with h1|⟨rfl,h1⟩
  ·rcases h2 with h2|⟨rfl,h2⟩
   ·exact .inl (UInt8.lt_trans h1 h2)
   ·exact .inl h1
  ·rcases h2 with h2|⟨rfl,h2⟩
   ·exact .inl h2
   ·exact .inr ⟨rfl,KI h1 h2⟩
theorem aaJ (a b:fb) (W:World):Calls pg 157 #[.agg a.l.toArray,.agg b.l.toArray] W
  λe w'=>e= .returned (I (if bW a.key.toList b.key.toList then-1 else 1))/\acE W w':=by
 change Calls pg _ #[.agg #[.string a.key,I a.val.kind,.float .f64 a.val.num,.string a.val.text,I a.aV.wall,I a.aV.dy,I a.aV.node],.agg #[.string b.key,I b.val.kind,.float .f64 b.val.num,.string b.val.text,I b.aV.wall,I b.aV.dy,I b.aV.node]] W _
 go_enter Tryz.func157,Tryz.ntmps157
 go_wp2
 all_goals go_ret
 all_goals refine⟨?_,_,by rw[alloc_eq_grow,alloc_eq_grow,grow_grow]⟩
 all_goals simp_all
def acI (x y:fb):Int:=if bW x.key.toList y.key.toList then-1 else 1
theorem acJ (x y:fb):mI acI x y=bW x.key.toList y.key.toList:=by grind [mI,acI]
theorem acK {a b c:List UInt8} (h1:bW a b=false) (h2:bW b c=false):bW a c=false:=by grind [TU,KI]
theorem alL:Go.Sort.SWO (mI acI) where
 irrefl x:=by rw[acJ];exact Qc _
 trans x y z:=by grind [acJ,KI]
 ntrans x y z:=by grind [acJ,acK]
theorem aaK {xs:List fb} (own:Own w X lo 175 7 v (xs.map fb.l)) (hb:xs.length<2^61):
  Ct pg 156 #[v,.func (.func 157) #[] #[]] w X (eT v) λr _ w'=>r= .tuple #[]/\ ∃ys:List fb,ys.Perm xs/\Own w' (eT v) lo 175 7 v (ys.map fb.l):=by
 have h:=abL (P:=pg) (ρ:=Tryz.KH) Tryz.ahk (k:=7) zQ Tryz.isAgg175 Tryz.sizeOf175 (enc:=fb.l) (λ_=>rfl)
  (λx u hu=>by simp only[fb.l,ic,dH,or_false] at hu;rcases hu with h|h|h|h|h|h|h<;>subst h<;>rfl) (cf:=acI) alL (g:=157)
  (yB Tryz.func157 kQ rfl) (λx y W=>aaJ x y W) own hb
 exact h.mono λ_ _ _ _ ⟨q1,ys,q2,_,q3⟩=>⟨q1,ys,q2,q3⟩
open Go.Maps Go.Shelf Go.ChangeMaps
abbrev Hq:Nat:=86
abbrev W8:Nat:=104
abbrev tT:Nat:=34
structure GD (w:World) (b:Nat) (es:List (jr bE)) (c:Nat):Prop where
 gI:w.heap[b]? =some (.map (es.map (lB λk:bE=>k.v)).toArray c)
 nd:(es.map (·.2.2)).Nodup
 lt: ∀x∈es,x.2.2<c
def tJ (es:List (jr bE)) (seen:Array Nat):List (jr bE):=es.filter λx=>!seen.contains x.2.2
theorem OQ (es:List (jr bE)) (seen:Array Nat):(leftOf (es.map (lB λk:bE=>k.v)).toArray seen).toList=(tJ es seen).map (lB λk:bE=>k.v):=by
 simp only[leftOf,tJ,Array.toList_filter,cN,List.filter_map];rfl
variable {seen : Array Nat} {es : List (jr bE)}
theorem Qd (hn:(es.map (·.2.2)).Nodup) {x:jr bE} (hx:x∈tJ es seen):((x::tJ es (seen.push x.2.2)).Perm (tJ es seen)):=by
 have lT:=List.mem_filter.1 hx;have e:tJ es (seen.push x.2.2)=(tJ es seen).filter λy=>decide (y.2.2≠x.2.2):=by
  unfold tJ;rw[List.filter_filter]
  congr 1
  funext y
  by_cases hy:y.2.2=x.2.2<;>simp_all
 rw[e];have mj:((tJ es seen).map (·.2.2)).Nodup:=hn.sublist (List.Sublist.map _ List.filter_sublist);generalize tJ es seen=l at hx mj
 induction l with
 |nil=>cases hx
 |cons y l ih=>
  have h1:=List.nodup_cons.1 mj;rcases List.mem_cons.1 hx with rfl|AN
  ·rw[eo,if_neg sQ];have:l.filter (λy=>decide (y.2.2≠x.2.2))=l:=List.filter_eq_self.2 λz hz=>by
    have:z.2.2≠x.2.2:=λe=>h1.1 (List.mem_map.2 ⟨z,hz,e⟩)
    grind
   rw[this]
  ·have ct:y.2.2≠x.2.2:=λe=>h1.1 (List.mem_map.2 ⟨x,AN,e.symm⟩);rw[eo,if_pos gQ];exact(List.Perm.swap _ _ _).trans ((ih AN h1.2).cons _)
theorem afm (w:World) (r:Nat) (o:Obj):w.grownBy (setBlock w r o) (some r)/\(setBlock w r o).heap.size=w.heap.size:=
 ⟨⟨rfl,rfl,rfl,by simp[setBlock],λk hk ct=>by
  have:r≠k:=λe=>ct (by rw[e]);simp[setBlock,Array.getElem?_setIfInBounds,this]⟩,by simp[setBlock]⟩
variable {r : Nat}
section
variable {F : Fence} {n : Nat} {ops : Array Oper} {Q : Exit -> Act -> World -> Prop} {o : Oper} {rest : List Oper} {a : Act} {b c : Nat}
theorem OR (hg:o.guard=none) (m:Operand) (wG:o.op=Op.range W8 m) (hm:a.eval m= .map (some b)) (h:GD w b es c)
  (hK:wpListIn F n pg ops Q rest (a.put o.dst (ptr w.heap.size 0)) (w.alloc (.mapIter (some b) c #[] c))):wpListIn F n pg ops Q (o::rest) a w:=by
 refine wpListIn_plain hg λK' hK'=>?_;have nQ:=run_range_map (P:=pg) w W8 tT 116 b _ c kQ h.gI;unfold Oper.wpIn;refine⟨by simp[Oper.about,wG],?_⟩;rw[AL F _ _ (by rw[wG];intro c Cy;cases Cy)];simp[execOp,wG,hm,nQ,xn];exact hK' _ _ hK
theorem Qe (hg:o.guard=none) (it:Operand) (wG:o.op=Op.next it false) (seen:Array Nat) (NK:a.eval it= .pointer (some ⟨r,0,none⟩)) (hb:GD w b es c) (NL:r≠b) (hr:w.heap[r]? =some (.mapIter (some b) c seen c))
  (aoy:tJ es seen=[]->wpListIn F n pg ops Q rest (a.put o.dst (.tuple #[.bool false])) w)
  (aoz: ∀x∈tJ es seen,∀w',w.grownBy w' (some r)->w'.heap.size=w.heap.size->w'.heap[r]? =some (.mapIter (some b) c (seen.push x.2.2) c)->
   (Instr.entry (.pointer (some ⟨r,0,none⟩))).run pg w'= .ok (.tuple #[x.1.v,x.2.1]) w'->wpListIn F n pg ops Q rest (a.put o.dst (.tuple #[.bool true,x.1.v,x.2.1])) w'):
  wpListIn F n pg ops Q (o::rest) a w:=by
 refine wpListIn_plain hg λK' hK'=>?_;unfold Oper.wpIn;refine⟨by simp[Oper.about,wG],?_⟩;rw[AL F _ _ (by rw[wG];intro c Cy;cases Cy)];have hold: ∀x∈((es.map (lB λk:bE=>k.v)).toArray).toList,x.born<c:=by
  intro x hx;simp only[cN,List.mem_map] at hx;obtain⟨y,hy,rfl⟩:=hx;exact hb.lt y hy
 rcases run_next_at (P:=pg) w o.type r b c c seen _ c hr hb.gI hold (au _)with⟨hz,nQ⟩|⟨e,he,w1,Eu,nQ⟩
 ·simp[execOp,wG,NK,nQ,xn];refine hK' _ _ (aoy ?_);have:(tJ es seen).map (lB λk:bE=>k.v)=[]:=by rw[<-OQ];exact iH (by simpa using hz)
  simpa using this
 ·rw[OQ] at he;obtain⟨x,hx,rfl⟩:=List.mem_map.1 he;simp[execOp,wG,NK,nQ,xn];have qh:r<w.heap.size:=(Array.getElem?_eq_some_iff.1 hr).1;obtain⟨hw,gd⟩:w.grownBy (setBlock w1 r (.mapIter (some b) c (seen.push x.2.2) c)) (some r)/\(setBlock w1 r (.mapIter (some b) c (seen.push x.2.2) c)).heap.size=w.heap.size:=by
   have h1:=afm w1 r (.mapIter (some b) c (seen.push x.2.2) c);rcases Eu with e|e
   ·rw[e] at h1⊢;exact h1
   ·rw[e] at h1⊢;exact⟨⟨h1.1.os,h1.1.tape,h1.1.output,h1.1.size,h1.1.block⟩,h1.2⟩
  have jS:(setBlock w1 r (.mapIter (some b) c (seen.push x.2.2) c)).heap[r]? =some (.mapIter (some b) c (seen.push x.2.2) c):=KJ (by rcases Eu with rfl|rfl<;>exact qh);refine hK' _ _ (aoz x hx _ hw gd jS ?_);have dT:=(hw.block b (Array.getElem?_eq_some_iff.1 hb.gI).1 (λe=>NL (by cases e;rfl))).trans hb.gI;exact run_entry_at (P:=pg) _ r b c seen (es.map (lB λk:bE=>k.v)).toArray c (lB (λk:bE=>k.v) x) jS dT (by rw[cN];exact List.mem_map.2 ⟨x,(List.mem_filter.1 hx).1,rfl⟩)
   (by rw[cN,bz];exact hb.nd)
theorem NM {b c:Nat} (hb:GD w b es c) (hr:w.heap[r]? =some (.mapIter (some b) c seen c)):w.rangeLeft b r=(tJ es seen).length:=by
 unfold World.rangeLeft;rw[hb.gI,hr];have h1:=congrArg ba (OQ es seen)
 grind
theorem aaL {Bm:Nat} (hBm:Bm<w.heap.size) (hm:w.cell? ⟨Bm,0,none⟩=some (.map (some b))) (h:GD w b es c):
  SeqGives gh 5 pg Hq #[.pointer (some ⟨Bm,0,none⟩)] (λt:bE=>t.v) (λts=>ts.Perm (es.map (·.1))) es.length w:=λl J W hW hJ hY h0=>by
 have hT:GD W b es c:=⟨(hW.block b (Array.getElem?_eq_some_iff.1 h.gI).1).trans h.gI,h.nd,h.lt⟩;have TV:=(hW.cell (p:=⟨Bm,0,none⟩) hBm).trans hm;refine callsIn_of_wp (f:=Hq) (fn:=Tryz.f86) kQ rfl trivial ?_ rfl;rw[Tryz.ntmps86];change Dg _ _ _ _ _ ⟨#[.func (.yield l) #[] #[],.pointer (some ⟨Bm,0,none⟩),undef,undef,undef,undef,undef,undef,undef,undef,undef,undef,undef,undef],[]⟩ W
 gi_wp2_with (first
  |(gi_at_range;refine OR rfl _ rfl rfl hT ?_)
  |gi_in)
 have Jm:=(Array.getElem?_eq_some_iff.1 hT.gI).1;have Ev:W.grownBy (W.alloc (.mapIter (some b) c #[] c)) none:=⟨rfl,rfl,rfl,by simp,λk hk _=>Below.heap_alloc _ _ k hk⟩;have FK:(W.alloc (.mapIter (some b) c #[] c)).heap[W.heap.size]? =some (.mapIter (some b) c #[] c):=jC _ _
 gi_loopw [3] (λ_ wr=> ∃(seen:Array Nat) (ts:List bE),GD wr b es c/\wr.heap[W.heap.size]? =some (.mapIter (some b) c seen c)/\(ts++(tJ es seen).map (·.1)).Perm (es.map (·.1))/\J ts wr)
  (λ_ wr=>wr.rangeLeft b W.heap.size)
 case atStart=>
  refine⟨#[],[],⟨(Ev.block b Jm sQ).trans hT.gI,h.nd,h.lt⟩,FK,?_,hJ [] W _ none h0 Ev (λr e=>by cases e)⟩;have:tJ es #[]=es:=List.filter_eq_self.2 sQ;rw[this];rfl
 case round=>
  obtain⟨seen,ts,hb,hr,hp,hJs⟩:=hrel
  gi_wp2_with (first
   |(gi_at_next;refine Qe rfl _ rfl seen rfl hb zQ hr ?_ ?_)
   |gi_in)
  ·intro hl0
   gi_wp2
   go_end0
   exact⟨⟨_,rfl⟩,ts,by rw[hl0] at hp;simpa using hp,hJs⟩
  ·intro x v0 bn hx w2 xp bB jD By;have hJ2:J ts w2:=hJ ts wr w2 (some W.heap.size) hJs xp (λr e=>by cases e;exact⟨au _,_,hr,rfl⟩);have wJ:GD w2 b es c:=⟨(xp.block b (Array.getElem?_eq_some_iff.1 hb.gI).1 (λe=>by cases e;omega)).trans hb.gI,hb.nd,hb.lt⟩;have hlen:ts.length<es.length:=by
    have h1:=hp.length_eq;have h2:=List.length_pos_of_mem hx;simp only[List.length_append,ah] at h1;omega
   have hJ3:J ts (w2.alloc (.cells #[ay bZ x.ep,ay bZ x.aR,ay bZ x.sq] 34)):=hJ ts w2 _ none hJ2 ⟨rfl,rfl,rfl,by simp,λk hk _=>Below.heap_alloc _ _ k hk⟩ (λr e=>by cases e);obtain⟨fn,tmps,assign,body,hy,hR⟩:=hY ts x _ hJ3 hlen;change (Instr.yield l #[Value.agg #[ay bZ x.ep,ay bZ x.aR,ay bZ x.sq]]).run pg _=_ at hy;have rC:GD (w2.alloc (.cells #[ay bZ x.ep,ay bZ x.aR,ay bZ x.sq] 34)) b es c:=⟨(Below.heap_alloc _ _ b (Array.getElem?_eq_some_iff.1 wJ.gI).1).trans wJ.gI,hb.nd,hb.lt⟩;have DD:(w2.alloc (.cells #[ay bZ x.ep,ay bZ x.aR,ay bZ x.sq] 34)).heap[W.heap.size]? =some (.mapIter (some b) c (seen.push bn) c):=(Below.heap_alloc _ _ _ (Array.getElem?_eq_some_iff.1 jD).1).trans jD;clear bB
   gi_wp2
   refine hR.mono ?_;rintro e W3 ⟨rfl,hJ4,NN⟩;have yC:GD W3 b es c:=⟨NN.same b _ rC.gI rfl,hb.nd,hb.lt⟩;have zd:=NN.same _ _ DD rfl
   gi_wp2
   go_roundw
   case rel=>
    refine⟨seen.push bn,ts++[x],yC,zd,?_,hJ4⟩;have hq:=(Qd h.nd hx).map (·.1);refine List.Perm.trans ?_ hp;rw[ao];exact(List.Perm.append_left ts hq)
   case measure=>
    rw[NM yC zd,NM hb hr];have:=(Qd h.nd hx).length_eq;simp only[aK] at this;omega
end
abbrev CA:Nat:=59
abbrev T3 (t:bE):List Value:=[ay bZ t.ep,ay bZ t.aR,ay bZ t.sq]
def KK:Code:=(Code.region 2 #[{ dst:=some 5,op:=Op.alloc tT,type:=0,pos:= "iter.go:51",after:= #[],guard:=none },{ dst:=none,op:=Op.store tT (kE 5) (kE 7),type:=0,pos:= "iter.go:51",after:= #[{ on:=0,ground:=sO },{ on:=0,ground:=rB }],guard:=none }] false)
def Sj:Code:=(Code.block 1 (Code.region 3 #[{ dst:=some 8,op:=Op.load CA (kE 2),type:=CA,pos:= "iter.go:52",after:= #[],guard:=none },{ dst:=some 9,op:=Op.load tT (kE 5),type:=tT,pos:= "iter.go:52",after:= #[],guard:=none },{ dst:=some 10,op:=Op.buildSlice CA 1 #[(0,kE 9)],type:=CA,pos:= "iter.go:52",after:= #[{ on:=1,ground:=sO }],guard:=none },{ dst:=some 11,op:=Op.call { callee:=Callee.builtin Builtin.append,args:= #[kE 8,kE 10],argTypes:= #[CA,CA] },type:=CA,pos:= "iter.go:52",after:= #[{ on:=0,ground:=sO },{ on:=2,ground:=sO }],guard:=none },{ dst:=none,op:=Op.store CA (kE 2) (kE 11),type:=0,pos:= "iter.go:52",after:= #[{ on:=3,ground:=sO },{ on:=3,ground:=Ground.chain },{ on:=0,ground:=rB },{ on:=1,ground:=rB },{ on:=2,ground:=rB },{ on:=3,ground:=rB }],guard:=none }] false))
def xq (fn:FuncId) (sv:Value) (Bs D:Nat) (st:LoopState) (gY:Option Code):Loop:=
 { state:=st,pending:=gY,fn,tmps:= #[.slice none 0 0,sv,.pointer (some ⟨Bs,0,none⟩),undef,.slice none 0 0,undef,sv,undef,undef,undef,undef,undef,undef],params:= #[7],assign:=KK,body:=Sj,defers:=D }
structure ApT (w0:World) (fn:FuncId) (sv:Value) (Bs l D:Nat) (ts:List bE) (W:World):Prop where
 box: ∃v,W.heap[Bs]? =some (.cells #[v] CA (0,0))/\W.ownsRow w0.heap.size tT 3 v ts.length (ts.map T3).flatten
 L:W.heap[l]? =some (.loop (xq fn sv Bs D .ready none))
 K:W.heap[D]? =some (.deferred (some []))
 below:Below w0.heap.size w0 W
theorem acM (w0:World) (fn:FuncId) (sv:Value) (Bs l D B:Nat) (hB:w0.heap.size<=B):AbidesFrom B (ApT w0 fn sv Bs l D):=λs W W' row h hg bw=>by
 have DS: ∀r,row=some r-> ∃o:Obj,W.heap[r]? =some o/\o.isWalk=true:=λr e=>(bw r e).2;obtain⟨v,hv,hr⟩:=h.box;exact⟨⟨v,(grownBy_keeps hg DS hv rfl).trans hv,ownsRow_abides_a hr hg DS⟩,(grownBy_keeps hg DS h.L rfl).trans h.L,(grownBy_keeps hg DS h.K rfl).trans h.K,
  h.below.grown hg h.below.size (λk e=>ad hB (bw k e).1)⟩
theorem afn (w:World) (xs:List Value) (t:TypeId): ∀(j:Nat) u,xs[j]? =some u->(w.alloc (.cells xs.toArray t)).cell? ((⟨w.heap.size,0,none⟩:Addr).add j)=some u:=by
 intro j u hj;rw[Addr.add_lit];simp only[fj,jC];simpa using hj
theorem ahm (m:Nat) (w0:World) (fn:FuncId) (sv:Value) (Bs l D:Nat) (hBl:Bs≠l) (hDl:D≠l) (hDB:D≠Bs) (h0B:w0.heap.size<=Bs) (h0l:w0.heap.size<=l)
    (N:Nat) (hN:N<=2^40) (ts:List bE) (x:bE) (W:World) (h:ApT w0 fn sv Bs l D ts W) (hlen:ts.length<N):
    YieldAt gh m pg l #[x.v] W λe W'=>e= .returned (.bool true)/\ApT w0 fn sv Bs l D (ts++[x]) W'/\KeepsWalks W W':=by
  have ct:CA≠tT:=by decide
  obtain⟨i0,hi,KL,Qf,Jn⟩:=info_parts (P:=pg) (e:=tT) (z:=(⟨0,0,0⟩:bE).v) (size:=3) (bytes:=24) kQ;obtain⟨v,hv,bw⟩:=h.box;refine⟨fn,#[.slice none 0 0,sv,.pointer (some ⟨Bs,0,none⟩),undef,.slice none 0 0,undef,sv,x.v,undef,undef,undef,undef,undef],KK,Sj,by simpa [xq] using run_yield (P:=pg) (args:= #[x.v]) h.L rfl,roundIn_of_wpIn trivial ?_⟩;have hlW:l<W.heap.size:=(Array.getElem?_eq_some_iff.1 h.L).1;have hBW:Bs<W.heap.size:=(Array.getElem?_eq_some_iff.1 hv).1;have hDW:D<W.heap.size:=(Array.getElem?_eq_some_iff.1 h.K).1;obtain⟨WA,hWA⟩: ∃WA,W.alloc (.cells #[ay bZ x.ep,ay bZ x.aR,ay bZ x.sq] tT)=WA:=⟨_,rfl⟩;have acN: ∀k,k<W.heap.size->WA.heap[k]? =W.heap[k]? :=λk hk=>by rw[<-hWA];exact Below.heap_alloc _ _ k hk
  have hvA:=(acN Bs hBW).trans hv;have hLA:=(acN l hlW).trans h.L;have hKA:=(acN D hDW).trans h.K;have hxA:WA.heap[W.heap.size]? =some (.cells #[ay bZ x.ep,ay bZ x.aR,ay bZ x.sq] tT (0,0)):=by rw[<-hWA];exact jC _ _
  have hkA:KeepsWalks W WA:=by rw[<-hWA];exact AM _ _
  have TW:Below w0.heap.size w0 WA:=by rw[<-hWA];exact h.below.alloc h.below.size _
  have ajA:WA.ownsRow w0.heap.size tT 3 v ts.length (ts.map T3).flatten:=by rw[<-hWA];exact bw.alloc _
  have asy:WA.heap.size=W.heap.size+1:=by rw[<-hWA];simp
  have hbr:=run_beginRound (P:=pg) hLA rfl;obtain⟨W2,TX⟩: ∃W2,WA.putObj l (.loop { xq fn sv Bs D .ready none with state:=.busy })=W2:=⟨_,rfl⟩;rw[TX] at hbr;have xp:WA.grownBy W2 (some l):=by rw[<-TX];exact grownBy_putObj_a _ _ _
  have Jo:KeepsWalks W W2:=hkA.trans (by rw[<-TX];exact Ak _ hLA rfl);have rD:W2.heap[Bs]? =some (.cells #[v] CA (0,0)):=by rw[<-TX];exact(fy hBl).trans hvA
  have hK2:W2.heap[D]? =some (.deferred (some [])):=by rw[<-TX];exact(fy hDl).trans hKA
  have hL2:W2.heap[l]? =some (.loop { xq fn sv Bs D .ready none with state:=.busy }):=by rw[<-TX];exact j9 zQ
  have W9:W2.heap[W.heap.size]? =some (.cells #[ay bZ x.ep,ay bZ x.aR,ay bZ x.sq] tT (0,0)):=by rw[<-TX];exact(fy zQ).trans hxA
  have DT:W2.ownsRow w0.heap.size tT 3 v ts.length (ts.map T3).flatten:=ajA.kept xp (ownsRow_ne_a ajA hLA (λcur e=>by first|cases e|exact ct (ko e).2.1));have wJ:Below w0.heap.size w0 W2:=TW.grown xp TW.size (λk e=>by cases e;exact h0l);have asz:W2.cell? ⟨W.heap.size,0,none⟩=some (ay bZ x.ep):=by simp[fj,W9]
  have asA:W2.cell? ⟨W.heap.size,1,none⟩=some (ay bZ x.aR):=by simp[fj,W9]
  have asB:W2.cell? ⟨W.heap.size,2,none⟩=some (ay bZ x.sq):=by simp[fj,W9]
  obtain⟨qi,Xa⟩:=cell_of_box_a rD;have ap3:Bs<W2.heap.size:=(Array.getElem?_eq_some_iff.1 rD).1;have xt:l<W2.heap.size:=(Array.getElem?_eq_some_iff.1 hL2).1;have ap4:D<W2.heap.size:=(Array.getElem?_eq_some_iff.1 hK2).1;have acO: ∀{j:Nat} {o:Obj},W2.heap[j]? =some o->(∀cur,o≠ .cells cur tT (0,0))->some j≠v.ownBlock:=λhj qg=>by
    rcases ownsRow_ne_a DT hj qg with e|e
    · rw[e];simp
    · exact λe'=>e e'.symm
  clear TX;unfold KK
  gi_wp2_with gi_round_op_a
  unfold Sj;have Ho:(2:Nat)^40<=maxLen:=by decide
  gi_wp2_with (first
    | (gi_at_builtin; refine wpListIn_append_own _ rfl _ _ CA rfl w0.heap.size tT i0 (⟨0, 0, 0⟩ : bE).v 3 24 kQ hi KL Qf Jn rfl dQ _ _ _ rfl (DT.alloc _) ⟨W2.heap.size, 0, none⟩ 1 1 (T3 x) rfl rfl (afn _ _ _) (by simp[Value.oneCell', T3]) zQ zQ (by have := wJ.size; simp; omega) ?_; intro v' w3 acP Xb asm
       have Hr:w3.heap[Bs]? =some (.cells #[v] CA (0,0)):=(Xb.block Bs oQ (acO rD (λcur e=>by first|cases e|exact ct (ko e).2.1))).trans ((Below.heap_alloc _ _ Bs ap3).trans rD);obtain⟨uD,hf3⟩:=cell_of_box_a Hr;obtain⟨g',OS,acQ,rfl,asl,asC,qU,jD,DD,zd⟩: ∃g' OS acQ,v'= .slice (some ⟨g',0,none⟩) (ts.length+1) OS/\w0.heap.size<=g'/\w3.heap[g']? =some (.cells acQ tT (0,0))/\ts.length+1<=OS/\OS<=maxLen/\acQ.size=OS*3/\acQ.toList.take ((ts.length+1)*3)=(ts.map T3).flatten++T3 x:=by
         rcases acP.2 with⟨_,h0⟩|h'
         · exact absurd h0 zQ
         · exact h'
       go_frame)
    |gi_round_op_a)
  have acS:(W2.alloc (.cells #[ay bZ x.ep,ay bZ x.aR,ay bZ x.sq] tT)).grownBy w3 v.ownBlock:=Xb;have hL3:w3.heap[l]? =some (.loop { xq fn sv Bs D .ready none with state:=.busy }):=(acS.block l oQ (acO hL2 (λcur e=>by first|cases e|exact ct (ko e).2.1))).trans ((Below.heap_alloc _ _ l xt).trans hL2);have hK3:w3.heap[D]? =some (.deferred (some [])):=(acS.block D oQ (acO hK2 (λcur e=>by first|cases e|exact ct (ko e).2.1))).trans ((Below.heap_alloc _ _ D ap4).trans hK2);obtain⟨w4,FM⟩: ∃w4,w3.setCell ⟨Bs,0,none⟩ (.slice (some ⟨g',0,none⟩) (ts.length+1) OS)=w4:=⟨_,rfl⟩;rw[FM];have hg4:w3.grownBy w4 (some Bs):=by rw[<-FM];exact grownBy_setCell0_a _ _ _
  have hv4:w4.heap[Bs]? =some (.cells #[.slice (some ⟨g',0,none⟩) (ts.length+1) OS] CA (0,0)):=by rw[<-FM];exact heap_setCell_box_a _ Hr
  have Xd:w4.heap[l]? =some (.loop { xq fn sv Bs D .ready none with state:=.busy }):=(hg4.block l (Array.getElem?_eq_some_iff.1 hL3).1 (λe=>hBl (by cases e;rfl))).trans hL3;have hK4:w4.heap[D]? =some (.deferred (some [])):=(hg4.block D (Array.getElem?_eq_some_iff.1 hK3).1 (λe=>hDB (by cases e;rfl))).trans hK3;have Cm:=acP.kept hg4 (ownsRow_ne_a acP Hr (λcur e=>by first|cases e|exact ct (ko e).2.1));have Qg:l<w4.heap.size:=(Array.getElem?_eq_some_iff.1 Xd).1;have rC:Below w0.heap.size w0 w3:=(wJ.alloc wJ.size _).grown acS (by have:=wJ.size;simp;omega) (λk e=>(DT.lt k e).1);have yC:Below w0.heap.size w0 w4:=rC.grown hg4 rC.size (λk e=>by cases e;exact h0B);have NN:KeepsWalks W w4:=((Jo.trans (AM _ _)).trans (KeepsWalks.of_grownBy acS (ownsRow_not_walk_a (DT.alloc _)))).trans (by rw[<-FM];exact KeepsWalks.setCell _ _ _);clear FM;refine⟨_,_,run_endRound none Xd,rfl,⟨⟨_,(fy hBl).trans hv4,?_⟩,j9 Qg,(fy hDl).trans hK4,yC.grown (grownBy_putObj_a _ _ _) yC.size (λk e=>by cases e;exact h0l)⟩,NN.trans (Ak _ Xd rfl)⟩;have:=Cm.kept (grownBy_putObj_a w4 l (.loop { { xq fn sv Bs D .ready none with state:=.busy } with state:=if(none:Option Code).isNone then .ready else .done,pending:=none })) (ownsRow_ne_a Cm Xd (λcur e=>by first|cases e|exact ct (ko e).2.1));simpa using this
abbrev Qh:Nat:=141
abbrev acT:Nat:=84
theorem acU (n:Nat) (hn:2<=n) (g:Nat) (lb:Array Value) (eg: ∀args w,(callFunc g args).run pg w= .ok (.enter g args) w)
    (S:List bE->Prop) (N:Nat) (hN:N<=2^40) (w:World) (ahn:SeqGives gh (n-1) pg g lb (λt:bE=>t.v) S N w):
    CallsIn gh n pg Qh #[.slice none 0 0,.func (.func g) #[] lb] w λe w'=> ∃(v:Value) (ts:List bE),e= .returned v/\S ts/\w'.ownsRow w.heap.size tT 3 v ts.length (ts.map T3).flatten/\Below w.heap.size w w':=by
  have h1:1<=n:=by omega
  refine callsIn_of_wp_marks (f:=Qh) (fn:=Tryz.f141) kQ rfl trivial ?_ rfl;rw[Tryz.ntmps141];change Dg _ _ _ _ _ ⟨#[.slice none 0 0,.func (.func g) #[] lb,undef,undef,undef,undef,undef,undef,undef,undef,undef,undef,undef],[]⟩ w
  gi_wp2
  refine wpIn_rangeFunc ?_;intro fn hfn;obtain⟨W0,hW0⟩: ∃W0,w.alloc (.cells #[.slice none 0 0] CA)=W0:=⟨_,rfl⟩;have gf:W0.heap.size=w.heap.size+1:=by rw[<-hW0];simp
  have hv0:W0.heap[w.heap.size]? =some (.cells #[.slice none 0 0] CA (0,0)):=by rw[<-hW0];exact jC w _
  have Al:Below w.heap.size w W0:=by rw[<-hW0];exact(Below.refl _ w).alloc (au _) _
  rw[hW0];obtain⟨W1,hW1⟩: ∃W1,(W0.alloc (.deferred (some []))).alloc (.loop (xq fn (.func (.func g) #[] lb) w.heap.size W0.heap.size .ready none))=W1:=⟨_,rfl⟩;have hold: ∀k,k<W0.heap.size->W1.heap[k]? =W0.heap[k]? :=λk hk=>by
    rw[<-hW1];exact(Below.heap_alloc _ _ k oQ).trans (Below.heap_alloc _ _ k hk)
  have lK:Below w.heap.size w W1:=by rw[<-hW1];exact(Al.alloc Al.size _).alloc (by have:=Al.size;simp;omega) _
  have hM:ApT w fn (.func (.func g) #[] lb) w.heap.size (W0.heap.size+1) W0.heap.size [] W1:=
    ⟨⟨_,(hold w.heap.size zQ).trans hv0,⟨rfl,.inl ⟨rfl,rfl⟩⟩⟩,
     by rw[<-hW1];have:=jC (W0.alloc (.deferred (some []))) (.loop (xq fn (.func (.func g) #[] lb) w.heap.size W0.heap.size .ready none));rwa [World.size_alloc] at this,
     by rw[<-hW1];exact(Below.heap_alloc _ _ _ sQ).trans (jC W0 _),lK⟩
  refine⟨W0.heap.size+1,[{ target:=.collected W0.heap.size,args:= #[] }],W1,{ target:=.fn (.func g) lb,args:= #[.func (.yield (W0.heap.size+1)) #[] #[]] },W1,g,
    #[.func (.yield (W0.heap.size+1)) #[] #[]]++lb,W1,?_,?_,?_,?_,λ_=>h1,?_⟩
  · rw[<-hW1];exact run_enterLoop_outer _ _ _ _ _
  · simp[resolve,go_sem]
  · intro f' hf';simp[Target.leads] at hf';subst hf';trivial
  · simp[invoke,go_sem,eg]
  · refine(ahn (W0.heap.size+1) (ApT w fn (.func (.func g) #[] lb) w.heap.size (W0.heap.size+1) W0.heap.size) W1 lK (acM _ _ _ _ _ _ _ lK.size)
      (λpre x W hJ hl=>ahm (n-1-1) w fn _ w.heap.size (W0.heap.size+1) W0.heap.size zQ zQ zQ (au _) zQ N hN pre x W hJ hl) hM).mono ?_
    rintro e W2 ⟨⟨v0,rfl⟩,ts,hS,h2⟩;obtain⟨v,hv,bw⟩:=h2.box;have tQ:=run_endLoop (P:=pg) h2.L (by simp[xq]);obtain⟨W3,Qi⟩: ∃W3,W2.putObj (W0.heap.size+1) (.loop { xq fn (.func (.func g) #[] lb) w.heap.size W0.heap.size .ready none with state:=.exhausted })=W3:=⟨_,rfl⟩;rw[Qi] at tQ;have Xb:W2.grownBy W3 (some (W0.heap.size+1)):=by rw[<-Qi];exact grownBy_putObj_a _ _ _
    have Hr:W3.heap[w.heap.size]? =some (.cells #[v] CA (0,0)):=by rw[<-Qi];exact(fy zQ).trans hv
    have hK3:W3.heap[W0.heap.size]? =some (.deferred (some [])):=by rw[<-Qi];exact(fy zQ).trans h2.K
    have MJ:=bw.kept Xb (ownsRow_ne_a bw h2.L (λcur e=>by first|cases e|exact ct (ko e).2.1));have rC:Below w.heap.size w W3:=h2.below.grown Xb h2.below.size (λk e=>by cases e;omega);obtain⟨uD,hf3⟩:=cell_of_box_a Hr;clear Qi;refine⟨none,W3,tQ,?_⟩
    gi_wp2
    rw[<-gf];refine⟨by simp,.inl ⟨_,_,rfl,run_takeDeferred hK3,?_⟩⟩;exact⟨_,results_tmp rfl _ _ _,v,ts,rfl,hS,MJ.kept (grownBy_putObj_a _ _ _) (ownsRow_ne_a MJ hK3 (λcur e=>by first|cases e|exact ct (ko e).2.1)),rC.grown (grownBy_putObj_a _ _ _) rC.size (λk e=>by cases e;omega)⟩
theorem aho (n:Nat) (hn:3<=n) (g:Nat) (lb:Array Value) (eg: ∀args w,(callFunc g args).run pg w= .ok (.enter g args) w)
  (S:List bE->Prop) (N:Nat) (hN:N<=2^40) (w:World) (ahn:SeqGives gh (n-1-1) pg g lb (λt:bE=>t.v) S N w):
  CallsIn gh n pg acT #[.func (.func g) #[] lb] w λe w'=> ∃(v:Value) (ts:List bE),e= .returned v/\S ts/\w'.ownsRow w.heap.size tT 3 v ts.length (ts.map T3).flatten/\Below w.heap.size w w':=by
 have h1:1<=n:=by omega
 have e11: ∀args w,(callFunc Qh args).run pg w= .ok (.enter Qh args) w:=enters_of (fn:=Tryz.f141) kQ kQ rfl;refine callsIn_of_wp (f:=acT) (fn:=Tryz.f84) kQ rfl trivial ?_ rfl;rw[Tryz.ntmps84];change Dg _ _ _ _ _ ⟨#[.func (.func g) #[] lb,undef,undef,undef,undef],[]⟩ w
 gi_wp2_with (refine⟨trivial,?_⟩;gi_at_fn Qh;refine(acU (n-1) zQ g lb eg S N hN _ ahn).mono ?_;rintro e w' ⟨v,ts,rfl,hS,bw,hb⟩)
 go_ret
 exact⟨v,ts,rfl,hS,bw,hb⟩
open Go.Proofs
attribute [local irreducible] un jn jk iA ld1 su st1 kT kU oY rE pH Jp Ew gR gu aX lR lS eW eV eU eC eF gE mR fin iE bu dG vS NO Jq Jr Js Jt Ju NP NR NS NT FN FO Jv Jw Jx NU NV NW
variable {Y : XS}
section
variable {xb : Nat} {x : AcV} {vw : Value}
theorem AO {sn:List fb} (h:aH w Y xb (Jy x vw) aT) (hY: ∀k,Y k->X k) (hv:Sl w X 7 x.vs (sn.map fb.l)) (hl:sn.length<=2^40):
  Ct pg 105 #[ptr xb 0] w X nX λv wa w'=> ∃ys:List fb,ys.Perm sn/\Own w' (made wa w') wa.heap.size 175 7 v (ys.map fb.l):=by
 intro w0 hk;have bw:=(h.mono hY).mv hk.cr;have hF:FX nX (bK w0) w0:=λk af=>af.elim;have hT:=hF.ft (Kp.refl _ _);have hs:=ai.init w0;refine GF.1 λ_=>?_;repeat' refine ak ?_;intros
 refine cu (KM (hv.mv hk.cr) hl) kQ hs.has ?_;rintro v DE w1 X1 q1 pU nq ax;have u1:Own w1 X1 w0.heap.size _ _ v _:=q1.up nq pU;have dW:Ft w0 nX w1 X1 (eT v):=(hT.since ax).more λk af=>.inr ⟨u1.2.2 k af,(u1.ge af).1⟩;refine dW.call (aaK u1 zQ) kQ (λ_ h=>h) λr xu w2 X2 hq lu ka cY c2=>?_;obtain⟨rfl,ys,hp,ho⟩:=hq;clear hs;have hs:=ai.fG cY.s.has
 skip
 exact cY.fin λwa aI=>⟨ys,hp,((xv ho (Y:=X2) λg hg=>cY.bA g (.inl hg)).kp aI).tight⟩
end
variable {mb : Nat}
theorem ahp:Ct pg 40 #[.map (some mb)] w X nX λv wa w'=> ∃bx,v= .func (.func Hq) #[] #[ptr bx 0]/\aH w' (made wa w') bx [.map (some mb)] W8:=by
 intro w0 hk;have hs:=ai.init w0;refine nR.1 λ_=>?_;refine tR rfl hs.has λbx w1 X1 gr ax bw=>?_;repeat' refine ak ?_;intros
 exact bS ax λwa aI=>⟨bx,rfl,⟨gr,(bw.kp aI).lt⟩,(bw.kp aI).2⟩
variable {l : List (bE × Nat)} {bx : Nat}
theorem aaM (h:dK w X nX mb (λk:bE=>k.v) xw l) (hb:aH w X bx [.map (some mb)] W8) (hl:l.length<=2^40):
  Ct pg acT #[.func (.func Hq) #[] #[ptr bx 0]] w X nX λv wa w'=> ∃ts:List bE,ts.Perm (l.map (·.1))/\Own w' (made wa w') wa.heap.size tT 3 v (ts.map bE.l):=by
 intro wa hk;obtain⟨es,c,h1,h2⟩:=h;have Cn:=h2.keys;have hlen:es.length=l.length:=by have:=congrArg ba Cn;simpa using this
 have Ks:=h1.kp hk;have hT:GD wa mb es c:=by
  exact⟨Ks.2.1,Ks.2.2.2.1,Ks.2.2.2.2⟩
 have hS:=callsIn_wide.1 (aho 7 zQ Hq #[ptr bx 0] (λargs w=>oR kQ args w) _ es.length zQ wa (aaL (hb.kp hk).lt (by have:=(hb.kp hk).2;simp[fj,this]) hT));refine hS.mono ?_;rintro e w' ⟨v,ts,rfl,hp,bw,dT⟩;have hx:Ext wa w':=⟨dT.os,dT.tape,dT.output,dT.size,λk af _=>dT.block k af⟩;refine⟨v,rfl,hx,ts,by rw[<-Cn];exact hp,?_⟩;refine⟨λr hr=>by obtain⟨x,_,rfl⟩:=List.mem_map.1 hr;rfl,?_,λq hq=>⟨?_,?_⟩⟩
 ·rw[ah];exact bw
 ·exact(bw.lt _ hq).1
 ·exact(bw.lt _ hq).2
theorem Sk (h:dK w X nX mb (λk:bE=>k.v) xw l) (hb:aH w X bx [.map (some mb)] W8) (hl:l.length<=2^40):
  Ct pg 39 #[.func (.func Hq) #[] #[ptr bx 0],.func (.func 41) #[] #[]] w X nX λv wa w'=> ∃ts:List bE,ts.Perm (l.map (·.1))/\ts.Pairwise (λa b=>b.less a=false)/\Own w' (made wa w') wa.heap.size tT 3 v (ts.map bE.l):=by
 intro w0 hk;replace h:=h.mv Ey hk.cr (A':=nX) (λ_ h _=>h.elim);replace hb:=hb.mv hk.cr;have hF:FX nX (bK w0) w0:=λk af=>af.elim;have hT:=hF.ft (Kp.refl _ _);have hs:=ai.init w0;refine BY.1 λ_=>?_;refine cu (aaM h hb hl) kQ hs.has ?_;rintro v DE w1 X1 ⟨ts,hp,ho⟩ pU nq ax;have u1:Own w1 X1 w0.heap.size _ _ v _:=ho.up nq pU;have dW:Ft w0 nX w1 X1 (eT v):=(hT.since ax).more λk af=>.inr ⟨u1.2.2 k af,(u1.ge af).1⟩;have cB:ts.length=l.length:=by rw[hp.length_eq,ah]
 refine dW.call (aaI u1 zQ) kQ (λ_ h=>h) λr xu w2 X2 hq lu ka cY c2=>?_;obtain⟨rfl,ys,hp2,hpw,kq⟩:=hq;clear hs;have hs:=ai.fG cY.s.has
 skip
 exact cY.fin λwa aI=>⟨ys,hp2.trans hp,hpw,((xv kq (Y:=X2) λg hg=>cY.bA g (.inl hg)).kp aI).tight⟩
theorem FP {nb:Nat} {c:CoV} {DF vm va:Value} {al:List (bE×Nat)} (h:aH w Y nb (GG c DF vm va) nT) (hY: ∀k,Y k->X k) (TY:dK w X nX c.ab (λk:bE=>k.v) xw al) (hl:al.length<=2^40):
  Ct pg 15 #[ptr nb 0] w X nX λv wa w'=> ∃ts:List bE,ts.Perm (al.map (·.1))/\ts.Pairwise (λa b=>b.less a=false)/\Own w' (made wa w') wa.heap.size tT 3 v (ts.map bE.l):=by
 intro w0 hk;replace h:=(h.mv (Mv.sub hY)).mv hk.cr;replace TY:=TY.mv Ey hk.cr (A':=nX) (λ_ h _=>h.elim);have hs:=ai.init w0;refine Ig.1 λ_=>?_;repeat' refine ak ?_;intros
 refine cu ahp kQ hs.has ?_;rintro _ wa w2 X2 ⟨bx,rfl,hb⟩ hle gv bB;refine cu (Sk (TY.mv Ey bB.mv (A':=nX) (λ_ h _=>h.elim)) (hb.mono gv) hl) kQ bB.has ?_;rintro v w3 w4 X4 ⟨ts,hp,hpw,ho⟩ tq oF fX;exact bS (bB.trans fX) λwa aI=>⟨ts,hp,hpw,((ho.up oF (by have:=bB.kp.size;omega)).kp aI).tight⟩
structure asn (l:List eI):Prop where
 may: ∀r∈l,r.may=true
 ids:l.Pairwise λx y=>x.id≠y.id
 asD: ∀{r q:eI} {x:Nat},r∈l->q∈l->eI.Sm r x=true->eI.Sm q x=true->r=q
abbrev Sp:=List (Int×List BA)
variable {k : BA}
theorem akk {l:List BA} :l.any (λx=>decide (k=x))=true↔k∈l:=by grind
def Ih (g:Int) (k:BA) (m:Sp):Sp:=if((getM g m).getD []).any (λx=>decide (k=x))then m else cK g (((getM g m).getD [])++[k]) m
variable {m : Sp} {ds : tr}
theorem TZ {r:List BA} (h:(iZ ds m (k::r)).2=0): ∃g,nr ds k=some g/\iZ ds m (k::r)=iZ ds (Ih g.id k m) r:=by
 rw[iZ] at h;by_cases hg:iJ k=true
 ·rw[if_pos hg] at h;cases hr:nr ds k with
  |none=>grind
  |some g=>
   refine⟨g,rfl,?_⟩;rw[iZ,if_pos hg,hr];rfl
 grind
variable {g : Int}
theorem Xe (id:Int) (y:BA):y∈(getM id (Ih g k m)).getD []↔(y∈(getM id m).getD []\/(y=k/\g=id)):=by
 unfold Ih;split
 ·grind
 ·by_cases e:id=g
  ·subst e;rw[kn];simp
  grind [oZ]
theorem acV (h:(m.map (·.1)).Nodup):((Ih g k m).map (·.1)).Nodup:=by
 unfold Ih;split
 ·exact h
 ·exact Qj h
theorem afo (hn:(m.map (·.1)).Nodup) (h: ∀e∈m,e.2≠[]): ∀e∈Ih g k m,e.2≠[]:=by
 unfold Ih;split
 ·exact h
 ·intro e he;rcases mw hn he with rfl|⟨h1,_⟩
  ·simp
  grind
theorem ahq (h:k ∉ (getM g m).getD []):tS ba (Ih g k m)=tS ba m+1:=by
 unfold Ih;rw[if_neg (λe=>h (akk.1 e))];cases hg:getM g m with
 |none=>rw[Xf hg];simp
 |some l=>
  have:=Xg (f:=ba) (a:=l++[k]) hg
  grind
structure ap5 (ds:tr) (m m':Sp) (keys:List BA):Prop where
 rt: ∀k∈keys,∃r,nr ds k=some r
 mem: ∀id k,(k∈(getM id m').getD []↔(k∈(getM id m).getD []\/(k∈keys/\ ∃r,nr ds k=some r/\r.id=id)))
 nd:(m'.map (·.1)).Nodup
 full: ∀e∈m',e.2≠[]
theorem Sq: ∀{keys:List BA} {m:Sp},(m.map (·.1)).Nodup->(∀e∈m,e.2≠[])->(iZ ds m keys).2=0->ap5 ds m (iZ ds m keys).1 keys
 |[],m,hn,hf,_=>⟨λk hk=>(by cases hk),λid k=>by simp[iZ],hn,hf⟩
 |k::r,m,hn,hf,h=>by
  obtain⟨g,h1,h2⟩:=TZ h;rw[h2] at h⊢;have ih:=Sq (acV (g:=g.id) (k:=k) hn) (afo hn hf) h;refine⟨λy hy=>?_,λid y=>?_,ih.nd,ih.full⟩
  ·rcases List.mem_cons.1 hy with rfl|hy
   ·grind
   ·exact ih.rt y hy
  ·rw[ih.mem id y,Xe];constructor
   ·rintro((h3|⟨rfl,h4⟩)|⟨h3,h4⟩)
    ·grind
    ·grind
    simp_all
   ·rintro(h3|⟨h3,q,h4,h5⟩)
    ·grind
    ·rcases List.mem_cons.1 h3 with rfl|h3
     ·grind
     grind
theorem Xh: ∀{keys:List BA} {m:Sp},keys.Nodup->(∀id,∀k∈keys,k ∉ (getM id m).getD [])->(iZ ds m keys).2=0->tS ba (iZ ds m keys).1=tS ba m+keys.length
 |[],m,_,_,_=>by rfl
 |k::r,m,hn,hm,h=>by
  obtain⟨g,h1,h2⟩:=TZ h;rw[h2] at h⊢;rw[Xh (List.nodup_cons.1 hn).2 (λid y hy lT=>?_) h,ahq (hm _ k sQ),aK]
  ·omega
  ·rcases(Xe id y).1 lT with h3|⟨rfl,_⟩
   ·grind
   grind
structure alM (ds:tr) (keys:List BA) (gs:List ot):Prop where
 rt: ∀k∈keys,∃g∈gs,k∈g.keys/\nr ds k=some g.oN
 own: ∀g∈gs,∀k∈g.keys,k∈keys/\nr ds k=some g.oN
 full: ∀g∈gs,g.keys≠[]
 nd:gs.Pairwise λa b=>a.oN.id≠b.oN.id
variable {keys : List BA}
theorem T2 (hW: ∀(i:Int) (r:eI),getM i ds=some r->r.id=i) (h:(iZ ds [] keys).2=0):alM ds keys (my ds (iZ ds [] keys).1):=by
 have hg:=Sq (m:=[]) sN (λe he=>by cases he) h;generalize (iZ ds [] keys).1=m at hg;have vH: ∀{k:BA} {r:eI},nr ds k=some r->getM r.id ds=some r:=λhr=>by grind [NY]
 have hk: ∀id k,k∈(getM id m).getD []->k∈keys/\ ∃r,nr ds k=some r/\r.id=id/\(getM id ds).getD .zero=r:=λid k af=>by
  rcases(hg.mem id k).1 af with h1|⟨h1,r,h2,h3⟩
  ·simp[getM] at h1
  grind
 have lT: ∀id,id∈pI (m.map (·.1))↔ ∃l,(id,l)∈m:=λid=>by
  rw[(oS _).mem_iff,List.mem_map];exact⟨λ⟨e,h1,h2⟩=>⟨e.2,by grind⟩,λ⟨l,h1⟩=>⟨_,h1,rfl⟩⟩
 refine⟨λk af=>?_,λg rz k af=>?_,λg rz=>?_,?_⟩
 ·obtain⟨r,hr⟩:=hg.rt k af;have h1:=(hg.mem r.id k).2 (.inr ⟨af,r,hr,rfl⟩);refine⟨⟨(getM r.id ds).getD .zero,(getM r.id m).getD []⟩,List.mem_map.2 ⟨r.id,(lT _).2 ?_,rfl⟩,h1,?_⟩
  ·cases hm:getM r.id m with
   |none=>rw[hm] at h1;simp at h1
   |some l=>exact⟨l,gP hm⟩
  ·rw[hr,vH hr];rfl
 ·obtain⟨id,h1,rfl⟩:=List.mem_map.1 rz;obtain⟨h2,r,h3,_,h5⟩:=hk id k af;exact⟨h2,by rw[h3];exact congrArg some h5.symm⟩
 ·obtain⟨id,h1,rfl⟩:=List.mem_map.1 rz;obtain⟨l,h2⟩:=(lT id).1 h1
  show(getM id m).getD []≠[]
  rw[vR hg.nd h2];exact hg.full _ h2
 ·refine List.pairwise_map.2 (List.Pairwise.imp_of_mem (R:=λa b=>a≠b) (λ{a b} ha hb wI=>?_) ((oS _).nodup_iff.2 hg.nd));have key: ∀id,id∈pI (m.map (·.1))->((getM id ds).getD .zero).id=id:=λid hi=>by
   obtain⟨l,h2⟩:=(lT id).1 hi;cases l with
   |nil=>exact absurd rfl (hg.full _ h2)
   |cons k l=>
    obtain⟨_,r,_,h4,h5⟩:=hk id k (by rw[vR hg.nd h2];simp);rw[h5,h4]
  show((getM a ds).getD .zero).id≠((getM b ds).getD .zero).id
  rw[key a ha,key b hb];omega
theorem ahr (hn:(m.map (·.1)).Nodup):((pI (m.map (·.1))).map λid=>((getM id m).getD []).length).sum=tS ba m:=by
 rw[((oS (m.map (·.1))).map _).sum_nat,bz];have:(m.map ((λid=>((getM id m).getD []).length)∘λx=>x.1))=m.map λe=>e.2.length:=List.map_congr_left λe he=>by
  show((getM e.1 m).getD []).length=e.2.length
  rw[vR hn (show(e.1,e.2)∈m from he)];rfl
 rw[this];rfl
theorem acW (hn:keys.Nodup) (h:(iZ ds [] keys).2=0):((my ds (iZ ds [] keys).1).map λg=>g.keys.length).sum=keys.length:=by
 have hg:=Sq (m:=[]) sN (λe he=>by cases he) h;have hs:=Xh (m:=[]) hn (λid k _=>by simp[getM]) h;unfold my;rw[bz]
 show((pI _).map λid=>((getM id (iZ ds [] keys).1).getD []).length).sum=_
 rw[ahr hg.nd,hs];simp[tS]
theorem Qk (q:List (List UInt8)):q.map encStr=((q.map λx=>(⟨x.toArray⟩:ByteArray)).map S1).flatten:=by
 induction q with
 |nil=>rfl
 |cons a q ih=>grind
theorem akl (ks:List ByteArray):(ks.map S1).flatten=(ks.map bl).map encStr:=by
 rw[Qk]
 congr 2
 rw[bz];conv=>lhs;rw[<-List.map_id ks]
 rfl
theorem acX {ks:List ByteArray} (h:Own w X lo 9 1 v (ks.map S1)) (asE:ks.length<=2^40):
  Ct pg 114 #[v] w X (eT v) λ_ wa w'=>Own w' (eT v) lo 9 1 v ((fR ks).map S1):=by
 intro wa hk;replace h:=h.kp hk;obtain⟨h1,h2,h3⟩:=h;have hlen:(fR ks).length=ks.length:=(kF _).length_eq;rcases h2.2 with⟨rfl,hz⟩|⟨g,cap,cur,rfl,acY,hg,r1,r2,r3,r4⟩
 ·refine(AnyM.slices_Sort_string_none Tryz.Wb none 0 wa).mono ?_;rintro e w' ⟨rfl,rfl⟩;have Jz:ks=[]:=iH gQ;subst Jz;have e0:(fR []).map S1=[]:=by simp[fR]
  refine⟨_,rfl,Fr.refl _ _,?_⟩
  show Own w' _ lo _ 1 _ ((fR []).map S1)
  grind [Own.nil]
 ·have hl:(ks.map bl).length=(ks.map S1).length:=by simp
  have hH:Holds encStr wa g 0 (ks.map bl).toArray:=holds_of_block hg (by rw[hl,<-akl,<-r4];simp);have gX:g<wa.heap.size:=(Array.getElem?_eq_some_iff.1 hg).1;have cS:=AnyM.slices_Sort_string Tryz.Wb g 0 cap (ks.map bl) wa hH gX gQ;rw[hl] at cS;refine cS.mono ?_;rintro e w' ⟨rfl,n,os,rfl⟩;have Ev:=grownBy_sorted (w:=wa) (g:=g) (n:=n) (os:=os) ((ks.map bl).mergeSort λx y=>decide (x<=y)).toArray;have xx:=ownsRow_sorted (w:=wa) (base:=lo) (g:=g) (cap:=cap) (n:=n) (e:=9) (os:=os) (cur:=cur) (ss:=ks.map bl) (ts:=(ks.map bl).mergeSort λx y=>decide (x<=y)) sQ acY hg zQ r2 zQ;have e1:((ks.map bl).mergeSort λx y=>decide (x<=y)).map encStr=((fR ks).map S1).flatten:=Qk _;refine⟨_,rfl,⟨Ev.os,Ev.tape,Ev.output,Ev.size,λk af hn=>Ev.block k af λe=>hn (by cases e;rfl)⟩,λr hr=>by obtain⟨x,_,rfl⟩:=List.mem_map.1 hr;rfl,?_,λq hq=>hq⟩;rw[e1,hl] at xx;have e2:((fR ks).map S1).length=(ks.map S1).length:=by rw[ah,ah,hlen]
  grind
variable {p : List jE}
theorem Am (h:mX p=0):p.length<=40/\yO p 0=0:=by
 unfold mX at h;split at h
 ·exact absurd h dQ
 ·split at h
  ·rename_i h1 h2;exact absurd h h2
  ·rename_i h1 h2;exact⟨by omega,by rcases Classical.em (yO p 0=0)with e|e;exact e;exact absurd e h2⟩
theorem OT {ds:tr} : ∀{keys:List BA} {m:List (Int×List BA)},(iZ ds m keys).1.length<=m.length+keys.length
 |[],m=>by simp[iZ]
 |k::r,m=>by
  rw[iZ,aK];split
  ·split
   ·simp only;omega
   ·rename_i g _;have ih:=OT (ds:=ds) (keys:=r) (m:=if((getM g.id m).getD []).any (λx=>decide (k=x))then m else cK g.id (((getM g.id m).getD [])++[k]) m);have h2:(if((getM g.id m).getD []).any (λx=>decide (k=x))then m else cK g.id (((getM g.id m).getD [])++[k]) m).length<=m.length+1:=by
     split
     ·omega
     ·exact CB _
    omega
  ·simp only;omega
theorem Ql {a b:Int} (h:p.length<=40): ∀k∈fh a b p,k.size<=24:=λk hk=>by
 obtain⟨y,hy,rfl⟩:=List.mem_map.1 ((kF _).mem_iff.1 hk);exact((Ez _ _ p [] 0 sN (λx hx=>by cases hx) (au _)).2.1 y hy).2.2
theorem FQ {a b:Int} :(fh a b p).length<=p.length:=by
 unfold fh;rw[(kF _).length_eq,ah];have:=(Ez a b p [] 0 sN (λx hx=>by cases hx) (au _)).2.2;omega
def DU (ids:List Int) (sl:List fb) (wl:List KV) (g:ot):cJ:= { BZ with kind:=3,range:=g.oN.id,iB:=g.oN.iB,parts:=ids,seen:=sl,writes:=wl }
def Ii (p:List jE) (ds:tr) (ids:List Int):Prop:= ∃gk:List BA,gk≠[]/\(∀k∈gk,k∈fh 1 1 p\/ ∃o∈p,k=o.key/\(o.code=2\/o.code=3))/\(iZ ds [] gk).2=0/\ids=(my ds (iZ ds [] gk).1).map (·.oN.id)
def OU (p:List jE) (ds:tr):Prop:=(∃e wl,Xi p e wl/\(e≠0\/wl=[]))\/ ∃gk:List BA,gk≠[]/\(∀k∈gk,k∈fh 1 1 p\/ ∃o∈p,k=o.key/\(o.code=2\/o.code=3))/\(iZ ds [] gk).2≠0
def OV (n:bo) (b:Nat) (n':bo):Prop:=
 (∃ou a,((∃e,e≠0/\a=EA e (n.A b).x.aM .zero false aP)\/ ∃vs,aL.one vs=true/\a=EA 0 (n.A b).x.aM (n.A b).x.st true vs)/\OU (n.A b).p n.ds/\Told { n with al:=kc (n.A b).x.aM n.al,ex:=b::n.ex,va:=ou,ra:=n.ra++[a] } [] n')\/
 ∃(ids:List Int) (pm:List cJ) (vq lC:Value) (pJ:List (List Value)),ids≠[]/\ids.length<=80/\pm.map (·.range)=ids/\(∀m∈pm,m.kind=3/\m.parts=ids/\m.CC)/\Ii (n.A b).p n.ds ids/\
  Told (ey n b { n.A b with x:= { (n.A b).x with pre:=true,vq:=vq },vw:=lC,rw:=pJ,ws:=pm.map λm=>m.asked (n.A b).x,ids:=ids }) (pm.map λm=>(m.asked (n.A b).x).o9 (20+n.c.id)) n'
section
variable {w' wa w0 : World} {X' : XS} {own aG bN : Nat -> Nat} {n n' : bo} {b : Nat}
theorem NZ (h:jy w own n) (hX:qV own X) (hb:n.gy b) (hp:(n.A b).x.pre=false) (hq:(n.A b).x.vq=aP/\(n.A b).ids=[]/\(n.A b).pq=false) (hws:(n.A b).ws=[]) (oA:(n.A b).sn.length<=2^20)
  (hW: ∀(i:Int) (r:eI),getM i n.ds=some r->r.id=i) (hi:1<=n.c.id/\n.c.id<=2) (hl:n.rm.length<=2^10) (xt:n.ra.length<=2^10) (uE:mX (n.A b).p=0):
  Ct pg 64 #[ptr n.nb 0,ptr b 0] w X (gF own) λ_ wa w'=>NQ dR own wa w' λ_ n'=>OV n b n':=by
 intro w0 hk;have s:=St.init h hX hk;obtain⟨ha,oa⟩:=s.va hb;have hs:=s.rf;obtain⟨-,-,JA,-,P1,-⟩:=s.h.act hb;have JA:=JA.sl.mono (s.sub _ ir.1);refine Nh.1 λ_=>?_;repeat' refine ak ?_;intros
 refine cu (aaN (P1.mono (s.sub 4)) JA) kQ s.has ?_;rintro v DE w1 X1 ⟨vl,wl,ew,rfl,na,Ht,alN,hex⟩ pU nq ax;obtain⟨ia,s1,m1,-,n1⟩:=(s.since ax).uR (N:=made DE w1) λk hk=>⟨nq k hk,s.nw (ad pU hk.1)⟩;replace P1:=(P1.mv (ax.gV (s.sub 4))).mv m1;replace na:=na.mono n1;clear hs ha oa JA s;have Xj: ∀{w2:World} {X2:XS} {lE:Nat->Nat} {e:Int},Sn w0 own w2 X2 lE n->e≠0->OU (n.A b).p n.ds->
   eC pg (uF (gF own) w0 λv w'=>NQ dR own w0 w' λ_ n'=>OV n b n') X2 w2 true 43 #[ptr n.nb 0,ptr b 0,I e] λ_ w X=>fin (uF (gF own) w0 λv w'=>NQ dR own w0 w' λ_ n'=>OV n b n') X w (.tuple #[]):=λ{w2 X2 lE e} s2 he haw=>
  s2.call (zF (n:=n) (b:=b) (code:=e) s2.h s2.x hb hq.2.2 zQ hi (by rw[hq.2.1];simp;omega)) kQ λv w3 X3 mY n3 s3 ⟨ou,q⟩ _=>s3.fin λ_ _=>.inl ⟨ou,_,.inl ⟨e,he,rfl⟩,haw,by rw[hp] at q;exact q⟩
 have hs:=s1.rf;by_cases hew:ew=0;case neg=>
  repeat' refine aJ ?_;intros
  exact Xj s1 hew (.inl ⟨ew,wl,hex,.inl hew⟩)
 subst hew;have alO:=na.mono (s1.sub 4);obtain⟨ha,oa⟩:=s1.va hb;have Sr: ∀{w2:World} {X2:XS} {lE:Nat->Nat},Sn w0 own w2 X2 lE n->Sl w2 X2 7 (n.A b).x.vs ((n.A b).sn.map fb.l):=λs2=>(s2.h.act hb).2.2.1.sl.mono (s2.sub _ ir.1);by_cases hw0:wl=[]
 ·have ap6:(wl.length:Int)=0:=by rw[hw0];rfl
  repeat' refine aJ ?_;intros
  refine cu (AO ha (λ_ h=>h) (Sr s1) zQ) kQ hs.has ?_;rintro vr xu w2 X2 ⟨ys,hys,q2⟩ lu ka bB;have s2:=s1.since bB;have ovr:=q2.sl.one;clear hs;obtain⟨t1,t2,t3,rfl⟩:=q2.sl.form;repeat' refine ak ?_;intros
  refine s2.call (Co (n:=n) (b:=b) (code:=0) (t:=.zero) (st:=(n.A b).x.st) (on:=true) (vs:=.slice t1 t2 t3) s2.h s2.x hb ovr zQ) kQ λv w3 X3 mY n3 s3 q3 m3=>?_;obtain⟨ou,rfl⟩:=q3;exact s3.fin λ_ _=>.inl ⟨ou,_,.inr ⟨_,ovr,rfl⟩,.inl ⟨0,wl,hex,.inr hw0⟩,Told.nil _⟩
 have ap6: ¬(wl.length:Int)=0:=λe=>hw0 (List.length_eq_zero_iff.1 zQ);repeat' refine aJ ?_;intros
 refine cu (AP (P1.mono (s1.sub 4)) (by have:=(Am uE).1;omega)) kQ hs.has ?_;rintro vk xu w2 X2 q2 lu ka bB;have hnl:(fh 1 1 (n.A b).p).length<=40:=ad FQ (Am uE).1;have kq:Own w2 X2 w1.heap.size 9 1 vk ((fh 1 1 (n.A b).p++(wl.take 0).map (·.key)).map S1):=by rw[List.take_zero,kR,List.append_nil];exact q2.up ka lu
 clear hs;have hs:=ai.fG bB.has;repeat' refine ak ?_;intros
 refine gz (λn' a b' w X=> ∃i:Nat,a=I (i:Nat)/\n'=wl.length-i/\i<=wl.length/\ai X1 w1 X w/\Own w X w1.heap.size 9 1 b' ((fh 1 1 (n.A b).p++(wl.take i).map (·.key)).map S1)) wl.length ⟨0,rfl,rfl,aq _,bB.trans hs,kq.since hs⟩ ?_;clear hs kq;rintro n' a b' w X ⟨i,rfl,rfl,Ep,hs,lh⟩;have ahs:=alO.since hs;rcases dA (wl) i with⟨cB,y,hx,hd⟩|⟨dB,hd⟩
 ·repeat' first|refine aJ ?_;intros|(with_reducible apply Xk);(case hX=>exact hs.has);(case he=>kernel_rfl);(case ho=>first|rfl|assumption);(case hk=>rfl);intro acc w X ax ho;obtain⟨_,_,_,rfl⟩:=ho.sl.form;replace hs:=hs.trans ax
  have hlen:((fh 1 1 (n.A b).p++(wl.take i).map (·.key)).map S1).length<=80:=by simp;omega
  refine qj (lh.since ax) hs s1.has kQ ho.sl (λr jS u hu=>?_) (by simp only[cd];omega) (by simp only[cd];omega) λv' w' X' sP vG c' dh=>?_
  ·rw[aw] at jS;subst jS;rw[aw] at hu;subst hu;rfl
  clear hs;repeat' first|refine ak ?_;intros|((with_reducible refine fB ((wl).length-(i+1)) ?_ ?_);omega;exact⟨i+1,by simp,rfl,by omega,sP,by rw[cj,hx];simp only[Option.toList_some,aD,List.map_cons,kR,<-ao] at vG⊢;exact vG⟩)
 rw[az dB] at lh;obtain⟨k0,ik⟩: ∃k0,k0=fh 1 1 (n.A b).p++wl.map (·.key):=⟨_,rfl⟩;rw[<-ik] at lh;have aso:k0.length<=80:=by rw[ik];simp;omega
 have hkn: ∀k∈k0,(k∈fh 1 1 (n.A b).p\/ ∃o∈(n.A b).p,k=o.key/\(o.code=2\/o.code=3))/\k.size<=24:=λk af=>by
  rw[ik] at af;rcases List.mem_append.1 af with e|e
  ·exact⟨.inl e,Ql (Am uE).1 k e⟩
  ·obtain⟨x,hx,rfl⟩:=List.mem_map.1 e;exact⟨.inr (alN x hx).2,(alN x hx).1⟩
 have ap7:k0≠[]:=by rw[ik];intro e;exact hw0 (List.map_eq_nil_iff.1 (List.append_eq_nil_iff.1 e).2)
 repeat' refine aJ ?_;intros
 refine yP (acX lh zQ) kQ hs.has (λk af=>lh.2.2 k af) λv ze w3 X3 Qm qB mz _ c3=>?_;have s3:=(s1.since hs).loc c3 λk af=>s1.nw (lh.ge af).1;have m3:Mv (bQ ia 4) w1 (bQ ia 4) w3:=λk (e:ia k=4) _=>⟨e,(c3.block k (hs.sub k (s1.x k zQ)) λaf=>by have:=(lh.ge af).1;have:=s1.h.lt k zQ;omega).trans (hs.kp.block k (s1.x k zQ))⟩;have acZ:=Qm.sl.mono λk af=>c3.sub k (lh.2.2 k af);obtain⟨gk,hgk⟩: ∃gk,gk=fR k0:=⟨_,rfl⟩;have ap8:gk.length=k0.length:=by rw[hgk];exact(kF _).length_eq
 have aht: ∀k∈gk,(k∈fh 1 1 (n.A b).p\/ ∃o∈(n.A b).p,k=o.key/\(o.code=2\/o.code=3))/\k.size<=24:=λk af=>hkn k (by rw[hgk] at af;exact(kF _).mem_iff.1 af);have ac0:gk≠[]:=λe=>ap7 (List.length_eq_zero_iff.1 (by rw[<-ap8,e];rfl));rw[<-hgk] at acZ;replace na:=na.mv m3;clear hs ahs alO lh Qm ha oa c3 s1 m1 m3;have hs:=s3.rf;have hr:=s3.v.1;repeat' refine ak ?_;intros
 refine cu (N1 (s3.zP 2:) hW acZ zQ λk af=>ad (aht k af).2 dQ) kQ hs.has ?_;rintro v4 zf w4 X4 q4 tq oF fX;obtain⟨lF,s4,m4,-,n4⟩:=(s3.since fX).uR (N:=made zf w4) λk hk=>⟨oF k hk,s3.nw (ad tq hk.1)⟩;replace na:=(na.mv (fX.gV (s3.sub 4))).mv m4;clear hs hr acZ s3 m4;have hs:=s4.rf;by_cases he:(iZ n.ds [] gk).2≠0
 ·rw[if_pos he] at q4;subst q4;repeat' refine aJ ?_;intros
  exact Xj s4 he (.inr ⟨gk,ac0,λk hk=>(aht k hk).1,he⟩)
 rw[if_neg he] at q4;obtain⟨vg,rfl,lL⟩:=q4;have AQ:(iZ n.ds [] gk).2=0:=Classical.not_not.1 he;have alP:=T2 hW AQ;obtain⟨gs,ml⟩: ∃gs,gs=my n.ds (iZ n.ds [] gk).1:=⟨_,rfl⟩;rw[<-ml] at lL alP;have ap9:gs≠[]:=by
  obtain⟨k,af⟩:=List.exists_mem_of_ne_nil _ ac0;obtain⟨g,hg,_⟩:=alP.rt k af;exact List.ne_nil_of_mem hg
 have gX:gs.length<=80:=by
  rw[ml,my,ah,(oS _).length_eq,ah];have:=OT (ds:=n.ds) (keys:=gk) (m:=[]);simp only[List.length_nil] at this;omega
 replace lL:=fg.mv lL ot.mv (Mv.sub n4);have vH:(n.A b).x.aM=(n.A b).x.aM:=rfl;obtain⟨ha,oa⟩:=s4.va hb;have nu:=(s4.h.act hb).1;repeat' refine aJ ?_;intros
 refine s4.st (o:=9) (tx b 0) nu (dR (ey n b { n.A b with x:= { (n.A b).x with pre:=true },pq:=true })) zQ kQ (Nat.le_of_ble_eq_true rfl) rfl (λ_ _ _ h=>qD dQ h)
  (Ij (λi hq' w K A p=>by
   rcases i with _|_|_|_|_|_|_|_|i<;>first|exact p|exact absurd rfl hq'|skip
   ·exact⟨p.1,p.2.1,λe=>by cases e⟩
   ·exact λ_=>by
     show Own w A 0 Xl 1 (n.A b).x.vq ((n.A b).ids.map I1)
     rw[hq.1,hq.2.1];exact Own.nil _ _ _ _ _)) (λw5 X5 mA s5 m5=>?_) ir.1 ir.2
 replace na:=na.mv m5;replace lL:=fg.mv lL ot.mv m5;clear hs ha nu Xj s4 oa;have hs:=s5.rf;have EB:=fg.mv lL ot.mv (Mv.sub (s5.sub 4));repeat' refine ak ?_;intros
 refine fp (λn' a w X=> ∃(i:Nat) (vq:Value) (aG:Nat->Nat),a=I (i:Nat)/\n'=gs.length-i/\i<=gs.length/\Sn w0 own w X aG (ey n b { n.A b with x:= { (n.A b).x with pre:=true,vq:=vq },ids:=(gs.take i).map (·.oN.id),pq:=true })/\
  Sl w (bQ aG 4) 4 vl (wl.map KV.l)/\fg w (bQ aG 4) 5 vg ot.rd gs) gs.length ⟨0,(n.A b).x.vq,mA,rfl,rfl,aq _,by rw[List.take_zero,kR,<-hq.2.1];exact s5,na,lL⟩ ?_
 clear s5 hs EB na lL;rintro n' _ w6 X6 ⟨i,vq,zR,rfl,rfl,hi6,s6,na,lL⟩;have hs:=s6.rf;have EB:=fg.mv lL ot.mv (Mv.sub (s6.sub 4));rcases dA (gs) i with⟨cB,g,hx,hd⟩|⟨dB,hd⟩
 ·obtain⟨ha,oa⟩:=s6.vs hb;repeat' refine aJ ?_;intros
  refine FR EB hx rfl kQ kQ λbb oo ll pG jw=>?_;obtain⟨Hu,rfl,KN⟩:=jw;have ovk:=KN.one;change Cells w6 X6 bb oo [I g.oN.id,I g.oN.iB,.float .f64 g.oN.lo,.float .f64 g.oN.hi,Hu] at pG;repeat' first|refine ak ?_;intros|(refine q1s hs ?_;intro _ _ _ w X hs ho)
  replace na:=na.mv (hs.gV (s6.sub 4));replace lL:=fg.mv lL ot.mv (hs.gV (s6.sub 4));have s7:=s6.since hs;have tU:=Cp s7.h b 7 dQ hb;have nu:=(s7.h.act (b:=b) hb).1;rw[js] at tU nu;have vH:((gs.take (i+1)).map (·.oN.id)).map I1=((gs.take i).map (·.oN.id)).map I1++[[I g.oN.id]]:=by
   rw[cj,hx];simp
  refine s7.ap1 (tx b 0) (tx b 7) 0 nu (tU rfl) ho.sl (λr hr u hu=>?_) oQ (λv=>dR (ey n b { n.A b with x:= { (n.A b).x with pre:=true,vq:=v },ids:=(gs.take (i+1)).map (·.oN.id),pq:=true })) (λ_ _ _ _ h=>qD dQ h) (λ_ _ _ _ h=>qD dQ λ_=>by
   show Own _ _ 0 Xl 1 _ (((gs.take (i+1)).map (·.oN.id)).map I1)
   rw[vH];exact h) (λ_ _ _ _ _ h=>h) (λv'=>Qn) (λv' w9 X9 nv s9 m9=>?_) (yD:=by unfold tx;omega)
  ·rw[aw] at hr;subst hr;rw[aw] at hu;subst hu;rfl
  clear hs;repeat' refine ak ?_;intros
  exact eP (gs.length-(i+1)) zQ ⟨i+1,v',nv,by simp,rfl,by omega,s9,na.mv m9,fg.mv lL ot.mv m9⟩
 rw[az zQ] at s6;obtain⟨ids,EC⟩: ∃ids,ids=gs.map (·.oN.id):=⟨_,rfl⟩;rw[<-EC] at s6;have tU:=Cp s6.h b 7 dQ hb;rw[js] at tU;obtain⟨B0,s7,m7,e7,_⟩:=s6.Xm (F':=dR (ey n b { n.A b with x:= { (n.A b).x with pre:=true,vq:=vq },ids:=ids,pq:=false })) (· =tx b 7) ir.1.symm (λc hc w K=>by subst hc;exact qD dQ λe=>nomatch e) λc hc K A hK p=>by
  by_cases e:c=tx b 3
  ·subst e;rw[vI _ _ _ dQ] at p;have p:=p hb;rw[js] at p;exact qD dQ ⟨p.1,p.2.1,λ_=>(tU rfl).sl.mono hK⟩
  ·exact(Qn (d:= { n.A b with x:= { (n.A b).x with pre:=true,vq:=vq },ids:=ids,pq:=true }) (d':= { n.A b with x:= { (n.A b).x with pre:=true,vq:=vq },ids:=ids,pq:=false }): ∀c,(c≠tx b 7/\c≠tx b 3/\c≠tx b 3)->_) c ⟨hc,e,e⟩ _ _ _ p
 replace na:=na.mv m7;replace lL:=fg.mv lL ot.mv m7;have N7:Sl w6 (bQ B0 4) 1 vq (ids.map I1):=(tU rfl).sl.mono e7;have pK:ids.length<=80:=by rw[EC,ah];exact gX
 have hrw:(n.A b).rw.length=0:=by have:=(s7.h.act (b:=b) hb).2.2.2.1.1;rw[js] at this;rw[show(n.A b).rw.length=(n.A b).ws.length from this,hws];rfl
 clear tU e7 s6 hs EB m7;obtain⟨q1,q2,q3,rfl⟩:=N7.form;have hs:=s7.rf;have EB:=fg.mv lL ot.mv (Mv.sub (s7.sub 4));repeat' refine aJ ?_;intros
 obtain⟨D,hD⟩: ∃D:Value->List (List Value)->List cJ->pa,D=λvw rw pm=> { n.A b with x:= { (n.A b).x with pre:=true,vq:=.slice q1 q2 q3 },vw:=vw,rw:=rw,ws:=pm.map λm=>m.asked (n.A b).x,ids:=ids,pq:=false } :=⟨_,rfl⟩;have hD0:({ n.A b with x:= { (n.A b).x with pre:=true,vq:=.slice q1 q2 q3 },ids:=ids,pq:=false } :pa)=D (n.A b).vw (n.A b).rw []:=by rw[hD];dsimp only;rw[hws];rfl
 rw[hD0] at s7;refine alQ (λn' a _ _ _ w X=> ∃(i:Nat) (lC:Value) (pJ:List (List Value)) (pm:List cJ) (aG:Nat->Nat) (n1:bo),a=I (i:Nat)/\n'=gs.length-i/\i<=gs.length/\Sn w0 own w X aG n1/\Told (ey n b (D lC pJ pm)) (pm.map λm=>(m.asked (n.A b).x).o9 (20+n.c.id)) n1/\pJ.length=i/\
  Sl w (bQ aG 4) 4 vl (wl.map KV.l)/\fg w (bQ aG 4) 5 vg ot.rd gs/\Sl w (bQ aG 4) 1 (.slice q1 q2 q3) (ids.map I1)/\pm.map (·.range)=(gs.take i).map (·.oN.id)/\ ∀m∈pm,m.kind=3/\m.parts=ids/\m.CC) gs.length ⟨0,_,_,[],B0,_,rfl,rfl,aq _,s7,Told.nil _,hrw,na,lL,N7,rfl,λm hm=>absurd hm sQ⟩ ?_
 clear s7 na lL N7 hrw hi6 dB hd hs EB hD0;rintro n' _ _ _ _ w6 X6 ⟨i,KO,KP,pm,zR,n1,rfl,rfl,hi6,s6,ht,qh,na,lL,N7,CD,pc⟩;have hs:=s6.rf;have EB:=fg.mv lL ot.mv (Mv.sub (s6.sub 4));obtain⟨Xn,Qo,wE,KQ⟩:=id ht;have e1:n1.nb=n.nb/\n1.c=n.c/\n1.A b=D KO KP pm/\n1.rm.length=n.rm.length+pm.length:=by rw[wE];exact⟨rfl,rfl,js,by rw[ah] at KQ;exact KQ⟩
 have vJ:pm.length=i:=by have:=congrArg ba CD;simp at this;omega
 have lK:n1.gy b:=by rw[wE];exact hb
 obtain⟨ha,oa⟩:=s6.va lK;have JA:=(s6.h.act lK).2.2.1.sl.mono (s6.sub _ ir.1);rw[e1.2.2.1,hD] at ha oa JA;rcases dA (gs) i with⟨cB,g,hx,hd⟩|⟨dB,hd⟩
 ·repeat' refine aJ ?_;intros
  refine FR EB hx rfl kQ kQ λbb oo ll pG jw=>?_;obtain⟨Hu,rfl,KN⟩:=jw;have ovk:=KN.one;change Cells w6 X6 bb oo [I g.oN.id,I g.oN.iB,.float .f64 g.oN.lo,.float .f64 g.oN.hi,Hu] at pG;repeat' refine ak ?_;intros
  refine cu (AO ha (λ_ h=>h) JA (by dsimp only;omega)) kQ hs.has ?_;rintro vr Qp w7 X7 ⟨ys,hys,q7⟩ Ss GH oO;have hr7:Sl w7 X7 7 vr (ys.map fb.l):=(q7.mono GH).sl;have hyl:ys.length<=2^20:=by rw[hys.length_eq];exact oA
  have ahu:=KN.since oO;have alR:=(na.mono (s6.sub 4)).since oO;clear hs;have hs:=ai.fG oO.has;repeat' refine ak ?_;intros
  refine gz (λn' a b' w X=> ∃(j:Nat) (vb:Value) (sl:List fb),a=I (j:Nat)/\b'=(DU ids sl [] g).v aP vb aP (.slice q1 q2 q3) aP aP aP aP/\n'=ys.length-j/\j<=ys.length/\ai X7 w7 X w/\sl.length<=j/\
   Own w X w7.heap.size 175 7 vb (sl.map fb.l)) ys.length ⟨0,aP,[],rfl,rfl,rfl,aq _,hs,au _,Own.nil _ _ _ _ _⟩ ?_
  clear hs;rintro n' _ _ w X ⟨j,vc,sl,rfl,rfl,rfl,hj,hs,hsj,N8⟩;have hrw:=hr7.since hs;rcases dA ys j with⟨hlj,y,hy,hdj⟩|⟨hgj,hdj⟩
  ·repeat' first|refine aJ ?_;intros|with_reducible apply cD
   refine Hv (uT (ahu.since hs)) kQ hs.has (λahv w8 X8 kV=>?_) (λahv w8 X8 kV=>?_)
   ·have ahw:=N8.since kV;replace hs:=hs.trans kV;clear N8 kV;repeat' first|refine ak ?_;intros|(with_reducible apply Qq);(case hX=>exact hs.has);(case he=>kernel_rfl);(case hk=>rfl);intro acc w X ax ho;obtain⟨_,_,_,rfl⟩:=ho.sl.form;replace hs:=hs.trans ax
    refine qj (ahw.since ax) hs oO.has kQ ho.sl (λr jS u hu=>?_) (by simp only[ah,cd];omega) (by simp only[ah,cd];omega) λv' w' X' sP vG c' dh=>?_
    ·rw[aw] at jS;subst jS;simp only[ic,dH,or_false] at hu;rcases hu with rfl|rfl|rfl|rfl|rfl|rfl|rfl<;>rfl
    clear hs;have hs:=ai.fG sP.has;have ov':=vG.sl.one;repeat' refine ak ?_;intros
    exact fB (ys.length-(j+1)) zQ ⟨j+1,v',sl++[y],by simp,rfl,rfl,by omega,sP,by simp;omega,by rw[aD];exact vG⟩
   ·repeat' refine ak ?_;intros
    exact fB (ys.length-(j+1)) zQ ⟨j+1,vc,sl,by simp,rfl,rfl,by omega,hs.trans kV,by omega,N8.since kV⟩
  have asp:sl.length<=2^20:=by omega
  have aqa: ∀k,eT vc k->zR k=0/\w0.heap.size<=k:=λk e=>s6.nw (ad oO.kp.size (N8.ge e).1);replace na:=na.mv ((oO.trans hs).gV (s6.sub 4));replace lL:=fg.mv lL ot.mv ((oO.trans hs).gV (s6.sub 4));replace N7:=N7.mv ((oO.trans hs).gV (s6.sub 4));replace s6:=s6.since (oO.trans hs);have aqb:=ahu.since hs;have ahs:=alR.since hs;obtain⟨wc,Xc,hwc,hXc⟩: ∃wc Xc,wc=w/\Xc=X:=⟨_,_,rfl,rfl⟩;subst hwc hXc;clear hs hrw alR ahu;have hs:=s6.rf;repeat' refine aJ ?_;intros
  refine gz (λn' a b' w X=> ∃(j:Nat) (vb:Value) (kl:List KV),a=I (j:Nat)/\b'=(DU ids sl kl g).v aP vc vb (.slice q1 q2 q3) aP aP aP aP/\n'=wl.length-j/\j<=wl.length/\ai Xc wc X w/\kl.length<=j/\
   Own w X wc.heap.size 178 4 vb (kl.map KV.l)) wl.length ⟨0,aP,[],rfl,rfl,rfl,aq _,hs,au _,Own.nil _ _ _ _ _⟩ ?_
  clear hs;rintro n' _ _ w X ⟨j,vb,kl,rfl,rfl,rfl,hj,hs,hkj,yE⟩;have aqc:=ahs.since hs;rcases dA wl j with⟨hlj,y,hy,hdj⟩|⟨asF,hdj⟩
  ·repeat' first|refine aJ ?_;intros|with_reducible apply cD
   refine Hv (uT (aqb.since hs)) kQ hs.has (λahv w8 X8 kV=>?_) (λahv w8 X8 kV=>?_)
   ·have ahw:=yE.since kV;replace hs:=hs.trans kV;clear yE kV;repeat' first|refine ak ?_;intros|(with_reducible apply Qq);(case hX=>exact hs.has);(case he=>kernel_rfl);(case hk=>rfl);intro acc w X ax ho;obtain⟨_,_,_,rfl⟩:=ho.sl.form;replace hs:=hs.trans ax
    refine qj (ahw.since ax) hs s6.has kQ ho.sl (λr jS u hu=>?_) (by simp only[ah,cd];omega) (by simp only[ah,cd];omega) λv' w' X' sP vG c' dh=>?_
    ·rw[aw] at jS;subst jS;simp only[ic,dH,or_false] at hu;rcases hu with rfl|rfl|rfl|rfl<;>rfl
    clear hs;have hs:=ai.fG sP.has;have ov':=vG.sl.one;repeat' refine ak ?_;intros
    exact fB (wl.length-(j+1)) zQ ⟨j+1,v',kl++[y],by simp,rfl,rfl,by omega,sP,by simp;omega,by rw[aD];exact vG⟩
   ·repeat' refine ak ?_;intros
    exact fB (wl.length-(j+1)) zQ ⟨j+1,vb,kl,by simp,rfl,rfl,by omega,hs.trans kV,by omega,yE.since kV⟩
  repeat' refine aJ ?_;intros
  obtain⟨Su,s8,m8,-,n8⟩:=(s6.since hs).uR (N:=λk=>eT vb k\/eT vc k) λk e=>by
   rcases e with e|e
   ·exact⟨yE.2.2 k e,s6.nw (yE.ge e).1⟩
   ·exact⟨hs.sub k (N8.2.2 k e),aqa k e⟩
  replace m8:=Mv.trans (hs.gV (s6.sub 4)) m8;replace na:=na.mv m8;replace lL:=fg.mv lL ot.mv m8;replace N7:=N7.mv m8;have hm8:(DU ids sl kl g).at w (bQ Su 4) aP vc vb (.slice q1 q2 q3) aP aP aP aP:=
   ⟨Sl.nil _ _ _,(xv (N8.since hs) λk e=>n8 k (.inr e)).sl,(xv yE λk e=>n8 k (.inl e)).sl,N7,Sl.nil _ _ _,fg.nil _ _ _,fg.nil _ _ _,fg.nil _ _ _⟩
  have hf8:(DU ids sl kl g).CC:=⟨by simp[DU,BZ],by show sl.length<=_;omega,by show kl.length<=_;omega,by show ids.length<=_;omega⟩;rw[<-e1.1];refine s8.call (N9 (n:=n1) (b:=b) (m:=DU ids sl kl g) s8.h s8.x lK hm8 hf8 (by rw[e1.2.1];exact hi) (by rw[e1.2.2.2];omega) (by rw[e1.2.2.1,hD];dsimp only;omega)) kQ λv w9 X9 nv n9 s9 q9 m9=>?_;obtain⟨vw9,rw9,Qr,Xo⟩:=q9;rw[e1.2.2.1,e1.2.1] at Xo;clear hs;repeat' refine ak ?_;intros
  refine alS (gs.length-(i+1)) zQ ⟨i+1,vw9,rw9,pm++[DU ids sl kl g],nv,n9,by simp,rfl,by omega,s9,?_,by rw[Qr,e1.2.2.1,hD];dsimp only;omega,na.mv m9,fg.mv lL ot.mv m9,N7.mv m9,by rw[cj,hx];simp[CD,DU],λm hm=>by
   rcases List.mem_append.1 hm with e|e
   ·exact pc m e
   ·rw[aw] at e;subst e;exact⟨rfl,rfl,hf8⟩⟩
  have fP:=ht.set (b:=b) (e:=D vw9 rw9 (pm++[DU ids sl kl g]));rw[An] at fP;rw[aD];refine fP.add ?_;rw[hD] at Xo⊢;simp only[aD,List.map_cons,kR];exact Xo
 ·rw[az dB] at CD;rw[hD] at ht;repeat' refine aJ ?_;intros
  exact s6.fin λ_ _=>.inr ⟨ids,pm,_,KO,KP,by rw[EC];exact λe=>ap9 (List.map_eq_nil_iff.1 e),pK,by rw[CD,EC],pc,⟨gk,ac0,λk hk=>(aht k hk).1,AQ,by rw[EC,ml]⟩,by rw[<-hq.2.2] at ht;exact ht⟩
end
end Go.Proofs.YtgfijddlkhkopaaGreat