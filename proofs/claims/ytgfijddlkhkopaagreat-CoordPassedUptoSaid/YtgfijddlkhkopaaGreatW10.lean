/- Part 10 of the proof. -/
import Derived.Shelf.SlIter.Nil
import Derived.Shelf.SlIterI.Nil
import Derived.Shelf.SortM.Plain
import Derived.Shelf.SortM.SortNone
import Derived.Shelf.SlSortCmp.WholeK
import Derived.Ground.GgzProg
import Derived.Ground.SlgmProg
import Derived.Ground.SlsfProg
import Derived.Shelf.SlGeneric
import Derived.Test.YtgfijddlkhkopaaGreatProg
import Derived.WalkKit
import Derived.Shelf.SlIter.Collect
import Derived.Test.YtgfijddlkhkopaaGreatW9
set_option linter.all false
open Go.Value renaming int → az
open Go.IntKind renaming i64 → cu
open Go.Op renaming bytesLess → ct
open List renaming length_map → af, length → ba, mem_singleton → av, length_singleton → bR, map_append → aC, mem_cons → ic, not_mem_nil → dq, toList_toArray → cR, map_map → bU, nodup_nil → sN, map_nil → kN, length_cons → aL, take_add_one → bT, take_of_length_le → aA, filter_cons → eH, eq_nil_of_length_eq_zero → iK, append_assoc → ao
open Go.Operand renaming tmp → kC
open Nat renaming le_refl → au, le_trans → ad, zero_le → aq
open Go.Obj.cells renaming inj → km
open Go.World renaming putObj_heap_other → fC, alloc_heap_new → jB, cell? → fu, putObj_heap_same → j8
open Go.Proofs renaming ltOf → mN, enters_of → yB
open Go.Fence renaming wide → gp
open Go.Ground renaming data → sO, phase → rC
open Bool renaming not_eq_true → uU, or_eq_true → ot, and_eq_true → aB
open Go.Result renaming andThen → xu
open Go.Code renaming wpIn → Dc
open Go.Shelf renaming Ren → iP
open Go.Proofs.SlLaysF0 renaming n6 → wL
open Go.Oper renaming semAt_plain → AI
open Go.KeepsWalks renaming alloc → AJ, putObj → Ak
namespace Go.Proofs
open Go.Proofs.Tryz renaming prog → pg
open Go.Shelf
def Tryz.NH:iP:=⟨fun|6=>85|15=>143|14=>142|28=>210|29=>211|20=>202|21=>203|22=>204|23=>205|24=>206|25=>207|26=>208|27=>209|46=>282|47=>283|48=>284|49=>285|50=>286|57=>341|n=>n,fun|22=>59|24=>34|25=>118|3=>3|39=>263|0=>0|53=>351|55=>264|4=>4|46=>344|45=>343|50=>348|5=>5|9=>9|66=>411|70=>317|76=>466|77=>467|n=>n,fun|n=>n⟩
theorem Tryz.aj1:wL pg Tryz.NH:= {
 mixed:=by kernel_rfl
 f6:=⟨Tryz.f85.name,by decide,Tryz.func85.trans Go.aK.kS⟩
 f14:=⟨Tryz.f142.name,by decide,Tryz.func142.trans Go.aK.kS⟩
 f15:=Tryz.func143.trans Go.aK.kS
 f20:=⟨Tryz.f202.name,by decide,Tryz.func202.trans Go.aK.kS⟩
 f21:=⟨Tryz.f203.name,by decide,Tryz.func203.trans Go.aK.kS⟩
 f22:=⟨Tryz.f204.name,by decide,Tryz.func204.trans Go.aK.kS⟩
 f23:=⟨Tryz.f205.name,by decide,Tryz.func205.trans Go.aK.kS⟩
 f24:=⟨Tryz.f206.name,by decide,Tryz.func206.trans Go.aK.kS⟩
 f25:=⟨Tryz.f207.name,by decide,Tryz.func207.trans Go.aK.kS⟩
 f26:=⟨Tryz.f208.name,by decide,Tryz.func208.trans Go.aK.kS⟩
 f27:=⟨Tryz.f209.name,by decide,Tryz.func209.trans Go.aK.kS⟩
 f28:=Tryz.func210.trans Go.aK.kS
 f29:=Tryz.func211.trans Go.aK.kS
 f46:=⟨Tryz.f282.name,by decide,Tryz.func282.trans Go.aK.kS⟩
 f47:=Tryz.func283.trans Go.aK.kS
 f48:=Tryz.func284.trans Go.aK.kS
 f49:=⟨Tryz.f285.name,by decide,Tryz.func285.trans Go.aK.kS⟩
 f50:=⟨Tryz.f286.name,by decide,Tryz.func286.trans Go.aK.kS⟩
 f57:=⟨Tryz.f341.name,by decide,Tryz.func341.trans Go.aK.kS⟩
 t0:=Tryz.underlying0
 a0:=Tryz.isAgg0
 z0:=Tryz.sizeOf0
 v0:=Tryz.zeroValue0
 t3:=Tryz.underlying3
 a3:=Tryz.isAgg3
 z3:=Tryz.sizeOf3
 v3:=Tryz.zeroValue3
 t4:=Tryz.underlying4
 a4:=Tryz.isAgg4
 z4:=Tryz.sizeOf4
 v4:=Tryz.zeroValue4
 t5:=Tryz.underlying5
 a5:=Tryz.isAgg5
 z5:=Tryz.sizeOf5
 v5:=Tryz.zeroValue5
 t9:=Tryz.underlying9
 a9:=Tryz.isAgg9
 z9:=Tryz.sizeOf9
 v9:=Tryz.zeroValue9
 t22:=Tryz.underlying59
 a22:=Tryz.isAgg59
 z22:=Tryz.sizeOf59
 v22:=Tryz.zeroValue59
 t25:=Tryz.underlying118
 a25:=Tryz.isAgg118
 z25:=Tryz.sizeOf118
 v25:=Tryz.zeroValue118
 t39:=Tryz.underlying263
 a39:=Tryz.isAgg263
 z39:=Tryz.sizeOf263
 v39:=Tryz.zeroValue263
 t45:=Tryz.underlying343
 a45:=Tryz.isAgg343
 z45:=Tryz.sizeOf343
 v45:=Tryz.zeroValue343
 t46:=Tryz.underlying344
 a46:=Tryz.isAgg344
 z46:=Tryz.sizeOf344
 v46:=Tryz.zeroValue344
 t50:=Tryz.underlying348
 a50:=Tryz.isAgg348
 z50:=Tryz.sizeOf348
 v50:=Tryz.zeroValue348
 t53:=Tryz.underlying351
 a53:=Tryz.isAgg351
 z53:=Tryz.sizeOf351
 v53:=Tryz.zeroValue351
 t55:=Tryz.underlying264
 a55:=Tryz.isAgg264
 z55:=Tryz.sizeOf264
 v55:=Tryz.zeroValue264
 t66:=Tryz.underlying411
 a66:=Tryz.isAgg411
 z66:=Tryz.sizeOf411
 v66:=Tryz.zeroValue411
 t70:=Tryz.underlying317
 a70:=Tryz.isAgg317
 z70:=Tryz.sizeOf317
 v70:=Tryz.zeroValue317
 t76:=Tryz.underlying466
 a76:=Tryz.isAgg466
 z76:=Tryz.sizeOf466
 v76:=Tryz.zeroValue466
 t77:=Tryz.underlying467
 a77:=Tryz.isAgg467
 z77:=Tryz.sizeOf467
 v77:=Tryz.zeroValue467 }
def Tryz.Kt:iP:=⟨fun|6=>156|15=>143|14=>227|28=>210|29=>211|20=>297|21=>298|22=>299|23=>300|24=>301|25=>302|26=>303|27=>304|46=>344|47=>283|48=>284|49=>345|50=>346|57=>366|n=>n,fun|22=>41|24=>175|25=>275|3=>3|39=>263|0=>0|53=>351|55=>264|4=>4|46=>344|45=>343|50=>348|5=>5|9=>9|66=>411|70=>317|76=>466|77=>467|n=>n,fun|n=>n⟩
theorem Tryz.ag7:wL pg Tryz.Kt:= {
 mixed:=by kernel_rfl
 f6:=⟨Tryz.f156.name,by decide,Tryz.func156.trans Go.aK.kS⟩
 f14:=⟨Tryz.f227.name,by decide,Tryz.func227.trans Go.aK.kS⟩
 f15:=Tryz.func143.trans Go.aK.kS
 f20:=⟨Tryz.f297.name,by decide,Tryz.func297.trans Go.aK.kS⟩
 f21:=⟨Tryz.f298.name,by decide,Tryz.func298.trans Go.aK.kS⟩
 f22:=⟨Tryz.f299.name,by decide,Tryz.func299.trans Go.aK.kS⟩
 f23:=⟨Tryz.f300.name,by decide,Tryz.func300.trans Go.aK.kS⟩
 f24:=⟨Tryz.f301.name,by decide,Tryz.func301.trans Go.aK.kS⟩
 f25:=⟨Tryz.f302.name,by decide,Tryz.func302.trans Go.aK.kS⟩
 f26:=⟨Tryz.f303.name,by decide,Tryz.func303.trans Go.aK.kS⟩
 f27:=⟨Tryz.f304.name,by decide,Tryz.func304.trans Go.aK.kS⟩
 f28:=Tryz.func210.trans Go.aK.kS
 f29:=Tryz.func211.trans Go.aK.kS
 f46:=⟨Tryz.f344.name,by decide,Tryz.func344.trans Go.aK.kS⟩
 f47:=Tryz.func283.trans Go.aK.kS
 f48:=Tryz.func284.trans Go.aK.kS
 f49:=⟨Tryz.f345.name,by decide,Tryz.func345.trans Go.aK.kS⟩
 f50:=⟨Tryz.f346.name,by decide,Tryz.func346.trans Go.aK.kS⟩
 f57:=⟨Tryz.f366.name,by decide,Tryz.func366.trans Go.aK.kS⟩
 t0:=Tryz.underlying0
 a0:=Tryz.isAgg0
 z0:=Tryz.sizeOf0
 v0:=Tryz.zeroValue0
 t3:=Tryz.underlying3
 a3:=Tryz.isAgg3
 z3:=Tryz.sizeOf3
 v3:=Tryz.zeroValue3
 t4:=Tryz.underlying4
 a4:=Tryz.isAgg4
 z4:=Tryz.sizeOf4
 v4:=Tryz.zeroValue4
 t5:=Tryz.underlying5
 a5:=Tryz.isAgg5
 z5:=Tryz.sizeOf5
 v5:=Tryz.zeroValue5
 t9:=Tryz.underlying9
 a9:=Tryz.isAgg9
 z9:=Tryz.sizeOf9
 v9:=Tryz.zeroValue9
 t22:=Tryz.underlying41
 a22:=Tryz.isAgg41
 z22:=Tryz.sizeOf41
 v22:=Tryz.zeroValue41
 t25:=Tryz.underlying275
 a25:=Tryz.isAgg275
 z25:=Tryz.sizeOf275
 v25:=Tryz.zeroValue275
 t39:=Tryz.underlying263
 a39:=Tryz.isAgg263
 z39:=Tryz.sizeOf263
 v39:=Tryz.zeroValue263
 t45:=Tryz.underlying343
 a45:=Tryz.isAgg343
 z45:=Tryz.sizeOf343
 v45:=Tryz.zeroValue343
 t46:=Tryz.underlying344
 a46:=Tryz.isAgg344
 z46:=Tryz.sizeOf344
 v46:=Tryz.zeroValue344
 t50:=Tryz.underlying348
 a50:=Tryz.isAgg348
 z50:=Tryz.sizeOf348
 v50:=Tryz.zeroValue348
 t53:=Tryz.underlying351
 a53:=Tryz.isAgg351
 z53:=Tryz.sizeOf351
 v53:=Tryz.zeroValue351
 t55:=Tryz.underlying264
 a55:=Tryz.isAgg264
 z55:=Tryz.sizeOf264
 v55:=Tryz.zeroValue264
 t66:=Tryz.underlying411
 a66:=Tryz.isAgg411
 z66:=Tryz.sizeOf411
 v66:=Tryz.zeroValue411
 t70:=Tryz.underlying317
 a70:=Tryz.isAgg317
 z70:=Tryz.sizeOf317
 v70:=Tryz.zeroValue317
 t76:=Tryz.underlying466
 a76:=Tryz.isAgg466
 z76:=Tryz.sizeOf466
 v76:=Tryz.zeroValue466
 t77:=Tryz.underlying467
 a77:=Tryz.isAgg467
 z77:=Tryz.sizeOf467
 v77:=Tryz.zeroValue467 }
end Go.Proofs
namespace Go.Proofs.YtgfijddlkhkopaaGreat
open Go.Proofs.Tryz renaming prog → pg
open Go.aK Go.RowKit Go.Sort
set_option maxRecDepth 100000
set_option maxHeartbeats 4000000
theorem aci (a b:bL) (W:World):Calls pg 42 #[a.v,b.v] W λe w'=>e= .returned (.bool (a.less b))/\acj W w':=by
 go_enter Tryz.func42,Tryz.ntmps42
 go_wp2
 all_goals go_ret
 all_goals refine⟨?_,_,by rw[alloc_eq_grow,alloc_eq_grow,grow_grow]⟩
 all_goals simp_all [bL.less]
theorem ack (a b:bL) (W:World):Calls pg 41 #[a.v,b.v] W
  λe w'=>e= .returned (I (if a.less b then-1 else 1))/\acj W w':=by
 have ag8:=aci a b;change∀W',Calls pg 42 #[.agg #[I a.eh,I a.aW,I a.sq],.agg #[I b.eh,I b.aW,I b.sq]] W' _ at ag8;generalize a.less b=r at ag8⊢
 go_enter Tryz.func41,Tryz.ntmps41
 go_wp2_with (go_at_call 42;refine(ag8 _).mono ?_;rintro e w' ⟨rfl,os,rfl⟩)
 all_goals go_ret
 all_goals refine⟨?_,_,by rw[alloc_eq_grow,alloc_eq_grow,grow_grow,grow_grow]⟩
 all_goals rfl
variable {a b : bL}
theorem bL.Ig:a.less b=true↔a.eh<b.eh\/a.eh=b.eh/\(a.aW<b.aW\/a.aW=b.aW/\a.sq<b.sq):=by
 unfold bL.less;split
 ·simp;omega
 ·split
  ·simp;omega
  grind
theorem bL.aar (a:bL):a.less a=false:=by
 rw[<-uU,bL.Ig];omega
variable {c : bL}
theorem bL.acm (h1:a.less b=true) (h2:b.less c=true):a.less c=true:=by
 rw[bL.Ig] at*;omega
theorem bL.aas (h1:a.less b=false) (h2:b.less c=false):a.less c=false:=by
 rw[<-uU,bL.Ig] at*;omega
theorem bL.acn (h1:a.less b=false) (h2:b.less a=false):a=b:=by
 rw[<-uU,bL.Ig] at*;cases a;cases b;grind
instance:Inhabited bL:=⟨⟨0,0,0⟩⟩
instance:Inhabited fe:=⟨⟨⟨#[]⟩,.zero,.zero⟩⟩
def aco (x y:bL):Int:=if x.less y then-1 else 1
theorem VR (x y:bL):mN aco x y=x.less y:=by grind [mN,aco]
theorem als:Go.Sort.SWO (mN aco) where
 irrefl x:=by rw[VR];exact bL.aar _
 trans x y z:=by grind [VR,bL.acm]
 ntrans x y z:=by grind [VR,bL.aas]
variable {v : Value} {lo : Nat} {X : XS} {w : World}
theorem aat {xs:List bL} (own:Own w X lo 34 3 v (xs.map bL.l)) (hb:xs.length<2^61):
  Ct pg 85 #[v,.func (.func 41) #[] #[]] w X (fc v) λr _ w'=>r= .tuple #[]/\ ∃ys:List bL,ys.Perm xs/\ys.Pairwise (λa b=>b.less a=false)/\Own w' (fc v) lo 34 3 v (ys.map bL.l):=by
 have h:=abv (P:=pg) (ρ:=Tryz.NH) Tryz.aj1 (k:=3) zQ Tryz.isAgg34 Tryz.sizeOf34 (enc:=bL.l) (λ_=>rfl)
  (λx u hu=>by simp only[bL.l,ic,dq,or_false] at hu;rcases hu with h|h|h<;>subst h<;>rfl) (cf:=aco) als (g:=41)
  (yB Tryz.func41 kQ rfl) (λx y W=>ack x y W) own hb
 simp only[VR] at h;exact h
theorem P0: ∀l:List UInt8,ct l l=false
 |[]=>rfl
 |a::l=>by simp[ct,P0 l,UInt8.lt_irrefl]
theorem Ty: ∀{a b:List UInt8},ct a b=false->a≠b->ct b a=true
 |[],[],_,h=>absurd rfl h
 |_::_,[],_,_=>by rfl
 |[],_::_,h,_=>by simp[ct] at h
 |a::l,b::m,h,cA=>by
  simp only[ct,ot,aB,decide_eq_true_eq,beq_iff_eq,Bool.or_eq_false_iff,Bool.and_eq_false_iff,decide_eq_false_iff_not] at h⊢;obtain⟨h1,h2⟩:=h;by_cases wM:a=b
  ·subst wM;right;refine⟨rfl,Ty ?_ λe=>cA (by rw[e])⟩
   grind
  grind
theorem Ku: ∀{a b c:List UInt8},ct a b=true->ct b c=true->ct a c=true
 |[],[],_,h,_=>by simp[ct] at h
 |[],_::_,[],_,h=>by simp[ct] at h
 |[],_::_,_::_,_,_=>by simp[ct]
 |_::_,[],_,h,_=>by simp[ct] at h
 |_::_,_::_,[],_,h=>by simp[ct] at h
 |a::l,b::m,c::r,h1,h2=>by
  simp only[ct,ot,aB,decide_eq_true_eq,beq_iff_eq] at h1 h2⊢;rcases h1 with h1|⟨rfl,h1⟩
  ·rcases h2 with h2|⟨rfl,h2⟩
   ·exact .inl (UInt8.lt_trans h1 h2)
   ·exact .inl h1
  ·rcases h2 with h2|⟨rfl,h2⟩
   ·exact .inl h2
   ·exact .inr ⟨rfl,Ku h1 h2⟩
theorem aau (a b:fe) (W:World):Calls pg 157 #[.agg a.l.toArray,.agg b.l.toArray] W
  λe w'=>e= .returned (I (if ct a.key.toList b.key.toList then-1 else 1))/\acj W w':=by
 change Calls pg _ #[.agg #[.string a.key,I a.val.kind,.float .f64 a.val.num,.string a.val.text,I a.aS.wall,I a.aS.dC,I a.aS.node],.agg #[.string b.key,I b.val.kind,.float .f64 b.val.num,.string b.val.text,I b.aS.wall,I b.aS.dC,I b.aS.node]] W _
 go_enter Tryz.func157,Tryz.ntmps157
 go_wp2
 all_goals go_ret
 all_goals refine⟨?_,_,by rw[alloc_eq_grow,alloc_eq_grow,grow_grow]⟩
 all_goals simp_all
def acp (x y:fe):Int:=if ct x.key.toList y.key.toList then-1 else 1
theorem acq (x y:fe):mN acp x y=ct x.key.toList y.key.toList:=by grind [mN,acp]
theorem acr {a b c:List UInt8} (h1:ct a b=false) (h2:ct b c=false):ct a c=false:=by grind [Ty,Ku]
theorem alu:Go.Sort.SWO (mN acp) where
 irrefl x:=by rw[acq];exact P0 _
 trans x y z:=by grind [acq,Ku]
 ntrans x y z:=by grind [acq,acr]
theorem aav {xs:List fe} (own:Own w X lo 175 7 v (xs.map fe.l)) (hb:xs.length<2^61):
  Ct pg 156 #[v,.func (.func 157) #[] #[]] w X (fc v) λr _ w'=>r= .tuple #[]/\ ∃ys:List fe,ys.Perm xs/\Own w' (fc v) lo 175 7 v (ys.map fe.l):=by
 have h:=abv (P:=pg) (ρ:=Tryz.Kt) Tryz.ag7 (k:=7) zQ Tryz.isAgg175 Tryz.sizeOf175 (enc:=fe.l) (λ_=>rfl)
  (λx u hu=>by simp only[fe.l,ic,dq,or_false] at hu;rcases hu with h|h|h|h|h|h|h<;>subst h<;>rfl) (cf:=acp) alu (g:=157)
  (yB Tryz.func157 kQ rfl) (λx y W=>aau x y W) own hb
 exact h.mono λ_ _ _ _ ⟨q1,ys,q2,_,q3⟩=>⟨q1,ys,q2,q3⟩
open Go.Maps Go.Shelf Go.ChangeMaps
abbrev He:Nat:=86
abbrev WK:Nat:=104
abbrev tT:Nat:=34
structure Gr (w:World) (b:Nat) (es:List (jo bL)) (c:Nat):Prop where
 gK:w.heap[b]? =some (.map (es.map (ly λk:bL=>k.v)).toArray c)
 nd:(es.map (·.2.2)).Nodup
 lt: ∀x∈es,x.2.2<c
def tK (es:List (jo bL)) (seen:Array Nat):List (jo bL):=es.filter λx=>!seen.contains x.2.2
theorem OD (es:List (jo bL)) (seen:Array Nat):(leftOf (es.map (ly λk:bL=>k.v)).toArray seen).toList=(tK es seen).map (ly λk:bL=>k.v):=by
 simp only[leftOf,tK,Array.toList_filter,cR,List.filter_map];rfl
variable {seen : Array Nat} {es : List (jo bL)}
theorem P1 (hn:(es.map (·.2.2)).Nodup) {x:jo bL} (hx:x∈tK es seen):((x::tK es (seen.push x.2.2)).Perm (tK es seen)):=by
 have lS:=List.mem_filter.1 hx;have e:tK es (seen.push x.2.2)=(tK es seen).filter λy=>decide (y.2.2≠x.2.2):=by
  unfold tK;rw[List.filter_filter]
  congr 1
  funext y
  by_cases hy:y.2.2=x.2.2<;>simp_all
 rw[e];have mr:((tK es seen).map (·.2.2)).Nodup:=hn.sublist (List.Sublist.map _ List.filter_sublist);generalize tK es seen=l at hx mr
 induction l with
 |nil=>cases hx
 |cons y l ih=>
  have h1:=List.nodup_cons.1 mr;rcases List.mem_cons.1 hx with rfl|AK
  ·rw[eH,if_neg sQ];have:l.filter (λy=>decide (y.2.2≠x.2.2))=l:=List.filter_eq_self.2 λz hz=>by
    have:z.2.2≠x.2.2:=λe=>h1.1 (List.mem_map.2 ⟨z,hz,e⟩)
    grind
   rw[this]
  ·have cA:y.2.2≠x.2.2:=λe=>h1.1 (List.mem_map.2 ⟨x,AK,e.symm⟩);rw[eH,if_pos gQ];exact(List.Perm.swap _ _ _).trans ((ih AK h1.2).cons _)
theorem ae6 (w:World) (r:Nat) (o:Obj):w.grownBy (setBlock w r o) (some r)/\(setBlock w r o).heap.size=w.heap.size:=
 ⟨⟨rfl,rfl,rfl,by simp[setBlock],λk hk cA=>by
  have:r≠k:=λe=>cA (by rw[e]);simp[setBlock,Array.getElem?_setIfInBounds,this]⟩,by simp[setBlock]⟩
variable {r : Nat}
section
variable {F : Fence} {n : Nat} {ops : Array Oper} {Q : Exit -> Act -> World -> Prop} {o : Oper} {rest : List Oper} {a : Act} {b c : Nat}
theorem OE (hg:o.guard=none) (m:Operand) (wK:o.op=Op.range WK m) (hm:a.eval m= .map (some b)) (h:Gr w b es c)
  (hK:wpListIn F n pg ops Q rest (a.put o.dst (ptr w.heap.size 0)) (w.alloc (.mapIter (some b) c #[] c))):wpListIn F n pg ops Q (o::rest) a w:=by
 refine wpListIn_plain hg λK' hK'=>?_;have nU:=run_range_map (P:=pg) w WK tT 116 b _ c kQ h.gK;unfold Oper.wpIn;refine⟨by simp[Oper.about,wK],?_⟩;rw[AI F _ _ (by rw[wK];intro c Cq;cases Cq)];simp[execOp,wK,hm,nU,xu];exact hK' _ _ hK
theorem P2 (hg:o.guard=none) (it:Operand) (wK:o.op=Op.next it false) (seen:Array Nat) (NI:a.eval it= .pointer (some ⟨r,0,none⟩)) (hb:Gr w b es c) (NJ:r≠b) (hr:w.heap[r]? =some (.mapIter (some b) c seen c))
  (aoi:tK es seen=[]->wpListIn F n pg ops Q rest (a.put o.dst (.tuple #[.bool false])) w)
  (aoj: ∀x∈tK es seen,∀w',w.grownBy w' (some r)->w'.heap.size=w.heap.size->w'.heap[r]? =some (.mapIter (some b) c (seen.push x.2.2) c)->
   (Instr.entry (.pointer (some ⟨r,0,none⟩))).run pg w'= .ok (.tuple #[x.1.v,x.2.1]) w'->wpListIn F n pg ops Q rest (a.put o.dst (.tuple #[.bool true,x.1.v,x.2.1])) w'):
  wpListIn F n pg ops Q (o::rest) a w:=by
 refine wpListIn_plain hg λK' hK'=>?_;unfold Oper.wpIn;refine⟨by simp[Oper.about,wK],?_⟩;rw[AI F _ _ (by rw[wK];intro c Cq;cases Cq)];have hold: ∀x∈((es.map (ly λk:bL=>k.v)).toArray).toList,x.born<c:=by
  intro x hx;simp only[cR,List.mem_map] at hx;obtain⟨y,hy,rfl⟩:=hx;exact hb.lt y hy
 rcases run_next_at (P:=pg) w o.type r b c c seen _ c hr hb.gK hold (au _)with⟨hz,nU⟩|⟨e,he,w1,Ep,nU⟩
 ·simp[execOp,wK,NI,nU,xu];refine hK' _ _ (aoi ?_);have:(tK es seen).map (ly λk:bL=>k.v)=[]:=by rw[<-OD];exact iK (by simpa using hz)
  simpa using this
 ·rw[OD] at he;obtain⟨x,hx,rfl⟩:=List.mem_map.1 he;simp[execOp,wK,NI,nU,xu];have qV:r<w.heap.size:=(Array.getElem?_eq_some_iff.1 hr).1;obtain⟨hw,gh⟩:w.grownBy (setBlock w1 r (.mapIter (some b) c (seen.push x.2.2) c)) (some r)/\(setBlock w1 r (.mapIter (some b) c (seen.push x.2.2) c)).heap.size=w.heap.size:=by
   have h1:=ae6 w1 r (.mapIter (some b) c (seen.push x.2.2) c);rcases Ep with e|e
   ·rw[e] at h1⊢;exact h1
   ·rw[e] at h1⊢;exact⟨⟨h1.1.os,h1.1.tape,h1.1.output,h1.1.size,h1.1.block⟩,h1.2⟩
  have jP:(setBlock w1 r (.mapIter (some b) c (seen.push x.2.2) c)).heap[r]? =some (.mapIter (some b) c (seen.push x.2.2) c):=Kv (by rcases Ep with rfl|rfl<;>exact qV);refine hK' _ _ (aoj x hx _ hw gh jP ?_);have dZ:=(hw.block b (Array.getElem?_eq_some_iff.1 hb.gK).1 (λe=>NJ (by cases e;rfl))).trans hb.gK;exact run_entry_at (P:=pg) _ r b c seen (es.map (ly λk:bL=>k.v)).toArray c (ly (λk:bL=>k.v) x) jP dZ (by rw[cR];exact List.mem_map.2 ⟨x,(List.mem_filter.1 hx).1,rfl⟩)
   (by rw[cR,bU];exact hb.nd)
theorem NK {b c:Nat} (hb:Gr w b es c) (hr:w.heap[r]? =some (.mapIter (some b) c seen c)):w.rangeLeft b r=(tK es seen).length:=by
 unfold World.rangeLeft;rw[hb.gK,hr];have h1:=congrArg ba (OD es seen)
 grind
theorem aaw {Bm:Nat} (hBm:Bm<w.heap.size) (hm:w.cell? ⟨Bm,0,none⟩=some (.map (some b))) (h:Gr w b es c):
  SeqGives gp 5 pg He #[.pointer (some ⟨Bm,0,none⟩)] (λt:bL=>t.v) (λts=>ts.Perm (es.map (·.1))) es.length w:=λl J W hW hJ hY h0=>by
 have hT:Gr W b es c:=⟨(hW.block b (Array.getElem?_eq_some_iff.1 h.gK).1).trans h.gK,h.nd,h.lt⟩;have Tz:=(hW.cell (p:=⟨Bm,0,none⟩) hBm).trans hm;refine callsIn_of_wp (f:=He) (fn:=Tryz.f86) kQ rfl trivial ?_ rfl;rw[Tryz.ntmps86];change Dc _ _ _ _ _ ⟨#[.func (.yield l) #[] #[],.pointer (some ⟨Bm,0,none⟩),undef,undef,undef,undef,undef,undef,undef,undef,undef,undef,undef,undef],[]⟩ W
 gi_wp2_with (first
  |(gi_at_range;refine OE rfl _ rfl rfl hT ?_)
  |gi_in)
 have Jn:=(Array.getElem?_eq_some_iff.1 hT.gK).1;have Er:W.grownBy (W.alloc (.mapIter (some b) c #[] c)) none:=⟨rfl,rfl,rfl,by simp,λk hk _=>Below.heap_alloc _ _ k hk⟩;have FC:(W.alloc (.mapIter (some b) c #[] c)).heap[W.heap.size]? =some (.mapIter (some b) c #[] c):=jB _ _
 gi_loopw [3] (λ_ wr=> ∃(seen:Array Nat) (ts:List bL),Gr wr b es c/\wr.heap[W.heap.size]? =some (.mapIter (some b) c seen c)/\(ts++(tK es seen).map (·.1)).Perm (es.map (·.1))/\J ts wr)
  (λ_ wr=>wr.rangeLeft b W.heap.size)
 case atStart=>
  refine⟨#[],[],⟨(Er.block b Jn sQ).trans hT.gK,h.nd,h.lt⟩,FC,?_,hJ [] W _ none h0 Er (λr e=>by cases e)⟩;have:tK es #[]=es:=List.filter_eq_self.2 sQ;rw[this];rfl
 case round=>
  obtain⟨seen,ts,hb,hr,hp,hJs⟩:=hrel
  gi_wp2_with (first
   |(gi_at_next;refine P2 rfl _ rfl seen rfl hb zQ hr ?_ ?_)
   |gi_in)
  ·intro hl0
   gi_wp2
   go_end0
   exact⟨⟨_,rfl⟩,ts,by rw[hl0] at hp;simpa using hp,hJs⟩
  ·intro x v0 bn hx w2 xv bp jC Br;have hJ2:J ts w2:=hJ ts wr w2 (some W.heap.size) hJs xv (λr e=>by cases e;exact⟨au _,_,hr,rfl⟩);have wN:Gr w2 b es c:=⟨(xv.block b (Array.getElem?_eq_some_iff.1 hb.gK).1 (λe=>by cases e;omega)).trans hb.gK,hb.nd,hb.lt⟩;have hlen:ts.length<es.length:=by
    have h1:=hp.length_eq;have h2:=List.length_pos_of_mem hx;simp only[List.length_append,af] at h1;omega
   have hJ3:J ts (w2.alloc (.cells #[az cu x.eh,az cu x.aW,az cu x.sq] 34)):=hJ ts w2 _ none hJ2 ⟨rfl,rfl,rfl,by simp,λk hk _=>Below.heap_alloc _ _ k hk⟩ (λr e=>by cases e);obtain⟨fn,tmps,assign,body,hy,hR⟩:=hY ts x _ hJ3 hlen;change (Instr.yield l #[Value.agg #[az cu x.eh,az cu x.aW,az cu x.sq]]).run pg _=_ at hy;have rD:Gr (w2.alloc (.cells #[az cu x.eh,az cu x.aW,az cu x.sq] 34)) b es c:=⟨(Below.heap_alloc _ _ b (Array.getElem?_eq_some_iff.1 wN.gK).1).trans wN.gK,hb.nd,hb.lt⟩;have Cs:(w2.alloc (.cells #[az cu x.eh,az cu x.aW,az cu x.sq] 34)).heap[W.heap.size]? =some (.mapIter (some b) c (seen.push bn) c):=(Below.heap_alloc _ _ _ (Array.getElem?_eq_some_iff.1 jC).1).trans jC;clear bp
   gi_wp2
   refine hR.mono ?_;rintro e W3 ⟨rfl,hJ4,NL⟩;have yC:Gr W3 b es c:=⟨NL.same b _ rD.gK rfl,hb.nd,hb.lt⟩;have zi:=NL.same _ _ Cs rfl
   gi_wp2
   go_roundw
   case rel=>
    refine⟨seen.push bn,ts++[x],yC,zi,?_,hJ4⟩;have hq:=(P1 h.nd hx).map (·.1);refine List.Perm.trans ?_ hp;rw[ao];exact(List.Perm.append_left ts hq)
   case measure=>
    rw[NK yC zi,NK hb hr];have:=(P1 h.nd hx).length_eq;simp only[aL] at this;omega
end
abbrev Cu:Nat:=59
abbrev T3 (t:bL):List Value:=[az cu t.eh,az cu t.aW,az cu t.sq]
def Kw:Code:=(Code.region 2 #[{ dst:=some 5,op:=Op.alloc tT,type:=0,pos:= "iter.go:51",after:= #[],guard:=none },{ dst:=none,op:=Op.store tT (kC 5) (kC 7),type:=0,pos:= "iter.go:51",after:= #[{ on:=0,ground:=sO },{ on:=0,ground:=rC }],guard:=none }] false)
def R0:Code:=(Code.block 1 (Code.region 3 #[{ dst:=some 8,op:=Op.load Cu (kC 2),type:=Cu,pos:= "iter.go:52",after:= #[],guard:=none },{ dst:=some 9,op:=Op.load tT (kC 5),type:=tT,pos:= "iter.go:52",after:= #[],guard:=none },{ dst:=some 10,op:=Op.buildSlice Cu 1 #[(0,kC 9)],type:=Cu,pos:= "iter.go:52",after:= #[{ on:=1,ground:=sO }],guard:=none },{ dst:=some 11,op:=Op.call { callee:=Callee.builtin Builtin.append,args:= #[kC 8,kC 10],argTypes:= #[Cu,Cu] },type:=Cu,pos:= "iter.go:52",after:= #[{ on:=0,ground:=sO },{ on:=2,ground:=sO }],guard:=none },{ dst:=none,op:=Op.store Cu (kC 2) (kC 11),type:=0,pos:= "iter.go:52",after:= #[{ on:=3,ground:=sO },{ on:=3,ground:=Ground.chain },{ on:=0,ground:=rC },{ on:=1,ground:=rC },{ on:=2,ground:=rC },{ on:=3,ground:=rC }],guard:=none }] false))
def xw (fn:FuncId) (sv:Value) (Bs D:Nat) (st:LoopState) (gX:Option Code):Loop:=
 { state:=st,pending:=gX,fn,tmps:= #[.slice none 0 0,sv,.pointer (some ⟨Bs,0,none⟩),undef,.slice none 0 0,undef,sv,undef,undef,undef,undef,undef,undef],params:= #[7],assign:=Kw,body:=R0,defers:=D }
structure ApT (w0:World) (fn:FuncId) (sv:Value) (Bs l D:Nat) (ts:List bL) (W:World):Prop where
 box: ∃v,W.heap[Bs]? =some (.cells #[v] Cu (0,0))/\W.ownsRow w0.heap.size tT 3 v ts.length (ts.map T3).flatten
 L:W.heap[l]? =some (.loop (xw fn sv Bs D .ready none))
 K:W.heap[D]? =some (.deferred (some []))
 below:Below w0.heap.size w0 W
theorem acs (w0:World) (fn:FuncId) (sv:Value) (Bs l D B:Nat) (hB:w0.heap.size<=B):AbidesFrom B (ApT w0 fn sv Bs l D):=λs W W' row h hg bo=>by
 have DL: ∀r,row=some r-> ∃o:Obj,W.heap[r]? =some o/\o.isWalk=true:=λr e=>(bo r e).2;obtain⟨v,hv,hr⟩:=h.box;exact⟨⟨v,(grownBy_keeps hg DL hv rfl).trans hv,ownsRow_abides_a hr hg DL⟩,(grownBy_keeps hg DL h.L rfl).trans h.L,(grownBy_keeps hg DL h.K rfl).trans h.K,
  h.below.grown hg h.below.size (λk e=>ad hB (bo k e).1)⟩
theorem ae7 (w:World) (xs:List Value) (t:TypeId): ∀(j:Nat) u,xs[j]? =some u->(w.alloc (.cells xs.toArray t)).cell? ((⟨w.heap.size,0,none⟩:Addr).add j)=some u:=by
 intro j u hj;rw[Addr.add_lit];simp only[fu,jB];simpa using hj
theorem ag9 (m:Nat) (w0:World) (fn:FuncId) (sv:Value) (Bs l D:Nat) (hBl:Bs≠l) (hDl:D≠l) (hDB:D≠Bs) (h0B:w0.heap.size<=Bs) (h0l:w0.heap.size<=l)
    (N:Nat) (hN:N<=2^40) (ts:List bL) (x:bL) (W:World) (h:ApT w0 fn sv Bs l D ts W) (hlen:ts.length<N):
    YieldAt gp m pg l #[x.v] W λe W'=>e= .returned (.bool true)/\ApT w0 fn sv Bs l D (ts++[x]) W'/\KeepsWalks W W':=by
  have cA:Cu≠tT:=by decide
  obtain⟨i0,hi,Ky,WL,Jo⟩:=info_parts (P:=pg) (e:=tT) (z:=(⟨0,0,0⟩:bL).v) (size:=3) (bytes:=24) kQ;obtain⟨v,hv,bo⟩:=h.box;refine⟨fn,#[.slice none 0 0,sv,.pointer (some ⟨Bs,0,none⟩),undef,.slice none 0 0,undef,sv,x.v,undef,undef,undef,undef,undef],Kw,R0,by simpa [xw] using run_yield (P:=pg) (args:= #[x.v]) h.L rfl,roundIn_of_wpIn trivial ?_⟩;have hlW:l<W.heap.size:=(Array.getElem?_eq_some_iff.1 h.L).1;have hBW:Bs<W.heap.size:=(Array.getElem?_eq_some_iff.1 hv).1;have hDW:D<W.heap.size:=(Array.getElem?_eq_some_iff.1 h.K).1;obtain⟨WA,hWA⟩: ∃WA,W.alloc (.cells #[az cu x.eh,az cu x.aW,az cu x.sq] tT)=WA:=⟨_,rfl⟩;have acu: ∀k,k<W.heap.size->WA.heap[k]? =W.heap[k]? :=λk hk=>by rw[<-hWA];exact Below.heap_alloc _ _ k hk
  have hvA:=(acu Bs hBW).trans hv;have hLA:=(acu l hlW).trans h.L;have hKA:=(acu D hDW).trans h.K;have hxA:WA.heap[W.heap.size]? =some (.cells #[az cu x.eh,az cu x.aW,az cu x.sq] tT (0,0)):=by rw[<-hWA];exact jB _ _
  have hkA:KeepsWalks W WA:=by rw[<-hWA];exact AJ _ _
  have TA:Below w0.heap.size w0 WA:=by rw[<-hWA];exact h.below.alloc h.below.size _
  have ajl:WA.ownsRow w0.heap.size tT 3 v ts.length (ts.map T3).flatten:=by rw[<-hWA];exact bo.alloc _
  have asp:WA.heap.size=W.heap.size+1:=by rw[<-hWA];simp
  have hbr:=run_beginRound (P:=pg) hLA rfl;obtain⟨W2,TB⟩: ∃W2,WA.putObj l (.loop { xw fn sv Bs D .ready none with state:=.busy })=W2:=⟨_,rfl⟩;rw[TB] at hbr;have xv:WA.grownBy W2 (some l):=by rw[<-TB];exact grownBy_putObj_a _ _ _
  have Jp:KeepsWalks W W2:=hkA.trans (by rw[<-TB];exact Ak _ hLA rfl);have rE:W2.heap[Bs]? =some (.cells #[v] Cu (0,0)):=by rw[<-TB];exact(fC hBl).trans hvA
  have hK2:W2.heap[D]? =some (.deferred (some [])):=by rw[<-TB];exact(fC hDl).trans hKA
  have hL2:W2.heap[l]? =some (.loop { xw fn sv Bs D .ready none with state:=.busy }):=by rw[<-TB];exact j8 zQ
  have WM:W2.heap[W.heap.size]? =some (.cells #[az cu x.eh,az cu x.aW,az cu x.sq] tT (0,0)):=by rw[<-TB];exact(fC zQ).trans hxA
  have DN:W2.ownsRow w0.heap.size tT 3 v ts.length (ts.map T3).flatten:=ajl.kept xv (ownsRow_ne_a ajl hLA (λcur e=>by first|cases e|exact cA (km e).2.1));have wN:Below w0.heap.size w0 W2:=TA.grown xv TA.size (λk e=>by cases e;exact h0l);have asq:W2.cell? ⟨W.heap.size,0,none⟩=some (az cu x.eh):=by simp[fu,WM]
  have asr:W2.cell? ⟨W.heap.size,1,none⟩=some (az cu x.aW):=by simp[fu,WM]
  have ass:W2.cell? ⟨W.heap.size,2,none⟩=some (az cu x.sq):=by simp[fu,WM]
  obtain⟨ni,Es⟩:=cell_of_box_a rE;have apL:Bs<W2.heap.size:=(Array.getElem?_eq_some_iff.1 rE).1;have xx:l<W2.heap.size:=(Array.getElem?_eq_some_iff.1 hL2).1;have apM:D<W2.heap.size:=(Array.getElem?_eq_some_iff.1 hK2).1;have acv: ∀{j:Nat} {o:Obj},W2.heap[j]? =some o->(∀cur,o≠ .cells cur tT (0,0))->some j≠v.ownBlock:=λhj lR=>by
    rcases ownsRow_ne_a DN hj lR with e|e
    · rw[e];simp
    · exact λe'=>e e'.symm
  clear TB;unfold Kw
  gi_wp2_with gi_round_op_a
  unfold R0;have Hc:(2:Nat)^40<=maxLen:=by decide
  gi_wp2_with (first
    | (gi_at_builtin; refine wpListIn_append_own _ rfl _ _ Cu rfl w0.heap.size tT i0 (⟨0, 0, 0⟩ : bL).v 3 24 kQ hi Ky WL Jo rfl dQ _ _ _ rfl (DN.alloc _) ⟨W2.heap.size, 0, none⟩ 1 1 (T3 x) rfl rfl (ae7 _ _ _) (by simp[Value.oneCell', T3]) zQ zQ (by have := wN.size; simp; omega) ?_; intro v' w3 acw WN asc
       have Hf:w3.heap[Bs]? =some (.cells #[v] Cu (0,0)):=(WN.block Bs oQ (acv rE (λcur e=>by first|cases e|exact cA (km e).2.1))).trans ((Below.heap_alloc _ _ Bs apL).trans rE);obtain⟨uE,hf3⟩:=cell_of_box_a Hf;obtain⟨g',OF,acx,rfl,asb,ast,oO,jC,Cs,zi⟩: ∃g' OF acx,v'= .slice (some ⟨g',0,none⟩) (ts.length+1) OF/\w0.heap.size<=g'/\w3.heap[g']? =some (.cells acx tT (0,0))/\ts.length+1<=OF/\OF<=maxLen/\acx.size=OF*3/\acx.toList.take ((ts.length+1)*3)=(ts.map T3).flatten++T3 x:=by
         rcases acw.2 with⟨_,h0⟩|h'
         · exact absurd h0 zQ
         · exact h'
       go_frame)
    |gi_round_op_a)
  have acy:(W2.alloc (.cells #[az cu x.eh,az cu x.aW,az cu x.sq] tT)).grownBy w3 v.ownBlock:=WN;have hL3:w3.heap[l]? =some (.loop { xw fn sv Bs D .ready none with state:=.busy }):=(acy.block l oQ (acv hL2 (λcur e=>by first|cases e|exact cA (km e).2.1))).trans ((Below.heap_alloc _ _ l xx).trans hL2);have hK3:w3.heap[D]? =some (.deferred (some [])):=(acy.block D oQ (acv hK2 (λcur e=>by first|cases e|exact cA (km e).2.1))).trans ((Below.heap_alloc _ _ D apM).trans hK2);obtain⟨w4,FE⟩: ∃w4,w3.setCell ⟨Bs,0,none⟩ (.slice (some ⟨g',0,none⟩) (ts.length+1) OF)=w4:=⟨_,rfl⟩;rw[FE];have hg4:w3.grownBy w4 (some Bs):=by rw[<-FE];exact grownBy_setCell0_a _ _ _
  have hv4:w4.heap[Bs]? =some (.cells #[.slice (some ⟨g',0,none⟩) (ts.length+1) OF] Cu (0,0)):=by rw[<-FE];exact heap_setCell_box_a _ Hf
  have WO:w4.heap[l]? =some (.loop { xw fn sv Bs D .ready none with state:=.busy }):=(hg4.block l (Array.getElem?_eq_some_iff.1 hL3).1 (λe=>hBl (by cases e;rfl))).trans hL3;have hK4:w4.heap[D]? =some (.deferred (some [])):=(hg4.block D (Array.getElem?_eq_some_iff.1 hK3).1 (λe=>hDB (by cases e;rfl))).trans hK3;have Ce:=acw.kept hg4 (ownsRow_ne_a acw Hf (λcur e=>by first|cases e|exact cA (km e).2.1));have P3:l<w4.heap.size:=(Array.getElem?_eq_some_iff.1 WO).1;have rD:Below w0.heap.size w0 w3:=(wN.alloc wN.size _).grown acy (by have:=wN.size;simp;omega) (λk e=>(DN.lt k e).1);have yC:Below w0.heap.size w0 w4:=rD.grown hg4 rD.size (λk e=>by cases e;exact h0B);have NL:KeepsWalks W w4:=((Jp.trans (AJ _ _)).trans (KeepsWalks.of_grownBy acy (ownsRow_not_walk_a (DN.alloc _)))).trans (by rw[<-FE];exact KeepsWalks.setCell _ _ _);clear FE;refine⟨_,_,run_endRound none WO,rfl,⟨⟨_,(fC hBl).trans hv4,?_⟩,j8 P3,(fC hDl).trans hK4,yC.grown (grownBy_putObj_a _ _ _) yC.size (λk e=>by cases e;exact h0l)⟩,NL.trans (Ak _ WO rfl)⟩;have:=Ce.kept (grownBy_putObj_a w4 l (.loop { { xw fn sv Bs D .ready none with state:=.busy } with state:=if(none:Option Code).isNone then .ready else .done,pending:=none })) (ownsRow_ne_a Ce WO (λcur e=>by first|cases e|exact cA (km e).2.1));simpa using this
abbrev P4:Nat:=141
abbrev acz:Nat:=84
theorem acA (n:Nat) (hn:2<=n) (g:Nat) (lb:Array Value) (eg: ∀args w,(callFunc g args).run pg w= .ok (.enter g args) w)
    (S:List bL->Prop) (N:Nat) (hN:N<=2^40) (w:World) (aha:SeqGives gp (n-1) pg g lb (λt:bL=>t.v) S N w):
    CallsIn gp n pg P4 #[.slice none 0 0,.func (.func g) #[] lb] w λe w'=> ∃(v:Value) (ts:List bL),e= .returned v/\S ts/\w'.ownsRow w.heap.size tT 3 v ts.length (ts.map T3).flatten/\Below w.heap.size w w':=by
  have h1:1<=n:=by omega
  refine callsIn_of_wp_marks (f:=P4) (fn:=Tryz.f141) kQ rfl trivial ?_ rfl;rw[Tryz.ntmps141];change Dc _ _ _ _ _ ⟨#[.slice none 0 0,.func (.func g) #[] lb,undef,undef,undef,undef,undef,undef,undef,undef,undef,undef,undef],[]⟩ w
  gi_wp2
  refine wpIn_rangeFunc ?_;intro fn hfn;obtain⟨W0,hW0⟩: ∃W0,w.alloc (.cells #[.slice none 0 0] Cu)=W0:=⟨_,rfl⟩;have fv:W0.heap.size=w.heap.size+1:=by rw[<-hW0];simp
  have hv0:W0.heap[w.heap.size]? =some (.cells #[.slice none 0 0] Cu (0,0)):=by rw[<-hW0];exact jB w _
  have Al:Below w.heap.size w W0:=by rw[<-hW0];exact(Below.refl _ w).alloc (au _) _
  rw[hW0];obtain⟨W1,hW1⟩: ∃W1,(W0.alloc (.deferred (some []))).alloc (.loop (xw fn (.func (.func g) #[] lb) w.heap.size W0.heap.size .ready none))=W1:=⟨_,rfl⟩;have hold: ∀k,k<W0.heap.size->W1.heap[k]? =W0.heap[k]? :=λk hk=>by
    rw[<-hW1];exact(Below.heap_alloc _ _ k oQ).trans (Below.heap_alloc _ _ k hk)
  have lL:Below w.heap.size w W1:=by rw[<-hW1];exact(Al.alloc Al.size _).alloc (by have:=Al.size;simp;omega) _
  have hM:ApT w fn (.func (.func g) #[] lb) w.heap.size (W0.heap.size+1) W0.heap.size [] W1:=
    ⟨⟨_,(hold w.heap.size zQ).trans hv0,⟨rfl,.inl ⟨rfl,rfl⟩⟩⟩,
     by rw[<-hW1];have:=jB (W0.alloc (.deferred (some []))) (.loop (xw fn (.func (.func g) #[] lb) w.heap.size W0.heap.size .ready none));rwa [World.size_alloc] at this,
     by rw[<-hW1];exact(Below.heap_alloc _ _ _ sQ).trans (jB W0 _),lL⟩
  refine⟨W0.heap.size+1,[{ target:=.collected W0.heap.size,args:= #[] }],W1,{ target:=.fn (.func g) lb,args:= #[.func (.yield (W0.heap.size+1)) #[] #[]] },W1,g,
    #[.func (.yield (W0.heap.size+1)) #[] #[]]++lb,W1,?_,?_,?_,?_,λ_=>h1,?_⟩
  · rw[<-hW1];exact run_enterLoop_outer _ _ _ _ _
  · simp[resolve,go_sem]
  · intro f' hf';simp[Target.leads] at hf';subst hf';trivial
  · simp[invoke,go_sem,eg]
  · refine(aha (W0.heap.size+1) (ApT w fn (.func (.func g) #[] lb) w.heap.size (W0.heap.size+1) W0.heap.size) W1 lL (acs _ _ _ _ _ _ _ lL.size)
      (λpre x W hJ hl=>ag9 (n-1-1) w fn _ w.heap.size (W0.heap.size+1) W0.heap.size zQ zQ zQ (au _) zQ N hN pre x W hJ hl) hM).mono ?_
    rintro e W2 ⟨⟨v0,rfl⟩,ts,hS,h2⟩;obtain⟨v,hv,bo⟩:=h2.box;have tS:=run_endLoop (P:=pg) h2.L (by simp[xw]);obtain⟨W3,P5⟩: ∃W3,W2.putObj (W0.heap.size+1) (.loop { xw fn (.func (.func g) #[] lb) w.heap.size W0.heap.size .ready none with state:=.exhausted })=W3:=⟨_,rfl⟩;rw[P5] at tS;have WN:W2.grownBy W3 (some (W0.heap.size+1)):=by rw[<-P5];exact grownBy_putObj_a _ _ _
    have Hf:W3.heap[w.heap.size]? =some (.cells #[v] Cu (0,0)):=by rw[<-P5];exact(fC zQ).trans hv
    have hK3:W3.heap[W0.heap.size]? =some (.deferred (some [])):=by rw[<-P5];exact(fC zQ).trans h2.K
    have MD:=bo.kept WN (ownsRow_ne_a bo h2.L (λcur e=>by first|cases e|exact cA (km e).2.1));have rD:Below w.heap.size w W3:=h2.below.grown WN h2.below.size (λk e=>by cases e;omega);obtain⟨uE,hf3⟩:=cell_of_box_a Hf;clear P5;refine⟨none,W3,tS,?_⟩
    gi_wp2
    rw[<-fv];refine⟨by simp,.inl ⟨_,_,rfl,run_takeDeferred hK3,?_⟩⟩;exact⟨_,results_tmp rfl _ _ _,v,ts,rfl,hS,MD.kept (grownBy_putObj_a _ _ _) (ownsRow_ne_a MD hK3 (λcur e=>by first|cases e|exact cA (km e).2.1)),rD.grown (grownBy_putObj_a _ _ _) rD.size (λk e=>by cases e;omega)⟩
theorem ahb (n:Nat) (hn:3<=n) (g:Nat) (lb:Array Value) (eg: ∀args w,(callFunc g args).run pg w= .ok (.enter g args) w)
  (S:List bL->Prop) (N:Nat) (hN:N<=2^40) (w:World) (aha:SeqGives gp (n-1-1) pg g lb (λt:bL=>t.v) S N w):
  CallsIn gp n pg acz #[.func (.func g) #[] lb] w λe w'=> ∃(v:Value) (ts:List bL),e= .returned v/\S ts/\w'.ownsRow w.heap.size tT 3 v ts.length (ts.map T3).flatten/\Below w.heap.size w w':=by
 have h1:1<=n:=by omega
 have e11: ∀args w,(callFunc P4 args).run pg w= .ok (.enter P4 args) w:=enters_of (fn:=Tryz.f141) kQ kQ rfl;refine callsIn_of_wp (f:=acz) (fn:=Tryz.f84) kQ rfl trivial ?_ rfl;rw[Tryz.ntmps84];change Dc _ _ _ _ _ ⟨#[.func (.func g) #[] lb,undef,undef,undef,undef],[]⟩ w
 gi_wp2_with (refine⟨trivial,?_⟩;gi_at_fn P4;refine(acA (n-1) zQ g lb eg S N hN _ aha).mono ?_;rintro e w' ⟨v,ts,rfl,hS,bo,hb⟩)
 go_ret
 exact⟨v,ts,rfl,hS,bo,hb⟩
open Go.Proofs
attribute [local irreducible] un jn jc iE ld1 iw st1 kY kZ oP rF o9 Hg Dz gO ga aV lK lB eW eV eU eC eF gE me fin iu bu eB vS Kz Hh Hi Hj Hk Hl KA KB KC KD Et Eu Hm Hn Ho KE KF KG
variable {Y : XS}
section
variable {xb : Nat} {x : AcV} {vw : Value}
theorem AL {sn:List fe} (h:aG w Y xb (Jq x vw) aT) (hY: ∀k,Y k->X k) (hv:Sl w X 7 x.vs (sn.map fe.l)) (hl:sn.length<=2^40):
  Ct pg 105 #[ptr xb 0] w X nX λv wa w'=> ∃ys:List fe,ys.Perm sn/\Own w' (made wa w') wa.heap.size 175 7 v (ys.map fe.l):=by
 intro w0 hk;have bo:=(h.mono hY).mv hk.bY;have hF:FX nX (bI w0) w0:=λk ah=>ah.elim;have hT:=hF.ft (Kp.refl _ _);have hs:=ai.init w0;refine Gs.1 λ_=>?_;repeat' refine ak ?_;intros
 refine cd (KH (hv.mv hk.bY) hl) kQ hs.has ?_;rintro v Cv w1 X1 q1 pa mB ax;have u1:Own w1 X1 w0.heap.size _ _ v _:=q1.up mB pa;have ea:Ft w0 nX w1 X1 (fc v):=(hT.since ax).more λk ah=>.inr ⟨u1.2.2 k ah,(u1.ge ah).1⟩;refine ea.call (aav u1 zQ) kQ (λ_ h=>h) λr vM w2 X2 hq kF jt dh c2=>?_;obtain⟨rfl,ys,hp,ho⟩:=hq;clear hs;have hs:=ai.eQ dh.s.has
 skip
 exact dh.fin λwa aH=>⟨ys,hp,((xy ho (Y:=X2) λg hg=>dh.bw g (.inl hg)).kp aH).tight⟩
end
variable {mb : Nat}
theorem ahc:Ct pg 40 #[.map (some mb)] w X nX λv wa w'=> ∃bx,v= .func (.func He) #[] #[ptr bx 0]/\aG w' (made wa w') bx [.map (some mb)] WK:=by
 intro w0 hk;have hs:=ai.init w0;refine nV.1 λ_=>?_;refine sP rfl hs.has λbx w1 X1 fY ax bo=>?_;repeat' refine ak ?_;intros
 exact bM ax λwa aH=>⟨bx,rfl,⟨fY,(bo.kp aH).lt⟩,(bo.kp aH).2⟩
variable {l : List (bL × Nat)} {bx : Nat}
theorem aax (h:dM w X nX mb (λk:bL=>k.v) xz l) (hb:aG w X bx [.map (some mb)] WK) (hl:l.length<=2^40):
  Ct pg acz #[.func (.func He) #[] #[ptr bx 0]] w X nX λv wa w'=> ∃ts:List bL,ts.Perm (l.map (·.1))/\Own w' (made wa w') wa.heap.size tT 3 v (ts.map bL.l):=by
 intro wa hk;obtain⟨es,c,h1,h2⟩:=h;have Cf:=h2.keys;have hlen:es.length=l.length:=by have:=congrArg ba Cf;simpa using this
 have Ke:=h1.kp hk;have hT:Gr wa mb es c:=by
  exact⟨Ke.2.1,Ke.2.2.2.1,Ke.2.2.2.2⟩
 have hS:=callsIn_wide.1 (ahb 7 zQ He #[ptr bx 0] (λargs w=>oV kQ args w) _ es.length zQ wa (aaw (hb.kp hk).lt (by have:=(hb.kp hk).2;simp[fu,this]) hT));refine hS.mono ?_;rintro e w' ⟨v,ts,rfl,hp,bo,dZ⟩;have hx:Ext wa w':=⟨dZ.os,dZ.tape,dZ.output,dZ.size,λk ah _=>dZ.block k ah⟩;refine⟨v,rfl,hx,ts,by rw[<-Cf];exact hp,?_⟩;refine⟨λr hr=>by obtain⟨x,_,rfl⟩:=List.mem_map.1 hr;rfl,?_,λq hq=>⟨?_,?_⟩⟩
 ·rw[af];exact bo
 ·exact(bo.lt _ hq).1
 ·exact(bo.lt _ hq).2
theorem R3 (h:dM w X nX mb (λk:bL=>k.v) xz l) (hb:aG w X bx [.map (some mb)] WK) (hl:l.length<=2^40):
  Ct pg 39 #[.func (.func He) #[] #[ptr bx 0],.func (.func 41) #[] #[]] w X nX λv wa w'=> ∃ts:List bL,ts.Perm (l.map (·.1))/\ts.Pairwise (λa b=>b.less a=false)/\Own w' (made wa w') wa.heap.size tT 3 v (ts.map bL.l):=by
 intro w0 hk;replace h:=h.mv Ev hk.bY (A':=nX) (λ_ h _=>h.elim);replace hb:=hb.mv hk.bY;have hF:FX nX (bI w0) w0:=λk ah=>ah.elim;have hT:=hF.ft (Kp.refl _ _);have hs:=ai.init w0;refine BQ.1 λ_=>?_;refine cd (aax h hb hl) kQ hs.has ?_;rintro v Cv w1 X1 ⟨ts,hp,ho⟩ pa mB ax;have u1:Own w1 X1 w0.heap.size _ _ v _:=ho.up mB pa;have ea:Ft w0 nX w1 X1 (fc v):=(hT.since ax).more λk ah=>.inr ⟨u1.2.2 k ah,(u1.ge ah).1⟩;have cD:ts.length=l.length:=by rw[hp.length_eq,af]
 refine ea.call (aat u1 zQ) kQ (λ_ h=>h) λr vM w2 X2 hq kF jt dh c2=>?_;obtain⟨rfl,ys,hp2,hpw,ju⟩:=hq;clear hs;have hs:=ai.eQ dh.s.has
 skip
 exact dh.fin λwa aH=>⟨ys,hp2.trans hp,hpw,((xy ju (Y:=X2) λg hg=>dh.bw g (.inl hg)).kp aH).tight⟩
theorem FF {nb:Nat} {c:CoV} {DA vm va:Value} {al:List (bL×Nat)} (h:aG w Y nb (Gt c DA vm va) nT) (hY: ∀k,Y k->X k) (TC:dM w X nX c.ab (λk:bL=>k.v) xz al) (hl:al.length<=2^40):
  Ct pg 15 #[ptr nb 0] w X nX λv wa w'=> ∃ts:List bL,ts.Perm (al.map (·.1))/\ts.Pairwise (λa b=>b.less a=false)/\Own w' (made wa w') wa.heap.size tT 3 v (ts.map bL.l):=by
 intro w0 hk;replace h:=(h.mv (Mv.sub hY)).mv hk.bY;replace TC:=TC.mv Ev hk.bY (A':=nX) (λ_ h _=>h.elim);have hs:=ai.init w0;refine Ih.1 λ_=>?_;repeat' refine ak ?_;intros
 refine cd ahc kQ hs.has ?_;rintro _ wa w2 X2 ⟨bx,rfl,hb⟩ hle gn bp;refine cd (R3 (TC.mv Ev bp.mv (A':=nX) (λ_ h _=>h.elim)) (hb.mono gn) hl) kQ bp.has ?_;rintro v w3 w4 X4 ⟨ts,hp,hpw,ho⟩ tr oH fV;exact bM (bp.trans fV) λwa aH=>⟨ts,hp,hpw,((ho.up oH (by have:=bp.kp.size;omega)).kp aH).tight⟩
structure asd (l:List dR):Prop where
 may: ∀r∈l,r.may=true
 ids:l.Pairwise λx y=>x.id≠y.id
 asu: ∀{r q:dR} {x:Nat},r∈l->q∈l->dR.R4 r x=true->dR.R4 q x=true->r=q
abbrev R5:=List (Int×List BA)
variable {k : BA}
theorem aj2 {l:List BA} :l.any (λx=>decide (k=x))=true↔k∈l:=by grind
def Ii (g:Int) (k:BA) (m:R5):R5:=if((getM g m).getD []).any (λx=>decide (k=x))then m else cL g (((getM g m).getD [])++[k]) m
variable {m : R5} {ds : pc}
theorem TD {r:List BA} (h:(iV ds m (k::r)).2=0): ∃g,nv ds k=some g/\iV ds m (k::r)=iV ds (Ii g.id k m) r:=by
 rw[iV] at h;by_cases hg:iM k=true
 ·rw[if_pos hg] at h;cases hr:nv ds k with
  |none=>grind
  |some g=>
   refine⟨g,rfl,?_⟩;rw[iV,if_pos hg,hr];rfl
 grind
variable {g : Int}
theorem WQ (id:Int) (y:BA):y∈(getM id (Ii g k m)).getD []↔(y∈(getM id m).getD []\/(y=k/\g=id)):=by
 unfold Ii;split
 ·grind
 ·by_cases e:id=g
  ·subst e;rw[kj];simp
  grind [pd]
theorem acB (h:(m.map (·.1)).Nodup):((Ii g k m).map (·.1)).Nodup:=by
 unfold Ii;split
 ·exact h
 ·exact P6 h
theorem ae8 (hn:(m.map (·.1)).Nodup) (h: ∀e∈m,e.2≠[]): ∀e∈Ii g k m,e.2≠[]:=by
 unfold Ii;split
 ·exact h
 ·intro e he;rcases mC hn he with rfl|⟨h1,_⟩
  ·simp
  grind
theorem ahd (h:k ∉ (getM g m).getD []):tU ba (Ii g k m)=tU ba m+1:=by
 unfold Ii;rw[if_neg (λe=>h (aj2.1 e))];cases hg:getM g m with
 |none=>rw[WR hg];simp
 |some l=>
  have:=WT (f:=ba) (a:=l++[k]) hg
  grind
structure apN (ds:pc) (m m':R5) (keys:List BA):Prop where
 rt: ∀k∈keys,∃r,nv ds k=some r
 mem: ∀id k,(k∈(getM id m').getD []↔(k∈(getM id m).getD []\/(k∈keys/\ ∃r,nv ds k=some r/\r.id=id)))
 nd:(m'.map (·.1)).Nodup
 full: ∀e∈m',e.2≠[]
theorem R6: ∀{keys:List BA} {m:R5},(m.map (·.1)).Nodup->(∀e∈m,e.2≠[])->(iV ds m keys).2=0->apN ds m (iV ds m keys).1 keys
 |[],m,hn,hf,_=>⟨λk hk=>(by cases hk),λid k=>by simp[iV],hn,hf⟩
 |k::r,m,hn,hf,h=>by
  obtain⟨g,h1,h2⟩:=TD h;rw[h2] at h⊢;have ih:=R6 (acB (g:=g.id) (k:=k) hn) (ae8 hn hf) h;refine⟨λy hy=>?_,λid y=>?_,ih.nd,ih.full⟩
  ·rcases List.mem_cons.1 hy with rfl|hy
   ·grind
   ·exact ih.rt y hy
  ·rw[ih.mem id y,WQ];constructor
   ·rintro((h3|⟨rfl,h4⟩)|⟨h3,h4⟩)
    ·grind
    ·grind
    simp_all
   ·rintro(h3|⟨h3,q,h4,h5⟩)
    ·grind
    ·rcases List.mem_cons.1 h3 with rfl|h3
     ·grind
     grind
theorem WU: ∀{keys:List BA} {m:R5},keys.Nodup->(∀id,∀k∈keys,k ∉ (getM id m).getD [])->(iV ds m keys).2=0->tU ba (iV ds m keys).1=tU ba m+keys.length
 |[],m,_,_,_=>by rfl
 |k::r,m,hn,hm,h=>by
  obtain⟨g,h1,h2⟩:=TD h;rw[h2] at h⊢;rw[WU (List.nodup_cons.1 hn).2 (λid y hy lS=>?_) h,ahd (hm _ k sQ),aL]
  ·omega
  ·rcases(WQ id y).1 lS with h3|⟨rfl,_⟩
   ·grind
   grind
structure alv (ds:pc) (keys:List BA) (gs:List oA):Prop where
 rt: ∀k∈keys,∃g∈gs,k∈g.keys/\nv ds k=some g.oR
 own: ∀g∈gs,∀k∈g.keys,k∈keys/\nv ds k=some g.oR
 full: ∀g∈gs,g.keys≠[]
 nd:gs.Pairwise λa b=>a.oR.id≠b.oR.id
variable {keys : List BA}
theorem TE (hW: ∀(i:Int) (r:dR),getM i ds=some r->r.id=i) (h:(iV ds [] keys).2=0):alv ds keys (mD ds (iV ds [] keys).1):=by
 have hg:=R6 (m:=[]) sN (λe he=>by cases he) h;generalize (iV ds [] keys).1=m at hg;have sR: ∀{k:BA} {r:dR},nv ds k=some r->getM r.id ds=some r:=λhr=>by grind [NM]
 have hk: ∀id k,k∈(getM id m).getD []->k∈keys/\ ∃r,nv ds k=some r/\r.id=id/\(getM id ds).getD .zero=r:=λid k ah=>by
  rcases(hg.mem id k).1 ah with h1|⟨h1,r,h2,h3⟩
  ·simp[getM] at h1
  grind
 have lS: ∀id,id∈mW (m.map (·.1))↔ ∃l,(id,l)∈m:=λid=>by
  rw[(mg _).mem_iff,List.mem_map];exact⟨λ⟨e,h1,h2⟩=>⟨e.2,by grind⟩,λ⟨l,h1⟩=>⟨_,h1,rfl⟩⟩
 refine⟨λk ah=>?_,λg rA k ah=>?_,λg rA=>?_,?_⟩
 ·obtain⟨r,hr⟩:=hg.rt k ah;have h1:=(hg.mem r.id k).2 (.inr ⟨ah,r,hr,rfl⟩);refine⟨⟨(getM r.id ds).getD .zero,(getM r.id m).getD []⟩,List.mem_map.2 ⟨r.id,(lS _).2 ?_,rfl⟩,h1,?_⟩
  ·cases hm:getM r.id m with
   |none=>rw[hm] at h1;simp at h1
   |some l=>exact⟨l,gA hm⟩
  ·rw[hr,sR hr];rfl
 ·obtain⟨id,h1,rfl⟩:=List.mem_map.1 rA;obtain⟨h2,r,h3,_,h5⟩:=hk id k ah;exact⟨h2,by rw[h3];exact congrArg some h5.symm⟩
 ·obtain⟨id,h1,rfl⟩:=List.mem_map.1 rA;obtain⟨l,h2⟩:=(lS id).1 h1
  show(getM id m).getD []≠[]
  rw[vY hg.nd h2];exact hg.full _ h2
 ·refine List.pairwise_map.2 (List.Pairwise.imp_of_mem (R:=λa b=>a≠b) (λ{a b} ha hb wM=>?_) ((mg _).nodup_iff.2 hg.nd));have key: ∀id,id∈mW (m.map (·.1))->((getM id ds).getD .zero).id=id:=λid hi=>by
   obtain⟨l,h2⟩:=(lS id).1 hi;cases l with
   |nil=>exact absurd rfl (hg.full _ h2)
   |cons k l=>
    obtain⟨_,r,_,h4,h5⟩:=hk id k (by rw[vY hg.nd h2];simp);rw[h5,h4]
  show((getM a ds).getD .zero).id≠((getM b ds).getD .zero).id
  rw[key a ha,key b hb];omega
theorem ahe (hn:(m.map (·.1)).Nodup):((mW (m.map (·.1))).map λid=>((getM id m).getD []).length).sum=tU ba m:=by
 rw[((mg (m.map (·.1))).map _).sum_nat,bU];have:(m.map ((λid=>((getM id m).getD []).length)∘λx=>x.1))=m.map λe=>e.2.length:=List.map_congr_left λe he=>by
  show((getM e.1 m).getD []).length=e.2.length
  rw[vY hn (show(e.1,e.2)∈m from he)];rfl
 rw[this];rfl
theorem acC (hn:keys.Nodup) (h:(iV ds [] keys).2=0):((mD ds (iV ds [] keys).1).map λg=>g.keys.length).sum=keys.length:=by
 have hg:=R6 (m:=[]) sN (λe he=>by cases he) h;have hs:=WU (m:=[]) hn (λid k _=>by simp[getM]) h;unfold mD;rw[bU]
 show((mW _).map λid=>((getM id (iV ds [] keys).1).getD []).length).sum=_
 rw[ahe hg.nd,hs];simp[tU]
theorem P7 (q:List (List UInt8)):q.map encStr=((q.map λx=>(⟨x.toArray⟩:ByteArray)).map S1).flatten:=by
 induction q with
 |nil=>rfl
 |cons a q ih=>grind
theorem aj3 (ks:List ByteArray):(ks.map S1).flatten=(ks.map bl).map encStr:=by
 rw[P7]
 congr 2
 rw[bU];conv=>lhs;rw[<-List.map_id ks]
 rfl
theorem acD {ks:List ByteArray} (h:Own w X lo 9 1 v (ks.map S1)) (asv:ks.length<=2^40):
  Ct pg 114 #[v] w X (fc v) λ_ wa w'=>Own w' (fc v) lo 9 1 v ((fG ks).map S1):=by
 intro wa hk;replace h:=h.kp hk;obtain⟨h1,h2,h3⟩:=h;have hlen:(fG ks).length=ks.length:=(jx _).length_eq;rcases h2.2 with⟨rfl,hz⟩|⟨g,cap,cur,rfl,acE,hg,r1,r2,r3,r4⟩
 ·refine(AnyM.slices_Sort_string_none Tryz.VS none 0 wa).mono ?_;rintro e w' ⟨rfl,rfl⟩;have zj:ks=[]:=iK gQ;subst zj;have e0:(fG []).map S1=[]:=by simp[fG]
  refine⟨_,rfl,Fr.refl _ _,?_⟩
  show Own w' _ lo _ 1 _ ((fG []).map S1)
  grind [Own.nil]
 ·have hl:(ks.map bl).length=(ks.map S1).length:=by simp
  have hH:Holds encStr wa g 0 (ks.map bl).toArray:=holds_of_block hg (by rw[hl,<-aj3,<-r4];simp);have gW:g<wa.heap.size:=(Array.getElem?_eq_some_iff.1 hg).1;have cS:=AnyM.slices_Sort_string Tryz.VS g 0 cap (ks.map bl) wa hH gW gQ;rw[hl] at cS;refine cS.mono ?_;rintro e w' ⟨rfl,n,os,rfl⟩;have Er:=grownBy_sorted (w:=wa) (g:=g) (n:=n) (os:=os) ((ks.map bl).mergeSort λx y=>decide (x<=y)).toArray;have uV:=ownsRow_sorted (w:=wa) (base:=lo) (g:=g) (cap:=cap) (n:=n) (e:=9) (os:=os) (cur:=cur) (ss:=ks.map bl) (ts:=(ks.map bl).mergeSort λx y=>decide (x<=y)) sQ acE hg zQ r2 zQ;have e1:((ks.map bl).mergeSort λx y=>decide (x<=y)).map encStr=((fG ks).map S1).flatten:=P7 _;refine⟨_,rfl,⟨Er.os,Er.tape,Er.output,Er.size,λk ah hn=>Er.block k ah λe=>hn (by cases e;rfl)⟩,λr hr=>by obtain⟨x,_,rfl⟩:=List.mem_map.1 hr;rfl,?_,λq hq=>hq⟩;rw[e1,hl] at uV;have e2:((fG ks).map S1).length=(ks.map S1).length:=by rw[af,af,hlen]
  grind
variable {p : List jD}
theorem Am (h:na p=0):p.length<=40/\yQ p 0=0:=by
 unfold na at h;split at h
 ·exact absurd h dQ
 ·split at h
  ·rename_i h1 h2;exact absurd h h2
  ·rename_i h1 h2;exact⟨by omega,by rcases Classical.em (yQ p 0=0)with e|e;exact e;exact absurd e h2⟩
theorem OG {ds:pc} : ∀{keys:List BA} {m:List (Int×List BA)},(iV ds m keys).1.length<=m.length+keys.length
 |[],m=>by simp[iV]
 |k::r,m=>by
  rw[iV,aL];split
  ·split
   ·simp only;omega
   ·rename_i g _;have ih:=OG (ds:=ds) (keys:=r) (m:=if((getM g.id m).getD []).any (λx=>decide (k=x))then m else cL g.id (((getM g.id m).getD [])++[k]) m);have h2:(if((getM g.id m).getD []).any (λx=>decide (k=x))then m else cL g.id (((getM g.id m).getD [])++[k]) m).length<=m.length+1:=by
     split
     ·omega
     ·exact Cw _
    omega
  ·simp only;omega
theorem P8 {a b:Int} (h:p.length<=40): ∀k∈fq a b p,k.size<=24:=λk hk=>by
 obtain⟨y,hy,rfl⟩:=List.mem_map.1 ((jx _).mem_iff.1 hk);exact((Ew _ _ p [] 0 sN (λx hx=>by cases hx) (au _)).2.1 y hy).2.2
theorem FG {a b:Int} :(fq a b p).length<=p.length:=by
 unfold fq;rw[(jx _).length_eq,af];have:=(Ew a b p [] 0 sN (λx hx=>by cases hx) (au _)).2.2;omega
def DO (ids:List Int) (sl:List fe) (wl:List KV) (g:oA):cO:= { BR with kind:=3,range:=g.oR.id,iD:=g.oR.iD,parts:=ids,seen:=sl,writes:=wl }
def Ij (p:List jD) (ds:pc) (ids:List Int):Prop:= ∃gk:List BA,gk≠[]/\(∀k∈gk,k∈fq 1 1 p\/ ∃o∈p,k=o.key/\(o.code=2\/o.code=3))/\(iV ds [] gk).2=0/\ids=(mD ds (iV ds [] gk).1).map (·.oR.id)
def OH (p:List jD) (ds:pc):Prop:=(∃e wl,WV p e wl/\(e≠0\/wl=[]))\/ ∃gk:List BA,gk≠[]/\(∀k∈gk,k∈fq 1 1 p\/ ∃o∈p,k=o.key/\(o.code=2\/o.code=3))/\(iV ds [] gk).2≠0
def OJ (n:bE) (b:Nat) (n':bE):Prop:=
 (∃oB a,((∃e,e≠0/\a=Ey e (n.A b).x.aO .zero false aP)\/ ∃vs,aK.one vs=true/\a=Ey 0 (n.A b).x.aO (n.A b).x.st true vs)/\OH (n.A b).p n.ds/\Told { n with al:=j9 (n.A b).x.aO n.al,ex:=b::n.ex,va:=oB,ra:=n.ra++[a] } [] n')\/
 ∃(ids:List Int) (pm:List cO) (vq lz:Value) (pJ:List (List Value)),ids≠[]/\ids.length<=80/\pm.map (·.range)=ids/\(∀m∈pm,m.kind=3/\m.parts=ids/\m.Cx)/\Ij (n.A b).p n.ds ids/\
  Told (eI n b { n.A b with x:= { (n.A b).x with pre:=true,vq:=vq },vw:=lz,rw:=pJ,ws:=pm.map λm=>m.asked (n.A b).x,ids:=ids }) (pm.map λm=>(m.asked (n.A b).x).pU (20+n.c.id)) n'
section
variable {w' wa w0 : World} {X' : XS} {own aI bZ : Nat -> Nat} {n n' : bE} {b : Nat}
theorem NN (h:jd w own n) (hX:qW own X) (hb:n.dI b) (hp:(n.A b).x.pre=false) (hq:(n.A b).x.vq=aP/\(n.A b).ids=[]/\(n.A b).pq=false) (hws:(n.A b).ws=[]) (oC:(n.A b).sn.length<=2^20)
  (hW: ∀(i:Int) (r:dR),getM i n.ds=some r->r.id=i) (hi:1<=n.c.id/\n.c.id<=2) (hl:n.rm.length<=2^10) (xx:n.ra.length<=2^10) (Ez:na (n.A b).p=0):
  Ct pg 64 #[ptr n.nb 0,ptr b 0] w X (gy own) λ_ wa w'=>NQ dX own wa w' λ_ n'=>OJ n b n':=by
 intro w0 hk;have s:=St.init h hX hk;obtain⟨ha,oa⟩:=s.va hb;have hs:=s.rf;obtain⟨-,-,Jr,-,PO,-⟩:=s.h.act hb;have Jr:=Jr.sl.mono (s.sub _ iy.1);refine Nb.1 λ_=>?_;repeat' refine ak ?_;intros
 refine cd (aay (PO.mono (s.sub 4)) Jr) kQ s.has ?_;rintro v Cv w1 X1 ⟨vl,wl,ew,rfl,mu,Hp,alw,hex⟩ pa mB ax;obtain⟨il,s1,m1,-,n1⟩:=(s.since ax).uW (N:=made Cv w1) λk hk=>⟨mB k hk,s.nw (ad pa hk.1)⟩;replace PO:=(PO.mv (ax.gU (s.sub 4))).mv m1;replace mu:=mu.mono n1;clear hs ha oa Jr s;have WW: ∀{w2:World} {X2:XS} {lC:Nat->Nat} {e:Int},Sn w0 own w2 X2 lC n->e≠0->OH (n.A b).p n.ds->
   eC pg (uF (gy own) w0 λv w'=>NQ dX own w0 w' λ_ n'=>OJ n b n') X2 w2 true 43 #[ptr n.nb 0,ptr b 0,I e] λ_ w X=>fin (uF (gy own) w0 λv w'=>NQ dX own w0 w' λ_ n'=>OJ n b n') X w (.tuple #[]):=λ{w2 X2 lC e} s2 he haw=>
  s2.call (zF (n:=n) (b:=b) (code:=e) s2.h s2.x hb hq.2.2 zQ hi (by rw[hq.2.1];simp;omega)) kQ λv w3 X3 nf n3 s3 ⟨oB,q⟩ _=>s3.fin λ_ _=>.inl ⟨oB,_,.inl ⟨e,he,rfl⟩,haw,by rw[hp] at q;exact q⟩
 have hs:=s1.rf;by_cases hew:ew=0;case neg=>
  repeat' refine aJ ?_;intros
  exact WW s1 hew (.inl ⟨ew,wl,hex,.inl hew⟩)
 subst hew;have alx:=mu.mono (s1.sub 4);obtain⟨ha,oa⟩:=s1.va hb;have R7: ∀{w2:World} {X2:XS} {lC:Nat->Nat},Sn w0 own w2 X2 lC n->Sl w2 X2 7 (n.A b).x.vs ((n.A b).sn.map fe.l):=λs2=>(s2.h.act hb).2.2.1.sl.mono (s2.sub _ iy.1);by_cases hw0:wl=[]
 ·have apO:(wl.length:Int)=0:=by rw[hw0];rfl
  repeat' refine aJ ?_;intros
  refine cd (AL ha (λ_ h=>h) (R7 s1) zQ) kQ hs.has ?_;rintro vr vM w2 X2 ⟨ys,hys,q2⟩ kF jt bp;have s2:=s1.since bp;have ovr:=q2.sl.one;clear hs;obtain⟨t1,t2,t3,rfl⟩:=q2.sl.form;repeat' refine ak ?_;intros
  refine s2.call (Cg (n:=n) (b:=b) (code:=0) (t:=.zero) (st:=(n.A b).x.st) (on:=true) (vs:=.slice t1 t2 t3) s2.h s2.x hb ovr zQ) kQ λv w3 X3 nf n3 s3 q3 m3=>?_;obtain⟨oB,rfl⟩:=q3;exact s3.fin λ_ _=>.inl ⟨oB,_,.inr ⟨_,ovr,rfl⟩,.inl ⟨0,wl,hex,.inr hw0⟩,Told.nil _⟩
 have apO: ¬(wl.length:Int)=0:=λe=>hw0 (List.length_eq_zero_iff.1 zQ);repeat' refine aJ ?_;intros
 refine cd (AM (PO.mono (s1.sub 4)) (by have:=(Am Ez).1;omega)) kQ hs.has ?_;rintro vk vM w2 X2 q2 kF jt bp;have hnl:(fq 1 1 (n.A b).p).length<=40:=ad FG (Am Ez).1;have ju:Own w2 X2 w1.heap.size 9 1 vk ((fq 1 1 (n.A b).p++(wl.take 0).map (·.key)).map S1):=by rw[List.take_zero,kN,List.append_nil];exact q2.up jt kF
 clear hs;have hs:=ai.eQ bp.has;repeat' refine ak ?_;intros
 refine gv (λn' a b' w X=> ∃i:Nat,a=I (i:Nat)/\n'=wl.length-i/\i<=wl.length/\ai X1 w1 X w/\Own w X w1.heap.size 9 1 b' ((fq 1 1 (n.A b).p++(wl.take i).map (·.key)).map S1)) wl.length ⟨0,rfl,rfl,aq _,bp.trans hs,ju.since hs⟩ ?_;clear hs ju;rintro n' a b' w X ⟨i,rfl,rfl,Dy,hs,mO⟩;have ahf:=alx.since hs;rcases dE (wl) i with⟨cD,y,hx,hd⟩|⟨dD,hd⟩
 ·repeat' first|refine aJ ?_;intros|(with_reducible apply WX);(case hX=>exact hs.has);(case he=>kernel_rfl);(case ho=>first|rfl|assumption);(case hk=>rfl);intro acc w X ax ho;obtain⟨_,_,_,rfl⟩:=ho.sl.form;replace hs:=hs.trans ax
  have hlen:((fq 1 1 (n.A b).p++(wl.take i).map (·.key)).map S1).length<=80:=by simp;omega
  refine qj (mO.since ax) hs s1.has kQ ho.sl (λr jP u hu=>?_) (by simp only[bR];omega) (by simp only[bR];omega) λv' w' X' sS vL c' dF=>?_
  ·rw[av] at jP;subst jP;rw[av] at hu;subst hu;rfl
  clear hs;repeat' first|refine ak ?_;intros|((with_reducible refine fw ((wl).length-(i+1)) ?_ ?_);omega;exact⟨i+1,by simp,rfl,by omega,sS,by rw[bT,hx];simp only[Option.toList_some,aC,List.map_cons,kN,<-ao] at vL⊢;exact vL⟩)
 rw[aA dD] at mO;obtain⟨k0,ix⟩: ∃k0,k0=fq 1 1 (n.A b).p++wl.map (·.key):=⟨_,rfl⟩;rw[<-ix] at mO;have ase:k0.length<=80:=by rw[ix];simp;omega
 have hkn: ∀k∈k0,(k∈fq 1 1 (n.A b).p\/ ∃o∈(n.A b).p,k=o.key/\(o.code=2\/o.code=3))/\k.size<=24:=λk ah=>by
  rw[ix] at ah;rcases List.mem_append.1 ah with e|e
  ·exact⟨.inl e,P8 (Am Ez).1 k e⟩
  ·obtain⟨x,hx,rfl⟩:=List.mem_map.1 e;exact⟨.inr (alw x hx).2,(alw x hx).1⟩
 have apP:k0≠[]:=by rw[ix];intro e;exact hw0 (List.map_eq_nil_iff.1 (List.append_eq_nil_iff.1 e).2)
 repeat' refine aJ ?_;intros
 refine yR (acD mO zQ) kQ hs.has (λk ah=>mO.2.2 k ah) λv yD w3 X3 P9 pV lT _ c3=>?_;have s3:=(s1.since hs).loc c3 λk ah=>s1.nw (mO.ge ah).1;have m3:Mv (bN il 4) w1 (bN il 4) w3:=λk (e:il k=4) _=>⟨e,(c3.block k (hs.sub k (s1.x k zQ)) λah=>by have:=(mO.ge ah).1;have:=s1.h.lt k zQ;omega).trans (hs.kp.block k (s1.x k zQ))⟩;have acF:=P9.sl.mono λk ah=>c3.sub k (mO.2.2 k ah);obtain⟨gk,hgk⟩: ∃gk,gk=fG k0:=⟨_,rfl⟩;have apQ:gk.length=k0.length:=by rw[hgk];exact(jx _).length_eq
 have ahg: ∀k∈gk,(k∈fq 1 1 (n.A b).p\/ ∃o∈(n.A b).p,k=o.key/\(o.code=2\/o.code=3))/\k.size<=24:=λk ah=>hkn k (by rw[hgk] at ah;exact(jx _).mem_iff.1 ah);have acG:gk≠[]:=λe=>apP (List.length_eq_zero_iff.1 (by rw[<-apQ,e];rfl));rw[<-hgk] at acF;replace mu:=mu.mv m3;clear hs ahf alx mO P9 ha oa c3 s1 m1 m3;have hs:=s3.rf;have hr:=s3.v.1;repeat' refine ak ?_;intros
 refine cd (NO (s3.zO 2:) hW acF zQ λk ah=>ad (ahg k ah).2 dQ) kQ hs.has ?_;rintro v4 zk w4 X4 q4 tr oH fV;obtain⟨lD,s4,m4,-,n4⟩:=(s3.since fV).uW (N:=made zk w4) λk hk=>⟨oH k hk,s3.nw (ad tr hk.1)⟩;replace mu:=(mu.mv (fV.gU (s3.sub 4))).mv m4;clear hs hr acF s3 m4;have hs:=s4.rf;by_cases he:(iV n.ds [] gk).2≠0
 ·rw[if_pos he] at q4;subst q4;repeat' refine aJ ?_;intros
  exact WW s4 he (.inr ⟨gk,acG,λk hk=>(ahg k hk).1,he⟩)
 rw[if_neg he] at q4;obtain⟨vg,rfl,lM⟩:=q4;have AN:(iV n.ds [] gk).2=0:=Classical.not_not.1 he;have aly:=TE hW AN;obtain⟨gs,lx⟩: ∃gs,gs=mD n.ds (iV n.ds [] gk).1:=⟨_,rfl⟩;rw[<-lx] at lM aly;have apR:gs≠[]:=by
  obtain⟨k,ah⟩:=List.exists_mem_of_ne_nil _ acG;obtain⟨g,hg,_⟩:=aly.rt k ah;exact List.ne_nil_of_mem hg
 have gW:gs.length<=80:=by
  rw[lx,mD,af,(mg _).length_eq,af];have:=OG (ds:=n.ds) (keys:=gk) (m:=[]);simp only[List.length_nil] at this;omega
 replace lM:=fp.mv lM oA.mv (Mv.sub n4);have sR:(n.A b).x.aO=(n.A b).x.aO:=rfl;obtain⟨ha,oa⟩:=s4.va hb;have ny:=(s4.h.act hb).1;repeat' refine aJ ?_;intros
 refine s4.st (o:=9) (tx b 0) ny (dX (eI n b { n.A b with x:= { (n.A b).x with pre:=true },pq:=true })) zQ kQ (Nat.le_of_ble_eq_true rfl) rfl (λ_ _ _ h=>qD dQ h)
  (Ik (λi hq' w K A p=>by
   rcases i with _|_|_|_|_|_|_|_|i<;>first|exact p|exact absurd rfl hq'|skip
   ·exact⟨p.1,p.2.1,λe=>by cases e⟩
   ·exact λ_=>by
     show Own w A 0 WY 1 (n.A b).x.vq ((n.A b).ids.map I1)
     rw[hq.1,hq.2.1];exact Own.nil _ _ _ _ _)) (λw5 X5 mE s5 m5=>?_) iy.1 iy.2
 replace mu:=mu.mv m5;replace lM:=fp.mv lM oA.mv m5;clear hs ha ny WW s4 oa;have hs:=s5.rf;have EA:=fp.mv lM oA.mv (Mv.sub (s5.sub 4));repeat' refine ak ?_;intros
 refine eY (λn' a w X=> ∃(i:Nat) (vq:Value) (aI:Nat->Nat),a=I (i:Nat)/\n'=gs.length-i/\i<=gs.length/\Sn w0 own w X aI (eI n b { n.A b with x:= { (n.A b).x with pre:=true,vq:=vq },ids:=(gs.take i).map (·.oR.id),pq:=true })/\
  Sl w (bN aI 4) 4 vl (wl.map KV.l)/\fp w (bN aI 4) 5 vg oA.rd gs) gs.length ⟨0,(n.A b).x.vq,mE,rfl,rfl,aq _,by rw[List.take_zero,kN,<-hq.2.1];exact s5,mu,lM⟩ ?_
 clear s5 hs EA mu lM;rintro n' _ w6 X6 ⟨i,vq,sy,rfl,rfl,hi6,s6,mu,lM⟩;have hs:=s6.rf;have EA:=fp.mv lM oA.mv (Mv.sub (s6.sub 4));rcases dE (gs) i with⟨cD,g,hx,hd⟩|⟨dD,hd⟩
 ·obtain⟨ha,oa⟩:=s6.vs hb;repeat' refine aJ ?_;intros
  refine FH EA hx rfl kQ kQ λbb oo ll qi jv=>?_;obtain⟨Hq,rfl,KI⟩:=jv;have ovk:=KI.one;change Cells w6 X6 bb oo [I g.oR.id,I g.oR.iD,.float .f64 g.oR.lo,.float .f64 g.oR.hi,Hq] at qi;repeat' first|refine ak ?_;intros|(refine q1s hs ?_;intro _ _ _ w X hs ho)
  replace mu:=mu.mv (hs.gU (s6.sub 4));replace lM:=fp.mv lM oA.mv (hs.gU (s6.sub 4));have s7:=s6.since hs;have tV:=Ch s7.h b 7 dQ hb;have ny:=(s7.h.act (b:=b) hb).1;rw[jq] at tV ny;have sR:((gs.take (i+1)).map (·.oR.id)).map I1=((gs.take i).map (·.oR.id)).map I1++[[I g.oR.id]]:=by
   rw[bT,hx];simp
  refine s7.ap1 (tx b 0) (tx b 7) 0 ny (tV rfl) ho.sl (λr hr u hu=>?_) oQ (λv=>dX (eI n b { n.A b with x:= { (n.A b).x with pre:=true,vq:=v },ids:=(gs.take (i+1)).map (·.oR.id),pq:=true })) (λ_ _ _ _ h=>qD dQ h) (λ_ _ _ _ h=>qD dQ λ_=>by
   show Own _ _ 0 WY 1 _ (((gs.take (i+1)).map (·.oR.id)).map I1)
   rw[sR];exact h) (λ_ _ _ _ _ h=>h) (λv'=>Qa) (λv' w9 X9 lU s9 m9=>?_) (yE:=by unfold tx;omega)
  ·rw[av] at hr;subst hr;rw[av] at hu;subst hu;rfl
  clear hs;repeat' refine ak ?_;intros
  exact ep (gs.length-(i+1)) zQ ⟨i+1,v',lU,by simp,rfl,by omega,s9,mu.mv m9,fp.mv lM oA.mv m9⟩
 rw[aA zQ] at s6;obtain⟨ids,EB⟩: ∃ids,ids=gs.map (·.oR.id):=⟨_,rfl⟩;rw[<-EB] at s6;have tV:=Ch s6.h b 7 dQ hb;rw[jq] at tV;obtain⟨Dd,s7,m7,e7,_⟩:=s6.KJ (F':=dX (eI n b { n.A b with x:= { (n.A b).x with pre:=true,vq:=vq },ids:=ids,pq:=false })) (· =tx b 7) iy.1.symm (λc hc w K=>by subst hc;exact qD dQ λe=>nomatch e) λc hc K A hK p=>by
  by_cases e:c=tx b 3
  ·subst e;rw[vN _ _ _ dQ] at p;have p:=p hb;rw[jq] at p;exact qD dQ ⟨p.1,p.2.1,λ_=>(tV rfl).sl.mono hK⟩
  ·exact(Qa (d:= { n.A b with x:= { (n.A b).x with pre:=true,vq:=vq },ids:=ids,pq:=true }) (d':= { n.A b with x:= { (n.A b).x with pre:=true,vq:=vq },ids:=ids,pq:=false }): ∀c,(c≠tx b 7/\c≠tx b 3/\c≠tx b 3)->_) c ⟨hc,e,e⟩ _ _ _ p
 replace mu:=mu.mv m7;replace lM:=fp.mv lM oA.mv m7;have NP:Sl w6 (bN Dd 4) 1 vq (ids.map I1):=(tV rfl).sl.mono e7;have pK:ids.length<=80:=by rw[EB,af];exact gW
 have hrw:(n.A b).rw.length=0:=by have:=(s7.h.act (b:=b) hb).2.2.2.1.1;rw[jq] at this;rw[show(n.A b).rw.length=(n.A b).ws.length from this,hws];rfl
 clear tV e7 s6 hs EA m7;obtain⟨q1,q2,q3,rfl⟩:=NP.form;have hs:=s7.rf;have EA:=fp.mv lM oA.mv (Mv.sub (s7.sub 4));repeat' refine aJ ?_;intros
 obtain⟨D,hD⟩: ∃D:Value->List (List Value)->List cO->pe,D=λvw rw pm=> { n.A b with x:= { (n.A b).x with pre:=true,vq:=.slice q1 q2 q3 },vw:=vw,rw:=rw,ws:=pm.map λm=>m.asked (n.A b).x,ids:=ids,pq:=false } :=⟨_,rfl⟩;have hD0:({ n.A b with x:= { (n.A b).x with pre:=true,vq:=.slice q1 q2 q3 },ids:=ids,pq:=false } :pe)=D (n.A b).vw (n.A b).rw []:=by rw[hD];dsimp only;rw[hws];rfl
 rw[hD0] at s7;refine alz (λn' a _ _ _ w X=> ∃(i:Nat) (lz:Value) (pJ:List (List Value)) (pm:List cO) (aI:Nat->Nat) (n1:bE),a=I (i:Nat)/\n'=gs.length-i/\i<=gs.length/\Sn w0 own w X aI n1/\Told (eI n b (D lz pJ pm)) (pm.map λm=>(m.asked (n.A b).x).pU (20+n.c.id)) n1/\pJ.length=i/\
  Sl w (bN aI 4) 4 vl (wl.map KV.l)/\fp w (bN aI 4) 5 vg oA.rd gs/\Sl w (bN aI 4) 1 (.slice q1 q2 q3) (ids.map I1)/\pm.map (·.range)=(gs.take i).map (·.oR.id)/\ ∀m∈pm,m.kind=3/\m.parts=ids/\m.Cx) gs.length ⟨0,_,_,[],Dd,_,rfl,rfl,aq _,s7,Told.nil _,hrw,mu,lM,NP,rfl,λm hm=>absurd hm sQ⟩ ?_
 clear s7 mu lM NP hrw hi6 dD hd hs EA hD0;rintro n' _ _ _ _ w6 X6 ⟨i,KK,KL,pm,sy,n1,rfl,rfl,hi6,s6,ht,qV,mu,lM,NP,Hr,pf⟩;have hs:=s6.rf;have EA:=fp.mv lM oA.mv (Mv.sub (s6.sub 4));obtain⟨WZ,Qb,wI,KM⟩:=id ht;have e1:n1.nb=n.nb/\n1.c=n.c/\n1.A b=D KK KL pm/\n1.rm.length=n.rm.length+pm.length:=by rw[wI];exact⟨rfl,rfl,jq,by rw[af] at KM;exact KM⟩
 have vO:pm.length=i:=by have:=congrArg ba Hr;simp at this;omega
 have lL:n1.dI b:=by rw[wI];exact hb
 obtain⟨ha,oa⟩:=s6.va lL;have Jr:=(s6.h.act lL).2.2.1.sl.mono (s6.sub _ iy.1);rw[e1.2.2.1,hD] at ha oa Jr;rcases dE (gs) i with⟨cD,g,hx,hd⟩|⟨dD,hd⟩
 ·repeat' refine aJ ?_;intros
  refine FH EA hx rfl kQ kQ λbb oo ll qi jv=>?_;obtain⟨Hq,rfl,KI⟩:=jv;have ovk:=KI.one;change Cells w6 X6 bb oo [I g.oR.id,I g.oR.iD,.float .f64 g.oR.lo,.float .f64 g.oR.hi,Hq] at qi;repeat' refine ak ?_;intros
  refine cd (AL ha (λ_ h=>h) Jr (by dsimp only;omega)) kQ hs.has ?_;rintro vr Qc w7 X7 ⟨ys,hys,q7⟩ R8 Gu oS;have hr7:Sl w7 X7 7 vr (ys.map fe.l):=(q7.mono Gu).sl;have hyl:ys.length<=2^20:=by rw[hys.length_eq];exact oC
  have ahh:=KI.since oS;have alA:=(mu.mono (s6.sub 4)).since oS;clear hs;have hs:=ai.eQ oS.has;repeat' refine ak ?_;intros
  refine gv (λn' a b' w X=> ∃(j:Nat) (vb:Value) (sl:List fe),a=I (j:Nat)/\b'=(DO ids sl [] g).v aP vb aP (.slice q1 q2 q3) aP aP aP aP/\n'=ys.length-j/\j<=ys.length/\ai X7 w7 X w/\sl.length<=j/\
   Own w X w7.heap.size 175 7 vb (sl.map fe.l)) ys.length ⟨0,aP,[],rfl,rfl,rfl,aq _,hs,au _,Own.nil _ _ _ _ _⟩ ?_
  clear hs;rintro n' _ _ w X ⟨j,vc,sl,rfl,rfl,rfl,hj,hs,hsj,TF⟩;have hrw:=hr7.since hs;rcases dE ys j with⟨hlj,y,hy,hdj⟩|⟨hgj,hdj⟩
  ·repeat' first|refine aJ ?_;intros|with_reducible apply cB
   refine Ht (uX (ahh.since hs)) kQ hs.has (λahi w8 X8 jZ=>?_) (λahi w8 X8 jZ=>?_)
   ·have ahj:=TF.since jZ;replace hs:=hs.trans jZ;clear TF jZ;repeat' first|refine ak ?_;intros|(with_reducible apply Qd);(case hX=>exact hs.has);(case he=>kernel_rfl);(case hk=>rfl);intro acc w X ax ho;obtain⟨_,_,_,rfl⟩:=ho.sl.form;replace hs:=hs.trans ax
    refine qj (ahj.since ax) hs oS.has kQ ho.sl (λr jP u hu=>?_) (by simp only[af,bR];omega) (by simp only[af,bR];omega) λv' w' X' sS vL c' dF=>?_
    ·rw[av] at jP;subst jP;simp only[ic,dq,or_false] at hu;rcases hu with rfl|rfl|rfl|rfl|rfl|rfl|rfl<;>rfl
    clear hs;have hs:=ai.eQ sS.has;have ov':=vL.sl.one;repeat' refine ak ?_;intros
    exact fw (ys.length-(j+1)) zQ ⟨j+1,v',sl++[y],by simp,rfl,rfl,by omega,sS,by simp;omega,by rw[aC];exact vL⟩
   ·repeat' refine ak ?_;intros
    exact fw (ys.length-(j+1)) zQ ⟨j+1,vc,sl,by simp,rfl,rfl,by omega,hs.trans jZ,by omega,TF.since jZ⟩
  have asf:sl.length<=2^20:=by omega
  have apT: ∀k,fc vc k->sy k=0/\w0.heap.size<=k:=λk e=>s6.nw (ad oS.kp.size (TF.ge e).1);replace mu:=mu.mv ((oS.trans hs).gU (s6.sub 4));replace lM:=fp.mv lM oA.mv ((oS.trans hs).gU (s6.sub 4));replace NP:=NP.mv ((oS.trans hs).gU (s6.sub 4));replace s6:=s6.since (oS.trans hs);have apU:=ahh.since hs;have ahf:=alA.since hs;obtain⟨wc,Xc,hwc,hXc⟩: ∃wc Xc,wc=w/\Xc=X:=⟨_,_,rfl,rfl⟩;subst hwc hXc;clear hs hrw alA ahh;have hs:=s6.rf;repeat' refine aJ ?_;intros
  refine gv (λn' a b' w X=> ∃(j:Nat) (vb:Value) (kl:List KV),a=I (j:Nat)/\b'=(DO ids sl kl g).v aP vc vb (.slice q1 q2 q3) aP aP aP aP/\n'=wl.length-j/\j<=wl.length/\ai Xc wc X w/\kl.length<=j/\
   Own w X wc.heap.size 178 4 vb (kl.map KV.l)) wl.length ⟨0,aP,[],rfl,rfl,rfl,aq _,hs,au _,Own.nil _ _ _ _ _⟩ ?_
  clear hs;rintro n' _ _ w X ⟨j,vb,kl,rfl,rfl,rfl,hj,hs,hkj,yF⟩;have apV:=ahf.since hs;rcases dE wl j with⟨hlj,y,hy,hdj⟩|⟨asw,hdj⟩
  ·repeat' first|refine aJ ?_;intros|with_reducible apply cB
   refine Ht (uX (apU.since hs)) kQ hs.has (λahi w8 X8 jZ=>?_) (λahi w8 X8 jZ=>?_)
   ·have ahj:=yF.since jZ;replace hs:=hs.trans jZ;clear yF jZ;repeat' first|refine ak ?_;intros|(with_reducible apply Qd);(case hX=>exact hs.has);(case he=>kernel_rfl);(case hk=>rfl);intro acc w X ax ho;obtain⟨_,_,_,rfl⟩:=ho.sl.form;replace hs:=hs.trans ax
    refine qj (ahj.since ax) hs s6.has kQ ho.sl (λr jP u hu=>?_) (by simp only[af,bR];omega) (by simp only[af,bR];omega) λv' w' X' sS vL c' dF=>?_
    ·rw[av] at jP;subst jP;simp only[ic,dq,or_false] at hu;rcases hu with rfl|rfl|rfl|rfl<;>rfl
    clear hs;have hs:=ai.eQ sS.has;have ov':=vL.sl.one;repeat' refine ak ?_;intros
    exact fw (wl.length-(j+1)) zQ ⟨j+1,v',kl++[y],by simp,rfl,rfl,by omega,sS,by simp;omega,by rw[aC];exact vL⟩
   ·repeat' refine ak ?_;intros
    exact fw (wl.length-(j+1)) zQ ⟨j+1,vb,kl,by simp,rfl,rfl,by omega,hs.trans jZ,by omega,yF.since jZ⟩
  repeat' refine aJ ?_;intros
  obtain⟨OK,s8,m8,-,n8⟩:=(s6.since hs).uW (N:=λk=>fc vb k\/fc vc k) λk e=>by
   rcases e with e|e
   ·exact⟨yF.2.2 k e,s6.nw (yF.ge e).1⟩
   ·exact⟨hs.sub k (TF.2.2 k e),apT k e⟩
  replace m8:=Mv.trans (hs.gU (s6.sub 4)) m8;replace mu:=mu.mv m8;replace lM:=fp.mv lM oA.mv m8;replace NP:=NP.mv m8;have hm8:(DO ids sl kl g).at w (bN OK 4) aP vc vb (.slice q1 q2 q3) aP aP aP aP:=
   ⟨Sl.nil _ _ _,(xy (TF.since hs) λk e=>n8 k (.inr e)).sl,(xy yF λk e=>n8 k (.inl e)).sl,NP,Sl.nil _ _ _,fp.nil _ _ _,fp.nil _ _ _,fp.nil _ _ _⟩
  have hf8:(DO ids sl kl g).Cx:=⟨by simp[DO,BR],by show sl.length<=_;omega,by show kl.length<=_;omega,by show ids.length<=_;omega⟩;rw[<-e1.1];refine s8.call (NR (n:=n1) (b:=b) (m:=DO ids sl kl g) s8.h s8.x lL hm8 hf8 (by rw[e1.2.1];exact hi) (by rw[e1.2.2.2];omega) (by rw[e1.2.2.1,hD];dsimp only;omega)) kQ λv w9 X9 lU n9 s9 q9 m9=>?_;obtain⟨vw9,rw9,Qe,W4⟩:=q9;rw[e1.2.2.1,e1.2.1] at W4;clear hs;repeat' refine ak ?_;intros
  refine alB (gs.length-(i+1)) zQ ⟨i+1,vw9,rw9,pm++[DO ids sl kl g],lU,n9,by simp,rfl,by omega,s9,?_,by rw[Qe,e1.2.2.1,hD];dsimp only;omega,mu.mv m9,fp.mv lM oA.mv m9,NP.mv m9,by rw[bT,hx];simp[Hr,DO],λm hm=>by
   rcases List.mem_append.1 hm with e|e
   ·exact pf m e
   ·rw[av] at e;subst e;exact⟨rfl,rfl,hf8⟩⟩
  have fN:=ht.set (b:=b) (e:=D vw9 rw9 (pm++[DO ids sl kl g]));rw[An] at fN;rw[aC];refine fN.add ?_;rw[hD] at W4⊢;simp only[aC,List.map_cons,kN];exact W4
 ·rw[aA dD] at Hr;rw[hD] at ht;repeat' refine aJ ?_;intros
  exact s6.fin λ_ _=>.inr ⟨ids,pm,_,KK,KL,by rw[EB];exact λe=>apR (List.map_eq_nil_iff.1 e),pK,by rw[Hr,EB],pf,⟨gk,acG,λk hk=>(ahg k hk).1,AN,by rw[EB,lx]⟩,by rw[<-hq.2.2] at ht;exact ht⟩
end
end Go.Proofs.YtgfijddlkhkopaaGreat