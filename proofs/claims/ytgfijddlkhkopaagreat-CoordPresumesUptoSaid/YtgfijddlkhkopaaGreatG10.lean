/- Part 10 of the proof. -/
import Derived.Shelf.SlIter.Nil
import Derived.Shelf.SlIterI.Nil
import Derived.Shelf.SortM.Plain
import Derived.Shelf.SortM.SortNone
import Derived.Shelf.SlSortCmp.WholeK
import Derived.Ground.GgzProg
import Derived.Ground.SlgmProg
import Derived.Ground.SlsfProg
import Derived.Shelf.SlGeneric
import Derived.Test.YtgfijddlkhkopaaGreatProg
import Derived.WalkKit
import Derived.Shelf.SlIter.Collect
import Derived.Test.YtgfijddlkhkopaaGreatG9
set_option linter.all false
open Go.Value renaming int → aA
open Go.IntKind renaming i64 → bZ
open Go.Op renaming bytesLess → bY
open List renaming length_map → af, length → bf, mem_singleton → av, length_singleton → bH, map_append → az, mem_cons → ij, not_mem_nil → dI, toList_toArray → cM, map_map → bw, nodup_nil → ti, map_nil → lh, length_cons → aM, take_add_one → cn, take_of_length_le → aB, filter_cons → eH, eq_nil_of_length_eq_zero → iK, append_assoc → ak
open Go.Operand renaming tmp → kK
open Nat renaming le_refl → au, le_trans → ad, zero_le → aq
open Go.Obj.cells renaming inj → ky
open Go.World renaming putObj_heap_other → fw, alloc_heap_new → jH, cell? → fp, putObj_heap_same → kg
open Go.Proofs renaming ltOf → mW, enters_of → za
open Go.Fence renaming wide → gg
open Go.Ground renaming data → tj, phase → rL
open Go.Result renaming andThen → xM
open Go.Code renaming wpIn → DX
open Go.Shelf renaming Ren → iQ
open Go.Proofs.SlLaysF0 renaming n6 → xg
open Bool renaming not_eq_true → Bn, or_eq_true → oL, and_eq_true → aC
open Go.Oper renaming semAt_plain → Bo
open Go.KeepsWalks renaming alloc → Bp, putObj → AZ
namespace Go.Proofs
open Go.Proofs.Tryz renaming prog → pg
open Go.Shelf
def Tryz.Ov:iQ:=⟨fun|6=>85|15=>143|14=>142|28=>210|29=>211|20=>202|21=>203|22=>204|23=>205|24=>206|25=>207|26=>208|27=>209|46=>282|47=>283|48=>284|49=>285|50=>286|57=>341|n=>n,fun|22=>59|24=>34|25=>118|3=>3|39=>263|0=>0|53=>351|55=>264|4=>4|46=>344|45=>343|50=>348|5=>5|9=>9|66=>411|70=>317|76=>466|77=>467|n=>n,fun|n=>n⟩
theorem Tryz.ak0:xg pg Tryz.Ov:= {
 mixed:=by kernel_rfl
 f6:=⟨Tryz.f85.name,by decide,Tryz.func85.trans Go.aJ.kS⟩
 f14:=⟨Tryz.f142.name,by decide,Tryz.func142.trans Go.aJ.kS⟩
 f15:=Tryz.func143.trans Go.aJ.kS
 f20:=⟨Tryz.f202.name,by decide,Tryz.func202.trans Go.aJ.kS⟩
 f21:=⟨Tryz.f203.name,by decide,Tryz.func203.trans Go.aJ.kS⟩
 f22:=⟨Tryz.f204.name,by decide,Tryz.func204.trans Go.aJ.kS⟩
 f23:=⟨Tryz.f205.name,by decide,Tryz.func205.trans Go.aJ.kS⟩
 f24:=⟨Tryz.f206.name,by decide,Tryz.func206.trans Go.aJ.kS⟩
 f25:=⟨Tryz.f207.name,by decide,Tryz.func207.trans Go.aJ.kS⟩
 f26:=⟨Tryz.f208.name,by decide,Tryz.func208.trans Go.aJ.kS⟩
 f27:=⟨Tryz.f209.name,by decide,Tryz.func209.trans Go.aJ.kS⟩
 f28:=Tryz.func210.trans Go.aJ.kS
 f29:=Tryz.func211.trans Go.aJ.kS
 f46:=⟨Tryz.f282.name,by decide,Tryz.func282.trans Go.aJ.kS⟩
 f47:=Tryz.func283.trans Go.aJ.kS
 f48:=Tryz.func284.trans Go.aJ.kS
 f49:=⟨Tryz.f285.name,by decide,Tryz.func285.trans Go.aJ.kS⟩
 f50:=⟨Tryz.f286.name,by decide,Tryz.func286.trans Go.aJ.kS⟩
 f57:=⟨Tryz.f341.name,by decide,Tryz.func341.trans Go.aJ.kS⟩
 t0:=Tryz.underlying0
 a0:=Tryz.isAgg0
 z0:=Tryz.sizeOf0
 v0:=Tryz.zeroValue0
 t3:=Tryz.underlying3
 a3:=Tryz.isAgg3
 z3:=Tryz.sizeOf3
 v3:=Tryz.zeroValue3
 t4:=Tryz.underlying4
 a4:=Tryz.isAgg4
 z4:=Tryz.sizeOf4
 v4:=Tryz.zeroValue4
 t5:=Tryz.underlying5
 a5:=Tryz.isAgg5
 z5:=Tryz.sizeOf5
 v5:=Tryz.zeroValue5
 t9:=Tryz.underlying9
 a9:=Tryz.isAgg9
 z9:=Tryz.sizeOf9
 v9:=Tryz.zeroValue9
 t22:=Tryz.underlying59
 a22:=Tryz.isAgg59
 z22:=Tryz.sizeOf59
 v22:=Tryz.zeroValue59
 t25:=Tryz.underlying118
 a25:=Tryz.isAgg118
 z25:=Tryz.sizeOf118
 v25:=Tryz.zeroValue118
 t39:=Tryz.underlying263
 a39:=Tryz.isAgg263
 z39:=Tryz.sizeOf263
 v39:=Tryz.zeroValue263
 t45:=Tryz.underlying343
 a45:=Tryz.isAgg343
 z45:=Tryz.sizeOf343
 v45:=Tryz.zeroValue343
 t46:=Tryz.underlying344
 a46:=Tryz.isAgg344
 z46:=Tryz.sizeOf344
 v46:=Tryz.zeroValue344
 t50:=Tryz.underlying348
 a50:=Tryz.isAgg348
 z50:=Tryz.sizeOf348
 v50:=Tryz.zeroValue348
 t53:=Tryz.underlying351
 a53:=Tryz.isAgg351
 z53:=Tryz.sizeOf351
 v53:=Tryz.zeroValue351
 t55:=Tryz.underlying264
 a55:=Tryz.isAgg264
 z55:=Tryz.sizeOf264
 v55:=Tryz.zeroValue264
 t66:=Tryz.underlying411
 a66:=Tryz.isAgg411
 z66:=Tryz.sizeOf411
 v66:=Tryz.zeroValue411
 t70:=Tryz.underlying317
 a70:=Tryz.isAgg317
 z70:=Tryz.sizeOf317
 v70:=Tryz.zeroValue317
 t76:=Tryz.underlying466
 a76:=Tryz.isAgg466
 z76:=Tryz.sizeOf466
 v76:=Tryz.zeroValue466
 t77:=Tryz.underlying467
 a77:=Tryz.isAgg467
 z77:=Tryz.sizeOf467
 v77:=Tryz.zeroValue467 }
def Tryz.Lo:iQ:=⟨fun|6=>156|15=>143|14=>227|28=>210|29=>211|20=>297|21=>298|22=>299|23=>300|24=>301|25=>302|26=>303|27=>304|46=>344|47=>283|48=>284|49=>345|50=>346|57=>366|n=>n,fun|22=>41|24=>175|25=>275|3=>3|39=>263|0=>0|53=>351|55=>264|4=>4|46=>344|45=>343|50=>348|5=>5|9=>9|66=>411|70=>317|76=>466|77=>467|n=>n,fun|n=>n⟩
theorem Tryz.ahZ:xg pg Tryz.Lo:= {
 mixed:=by kernel_rfl
 f6:=⟨Tryz.f156.name,by decide,Tryz.func156.trans Go.aJ.kS⟩
 f14:=⟨Tryz.f227.name,by decide,Tryz.func227.trans Go.aJ.kS⟩
 f15:=Tryz.func143.trans Go.aJ.kS
 f20:=⟨Tryz.f297.name,by decide,Tryz.func297.trans Go.aJ.kS⟩
 f21:=⟨Tryz.f298.name,by decide,Tryz.func298.trans Go.aJ.kS⟩
 f22:=⟨Tryz.f299.name,by decide,Tryz.func299.trans Go.aJ.kS⟩
 f23:=⟨Tryz.f300.name,by decide,Tryz.func300.trans Go.aJ.kS⟩
 f24:=⟨Tryz.f301.name,by decide,Tryz.func301.trans Go.aJ.kS⟩
 f25:=⟨Tryz.f302.name,by decide,Tryz.func302.trans Go.aJ.kS⟩
 f26:=⟨Tryz.f303.name,by decide,Tryz.func303.trans Go.aJ.kS⟩
 f27:=⟨Tryz.f304.name,by decide,Tryz.func304.trans Go.aJ.kS⟩
 f28:=Tryz.func210.trans Go.aJ.kS
 f29:=Tryz.func211.trans Go.aJ.kS
 f46:=⟨Tryz.f344.name,by decide,Tryz.func344.trans Go.aJ.kS⟩
 f47:=Tryz.func283.trans Go.aJ.kS
 f48:=Tryz.func284.trans Go.aJ.kS
 f49:=⟨Tryz.f345.name,by decide,Tryz.func345.trans Go.aJ.kS⟩
 f50:=⟨Tryz.f346.name,by decide,Tryz.func346.trans Go.aJ.kS⟩
 f57:=⟨Tryz.f366.name,by decide,Tryz.func366.trans Go.aJ.kS⟩
 t0:=Tryz.underlying0
 a0:=Tryz.isAgg0
 z0:=Tryz.sizeOf0
 v0:=Tryz.zeroValue0
 t3:=Tryz.underlying3
 a3:=Tryz.isAgg3
 z3:=Tryz.sizeOf3
 v3:=Tryz.zeroValue3
 t4:=Tryz.underlying4
 a4:=Tryz.isAgg4
 z4:=Tryz.sizeOf4
 v4:=Tryz.zeroValue4
 t5:=Tryz.underlying5
 a5:=Tryz.isAgg5
 z5:=Tryz.sizeOf5
 v5:=Tryz.zeroValue5
 t9:=Tryz.underlying9
 a9:=Tryz.isAgg9
 z9:=Tryz.sizeOf9
 v9:=Tryz.zeroValue9
 t22:=Tryz.underlying41
 a22:=Tryz.isAgg41
 z22:=Tryz.sizeOf41
 v22:=Tryz.zeroValue41
 t25:=Tryz.underlying275
 a25:=Tryz.isAgg275
 z25:=Tryz.sizeOf275
 v25:=Tryz.zeroValue275
 t39:=Tryz.underlying263
 a39:=Tryz.isAgg263
 z39:=Tryz.sizeOf263
 v39:=Tryz.zeroValue263
 t45:=Tryz.underlying343
 a45:=Tryz.isAgg343
 z45:=Tryz.sizeOf343
 v45:=Tryz.zeroValue343
 t46:=Tryz.underlying344
 a46:=Tryz.isAgg344
 z46:=Tryz.sizeOf344
 v46:=Tryz.zeroValue344
 t50:=Tryz.underlying348
 a50:=Tryz.isAgg348
 z50:=Tryz.sizeOf348
 v50:=Tryz.zeroValue348
 t53:=Tryz.underlying351
 a53:=Tryz.isAgg351
 z53:=Tryz.sizeOf351
 v53:=Tryz.zeroValue351
 t55:=Tryz.underlying264
 a55:=Tryz.isAgg264
 z55:=Tryz.sizeOf264
 v55:=Tryz.zeroValue264
 t66:=Tryz.underlying411
 a66:=Tryz.isAgg411
 z66:=Tryz.sizeOf411
 v66:=Tryz.zeroValue411
 t70:=Tryz.underlying317
 a70:=Tryz.isAgg317
 z70:=Tryz.sizeOf317
 v70:=Tryz.zeroValue317
 t76:=Tryz.underlying466
 a76:=Tryz.isAgg466
 z76:=Tryz.sizeOf466
 v76:=Tryz.zeroValue466
 t77:=Tryz.underlying467
 a77:=Tryz.isAgg467
 z77:=Tryz.sizeOf467
 v77:=Tryz.zeroValue467 }
end Go.Proofs
namespace Go.Proofs.YtgfijddlkhkopaaGreat
open Go.Proofs.Tryz renaming prog → pg
open Go.aJ Go.RowKit Go.Sort
set_option maxRecDepth 100000
set_option maxHeartbeats 4000000
theorem adm (a b:bu) (W:World):Calls pg 42 #[a.v,b.v] W λe w'=>e= .returned (.bool (a.less b))/\adn W w':=by
 go_enter Tryz.func42,Tryz.ntmps42
 go_wp2
 all_goals go_ret
 all_goals refine⟨?_,_,by rw[alloc_eq_grow,alloc_eq_grow,grow_grow]⟩
 all_goals simp_all [bu.less]
theorem ado (a b:bu) (W:World):Calls pg 41 #[a.v,b.v] W
  λe w'=>e= .returned (I (if a.less b then-1 else 1))/\adn W w':=by
 have ah0:=adm a b;change∀W',Calls pg 42 #[.agg #[I a.dU,I a.aN,I a.sq],.agg #[I b.dU,I b.aN,I b.sq]] W' _ at ah0;generalize a.less b=r at ah0⊢
 go_enter Tryz.func41,Tryz.ntmps41
 go_wp2_with (go_at_call 42;refine(ah0 _).mono ?_;rintro e w' ⟨rfl,os,rfl⟩)
 all_goals go_ret
 all_goals refine⟨?_,_,by rw[alloc_eq_grow,alloc_eq_grow,grow_grow,grow_grow]⟩
 all_goals rfl
variable {a b : bu}
theorem bu.Pr:a.less b=true↔a.dU<b.dU\/a.dU=b.dU/\(a.aN<b.aN\/a.aN=b.aN/\a.sq<b.sq):=by
 unfold bu.less;split
 ·simp;omega
 ·split
  ·simp;omega
  grind
theorem bu.abi (a:bu):a.less a=false:=by
 rw[<-Bn,bu.Pr];omega
variable {c : bu}
theorem bu.adp (h1:a.less b=true) (h2:b.less c=true):a.less c=true:=by
 rw[bu.Pr] at*;omega
theorem bu.abj (h1:a.less b=false) (h2:b.less c=false):a.less c=false:=by
 rw[<-Bn,bu.Pr] at*;omega
instance:Inhabited bu:=⟨⟨0,0,0⟩⟩
instance:Inhabited fc:=⟨⟨⟨#[]⟩,.zero,.zero⟩⟩
def adq (x y:bu):Int:=if x.less y then-1 else 1
theorem WT (x y:bu):mW adq x y=x.less y:=by grind [mW,adq]
theorem amr:Go.Sort.SWO (mW adq) where
 irrefl x:=by rw[WT];exact bu.abi _
 trans x y z:=by grind [WT,bu.adp]
 ntrans x y z:=by grind [WT,bu.abj]
variable {v : Value} {lo : Nat} {X : XS} {w : World}
theorem abk {xs:List bu} (own:Own w X lo 34 3 v (xs.map bu.l)) (hb:xs.length<2^61):
  Ct pg 85 #[v,.func (.func 41) #[] #[]] w X (cU v) λr _ w'=>r= .tuple #[]/\ ∃ys:List bu,ys.Perm xs/\ys.Pairwise (λa b=>b.less a=false)/\Own w' (cU v) lo 34 3 v (ys.map bu.l):=by
 have h:=acr (P:=pg) (ρ:=Tryz.Ov) Tryz.ak0 (k:=3) zQ Tryz.isAgg34 Tryz.sizeOf34 (enc:=bu.l) (λ_=>rfl)
  (λx u hu=>by simp only[bu.l,ij,dI,or_false] at hu;rcases hu with h|h|h<;>subst h<;>rfl) (cf:=adq) amr (g:=41)
  (za Tryz.func41 kQ rfl) (λx y W=>ado x y W) own hb
 simp only[WT] at h;exact h
theorem QQ: ∀l:List UInt8,bY l l=false
 |[]=>rfl
 |a::l=>by simp[bY,QQ l,UInt8.lt_irrefl]
theorem Ur: ∀{a b:List UInt8},bY a b=false->a≠b->bY b a=true
 |[],[],_,h=>absurd rfl h
 |_::_,[],_,_=>by rfl
 |[],_::_,h,_=>by simp[bY] at h
 |a::l,b::m,h,bU=>by
  simp only[bY,oL,aC,decide_eq_true_eq,beq_iff_eq,Bool.or_eq_false_iff,Bool.and_eq_false_iff,decide_eq_false_iff_not] at h⊢;obtain⟨h1,h2⟩:=h;by_cases xh:a=b
  ·subst xh;right;refine⟨rfl,Ur ?_ λe=>bU (by rw[e])⟩
   grind
  grind
theorem Lp: ∀{a b c:List UInt8},bY a b=true->bY b c=true->bY a c=true
 |[],[],_,h,_=>by simp[bY] at h
 |[],_::_,[],_,h=>by simp[bY] at h
 |[],_::_,_::_,_,_=>by simp[bY]
 |_::_,[],_,h,_=>by simp[bY] at h
 |_::_,_::_,[],_,h=>by simp[bY] at h
 |a::l,b::m,c::r,h1,h2=>by
  simp only[bY,oL,aC,decide_eq_true_eq,beq_iff_eq] at h1 h2⊢;rcases h1 with h1|⟨rfl,h1⟩
  ·rcases h2 with h2|⟨rfl,h2⟩
   ·exact .inl (UInt8.lt_trans h1 h2)
   ·exact .inl h1
  ·rcases h2 with h2|⟨rfl,h2⟩
   ·exact .inl h2
   ·exact .inr ⟨rfl,Lp h1 h2⟩
theorem abl (a b:fc) (W:World):Calls pg 157 #[.agg a.l.toArray,.agg b.l.toArray] W
  λe w'=>e= .returned (I (if bY a.key.toList b.key.toList then-1 else 1))/\adn W w':=by
 change Calls pg _ #[.agg #[.string a.key,I a.val.kind,.float .f64 a.val.num,.string a.val.text,I a.aV.wall,I a.aV.dx,I a.aV.node],.agg #[.string b.key,I b.val.kind,.float .f64 b.val.num,.string b.val.text,I b.aV.wall,I b.aV.dx,I b.aV.node]] W _
 go_enter Tryz.func157,Tryz.ntmps157
 go_wp2
 all_goals go_ret
 all_goals refine⟨?_,_,by rw[alloc_eq_grow,alloc_eq_grow,grow_grow]⟩
 all_goals simp_all
def adr (x y:fc):Int:=if bY x.key.toList y.key.toList then-1 else 1
theorem ads (x y:fc):mW adr x y=bY x.key.toList y.key.toList:=by grind [mW,adr]
theorem adt {a b c:List UInt8} (h1:bY a b=false) (h2:bY b c=false):bY a c=false:=by grind [Ur,Lp]
theorem ams:Go.Sort.SWO (mW adr) where
 irrefl x:=by rw[ads];exact QQ _
 trans x y z:=by grind [ads,Lp]
 ntrans x y z:=by grind [ads,adt]
theorem abm {xs:List fc} (own:Own w X lo 175 7 v (xs.map fc.l)) (hb:xs.length<2^61):
  Ct pg 156 #[v,.func (.func 157) #[] #[]] w X (cU v) λr _ w'=>r= .tuple #[]/\ ∃ys:List fc,ys.Perm xs/\Own w' (cU v) lo 175 7 v (ys.map fc.l):=by
 have h:=acr (P:=pg) (ρ:=Tryz.Lo) Tryz.ahZ (k:=7) zQ Tryz.isAgg175 Tryz.sizeOf175 (enc:=fc.l) (λ_=>rfl)
  (λx u hu=>by simp only[fc.l,ij,dI,or_false] at hu;rcases hu with h|h|h|h|h|h|h<;>subst h<;>rfl) (cf:=adr) ams (g:=157)
  (za Tryz.func157 kQ rfl) (λx y W=>abl x y W) own hb
 exact h.mono λ_ _ _ _ ⟨q1,ys,q2,_,q3⟩=>⟨q1,ys,q2,q3⟩
open Go.Maps Go.Shelf Go.ChangeMaps
abbrev H2:Nat:=86
abbrev XQ:Nat:=104
abbrev tT:Nat:=34
structure Hk (w:World) (b:Nat) (es:List (jy bu)) (c:Nat):Prop where
 gJ:w.heap[b]? =some (.map (es.map (lL λk:bu=>k.v)).toArray c)
 nd:(es.map (·.2.2)).Nodup
 lt: ∀x∈es,x.2.2<c
def ue (es:List (jy bu)) (seen:Array Nat):List (jy bu):=es.filter λx=>!seen.contains x.2.2
theorem Ps (es:List (jy bu)) (seen:Array Nat):(leftOf (es.map (lL λk:bu=>k.v)).toArray seen).toList=(ue es seen).map (lL λk:bu=>k.v):=by
 simp only[leftOf,ue,Array.toList_filter,cM,List.filter_map];rfl
variable {seen : Array Nat} {es : List (jy bu)}
theorem QR (hn:(es.map (·.2.2)).Nodup) {x:jy bu} (hx:x∈ue es seen):((x::ue es (seen.push x.2.2)).Perm (ue es seen)):=by
 have mf:=List.mem_filter.1 hx;have e:ue es (seen.push x.2.2)=(ue es seen).filter λy=>decide (y.2.2≠x.2.2):=by
  unfold ue;rw[List.filter_filter]
  congr 1
  funext y
  by_cases hy:y.2.2=x.2.2<;>simp_all
 rw[e];have mE:((ue es seen).map (·.2.2)).Nodup:=hn.sublist (List.Sublist.map _ List.filter_sublist);generalize ue es seen=l at hx mE
 induction l with
 |nil=>cases hx
 |cons y l ih=>
  have h1:=List.nodup_cons.1 mE;rcases List.mem_cons.1 hx with rfl|Br
  ·rw[eH,if_neg sQ];have:l.filter (λy=>decide (y.2.2≠x.2.2))=l:=List.filter_eq_self.2 λz hz=>by
    have:z.2.2≠x.2.2:=λe=>h1.1 (List.mem_map.2 ⟨z,hz,e⟩)
    grind
   rw[this]
  ·have bU:y.2.2≠x.2.2:=λe=>h1.1 (List.mem_map.2 ⟨x,Br,e.symm⟩);rw[eH,if_pos gQ];exact(List.Perm.swap _ _ _).trans ((ih Br h1.2).cons _)
theorem afZ (w:World) (r:Nat) (o:Obj):w.grownBy (setBlock w r o) (some r)/\(setBlock w r o).heap.size=w.heap.size:=
 ⟨⟨rfl,rfl,rfl,by simp[setBlock],λk hk bU=>by
  have:r≠k:=λe=>bU (by rw[e]);simp[setBlock,Array.getElem?_setIfInBounds,this]⟩,by simp[setBlock]⟩
variable {r : Nat}
section
variable {F : Fence} {n : Nat} {ops : Array Oper} {Q : Exit -> Act -> World -> Prop} {o : Oper} {rest : List Oper} {a : Act} {b c : Nat}
theorem Pt (hg:o.guard=none) (m:Operand) (xf:o.op=Op.range XQ m) (hm:a.eval m= .map (some b)) (h:Hk w b es c)
  (hK:wpListIn F n pg ops Q rest (a.put o.dst (ptr w.heap.size 0)) (w.alloc (.mapIter (some b) c #[] c))):wpListIn F n pg ops Q (o::rest) a w:=by
 refine wpListIn_plain hg λK' hK'=>?_;have oB:=run_range_map (P:=pg) w XQ tT 116 b _ c kQ h.gJ;unfold Oper.wpIn;refine⟨by simp[Oper.about,xf],?_⟩;rw[Bo F _ _ (by rw[xf];intro c AX;cases AX)];simp[execOp,xf,hm,oB,xM];exact hK' _ _ hK
theorem QS (hg:o.guard=none) (it:Operand) (xf:o.op=Op.next it false) (seen:Array Nat) (Ox:a.eval it= .pointer (some ⟨r,0,none⟩)) (hb:Hk w b es c) (Oy:r≠b) (hr:w.heap[r]? =some (.mapIter (some b) c seen c))
  (api:ue es seen=[]->wpListIn F n pg ops Q rest (a.put o.dst (.tuple #[.bool false])) w)
  (apj: ∀x∈ue es seen,∀w',w.grownBy w' (some r)->w'.heap.size=w.heap.size->w'.heap[r]? =some (.mapIter (some b) c (seen.push x.2.2) c)->
   (Instr.entry (.pointer (some ⟨r,0,none⟩))).run pg w'= .ok (.tuple #[x.1.v,x.2.1]) w'->wpListIn F n pg ops Q rest (a.put o.dst (.tuple #[.bool true,x.1.v,x.2.1])) w'):
  wpListIn F n pg ops Q (o::rest) a w:=by
 refine wpListIn_plain hg λK' hK'=>?_;unfold Oper.wpIn;refine⟨by simp[Oper.about,xf],?_⟩;rw[Bo F _ _ (by rw[xf];intro c AX;cases AX)];have hold: ∀x∈((es.map (lL λk:bu=>k.v)).toArray).toList,x.born<c:=by
  intro x hx;simp only[cM,List.mem_map] at hx;obtain⟨y,hy,rfl⟩:=hx;exact hb.lt y hy
 rcases run_next_at (P:=pg) w o.type r b c c seen _ c hr hb.gJ hold (au _)with⟨hz,oB⟩|⟨e,he,w1,A2,oB⟩
 ·simp[execOp,xf,Ox,oB,xM];refine hK' _ _ (api ?_);have:(ue es seen).map (lL λk:bu=>k.v)=[]:=by rw[<-Ps];exact iK (by simpa using hz)
  simpa using this
 ·rw[Ps] at he;obtain⟨x,hx,rfl⟩:=List.mem_map.1 he;simp[execOp,xf,Ox,oB,xM];have rq:r<w.heap.size:=(Array.getElem?_eq_some_iff.1 hr).1;obtain⟨hw,gf⟩:w.grownBy (setBlock w1 r (.mapIter (some b) c (seen.push x.2.2) c)) (some r)/\(setBlock w1 r (.mapIter (some b) c (seen.push x.2.2) c)).heap.size=w.heap.size:=by
   have h1:=afZ w1 r (.mapIter (some b) c (seen.push x.2.2) c);rcases A2 with e|e
   ·rw[e] at h1⊢;exact h1
   ·rw[e] at h1⊢;exact⟨⟨h1.1.os,h1.1.tape,h1.1.output,h1.1.size,h1.1.block⟩,h1.2⟩
  have jU:(setBlock w1 r (.mapIter (some b) c (seen.push x.2.2) c)).heap[r]? =some (.mapIter (some b) c (seen.push x.2.2) c):=Lq (by rcases A2 with rfl|rfl<;>exact rq);refine hK' _ _ (apj x hx _ hw gf jU ?_);have dW:=(hw.block b (Array.getElem?_eq_some_iff.1 hb.gJ).1 (λe=>Oy (by cases e;rfl))).trans hb.gJ;exact run_entry_at (P:=pg) _ r b c seen (es.map (lL λk:bu=>k.v)).toArray c (lL (λk:bu=>k.v) x) jU dW (by rw[cM];exact List.mem_map.2 ⟨x,(List.mem_filter.1 hx).1,rfl⟩)
   (by rw[cM,bw];exact hb.nd)
theorem Oz {b c:Nat} (hb:Hk w b es c) (hr:w.heap[r]? =some (.mapIter (some b) c seen c)):w.rangeLeft b r=(ue es seen).length:=by
 unfold World.rangeLeft;rw[hb.gJ,hr];have h1:=congrArg bf (Ps es seen)
 grind
theorem abn {Bm:Nat} (hBm:Bm<w.heap.size) (hm:w.cell? ⟨Bm,0,none⟩=some (.map (some b))) (h:Hk w b es c):
  SeqGives gg 5 pg H2 #[.pointer (some ⟨Bm,0,none⟩)] (λt:bu=>t.v) (λts=>ts.Perm (es.map (·.1))) es.length w:=λl J W hW hJ hY h0=>by
 have hT:Hk W b es c:=⟨(hW.block b (Array.getElem?_eq_some_iff.1 h.gJ).1).trans h.gJ,h.nd,h.lt⟩;have Us:=(hW.cell (p:=⟨Bm,0,none⟩) hBm).trans hm;refine callsIn_of_wp (f:=H2) (fn:=Tryz.f86) kQ rfl trivial ?_ rfl;rw[Tryz.ntmps86];change DX _ _ _ _ _ ⟨#[.func (.yield l) #[] #[],.pointer (some ⟨Bm,0,none⟩),undef,undef,undef,undef,undef,undef,undef,undef,undef,undef,undef,undef],[]⟩ W
 gi_wp2_with (first
  |(gi_at_range;refine Pt rfl _ rfl rfl hT ?_)
  |gi_in)
 have JX:=(Array.getElem?_eq_some_iff.1 hT.gJ).1;have Fb:W.grownBy (W.alloc (.mapIter (some b) c #[] c)) none:=⟨rfl,rfl,rfl,by simp,λk hk _=>Below.heap_alloc _ _ k hk⟩;have Gx:(W.alloc (.mapIter (some b) c #[] c)).heap[W.heap.size]? =some (.mapIter (some b) c #[] c):=jH _ _
 gi_loopw [3] (λ_ wr=> ∃(seen:Array Nat) (ts:List bu),Hk wr b es c/\wr.heap[W.heap.size]? =some (.mapIter (some b) c seen c)/\(ts++(ue es seen).map (·.1)).Perm (es.map (·.1))/\J ts wr)
  (λ_ wr=>wr.rangeLeft b W.heap.size)
 case atStart=>
  refine⟨#[],[],⟨(Fb.block b JX sQ).trans hT.gJ,h.nd,h.lt⟩,Gx,?_,hJ [] W _ none h0 Fb (λr e=>by cases e)⟩;have:ue es #[]=es:=List.filter_eq_self.2 sQ;rw[this];rfl
 case round=>
  obtain⟨seen,ts,hb,hr,hp,hJs⟩:=hrel
  gi_wp2_with (first
   |(gi_at_next;refine QS rfl _ rfl seen rfl hb zQ hr ?_ ?_)
   |gi_in)
  ·intro hl0
   gi_wp2
   go_end0
   exact⟨⟨_,rfl⟩,ts,by rw[hl0] at hp;simpa using hp,hJs⟩
  ·intro x v0 bn hx w2 xN bA jI Cb;have hJ2:J ts w2:=hJ ts wr w2 (some W.heap.size) hJs xN (λr e=>by cases e;exact⟨au _,_,hr,rfl⟩);have uY:Hk w2 b es c:=⟨(xN.block b (Array.getElem?_eq_some_iff.1 hb.gJ).1 (λe=>by cases e;omega)).trans hb.gJ,hb.nd,hb.lt⟩;have hlen:ts.length<es.length:=by
    have h1:=hp.length_eq;have h2:=List.length_pos_of_mem hx;simp only[List.length_append,af] at h1;omega
   have hJ3:J ts (w2.alloc (.cells #[aA bZ x.dU,aA bZ x.aN,aA bZ x.sq] 34)):=hJ ts w2 _ none hJ2 ⟨rfl,rfl,rfl,by simp,λk hk _=>Below.heap_alloc _ _ k hk⟩ (λr e=>by cases e);obtain⟨fn,tmps,assign,body,hy,hR⟩:=hY ts x _ hJ3 hlen;change (Instr.yield l #[Value.agg #[aA bZ x.dU,aA bZ x.aN,aA bZ x.sq]]).run pg _=_ at hy;have rM:Hk (w2.alloc (.cells #[aA bZ x.dU,aA bZ x.aN,aA bZ x.sq] 34)) b es c:=⟨(Below.heap_alloc _ _ b (Array.getElem?_eq_some_iff.1 uY.gJ).1).trans uY.gJ,hb.nd,hb.lt⟩;have Ei:(w2.alloc (.cells #[aA bZ x.dU,aA bZ x.aN,aA bZ x.sq] 34)).heap[W.heap.size]? =some (.mapIter (some b) c (seen.push bn) c):=(Below.heap_alloc _ _ _ (Array.getElem?_eq_some_iff.1 jI).1).trans jI;clear bA
   gi_wp2
   refine hR.mono ?_;rintro e W3 ⟨rfl,hJ4,JY⟩;have zc:Hk W3 b es c:=⟨JY.same b _ rM.gJ rfl,hb.nd,hb.lt⟩;have zO:=JY.same _ _ Ei rfl
   gi_wp2
   go_roundw
   case rel=>
    refine⟨seen.push bn,ts++[x],zc,zO,?_,hJ4⟩;have hq:=(QR h.nd hx).map (·.1);refine List.Perm.trans ?_ hp;rw[ak];exact(List.Perm.append_left ts hq)
   case measure=>
    rw[Oz zc zO,Oz hb hr];have:=(QR h.nd hx).length_eq;simp only[aM] at this;omega
end
abbrev Dm:Nat:=59
abbrev T3 (t:bu):List Value:=[aA bZ t.dU,aA bZ t.aN,aA bZ t.sq]
def Lr:Code:=(Code.region 2 #[{ dst:=some 5,op:=Op.alloc tT,type:=0,pos:= "iter.go:51",after:= #[],guard:=none },{ dst:=none,op:=Op.store tT (kK 5) (kK 7),type:=0,pos:= "iter.go:51",after:= #[{ on:=0,ground:=tj },{ on:=0,ground:=rL }],guard:=none }] false)
def S2:Code:=(Code.block 1 (Code.region 3 #[{ dst:=some 8,op:=Op.load Dm (kK 2),type:=Dm,pos:= "iter.go:52",after:= #[],guard:=none },{ dst:=some 9,op:=Op.load tT (kK 5),type:=tT,pos:= "iter.go:52",after:= #[],guard:=none },{ dst:=some 10,op:=Op.buildSlice Dm 1 #[(0,kK 9)],type:=Dm,pos:= "iter.go:52",after:= #[{ on:=1,ground:=tj }],guard:=none },{ dst:=some 11,op:=Op.call { callee:=Callee.builtin Builtin.append,args:= #[kK 8,kK 10],argTypes:= #[Dm,Dm] },type:=Dm,pos:= "iter.go:52",after:= #[{ on:=0,ground:=tj },{ on:=2,ground:=tj }],guard:=none },{ dst:=none,op:=Op.store Dm (kK 2) (kK 11),type:=0,pos:= "iter.go:52",after:= #[{ on:=3,ground:=tj },{ on:=3,ground:=Ground.chain },{ on:=0,ground:=rL },{ on:=1,ground:=rL },{ on:=2,ground:=rL },{ on:=3,ground:=rL }],guard:=none }] false))
def xO (fn:FuncId) (sv:Value) (Bs D:Nat) (st:LoopState) (ib:Option Code):Loop:=
 { state:=st,pending:=ib,fn,tmps:= #[.slice none 0 0,sv,.pointer (some ⟨Bs,0,none⟩),undef,.slice none 0 0,undef,sv,undef,undef,undef,undef,undef,undef],params:= #[7],assign:=Lr,body:=S2,defers:=D }
structure ApT (w0:World) (fn:FuncId) (sv:Value) (Bs l D:Nat) (ts:List bu) (W:World):Prop where
 box: ∃v,W.heap[Bs]? =some (.cells #[v] Dm (0,0))/\W.ownsRow w0.heap.size tT 3 v ts.length (ts.map T3).flatten
 L:W.heap[l]? =some (.loop (xO fn sv Bs D .ready none))
 K:W.heap[D]? =some (.deferred (some []))
 below:Below w0.heap.size w0 W
theorem adu (w0:World) (fn:FuncId) (sv:Value) (Bs l D B:Nat) (hB:w0.heap.size<=B):AbidesFrom B (ApT w0 fn sv Bs l D):=λs W W' row h hg br=>by
 have Ew: ∀r,row=some r-> ∃o:Obj,W.heap[r]? =some o/\o.isWalk=true:=λr e=>(br r e).2;obtain⟨v,hv,hr⟩:=h.box;exact⟨⟨v,(grownBy_keeps hg Ew hv rfl).trans hv,ownsRow_abides_a hr hg Ew⟩,(grownBy_keeps hg Ew h.L rfl).trans h.L,(grownBy_keeps hg Ew h.K rfl).trans h.K,
  h.below.grown hg h.below.size (λk e=>ad hB (br k e).1)⟩
theorem af0 (w:World) (xs:List Value) (t:TypeId): ∀(j:Nat) u,xs[j]? =some u->(w.alloc (.cells xs.toArray t)).cell? ((⟨w.heap.size,0,none⟩:Addr).add j)=some u:=by
 intro j u hj;rw[Addr.add_lit];simp only[fp,jH];simpa using hj
theorem ah1 (m:Nat) (w0:World) (fn:FuncId) (sv:Value) (Bs l D:Nat) (hBl:Bs≠l) (hDl:D≠l) (hDB:D≠Bs) (h0B:w0.heap.size<=Bs) (h0l:w0.heap.size<=l)
    (N:Nat) (hN:N<=2^40) (ts:List bu) (x:bu) (W:World) (h:ApT w0 fn sv Bs l D ts W) (hlen:ts.length<N):
    YieldAt gg m pg l #[x.v] W λe W'=>e= .returned (.bool true)/\ApT w0 fn sv Bs l D (ts++[x]) W'/\KeepsWalks W W':=by
  have bU:Dm≠tT:=by decide
  obtain⟨i0,hi,Ls,QT,JZ⟩:=info_parts (P:=pg) (e:=tT) (z:=(⟨0,0,0⟩:bu).v) (size:=3) (bytes:=24) kQ;obtain⟨v,hv,br⟩:=h.box;refine⟨fn,#[.slice none 0 0,sv,.pointer (some ⟨Bs,0,none⟩),undef,.slice none 0 0,undef,sv,x.v,undef,undef,undef,undef,undef],Lr,S2,by simpa [xO] using run_yield (P:=pg) (args:= #[x.v]) h.L rfl,roundIn_of_wpIn trivial ?_⟩;have hlW:l<W.heap.size:=(Array.getElem?_eq_some_iff.1 h.L).1;have hBW:Bs<W.heap.size:=(Array.getElem?_eq_some_iff.1 hv).1;have hDW:D<W.heap.size:=(Array.getElem?_eq_some_iff.1 h.K).1;obtain⟨WA,hWA⟩: ∃WA,W.alloc (.cells #[aA bZ x.dU,aA bZ x.aN,aA bZ x.sq] tT)=WA:=⟨_,rfl⟩;have adv: ∀k,k<W.heap.size->WA.heap[k]? =W.heap[k]? :=λk hk=>by rw[<-hWA];exact Below.heap_alloc _ _ k hk
  have hvA:=(adv Bs hBW).trans hv;have hLA:=(adv l hlW).trans h.L;have hKA:=(adv D hDW).trans h.K;have hxA:WA.heap[W.heap.size]? =some (.cells #[aA bZ x.dU,aA bZ x.aN,aA bZ x.sq] tT (0,0)):=by rw[<-hWA];exact jH _ _
  have hkA:KeepsWalks W WA:=by rw[<-hWA];exact Bp _ _
  have Ut:Below w0.heap.size w0 WA:=by rw[<-hWA];exact h.below.alloc h.below.size _
  have akn:WA.ownsRow w0.heap.size tT 3 v ts.length (ts.map T3).flatten:=by rw[<-hWA];exact br.alloc _
  have atk:WA.heap.size=W.heap.size+1:=by rw[<-hWA];simp
  have hbr:=run_beginRound (P:=pg) hLA rfl;obtain⟨W2,Uu⟩: ∃W2,WA.putObj l (.loop { xO fn sv Bs D .ready none with state:=.busy })=W2:=⟨_,rfl⟩;rw[Uu] at hbr;have xN:WA.grownBy W2 (some l):=by rw[<-Uu];exact grownBy_putObj_a _ _ _
  have J0:KeepsWalks W W2:=hkA.trans (by rw[<-Uu];exact AZ _ hLA rfl);have rN:W2.heap[Bs]? =some (.cells #[v] Dm (0,0)):=by rw[<-Uu];exact(fw hBl).trans hvA
  have hK2:W2.heap[D]? =some (.deferred (some [])):=by rw[<-Uu];exact(fw hDl).trans hKA
  have hL2:W2.heap[l]? =some (.loop { xO fn sv Bs D .ready none with state:=.busy }):=by rw[<-Uu];exact kg zQ
  have XR:W2.heap[W.heap.size]? =some (.cells #[aA bZ x.dU,aA bZ x.aN,aA bZ x.sq] tT (0,0)):=by rw[<-Uu];exact(fw zQ).trans hxA
  have Ey:W2.ownsRow w0.heap.size tT 3 v ts.length (ts.map T3).flatten:=akn.kept xN (ownsRow_ne_a akn hLA (λcur e=>by first|cases e|exact bU (ky e).2.1));have uY:Below w0.heap.size w0 W2:=Ut.grown xN Ut.size (λk e=>by cases e;exact h0l);have atl:W2.cell? ⟨W.heap.size,0,none⟩=some (aA bZ x.dU):=by simp[fp,XR]
  have atm:W2.cell? ⟨W.heap.size,1,none⟩=some (aA bZ x.aN):=by simp[fp,XR]
  have atn:W2.cell? ⟨W.heap.size,2,none⟩=some (aA bZ x.sq):=by simp[fp,XR]
  obtain⟨qt,XT⟩:=cell_of_box_a rN;have aqI:Bs<W2.heap.size:=(Array.getElem?_eq_some_iff.1 rN).1;have xP:l<W2.heap.size:=(Array.getElem?_eq_some_iff.1 hL2).1;have aqJ:D<W2.heap.size:=(Array.getElem?_eq_some_iff.1 hK2).1;have adw: ∀{j:Nat} {o:Obj},W2.heap[j]? =some o->(∀cur,o≠ .cells cur tT (0,0))->some j≠v.ownBlock:=λhj qs=>by
    rcases ownsRow_ne_a Ey hj qs with e|e
    · rw[e];simp
    · exact λe'=>e e'.symm
  clear Uu;unfold Lr
  gi_wp2_with gi_round_op_a
  unfold S2;have HY:(2:Nat)^40<=maxLen:=by decide
  gi_wp2_with (first
    | (gi_at_builtin; refine wpListIn_append_own _ rfl _ _ Dm rfl w0.heap.size tT i0 (⟨0, 0, 0⟩ : bu).v 3 24 kQ hi Ls QT JZ rfl dQ _ _ _ rfl (Ey.alloc _) ⟨W2.heap.size, 0, none⟩ 1 1 (T3 x) rfl rfl (af0 _ _ _) (by simp[Value.oneCell', T3]) zQ zQ (by have := uY.size; simp; omega) ?_; intro v' w3 adx XU as8
       have H3:w3.heap[Bs]? =some (.cells #[v] Dm (0,0)):=(XU.block Bs oQ (adw rN (λcur e=>by first|cases e|exact bU (ky e).2.1))).trans ((Below.heap_alloc _ _ Bs aqI).trans rN);obtain⟨uZ,hf3⟩:=cell_of_box_a H3;obtain⟨g',Pu,ady,rfl,as7,ato,rr,jI,Ei,zO⟩: ∃g' Pu ady,v'= .slice (some ⟨g',0,none⟩) (ts.length+1) Pu/\w0.heap.size<=g'/\w3.heap[g']? =some (.cells ady tT (0,0))/\ts.length+1<=Pu/\Pu<=maxLen/\ady.size=Pu*3/\ady.toList.take ((ts.length+1)*3)=(ts.map T3).flatten++T3 x:=by
         rcases adx.2 with⟨_,h0⟩|h'
         · exact absurd h0 zQ
         · exact h'
       go_frame)
    |gi_round_op_a)
  have adz:(W2.alloc (.cells #[aA bZ x.dU,aA bZ x.aN,aA bZ x.sq] tT)).grownBy w3 v.ownBlock:=XU;have hL3:w3.heap[l]? =some (.loop { xO fn sv Bs D .ready none with state:=.busy }):=(adz.block l oQ (adw hL2 (λcur e=>by first|cases e|exact bU (ky e).2.1))).trans ((Below.heap_alloc _ _ l xP).trans hL2);have hK3:w3.heap[D]? =some (.deferred (some [])):=(adz.block D oQ (adw hK2 (λcur e=>by first|cases e|exact bU (ky e).2.1))).trans ((Below.heap_alloc _ _ D aqJ).trans hK2);obtain⟨w4,Gy⟩: ∃w4,w3.setCell ⟨Bs,0,none⟩ (.slice (some ⟨g',0,none⟩) (ts.length+1) Pu)=w4:=⟨_,rfl⟩;rw[Gy];have hg4:w3.grownBy w4 (some Bs):=by rw[<-Gy];exact grownBy_setCell0_a _ _ _
  have XV:w4.heap[Bs]? =some (.cells #[.slice (some ⟨g',0,none⟩) (ts.length+1) Pu] Dm (0,0)):=by rw[<-Gy];exact heap_setCell_box_a _ H3
  have XW:w4.heap[l]? =some (.loop { xO fn sv Bs D .ready none with state:=.busy }):=(hg4.block l (Array.getElem?_eq_some_iff.1 hL3).1 (λe=>hBl (by cases e;rfl))).trans hL3;have hK4:w4.heap[D]? =some (.deferred (some [])):=(hg4.block D (Array.getElem?_eq_some_iff.1 hK3).1 (λe=>hDB (by cases e;rfl))).trans hK3;have C5:=adx.kept hg4 (ownsRow_ne_a adx H3 (λcur e=>by first|cases e|exact bU (ky e).2.1));have QU:l<w4.heap.size:=(Array.getElem?_eq_some_iff.1 XW).1;have rM:Below w0.heap.size w0 w3:=(uY.alloc uY.size _).grown adz (by have:=uY.size;simp;omega) (λk e=>(Ey.lt k e).1);have zc:Below w0.heap.size w0 w4:=rM.grown hg4 rM.size (λk e=>by cases e;exact h0B);have JY:KeepsWalks W w4:=((J0.trans (Bp _ _)).trans (KeepsWalks.of_grownBy adz (ownsRow_not_walk_a (Ey.alloc _)))).trans (by rw[<-Gy];exact KeepsWalks.setCell _ _ _);clear Gy;refine⟨_,_,run_endRound none XW,rfl,⟨⟨_,(fw hBl).trans XV,?_⟩,kg QU,(fw hDl).trans hK4,zc.grown (grownBy_putObj_a _ _ _) zc.size (λk e=>by cases e;exact h0l)⟩,JY.trans (AZ _ XW rfl)⟩;have:=C5.kept (grownBy_putObj_a w4 l (.loop { { xO fn sv Bs D .ready none with state:=.busy } with state:=if(none:Option Code).isNone then .ready else .done,pending:=none })) (ownsRow_ne_a C5 XW (λcur e=>by first|cases e|exact bU (ky e).2.1));simpa using this
abbrev QV:Nat:=141
abbrev adA:Nat:=84
theorem adB (n:Nat) (hn:2<=n) (g:Nat) (lb:Array Value) (eg: ∀args w,(callFunc g args).run pg w= .ok (.enter g args) w)
    (S:List bu->Prop) (N:Nat) (hN:N<=2^40) (w:World) (ah2:SeqGives gg (n-1) pg g lb (λt:bu=>t.v) S N w):
    CallsIn gg n pg QV #[.slice none 0 0,.func (.func g) #[] lb] w λe w'=> ∃(v:Value) (ts:List bu),e= .returned v/\S ts/\w'.ownsRow w.heap.size tT 3 v ts.length (ts.map T3).flatten/\Below w.heap.size w w':=by
  have h1:1<=n:=by omega
  refine callsIn_of_wp_marks (f:=QV) (fn:=Tryz.f141) kQ rfl trivial ?_ rfl;rw[Tryz.ntmps141];change DX _ _ _ _ _ ⟨#[.slice none 0 0,.func (.func g) #[] lb,undef,undef,undef,undef,undef,undef,undef,undef,undef,undef,undef],[]⟩ w
  gi_wp2
  refine wpIn_rangeFunc ?_;intro fn hfn;obtain⟨W0,hW0⟩: ∃W0,w.alloc (.cells #[.slice none 0 0] Dm)=W0:=⟨_,rfl⟩;have gn:W0.heap.size=w.heap.size+1:=by rw[<-hW0];simp
  have hv0:W0.heap[w.heap.size]? =some (.cells #[.slice none 0 0] Dm (0,0)):=by rw[<-hW0];exact jH w _
  have uq:Below w.heap.size w W0:=by rw[<-hW0];exact(Below.refl _ w).alloc (au _) _
  rw[hW0];obtain⟨W1,hW1⟩: ∃W1,(W0.alloc (.deferred (some []))).alloc (.loop (xO fn (.func (.func g) #[] lb) w.heap.size W0.heap.size .ready none))=W1:=⟨_,rfl⟩;have hold: ∀k,k<W0.heap.size->W1.heap[k]? =W0.heap[k]? :=λk hk=>by
    rw[<-hW1];exact(Below.heap_alloc _ _ k oQ).trans (Below.heap_alloc _ _ k hk)
  have lM:Below w.heap.size w W1:=by rw[<-hW1];exact(uq.alloc uq.size _).alloc (by have:=uq.size;simp;omega) _
  have hM:ApT w fn (.func (.func g) #[] lb) w.heap.size (W0.heap.size+1) W0.heap.size [] W1:=
    ⟨⟨_,(hold w.heap.size zQ).trans hv0,⟨rfl,.inl ⟨rfl,rfl⟩⟩⟩,
     by rw[<-hW1];have:=jH (W0.alloc (.deferred (some []))) (.loop (xO fn (.func (.func g) #[] lb) w.heap.size W0.heap.size .ready none));rwa [World.size_alloc] at this,
     by rw[<-hW1];exact(Below.heap_alloc _ _ _ sQ).trans (jH W0 _),lM⟩
  refine⟨W0.heap.size+1,[{ target:=.collected W0.heap.size,args:= #[] }],W1,{ target:=.fn (.func g) lb,args:= #[.func (.yield (W0.heap.size+1)) #[] #[]] },W1,g,
    #[.func (.yield (W0.heap.size+1)) #[] #[]]++lb,W1,?_,?_,?_,?_,λ_=>h1,?_⟩
  · rw[<-hW1];exact run_enterLoop_outer _ _ _ _ _
  · simp[resolve,go_sem]
  · intro f' hf';simp[Target.leads] at hf';subst hf';trivial
  · simp[invoke,go_sem,eg]
  · refine(ah2 (W0.heap.size+1) (ApT w fn (.func (.func g) #[] lb) w.heap.size (W0.heap.size+1) W0.heap.size) W1 lM (adu _ _ _ _ _ _ _ lM.size)
      (λpre x W hJ hl=>ah1 (n-1-1) w fn _ w.heap.size (W0.heap.size+1) W0.heap.size zQ zQ zQ (au _) zQ N hN pre x W hJ hl) hM).mono ?_
    rintro e W2 ⟨⟨v0,rfl⟩,ts,hS,h2⟩;obtain⟨v,hv,br⟩:=h2.box;have uu:=run_endLoop (P:=pg) h2.L (by simp[xO]);obtain⟨W3,QW⟩: ∃W3,W2.putObj (W0.heap.size+1) (.loop { xO fn (.func (.func g) #[] lb) w.heap.size W0.heap.size .ready none with state:=.exhausted })=W3:=⟨_,rfl⟩;rw[QW] at uu;have XU:W2.grownBy W3 (some (W0.heap.size+1)):=by rw[<-QW];exact grownBy_putObj_a _ _ _
    have H3:W3.heap[w.heap.size]? =some (.cells #[v] Dm (0,0)):=by rw[<-QW];exact(fw zQ).trans hv
    have hK3:W3.heap[W0.heap.size]? =some (.deferred (some [])):=by rw[<-QW];exact(fw zQ).trans h2.K
    have Nn:=br.kept XU (ownsRow_ne_a br h2.L (λcur e=>by first|cases e|exact bU (ky e).2.1));have rM:Below w.heap.size w W3:=h2.below.grown XU h2.below.size (λk e=>by cases e;omega);obtain⟨uZ,hf3⟩:=cell_of_box_a H3;clear QW;refine⟨none,W3,uu,?_⟩
    gi_wp2
    rw[<-gn];refine⟨by simp,.inl ⟨_,_,rfl,run_takeDeferred hK3,?_⟩⟩;exact⟨_,results_tmp rfl _ _ _,v,ts,rfl,hS,Nn.kept (grownBy_putObj_a _ _ _) (ownsRow_ne_a Nn hK3 (λcur e=>by first|cases e|exact bU (ky e).2.1)),rM.grown (grownBy_putObj_a _ _ _) rM.size (λk e=>by cases e;omega)⟩
theorem ah3 (n:Nat) (hn:3<=n) (g:Nat) (lb:Array Value) (eg: ∀args w,(callFunc g args).run pg w= .ok (.enter g args) w)
  (S:List bu->Prop) (N:Nat) (hN:N<=2^40) (w:World) (ah2:SeqGives gg (n-1-1) pg g lb (λt:bu=>t.v) S N w):
  CallsIn gg n pg adA #[.func (.func g) #[] lb] w λe w'=> ∃(v:Value) (ts:List bu),e= .returned v/\S ts/\w'.ownsRow w.heap.size tT 3 v ts.length (ts.map T3).flatten/\Below w.heap.size w w':=by
 have h1:1<=n:=by omega
 have e11: ∀args w,(callFunc QV args).run pg w= .ok (.enter QV args) w:=enters_of (fn:=Tryz.f141) kQ kQ rfl;refine callsIn_of_wp (f:=adA) (fn:=Tryz.f84) kQ rfl trivial ?_ rfl;rw[Tryz.ntmps84];change DX _ _ _ _ _ ⟨#[.func (.func g) #[] lb,undef,undef,undef,undef],[]⟩ w
 gi_wp2_with (refine⟨trivial,?_⟩;gi_at_fn QV;refine(adB (n-1) zQ g lb eg S N hN _ ah2).mono ?_;rintro e w' ⟨v,ts,rfl,hS,br,hb⟩)
 go_ret
 exact⟨v,ts,rfl,hS,br,hb⟩
open Go.Proofs
attribute [local irreducible] un jn jg iN ld1 tW st1 mG lN pB sH pT J6 Fc gR ru aX lW lP eW eV eU eC eF gE np fin ix cj eP vS OA J7 J9 Ka Kb Kc OB OC Kd OD Gz GA Ke Kf Kg OE OF Kh
variable {Y : XS}
section
variable {xb : Nat} {x : AcV} {vw : Value}
theorem Bt {sn:List fc} (h:aI w Y xb (Ki x vw) aT) (hY: ∀k,Y k->X k) (hv:Sl w X 7 x.vs (sn.map fc.l)) (hl:sn.length<=2^40):
  Ct pg 105 #[ptr xb 0] w X nX λv wa w'=> ∃ys:List fc,ys.Perm sn/\Own w' (made wa w') wa.heap.size 175 7 v (ys.map fc.l):=by
 intro w0 hk;have br:=(h.mono hY).mv hk.cd;have hF:FX nX (bN w0) w0:=λk ah=>ah.elim;have hT:=hF.ft (Kp.refl _ _);have hs:=ai.init w0;refine Hl.1 λ_=>?_;repeat' refine ao ?_;intros
 refine cA (Lt (hv.mv hk.cd) hl) kQ hs.has ?_;rintro v Ej w1 X1 q1 qf nJ ay;have u1:Own w1 X1 w0.heap.size _ _ v _:=q1.up nJ qf;have eh:Ft w0 nX w1 X1 (cU v):=(hT.since ay).more λk ah=>.inr ⟨u1.2.2 k ah,(u1.ge ah).1⟩;refine eh.call (abm u1 zQ) kQ (λ_ h=>h) λr xQ w2 X2 hq lD kh cX c2=>?_;obtain⟨rfl,ys,hp,ho⟩:=hq;clear hs;have hs:=ai.fK cX.s.has
 skip
 exact cX.fin λwa aK=>⟨ys,hp,((xR ho (Y:=X2) λg hg=>cX.bo g (.inl hg)).kp aK).tight⟩
end
variable {mb : Nat}
theorem ah4:Ct pg 40 #[.map (some mb)] w X nX λv wa w'=> ∃bx,v= .func (.func H2) #[] #[ptr bx 0]/\aI w' (made wa w') bx [.map (some mb)] XQ:=by
 intro w0 hk;have hs:=ai.init w0;refine oC.1 λ_=>?_;refine uv rfl hs.has λbx w1 X1 fY ay br=>?_;repeat' refine ao ?_;intros
 exact bQ ay λwa aK=>⟨bx,rfl,⟨fY,(br.kp aK).lt⟩,(br.kp aK).2⟩
variable {l : List (bu × Nat)} {bx : Nat}
theorem abo (h:dL w X nX mb (λk:bu=>k.v) zP l) (hb:aI w X bx [.map (some mb)] XQ) (hl:l.length<=2^40):
  Ct pg adA #[.func (.func H2) #[] #[ptr bx 0]] w X nX λv wa w'=> ∃ts:List bu,ts.Perm (l.map (·.1))/\Own w' (made wa w') wa.heap.size tT 3 v (ts.map bu.l):=by
 intro wa hk;obtain⟨es,c,h1,h2⟩:=h;have C6:=h2.keys;have hlen:es.length=l.length:=by have:=congrArg bf C6;simpa using this
 have La:=h1.kp hk;have hT:Hk wa mb es c:=by
  exact⟨La.2.1,La.2.2.2.1,La.2.2.2.2⟩
 have hS:=callsIn_wide.1 (ah3 7 zQ H2 #[ptr bx 0] (λargs w=>pe kQ args w) _ es.length zQ wa (abn (hb.kp hk).lt (by have:=(hb.kp hk).2;simp[fp,this]) hT));refine hS.mono ?_;rintro e w' ⟨v,ts,rfl,hp,br,dW⟩;have hx:Ext wa w':=⟨dW.os,dW.tape,dW.output,dW.size,λk ah _=>dW.block k ah⟩;refine⟨v,rfl,hx,ts,by rw[<-C6];exact hp,?_⟩;refine⟨λr hr=>by obtain⟨x,_,rfl⟩:=List.mem_map.1 hr;rfl,?_,λq hq=>⟨?_,?_⟩⟩
 ·rw[af];exact br
 ·exact(br.lt _ hq).1
 ·exact(br.lt _ hq).2
theorem S3 (h:dL w X nX mb (λk:bu=>k.v) zP l) (hb:aI w X bx [.map (some mb)] XQ) (hl:l.length<=2^40):
  Ct pg 39 #[.func (.func H2) #[] #[ptr bx 0],.func (.func 41) #[] #[]] w X nX λv wa w'=> ∃ts:List bu,ts.Perm (l.map (·.1))/\ts.Pairwise (λa b=>b.less a=false)/\Own w' (made wa w') wa.heap.size tT 3 v (ts.map bu.l):=by
 intro w0 hk;replace h:=h.mv Fe hk.cd (A':=nX) (λ_ h _=>h.elim);replace hb:=hb.mv hk.cd;have hF:FX nX (bN w0) w0:=λk ah=>ah.elim;have hT:=hF.ft (Kp.refl _ _);have hs:=ai.init w0;refine Cz.1 λ_=>?_;refine cA (abo h hb hl) kQ hs.has ?_;rintro v Ej w1 X1 ⟨ts,hp,ho⟩ qf nJ ay;have u1:Own w1 X1 w0.heap.size _ _ v _:=ho.up nJ qf;have eh:Ft w0 nX w1 X1 (cU v):=(hT.since ay).more λk ah=>.inr ⟨u1.2.2 k ah,(u1.ge ah).1⟩;have cx:ts.length=l.length:=by rw[hp.length_eq,af]
 refine eh.call (abk u1 zQ) kQ (λ_ h=>h) λr xQ w2 X2 hq lD kh cX c2=>?_;obtain⟨rfl,ys,hp2,hpw,jV⟩:=hq;clear hs;have hs:=ai.fK cX.s.has
 skip
 exact cX.fin λwa aK=>⟨ys,hp2.trans hp,hpw,((xR jV (Y:=X2) λg hg=>cX.bo g (.inl hg)).kp aK).tight⟩
theorem QX {nb:Nat} {c:CoV} {Ek vm va:Value} {al:List (bu×Nat)} (h:aI w Y nb (Hm c Ek vm va) nT) (hY: ∀k,Y k->X k) (Uv:dL w X nX c.ab (λk:bu=>k.v) zP al) (hl:al.length<=2^40):
  Ct pg 15 #[ptr nb 0] w X nX λv wa w'=> ∃ts:List bu,ts.Perm (al.map (·.1))/\ts.Pairwise (λa b=>b.less a=false)/\Own w' (made wa w') wa.heap.size tT 3 v (ts.map bu.l):=by
 intro w0 hk;replace h:=(h.mv (Mv.sub hY)).mv hk.cd;replace Uv:=Uv.mv Fe hk.cd (A':=nX) (λ_ h _=>h.elim);have hs:=ai.init w0;refine IU.1 λ_=>?_;repeat' refine ao ?_;intros
 refine cA ah4 kQ hs.has ?_;rintro _ wa w2 X2 ⟨bx,rfl,hb⟩ hle gu bA;refine cA (S3 (Uv.mv Fe bA.mv (A':=nX) (λ_ h _=>h.elim)) (hb.mono gu) hl) kQ bA.has ?_;rintro v w3 w4 X4 ⟨ts,hp,hpw,ho⟩ tK oV fV;exact bQ (bA.trans fV) λwa aK=>⟨ts,hp,hpw,((ho.up oV (by have:=bA.kp.size;omega)).kp aK).tight⟩
structure as9 (l:List eY):Prop where
 may: ∀r∈l,r.may=true
 ids:l.Pairwise λx y=>x.id≠y.id
 atp: ∀{r q:eY} {x:Nat},r∈l->q∈l->eY.S4 r x=true->eY.S4 q x=true->r=q
abbrev S5:=List (Int×List BA)
variable {k : BA}
theorem ak1 {l:List BA} :l.any (λx=>decide (k=x))=true↔k∈l:=by grind
def IV (g:Int) (k:BA) (m:S5):S5:=if((getM g m).getD []).any (λx=>decide (k=x))then m else cI g (((getM g m).getD [])++[k]) m
variable {m : S5} {ds : tL}
theorem Uw {r:List BA} (h:(ja ds m (k::r)).2=0): ∃g,nK ds k=some g/\ja ds m (k::r)=ja ds (IV g.id k m) r:=by
 rw[ja] at h;by_cases hg:iM k=true
 ·rw[if_pos hg] at h;cases hr:nK ds k with
  |none=>grind
  |some g=>
   refine⟨g,rfl,?_⟩;rw[ja,if_pos hg,hr];rfl
 grind
variable {g : Int}
theorem XX (id:Int) (y:BA):y∈(getM id (IV g k m)).getD []↔(y∈(getM id m).getD []\/(y=k/\g=id)):=by
 unfold IV;split
 ·grind
 ·by_cases e:id=g
  ·subst e;rw[ku];simp
  grind [nL]
theorem adC (h:(m.map (·.1)).Nodup):((IV g k m).map (·.1)).Nodup:=by
 unfold IV;split
 ·exact h
 ·exact QY h
theorem af1 (hn:(m.map (·.1)).Nodup) (h: ∀e∈m,e.2≠[]): ∀e∈IV g k m,e.2≠[]:=by
 unfold IV;split
 ·exact h
 ·intro e he;rcases mK hn he with rfl|⟨h1,_⟩
  ·simp
  grind
theorem ah5 (h:k ∉ (getM g m).getD []):ux bf (IV g k m)=ux bf m+1:=by
 unfold IV;rw[if_neg (λe=>h (ak1.1 e))];cases hg:getM g m with
 |none=>rw[XY hg];simp
 |some l=>
  have:=XZ (f:=bf) (a:=l++[k]) hg
  grind
structure aqK (ds:tL) (m m':S5) (keys:List BA):Prop where
 rt: ∀k∈keys,∃r,nK ds k=some r
 mem: ∀id k,(k∈(getM id m').getD []↔(k∈(getM id m).getD []\/(k∈keys/\ ∃r,nK ds k=some r/\r.id=id)))
 nd:(m'.map (·.1)).Nodup
 full: ∀e∈m',e.2≠[]
theorem S6: ∀{keys:List BA} {m:S5},(m.map (·.1)).Nodup->(∀e∈m,e.2≠[])->(ja ds m keys).2=0->aqK ds m (ja ds m keys).1 keys
 |[],m,hn,hf,_=>⟨λk hk=>(by cases hk),λid k=>by simp[ja],hn,hf⟩
 |k::r,m,hn,hf,h=>by
  obtain⟨g,h1,h2⟩:=Uw h;rw[h2] at h⊢;have ih:=S6 (adC (g:=g.id) (k:=k) hn) (af1 hn hf) h;refine⟨λy hy=>?_,λid y=>?_,ih.nd,ih.full⟩
  ·rcases List.mem_cons.1 hy with rfl|hy
   ·grind
   ·exact ih.rt y hy
  ·rw[ih.mem id y,XX];constructor
   ·rintro((h3|⟨rfl,h4⟩)|⟨h3,h4⟩)
    ·grind
    ·grind
    simp_all
   ·rintro(h3|⟨h3,q,h4,h5⟩)
    ·grind
    ·rcases List.mem_cons.1 h3 with rfl|h3
     ·grind
     grind
theorem Ya: ∀{keys:List BA} {m:S5},keys.Nodup->(∀id,∀k∈keys,k ∉ (getM id m).getD [])->(ja ds m keys).2=0->ux bf (ja ds m keys).1=ux bf m+keys.length
 |[],m,_,_,_=>by rfl
 |k::r,m,hn,hm,h=>by
  obtain⟨g,h1,h2⟩:=Uw h;rw[h2] at h⊢;rw[Ya (List.nodup_cons.1 hn).2 (λid y hy mf=>?_) h,ah5 (hm _ k sQ),aM]
  ·omega
  ·rcases(XX id y).1 mf with h3|⟨rfl,_⟩
   ·grind
   grind
structure amt (ds:tL) (keys:List BA) (gs:List oN):Prop where
 rt: ∀k∈keys,∃g∈gs,k∈g.keys/\nK ds k=some g.pa
 own: ∀g∈gs,∀k∈g.keys,k∈keys/\nK ds k=some g.pa
 full: ∀g∈gs,g.keys≠[]
 nd:gs.Pairwise λa b=>a.pa.id≠b.pa.id
variable {keys : List BA}
theorem Ux (hW: ∀(i:Int) (r:eY),getM i ds=some r->r.id=i) (h:(ja ds [] keys).2=0):amt ds keys (mL ds (ja ds [] keys).1):=by
 have hg:=S6 (m:=[]) ti (λe he=>by cases he) h;generalize (ja ds [] keys).1=m at hg;have Bu: ∀{k:BA} {r:eY},nK ds k=some r->getM r.id ds=some r:=λhr=>by grind [OG]
 have hk: ∀id k,k∈(getM id m).getD []->k∈keys/\ ∃r,nK ds k=some r/\r.id=id/\(getM id ds).getD .zero=r:=λid k ah=>by
  rcases(hg.mem id k).1 ah with h1|⟨h1,r,h2,h3⟩
  ·simp[getM] at h1
  grind
 have mf: ∀id,id∈pU (m.map (·.1))↔ ∃l,(id,l)∈m:=λid=>by
  rw[(pf _).mem_iff,List.mem_map];exact⟨λ⟨e,h1,h2⟩=>⟨e.2,by grind⟩,λ⟨l,h1⟩=>⟨_,h1,rfl⟩⟩
 refine⟨λk ah=>?_,λg rJ k ah=>?_,λg rJ=>?_,?_⟩
 ·obtain⟨r,hr⟩:=hg.rt k ah;have h1:=(hg.mem r.id k).2 (.inr ⟨ah,r,hr,rfl⟩);refine⟨⟨(getM r.id ds).getD .zero,(getM r.id m).getD []⟩,List.mem_map.2 ⟨r.id,(mf _).2 ?_,rfl⟩,h1,?_⟩
  ·cases hm:getM r.id m with
   |none=>rw[hm] at h1;simp at h1
   |some l=>exact⟨l,gL hm⟩
  ·rw[hr,Bu hr];rfl
 ·obtain⟨id,h1,rfl⟩:=List.mem_map.1 rJ;obtain⟨h2,r,h3,_,h5⟩:=hk id k ah;exact⟨h2,by rw[h3];exact congrArg some h5.symm⟩
 ·obtain⟨id,h1,rfl⟩:=List.mem_map.1 rJ;obtain⟨l,h2⟩:=(mf id).1 h1
  show(getM id m).getD []≠[]
  rw[wH hg.nd h2];exact hg.full _ h2
 ·refine List.pairwise_map.2 (List.Pairwise.imp_of_mem (R:=λa b=>a≠b) (λ{a b} ha hb xh=>?_) ((pf _).nodup_iff.2 hg.nd));have key: ∀id,id∈pU (m.map (·.1))->((getM id ds).getD .zero).id=id:=λid hi=>by
   obtain⟨l,h2⟩:=(mf id).1 hi;cases l with
   |nil=>exact absurd rfl (hg.full _ h2)
   |cons k l=>
    obtain⟨_,r,_,h4,h5⟩:=hk id k (by rw[wH hg.nd h2];simp);rw[h5,h4]
  show((getM a ds).getD .zero).id≠((getM b ds).getD .zero).id
  rw[key a ha,key b hb];omega
theorem ah6 (hn:(m.map (·.1)).Nodup):((pU (m.map (·.1))).map λid=>((getM id m).getD []).length).sum=ux bf m:=by
 rw[((pf (m.map (·.1))).map _).sum_nat,bw];have:(m.map ((λid=>((getM id m).getD []).length)∘λx=>x.1))=m.map λe=>e.2.length:=List.map_congr_left λe he=>by
  show((getM e.1 m).getD []).length=e.2.length
  rw[wH hn (show(e.1,e.2)∈m from he)];rfl
 rw[this];rfl
theorem adD (hn:keys.Nodup) (h:(ja ds [] keys).2=0):((mL ds (ja ds [] keys).1).map λg=>g.keys.length).sum=keys.length:=by
 have hg:=S6 (m:=[]) ti (λe he=>by cases he) h;have hs:=Ya (m:=[]) hn (λid k _=>by simp[getM]) h;unfold mL;rw[bw]
 show((pU _).map λid=>((getM id (ja ds [] keys).1).getD []).length).sum=_
 rw[ah6 hg.nd,hs];simp[ux]
theorem QZ (q:List (List UInt8)):q.map encStr=((q.map λx=>(⟨x.toArray⟩:ByteArray)).map S1).flatten:=by
 induction q with
 |nil=>rfl
 |cons a q ih=>grind
theorem ak2 (ks:List ByteArray):(ks.map S1).flatten=(ks.map bl).map encStr:=by
 rw[QZ]
 congr 2
 rw[bw];conv=>lhs;rw[<-List.map_id ks]
 rfl
theorem adE {ks:List ByteArray} (h:Own w X lo 9 1 v (ks.map S1)) (atq:ks.length<=2^40):
  Ct pg 114 #[v] w X (cU v) λ_ wa w'=>Own w' (cU v) lo 9 1 v ((fQ ks).map S1):=by
 intro wa hk;replace h:=h.kp hk;obtain⟨h1,h2,h3⟩:=h;have hlen:(fQ ks).length=ks.length:=(kL _).length_eq;rcases h2.2 with⟨rfl,hz⟩|⟨g,cap,cur,rfl,adF,hg,r1,r2,r3,r4⟩
 ·refine(AnyM.slices_Sort_string_none Tryz.WU none 0 wa).mono ?_;rintro e w' ⟨rfl,rfl⟩;have Kj:ks=[]:=iK gQ;subst Kj;have e0:(fQ []).map S1=[]:=by simp[fQ]
  refine⟨_,rfl,Fr.refl _ _,?_⟩
  show Own w' _ lo _ 1 _ ((fQ []).map S1)
  grind [Own.nil]
 ·have hl:(ks.map bl).length=(ks.map S1).length:=by simp
  have hH:Holds encStr wa g 0 (ks.map bl).toArray:=holds_of_block hg (by rw[hl,<-ak2,<-r4];simp);have gY:g<wa.heap.size:=(Array.getElem?_eq_some_iff.1 hg).1;have cS:=AnyM.slices_Sort_string Tryz.WU g 0 cap (ks.map bl) wa hH gY gQ;rw[hl] at cS;refine cS.mono ?_;rintro e w' ⟨rfl,n,os,rfl⟩;have Fb:=grownBy_sorted (w:=wa) (g:=g) (n:=n) (os:=os) ((ks.map bl).mergeSort λx y=>decide (x<=y)).toArray;have xS:=ownsRow_sorted (w:=wa) (base:=lo) (g:=g) (cap:=cap) (n:=n) (e:=9) (os:=os) (cur:=cur) (ss:=ks.map bl) (ts:=(ks.map bl).mergeSort λx y=>decide (x<=y)) sQ adF hg zQ r2 zQ;have e1:((ks.map bl).mergeSort λx y=>decide (x<=y)).map encStr=((fQ ks).map S1).flatten:=QZ _;refine⟨_,rfl,⟨Fb.os,Fb.tape,Fb.output,Fb.size,λk ah hn=>Fb.block k ah λe=>hn (by cases e;rfl)⟩,λr hr=>by obtain⟨x,_,rfl⟩:=List.mem_map.1 hr;rfl,?_,λq hq=>hq⟩;rw[e1,hl] at xS;have e2:((fQ ks).map S1).length=(ks.map S1).length:=by rw[af,af,hlen]
  grind
variable {p : List ju}
theorem A3 (h:ny p=0):p.length<=40/\zp p 0=0:=by
 unfold ny at h;split at h
 ·exact absurd h dQ
 ·split at h
  ·rename_i h1 h2;exact absurd h h2
  ·rename_i h1 h2;exact⟨by omega,by rcases Classical.em (zp p 0=0)with e|e;exact e;exact absurd e h2⟩
theorem Pv {ds:tL} : ∀{keys:List BA} {m:List (Int×List BA)},(ja ds m keys).1.length<=m.length+keys.length
 |[],m=>by simp[ja]
 |k::r,m=>by
  rw[ja,aM];split
  ·split
   ·simp only;omega
   ·rename_i g _;have ih:=Pv (ds:=ds) (keys:=r) (m:=if((getM g.id m).getD []).any (λx=>decide (k=x))then m else cI g.id (((getM g.id m).getD [])++[k]) m);have h2:(if((getM g.id m).getD []).any (λx=>decide (k=x))then m else cI g.id (((getM g.id m).getD [])++[k]) m).length<=m.length+1:=by
     split
     ·omega
     ·exact Dn _
    omega
  ·simp only;omega
theorem Q2 {a b:Int} (h:p.length<=40): ∀k∈fj a b p,k.size<=24:=λk hk=>by
 obtain⟨y,hy,rfl⟩:=List.mem_map.1 ((kL _).mem_iff.1 hk);exact((Ff _ _ p [] 0 ti (λx hx=>by cases hx) (au _)).2.1 y hy).2.2
theorem GB {a b:Int} :(fj a b p).length<=p.length:=by
 unfold fj;rw[(kL _).length_eq,af];have:=(Ff a b p [] 0 ti (λx hx=>by cases hx) (au _)).2.2;omega
def Ez (ids:List Int) (sl:List fc) (wl:List KV) (g:oN):cD:= { CA with kind:=3,range:=g.pa.id,iF:=g.pa.iF,parts:=ids,seen:=sl,writes:=wl }
def IW (p:List ju) (ds:tL) (ids:List Int):Prop:= ∃gk:List BA,gk≠[]/\(∀k∈gk,k∈fj 1 1 p\/ ∃o∈p,k=o.key/\(o.code=2\/o.code=3))/\(ja ds [] gk).2=0/\ids=(mL ds (ja ds [] gk).1).map (·.pa.id)
def Pw (p:List ju) (ds:tL):Prop:=(∃e wl,Yb p e wl/\(e≠0\/wl=[]))\/ ∃gk:List BA,gk≠[]/\(∀k∈gk,k∈fj 1 1 p\/ ∃o∈p,k=o.key/\(o.code=2\/o.code=3))/\(ja ds [] gk).2≠0
def Px (n:bh) (b:Nat) (n':bh):Prop:=
 (∃jh a,((∃e,e≠0/\a=El e (n.A b).x.aH .zero false aR)\/ ∃vs,aJ.one vs=true/\a=El 0 (n.A b).x.aH (n.A b).x.st true vs)/\Pw (n.A b).p n.ds/\Told { n with al:=ji (n.A b).x.aH n.al,ex:=b::n.ex,va:=jh,ra:=n.ra++[a] } [] n')\/
 ∃(ids:List Int) (pm:List cD) (vq iR:Value) (kM:List (List Value)),ids≠[]/\ids.length<=80/\pm.map (·.range)=ids/\(∀m∈pm,m.kind=3/\m.parts=ids/\m.Dp)/\IW (n.A b).p n.ds ids/\
  Told (dH n b { n.A b with x:= { (n.A b).x with pre:=true,vq:=vq },vw:=iR,rw:=kM,ws:=pm.map λm=>m.asked (n.A b).x,ids:=ids }) (pm.map λm=>(m.asked (n.A b).x).qg (20+n.c.id)) n'
section
variable {w' wa w0 : World} {X' : XS} {own aG bK : Nat -> Nat} {n n' : bh} {b : Nat}
theorem OH (h:jD w own n) (hX:rO own X) (hb:n.gx b) (hp:(n.A b).x.pre=false) (hq:(n.A b).x.vq=aR/\(n.A b).ids=[]/\(n.A b).pq=false) (hws:(n.A b).ws=[]) (mX:(n.A b).sn.length<=2^20)
  (hW: ∀(i:Int) (r:eY),getM i n.ds=some r->r.id=i) (hi:1<=n.c.id/\n.c.id<=2) (hl:n.rm.length<=2^10) (xP:n.ra.length<=2^10) (Fg:ny (n.A b).p=0):
  Ct pg 64 #[ptr n.nb 0,ptr b 0] w X (gC own) λ_ wa w'=>NQ dV own wa w' λ_ n'=>Px n b n':=by
 intro w0 hk;have s:=St.init h hX hk;obtain⟨ha,oa⟩:=s.va hb;have hs:=s.rf;obtain⟨-,-,Kk,-,QE,-⟩:=s.h.act hb;have Kk:=Kk.sl.mono (s.sub _ iy.1);refine NV.1 λ_=>?_;repeat' refine ao ?_;intros
 refine cA (abp (QE.mono (s.sub 4)) Kk) kQ s.has ?_;rintro v Ej w1 X1 ⟨vl,wl,ew,rfl,nB,H4,amu,hex⟩ qf nJ ay;obtain⟨ic,s1,m1,-,n1⟩:=(s.since ay).vI (N:=made Ej w1) λk hk=>⟨nJ k hk,s.nw (ad qf hk.1)⟩;replace QE:=(QE.mv (ay.gW (s.sub 4))).mv m1;replace nB:=nB.mono n1;clear hs ha oa Kk s;have Yc: ∀{w2:World} {X2:XS} {lQ:Nat->Nat} {e:Int},Sn w0 own w2 X2 lQ n->e≠0->Pw (n.A b).p n.ds->
   eC pg (vi (gC own) w0 λv w'=>NQ dV own w0 w' λ_ n'=>Px n b n') X2 w2 true 43 #[ptr n.nb 0,ptr b 0,I e] λ_ w X=>fin (vi (gC own) w0 λv w'=>NQ dV own w0 w' λ_ n'=>Px n b n') X w (.tuple #[]):=λ{w2 X2 lQ e} s2 he haw=>
  s2.call (Ak (n:=n) (b:=b) (code:=e) s2.h s2.x hb hq.2.2 zQ hi (by rw[hq.2.1];simp;omega)) kQ λv w3 X3 nz n3 s3 ⟨jh,q⟩ _=>s3.fin λ_ _=>.inl ⟨jh,_,.inl ⟨e,he,rfl⟩,haw,by rw[hp] at q;exact q⟩
 have hs:=s1.rf;by_cases hew:ew=0;case neg=>
  repeat' refine aL ?_;intros
  exact Yc s1 hew (.inl ⟨ew,wl,hex,.inl hew⟩)
 subst hew;have amv:=nB.mono (s1.sub 4);obtain⟨ha,oa⟩:=s1.va hb;have S7: ∀{w2:World} {X2:XS} {lQ:Nat->Nat},Sn w0 own w2 X2 lQ n->Sl w2 X2 7 (n.A b).x.vs ((n.A b).sn.map fc.l):=λs2=>(s2.h.act hb).2.2.1.sl.mono (s2.sub _ iy.1);by_cases hw0:wl=[]
 ·have aqL:(wl.length:Int)=0:=by rw[hw0];rfl
  repeat' refine aL ?_;intros
  refine cA (Bt ha (λ_ h=>h) (S7 s1) zQ) kQ hs.has ?_;rintro vr xQ w2 X2 ⟨ys,hys,q2⟩ lD kh bA;have s2:=s1.since bA;have ovr:=q2.sl.one;clear hs;obtain⟨t1,t2,t3,rfl⟩:=q2.sl.form;repeat' refine ao ?_;intros
  refine s2.call (C7 (n:=n) (b:=b) (code:=0) (t:=.zero) (st:=(n.A b).x.st) (on:=true) (vs:=.slice t1 t2 t3) s2.h s2.x hb ovr zQ) kQ λv w3 X3 nz n3 s3 q3 m3=>?_;obtain⟨jh,rfl⟩:=q3;exact s3.fin λ_ _=>.inl ⟨jh,_,.inr ⟨_,ovr,rfl⟩,.inl ⟨0,wl,hex,.inr hw0⟩,Told.nil _⟩
 have aqL: ¬(wl.length:Int)=0:=λe=>hw0 (List.length_eq_zero_iff.1 zQ);repeat' refine aL ?_;intros
 refine cA (Bv (QE.mono (s1.sub 4)) (by have:=(A3 Fg).1;omega)) kQ hs.has ?_;rintro vk xQ w2 X2 q2 lD kh bA;have hnl:(fj 1 1 (n.A b).p).length<=40:=ad GB (A3 Fg).1;have jV:Own w2 X2 w1.heap.size 9 1 vk ((fj 1 1 (n.A b).p++(wl.take 0).map (·.key)).map S1):=by rw[List.take_zero,lh,List.append_nil];exact q2.up kh lD
 clear hs;have hs:=ai.fK bA.has;repeat' refine ao ?_;intros
 refine gO (λn' a b' w X=> ∃i:Nat,a=I (i:Nat)/\n'=wl.length-i/\i<=wl.length/\ai X1 w1 X w/\Own w X w1.heap.size 9 1 b' ((fj 1 1 (n.A b).p++(wl.take i).map (·.key)).map S1)) wl.length ⟨0,rfl,rfl,aq _,bA.trans hs,jV.since hs⟩ ?_;clear hs jV;rintro n' a b' w X ⟨i,rfl,rfl,E7,hs,kz⟩;have ah7:=amv.since hs;rcases dD (wl) i with⟨cx,y,hx,hd⟩|⟨dA,hd⟩
 ·repeat' first|refine aL ?_;intros|(with_reducible apply Yd);(case hX=>exact hs.has);(case he=>kernel_rfl);(case ho=>first|rfl|assumption);(case hk=>rfl);intro acc w X ay ho;obtain⟨_,_,_,rfl⟩:=ho.sl.form;replace hs:=hs.trans ay
  have hlen:((fj 1 1 (n.A b).p++(wl.take i).map (·.key)).map S1).length<=80:=by simp;omega
  refine qu (kz.since ay) hs s1.has kQ ho.sl (λr jU u hu=>?_) (by simp only[bH];omega) (by simp only[bH];omega) λv' w' X' tn wo c' dg=>?_
  ·rw[av] at jU;subst jU;rw[av] at hu;subst hu;rfl
  clear hs;repeat' first|refine ao ?_;intros|((with_reducible refine fZ ((wl).length-(i+1)) ?_ ?_);omega;exact⟨i+1,by simp,rfl,by omega,tn,by rw[cn,hx];simp only[Option.toList_some,az,List.map_cons,lh,<-ak] at wo⊢;exact wo⟩)
 rw[aB dA] at kz;obtain⟨k0,iq⟩: ∃k0,k0=fj 1 1 (n.A b).p++wl.map (·.key):=⟨_,rfl⟩;rw[<-iq] at kz;have ata:k0.length<=80:=by rw[iq];simp;omega
 have hkn: ∀k∈k0,(k∈fj 1 1 (n.A b).p\/ ∃o∈(n.A b).p,k=o.key/\(o.code=2\/o.code=3))/\k.size<=24:=λk ah=>by
  rw[iq] at ah;rcases List.mem_append.1 ah with e|e
  ·exact⟨.inl e,Q2 (A3 Fg).1 k e⟩
  ·obtain⟨x,hx,rfl⟩:=List.mem_map.1 e;exact⟨.inr (amu x hx).2,(amu x hx).1⟩
 have aqM:k0≠[]:=by rw[iq];intro e;exact hw0 (List.map_eq_nil_iff.1 (List.append_eq_nil_iff.1 e).2)
 repeat' refine aL ?_;intros
 refine zq (adE kz zQ) kQ hs.has (λk ah=>kz.2.2 k ah) λv zR w3 X3 Q3 qS mN _ c3=>?_;have s3:=(s1.since hs).loc c3 λk ah=>s1.nw (kz.ge ah).1;have m3:Mv (bI ic 4) w1 (bI ic 4) w3:=λk (e:ic k=4) _=>⟨e,(c3.block k (hs.sub k (s1.x k zQ)) λah=>by have:=(kz.ge ah).1;have:=s1.h.lt k zQ;omega).trans (hs.kp.block k (s1.x k zQ))⟩;have adG:=Q3.sl.mono λk ah=>c3.sub k (kz.2.2 k ah);obtain⟨gk,hgk⟩: ∃gk,gk=fQ k0:=⟨_,rfl⟩;have aqN:gk.length=k0.length:=by rw[hgk];exact(kL _).length_eq
 have ah8: ∀k∈gk,(k∈fj 1 1 (n.A b).p\/ ∃o∈(n.A b).p,k=o.key/\(o.code=2\/o.code=3))/\k.size<=24:=λk ah=>hkn k (by rw[hgk] at ah;exact(kL _).mem_iff.1 ah);have adH:gk≠[]:=λe=>aqM (List.length_eq_zero_iff.1 (by rw[<-aqN,e];rfl));rw[<-hgk] at adG;replace nB:=nB.mv m3;clear hs ah7 amv kz Q3 ha oa c3 s1 m1 m3;have hs:=s3.rf;have hr:=s3.v.1;repeat' refine ao ?_;intros
 refine cA (OJ (s3.Ay 2:) hW adG zQ λk ah=>ad (ah8 k ah).2 dQ) kQ hs.has ?_;rintro v4 zS w4 X4 q4 tK oV fV;obtain⟨lR,s4,m4,-,n4⟩:=(s3.since fV).vI (N:=made zS w4) λk hk=>⟨oV k hk,s3.nw (ad tK hk.1)⟩;replace nB:=(nB.mv (fV.gW (s3.sub 4))).mv m4;clear hs hr adG s3 m4;have hs:=s4.rf;by_cases he:(ja n.ds [] gk).2≠0
 ·rw[if_pos he] at q4;subst q4;repeat' refine aL ?_;intros
  exact Yc s4 he (.inr ⟨gk,adH,λk hk=>(ah8 k hk).1,he⟩)
 rw[if_neg he] at q4;obtain⟨vg,rfl,lX⟩:=q4;have Bw:(ja n.ds [] gk).2=0:=Classical.not_not.1 he;have amw:=Ux hW Bw;obtain⟨gs,mF⟩: ∃gs,gs=mL n.ds (ja n.ds [] gk).1:=⟨_,rfl⟩;rw[<-mF] at lX amw;have aqO:gs≠[]:=by
  obtain⟨k,ah⟩:=List.exists_mem_of_ne_nil _ adH;obtain⟨g,hg,_⟩:=amw.rt k ah;exact List.ne_nil_of_mem hg
 have gY:gs.length<=80:=by
  rw[mF,mL,af,(pf _).length_eq,af];have:=Pv (ds:=n.ds) (keys:=gk) (m:=[]);simp only[List.length_nil] at this;omega
 replace lX:=fh.mv lX oN.mv (Mv.sub n4);have Bu:(n.A b).x.aH=(n.A b).x.aH:=rfl;obtain⟨ha,oa⟩:=s4.va hb;have nM:=(s4.h.act hb).1;repeat' refine aL ?_;intros
 refine s4.st (o:=9) (tx b 0) nM (dV (dH n b { n.A b with x:= { (n.A b).x with pre:=true },pq:=true })) zQ kQ (Nat.le_of_ble_eq_true rfl) rfl (λ_ _ _ h=>qT dQ h)
  (IX (λi hq' w K A p=>by
   rcases i with _|_|_|_|_|_|_|_|i<;>first|exact p|exact absurd rfl hq'|skip
   ·exact⟨p.1,p.2.1,λe=>by cases e⟩
   ·exact λ_=>by
     show Own w A 0 Ye 1 (n.A b).x.vq ((n.A b).ids.map I1)
     rw[hq.1,hq.2.1];exact Own.nil _ _ _ _ _)) (λw5 X5 mO s5 m5=>?_) iy.1 iy.2
 replace nB:=nB.mv m5;replace lX:=fh.mv lX oN.mv m5;clear hs ha nM Yc s4 oa;have hs:=s5.rf;have Fh:=fh.mv lX oN.mv (Mv.sub (s5.sub 4));repeat' refine ao ?_;intros
 refine eI (λn' a w X=> ∃(i:Nat) (vq:Value) (aG:Nat->Nat),a=I (i:Nat)/\n'=gs.length-i/\i<=gs.length/\Sn w0 own w X aG (dH n b { n.A b with x:= { (n.A b).x with pre:=true,vq:=vq },ids:=(gs.take i).map (·.pa.id),pq:=true })/\
  Sl w (bI aG 4) 4 vl (wl.map KV.l)/\fh w (bI aG 4) 5 vg oN.rd gs) gs.length ⟨0,(n.A b).x.vq,mO,rfl,rfl,aq _,by rw[List.take_zero,lh,<-hq.2.1];exact s5,nB,lX⟩ ?_
 clear s5 hs Fh nB lX;rintro n' _ w6 X6 ⟨i,vq,zr,rfl,rfl,hi6,s6,nB,lX⟩;have hs:=s6.rf;have Fh:=fh.mv lX oN.mv (Mv.sub (s6.sub 4));rcases dD (gs) i with⟨cx,g,hx,hd⟩|⟨dA,hd⟩
 ·obtain⟨ha,oa⟩:=s6.vs hb;repeat' refine aL ?_;intros
  refine GC Fh hx rfl kQ kQ λbb oo ll pz jB=>?_;obtain⟨H5,rfl,Lu⟩:=jB;have ovk:=Lu.one;change Cells w6 X6 bb oo [I g.pa.id,I g.pa.iF,.float .f64 g.pa.lo,.float .f64 g.pa.hi,H5] at pz;repeat' first|refine ao ?_;intros|(refine q1s hs ?_;intro _ _ _ w X hs ho)
  replace nB:=nB.mv (hs.gW (s6.sub 4));replace lX:=fh.mv lX oN.mv (hs.gW (s6.sub 4));have s7:=s6.since hs;have uy:=C8 s7.h b 7 dQ hb;have nM:=(s7.h.act (b:=b) hb).1;rw[jj] at uy nM;have Bu:((gs.take (i+1)).map (·.pa.id)).map I1=((gs.take i).map (·.pa.id)).map I1++[[I g.pa.id]]:=by
   rw[cn,hx];simp
  refine s7.ap1 (tx b 0) (tx b 7) 0 nM (uy rfl) ho.sl (λr hr u hu=>?_) oQ (λv=>dV (dH n b { n.A b with x:= { (n.A b).x with pre:=true,vq:=v },ids:=(gs.take (i+1)).map (·.pa.id),pq:=true })) (λ_ _ _ _ h=>qT dQ h) (λ_ _ _ _ h=>qT dQ λ_=>by
   show Own _ _ 0 Ye 1 _ (((gs.take (i+1)).map (·.pa.id)).map I1)
   rw[Bu];exact h) (λ_ _ _ _ _ h=>h) (λv'=>Q4) (λv' w9 X9 pC s9 m9=>?_) (zd:=by unfold tx;omega)
  ·rw[av] at hr;subst hr;rw[av] at hu;subst hu;rfl
  clear hs;repeat' refine ao ?_;intros
  exact dS (gs.length-(i+1)) zQ ⟨i+1,v',pC,by simp,rfl,by omega,s9,nB.mv m9,fh.mv lX oN.mv m9⟩
 rw[aB zQ] at s6;obtain⟨ids,Fi⟩: ∃ids,ids=gs.map (·.pa.id):=⟨_,rfl⟩;rw[<-Fi] at s6;have uy:=C8 s6.h b 7 dQ hb;rw[jj] at uy;obtain⟨lj,s7,m7,e7,_⟩:=s6.Yf (F':=dV (dH n b { n.A b with x:= { (n.A b).x with pre:=true,vq:=vq },ids:=ids,pq:=false })) (· =tx b 7) iy.1.symm (λc hc w K=>by subst hc;exact qT dQ λe=>nomatch e) λc hc K A hK p=>by
  by_cases e:c=tx b 3
  ·subst e;rw[wq _ _ _ dQ] at p;have p:=p hb;rw[jj] at p;exact qT dQ ⟨p.1,p.2.1,λ_=>(uy rfl).sl.mono hK⟩
  ·exact(Q4 (d:= { n.A b with x:= { (n.A b).x with pre:=true,vq:=vq },ids:=ids,pq:=true }) (d':= { n.A b with x:= { (n.A b).x with pre:=true,vq:=vq },ids:=ids,pq:=false }): ∀c,(c≠tx b 7/\c≠tx b 3/\c≠tx b 3)->_) c ⟨hc,e,e⟩ _ _ _ p
 replace nB:=nB.mv m7;replace lX:=fh.mv lX oN.mv m7;have OK:Sl w6 (bI lj 4) 1 vq (ids.map I1):=(uy rfl).sl.mono e7;have nN:ids.length<=80:=by rw[Fi,af];exact gY
 have hrw:(n.A b).rw.length=0:=by have:=(s7.h.act (b:=b) hb).2.2.2.1.1;rw[jj] at this;rw[show(n.A b).rw.length=(n.A b).ws.length from this,hws];rfl
 clear uy e7 s6 hs Fh m7;obtain⟨q1,q2,q3,rfl⟩:=OK.form;have hs:=s7.rf;have Fh:=fh.mv lX oN.mv (Mv.sub (s7.sub 4));repeat' refine aL ?_;intros
 obtain⟨D,hD⟩: ∃D:Value->List (List Value)->List cD->pD,D=λvw rw pm=> { n.A b with x:= { (n.A b).x with pre:=true,vq:=.slice q1 q2 q3 },vw:=vw,rw:=rw,ws:=pm.map λm=>m.asked (n.A b).x,ids:=ids,pq:=false } :=⟨_,rfl⟩;have hD0:({ n.A b with x:= { (n.A b).x with pre:=true,vq:=.slice q1 q2 q3 },ids:=ids,pq:=false } :pD)=D (n.A b).vw (n.A b).rw []:=by rw[hD];dsimp only;rw[hws];rfl
 rw[hD0] at s7;refine amx (λn' a _ _ _ w X=> ∃(i:Nat) (iR:Value) (kM:List (List Value)) (pm:List cD) (aG:Nat->Nat) (n1:bh),a=I (i:Nat)/\n'=gs.length-i/\i<=gs.length/\Sn w0 own w X aG n1/\Told (dH n b (D iR kM pm)) (pm.map λm=>(m.asked (n.A b).x).qg (20+n.c.id)) n1/\kM.length=i/\
  Sl w (bI aG 4) 4 vl (wl.map KV.l)/\fh w (bI aG 4) 5 vg oN.rd gs/\Sl w (bI aG 4) 1 (.slice q1 q2 q3) (ids.map I1)/\pm.map (·.range)=(gs.take i).map (·.pa.id)/\ ∀m∈pm,m.kind=3/\m.parts=ids/\m.Dp) gs.length ⟨0,_,_,[],lj,_,rfl,rfl,aq _,s7,Told.nil _,hrw,nB,lX,OK,rfl,λm hm=>absurd hm sQ⟩ ?_
 clear s7 nB lX OK hrw hi6 dA hd hs Fh hD0;rintro n' _ _ _ _ w6 X6 ⟨i,Lv,Lw,pm,zr,n1,rfl,rfl,hi6,s6,ht,rq,nB,lX,OK,Bx,nC⟩;have hs:=s6.rf;have Fh:=fh.mv lX oN.mv (Mv.sub (s6.sub 4));obtain⟨Yg,Q5,xd,Kl⟩:=id ht;have e1:n1.nb=n.nb/\n1.c=n.c/\n1.A b=D Lv Lw pm/\n1.rm.length=n.rm.length+pm.length:=by rw[xd];exact⟨rfl,rfl,jj,by rw[af] at Kl;exact Kl⟩
 have wu:pm.length=i:=by have:=congrArg bf Bx;simp at this;omega
 have lM:n1.gx b:=by rw[xd];exact hb
 obtain⟨ha,oa⟩:=s6.va lM;have Kk:=(s6.h.act lM).2.2.1.sl.mono (s6.sub _ iy.1);rw[e1.2.2.1,hD] at ha oa Kk;rcases dD (gs) i with⟨cx,g,hx,hd⟩|⟨dA,hd⟩
 ·repeat' refine aL ?_;intros
  refine GC Fh hx rfl kQ kQ λbb oo ll pz jB=>?_;obtain⟨H5,rfl,Lu⟩:=jB;have ovk:=Lu.one;change Cells w6 X6 bb oo [I g.pa.id,I g.pa.iF,.float .f64 g.pa.lo,.float .f64 g.pa.hi,H5] at pz;repeat' refine ao ?_;intros
  refine cA (Bt ha (λ_ h=>h) Kk (by dsimp only;omega)) kQ hs.has ?_;rintro vr Q6 w7 X7 ⟨ys,hys,q7⟩ S8 Hn pc;have hr7:Sl w7 X7 7 vr (ys.map fc.l):=(q7.mono Hn).sl;have hyl:ys.length<=2^20:=by rw[hys.length_eq];exact mX
  have ah9:=Lu.since pc;have amy:=(nB.mono (s6.sub 4)).since pc;clear hs;have hs:=ai.fK pc.has;repeat' refine ao ?_;intros
  refine gO (λn' a b' w X=> ∃(j:Nat) (vb:Value) (sl:List fc),a=I (j:Nat)/\b'=(Ez ids sl [] g).v aR vb aR (.slice q1 q2 q3) aR aR aR aR/\n'=ys.length-j/\j<=ys.length/\ai X7 w7 X w/\sl.length<=j/\
   Own w X w7.heap.size 175 7 vb (sl.map fc.l)) ys.length ⟨0,aR,[],rfl,rfl,rfl,aq _,hs,au _,Own.nil _ _ _ _ _⟩ ?_
  clear hs;rintro n' _ _ w X ⟨j,vc,sl,rfl,rfl,rfl,hj,hs,hsj,Uy⟩;have hrw:=hr7.since hs;rcases dD ys j with⟨hlj,y,hy,OL⟩|⟨hgj,OL⟩
  ·repeat' first|refine aL ?_;intros|with_reducible apply cJ
   refine H6 (vJ (ah9.since hs)) kQ hs.has (λaia w8 X8 kT=>?_) (λaia w8 X8 kT=>?_)
   ·have aib:=Uy.since kT;replace hs:=hs.trans kT;clear Uy kT;repeat' first|refine ao ?_;intros|(with_reducible apply Q7);(case hX=>exact hs.has);(case he=>kernel_rfl);(case hk=>rfl);intro acc w X ay ho;obtain⟨_,_,_,rfl⟩:=ho.sl.form;replace hs:=hs.trans ay
    refine qu (aib.since ay) hs pc.has kQ ho.sl (λr jU u hu=>?_) (by simp only[af,bH];omega) (by simp only[af,bH];omega) λv' w' X' tn wo c' dg=>?_
    ·rw[av] at jU;subst jU;simp only[ij,dI,or_false] at hu;rcases hu with rfl|rfl|rfl|rfl|rfl|rfl|rfl<;>rfl
    clear hs;have hs:=ai.fK tn.has;have ov':=wo.sl.one;repeat' refine ao ?_;intros
    exact fZ (ys.length-(j+1)) zQ ⟨j+1,v',sl++[y],by simp,rfl,rfl,by omega,tn,by simp;omega,by rw[az];exact wo⟩
   ·repeat' refine ao ?_;intros
    exact fZ (ys.length-(j+1)) zQ ⟨j+1,vc,sl,by simp,rfl,rfl,by omega,hs.trans kT,by omega,Uy.since kT⟩
  have atb:sl.length<=2^20:=by omega
  have aqP: ∀k,cU vc k->zr k=0/\w0.heap.size<=k:=λk e=>s6.nw (ad pc.kp.size (Uy.ge e).1);replace nB:=nB.mv ((pc.trans hs).gW (s6.sub 4));replace lX:=fh.mv lX oN.mv ((pc.trans hs).gW (s6.sub 4));replace OK:=OK.mv ((pc.trans hs).gW (s6.sub 4));replace s6:=s6.since (pc.trans hs);have aqQ:=ah9.since hs;have ah7:=amy.since hs;obtain⟨wc,Xc,hwc,hXc⟩: ∃wc Xc,wc=w/\Xc=X:=⟨_,_,rfl,rfl⟩;subst hwc hXc;clear hs hrw amy ah9;have hs:=s6.rf;repeat' refine aL ?_;intros
  refine gO (λn' a b' w X=> ∃(j:Nat) (vb:Value) (kl:List KV),a=I (j:Nat)/\b'=(Ez ids sl kl g).v aR vc vb (.slice q1 q2 q3) aR aR aR aR/\n'=wl.length-j/\j<=wl.length/\ai Xc wc X w/\kl.length<=j/\
   Own w X wc.heap.size 178 4 vb (kl.map KV.l)) wl.length ⟨0,aR,[],rfl,rfl,rfl,aq _,hs,au _,Own.nil _ _ _ _ _⟩ ?_
  clear hs;rintro n' _ _ w X ⟨j,vb,kl,rfl,rfl,rfl,hj,hs,hkj,ze⟩;have aqR:=ah7.since hs;rcases dD wl j with⟨hlj,y,hy,OL⟩|⟨atr,OL⟩
  ·repeat' first|refine aL ?_;intros|with_reducible apply cJ
   refine H6 (vJ (aqQ.since hs)) kQ hs.has (λaia w8 X8 kT=>?_) (λaia w8 X8 kT=>?_)
   ·have aib:=ze.since kT;replace hs:=hs.trans kT;clear ze kT;repeat' first|refine ao ?_;intros|(with_reducible apply Q7);(case hX=>exact hs.has);(case he=>kernel_rfl);(case hk=>rfl);intro acc w X ay ho;obtain⟨_,_,_,rfl⟩:=ho.sl.form;replace hs:=hs.trans ay
    refine qu (aib.since ay) hs s6.has kQ ho.sl (λr jU u hu=>?_) (by simp only[af,bH];omega) (by simp only[af,bH];omega) λv' w' X' tn wo c' dg=>?_
    ·rw[av] at jU;subst jU;simp only[ij,dI,or_false] at hu;rcases hu with rfl|rfl|rfl|rfl<;>rfl
    clear hs;have hs:=ai.fK tn.has;have ov':=wo.sl.one;repeat' refine ao ?_;intros
    exact fZ (wl.length-(j+1)) zQ ⟨j+1,v',kl++[y],by simp,rfl,rfl,by omega,tn,by simp;omega,by rw[az];exact wo⟩
   ·repeat' refine ao ?_;intros
    exact fZ (wl.length-(j+1)) zQ ⟨j+1,vb,kl,by simp,rfl,rfl,by omega,hs.trans kT,by omega,ze.since kT⟩
  repeat' refine aL ?_;intros
  obtain⟨S9,s8,m8,-,n8⟩:=(s6.since hs).vI (N:=λk=>cU vb k\/cU vc k) λk e=>by
   rcases e with e|e
   ·exact⟨ze.2.2 k e,s6.nw (ze.ge e).1⟩
   ·exact⟨hs.sub k (Uy.2.2 k e),aqP k e⟩
  replace m8:=Mv.trans (hs.gW (s6.sub 4)) m8;replace nB:=nB.mv m8;replace lX:=fh.mv lX oN.mv m8;replace OK:=OK.mv m8;have hm8:(Ez ids sl kl g).at w (bI S9 4) aR vc vb (.slice q1 q2 q3) aR aR aR aR:=
   ⟨Sl.nil _ _ _,(xR (Uy.since hs) λk e=>n8 k (.inr e)).sl,(xR ze λk e=>n8 k (.inl e)).sl,OK,Sl.nil _ _ _,fh.nil _ _ _,fh.nil _ _ _,fh.nil _ _ _⟩
  have hf8:(Ez ids sl kl g).Dp:=⟨by simp[Ez,CA],by show sl.length<=_;omega,by show kl.length<=_;omega,by show ids.length<=_;omega⟩;rw[<-e1.1];refine s8.call (OM (n:=n1) (b:=b) (m:=Ez ids sl kl g) s8.h s8.x lM hm8 hf8 (by rw[e1.2.1];exact hi) (by rw[e1.2.2.2];omega) (by rw[e1.2.2.1,hD];dsimp only;omega)) kQ λv w9 X9 pC n9 s9 q9 m9=>?_;obtain⟨vw9,rw9,Q8,Yh⟩:=q9;rw[e1.2.2.1,e1.2.1] at Yh;clear hs;repeat' refine ao ?_;intros
  refine amz (gs.length-(i+1)) zQ ⟨i+1,vw9,rw9,pm++[Ez ids sl kl g],pC,n9,by simp,rfl,by omega,s9,?_,by rw[Q8,e1.2.2.1,hD];dsimp only;omega,nB.mv m9,fh.mv lX oN.mv m9,OK.mv m9,by rw[cn,hx];simp[Bx,Ez],λm hm=>by
   rcases List.mem_append.1 hm with e|e
   ·exact nC m e
   ·rw[av] at e;subst e;exact⟨rfl,rfl,hf8⟩⟩
  have fO:=ht.set (b:=b) (e:=D vw9 rw9 (pm++[Ez ids sl kl g]));rw[A4] at fO;rw[az];refine fO.add ?_;rw[hD] at Yh⊢;simp only[az,List.map_cons,lh];exact Yh
 ·rw[aB dA] at Bx;rw[hD] at ht;repeat' refine aL ?_;intros
  exact s6.fin λ_ _=>.inr ⟨ids,pm,_,Lv,Lw,by rw[Fi];exact λe=>aqO (List.map_eq_nil_iff.1 e),nN,by rw[Bx,Fi],nC,⟨gk,adH,λk hk=>(ah8 k hk).1,Bw,by rw[Fi,mF]⟩,by rw[<-hq.2.2] at ht;exact ht⟩
end
end Go.Proofs.YtgfijddlkhkopaaGreat