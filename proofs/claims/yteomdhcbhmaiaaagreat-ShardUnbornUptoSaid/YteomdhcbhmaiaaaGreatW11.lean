/-
 Part 11 of the proof: what the last text leans on.
-/
import Derived.Shelf.SlIter.Nil
import Derived.Shelf.SortM.Plain
import Derived.Shelf.SortM.SortNone
import Derived.Shelf.SlSortCmp.WholeK
import Derived.Ground.GgzProg
import Derived.Ground.SlgmProg
import Derived.Ground.SlsfProg
import Derived.Shelf.SlGeneric
import Derived.Test.YteomdhcbhmaiaaaGreatProg
import Derived.Test.YteomdhcbhmaiaaaGreatW10
open Go.Value renaming string → dt
open List renaming map_map → ed, length_map → bm, length_nil → bA, length_append → ah, length_cons → bO, map_cons → bz, length_take → dx, length → ao, mergeSort_perm → ly, nodup_cons → oC, map_append → bM, map_congr_left → gv, toList_toArray → eB, pairwise_mergeSort → nu, mem_cons_self → eY, mem_singleton → bU
open Nat renaming lt_of_lt_of_le → aA, le_trans → af, zero_le → aP
open Go.Shelf renaming Ren → kN
open List.Perm renaming refl → jP, swap → u1
open Go.Fence renaming wide → mQ
open And renaming intro → ob
open Go.DataW renaming insert → nE
open Go.WideElems renaming rg → rC, rd → xh
open Function renaming comp_def → mR
open Go.Proofs renaming ltOf → pe
open Go.Proofs.SlLaysZ renaming n7 → pf, n6 → xi
open ByteArray renaming size → u2
open Option.some renaming injEq → av
open Go.Builtin renaming max_ → xj, max2 → xl
open Go.Proofs.SlLaysM renaming n6 → xm
open Go.Proofs.SlLaysF0 renaming n6 → wG
set_option linter.unusedVariables false
set_option linter.unusedSimpArgs false
namespace Go.Proofs
open Go.Proofs.Tryz renaming prog → pg
open Go.Shelf
def Tryz.FA:kN:=⟨fun|6=>108|8=>169|9=>170|11=>231|13=>166|12=>232|23=>229|24=>230|14=>262|15=>263|16=>264|17=>265|18=>266|19=>267|20=>268|21=>269|22=>270|25=>277|26=>258|27=>259|28=>278|29=>279|30=>280|31=>281|n=>n,fun|26=>9|28=>199|24=>43|0=>0|3=>3|37=>269|48=>282|50=>250|4=>4|40=>322|39=>321|45=>326|5=>5|9=>9|51=>358|55=>219|57=>373|58=>374|33=>254|n=>n,fun|n=>n⟩
theorem Tryz.XC:xi pg Tryz.FA:= {
 mixed:=by kernel_rfl
 f6:=⟨Tryz.f108.name,by decide,Tryz.func108.trans (congrArg some (by kernel_rfl))⟩
 f8:=⟨Tryz.f169.name,by decide,Tryz.func169.trans (congrArg some (by kernel_rfl))⟩
 f11:=⟨Tryz.f231.name,by decide,Tryz.func231.trans (congrArg some (by kernel_rfl))⟩
 t0:=Tryz.underlying0
 a0:=Tryz.isAgg0
 z0:=Tryz.sizeOf0
 v0:=Tryz.zeroValue0
 t24:=Tryz.underlying43
 a24:=Tryz.isAgg43
 z24:=Tryz.sizeOf43
 v24:=Tryz.zeroValue43
 t26:=Tryz.underlying9
 a26:=Tryz.isAgg9
 z26:=Tryz.sizeOf9
 v26:=Tryz.zeroValue9
 t28:=Tryz.underlying199
 a28:=Tryz.isAgg199
 z28:=Tryz.sizeOf199
 v28:=Tryz.zeroValue199
 i26:=by kernel_rfl }
def Tryz.SY:kN:=⟨fun|6=>170|8=>166|9=>232|19=>229|20=>230|21=>262|22=>263|23=>264|24=>265|25=>266|26=>267|27=>268|28=>269|29=>270|36=>277|31=>258|32=>259|37=>278|38=>279|39=>280|41=>281|n=>n,fun|27=>43|29=>9|3=>3|32=>269|26=>43|0=>0|44=>282|46=>250|4=>4|36=>322|35=>321|41=>326|5=>5|9=>9|53=>358|57=>219|63=>373|64=>374|n=>n,fun|n=>n⟩
theorem Tryz.WD:xm pg Tryz.SY:= {
 mixed:=by kernel_rfl
 f6:=⟨Tryz.f170.name,by decide,Tryz.func170.trans (congrArg some (by kernel_rfl))⟩
 f8:=Tryz.func166.trans (congrArg some (by kernel_rfl))
 f9:=⟨Tryz.f232.name,by decide,Tryz.func232.trans (congrArg some (by kernel_rfl))⟩
 f19:=Tryz.func229.trans (congrArg some (by kernel_rfl))
 f20:=Tryz.func230.trans (congrArg some (by kernel_rfl))
 f21:=⟨Tryz.f262.name,by decide,Tryz.func262.trans (congrArg some (by kernel_rfl))⟩
 f22:=⟨Tryz.f263.name,by decide,Tryz.func263.trans (congrArg some (by kernel_rfl))⟩
 f23:=⟨Tryz.f264.name,by decide,Tryz.func264.trans (congrArg some (by kernel_rfl))⟩
 f24:=⟨Tryz.f265.name,by decide,Tryz.func265.trans (congrArg some (by kernel_rfl))⟩
 f25:=⟨Tryz.f266.name,by decide,Tryz.func266.trans (congrArg some (by kernel_rfl))⟩
 f26:=⟨Tryz.f267.name,by decide,Tryz.func267.trans (congrArg some (by kernel_rfl))⟩
 f27:=⟨Tryz.f268.name,by decide,Tryz.func268.trans (congrArg some (by kernel_rfl))⟩
 f28:=⟨Tryz.f269.name,by decide,Tryz.func269.trans (congrArg some (by kernel_rfl))⟩
 f29:=⟨Tryz.f270.name,by decide,Tryz.func270.trans (congrArg some (by kernel_rfl))⟩
 f31:=Tryz.func258.trans (congrArg some (by kernel_rfl))
 f32:=Tryz.func259.trans (congrArg some (by kernel_rfl))
 f36:=⟨Tryz.f277.name,by decide,Tryz.func277.trans (congrArg some (by kernel_rfl))⟩
 f37:=⟨Tryz.f278.name,by decide,Tryz.func278.trans (congrArg some (by kernel_rfl))⟩
 f38:=⟨Tryz.f279.name,by decide,Tryz.func279.trans (congrArg some (by kernel_rfl))⟩
 f39:=⟨Tryz.f280.name,by decide,Tryz.func280.trans (congrArg some (by kernel_rfl))⟩
 f41:=⟨Tryz.f281.name,by decide,Tryz.func281.trans (congrArg some (by kernel_rfl))⟩
 t0:=Tryz.underlying0
 a0:=Tryz.isAgg0
 z0:=Tryz.sizeOf0
 v0:=Tryz.zeroValue0
 t3:=Tryz.underlying3
 a3:=Tryz.isAgg3
 z3:=Tryz.sizeOf3
 v3:=Tryz.zeroValue3
 t4:=Tryz.underlying4
 a4:=Tryz.isAgg4
 z4:=Tryz.sizeOf4
 v4:=Tryz.zeroValue4
 t5:=Tryz.underlying5
 a5:=Tryz.isAgg5
 z5:=Tryz.sizeOf5
 v5:=Tryz.zeroValue5
 t9:=Tryz.underlying9
 a9:=Tryz.isAgg9
 z9:=Tryz.sizeOf9
 v9:=Tryz.zeroValue9
 t26:=Tryz.underlying43
 a26:=Tryz.isAgg43
 z26:=Tryz.sizeOf43
 v26:=Tryz.zeroValue43
 t27:=Tryz.underlying43
 a27:=Tryz.isAgg43
 z27:=Tryz.sizeOf43
 v27:=Tryz.zeroValue43
 t29:=Tryz.underlying9
 a29:=Tryz.isAgg9
 z29:=Tryz.sizeOf9
 v29:=Tryz.zeroValue9
 t32:=Tryz.underlying269
 a32:=Tryz.isAgg269
 z32:=Tryz.sizeOf269
 v32:=Tryz.zeroValue269
 t35:=Tryz.underlying321
 a35:=Tryz.isAgg321
 z35:=Tryz.sizeOf321
 v35:=Tryz.zeroValue321
 t36:=Tryz.underlying322
 a36:=Tryz.isAgg322
 z36:=Tryz.sizeOf322
 v36:=Tryz.zeroValue322
 t41:=Tryz.underlying326
 a41:=Tryz.isAgg326
 z41:=Tryz.sizeOf326
 v41:=Tryz.zeroValue326
 t44:=Tryz.underlying282
 a44:=Tryz.isAgg282
 z44:=Tryz.sizeOf282
 v44:=Tryz.zeroValue282
 t46:=Tryz.underlying250
 a46:=Tryz.isAgg250
 z46:=Tryz.sizeOf250
 v46:=Tryz.zeroValue250
 t53:=Tryz.underlying358
 a53:=Tryz.isAgg358
 z53:=Tryz.sizeOf358
 v53:=Tryz.zeroValue358
 t57:=Tryz.underlying219
 a57:=Tryz.isAgg219
 z57:=Tryz.sizeOf219
 v57:=Tryz.zeroValue219
 t63:=Tryz.underlying373
 a63:=Tryz.isAgg373
 z63:=Tryz.sizeOf373
 v63:=Tryz.zeroValue373
 t64:=Tryz.underlying374
 a64:=Tryz.isAgg374
 z64:=Tryz.sizeOf374
 v64:=Tryz.zeroValue374 }
def Tryz.Kv:kN:=⟨fun|7=>118|10=>177|n=>n,fun|23=>95|26=>9|3=>210|28=>199|0=>0|27=>198|33=>254|4=>4|n=>n,fun|n=>n⟩
theorem Tryz.abC:pf pg Tryz.Kv:= {
 mixed:=by kernel_rfl
 f7:=⟨Tryz.f118.name,by decide,Tryz.func118.trans (congrArg some (by kernel_rfl))⟩
 f10:=⟨Tryz.f177.name,by decide,Tryz.func177.trans (congrArg some (by kernel_rfl))⟩
 t0:=Tryz.underlying0
 a0:=Tryz.isAgg0
 z0:=Tryz.sizeOf0
 v0:=Tryz.zeroValue0
 t4:=Tryz.underlying4
 a4:=Tryz.isAgg4
 z4:=Tryz.sizeOf4
 v4:=Tryz.zeroValue4
 t23:=Tryz.underlying95
 a23:=Tryz.isAgg95
 z23:=Tryz.sizeOf95
 v23:=Tryz.zeroValue95
 t26:=Tryz.underlying9
 a26:=Tryz.isAgg9
 z26:=Tryz.sizeOf9
 v26:=Tryz.zeroValue9
 t27:=Tryz.underlying198
 a27:=Tryz.isAgg198
 z27:=Tryz.sizeOf198
 v27:=Tryz.zeroValue198
 t28:=Tryz.underlying199
 a28:=Tryz.isAgg199
 z28:=Tryz.sizeOf199
 v28:=Tryz.zeroValue199
 t33:=Tryz.underlying254
 a33:=Tryz.isAgg254
 z33:=Tryz.sizeOf254
 v33:=Tryz.zeroValue254 }
def Tryz.Kw:kN:=⟨fun|7=>109|10=>171|n=>n,fun|23=>187|26=>9|3=>127|28=>199|0=>0|27=>198|33=>254|4=>4|n=>n,fun|n=>n⟩
theorem Tryz.abD:pf pg Tryz.Kw:= {
 mixed:=by kernel_rfl
 f7:=⟨Tryz.f109.name,by decide,Tryz.func109.trans (congrArg some (by kernel_rfl))⟩
 f10:=⟨Tryz.f171.name,by decide,Tryz.func171.trans (congrArg some (by kernel_rfl))⟩
 t0:=Tryz.underlying0
 a0:=Tryz.isAgg0
 z0:=Tryz.sizeOf0
 v0:=Tryz.zeroValue0
 t4:=Tryz.underlying4
 a4:=Tryz.isAgg4
 z4:=Tryz.sizeOf4
 v4:=Tryz.zeroValue4
 t23:=Tryz.underlying187
 a23:=Tryz.isAgg187
 z23:=Tryz.sizeOf187
 v23:=Tryz.zeroValue187
 t26:=Tryz.underlying9
 a26:=Tryz.isAgg9
 z26:=Tryz.sizeOf9
 v26:=Tryz.zeroValue9
 t27:=Tryz.underlying198
 a27:=Tryz.isAgg198
 z27:=Tryz.sizeOf198
 v27:=Tryz.zeroValue198
 t28:=Tryz.underlying199
 a28:=Tryz.isAgg199
 z28:=Tryz.sizeOf199
 v28:=Tryz.zeroValue199
 t33:=Tryz.underlying254
 a33:=Tryz.isAgg254
 z33:=Tryz.sizeOf254
 v33:=Tryz.zeroValue254 }
def Tryz.CL:kN:=⟨fun|6=>102|15=>166|14=>165|28=>229|29=>230|20=>221|21=>222|22=>223|23=>224|24=>225|25=>226|26=>227|27=>228|46=>257|47=>258|48=>259|49=>260|50=>261|57=>276|n=>n,fun|22=>29|24=>65|25=>193|3=>3|39=>269|0=>0|53=>282|55=>250|4=>4|46=>322|45=>321|50=>326|5=>5|9=>9|66=>358|70=>219|76=>373|77=>374|n=>n,fun|n=>n⟩
theorem Tryz.UG:wG pg Tryz.CL:= {
 mixed:=by kernel_rfl
 f6:=⟨Tryz.f102.name,by decide,Tryz.func102.trans (congrArg some (by kernel_rfl))⟩
 f14:=⟨Tryz.f165.name,by decide,Tryz.func165.trans (congrArg some (by kernel_rfl))⟩
 f15:=Tryz.func166.trans (congrArg some (by kernel_rfl))
 f20:=⟨Tryz.f221.name,by decide,Tryz.func221.trans (congrArg some (by kernel_rfl))⟩
 f21:=⟨Tryz.f222.name,by decide,Tryz.func222.trans (congrArg some (by kernel_rfl))⟩
 f22:=⟨Tryz.f223.name,by decide,Tryz.func223.trans (congrArg some (by kernel_rfl))⟩
 f23:=⟨Tryz.f224.name,by decide,Tryz.func224.trans (congrArg some (by kernel_rfl))⟩
 f24:=⟨Tryz.f225.name,by decide,Tryz.func225.trans (congrArg some (by kernel_rfl))⟩
 f25:=⟨Tryz.f226.name,by decide,Tryz.func226.trans (congrArg some (by kernel_rfl))⟩
 f26:=⟨Tryz.f227.name,by decide,Tryz.func227.trans (congrArg some (by kernel_rfl))⟩
 f27:=⟨Tryz.f228.name,by decide,Tryz.func228.trans (congrArg some (by kernel_rfl))⟩
 f28:=Tryz.func229.trans (congrArg some (by kernel_rfl))
 f29:=Tryz.func230.trans (congrArg some (by kernel_rfl))
 f46:=⟨Tryz.f257.name,by decide,Tryz.func257.trans (congrArg some (by kernel_rfl))⟩
 f47:=Tryz.func258.trans (congrArg some (by kernel_rfl))
 f48:=Tryz.func259.trans (congrArg some (by kernel_rfl))
 f49:=⟨Tryz.f260.name,by decide,Tryz.func260.trans (congrArg some (by kernel_rfl))⟩
 f50:=⟨Tryz.f261.name,by decide,Tryz.func261.trans (congrArg some (by kernel_rfl))⟩
 f57:=⟨Tryz.f276.name,by decide,Tryz.func276.trans (congrArg some (by kernel_rfl))⟩
 t0:=Tryz.underlying0
 a0:=Tryz.isAgg0
 z0:=Tryz.sizeOf0
 v0:=Tryz.zeroValue0
 t3:=Tryz.underlying3
 a3:=Tryz.isAgg3
 z3:=Tryz.sizeOf3
 v3:=Tryz.zeroValue3
 t4:=Tryz.underlying4
 a4:=Tryz.isAgg4
 z4:=Tryz.sizeOf4
 v4:=Tryz.zeroValue4
 t5:=Tryz.underlying5
 a5:=Tryz.isAgg5
 z5:=Tryz.sizeOf5
 v5:=Tryz.zeroValue5
 t9:=Tryz.underlying9
 a9:=Tryz.isAgg9
 z9:=Tryz.sizeOf9
 v9:=Tryz.zeroValue9
 t22:=Tryz.underlying29
 a22:=Tryz.isAgg29
 z22:=Tryz.sizeOf29
 v22:=Tryz.zeroValue29
 t25:=Tryz.underlying193
 a25:=Tryz.isAgg193
 z25:=Tryz.sizeOf193
 v25:=Tryz.zeroValue193
 t39:=Tryz.underlying269
 a39:=Tryz.isAgg269
 z39:=Tryz.sizeOf269
 v39:=Tryz.zeroValue269
 t45:=Tryz.underlying321
 a45:=Tryz.isAgg321
 z45:=Tryz.sizeOf321
 v45:=Tryz.zeroValue321
 t46:=Tryz.underlying322
 a46:=Tryz.isAgg322
 z46:=Tryz.sizeOf322
 v46:=Tryz.zeroValue322
 t50:=Tryz.underlying326
 a50:=Tryz.isAgg326
 z50:=Tryz.sizeOf326
 v50:=Tryz.zeroValue326
 t53:=Tryz.underlying282
 a53:=Tryz.isAgg282
 z53:=Tryz.sizeOf282
 v53:=Tryz.zeroValue282
 t55:=Tryz.underlying250
 a55:=Tryz.isAgg250
 z55:=Tryz.sizeOf250
 v55:=Tryz.zeroValue250
 t66:=Tryz.underlying358
 a66:=Tryz.isAgg358
 z66:=Tryz.sizeOf358
 v66:=Tryz.zeroValue358
 t70:=Tryz.underlying219
 a70:=Tryz.isAgg219
 z70:=Tryz.sizeOf219
 v70:=Tryz.zeroValue219
 t76:=Tryz.underlying373
 a76:=Tryz.isAgg373
 z76:=Tryz.sizeOf373
 v76:=Tryz.zeroValue373
 t77:=Tryz.underlying374
 a77:=Tryz.isAgg374
 z77:=Tryz.sizeOf374
 v77:=Tryz.zeroValue374 }
end Go.Proofs
namespace Go.Proofs.YteomdhcbhmaiaaaGreat
open Go.Proofs.Tryz renaming prog → pg
open Go.aX Go.RowKit Go.Maps Go.Sort Go.Shelf Go.Proofs
set_option maxRecDepth 100000
set_option maxHeartbeats 1000000
set_option linter.unusedVariables false
set_option linter.unusedSimpArgs false
theorem insert_perm {H:Type} (x:Lit×DataW H): ∀l:List (Lit×DataW H),(nE x l).Perm (x::l)
 |[]=>jP _
 |y::r=>by
  unfold nE;split
  ·exact jP _
  ·exact((insert_perm x r).cons y).trans (u1 x y r)
theorem xq {H:Type} : ∀l:List (Lit×DataW H),(l.foldr nE []).Perm l
 |[]=>jP _
 |x::l=>(insert_perm x _).trans ((xq l).cons x)
def RT:Value→Option (DataW Unit×List MemPlace):=fun _=>some (.lit (.bool true),[])
theorem PA {P:Program} {w:World} {X:XS} {b kt c:Nat} {es:List (iI ByteArray)} (h:ka w X b dt es c) (hk:P.underlying kt=some .string) (hs: ∀x∈es,x.1.size≤2^40) (hl:es.length≤2^40):
  ∃D0:DataW Unit,w.ownsMap P kt RT b es.length D0∧Maps.size D0=es.length∧(strKeys D0).Perm (es.map fun x=>x.1.data.toList):=by
 have Kx:(2:Nat)^40≤maxLen:=by decide
 have UH: ∀x∈es,keyOf P kt (.string x.1)=some (.string x.1.data.toList):=fun x hx=>by
  unfold keyOf mapKey;rw [hk];simp [af (hs x hx) Kx]
 have xt: ∀x∈es,xh P kt RT (ml dt x)=some (.string x.1.data.toList,.lit (.bool true)):=fun x hx=>by
  unfold xh ml RT;simp [UH x hx]
 have acw:(es.map (ml dt)).map (rC P kt RT)=es.map fun x=>((.string x.1.data.toList:Lit),(.lit (.bool true):DataW Unit)):=by
  rw [ed];apply gv;intro x hx;simp only [Function.comp,rC,xt x hx,Option.getD_some]
 refine⟨.map (((es.map (ml dt)).map (rC P kt RT)).foldr nE []),⟨_,c,h.2.1,⟨?_,⟨?_,?_,?_⟩,?_⟩,by simp,by simp⟩,?_,?_⟩
 ·simpa using af hl Kx
 ·intro x hx;simp only [eB,List.mem_map] at hx;obtain⟨y,hy,rfl⟩:=hx;exact h.2.2.2.2 y hy
 ·have:=h.2.2.2.1;simpa [ed,mR,ml] using this
 ·have h1:=h.2.2.1;have e:((es.map (ml dt)).toArray.toList.map (·.key))=(es.map (·.1)).map dt:=by simp [ed,mR,ml]
  rw [e];exact List.Pairwise.map dt (fun a b MR e=>MR (by cases e;rfl)) h1
 ·intro x hx;simp only [eB,List.mem_map] at hx;obtain⟨y,hy,rfl⟩:=hx;exact⟨_,xt y hy⟩
 ·show ao _=_
  rw [(xq _).length_eq];simp
 ·show(List.map _ _).Perm _
  refine((xq _).map _).trans ?_;rw [acw,ed];exact jP _
def leB (x y:List UInt8):Bool:=decide (x≤y)
def bl (s:ByteArray):List UInt8:=s.data.toList
theorem LL (s:ByteArray):(⟨(bl s).toArray⟩:ByteArray)=s:=by unfold bl;simp
def lG (ks:List ByteArray):List ByteArray:=((ks.map bl).mergeSort leB).map fun x=>⟨x.toArray⟩
theorem yd: ∀a b c:List UInt8,leB a b=true→leB b c=true→leB a c=true:=fun a b c h1 h2=>by
 unfold leB at*;simp only [decide_eq_true_eq] at*;exact List.le_trans h1 h2
theorem ye: ∀a b:List UInt8,(leB a b||leB b a)=true:=fun a b=>by
 unfold leB;rcases List.le_total a b with h|h<;>simp [h]
theorem MS: ∀a b:List UInt8,leB a b=true→leB b a=true→a=b:=fun a b h1 h2=>by
 unfold leB at*;simp only [decide_eq_true_eq] at*;exact List.le_antisymm h1 h2
theorem CM: ∀{l l':List (List UInt8)},l.Perm l'→l.Pairwise (fun a b=>leB a b=true)→l'.Pairwise (fun a b=>leB a b=true)→l=l'
 |[],l',hp,_,_=>(List.Perm.nil_eq hp)
 |a::l,[],hp,_,_=>absurd hp.length_eq (by simp)
 |a::l,b::l',hp,h1,h2=>by
  have Qq:=List.pairwise_cons.1 h1;have h2':=List.pairwise_cons.1 h2;have MR:a=b:=by
   have ha:a∈b::l':=hp.mem_iff.1 (by simp);have hb:b∈a::l:=hp.mem_iff.2 (by simp);rcases List.mem_cons.1 ha with e|ha
   ·exact e
   ·rcases List.mem_cons.1 hb with e|hb
    ·exact e.symm
    ·exact MS a b (Qq.1 b hb) (h2'.1 a ha)
  subst MR;rw [CM (List.Perm.cons_inv hp) Qq.2 h2'.2]
theorem SZ {l l':List (List UInt8)} (h:l.Perm l'):l.mergeSort leB=l'.mergeSort leB:=
 CM (((ly l leB).trans h).trans (ly l' leB).symm) (nu yd ye l) (nu yd ye l')
theorem HJ (ks:List ByteArray):(lG ks).Perm ks:=by
 have h:=(ly (ks.map bl) leB).map fun x=>(⟨x.toArray⟩:ByteArray);rw [ed] at h;have e:(ks.map ((fun x=>(⟨x.toArray⟩:ByteArray))∘bl))=ks:=by
  conv=>rhs;rw [←List.map_id ks]
  apply gv;intro x _;exact LL x
 rw [e] at h;exact h
theorem UI (m:Nat):AnyZ.SortsIn pg Tryz.FA mQ m:=
  ⟨fun fV off cap ss W hH hblk gy=>callsIn_wide.2 (AnyM.slices_Sort_string Tryz.WD fV off cap ss W hH hblk gy),
   fun p cap W=>callsIn_wide.2 (AnyM.slices_Sort_string_none Tryz.WD p cap W)⟩
theorem MT {g:FuncId} {lb:Array Value} {w:World} {X A:XS} {mb:Nat} {α:Type} {rd:World→XS→Value→α→Prop} {l:List (ByteArray×α)} (h:ik w X A mb dt rd l) (eg:enters pg g=true)
  (hs: ∀x∈l,x.1.size≤2^40) (hl:l.length≤2^40)
  (hg: ∀wa,Kp X w wa→ ∀(nn:Nat) (D0:DataW Unit),wa.ownsMap pg 9 RT mb nn D0→SeqGives mQ 2 pg g lb encStr (fun ss=>ss.Perm (strKeys D0)) (Maps.size D0) wa):
  Ct pg 108 #[.func (.func g) #[] lb] w X nX fun v wa w'=>Own w' (made wa w') wa.heap.size 9 1 v ((lG (l.map (·.1))).map S1):=by
 intro wa hk;obtain⟨es,c,h1,h2⟩:=h;have Rk:=h2.keys;have hlen:es.length=l.length:=by have:=congrArg ao Rk;simpa using this
 obtain⟨D0,Aq,gy,WE⟩:=PA (P:=pg) (h1.kp hk) (kt:=9) kQ (fun x hx=>by
  have:x.1∈l.map (·.1):=by rw [←Rk];exact List.mem_map.2 ⟨x,hx,rfl⟩
  obtain⟨y,hy,e⟩:=List.mem_map.1 this;rw [←e];exact hs y hy) zQ
 have Kx:(2:Nat)^40≤maxLen:=by decide
 have hS:=callsIn_wide.1 (AnyZ.sorted_in Tryz.XC mQ 5 trivial trivial trivial trivial rfl zQ (UI _) (fun args w=>pI kQ args w) g lb trivial (fun args w=>pI eg args w) _ _ zQ zQ wa (hg wa hk _ D0 Aq));refine hS.mono ?_;rintro e w' ⟨v,ss,rfl,hp,bK,acx,hb⟩;have hx:Ext wa w':=⟨hb.os,hb.tape,hb.output,hb.size,fun k ae _=>hb.block k ae⟩;refine⟨v,rfl,hx,?_⟩;have e1:ss.mergeSort (fun x y=>decide (x≤y))=(l.map fun x=>bl x.1).mergeSort leB:=by
  have hp2:ss.Perm (l.map fun x=>bl x.1):=by
   refine hp.trans (WE.trans ?_);have:(es.map fun x=>x.1.data.toList)=(l.map fun x=>bl x.1):=by
    have:=congrArg (List.map bl) Rk;simpa [ed,mR,bl] using this
   rw [this]
  exact SZ hp2
 have e2:((ss.mergeSort (fun x y=>decide (x≤y))).map encStr)=((lG (l.map (·.1))).map S1).flatten:=by
  rw [e1];unfold lG;rw [ed,ed];have e3: ∀q:List (List UInt8),q.map encStr=(q.map (S1∘fun x=>(⟨x.toArray⟩:ByteArray))).flatten:=fun q=>by
   induction q with
   |nil=>rfl
   |cons a q ih=>simp only [bz,List.flatten_cons,←ih];rfl
  exact e3 _
 have pJ:ss.length=((lG (l.map (·.1))).map S1).length:=by
  rw [bm,(HJ _).length_eq,bm,←hlen];have:=hp.length_eq;rw [this,WE.length_eq,bm]
 refine⟨fun r hr=>by obtain⟨x,_,rfl⟩:=List.mem_map.1 hr;rfl,?_,fun q hq=>⟨?_,?_⟩⟩
 ·rw [←pJ,←e2];exact bK
 ·exact(bK.lt _ hq).1
 ·exact(bK.lt _ hq).2
end Go.Proofs.YteomdhcbhmaiaaaGreat
namespace Go.Proofs.YteomdhcbhmaiaaaGreat
open Go.Proofs.Tryz renaming prog → pg
open Go.aX Go.Maps Go.Shelf
set_option maxRecDepth 100000
set_option maxHeartbeats 1000000
set_option linter.unusedVariables false
set_option linter.unusedSimpArgs false
attribute [local irreducible] un jn aC aJ ld1 ff st1 dy cY mm dK nv Bw zn fR gf ad aw aG eW eV eU eC eF gE au fin aM az aD vS FB gU ja vT FC FE FF FG FH gV jb vU FI FJ FK FM
theorem XD {w:World} {X:XS} {mb:Nat} :Ct pg 118 #[.map (some mb)] w X nX fun v wa w'=> ∃bx,v= .func (.func 177) #[] #[ptr bx 0]∧bq w' (made wa w') bx [.map (some mb)] 95:=by
 intro w0 hk;apply kq;unfold gJ;have hs:=ak.init w0;refine xu rfl hs.has fun bx w1 X1 fB ax bK=>?_;repeat' first|refine aN ?_;intros
 exact aj ax fun wa bt=>⟨bx,rfl,⟨fB,(bK.kp bt).lt⟩,(bK.kp bt).2⟩
theorem S9 {w:World} {X A:XS} {mb bx:Nat} {α:Type} {rd:World→XS→Value→α→Prop} {l:List (ByteArray×α)} (h:ik w X A mb dt rd l) (hb:bq w X bx [.map (some mb)] 95)
  (hs: ∀x∈l,x.1.size≤2^40) (hl:l.length≤2^40):
  Ct pg 108 #[.func (.func 177) #[] #[ptr bx 0]] w X nX fun v wa w'=>Own w' (made wa w') wa.heap.size 9 1 v ((lG (l.map (·.1))).map S1):=
 MT h kQ hs hl fun wa hk nn D0 Aq=>
  AnyZ.keys_gives (ρ:=Tryz.Kv) { Tryz.abC with } mQ _ trivial rfl zQ bx mb nn D0 wa (hb.kp hk).lt (by have:=(hb.kp hk).2;simp [World.cell?,this]) Aq
theorem PB {w:World} {X F:XS} {db:Nat} {m:DM} (h:Dk w F db m) (hF:FX F X w) (hs: ∀x∈m.fs,x.1.size≤2^40) (hl:m.fs.length≤2^40):
  Ct pg 64 #[ptr db 0] w X nX fun v wa w'=>Own w' (made wa w') wa.heap.size 9 1 v ((lG (m.fs.map (·.1))).map S1):=by
 intro w0 hk;obtain⟨mb,l,h0,hz⟩:=h.mv (hF.mv hk);have hX:=fun k ae=>(hF.kp hk k ae).1;have hb:=h0.box.mv (Mv.sub hX);have hm:=h0.map.mv jQ (Mv.sub hX) (A':=nX) fun _ h=>h.elim;have zo:=h0.fs;apply EX;unfold vV;have bL:=ak.init w0;repeat' first|refine aN ?_;intros
 refine dW XD kQ bL.has ?_;rintro _ wa w1 X1 ⟨bx,rfl,bK⟩ hle gF ax;have Bx:=hm.mv jQ ax.mv (A':=nX) fun _ h=>h.elim;refine dW (S9 Bx (bK.mono gF) (fun x hx=>hs (x.1,x.2.er) (by rw [zo];exact List.mem_map.2 ⟨x,hx,rfl⟩)) (by rw [zo,bm] at hl;exact hl)) kQ ax.has ?_;rintro v rR w2 X2 ho mc mS dJ;have MU:=ax.kp.size;refine aj (ax.trans dJ) fun CN bt=>?_;have sA:Own w2 X2 w0.heap.size 9 1 v ((lG (l.map (·.1))).map S1):=ho.up mS zQ;have e:m.fs.map (·.1)=l.map (·.1):=by rw [zo,ed];rfl
 rw [e];exact(sA.kp bt).tight
end Go.Proofs.YteomdhcbhmaiaaaGreat
namespace Go.Proofs.YteomdhcbhmaiaaaGreat
open Go.Proofs.Tryz renaming prog → pg
open Go.aX
set_option maxRecDepth 100000
set_option maxHeartbeats 1000000
set_option linter.unusedVariables false
set_option linter.unusedSimpArgs false
attribute [local irreducible] un jn aC aJ ld1 ff st1 dy cY mm dK nv Bw zn fR gf ad aw aG eW eV eU eC eF gE au fin aM az aD vS FB gU ja vT FC FE FF FG FH gV jb vU FI FJ FK FM
def L0 (dir:ByteArray) (sz:Nat):LM:=⟨dir,sz,[],0⟩
theorem PC {w:World} {X F:XS} {db sz:Nat} {dir:ByteArray} {m:DM} (h:Dk w F db m) (hF:FX F X w) (zo:m.fs=[]) (gM:m.dn=false) (h1:1≤dir.size) (h2:dir.size≤11) (ax:64≤sz) (dJ:sz≤262144)
  (hr:(LD.gG ⟨L0 dir sz,m⟩ 1).2=0):
  Ct pg 26 #[ptr db 0,.string dir,I sz] w X F fun v wa w'=> ∃lb F',v= .tuple #[ptr lb 0,I 0]∧(∀k,F' k→F k∨made wa w' k)∧Lg w' F' lb db (LD.gG ⟨L0 dir sz,m⟩ 1).1.L (LD.gG ⟨L0 dir sz,m⟩ 1).1.m:=by
 intro w0 hk;replace h:=h.mv (hF.mv hk);have hT:=hF.ft hk;have oe:FX F (aS w0) w0:=hF.kp hk;apply PD;unfold FN;refine dW (Rl (n:=1) h1 h2 zQ zQ) kQ hT.s.has ?_;rintro _ yf w1 X1 rfl lz jg Zk;replace hT:=hT.since Zk;replace h:=h.mv (Zk.lr fun k ae=>(oe k ae).1);repeat' first|refine bY ?_;intros
 refine dZ (PE h (hT.fx fun _ h=>h)) kQ hT.s.has fun w2 X2 Jd=>?_;replace h:=h.mv (Jd.lr hT.bN);replace hT:=hT.since Jd;rw [gM];repeat' first|refine aN ?_;intros
 refine ph hT.s.has fun lb w3 X3 uZ dT bK=>?_;have h3:=h.mv (dT.lr hT.bN);have dU:=hT.since dT;have Zl: ∀k,F k→k<w2.heap.size:=fun k ae=>hT.s.has k (hT.bN k ae);have pj:Ft w0 F w3 X3 (fun k=>F k∨k=lb):=dU.more fun k ae=>ae.imp id fun e=>by
  subst e;have:=hT.s.kp.size;exact⟨bK.1,by omega⟩
 have g3:Lg w3 (fun k=>F k∨k=lb) lb db (L0 dir sz) m:=
  ⟨(· =lb),F,.slice none 0 0,[],fun k a b=>by have:=Zl k b;omega,fun _ h=>.inr h,fun _ h=>.inl h,
   ⟨rfl,⟨rfl,bK.2⟩,⟨by simp,.inl ⟨rfl,rfl⟩⟩,by simp,by simp,by simp,List.Pairwise.nil⟩,h3⟩
 refine dW (PB h3 (dU.fx fun _ h=>h) (by simp [zo]) (by simp [zo])) kQ dU.s.has ?_;rintro vl sB w4 X4 hol vI nF jh;rw [show(lG (m.fs.map (·.1))).map S1=([]:List ByteArray).map S1 from by rw [zo];simp [lG]] at hol;have Qs:=hol.sl;repeat' first|refine aN ?_;intros
 refine eQ (fun n a w X=>a=I 0∧Ft w0 F w X (fun k=>F k∨k=lb)∧Lg w (fun k=>F k∨k=lb) lb db (L0 dir sz) m) 0 ⟨rfl,pj.since jh,g3.mv (jh.lr pj.bN)⟩ ?_;clear hT dU pj g3 h3 h bK;rintro n a w5 X5 ⟨rfl,iJ,g5⟩;obtain⟨FL,FD,sv,bl,Zm,hL,hD,hl,hd⟩:=id g5;have Ky:bl=[]:=by have:=hl.dL;cases bl with
  |nil=>rfl
  |cons x y=>simp [L0] at this
 subst Ky;have Zn:=hl.box.mv (Mv.sub fun k ae=>iJ.bN k (hL k ae));have hsv:=hl.so.sl;repeat' first|refine bY ?_;intros|refine du ?_ ?_<;>intros|with_reducible apply dg|(exfalso;rename_i h;simp at h;done)
 refine iJ.call (HK (n:=1) g5 h2 zQ (by simp [L0]) (iJ.fx fun _ h=>h)) kQ (fun _ h=>h) fun v WG w6 X6 hq6 Rm MV kO hc6=>?_;obtain⟨rfl,F6,hF6,h6⟩:=hq6;have uy:Ft w0 F w6 X6 F6:=kO.less hF6;rw [hr];repeat' first|refine bY ?_;intros
 exact uy.fin fun wa bt=>⟨lb,F6,rfl,uy.jf bt fun _ h=>h,h6.mv (bt.fW uy.bN)⟩
theorem XE {dir:ByteArray} {sz:Nat} {m:DM} (hr:(LD.gG ⟨L0 dir sz,m⟩ 1).2=0):(LD.gG ⟨L0 dir sz,m⟩ 1).1.L=⟨dir,sz,[⟨1,[],0⟩],0⟩:=by
 unfold LD.gG at*;dsimp only at*;rw [if_pos hr];rfl
end Go.Proofs.YteomdhcbhmaiaaaGreat
namespace Go.Proofs.YteomdhcbhmaiaaaGreat
open Go.Proofs.Tryz renaming prog → pg
open Go.aX
abbrev uz:ByteArray:=⟨#[108,111,103]⟩
abbrev HL:DM:=⟨[],0,0,false⟩
def xL (sz:Nat):LD:=(LD.gG ⟨L0 uz sz,HL⟩ 1).1
theorem Je (sz:Nat):(LD.gG ⟨L0 uz sz,HL⟩ 1).2=0∧(HL.create (gP uz 1)).2=0∧jF (HL.create (gP uz 1)).1∧(HL.create (gP uz 1)).1.ks=[gP uz 1]∧(HL.create (gP uz 1)).1.sz=0:=by
 have hm:jF HL:=⟨rfl,rfl⟩;have hn:sC (gP uz 1)=true:=by simp only [sC,HM,decide_eq_true_eq];decide
 rcases hm.create hn (by simp [DM.ks])with⟨h1,_⟩|⟨h1,h2,h3,h4,h5⟩
 ·simp at h1
 ·exact⟨h2,h2,h3,h4,h5⟩
theorem UJ (sz:Nat):(xL sz).L=⟨uz,sz,[⟨1,[],0⟩],0⟩:=XE (Je sz).1
theorem Ta {B sz:Nat} (h1:64≤sz) (h2:sz≤262144):jR B 0 1 (xL sz):=by
 obtain⟨_,_,g3,g4,g5⟩:=Je sz;have hL:=UJ sz;have hm:(xL sz).m=(HL.create (gP uz 1)).1:=rfl;have sD:(xL sz).L.last=⟨1,[],0⟩:=by rw [hL];rfl
 refine⟨by rw [hm];exact g3,by rw [hL];simp,by rw [hL];exact(show 1≤u2 uz from by decide),by rw [hL];exact(show u2 uz≤11 from by decide),by rw [hL];exact af (by decide) h1,by rw [hL];exact af h2 (by decide),?_,?_,?_,?_,?_,?_,?_,?_,by rw [hm,g4];decide⟩
 ·rw [hm,g4,hL];intro k hk;exact⟨1,by simp,by simpa using hk⟩
 ·rw [hm,g4];unfold LM.fO;rw [sD,hL];simp
 ·rw [hL];simp
 ·rw [sD];intro _;rfl
 ·rw [hL];intro s hs;simp at hs;subst hs;simp
 ·unfold LM.next;rw [sD];rfl
 ·rw [hm,g5];exact aP _
 ·rw [hL];simp
theorem Rn:GL 1 (xL 4096):=by
 have h:=Ta (B:=0) (sz:=4096) (by decide) (by decide);refine⟨h.ok,h.ne,h.d1,h.d2,fun s hs=>?_,h.r2,h.len⟩;have:=h.pos s hs;omega
structure me (c:Nat) (x:LD):Prop where
 l:jR 1000 c (c+1) x
 r:x.L.room=4096
theorem PF (x:LD) (p:List Nat):(x.append p).1.L.room=x.L.room:=by
 have h0:x.sync.1.L.room=x.L.room:=by
  unfold LD.sync;dsimp only;split<;>rfl
 have h2: ∀(y:LD) n,(y.gG n).1.L.room=y.L.room:=fun y n=>by
  unfold LD.gG;dsimp only;split<;>rfl
 have h1:x.room.1.L.room=x.L.room:=by
  unfold LD.room;dsimp only;split
  ·split
   ·exact h0
   ·exact(h2 _ _).trans h0
  ·rfl
 have h3: ∀y:LD,(y.lay p).1.L.room=y.L.room:=fun y=>by
  unfold LD.lay;dsimp only;split<;>rfl
 unfold LD.append;dsimp only;split
 ·rfl
 ·split
  ·rfl
  ·split
   ·exact h1
   ·split<;>exact(h3 _).trans h1
theorem me.iY {c:Nat} {x:LD} {p:List Nat} (h:me c x) (hc:c≤3) (hp:p.length≤900):(x.iY 0 p).2.2=0∧me (c+1) (x.iY 0 p).1:=by
 rcases h.l.append (p:=p) zQ zQ zQ zQ with⟨h1,h2,h3⟩|⟨_,h2,_⟩
 ·obtain⟨k1,k2⟩:=h3.sync;unfold LD.iY;rw [if_neg (by simp)];dsimp only;rw [if_neg (by simp [h1])];exact⟨k1,k2.inv h3,by rw [k2.room,PF];exact h.r⟩
 ·have h4:=h2.2;have h5:=(h.l.pos _ (LM.rD h.l.ne)).2.2.2;rw [h.r] at h4;omega
theorem me.gl {c:Nat} {x:LD} (h:me c x):GL (c+1) x:=by
 refine⟨h.l.ok,h.l.ne,h.l.d1,h.l.d2,fun s hs=>?_,h.l.r2,h.l.len⟩;have:=h.l.pos s hs;omega
theorem Zo:me 0 (xL 4096):=⟨Ta (by decide) (by decide),by rw [UJ]⟩
end Go.Proofs.YteomdhcbhmaiaaaGreat
namespace Go.Proofs.YteomdhcbhmaiaaaGreat
open Go.Proofs.Tryz renaming prog → pg
open Go.aX
set_option maxRecDepth 100000
set_option maxHeartbeats 1000000
set_option linter.unusedVariables false
set_option linter.unusedSimpArgs false
attribute [local irreducible] un jn aC aJ ld1 ff st1 dy cY mm dK nv Bw zn fR gf ad aw aG eW eV eU eC eF gE au fin aM az aD vS FB gU ja vT FC FE FF FG FH gV jb vU FI FJ FK FM
theorem Own.tagB {w:World} {X:XS} {lo e k:Nat} {v:Value} {rows:List (List Value)} (h:Own w X lo e k v rows) {g:Nat} (hg:v.ownBlock=some g): ∃cs:List Value,w.heap[g]? =some (.cells cs.toArray e (0,0)):=by
 rcases h.row with⟨rfl,_⟩|⟨b,cap,cs,rfl,_,hr,_⟩
 ·cases hg
 ·simp only [Value.ownBlock,av] at hg;subst hg;exact⟨cs,hr.2⟩
theorem Own.other {w:World} {X Y:XS} {lo Qt e e' k k':Nat} {v v':Value} {rows abE:List (List Value)} (h:Own w X lo e k v rows) (h':Own w Y Qt e' k' v' abE) (he:decide (e≠e')=true) {g:Nat} (hg:v.ownBlock=some g):v'.ownBlock≠some g:=fun qi=>by
 obtain⟨c,h1⟩:=Own.tagB h hg;obtain⟨c',h2⟩:=Own.tagB h' qi;rw [h1] at h2;simp only [av,Obj.cells.injEq] at h2;exact of_decide_eq_true he h2.2.1
theorem Own.HN {κ α:Type} [DecidableEq κ] {w:World} {X Y A:XS} {lo e k r b:Nat} {v:Value} {rows:List (List Value)} {kv:κ→Value} {rd:World→XS→Value→α→Prop} {l left:List (κ×α)} (h:Own w X lo e k v rows) (hi:pT w Y A r b kv rd l left):v.ownBlock≠some r:=fun hg=>by
 obtain⟨c,h1⟩:=Own.tagB h hg;obtain⟨es,cl,yg,h2,_⟩:=hi;obtain⟨s,hs,_⟩:=h2.2.2.2;rw [h1] at hs;cases hs
structure PV where
 p:cx
 br:Option Addr
 nr:Nat
 cr:Nat
 bw:Option Addr
 nw:Nat
 cw:Nat
instance:Inhabited PV:=⟨⟨⟨⟨0,0,0⟩,.zero,[],[]⟩,none,0,0,none,0,0⟩⟩
abbrev PV.l (x:PV):List Value:=x.p.l (.slice x.br x.nr x.cr) (.slice x.bw x.nw x.cw)
structure PV.at (w:World) (X:XS) (lo:Nat) (x:PV):Prop where
 r:Own w X lo 9 1 (.slice x.br x.nr x.cr) (x.p.reads.map S1)
 w:Own w X lo 71 4 (.slice x.bw x.nw x.cw) (x.p.writes.map KV.l)
theorem PV.at.mv {w w':World} {X Y:XS} {lo:Nat} {x:PV} (h:x.at w X lo) (m:Mv X w Y w'):x.at w' Y lo:=⟨h.r.mv m,h.w.mv m⟩
theorem PV.at.fF {w w':World} {X X' Y:XS} {lo Qt e k:Nat} {x:PV} {v:Value} {rows:List (List Value)} (h:x.at w X lo) (c:fb (fV v) X w X' w') (ho:Own w Y Qt e k v rows) (he:decide (e≠9∧e≠71)=true):x.at w' X' lo:=by
 have he:=of_decide_eq_true he;refine⟨Own.fF h.r c fun g hg hb=>?_,Own.fF h.w c fun g hg hb=>?_⟩
 ·exact Own.other ho h.r (by simpa using he.1) hb hg
 ·exact Own.other ho h.w (by simpa using he.2) hb hg
def HO (x y:PV):Int:=if x.p.dq.less y.p.dq then-1 else 1
theorem EC (x y:PV):pe HO x y=x.p.dq.less y.p.dq:=by
 unfold pe HO;cases x.p.dq.less y.p.dq<;>rfl
theorem UK:Go.Sort.SWO (pe HO) where
 irrefl x:=by rw [EC];exact dB.uU _
 trans x y z:=by simp only [EC];exact dB.Ap
 ntrans x y z:=by simp only [EC];exact dB.Pz
theorem PG {w:World} {X:XS} {lo:Nat} {v:Value} {xs:List PV} (own:Own w X lo 65 8 v (xs.map PV.l)) (hb:xs.length<2^61):
  Ct pg 102 #[v,.func (.func 103) #[] #[]] w X (fV v) fun r _ w'=>r= .tuple #[]∧ ∃ys:List PV,ys.Perm xs∧ys.Pairwise (fun a b=>b.p.dq.less a.p.dq=false)∧Own w' (fV v) lo 65 8 v (ys.map PV.l):=by
 have h:=XF (P:=pg) (ρ:=Tryz.CL) Tryz.UG (k:=8) zQ Tryz.isAgg65 Tryz.sizeOf65 (enc:=PV.l) (fun _=>rfl)
  (fun x u hu=>by simp only [PV.l,cx.l,List.mem_cons,List.not_mem_nil,or_false] at hu;rcases hu with h|h|h|h|h|h|h|h<;>subst h<;>rfl) (cf:=HO) UK (g:=103)
  (Go.Proofs.enters_of Tryz.func103 kQ rfl) (fun x y W=>Py x.p.dq y.p.dq x.p.bb y.p.bb _ _ _ _ _ _ _ _ _ _ _ _ W) own hb
 simp only [EC] at h;exact h
def ordered (l:List cx):Prop:=l.Pairwise fun a b=>b.dq.less a.dq=false
theorem zp: ∀{l l':List cx},l.Perm l'→(l.map (·.dq)).Nodup→ordered l→ordered l'→l=l'
 |[],l',h,_,_,_=>(List.nil_perm.1 h).symm
 |a::t,[],h,_,_,_=>absurd (List.perm_nil.1 h) (by simp)
 |a::t,b::s,h,hn,h1,h2=>by
  have MR:a=b:=by
   rcases List.mem_cons.1 (h.mem_iff.1 (eY (a:=a) (l:=t)))with e|ha
   ·exact e
   ·rcases List.mem_cons.1 (h.mem_iff.2 (eY (a:=b) (l:=s)))with e|hb
    ·exact e.symm
    ·have e1:=(List.pairwise_cons.1 h2).1 a ha;have e2:=(List.pairwise_cons.1 h1).1 b hb;have ht:a.dq=b.dq:=dB.Rj e1 e2;rw [bz,oC] at hn;exact absurd (List.mem_map.2 ⟨b,hb,ht.symm⟩) hn.1
  subst MR;rw [bz,oC] at hn;rw [zp ((List.perm_cons a).1 h) hn.2 (List.pairwise_cons.1 h1).2 (List.pairwise_cons.1 h2).2]
theorem pT.own {w:World} {X A:XS} {r b:Nat} {l left:List (dB×cx)} {kv:dB→Value} {rd:World→XS→Value→cx→Prop} (h:pT w X A r b kv rd l left):pT w (fun k=>k=r∨k=b) A r b kv rd l left:=
 let⟨es,c,yg,h1,h2,h3,h4⟩:=h
 ⟨es,c,yg,⟨⟨.inr rfl,h1.1.2⟩,.inl rfl,h1.2.2⟩,h2,h3,h4⟩
theorem pT.x {w:World} {X A:XS} {r b:Nat} {l left:List (dB×cx)} {kv:dB→Value} {rd:World→XS→Value→cx→Prop} (h:pT w X A r b kv rd l left):X r∧X b∧r<w.heap.size∧r≠b:=by
 obtain⟨es,c,yg,h1,_⟩:=h;obtain⟨s,hs,_⟩:=h1.2.2.2;exact⟨h1.2.1,h1.1.1,(Array.getElem?_eq_some_iff.1 hs).1,h1.2.2.1⟩
theorem Tb {left:List (dB×cx)} {k:dB} {a:cx} (hn:(left.map (·.1)).Nodup) (h:(k,a)∈left):left.Perm ((k,a)::left.filter fun y=>decide (y.1≠k)):=by
 induction left with
 |nil=>cases h
 |cons x l ih=>
  rw [bz,oC] at hn;rcases List.mem_cons.1 h with e|h
  ·subst e;rw [List.filter_cons_of_neg (by simp)];have:l.filter (fun y=>decide (y.1≠k))=l:=List.filter_eq_self.2 fun y hy=>by
    simp;intro e;exact hn.1 (e▸List.mem_map.2 ⟨y,hy,rfl⟩)
   rw [this]
  ·have hx:x.1≠k:=fun e=>hn.1 (e▸List.mem_map.2 ⟨_,h,rfl⟩);rw [List.filter_cons_of_pos (by simpa using hx)];exact(List.Perm.cons x (ih hn.2 h)).trans (u1 _ _ _)
theorem zq {w:World} {X A:XS} {sb kb pb:Nat} {hm:List (BA×List fJ)} {pm:List (dB×cx)} {low:bH} (h:ek w X A sb kb pb hm pm low) (hX: ∀k,X k→k<w.heap.size)
  (xv: ∀x∈pm,x.2.reads.length≤2^40∧x.2.writes.length≤2^40) (hml:pm.length≤2^40):
  Ct pg 47 #[ptr sb 0] w X nX fun v wa w'=> ∃xs:List PV,Own w' (made wa w') wa.heap.size 65 8 v (xs.map PV.l)∧(∀x∈xs,x.at w' (made wa w') wa.heap.size)∧
   (xs.map (·.p)).Perm (pm.map (·.2))∧ordered (xs.map (·.p)):=by
 intro w0 hk;replace h:=h.mv hX hk.cO;have fB:=h.box;apply zr;unfold rS;have hs:=ak.init w0;repeat' first|refine aN ?_;intros
 refine Qu (kt:=42) (et:=65) h.dh gA.mv h.sub kQ hs.has fun ri w X hr ax tL=>?_;replace hs:=hs.trans ax;have HP: ∀k,A k→k<w0.heap.size:=fun k hk=>h.sub k hk;refine eQ (fun n a w X=> ∃(left:List (dB×cx)) (xs:List PV),n=left.length∧ak (aS w0) w0 X w∧pT w X A ri pb (fun k:dB=>k.v) gA pm left∧Own w X w0.heap.size 65 8 a (xs.map PV.l)∧
   (∀x∈xs,x.at w X w0.heap.size)∧List.Perm (xs.map (·.p)++left.map (·.2)) (pm.map (·.2))∧xs.length+left.length=pm.length∧(∀y∈left,y∈pm))
  pm.length ⟨pm,[],rfl,hs,tL,Own.nil _ _ _ _ _,(by simp),jP _,(by simp),fun _ h=>h⟩ ?_
 clear hs ax tL;rintro n a w X ⟨left,xs,rfl,hs,tL,CO,qj,CP,HQ,ko⟩;have po:=CO.sl.one;refine Tc tL gA.mv (fun k hk=>⟨hs.sub k (HP k hk),fun e=>by have:=HP k hk;omega⟩) hs.has (fun e0 w X ax=>?_) fun kx q v mf w1 X1 hc xt Ro he=>?_
 ·subst e0;replace CO:=CO.since ax;replace qj:=fun x hx=>(qj x hx).mv ax.mv;replace hs:=hs.trans ax;rw [List.map_nil,List.append_nil] at CP;simp only [bA,Nat.add_zero] at HQ;repeat' first|refine aN ?_;intros
  refine Rp (PG CO zQ) kQ hs.has (fun k hk=>CO.2.2 k hk) ?_;rintro _ wa w2 X2 ⟨rfl,ys,hp,hpw,hoy⟩ hle gF WH kc;have ec: ∀k,aS w0 k→ ¬fV a k:=fun k hk hb=>by
   have:=(CO.ge hb).1;have:k<w0.heap.size:=hk;omega
  have Rq:Own w2 X2 w0.heap.size 65 8 a (ys.map PV.l):=hoy.mono fun k hk=>kc.sub k (CO.2.2 k hk);have hys: ∀x∈ys,x.at w2 X2 w0.heap.size:=fun x hx=>PV.at.fF (qj x (hp.mem_iff.1 hx)) kc CO kQ;replace hs:=hs.fF kc ec;refine aj hs fun wb hk=>⟨ys,(Rq.kp hk).tight,fun x hx=>?_,(hp.map _).trans CP,?_⟩
  ·have:=hys x hx;exact⟨(this.r.kp hk).tight,(this.w.kp hk).tight⟩
  ·exact List.pairwise_map.2 hpw
 ·have dO:=Own.HN CO tL;have Zp:=CO.fF hc fun g hg e=>dO (by rw [hg,e]);have Zq: ∀x∈xs,x.at w1 X1 w0.heap.size:=fun x hx=>⟨Own.fF (qj x hx).r hc fun g hg e=>Own.HN (qj x hx).r tL (by rw [hg,e]),Own.fF (qj x hx).w hc fun g hg e=>Own.HN (qj x hx).w tL (by rw [hg,e])⟩;replace hs:=hs.fF hc fun k hk e=>by have:k<w0.heap.size:=hk;omega
  obtain⟨ur,uw,rfl,q1,q2⟩:=xt;have o1:=q1.one;have o2:=q2.one;have Zr:=Tb tL.nodup mf;have hqo:=xv _ (ko _ mf);have MW: ∀k,A k→X1 k:=fun k hk=>hs.sub k (HP k hk);have Zs:=pT.x tL;clear CO qj tL hc;repeat' first|refine aN ?_;intros
  refine Qv hs.has he fun w X dJ=>?_;have Zt:=Ro.mv gA.mv dJ.mv (dJ.fW MW);have Rq:=Zp.since dJ;have Zu: ∀x∈xs,x.at w X w0.heap.size:=fun x hx=>(Zq x hx).mv dJ.mv;have q1':=q1.mv (dJ.fW MW);have q2':=q2.mv (dJ.fW MW);replace hs:=hs.trans dJ;clear Zp Zq Ro he;repeat' first|refine aN ?_;intros
  have Zv: ∀k,A k→X k:=fun k hk=>hs.sub k (HP k hk);refine dW (sE (p:=q) (q1'.mv (Mv.sub Zv)) (q2'.mv (Mv.sub Zv)) hqo.1 hqo.2) kQ hs.has ?_;rintro v wa w3 X3 ⟨cr,cw,rfl,HR,kc,adM⟩ hle gF dT;have UL:=Zt.mv gA.mv dT.mv (dT.fW Zv);have Rr:=Rq.since dT;have acy: ∀x∈xs,x.at w3 X3 w0.heap.size:=fun x hx=>(Zu x hx).mv dT.mv;have eo:w0.heap.size≤wa.heap.size:=af hs.kp.size hle;have MX:=HR.up gF eo;have rQ:=kc.up gF eo;have p1:=HR.sl.one;have p2:=kc.sl.one;replace hs:=hs.trans dT;have hA3: ∀k,A k→X3 k:=fun k hk=>hs.sub k (HP k hk);clear Rq Zu Zt;obtain⟨b1,n1,c1,rfl⟩:=HR.sl.form;obtain⟨b2,n2,c2,rfl⟩:=kc.sl.form;repeat' first|((with_reducible apply Qw);(case own=>first|assumption|exact Own.since (by assumption) (by assumption));(case hs=>assumption);(case h0=>first|exact fun _ h=>h|exact bL.has);(case he=>kernel_rfl);(case hk=>rfl);(case h1=>exact qE);(case hb=>(simp only [bm,dx,ah,bO,bA];omega));(case hl=>(simp only [bm,dx,ah,bO,bA];omega));intro acc w X ax ho hc fe;replace hs:=ax)
  have hix:=pT.x UL;have nb: ∀k,fV a k→w0.heap.size≤k:=fun k hk=>(Rr.ge hk).1;have acz:=pT.mv (pT.own UL) gA.mv (hc.mv fun k hk=>by
   rcases hk with rfl|rfl
   ·exact⟨hix.1,fun hb=>Own.HN Rr UL hb⟩
   ·exact⟨hix.2.1,fun hb=>by have:=nb _ hb;have:k<w0.heap.size:=h.dh.x.1;omega⟩) (fun k hk _=>⟨hk,hc.block k (hA3 k hk) fun hb=>by have:=nb _ hb;have:=HP k hk;omega⟩)
  refine eT _ (Qx mf) ⟨_,xs++[⟨q,b1,n1,c1,b2,n2,c2⟩],rfl,hs,acz,by simpa using ho,fun x hx=>?_,?_,?_,fun y hy=>ko y (List.mem_filter.1 hy).1⟩
  ·rcases List.mem_append.1 hx with hx|hx
   ·exact PV.at.fF (acy x hx) hc Rr kQ
   ·rw [bU] at hx;subst hx;refine PV.at.fF (x:=⟨q,b1,n1,c1,b2,n2,c2⟩) ⟨MX,rQ⟩ hc Rr kQ
  ·refine List.Perm.trans ?_ CP;rw [bM,List.append_assoc];exact List.Perm.append_left _ (Zr.map (fun x:dB×cx=>x.2)).symm
  ·rw [ah,←HQ,Zr.length_eq,bO];simp;omega
end Go.Proofs.YteomdhcbhmaiaaaGreat
namespace Go.Proofs.YteomdhcbhmaiaaaGreat
open Go.Proofs.Tryz renaming prog → pg
open Go.aX Go.Maps Go.Shelf
set_option maxRecDepth 100000
set_option maxHeartbeats 1000000
set_option linter.unusedVariables false
set_option linter.unusedSimpArgs false
attribute [local irreducible] un jn aC aJ ld1 ff st1 dy cY mm dK nv Bw zn fR gf ad aw aG eW eV eU eC eF gE au fin aM az aD vS FB gU ja vT FC FE FF FG FH gV jb vU FI FJ FK FM
theorem XG {w:World} {X:XS} {mb:Nat} :Ct pg 109 #[.map (some mb)] w X nX fun v wa w'=> ∃bx,v= .func (.func 171) #[] #[ptr bx 0]∧bq w' (made wa w') bx [.map (some mb)] 187:=by
 intro w0 hk;apply ji;unfold fK;have hs:=ak.init w0;refine xu rfl hs.has fun bx w1 X1 fB ax bK=>?_;repeat' first|refine aN ?_;intros
 exact aj ax fun wa bt=>⟨bx,rfl,⟨fB,(bK.kp bt).lt⟩,(bK.kp bt).2⟩
theorem Td {w:World} {X A:XS} {mb bx:Nat} {α:Type} {rd:World→XS→Value→α→Prop} {l:List (ByteArray×α)} (h:ik w X A mb dt rd l) (hb:bq w X bx [.map (some mb)] 187)
  (hs: ∀x∈l,x.1.size≤2^40) (hl:l.length≤2^40):
  Ct pg 108 #[.func (.func 171) #[] #[ptr bx 0]] w X nX fun v wa w'=>Own w' (made wa w') wa.heap.size 9 1 v ((lG (l.map (·.1))).map S1):=
 MT h kQ hs hl fun wa hk nn D0 Aq=>
  AnyZ.keys_gives (ρ:=Tryz.Kw) { Tryz.abD with } mQ _ trivial rfl zQ bx mb nn D0 wa (hb.kp hk).lt (by have:=(hb.kp hk).2;simp [World.cell?,this]) Aq
structure HV where
 h:fk
 b:Option Addr
 n:Nat
 c:Nat
abbrev HV.l (x:HV):List Value:=x.h.l (.slice x.b x.n x.c)
abbrev HV.at (w:World) (X:XS) (lo:Nat) (x:HV):Prop:=Own w X lo 131 6 (.slice x.b x.n x.c) (x.h.eZ.map fJ.l)
def wU (hm:List (BA×List fJ)):List fk:=(lG (hm.map (·.1))).map fun k=>⟨k,jS hm k⟩
theorem Rs {hm:List (BA×List fJ)} {n:Nat} (h: ∀x∈hm,x.2.length≤n) (k:BA):(jS hm k).length≤n:=by
 unfold jS;cases hg:getM k hm with
 |none=>exact aP _
 |some a=>exact h _ (mT hg)
theorem Gy {w:World} {X A:XS} {sb kb pb:Nat} {hm:List (BA×List fJ)} {pm:List (dB×cx)} {low:bH} (h:ek w X A sb kb pb hm pm low) (hX: ∀k,X k→k<w.heap.size)
  (vW: ∀x∈hm,x.1.size≤2^40) (WI: ∀x∈hm,x.2.length≤2^40) (hl:hm.length≤2^40):
  Ct pg 51 #[ptr sb 0] w X nX fun v wa w'=> ∃xs:List HV,Own w' (made wa w') wa.heap.size 129 2 v (xs.map HV.l)∧(∀x∈xs,x.at w' (made wa w') wa.heap.size)∧xs.map (·.h)=wU hm:=by
 intro w0 hk;replace h:=h.mv hX hk.cO;have fB:=h.box;apply x8;unfold pU;have bL:=ak.init w0;repeat' first|refine aN ?_;intros
 refine dW XG kQ bL.has ?_;rintro _ wa w1 X1 ⟨bx,rfl,bK⟩ hle gF ax;have h1:=h.mv (fun _ h=>h) ax.mv;refine dW (Td h1.keys (bK.mono gF) vW hl) kQ ax.has ?_;rintro v rR w2 X2 ho mc mS dJ;have MU:=ax.kp.size;have h2:=h1.mv ax.has dJ.mv;have Qy:=h2.keys;have ko:=h2.sub;have adN:=h2.box;have hB:ak (aS w0) w0 X2 w2:=ax.trans dJ;have hv:Sl w2 X2 1 v ((lG (hm.map (·.1))).map S1):=(ho.mono mS).sl;have ov:=hv.one;have zs:(lG (hm.map (·.1))).length≤2^40:=by rw [(HJ _).length_eq,bm];exact hl
 unfold wU;generalize lG (hm.map (·.1))=ks at hv zs⊢;have hs:=ak.fC hB.has;clear fB ho bK bL ax dJ h1;have bL:=hB;repeat' first|refine aN ?_;intros
 refine fS (fun n a acc w X=> ∃(i:Nat) (xs:List HV),a=I (i:Nat)∧n=ks.length-i∧i≤ks.length∧xs.map (·.h)=(ks.take i).map (fun k=>⟨k,jS hm k⟩)∧ak X2 w2 X w∧
  Own w X w2.heap.size 129 2 acc (xs.map HV.l)∧ ∀x∈xs,x.at w X w2.heap.size) ks.length ⟨0,[],rfl,rfl,aP _,rfl,hs,Own.nil _ _ _ _ _,by simp⟩ ?_
 clear hs;rintro n a acc w X ⟨i,xs,rfl,rfl,hi,WJ,hs,UM,Zw⟩;have adO:xs.length=i:=by have:=congrArg ao WJ;simpa [Nat.min_eq_left hi] using this
 rcases eG ks i with⟨dA,x,hx,hd⟩|⟨ec,hd⟩
 ·repeat' first|refine bY ?_;intros
  refine MY Qy ko hs.mv fun vv Kz=>?_;have Te:jS hm x=(getM x hm).getD []:=rfl;rw [←Te] at Kz;have hvb:=Rs WI x;refine dW (xx (Kz.mv hs.mv) hvb) kQ hs.has ?_;rintro vc rR w3 X3 hoc sF rE dT;have hz:=hs.kp.size;have UN:Own w3 X3 w2.heap.size 131 6 vc ((jS hm x).map fJ.l):=hoc.up rE zQ;have abF:=UM.since dT;have acA: ∀y∈xs,y.at w3 X3 w2.heap.size:=fun y hy=>(Zw y hy).since dT;replace hs:=hs.trans dT;have ovc:=UN.sl.one;obtain⟨xb,xn,xc,rfl⟩:=UN.sl.form;clear UM Zw dT hoc;repeat' first|refine aN ?_;intros|((with_reducible apply Qw);(case own=>first|assumption|exact Own.since (by assumption) (by assumption));(case hs=>assumption);(case h0=>first|exact fun _ h=>h|exact bL.has);(case he=>kernel_rfl);(case hk=>rfl);(case h1=>exact qE);(case hb=>(simp only [bm,dx,ah,bO,bA];omega));(case hl=>(simp only [bm,dx,ah,bO,bA];omega));intro acc w X ax ho hc fe;replace hs:=ax)
  have FO: ∀{y:HV},y.at w3 X3 w2.heap.size→y.at w X w2.heap.size:=fun {y} hy=>Own.fF hy hc fun g hg fp=>by
   obtain⟨c1,e1⟩:=(Own.ow hy).tag hg;obtain⟨c2,e2⟩:=abF.ow.tag fp;rw [e1] at e2;simp at e2
  refine fT (ks.length-(i+1)) zQ ⟨i+1,xs++[⟨⟨x,jS hm x⟩,xb,xn,xc⟩],by simp,rfl,by omega,?_,hs,?_,fun y hy=>?_⟩
  ·rw [List.take_add_one,hx,bM,WJ];simp
  ·rw [bM];exact ho
  ·rcases List.mem_append.1 hy with hy|hy
   ·exact FO (acA y hy)
   ·simp only [bU] at hy;subst hy;exact FO (y:=⟨⟨x,jS hm x⟩,xb,xn,xc⟩) UN
 ·have FP:i=ks.length:=by omega
  subst FP;rw [List.take_length] at WJ;repeat' first|refine bY ?_;intros
  have hz:=hB.kp.size;exact aj (hB.trans hs) fun CN bt=>⟨xs,((UM.kp bt).low hz).tight,fun x hx=>(Own.tight (Own.low (Own.kp (Zw x hx) bt) hz)),WJ⟩
end Go.Proofs.YteomdhcbhmaiaaaGreat
namespace Go.Proofs.YteomdhcbhmaiaaaGreat
open Go.Proofs.Tryz renaming prog → pg
open Go.aX
set_option maxRecDepth 100000
set_option maxHeartbeats 1000000
set_option linter.unusedVariables false
set_option linter.unusedSimpArgs false
attribute [local irreducible] un jn aC aJ ld1 ff st1 dy cY mm dK nv Bw zn fR gf ad aw aG eW eV eU eC eF gE au fin aM az aD vS FB gU ja vT FC FE FF FG FH gV jb vU FI FJ FK FM
theorem abG {P:Program} {X:XS} {w:World} {N:Value→Prop} {t ty:TypeId} {a b:Int} (h:N (.int .i64 (max a b))):ad P X w (xj #[t,t] ty #[.int .i64 a,.int .i64 b]) N:=
 cg (fun wa=>by
  simp only [xj,List.foldlM];by_cases hc:b>a
  ·have:max a b=b:=by omega
   simp [xl,hc,this]
  ·have:max a b=a:=by omega
   simp [xl,hc,this]) h
abbrev rF (s:bH):List Value:=[I s.wall,I s.cZ,I s.node]
theorem Tf {w:World} {X:XS} {node:Int} {fl:bH} (h1:1≤node) (h2:node≤63) (h3:fl.may=true):Ct pg 81 #[I node,fl.v] w X nX fun v wa w'=>
  ∃cb,v= .tuple #[ptr cb 0,I 0]∧bq w' (made wa w') cb (rF { fl with node:=node }) 249:=by
 intro w0 hk;apply Rt;unfold HS;have hs:=ak.init w0;repeat' first|refine bY ?_;intros
 refine jj (jT fl) kQ hs.has fun w1 X1 ax=>?_;rw [h3];replace hs:=hs.trans ax;have hz:=hs.kp.size;repeat' first|refine aN ?_;intros|(with_reducible apply ph);(case hX=>exact hs.has);intro bx w X fB ax bK;have bL:=hs.trans ax;replace hs:=ak.fC ax.has
 exact aj (bL.trans hs) fun wa bt=>⟨bx,rfl,⟨⟨by omega,(bK.kp bt).lt⟩,(bK.kp bt).2⟩⟩
def bH.CQ (s:bH) (fP:Int):bH×Int:=
 if max fP 0>281474976710656 then(.zero,15)else if max fP 0>s.wall then(⟨max fP 0,0,s.node⟩,0)else if s.cZ≥65535 then(.zero,16)else(⟨s.wall,s.cZ+1,s.node⟩,0)
abbrev sG:Nat:=249
section
variable {w : World} {X : XS} {cb : Nat} {c : bH}
theorem HT {fP:Int} (h:bq w X cb (rF c) sG) (hl:c.cZ<2^60) (rT: -(2^60)<c.cZ):Ct pg 97 #[ptr cb 0,I fP] w X nX fun v _ _=>v= .tuple #[(c.CQ fP).1.v,I (c.CQ fP).2]:=by
 intro w0 hk;replace h:=h.mv hk.cO;unfold bH.CQ;apply EY;unfold vX;have hs:=ak.init w0;refine abG ?_;generalize max fP 0=p;repeat' first|refine aN ?_;intros|refine du ?_ ?_<;>intros|with_reducible apply dg|((first|(with_reducible refine aj hs ?_)|(with_reducible refine aj (bL.trans hs) ?_));intro wa hk;(simp [*];try omega))
theorem Tg {fP:Int} {s:bH} (h:bq w X cb (rF c) sG) (hl:c.cZ<2^60) (rT: -(2^60)<c.cZ) (hp:c.CQ fP=(s,0)):
  Ct pg 99 #[ptr cb 0,I fP] w X (· =cb) fun v _ w'=>v= .tuple #[s.v,I 0]∧bq w' (· =cb) cb (rF s) sG:=by
 intro w0 hk;have hF:FX (· =cb) X w:=fun k ae=>by subst ae;exact⟨h.1,h.lt⟩
 have hT:=hF.ft hk;replace h:=h.mv hk.cO;apply Gz;unfold xy;refine dZ (HT h hl rT) kQ (fun _ h=>h) fun w1 X1 ax=>?_;rw [hp];replace h:=h.since ax;have en:Ft w0 (· =cb) w1 X1 (· =cb):=⟨hT.s.trans ax,fun k ae=>by subst ae;exact h.1,fun k ae=>.inl ae⟩;repeat' first|refine bY ?_;intros|with_reducible apply dg
 refine yh (o:=0) h zQ kQ (by simp) rfl rfl en.s.has fun w2 X2 c2 pV=>?_;have dz:=en.fF (F':=(· =cb)) c2 (fun k ae=>ae) fun k ae=>.inl ae;repeat' first|refine aN ?_;intros
 exact dz.fin fun wa bt=>⟨rfl,(pV.kp bt).own⟩
theorem K3 {t:bH} (h:bq w X cb (rF c) sG) (ht:t.may=true):
  Ct pg 82 #[ptr cb 0,t.v] w X (· =cb) fun v _ w'=>v=I 0∧bq w' (· =cb) cb (rF (c.later ⟨t.wall,t.cZ,c.node⟩)) sG:=by
 intro w0 hk;have hF:FX (· =cb) X w:=fun k ae=>by subst ae;exact⟨h.1,h.lt⟩
 have hT:=hF.ft hk;replace h:=h.mv hk.cO;apply Ar;unfold sH;refine jj (jT t) kQ (fun _ h=>h) fun w1 X1 ax=>?_;rw [ht];replace h:=h.since ax;have hs:=ak.fC ax.has;repeat' first|refine aN ?_;intros
 refine jj (PH c ⟨t.wall,t.cZ,c.node⟩) kQ hs.has fun w3 X3 dT=>?_;have h3:=h.since (hs.trans dT);have dU:Ft w0 (· =cb) w3 X3 (· =cb):=⟨hT.s.trans (ax.trans (hs.trans dT)),fun k ae=>by subst ae;exact h3.1,fun k ae=>.inl ae⟩;obtain⟨r,hr⟩: ∃r,r=c.later ⟨t.wall,t.cZ,c.node⟩:=⟨_,rfl⟩;rw [←hr];clear hr;repeat' first|refine aN ?_;intros
 refine yh (o:=0) h3 zQ kQ (by simp) rfl rfl dU.s.has fun w4 X4 c4 Th=>?_;have fG:=dU.fF (F':=(· =cb)) c4 (fun k ae=>ae) fun k ae=>.inl ae
 skip
 exact fG.fin fun wa bt=>⟨rfl,(Th.kp bt).own⟩
end
abbrev di:Value:=.slice none 0 0
section
variable {w : World} {X A : XS} {sb kb pb : Nat} {hm : List (BA × List fJ)} {pm : List (dB × cx)} {low : bH}
theorem PI {t:dB} (h:ek w X A sb kb pb hm [] low) (hX: ∀k,X k→k<w.heap.size):
  Ct pg 89 #[ptr sb 0,t.v] w X nX fun v _ _=> ∃vr vw,v= .tuple #[(⟨.zero,.zero,[],[]⟩:cx).v vr vw,B false]∧aX.one vr=true∧aX.one vw=true:=by
 intro w0 hk;replace h:=h.mv hX hk.cO;have fB:=h.box;apply EZ;unfold vY;have hs:=ak.init w0;repeat' first|refine aN ?_;intros
 refine As (kv:=fun k:dB=>k.v) (k:=t) (kt:=42) (et:=65) (.agg #[I 0,I 0,I 0,I 0,I 0,I 0,.slice none 0 0,.slice none 0 0]) h.dh wV kQ kQ (fun v q hg xt=>?_) fun hg=>?_
 ·exact absurd hg (by simp [getM])
 ·repeat' first|refine aN ?_;intros
  refine dW (sE (p:=⟨.zero,.zero,[],[]⟩) (Sl.nil _ _ _) (Sl.nil _ _ _) (by simp) (by simp)) kQ hs.has ?_;rintro v1 wa w2 X2 ⟨ur,uw,rfl,po,sA,-⟩ lz jg dJ;have o1:=po.sl.one;have o2:=sA.sl.one;replace hs:=hs.trans dJ;repeat' first|refine aN ?_;intros|((first|(with_reducible refine aj hs ?_)|(with_reducible refine aj (bL.trans hs) ?_));intro wa hk;(exact⟨_,_,rfl,o1,o2⟩))
theorem UO {w:World} {X:XS} {vr:Value} {f:Value} (h:Sl w X 1 vr (([]:List BA).map S1)) (h2:aX.one f=true):
  Ct pg 138 #[vr,di,f] w X nX fun v _ _=>v=B true:=by
 intro w0 hk;replace h:=h.mv hk.cO;have hn:Sl w0 (aS w0) 7 di (([]:List (List Value)).map id):=Sl.nil _ _ _;apply jx;unfold fX;have hs:=ak.init w0;repeat' first|refine bY ?_;intros
 refine eQ (fun n a w X=>a=I 0∧ak (aS w0) w0 X w) 0 ⟨rfl,hs⟩ ?_;rintro n a w X ⟨rfl,hs⟩;repeat' first|refine aN ?_;intros|refine du ?_ ?_<;>intros|(exfalso;simp only [bA] at*;omega)
 exact aj hs fun wa bt=>rfl
theorem HU {p:cx} {vr vw:Value} (h:ek w X A sb kb pb [] [] low) (hX: ∀k,X k→k<w.heap.size) (h1:Sl w X 1 vr (p.reads.map S1)) (h2:Sl w X 4 vw (p.writes.map KV.l)) (u3:p.reads=[]) (CT:p.writes.length≤2^40)
  (he:p.err=0) (hl:p.bb.cmp low>0) (hz:bH.zero.cmp p.bb<0):
  Ct pg 78 #[ptr sb 0,p.v vr vw,di] w X (· =pb) fun v _ _=>v=I 0:=by
 intro w0 hk;have hF:FX (· =pb) X w:=fun k ae=>by subst ae;exact h.dh.x
 have hT:=hF.ft hk;replace h:=h.mv hX hk.cO;replace h1:=h1.mv hk.cO;replace h2:=h2.mv hk.cO;obtain⟨xr,nr,cr,rfl⟩:=h1.form;obtain⟨xw,nw,cw,rfl⟩:=h2.form;apply zt;unfold rU;have hs:=ak.init w0;refine dZ (mw (p:=p) h1 h2 CT) kQ hs.has fun w1 X1 ax=>?_;replace hs:=hs.trans ax;rw [he];repeat' first|refine bY ?_;intros
 rw [u3] at h1;refine dZ (UO (h1.mv hs.mv) rfl) kQ hs.has fun w2 X2 dJ=>?_;replace hs:=hs.trans dJ;have g2:=h.mv (fun _ h=>h) hs.mv;have fB:=g2.box;have xz:=hs;clear hs;have hs:=ak.fC xz.has;repeat' first|refine aN ?_;intros
 refine As (kv:=fun k:dB=>k.v) (k:=p.dq) (kt:=42) (et:=65) (.agg #[I 0,I 0,I 0,I 0,I 0,I 0,.slice none 0 0,.slice none 0 0]) g2.dh wV kQ kQ (fun v q hg xt=>?_) fun hg=>?_
 ·exact absurd hg (by simp [getM])
 repeat' first|refine bY ?_;intros|((with_reducible refine jj (lD _ _) ?_ hs.has ?_);(· kernel_rfl);intro w X ax;replace hs:=hs.trans ax)
 refine dZ (By (x:=p) (g2.mv xz.has hs.mv) hs.has (by rw [u3];exact h1.mv (ak.mv (xz.trans hs))) (h2.mv (ak.mv (xz.trans hs)))) kQ hs.has fun w4 X4 jh=>?_;replace hs:=hs.trans jh;have hn:Sl w4 X4 7 di (([]:List (List Value)).map id):=Sl.nil _ _ _;repeat' first|refine aN ?_;intros|refine du ?_ ?_<;>intros|(exfalso;simp at*;done)
 refine eQ (fun n a w X=>a=I 0∧ak X2 w2 X w) 0 ⟨rfl,hs⟩ ?_;clear hs;rintro n a w X ⟨rfl,hs⟩;repeat' first|refine aN ?_;intros|refine du ?_ ?_<;>intros|(exfalso;simp only [bA] at*;omega)
 have ho:xA [] p=false:=by
  unfold xA jS uA;simp only [getM,List.find?_nil,Option.map_none,Option.getD_none,List.foldl_nil];rw [List.any_eq_false];intro y _;simp;omega
 refine dZ (HW (x:=p) (g2.mv xz.has hs.mv) hs.has (h2.mv (ak.mv (xz.trans hs)))) kQ hs.has fun w5 X5 KA=>?_;replace hs:=hs.trans KA;rw [ho];repeat' first|refine aN ?_;intros
 have adP:=(g2.mv xz.has hs.mv).dh.x.2;refine dW (sE (p:=p) (by rw [u3];exact h1.mv (ak.mv (xz.trans hs))) (h2.mv (ak.mv (xz.trans hs))) (by rw [u3];simp) CT) kQ hs.has ?_;rintro v1 wa w6 X6 ⟨ur,uw,rfl,po,sA,-⟩ lz jg HX;replace hs:=hs.trans HX;have g6:=g2.mv xz.has hs.mv;have hm6:=g6.dh.mv gA.mv (Mv.refl _ _) (Mv.sub fun k ae=>(show(fun k=>X6 k∧k≠pb) k from⟨g6.sub k ae,(g6.off k ae).2.2⟩));have hv6:gA w6 (fun k=>X6 k∧k≠pb) (p.v ur uw) p:=⟨ur,uw,rfl,po.sl.mv (Mv.sub fun k ae=>⟨jg k ae,by have:=ae.1;omega⟩),sA.sl.mv (Mv.sub fun k ae=>⟨jg k ae,by have:=ae.1;omega⟩)⟩
 skip
 refine Au (kv:=fun k:dB=>k.v) (k:=p.dq) (et:=65) hm6 gA.mv hv6 (fun k ae=>ae) wV kQ hs.has fun w7 X7 c7 hm7=>?_;have kO:Ft w0 (· =pb) w6 X6 (· =pb):=⟨hT.s.trans (xz.trans hs),fun k ae=>by subst ae;exact hm6.x.1,fun k ae=>.inl ae⟩;have kP:=kO.fF (F':=(· =pb)) c7 (fun k ae=>ae) fun k ae=>.inl ae
 skip
 exact kP.fin fun wa bt=>rfl
end
def all (own:Nat→Nat):XS:=fun k=>own k≠0
structure lu where
 id:Int
 born:Bool
 yi:ic
 ceil:Int
 floor:bH
 closed:bH
abbrev kh (lb mb:Nat) (gW gB:Value) (s:lu):List Value:=[I s.id,ptr lb 0,B false,B s.born,I s.yi.id,I s.yi.gw,.float .f64 s.yi.lo,.float .f64 s.yi.hi,gW,gB,I s.ceil,
 I s.floor.wall,I s.floor.cZ,I s.floor.node,I s.closed.wall,I s.closed.cZ,I s.closed.node,di,.map (some mb),di]
abbrev pW:Nat:=85
theorem MZ {w:World} {X S G:XS} {nb lb db mb e:Nat} {gW gB:Value} {s:lu} {L:LM} {m:DM} {r:Rec} {vr vw vp vq vh vd:Value} {bs:List Nat} (hb:bq w S nb (kh lb mb gW gB s) pW) (hg:Lg w G lb db L m) (Zm:Dj S G)
  (hS: ∀k,S k→X k) (o1:aX.one gW=true) (o2:aX.one gB=true) (hL:mU L) (Qs:L.dL.length≤2^29) (hG:FX G X w)
  (acB: ∀wa,Kp X w wa→Ct pg 55 #[r.v vr vw vp vq vh vd] wa (out G wa) nX fun v wb w'=>if e≠0 then v= .tuple #[.slice none 0 0,I e] else∃vb,v= .tuple #[vb,I 0]∧Own w' (made wb w') wb.heap.size 5 1 vb (bs.map U1))
  (h1:aX.one vr=true) (h2:aX.one vw=true) (h3:aX.one vp=true) (h4:aX.one vq=true) (h5:aX.one vh=true) (h6:aX.one vd=true)
  (hlk:mU (LD.append ⟨L,m⟩ bs).1.L) (gM:(LD.iY ⟨L,m⟩ e bs).2.2≠12):
  Ct pg 41 #[ptr nb 0,r.v vr vw vp vq vh vd] w X G fun v wa w'=>v=I (LD.iY ⟨L,m⟩ e bs).2.2∧
   ∃G',(∀k,G' k→G k∨made wa w' k)∧Lg w' G' lb db (LD.iY ⟨L,m⟩ e bs).1.L (LD.iY ⟨L,m⟩ e bs).1.m:=by
 intro w0 hk;have CU:=hg.mv (hG.mv hk);have hT:=hG.ft hk;have oe:FX G (aS w0) w0:=hG.kp hk;have hb0:bq w0 S nb (kh lb mb gW gB s) pW:=hb.mv fun k ae _=>⟨ae,hk.block k (hS k ae)⟩;have FQ: ∀k,S k→out G w0 k∨w.heap.size≤k:=fun k ae=>by
  by_cases h:k<w.heap.size
  ·exact .inl ⟨aA h hk.size,fun hf=>Zm k ae hf⟩
  ·exact .inr (Nat.le_of_not_lt h)
 generalize hr:LD.iY ⟨L,m⟩ e bs=q at gM⊢;unfold LD.iY at hr;dsimp only at hr;have fB:bq w0 (out G w0) nb (kh lb mb gW gB s) pW:=⟨⟨hb0.lt,fun hf=>Zm nb hb.1 hf⟩,hb0.2⟩;have hb:=fB.mv hT.s.mv;apply CV;unfold u4;refine dW ((acB w0 hk).since (hT.s)) kQ hT.s.has ?_;rintro ve yf w1 X1 hq lz jg ax;have en:=hT.since ax;have u3:=hb.since ax;have CW:Lg w1 G lb db L m:=CU.mv (ax.lr hT.bN);by_cases he:e≠0
 ·rw [if_pos he] at hq hr;subst hq;subst hr;dsimp only at gM⊢;repeat' first|refine bY ?_;intros|with_reducible apply dg
  exact en.fin fun wa bt=>⟨rfl,G,en.jf bt fun _ h=>h,CW.mv (bt.fW en.bN)⟩
 ·rw [if_neg he] at hq hr;obtain⟨vb,rfl,Ti⟩:=hq;have ovb:=Ti.sl.one;repeat' first|refine bY ?_;intros|with_reducible apply dg
  have hFG:FX G X1 w1:=en.fx fun _ h=>h;refine en.call (M9 CW hL zQ hFG Ti.sl fun k ae=>⟨jg k ae,fun hf=>?_⟩) kQ (fun _ h=>h) fun v rR w2 X2 hq mc mS dz kc=>?_
  ·have:=(oe k hf).2;have:=ae.1;omega
  obtain⟨rfl,G2,pq,Tj⟩:=hq;generalize Fw:LD.append ⟨L,m⟩ bs=ap at hr hlk Tj⊢;have CT:bq w2 X2 nb (kh lb mb gW gB s) pW:=fB.mv dz.s.mv;by_cases hz:ap.2.2≠0
  ·rw [if_pos hz] at hr;subst hr;repeat' first|refine bY ?_;intros|with_reducible apply dg
   exact dz.fin fun wa bt=>⟨rfl,G2,dz.jf bt pq,Tj.mv (bt.fW fun k ae=>dz.bN k (pq k ae))⟩
  ·rw [if_neg hz] at hr;have Na:(ap.2.2:Int)=0:=by omega
   repeat' first|refine bY ?_;intros|with_reducible apply dg
   refine dz.call (HY Tj hlk (dz.fx pq)) kQ pq fun v vZ w3 X3 hq sF rE dU om=>?_;obtain⟨rfl,G3,Tk,WK⟩:=hq;have eap:ap.1=⟨ap.1.L,ap.1.m⟩:=rfl;rw [eap] at hr;subst hr;generalize hsy:LD.sync ⟨ap.1.L,ap.1.m⟩=sy at gM WK⊢;have Zx: ∀k,G3 k→(G k∨made rR w2 k)∨made vZ w3 k:=fun k ae=>(Tk k ae).imp (pq k) id;repeat' first|refine aN ?_;intros|refine du ?_ ?_<;>intros|with_reducible apply dg|(exfalso;have:sy.2≠12:=gM;omega)
   exact dU.fin fun wa bt=>⟨rfl,G3,dU.jf bt Zx,WK.mv (bt.fW fun k ae=>dU.bN k (Zx k ae))⟩
def Zy:World→XS→Value→Int→Prop:=fun _ _ v x=>v=I x
theorem sI:qk Zy:=fun _ _ _ _ _ _ h _=>h
structure iv (w:World) (N G:XS) (nb lb db mb:Nat) (gW gB:Value) (s:lu) (L:LM) (m:DM):Prop where
 row:bq w N nb (kh lb mb gW gB s) pW
 rV:ik w N nX mb (fun k:dB=>k.v) Zy []
 log:Lg w G lb db L m
 dj:Dj N G
 o1:aX.one gW=true
 o2:aX.one gB=true
section
variable {w w' wa w0 : World} {X X' N G G' S F0 : XS} {nb lb db mb n c : Nat} {gW gB : Value} {s : lu} {L : LM} {m : DM}
theorem iv.mv (h:iv w N G nb lb db mb gW gB s L m) (v:Mv N w N w') (u:Mv G w G w'):iv w' N G nb lb db mb gW gB s L m:=
 ⟨h.row.mv v,h.rV.mv sI v fun _ h=>h.elim,h.log.mv u,h.dj,h.o1,h.o2⟩
theorem iv.kp (h:iv w N G nb lb db mb gW gB s L m) (hN: ∀k,N k→X k) (hG: ∀k,G k→X k) (hk:Kp X w wa):iv wa N G nb lb db mb gW gB s L m:=h.mv (hk.fW hN) (hk.fW hG)
theorem iv.since (h:iv w N G nb lb db mb gW gB s L m) (hN: ∀k,N k→X k) (hG: ∀k,G k→X k) (hs:ak X w X' w'):iv w' N G nb lb db mb gW gB s L m:=h.mv (hs.lr hN) (hs.lr hG)
theorem iv.next (h:iv w N G nb lb db mb gW gB s L m) (hN: ∀k,N k→X k) (hX: ∀k,X k→k<w.heap.size) (c:fb G X w X' w') (hle:w.heap.size≤wa.heap.size) (hG: ∀k,G' k→G k∨made wa w' k) {L':LM} {m':DM} (hl:Lg w' G' lb db L' m'):
  iv w' N G' nb lb db mb gW gB s L' m':=by
 have v:Mv N w N w':=c.fW fun k hk=>⟨hN k hk,fun hg=>h.dj k hk hg⟩;refine⟨h.row.mv v,h.rV.mv sI v fun _ h=>h.elim,hl,fun k a b=>?_,h.o1,h.o2⟩;rcases hG k b with h1|h1
 ·exact h.dj k a h1
 ·have:=hX k (hN k a);have:=h1.1;omega
theorem iv.put (h:iv w N G nb lb db mb gW gB s L m) (hN: ∀k,N k→X k) (hG: ∀k,G k→X k) (c:fb (· =nb) X w X' w') {Jf Jg:Value} {s':lu} (o1:aX.one Jf=true) (o2:aX.one Jg=true)
  (hr:bq w' X' nb (kh lb mb Jf Jg s') pW):iv w' N G nb lb db mb Jf Jg s' L m:=by
 refine⟨⟨h.row.1,hr.2⟩,?_,h.log.mv (c.fW fun k hk=>⟨hG k hk,fun e=>h.dj k (by rw [e];exact h.row.1) hk⟩),h.dj,o1,o2⟩;have hm:=h.rV.own;exact hm.mv sI (fun k hk _=>by subst hk;exact⟨h.rV.x.1,c.block _ (hN _ h.rV.x.1) fun e=>h.rV.dX h.row e⟩) fun _ h=>h.elim
theorem iv.more {N':XS} (h:iv w N G nb lb db mb gW gB s L m) (hN: ∀k,N k→N' k) (hd:Dj N' G):iv w N' G nb lb db mb gW gB s L m:=
 ⟨h.row.mono hN,h.rV.mv sI (Mv.sub hN) fun _ h=>h.elim,h.log,hd,h.o1,h.o2⟩
end
theorem Rec.CX (r:Rec):r.eX=0∨r.eX=2∨r.eX=4∨r.eX=7:=by
 have h:r.err=0∨r.err=4∨r.err=7:=by
  unfold Rec.err;split
  ·simp
  ·split<;>simp
 unfold Rec.eX;rcases h with h|h|h<;>rw [h]
 ·by_cases h:262144<(fw r).length<;>simp [h]
 ·simp
 ·simp
theorem LD.XH {n:Nat} {x:LD} (h:GL n x) (r:Rec):(x.iY r.eX.toNat (fw r)).2.2≠12∧GL (n+2) (x.iY r.eX.toNat (fw r)).1:=by
 rcases r.CX with e|e|e|e<;>rw [e]
 ·exact h.iY _
 all_goals exact⟨by simp [LD.iY],h.up zQ⟩
section
variable {w : World} {X N G S : XS} {nb lb db mb n c : Nat} {gW gB : Value} {s : lu} {L : LM} {m : DM}
theorem qJ {r:Rec} {vr vw vp vq vh vd:Value} (h:iv w N G nb lb db mb gW gB s L m) (hN: ∀k,N k→X k) (hG:FX G X w) (ez:GL n ⟨L,m⟩) (hn:n≤900) (fe:r.at w S vr vw vp vq vh vd) (hS: ∀k,S k→X k∧ ¬G k)
  (gp:r.small) (FR:(fw r).length≤2^33):
  Ct pg 41 #[ptr nb 0,r.v vr vw vp vq vh vd] w X G fun v wa w'=>v=I (LD.iY ⟨L,m⟩ r.eX.toNat (fw r)).2.2∧
   ∃G',(∀k,G' k→G k∨made wa w' k)∧Lg w' G' lb db (LD.iY ⟨L,m⟩ r.eX.toNat (fw r)).1.L (LD.iY ⟨L,m⟩ r.eX.toNat (fw r)).1.m:=by
 have hlen:=ez.len;refine MZ (e:=r.eX.toNat) h.row h.log h.dj hN h.o1 h.o2 (ez.WL zQ) (by show L.dL.length≤_;have:L.dL.length≤n:=hlen;omega) hG (fun wa hk=>?_) fe.1.one fe.2.1.one fe.2.2.1.one fe.2.2.2.1.one fe.2.2.2.2.1.one fe.2.2.2.2.2.one ((ez.append _).2.WL zQ) (LD.XH ez r).1;have acC:r.at wa (out G wa) vr vw vp vq vh vd:=fe.mv fun k ae rT=>⟨⟨aA rT hk.size,(hS k ae).2⟩,hk.block k (hS k ae).1⟩;refine(Bz acC gp fun _=>FR).mono fun v wb w' _ hq=>?_;rcases r.CX with e|e|e|e<;>rw [e] at hq⊢
 ·exact hq
 all_goals exact hq
theorem Ru {k:BA} (h:iv w N G nb lb db mb gW gB s L m) (hN: ∀k,N k→X k) (hk:k.size≤2^62):Ct pg 150 #[ptr nb 0,.string k] w X nX fun v _ _=>v=B (s.yi.key k):=by
 intro w0 js;have bK:=(h.row.mono hN).mv js.cO;apply GA;unfold xB;have hs:=ak.init w0;repeat' first|refine aN ?_;intros|((with_reducible refine dw (HZ _ _) ?_ hs.has ?_ ?_);(· kernel_rfl);all_goals (intro _ w X ax;replace hs:=hs.trans ax))|((with_reducible refine jj (H9 _ (by first|assumption|omega)) ?_ hs.has ?_);(· kernel_rfl);intro w X ax;replace hs:=hs.trans ax)|((first|(with_reducible refine aj hs ?_)|(with_reducible refine aj (bL.trans hs) ?_));intro wa hk;(simp [ic.key,ic.has, *]))
def recC (n:Int):Rec:=⟨2,.zero,.zero,.zero,false,n,0,[],[],[],[],.zero⟩
theorem XI {n:Int} (h1:0≤n) (h2:n≤281474976710656):(recC n).eX=0∧(fw (recC n)).length≤900:=by
 have e1:=ef 2;have e2:=ef n;have e3:fw (recC n)=encI 2++encI n:=by simp [fw,recC]
 have e4:(recC n).err=0:=by
  simp [Rec.err,recC,Rec.strip,Rec.isZero,Rec.nG,State.isZero,State.zero,h1,h2]
 have e5:(fw (recC n)).length≤900:=by rw [e3,ah];omega
 refine⟨?_,e5⟩;unfold Rec.eX;rw [if_neg (by simp [e4]),if_neg zQ]
theorem Qz {w:World} {X:XS} {r:Rec} (h1:r.reads=[]) (h2:r.writes=[]) (h3:r.parts=[]) (h4:r.oM=[]) (h5:r.state= .zero):r.at w X di di di di di di:=by
 unfold Rec.at;rw [h1,h2,h3,h4,h5];exact⟨Sl.nil _ _ _,Sl.nil _ _ _,Sl.nil _ _ _,Sl.nil _ _ _,eE.nil _ _ _,eE.nil _ _ _⟩
theorem Ia {r:Rec} (h1:r.reads=[]) (h2:r.writes=[]) (h5:r.state= .zero):r.small:=by
 refine⟨by simp [h1],by simp [h2],by simp [h1],by simp [h2],?_⟩;rw [h5];exact⟨by simp [State.zero,zu],by simp [State.zero,zv],by simp [State.zero,LN],by simp [State.zero,LO]⟩
def lu.reach (s:lu) (wl:Int):lu:= { s with ceil:=if s.ceil≥wl then s.ceil else min (wl+16) 281474976710656 }
theorem BB {wl:Int} (h:iv w N G nb lb db mb gW gB s L m) (hN:FX N X w) (hG:FX G X w) (hf:me c ⟨L,m⟩) (hc:c≤3) (hw:0≤wl∧wl≤281474976710656):
  Ct pg 98 #[ptr nb 0,I wl] w X (fun k=>k=nb∨G k) fun v wa w'=>v=I 0∧ ∃G' L' m' c',(∀k,G' k→G k∨made wa w' k)∧c'≤c+(if s.ceil≥wl then 0 else 1)∧me c' ⟨L',m'⟩∧
   iv w' N G' nb lb db mb gW gB (s.reach wl) L' m':=by
 intro w0 hk;have hF:FX (fun k=>k=nb∨G k) X w:=fun k ae=>ae.elim (fun e=>by subst e;exact hN _ h.row.1) (hG k);have hT:=hF.ft hk;replace h:=h.kp (fun k ae=>(hN k ae).1) (fun k ae=>(hG k ae).1) hk;have fU:=hN.kp hk;have jU:=hG.kp hk;have bK:=(h.row.mono fun k ae=>(fU k ae).1);apply BZ;unfold tM;have hs:=ak.init w0;by_cases ec:s.ceil≥wl
 ·repeat' first|refine bY ?_;intros
  have e:s.reach wl=s:=by unfold lu.reach;rw [if_pos ec]
  refine hT.fin fun wa bt=>⟨rfl,G,L,m,c,fun k ae=>.inl ae,by omega,hf,?_⟩;rw [e];exact h.kp (fun k ae=>(fU k ae).1) (fun k ae=>(jU k ae).1) bt
 ·have UP:0≤min (wl+16) 281474976710656∧min (wl+16) 281474976710656≤281474976710656:=by omega
  obtain⟨q1,q2⟩:=XI UP.1 UP.2;have e:s.reach wl= { s with ceil:=min (wl+16) 281474976710656 } :=by unfold lu.reach;rw [if_neg ec]
  rw [e];repeat' first|refine bY ?_;intros
  generalize min (wl+16) 281474976710656=hi at q1 q2 UP⊢;refine hT.call (qJ (r:=recC hi) (n:=c+1) (S:=nX) h (fun k ae=>(fU k ae).1) jU hf.gl zQ (Qz rfl rfl rfl rfl rfl) (fun k ae=>ae.elim) (Ia rfl rfl rfl) zQ) kQ (fun k ae=>.inr ae) fun v yf w1 X1 hq lz jg en c1=>?_;obtain⟨rfl,G1,lv,Ib⟩:=hq;have js:=hf.iY (p:=fw (recC hi)) hc q2;have e0:(recC hi).eX.toNat=0:=by rw [q1];rfl
  rw [e0] at Ib⊢;rw [js.1];generalize LD.iY ⟨L,m⟩ 0 (fw (recC hi))=kp at Ib js⊢;have h1:=h.next (fun k ae=>(fU k ae).1) (fun _ h=>h) c1 lz lv Ib
  have gX: ∀k,N k→X1 k:=fun k ae=>c1.sub k (fU k ae).1;have acD: ∀k,G1 k→(k=nb∨G k)∨made yf w1 k:=fun k ae=>(lv k ae).imp .inr id;have Rv: ∀k,G1 k→X1 k:=fun k ae=>en.bN k (acD k ae);have sJ:=h1.row.mono gX;clear bK hs;repeat' first|refine bY ?_;intros|with_reducible apply dg
  refine yj (o:=10) sJ zQ kQ (by simp) rfl en.s.has fun w2 X2 c2 pV=>?_;have h2:=h1.put gX Rv c2 h.o1 h.o2 (s':= { s with ceil:=hi }) pV;have dz:=en.fF (F':=fun k=>(k=nb∨G k)∨made yf w1 k) c2 (fun k ae=>.inl (.inl ae)) fun k ae=>.inl ae
  skip
  refine dz.fin fun wa bt=>⟨rfl,G1,kp.1.L,kp.1.m,c+1,fun k ae=>?_,by rw [if_neg ec];omega,js.2,h2.kp (fun k ae=>c2.sub k (gX k ae)) (fun k ae=>c2.sub k (Rv k ae)) bt⟩;exact(lv k ae).imp id fun hm=>⟨by have:=hm.1;omega,aA hm.2 (af c2.size bt.size)⟩
end
section
variable {w : World} {X N G S : XS} {nb lb db mb n c cb : Nat} {gW : Value} {s : lu} {L : LM} {m : DM} {ck : bH}
theorem BC {fP:Int} {st:bH} (h:iv w N G nb lb db mb gW (ptr cb 0) s L m) (hN:FX N X w) (hG:FX G X w) (hC:bq w N cb (rF ck) sG) (hl:ck.cZ<2^60) (rT: -(2^60)<ck.cZ) (hp:ck.CQ fP=(st,0)) (fv:st.may=true)
  (hf:me c ⟨L,m⟩) (hc:c≤3):
  Ct pg 45 #[ptr nb 0,I fP] w X (fun k=>k=nb∨G k∨k=cb) fun v wa w'=>v= .tuple #[st.v,I 0]∧ ∃G' L' m' c',(∀k,G' k→G k∨made wa w' k)∧c'≤c+(if s.ceil≥st.wall then 0 else 1)∧me c' ⟨L',m'⟩∧
   iv w' N G' nb lb db mb gW (ptr cb 0) (s.reach st.wall) L' m'∧bq w' N cb (rF st) sG:=by
 intro w0 hk;have hF:FX (fun k=>k=nb∨G k∨k=cb) X w:=fun k ae=>ae.elim (fun e=>by subst e;exact hN _ h.row.1) fun h1=>h1.elim (hG k) fun e=>by subst e;exact hN _ hC.1
 have hT:=hF.ft hk;replace h:=h.kp (fun k ae=>(hN k ae).1) (fun k ae=>(hG k ae).1) hk;replace hC:=hC.mv (hk.fW fun k ae=>(hN k ae).1);have fU:=hN.kp hk;have jU:=hG.kp hk;have bK:=(h.row.mono fun k ae=>(fU k ae).1);have hcX:=hC.mono fun k ae=>(fU k ae).1;have hm:=bH.zw.1 fv;apply B0;unfold tN;have hs:=ak.init w0;repeat' first|refine aN ?_;intros
 refine dZ (HT hcX hl rT) kQ hs.has fun w1 X1 ax=>?_;rw [hp];have h1:=h.since (fun k ae=>(fU k ae).1) (fun k ae=>(jU k ae).1) ax;have wc:=hC.mv (ax.lr fun k ae=>(fU k ae).1);have en:=hT.since ax;have gX:FX N X1 w1:=fun k ae=>⟨ax.sub k (fU k ae).1,aA (fU k ae).2 ax.kp.size⟩;have lv:FX G X1 w1:=fun k ae=>⟨ax.sub k (jU k ae).1,aA (jU k ae).2 ax.kp.size⟩;clear hs;repeat' first|refine bY ?_;intros|with_reducible apply dg
 refine en.call (BB (wl:=st.wall) h1 gX lv hf hc ⟨hm.1,hm.2.1⟩) kQ (fun k ae=>ae.imp id .inl) fun v rR w2 X2 hq mc mS dz c2=>?_;obtain⟨rfl,G2,L2,m2,cc,pq,sK,hf2,h2⟩:=hq;have oN: ¬(cb=nb∨G cb):=fun e=>e.elim (fun e=>hC.dX h.row kQ e) fun e=>h.dj cb hC.1 e;have pr: ∀k,N k→X2 k:=fun k ae=>c2.sub k (gX k ae).1;have Nb:bq w2 X2 cb (rF ck) sG:=⟨pr _ hC.1,by rw [c2.block cb (gX _ hC.1).1 oN];exact wc.2⟩;have qK:=h2.row.mono pr;repeat' first|refine bY ?_;intros
 refine dz.call (Tg Nb hl rT hp) kQ (fun k ae=>.inl (.inr (.inr ae))) fun v vZ w3 X3 Zz sF rE dU c3=>?_;obtain⟨rfl,Tl⟩:=Zz;have GB: ∀k,G2 k→X2 k:=fun k ae=>(pq k ae).elim (fun hg=>c2.sub k (lv k hg).1) (mS k);have h3:iv w3 N G2 nb lb db mb gW (ptr cb 0) (s.reach st.wall) L2 m2:=by
  have hd:=h2.dj;refine⟨?_,?_,h2.log.mv (c3.fW fun k ae=>⟨GB k ae,fun e=>hd k (by rw [e];exact hC.1) ae⟩),hd,h2.o1,h2.o2⟩
  ·exact⟨h2.row.1,by rw [c3.block nb (pr _ h2.row.1) fun e=>hC.dX h.row kQ e.symm];exact h2.row.2⟩
  ·exact h2.rV.own.mv sI (fun k ae _=>by subst ae;exact⟨h2.rV.x.1,c3.block _ (pr _ h2.rV.x.1) fun e=>h.rV.dX hC e⟩) fun _ h=>h.elim
 repeat' first|refine aN ?_;intros
 refine dU.fin fun wa bt=>⟨rfl,G2,L2,m2,cc,fun k ae=>?_,sK,hf2,h3.kp (fun k ae=>c3.sub k (pr k ae)) (fun k ae=>c3.sub k (GB k ae)) bt,⟨hC.1,?_⟩⟩
 ·exact(pq k ae).imp id fun hm=>⟨by have:=hm.1;have:=ax.kp.size;omega,aA hm.2 (af c3.size bt.size)⟩
 ·rw [bt.block cb (c3.sub _ (pr _ hC.1))];exact Tl.2
end
section
variable {w : World} {X N G S : XS} {nb lb db mb n c cb : Nat} {gW gB : Value} {s : lu} {L : LM} {m : DM} {ck : bH}
def lu.sL (s:lu) (st:State):lu:= { s with born:=true,yi:=st.range,floor:=st.floor,closed:=st.closed }
theorem K4 {st:State} {vh vp:Value} (h:iv w N G nb lb db mb gW gB s L m) (hN:FX N X w) (hG:FX G X w) (hb:s.born=false) (BD:st.range.id=s.id) (h1:gb w S vh st.dM) (h2:ga w S vp st.dh) (hS: ∀k,S k→X k)
  (gp:st.small) (hle:ot st.dM st.dh=0):
  Ct pg 76 #[ptr nb 0,st.v vh vp] w X (· =nb) fun v wa w'=>v=B true∧ ∃N' T sb kb pb A,(∀k,N k→N' k)∧(∀k,N' k→N k∨made wa w' k)∧(∀k,T k→N' k∧ ¬N k)∧
   iv w' N' G nb lb db mb (ptr sb 0) gB (s.sL st) L m∧ek w' T A sb kb pb (iA st.dM) (kI st.dh) .zero:=by
 intro w0 hk;have hF:FX (· =nb) X w:=fun k ae=>by subst ae;exact hN _ h.row.1
 have hT:=hF.ft hk;replace h:=h.kp (fun k ae=>(hN k ae).1) (fun k ae=>(hG k ae).1) hk;have fU:=hN.kp hk;have jU:=hG.kp hk;have bK:=(h.row.mono fun k ae=>(fU k ae).1);replace h1:=h1.mv (Y:=aS w0) (w':=w0) fun k ae hl=>⟨aA hl hk.size,hk.block k (hS k ae)⟩;replace h2:=h2.mv (Y:=aS w0) (w':=w0) fun k ae hl=>⟨aA hl hk.size,hk.block k (hS k ae)⟩;have ZA:=eE.one h1;have ZC:=eE.one h2;unfold kh at bK;rw [hb] at bK;apply B1;unfold tO;have hs:=ak.init w0;repeat' first|refine bY ?_;intros
 refine dW (CY h1 h2 gp.1 gp.2) kQ hs.has ?_;rintro v wa w1 X1 ⟨u,e,rfl,rfl,fv⟩ lz jg ax;obtain⟨sb,kb,pb,rfl,ZD,ZE,WM,fv⟩:=fv hle;have en:=hT.since ax;have Qq:=h.since (fun k ae=>(fU k ae).1) (fun k ae=>(jU k ae).1) ax;have hd:Dj (fun k=>N k∨made wa w1 k) G:=fun k a b=>a.elim (fun a=>h.dj k a b) fun a=>by have:=(jU k b).2;have:=a.1;omega
 have g1:=Qq.more (N':=fun k=>N k∨made wa w1 k) (fun _ h=>.inl h) hd;have gX: ∀k,N k∨made wa w1 k→X1 k:=fun k ae=>ae.elim (fun a=>ax.sub k (fU k a).1) (jg k);have lv: ∀k,G k→X1 k:=fun k ae=>ax.sub k (jU k ae).1;have sJ:=bK.since ax;clear hs bK;repeat' first|refine aN ?_;intros
 refine yj (o:=8) sJ zQ kQ (by simp) rfl en.s.has fun w2 X2 c2 pV=>?_;replace pV:bq w2 X2 nb (kh lb mb (ptr sb 0) gB { s with born:=false }) pW:=pV;refine iF (Q:=fun K=> ∀w6 X6,fb (· =nb) X1 w1 X6 w6→bq w6 X6 nb (kh lb mb (ptr sb 0) gB (s.sL st)) pW→K w6 X6) ?_ fun K hK=>?_
 ·intro w6 X6 cc Tm;have g6:=g1.put gX lv cc (Jf:=ptr sb 0) (Jg:=gB) (s':=s.sL st) rfl h.o2 Tm;have kO:=en.fF (F':=(· =nb)) cc (fun k ae=>ae) fun k ae=>.inl ae
  skip
  refine kO.fin fun CN bt=>⟨rfl,fun k=>N k∨made wa w1 k,made wa w1,sb,kb,pb,sM (made wa w1) sb kb pb,fun _ h=>.inl h,fun k ae=>ae.imp id fun a=>⟨by have:=a.1;omega,aA a.2 (af cc.size bt.size)⟩,fun k ae=>⟨.inr ae,fun hn=>by have:=(fU k hn).2;have:=ae.1;omega⟩,?_,?_⟩
  ·exact g6.kp (fun k ae=>cc.sub k (gX k ae)) (fun k ae=>cc.sub k (lv k ae)) bt
  ·have hnn: ∀k,made wa w1 k→k≠nb:=fun k ae e=>by have:=(fU nb h.row.1).2;have:=ae.1;omega
   refine fv.mv (fun k ae=>ae.2) fun k ae _=>⟨ae,?_⟩;rw [bt.block k (cc.sub k (jg k ae)),cc.block k (jg k ae) (hnn k ae)]
 repeat' first|refine aN ?_;intros
 repeat' apply ob
 all_goals
  skip
  repeat' apply ob
  all_goals
   skip
   refine yh (o:=4) pV zQ kQ (by simp) rfl rfl c2.has fun w3 X3 c3 ql=>?_;replace ql:bq w3 X3 nb (kh lb mb (ptr sb 0) gB { s with born:=false,yi:=st.range }) pW:=ql;repeat' first|refine aN ?_;intros
   repeat' apply ob
   all_goals
    skip
    refine yh (o:=11) ql zQ kQ (by simp) rfl rfl c3.has fun w4 X4 c4 Th=>?_;replace Th:bq w4 X4 nb (kh lb mb (ptr sb 0) gB { s with born:=false,yi:=st.range,floor:=st.floor }) pW:=Th;repeat' first|refine aN ?_;intros
    repeat' apply ob
    all_goals
     skip
     refine yh (o:=14) Th zQ kQ (by simp) rfl rfl c4.has fun w5 X5 c5 Nc=>?_;replace Nc:bq w5 X5 nb (kh lb mb (ptr sb 0) gB { s with born:=false,yi:=st.range,floor:=st.floor,closed:=st.closed }) pW:=Nc;repeat' first|refine aN ?_;intros
     repeat' apply ob
     all_goals
      skip
      refine yj (o:=3) Nc zQ kQ (by simp) rfl c5.has fun w6 X6 c6 Tm=>?_;exact hK _ _ ((((c2.trans c3).trans c4).trans c5).trans c6) Tm
end
end Go.Proofs.YteomdhcbhmaiaaaGreat
