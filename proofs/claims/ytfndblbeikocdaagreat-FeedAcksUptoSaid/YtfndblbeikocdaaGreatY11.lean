/-
 Part 11 of the proof: what the last text leans on.
-/
import Derived.Shelf.SlIter.Nil
import Derived.Shelf.SlIterI.Nil
import Derived.Shelf.SortM.Plain
import Derived.Shelf.SortM.SortNone
import Derived.Shelf.SlSortCmp.WholeK
import Derived.Ground.GgzProg
import Derived.Ground.SlgmProg
import Derived.Ground.SlsfProg
import Derived.Shelf.SlGeneric
import Derived.Test.YtfndblbeikocdaaGreatProg
import Derived.Test.YtfndblbeikocdaaGreatY10
open List renaming map_map → dS, length_map → ay, toList_toArray → ey, mem_map → qc, length → ao, mergeSort_perm → lk, map_congr_left → gI, pairwise_mergeSort → lU, flatten_cons → dP
open Go.Value renaming string → dm
open Go.Shelf renaming Ren → ja
open Go.Fence renaming wide → ly
open Go.WideElems renaming rg → lz, rd → qd
open Go.DataW renaming insert → nf
open List.Perm renaming refl → lV, nil_eq → vI, cons_inv → tI
open Function renaming comp_def → gw, comp → kO
open Go.Maps renaming size → uh
open Nat renaming le_trans → af
open Go.Proofs.SlLaysZI renaming n7 → rq, n6 → Ad
open Option renaming getD_some → vJ
open List.Pairwise renaming map → uR
open Go.Proofs.SlLaysZ renaming n6 → AI, n7 → AJ
open Go.Proofs.SlLaysM renaming n6 → AK, n5 → AL
open Go.Proofs.SlLaysF0 renaming n6 → Ae
set_option linter.unusedVariables false
set_option linter.unusedSimpArgs false
namespace Go.Proofs
open Go.Proofs.Tryz renaming prog → pg
open Go.Shelf
def Tryz.JC:ja:=⟨fun|6=>138|8=>191|9=>192|11=>226|13=>135|12=>227|23=>188|24=>189|14=>267|15=>268|16=>269|17=>270|18=>271|19=>272|20=>273|21=>274|22=>275|25=>298|26=>221|27=>222|28=>299|29=>300|30=>301|31=>312|n=>n,fun|26=>9|28=>237|24=>35|0=>0|3=>3|37=>232|48=>194|50=>208|4=>4|40=>279|39=>278|45=>283|5=>5|9=>9|51=>318|55=>322|57=>365|58=>366|33=>241|n=>n,fun|n=>n⟩
theorem Tryz.acI:AI pg Tryz.JC:= {
 mixed:=by kernel_rfl
 f6:=⟨Tryz.f138.name,by decide,Tryz.func138.trans (congrArg some (by kernel_rfl))⟩
 f8:=⟨Tryz.f191.name,by decide,Tryz.func191.trans (congrArg some (by kernel_rfl))⟩
 f11:=⟨Tryz.f226.name,by decide,Tryz.func226.trans (congrArg some (by kernel_rfl))⟩
 t0:=Tryz.underlying0
 a0:=Tryz.isAgg0
 z0:=Tryz.sizeOf0
 v0:=Tryz.zeroValue0
 t24:=Tryz.underlying35
 a24:=Tryz.isAgg35
 z24:=Tryz.sizeOf35
 v24:=Tryz.zeroValue35
 t26:=Tryz.underlying9
 a26:=Tryz.isAgg9
 z26:=Tryz.sizeOf9
 v26:=Tryz.zeroValue9
 t28:=Tryz.underlying237
 a28:=Tryz.isAgg237
 z28:=Tryz.sizeOf237
 v28:=Tryz.zeroValue237
 i26:=by kernel_rfl }
def Tryz.YJ:ja:=⟨fun|6=>192|8=>135|9=>227|19=>188|20=>189|21=>267|22=>268|23=>269|24=>270|25=>271|26=>272|27=>273|28=>274|29=>275|36=>298|31=>221|32=>222|37=>299|38=>300|39=>301|41=>312|n=>n,fun|27=>35|29=>9|3=>3|32=>232|26=>35|0=>0|44=>194|46=>208|4=>4|36=>279|35=>278|41=>283|5=>5|9=>9|53=>318|57=>322|63=>365|64=>366|n=>n,fun|n=>n⟩
theorem Tryz.acd:AK pg Tryz.YJ:= {
 mixed:=by kernel_rfl
 f6:=⟨Tryz.f192.name,by decide,Tryz.func192.trans (congrArg some (by kernel_rfl))⟩
 f8:=Tryz.func135.trans (congrArg some (by kernel_rfl))
 f9:=⟨Tryz.f227.name,by decide,Tryz.func227.trans (congrArg some (by kernel_rfl))⟩
 f19:=Tryz.func188.trans (congrArg some (by kernel_rfl))
 f20:=Tryz.func189.trans (congrArg some (by kernel_rfl))
 f21:=⟨Tryz.f267.name,by decide,Tryz.func267.trans (congrArg some (by kernel_rfl))⟩
 f22:=⟨Tryz.f268.name,by decide,Tryz.func268.trans (congrArg some (by kernel_rfl))⟩
 f23:=⟨Tryz.f269.name,by decide,Tryz.func269.trans (congrArg some (by kernel_rfl))⟩
 f24:=⟨Tryz.f270.name,by decide,Tryz.func270.trans (congrArg some (by kernel_rfl))⟩
 f25:=⟨Tryz.f271.name,by decide,Tryz.func271.trans (congrArg some (by kernel_rfl))⟩
 f26:=⟨Tryz.f272.name,by decide,Tryz.func272.trans (congrArg some (by kernel_rfl))⟩
 f27:=⟨Tryz.f273.name,by decide,Tryz.func273.trans (congrArg some (by kernel_rfl))⟩
 f28:=⟨Tryz.f274.name,by decide,Tryz.func274.trans (congrArg some (by kernel_rfl))⟩
 f29:=⟨Tryz.f275.name,by decide,Tryz.func275.trans (congrArg some (by kernel_rfl))⟩
 f31:=Tryz.func221.trans (congrArg some (by kernel_rfl))
 f32:=Tryz.func222.trans (congrArg some (by kernel_rfl))
 f36:=⟨Tryz.f298.name,by decide,Tryz.func298.trans (congrArg some (by kernel_rfl))⟩
 f37:=⟨Tryz.f299.name,by decide,Tryz.func299.trans (congrArg some (by kernel_rfl))⟩
 f38:=⟨Tryz.f300.name,by decide,Tryz.func300.trans (congrArg some (by kernel_rfl))⟩
 f39:=⟨Tryz.f301.name,by decide,Tryz.func301.trans (congrArg some (by kernel_rfl))⟩
 f41:=⟨Tryz.f312.name,by decide,Tryz.func312.trans (congrArg some (by kernel_rfl))⟩
 t0:=Tryz.underlying0
 a0:=Tryz.isAgg0
 z0:=Tryz.sizeOf0
 v0:=Tryz.zeroValue0
 t3:=Tryz.underlying3
 a3:=Tryz.isAgg3
 z3:=Tryz.sizeOf3
 v3:=Tryz.zeroValue3
 t4:=Tryz.underlying4
 a4:=Tryz.isAgg4
 z4:=Tryz.sizeOf4
 v4:=Tryz.zeroValue4
 t5:=Tryz.underlying5
 a5:=Tryz.isAgg5
 z5:=Tryz.sizeOf5
 v5:=Tryz.zeroValue5
 t9:=Tryz.underlying9
 a9:=Tryz.isAgg9
 z9:=Tryz.sizeOf9
 v9:=Tryz.zeroValue9
 t26:=Tryz.underlying35
 a26:=Tryz.isAgg35
 z26:=Tryz.sizeOf35
 v26:=Tryz.zeroValue35
 t27:=Tryz.underlying35
 a27:=Tryz.isAgg35
 z27:=Tryz.sizeOf35
 v27:=Tryz.zeroValue35
 t29:=Tryz.underlying9
 a29:=Tryz.isAgg9
 z29:=Tryz.sizeOf9
 v29:=Tryz.zeroValue9
 t32:=Tryz.underlying232
 a32:=Tryz.isAgg232
 z32:=Tryz.sizeOf232
 v32:=Tryz.zeroValue232
 t35:=Tryz.underlying278
 a35:=Tryz.isAgg278
 z35:=Tryz.sizeOf278
 v35:=Tryz.zeroValue278
 t36:=Tryz.underlying279
 a36:=Tryz.isAgg279
 z36:=Tryz.sizeOf279
 v36:=Tryz.zeroValue279
 t41:=Tryz.underlying283
 a41:=Tryz.isAgg283
 z41:=Tryz.sizeOf283
 v41:=Tryz.zeroValue283
 t44:=Tryz.underlying194
 a44:=Tryz.isAgg194
 z44:=Tryz.sizeOf194
 v44:=Tryz.zeroValue194
 t46:=Tryz.underlying208
 a46:=Tryz.isAgg208
 z46:=Tryz.sizeOf208
 v46:=Tryz.zeroValue208
 t53:=Tryz.underlying318
 a53:=Tryz.isAgg318
 z53:=Tryz.sizeOf318
 v53:=Tryz.zeroValue318
 t57:=Tryz.underlying322
 a57:=Tryz.isAgg322
 z57:=Tryz.sizeOf322
 v57:=Tryz.zeroValue322
 t63:=Tryz.underlying365
 a63:=Tryz.isAgg365
 z63:=Tryz.sizeOf365
 v63:=Tryz.zeroValue365
 t64:=Tryz.underlying366
 a64:=Tryz.isAgg366
 z64:=Tryz.sizeOf366
 v64:=Tryz.zeroValue366 }
def Tryz.JD:ja:=⟨fun|6=>46|8=>93|9=>94|11=>133|13=>135|12=>134|23=>188|24=>189|14=>179|15=>180|16=>181|17=>182|18=>183|19=>184|20=>185|21=>186|22=>187|25=>220|26=>221|27=>222|28=>223|29=>224|30=>225|31=>266|n=>n,fun|26=>3|28=>121|24=>38|0=>0|3=>3|37=>232|48=>194|50=>208|4=>4|40=>279|39=>278|45=>283|5=>5|9=>9|51=>318|55=>322|57=>365|58=>366|33=>55|n=>n,fun|n=>n⟩
theorem Tryz.acJ:Ad pg Tryz.JD:= {
 mixed:=by kernel_rfl
 f6:=⟨Tryz.f46.name,by decide,Tryz.func46.trans (congrArg some (by kernel_rfl))⟩
 f8:=⟨Tryz.f93.name,by decide,Tryz.func93.trans (congrArg some (by kernel_rfl))⟩
 f11:=⟨Tryz.f133.name,by decide,Tryz.func133.trans (congrArg some (by kernel_rfl))⟩
 t0:=Tryz.underlying0
 a0:=Tryz.isAgg0
 z0:=Tryz.sizeOf0
 v0:=Tryz.zeroValue0
 t24:=Tryz.underlying38
 a24:=Tryz.isAgg38
 z24:=Tryz.sizeOf38
 v24:=Tryz.zeroValue38
 t26:=Tryz.underlying3
 a26:=Tryz.isAgg3
 z26:=Tryz.sizeOf3
 v26:=Tryz.zeroValue3
 t28:=Tryz.underlying121
 a28:=Tryz.isAgg121
 z28:=Tryz.sizeOf121
 v28:=Tryz.zeroValue121
 i26:=by kernel_rfl }
def Tryz.YK:ja:=⟨fun|5=>94|8=>135|7=>134|19=>188|20=>189|10=>179|11=>180|12=>181|13=>182|14=>183|15=>184|16=>185|17=>186|18=>187|30=>220|31=>221|32=>222|33=>223|34=>224|35=>225|40=>266|n=>n,fun|23=>38|25=>3|3=>3|32=>232|22=>38|0=>0|44=>194|46=>208|4=>4|36=>279|35=>278|41=>283|5=>5|9=>9|53=>318|57=>322|63=>365|64=>366|n=>n,fun|n=>n⟩
theorem Tryz.ace:AL pg Tryz.YK:= {
 mixed:=by kernel_rfl
 f5:=⟨Tryz.f94.name,by decide,Tryz.func94.trans (congrArg some (by kernel_rfl))⟩
 f7:=⟨Tryz.f134.name,by decide,Tryz.func134.trans (congrArg some (by kernel_rfl))⟩
 f8:=Tryz.func135.trans (congrArg some (by kernel_rfl))
 f10:=⟨Tryz.f179.name,by decide,Tryz.func179.trans (congrArg some (by kernel_rfl))⟩
 f11:=⟨Tryz.f180.name,by decide,Tryz.func180.trans (congrArg some (by kernel_rfl))⟩
 f12:=⟨Tryz.f181.name,by decide,Tryz.func181.trans (congrArg some (by kernel_rfl))⟩
 f13:=⟨Tryz.f182.name,by decide,Tryz.func182.trans (congrArg some (by kernel_rfl))⟩
 f14:=⟨Tryz.f183.name,by decide,Tryz.func183.trans (congrArg some (by kernel_rfl))⟩
 f15:=⟨Tryz.f184.name,by decide,Tryz.func184.trans (congrArg some (by kernel_rfl))⟩
 f16:=⟨Tryz.f185.name,by decide,Tryz.func185.trans (congrArg some (by kernel_rfl))⟩
 f17:=⟨Tryz.f186.name,by decide,Tryz.func186.trans (congrArg some (by kernel_rfl))⟩
 f18:=⟨Tryz.f187.name,by decide,Tryz.func187.trans (congrArg some (by kernel_rfl))⟩
 f19:=Tryz.func188.trans (congrArg some (by kernel_rfl))
 f20:=Tryz.func189.trans (congrArg some (by kernel_rfl))
 f30:=⟨Tryz.f220.name,by decide,Tryz.func220.trans (congrArg some (by kernel_rfl))⟩
 f31:=Tryz.func221.trans (congrArg some (by kernel_rfl))
 f32:=Tryz.func222.trans (congrArg some (by kernel_rfl))
 f33:=⟨Tryz.f223.name,by decide,Tryz.func223.trans (congrArg some (by kernel_rfl))⟩
 f34:=⟨Tryz.f224.name,by decide,Tryz.func224.trans (congrArg some (by kernel_rfl))⟩
 f35:=⟨Tryz.f225.name,by decide,Tryz.func225.trans (congrArg some (by kernel_rfl))⟩
 f40:=⟨Tryz.f266.name,by decide,Tryz.func266.trans (congrArg some (by kernel_rfl))⟩
 t0:=Tryz.underlying0
 a0:=Tryz.isAgg0
 z0:=Tryz.sizeOf0
 v0:=Tryz.zeroValue0
 t3:=Tryz.underlying3
 a3:=Tryz.isAgg3
 z3:=Tryz.sizeOf3
 v3:=Tryz.zeroValue3
 t4:=Tryz.underlying4
 a4:=Tryz.isAgg4
 z4:=Tryz.sizeOf4
 v4:=Tryz.zeroValue4
 t5:=Tryz.underlying5
 a5:=Tryz.isAgg5
 z5:=Tryz.sizeOf5
 v5:=Tryz.zeroValue5
 t9:=Tryz.underlying9
 a9:=Tryz.isAgg9
 z9:=Tryz.sizeOf9
 v9:=Tryz.zeroValue9
 t22:=Tryz.underlying38
 a22:=Tryz.isAgg38
 z22:=Tryz.sizeOf38
 v22:=Tryz.zeroValue38
 t23:=Tryz.underlying38
 a23:=Tryz.isAgg38
 z23:=Tryz.sizeOf38
 v23:=Tryz.zeroValue38
 t25:=Tryz.underlying3
 a25:=Tryz.isAgg3
 z25:=Tryz.sizeOf3
 v25:=Tryz.zeroValue3
 t32:=Tryz.underlying232
 a32:=Tryz.isAgg232
 z32:=Tryz.sizeOf232
 v32:=Tryz.zeroValue232
 t35:=Tryz.underlying278
 a35:=Tryz.isAgg278
 z35:=Tryz.sizeOf278
 v35:=Tryz.zeroValue278
 t36:=Tryz.underlying279
 a36:=Tryz.isAgg279
 z36:=Tryz.sizeOf279
 v36:=Tryz.zeroValue279
 t41:=Tryz.underlying283
 a41:=Tryz.isAgg283
 z41:=Tryz.sizeOf283
 v41:=Tryz.zeroValue283
 t44:=Tryz.underlying194
 a44:=Tryz.isAgg194
 z44:=Tryz.sizeOf194
 v44:=Tryz.zeroValue194
 t46:=Tryz.underlying208
 a46:=Tryz.isAgg208
 z46:=Tryz.sizeOf208
 v46:=Tryz.zeroValue208
 t53:=Tryz.underlying318
 a53:=Tryz.isAgg318
 z53:=Tryz.sizeOf318
 v53:=Tryz.zeroValue318
 t57:=Tryz.underlying322
 a57:=Tryz.isAgg322
 z57:=Tryz.sizeOf322
 v57:=Tryz.zeroValue322
 t63:=Tryz.underlying365
 a63:=Tryz.isAgg365
 z63:=Tryz.sizeOf365
 v63:=Tryz.zeroValue365
 t64:=Tryz.underlying366
 a64:=Tryz.isAgg366
 z64:=Tryz.sizeOf366
 v64:=Tryz.zeroValue366 }
def Tryz.Oz:ja:=⟨fun|7=>139|10=>193|n=>n,fun|23=>77|26=>9|3=>191|28=>237|0=>0|27=>236|33=>241|4=>4|n=>n,fun|n=>n⟩
theorem Tryz.afT:AJ pg Tryz.Oz:= {
 mixed:=by kernel_rfl
 f7:=⟨Tryz.f139.name,by decide,Tryz.func139.trans (congrArg some (by kernel_rfl))⟩
 f10:=⟨Tryz.f193.name,by decide,Tryz.func193.trans (congrArg some (by kernel_rfl))⟩
 t0:=Tryz.underlying0
 a0:=Tryz.isAgg0
 z0:=Tryz.sizeOf0
 v0:=Tryz.zeroValue0
 t4:=Tryz.underlying4
 a4:=Tryz.isAgg4
 z4:=Tryz.sizeOf4
 v4:=Tryz.zeroValue4
 t23:=Tryz.underlying77
 a23:=Tryz.isAgg77
 z23:=Tryz.sizeOf77
 v23:=Tryz.zeroValue77
 t26:=Tryz.underlying9
 a26:=Tryz.isAgg9
 z26:=Tryz.sizeOf9
 v26:=Tryz.zeroValue9
 t27:=Tryz.underlying236
 a27:=Tryz.isAgg236
 z27:=Tryz.sizeOf236
 v27:=Tryz.zeroValue236
 t28:=Tryz.underlying237
 a28:=Tryz.isAgg237
 z28:=Tryz.sizeOf237
 v28:=Tryz.zeroValue237
 t33:=Tryz.underlying241
 a33:=Tryz.isAgg241
 z33:=Tryz.sizeOf241
 v33:=Tryz.zeroValue241 }
def Tryz.OA:ja:=⟨fun|7=>47|10=>95|n=>n,fun|23=>90|26=>3|3=>111|28=>121|0=>0|27=>120|33=>55|4=>4|n=>n,fun|n=>n⟩
theorem Tryz.afU:rq pg Tryz.OA:= {
 mixed:=by kernel_rfl
 f7:=⟨Tryz.f47.name,by decide,Tryz.func47.trans (congrArg some (by kernel_rfl))⟩
 f10:=⟨Tryz.f95.name,by decide,Tryz.func95.trans (congrArg some (by kernel_rfl))⟩
 t0:=Tryz.underlying0
 a0:=Tryz.isAgg0
 z0:=Tryz.sizeOf0
 v0:=Tryz.zeroValue0
 t4:=Tryz.underlying4
 a4:=Tryz.isAgg4
 z4:=Tryz.sizeOf4
 v4:=Tryz.zeroValue4
 t23:=Tryz.underlying90
 a23:=Tryz.isAgg90
 z23:=Tryz.sizeOf90
 v23:=Tryz.zeroValue90
 t26:=Tryz.underlying3
 a26:=Tryz.isAgg3
 z26:=Tryz.sizeOf3
 v26:=Tryz.zeroValue3
 t27:=Tryz.underlying120
 a27:=Tryz.isAgg120
 z27:=Tryz.sizeOf120
 v27:=Tryz.zeroValue120
 t28:=Tryz.underlying121
 a28:=Tryz.isAgg121
 z28:=Tryz.sizeOf121
 v28:=Tryz.zeroValue121
 t33:=Tryz.underlying55
 a33:=Tryz.isAgg55
 z33:=Tryz.sizeOf55
 v33:=Tryz.zeroValue55 }
def Tryz.OB:ja:=⟨fun|7=>136|10=>190|n=>n,fun|23=>126|26=>3|3=>34|28=>121|0=>0|27=>120|33=>55|4=>4|n=>n,fun|n=>n⟩
theorem Tryz.afV:rq pg Tryz.OB:= {
 mixed:=by kernel_rfl
 f7:=⟨Tryz.f136.name,by decide,Tryz.func136.trans (congrArg some (by kernel_rfl))⟩
 f10:=⟨Tryz.f190.name,by decide,Tryz.func190.trans (congrArg some (by kernel_rfl))⟩
 t0:=Tryz.underlying0
 a0:=Tryz.isAgg0
 z0:=Tryz.sizeOf0
 v0:=Tryz.zeroValue0
 t4:=Tryz.underlying4
 a4:=Tryz.isAgg4
 z4:=Tryz.sizeOf4
 v4:=Tryz.zeroValue4
 t23:=Tryz.underlying126
 a23:=Tryz.isAgg126
 z23:=Tryz.sizeOf126
 v23:=Tryz.zeroValue126
 t26:=Tryz.underlying3
 a26:=Tryz.isAgg3
 z26:=Tryz.sizeOf3
 v26:=Tryz.zeroValue3
 t27:=Tryz.underlying120
 a27:=Tryz.isAgg120
 z27:=Tryz.sizeOf120
 v27:=Tryz.zeroValue120
 t28:=Tryz.underlying121
 a28:=Tryz.isAgg121
 z28:=Tryz.sizeOf121
 v28:=Tryz.zeroValue121
 t33:=Tryz.underlying55
 a33:=Tryz.isAgg55
 z33:=Tryz.sizeOf55
 v33:=Tryz.zeroValue55 }
def Tryz.OC:ja:=⟨fun|6=>175|15=>135|14=>218|28=>188|29=>189|20=>257|21=>258|22=>259|23=>260|24=>261|25=>262|26=>263|27=>264|46=>295|47=>221|48=>222|49=>296|50=>297|57=>311|n=>n,fun|22=>37|24=>118|25=>276|3=>3|39=>232|0=>0|53=>194|55=>208|4=>4|46=>279|45=>278|50=>283|5=>5|9=>9|66=>318|70=>322|76=>365|77=>366|n=>n,fun|n=>n⟩
theorem Tryz.afW:Ae pg Tryz.OC:= {
 mixed:=by kernel_rfl
 f6:=⟨Tryz.f175.name,by decide,Tryz.func175.trans (congrArg some (by kernel_rfl))⟩
 f14:=⟨Tryz.f218.name,by decide,Tryz.func218.trans (congrArg some (by kernel_rfl))⟩
 f15:=Tryz.func135.trans (congrArg some (by kernel_rfl))
 f20:=⟨Tryz.f257.name,by decide,Tryz.func257.trans (congrArg some (by kernel_rfl))⟩
 f21:=⟨Tryz.f258.name,by decide,Tryz.func258.trans (congrArg some (by kernel_rfl))⟩
 f22:=⟨Tryz.f259.name,by decide,Tryz.func259.trans (congrArg some (by kernel_rfl))⟩
 f23:=⟨Tryz.f260.name,by decide,Tryz.func260.trans (congrArg some (by kernel_rfl))⟩
 f24:=⟨Tryz.f261.name,by decide,Tryz.func261.trans (congrArg some (by kernel_rfl))⟩
 f25:=⟨Tryz.f262.name,by decide,Tryz.func262.trans (congrArg some (by kernel_rfl))⟩
 f26:=⟨Tryz.f263.name,by decide,Tryz.func263.trans (congrArg some (by kernel_rfl))⟩
 f27:=⟨Tryz.f264.name,by decide,Tryz.func264.trans (congrArg some (by kernel_rfl))⟩
 f28:=Tryz.func188.trans (congrArg some (by kernel_rfl))
 f29:=Tryz.func189.trans (congrArg some (by kernel_rfl))
 f46:=⟨Tryz.f295.name,by decide,Tryz.func295.trans (congrArg some (by kernel_rfl))⟩
 f47:=Tryz.func221.trans (congrArg some (by kernel_rfl))
 f48:=Tryz.func222.trans (congrArg some (by kernel_rfl))
 f49:=⟨Tryz.f296.name,by decide,Tryz.func296.trans (congrArg some (by kernel_rfl))⟩
 f50:=⟨Tryz.f297.name,by decide,Tryz.func297.trans (congrArg some (by kernel_rfl))⟩
 f57:=⟨Tryz.f311.name,by decide,Tryz.func311.trans (congrArg some (by kernel_rfl))⟩
 t0:=Tryz.underlying0
 a0:=Tryz.isAgg0
 z0:=Tryz.sizeOf0
 v0:=Tryz.zeroValue0
 t3:=Tryz.underlying3
 a3:=Tryz.isAgg3
 z3:=Tryz.sizeOf3
 v3:=Tryz.zeroValue3
 t4:=Tryz.underlying4
 a4:=Tryz.isAgg4
 z4:=Tryz.sizeOf4
 v4:=Tryz.zeroValue4
 t5:=Tryz.underlying5
 a5:=Tryz.isAgg5
 z5:=Tryz.sizeOf5
 v5:=Tryz.zeroValue5
 t9:=Tryz.underlying9
 a9:=Tryz.isAgg9
 z9:=Tryz.sizeOf9
 v9:=Tryz.zeroValue9
 t22:=Tryz.underlying37
 a22:=Tryz.isAgg37
 z22:=Tryz.sizeOf37
 v22:=Tryz.zeroValue37
 t25:=Tryz.underlying276
 a25:=Tryz.isAgg276
 z25:=Tryz.sizeOf276
 v25:=Tryz.zeroValue276
 t39:=Tryz.underlying232
 a39:=Tryz.isAgg232
 z39:=Tryz.sizeOf232
 v39:=Tryz.zeroValue232
 t45:=Tryz.underlying278
 a45:=Tryz.isAgg278
 z45:=Tryz.sizeOf278
 v45:=Tryz.zeroValue278
 t46:=Tryz.underlying279
 a46:=Tryz.isAgg279
 z46:=Tryz.sizeOf279
 v46:=Tryz.zeroValue279
 t50:=Tryz.underlying283
 a50:=Tryz.isAgg283
 z50:=Tryz.sizeOf283
 v50:=Tryz.zeroValue283
 t53:=Tryz.underlying194
 a53:=Tryz.isAgg194
 z53:=Tryz.sizeOf194
 v53:=Tryz.zeroValue194
 t55:=Tryz.underlying208
 a55:=Tryz.isAgg208
 z55:=Tryz.sizeOf208
 v55:=Tryz.zeroValue208
 t66:=Tryz.underlying318
 a66:=Tryz.isAgg318
 z66:=Tryz.sizeOf318
 v66:=Tryz.zeroValue318
 t70:=Tryz.underlying322
 a70:=Tryz.isAgg322
 z70:=Tryz.sizeOf322
 v70:=Tryz.zeroValue322
 t76:=Tryz.underlying365
 a76:=Tryz.isAgg365
 z76:=Tryz.sizeOf365
 v76:=Tryz.zeroValue365
 t77:=Tryz.underlying366
 a77:=Tryz.isAgg366
 z77:=Tryz.sizeOf366
 v77:=Tryz.zeroValue366 }
end Go.Proofs
namespace Go.Proofs.YtfndblbeikocdaaGreat
open Go.Proofs.Tryz renaming prog → pg
open Go.bu Go.RowKit Go.Maps Go.Sort Go.Shelf Go.Proofs
set_option maxRecDepth 100000
set_option maxHeartbeats 1000000
set_option linter.unusedVariables false
set_option linter.unusedSimpArgs false
theorem insert_perm {H:Type} (x:Lit×DataW H): ∀l:List (Lit×DataW H),(nf x l).Perm (x::l)
 |[]=>lV _
 |y::r=>by
  unfold nf;split
  ·exact lV _
  ·exact((insert_perm x r).cons y).trans (List.Perm.swap x y r)
theorem r6 {H:Type} : ∀l:List (Lit×DataW H),(l.foldr nf []).Perm l
 |[]=>lV _
 |x::l=>(insert_perm x _).trans ((r6 l).cons x)
def RT:Value→Option (DataW Unit×List MemPlace):=fun _=>some (.lit (.bool true),[])
theorem Ub {P:Program} {w:World} {X:XS} {b kt c:Nat} {es:List (iq ByteArray)} (h:jR w X b dm es c) (hk:P.underlying kt=some .string) (hs: ∀x∈es,x.1.size≤2^40) (hl:es.length≤2^40):
  ∃D0:DataW Unit,w.ownsMap P kt RT b es.length D0∧uh D0=es.length∧(strKeys D0).Perm (es.map fun x=>x.1.data.toList):=by
 have AM:(2:Nat)^40≤maxLen:=by decide
 have aaz: ∀x∈es,keyOf P kt (.string x.1)=some (.string x.1.data.toList):=fun x hx=>by
  unfold keyOf mapKey;rw [hk];simp [af (hs x hx) AM]
 have mj: ∀x∈es,qd P kt RT (km dm x)=some (.string x.1.data.toList,.lit (.bool true)):=fun x hx=>by
  unfold qd km RT;simp [aaz x hx]
 have aaA:(es.map (km dm)).map (lz P kt RT)=es.map fun x=>((.string x.1.data.toList:Lit),(.lit (.bool true):DataW Unit)):=by
  rw [dS];apply gI;intro x hx;simp only [kO,lz,mj x hx,vJ]
 refine⟨.map (((es.map (km dm)).map (lz P kt RT)).foldr nf []),⟨_,c,h.2.1,⟨?_,⟨?_,?_,?_⟩,?_⟩,by simp,by simp⟩,?_,?_⟩
 ·simpa using af hl AM
 ·intro x hx;simp only [ey,qc] at hx;obtain⟨y,hy,rfl⟩:=hx;exact h.2.2.2.2 y hy
 ·have:=h.2.2.2.1;simpa [dS,gw,km] using this
 ·have h1:=h.2.2.1;have e:((es.map (km dm)).toArray.toList.map (·.key))=(es.map (·.1)).map dm:=by simp [dS,gw,km]
  rw [e];exact uR dm (fun a b xB e=>xB (by cases e;rfl)) h1
 ·intro x hx;simp only [ey,qc] at hx;obtain⟨y,hy,rfl⟩:=hx;exact⟨_,mj y hy⟩
 ·show ao _=_
  rw [(r6 _).length_eq];simp
 ·show(List.map _ _).Perm _
  refine((r6 _).map _).trans ?_;rw [aaA,dS];exact lV _
def leB (x y:List UInt8):Bool:=decide (x≤y)
def bl (s:ByteArray):List UInt8:=s.data.toList
theorem afX (s:ByteArray):(⟨(bl s).toArray⟩:ByteArray)=s:=by unfold bl;simp
def yr (ks:List ByteArray):List ByteArray:=((ks.map bl).mergeSort leB).map fun x=>⟨x.toArray⟩
theorem OD: ∀a b c:List UInt8,leB a b=true→leB b c=true→leB a c=true:=fun a b c h1 h2=>by
 unfold leB at*;simp only [decide_eq_true_eq] at*;exact List.le_trans h1 h2
theorem OE: ∀a b:List UInt8,(leB a b||leB b a)=true:=fun a b=>by
 unfold leB;rcases List.le_total a b with h|h<;>simp [h]
theorem aaB: ∀a b:List UInt8,leB a b=true→leB b a=true→a=b:=fun a b h1 h2=>by
 unfold leB at*;simp only [decide_eq_true_eq] at*;exact List.le_antisymm h1 h2
theorem OF: ∀{l l':List (List UInt8)},l.Perm l'→l.Pairwise (fun a b=>leB a b=true)→l'.Pairwise (fun a b=>leB a b=true)→l=l'
 |[],l',hp,_,_=>(vI hp)
 |a::l,[],hp,_,_=>absurd hp.length_eq (by simp)
 |a::l,b::l',hp,h1,h2=>by
  have QV:=List.pairwise_cons.1 h1;have YM:=List.pairwise_cons.1 h2;have xB:a=b:=by
   have ha:a∈b::l':=hp.mem_iff.1 (by simp);have hb:b∈a::l:=hp.mem_iff.2 (by simp);rcases List.mem_cons.1 ha with e|ha
   ·exact e
   ·rcases List.mem_cons.1 hb with e|hb
    ·exact e.symm
    ·exact aaB a b (QV.1 b hb) (YM.1 a ha)
  subst xB;rw [OF (tI hp) QV.2 YM.2]
theorem YN {l l':List (List UInt8)} (h:l.Perm l'):l.mergeSort leB=l'.mergeSort leB:=
 OF (((lk l leB).trans h).trans (lk l' leB).symm) (lU OD OE l) (lU OD OE l')
theorem Wg (ks:List ByteArray):(yr ks).Perm ks:=by
 have h:=(lk (ks.map bl) leB).map fun x=>(⟨x.toArray⟩:ByteArray);rw [dS] at h;have e:(ks.map ((fun x=>(⟨x.toArray⟩:ByteArray))∘bl))=ks:=by
  conv=>rhs;rw [←List.map_id ks]
  apply gI;intro x _;exact afX x
 rw [e] at h;exact h
theorem aaC (m:Nat):AnyZ.SortsIn pg Tryz.JC ly m:=
  ⟨fun dK off cap ss W hH hblk fB=>callsIn_wide.2 (AnyM.slices_Sort_string Tryz.acd dK off cap ss W hH hblk fB),
   fun p cap W=>callsIn_wide.2 (AnyM.slices_Sort_string_none Tryz.acd p cap W)⟩
theorem aaD {g:FuncId} {lb:Array Value} {w:World} {X A:XS} {mb:Nat} {α:Type} {rd:World→XS→Value→α→Prop} {l:List (ByteArray×α)} (h:fy w X A mb dm rd l) (eg:enters pg g=true)
  (hs: ∀x∈l,x.1.size≤2^40) (hl:l.length≤2^40)
  (hg: ∀wa,Kp X w wa→ ∀(nn:Nat) (D0:DataW Unit),wa.ownsMap pg 9 RT mb nn D0→SeqGives ly 2 pg g lb encStr (fun ss=>ss.Perm (strKeys D0)) (uh D0) wa):
  Ct pg 138 #[.func (.func g) #[] lb] w X nX fun v wa w'=>Own w' (made wa w') wa.heap.size 9 1 v ((yr (l.map (·.1))).map S1):=by
 intro wa hk;obtain⟨es,c,h1,h2⟩:=h;have vK:=h2.keys;have hlen:es.length=l.length:=by have:=congrArg ao vK;simpa using this
 obtain⟨D0,lA,fB,LB⟩:=Ub (P:=pg) (h1.kp hk) (kt:=9) kQ (fun x hx=>by
  have:x.1∈l.map (·.1):=by rw [←vK];exact List.mem_map.2 ⟨x,hx,rfl⟩
  obtain⟨y,hy,e⟩:=List.mem_map.1 this;rw [←e];exact hs y hy) zQ
 have AM:(2:Nat)^40≤maxLen:=by decide
 have hS:=callsIn_wide.1 (AnyZ.sorted_in Tryz.acI ly 5 trivial trivial trivial trivial rfl zQ (aaC _) (fun args w=>sF kQ args w) g lb trivial (fun args w=>sF eg args w) _ _ zQ zQ wa (hg wa hk _ D0 lA));refine hS.mono ?_;rintro e w' ⟨v,ss,rfl,hp,bE,Wh,hb⟩;have hx:Ext wa w':=⟨hb.os,hb.tape,hb.output,hb.size,fun k ah _=>hb.block k ah⟩;refine⟨v,rfl,hx,?_⟩;have e1:ss.mergeSort (fun x y=>decide (x≤y))=(l.map fun x=>bl x.1).mergeSort leB:=by
  have Q7:ss.Perm (l.map fun x=>bl x.1):=by
   refine hp.trans (LB.trans ?_);have:(es.map fun x=>x.1.data.toList)=(l.map fun x=>bl x.1):=by
    have:=congrArg (List.map bl) vK;simpa [dS,gw,bl] using this
   rw [this]
  exact YN Q7
 have e2:((ss.mergeSort (fun x y=>decide (x≤y))).map encStr)=((yr (l.map (·.1))).map S1).flatten:=by
  rw [e1];unfold yr;rw [dS,dS];have e3: ∀q:List (List UInt8),q.map encStr=(q.map (S1∘fun x=>(⟨x.toArray⟩:ByteArray))).flatten:=fun q=>by
   induction q with
   |nil=>rfl
   |cons a q ih=>simp only [List.map_cons,dP,←ih];rfl
  exact e3 _
 have qe:ss.length=((yr (l.map (·.1))).map S1).length:=by
  rw [ay,(Wg _).length_eq,ay,←hlen];have:=hp.length_eq;rw [this,LB.length_eq,ay]
 refine⟨fun r hr=>by obtain⟨x,_,rfl⟩:=List.mem_map.1 hr;rfl,?_,fun q hq=>⟨?_,?_⟩⟩
 ·rw [←qe,←e2];exact bE
 ·exact(bE.lt _ hq).1
 ·exact(bE.lt _ hq).2
end Go.Proofs.YtfndblbeikocdaaGreat
namespace Go.Proofs.YtfndblbeikocdaaGreat
open Go.Proofs.Tryz renaming prog → pg
open Go.bu Go.Maps Go.Shelf
set_option maxRecDepth 100000
set_option maxHeartbeats 1000000
set_option linter.unusedVariables false
set_option linter.unusedSimpArgs false
attribute [local irreducible] un jn aF aT ld1 ew st1 dt cB lS dV lT uN tG gq fW ad az aJ eW eV eU eC eF gE au fin aQ aM aH vS xt gp il pR uO xu xv xw xx gm im pS uP xy xz xA
theorem acK {w:World} {X:XS} {mb:Nat} :Ct pg 139 #[.map (some mb)] w X nX fun v wa w'=> ∃bx,v= .func (.func 193) #[] #[ptr bx 0]∧bI w' (made wa w') bx [.map (some mb)] 77:=by
 intro w0 hk;apply mH;unfold iR;have hs:=ak.init w0;refine oh rfl hs.has fun bx w1 X1 eX aq bE=>?_;repeat' first|refine aD ?_;intros
 exact ai aq fun wa bC=>⟨bx,rfl,⟨eX,(bE.kp bC).lt⟩,(bE.kp bC).2⟩
theorem YO {w:World} {X A:XS} {mb bx:Nat} {α:Type} {rd:World→XS→Value→α→Prop} {l:List (ByteArray×α)} (h:fy w X A mb dm rd l) (hb:bI w X bx [.map (some mb)] 77)
  (hs: ∀x∈l,x.1.size≤2^40) (hl:l.length≤2^40):
  Ct pg 138 #[.func (.func 193) #[] #[ptr bx 0]] w X nX fun v wa w'=>Own w' (made wa w') wa.heap.size 9 1 v ((yr (l.map (·.1))).map S1):=
 aaD h kQ hs hl fun wa hk nn D0 lA=>
  AnyZ.keys_gives (ρ:=Tryz.Oz) { Tryz.afT with } ly _ trivial rfl zQ bx mb nn D0 wa (hb.kp hk).lt (by have:=(hb.kp hk).2;simp [World.cell?,this]) lA
theorem Uc {w:World} {X F:XS} {db:Nat} {m:DM} (h:Dk w F db m) (hF:FX F X w) (hs: ∀x∈m.fs,x.1.size≤2^40) (hl:m.fs.length≤2^40):
  Ct pg 100 #[ptr db 0] w X nX fun v wa w'=>Own w' (made wa w') wa.heap.size 9 1 v ((yr (m.fs.map (·.1))).map S1):=by
 intro w0 hk;obtain⟨mb,l,h0,hz⟩:=h.mv (hF.mv hk);have hX:=fun k ah=>(hF.kp hk k ah).1;have hb:=h0.box.mv (Mv.sub hX);have hm:=h0.map.mv jo (Mv.sub hX) (A':=nX) fun _ h=>h.elim;have LC:=h0.fs;apply IM;unfold zv;have bF:=ak.init w0;repeat' first|refine aD ?_;intros
 refine ek acK kQ bF.has ?_;rintro _ wa w1 X1 ⟨bx,rfl,bE⟩ hle eD aq;have rr:=hm.mv jo aq.mv (A':=nX) fun _ h=>h.elim;refine ek (YO rr (bE.mono eD) (fun x hx=>hs (x.1,x.2.er) (by rw [LC];exact List.mem_map.2 ⟨x,hx,rfl⟩)) (by rw [LC,ay] at hl;exact hl)) kQ aq.has ?_;rintro v yM w2 X2 ho nW kZ dI;have Wi:=aq.kp.size;refine ai (aq.trans dI) fun Q8 bC=>?_;have jb:Own w2 X2 w0.heap.size 9 1 v ((yr (l.map (·.1))).map S1):=ho.up kZ zQ;have e:m.fs.map (·.1)=l.map (·.1):=by rw [LC,dS];rfl
 rw [e];exact(jb.kp bC).tight
end Go.Proofs.YtfndblbeikocdaaGreat
namespace Go.Proofs.YtfndblbeikocdaaGreat
open Go.Proofs.Tryz renaming prog → pg
open Go.bu Go.RowKit Go.Maps Go.Sort Go.Shelf Go.Proofs
set_option maxRecDepth 100000
set_option maxHeartbeats 1000000
set_option linter.unusedVariables false
set_option linter.unusedSimpArgs false
abbrev Fe:Int→Value:=fun z=>I z
theorem Q9 {P:Program} {w:World} {X:XS} {b kt c:Nat} {es:List (iq Int)} (h:jR w X b Fe es c) (hk:P.underlying kt=some (.int .i64)) (hs: ∀x∈es,-(2^63)≤x.1∧x.1<2^63) (hl:es.length≤2^40):
  ∃D0:DataW Unit,w.ownsMap P kt RT b es.length D0∧uh D0=es.length∧(intKeys D0).Perm (es.map fun x=>x.1):=by
 have AM:(2:Nat)^40≤maxLen:=by decide
 have aaz: ∀x∈es,keyOf P kt (Fe x.1)=some (.int .i64 x.1):=fun x hx=>by
  unfold keyOf mapKey;rw [hk];have:=hs x hx;have h1:IntKind.i64.min= -(2^63):=by decide
  have h2:IntKind.i64.max=2^63-1:=by decide
  simp [Fe,Lit.wf,h1];omega
 have mj: ∀x∈es,qd P kt RT (km Fe x)=some (.int .i64 x.1,.lit (.bool true)):=fun x hx=>by
  unfold qd km RT;simp [aaz x hx]
 have aaA:(es.map (km Fe)).map (lz P kt RT)=es.map fun x=>((.int .i64 x.1:Lit),(.lit (.bool true):DataW Unit)):=by
  rw [dS];apply gI;intro x hx;simp only [kO,lz,mj x hx,vJ]
 refine⟨.map (((es.map (km Fe)).map (lz P kt RT)).foldr nf []),⟨_,c,h.2.1,⟨?_,⟨?_,?_,?_⟩,?_⟩,by simp,by simp⟩,?_,?_⟩
 ·simpa using af hl AM
 ·intro x hx;simp only [ey,qc] at hx;obtain⟨y,hy,rfl⟩:=hx;exact h.2.2.2.2 y hy
 ·have:=h.2.2.2.1;simpa [dS,gw,km] using this
 ·have h1:=h.2.2.1;have e:((es.map (km Fe)).toArray.toList.map (·.key))=(es.map (·.1)).map Fe:=by simp [dS,gw,km]
  rw [e];exact uR Fe (fun a b xB e=>xB (by cases e;rfl)) h1
 ·intro x hx;simp only [ey,qc] at hx;obtain⟨y,hy,rfl⟩:=hx;exact⟨_,mj y hy⟩
 ·show ao _=_
  rw [(r6 _).length_eq];simp
 ·show(List.map _ _).Perm _
  refine((r6 _).map _).trans ?_;rw [aaA,dS];exact lV _
def kj (ks:List Int):List Int:=ks.mergeSort fun x y=>decide (x≤y)
theorem mI (ks:List Int):(kj ks).Perm ks:=lk _ _
theorem KC (ks:List Int):(kj ks).Pairwise fun x y=>x≤y:=by
 have:=lU (le:=fun x y:Int=>decide (x≤y)) (fun a b c h1 h2=>by simp only [decide_eq_true_eq] at*;omega) (fun a b=>by simp only [Bool.or_eq_true,decide_eq_true_eq];omega) ks;exact this.imp fun h=>by simpa using h
theorem Ec: ∀{l l':List Int},l.Perm l'→l.Pairwise (fun a b=>a≤b)→l'.Pairwise (fun a b=>a≤b)→l=l'
 |[],l',hp,_,_=>(vI hp)
 |a::l,[],hp,_,_=>absurd hp.length_eq (by simp)
 |a::l,b::l',hp,h1,h2=>by
  have QV:=List.pairwise_cons.1 h1;have YM:=List.pairwise_cons.1 h2;have xB:a=b:=by
   have ha:a∈b::l':=hp.mem_iff.1 (by simp);have hb:b∈a::l:=hp.mem_iff.2 (by simp);rcases List.mem_cons.1 ha with e|ha
   ·exact e
   ·rcases List.mem_cons.1 hb with e|hb
    ·exact e.symm
    ·have:=QV.1 b hb;have:=YM.1 a ha;omega
  subst xB;rw [Ec (tI hp) QV.2 YM.2]
theorem aaE {ks ks':List Int} (h:ks.Perm ks'):kj ks=kj ks':=Ec (((mI ks).trans h).trans (mI ks').symm) (KC _) (KC _)
theorem aaF (m:Nat):AnyZI.SortsIn pg Tryz.JD ly m:=
  ⟨fun dK off cap ss W hH hblk fB=>callsIn_wide.2 (AnyM.slices_Sort_int Tryz.ace dK off cap ss W hH hblk fB),
   fun p cap W=>callsIn_wide.2 (AnyM.slices_Sort_int_none Tryz.ace p cap W)⟩
theorem OG {g:FuncId} {lb:Array Value} {w:World} {X A:XS} {mb:Nat} {α:Type} {rd:World→XS→Value→α→Prop} {l:List (Int×α)} (h:fy w X A mb Fe rd l) (eg:enters pg g=true)
  (hs: ∀x∈l,-(2^63)≤x.1∧x.1<2^63) (hl:l.length≤2^40)
  (hg: ∀wa,Kp X w wa→ ∀(nn:Nat) (D0:DataW Unit),wa.ownsMap pg 3 RT mb nn D0→SeqGives ly 2 pg g lb encZ (fun ss=>ss.Perm (intKeys D0)) (uh D0) wa):
  Ct pg 46 #[.func (.func g) #[] lb] w X nX fun v wa w'=>Own w' (made wa w') wa.heap.size 3 1 v ((kj (l.map (·.1))).map I1):=by
 intro wa hk;obtain⟨es,c,h1,h2⟩:=h;have vK:=h2.keys;have hlen:es.length=l.length:=by have:=congrArg ao vK;simpa using this
 obtain⟨D0,lA,fB,LB⟩:=Q9 (P:=pg) (h1.kp hk) (kt:=3) kQ (fun x hx=>by
  have:x.1∈l.map (·.1):=by rw [←vK];exact List.mem_map.2 ⟨x,hx,rfl⟩
  obtain⟨y,hy,e⟩:=List.mem_map.1 this;rw [←e];exact hs y hy) zQ
 have AM:(2:Nat)^40≤maxLen:=by decide
 have hS:=callsIn_wide.1 (AnyZI.sorted_in Tryz.acJ ly 5 trivial trivial trivial trivial rfl zQ (aaF _) (fun args w=>sF kQ args w) g lb trivial (fun args w=>sF eg args w) _ _ zQ zQ wa (hg wa hk _ D0 lA));refine hS.mono ?_;rintro e w' ⟨v,ss,rfl,hp,bE,Wh,hb⟩;have hx:Ext wa w':=⟨hb.os,hb.tape,hb.output,hb.size,fun k ah _=>hb.block k ah⟩;refine⟨v,rfl,hx,?_⟩;have e1:ss.mergeSort (fun x y=>decide (x≤y))=kj (l.map (·.1)):=by
  refine aaE (hp.trans (LB.trans ?_));rw [vK]
 have e2:((ss.mergeSort (fun x y=>decide (x≤y))).map encZ)=((kj (l.map (·.1))).map I1).flatten:=by
  rw [e1];have e3: ∀q:List Int,q.map encZ=(q.map I1).flatten:=fun q=>by
   induction q with
   |nil=>rfl
   |cons a q ih=>simp only [List.map_cons,dP,←ih];rfl
  exact e3 _
 have qe:ss.length=((kj (l.map (·.1))).map I1).length:=by
  rw [ay,(mI _).length_eq,ay,←hlen];have:=hp.length_eq;rw [this,LB.length_eq,ay]
 refine⟨fun r hr=>by obtain⟨x,_,rfl⟩:=List.mem_map.1 hr;rfl,?_,fun q hq=>⟨?_,?_⟩⟩
 ·rw [←qe,←e2];exact bE
 ·exact(bE.lt _ hq).1
 ·exact(bE.lt _ hq).2
end Go.Proofs.YtfndblbeikocdaaGreat
