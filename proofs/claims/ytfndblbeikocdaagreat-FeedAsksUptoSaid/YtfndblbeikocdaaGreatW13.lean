/-
 Part 13 of the proof: what the last text leans on.
-/
import Derived.Shelf.SlIter.Nil
import Derived.Shelf.SlIterI.Nil
import Derived.Shelf.SortM.Plain
import Derived.Shelf.SortM.SortNone
import Derived.Shelf.SlSortCmp.WholeK
import Derived.Ground.GgzProg
import Derived.Ground.SlgmProg
import Derived.Ground.SlsfProg
import Derived.Shelf.SlGeneric
import Derived.Test.YtfndblbeikocdaaGreatProg
import Derived.Test.YtfndblbeikocdaaGreatW12
open List renaming map_map → dN, length_map → aA, toList_toArray → eJ, mem_map → qZ, length → aq, mergeSort_perm → lC, map_congr_left → gm, pairwise_mergeSort → mr, flatten_cons → dU
open Go.Value renaming string → di
open Go.Shelf renaming Ren → ji
open Go.Fence renaming wide → lL
open Go.WideElems renaming rg → lM, rd → ra
open Go.DataW renaming insert → nO
open List.Perm renaming refl → mu, nil_eq → wY, cons_inv → uz
open Function renaming comp_def → gJ, comp → lf
open Go.Maps renaming size → uM
open Nat renaming le_trans → af
open Go.Proofs.SlLaysZI renaming n7 → sw, n6 → AO
open Option renaming getD_some → wZ
open List.Pairwise renaming map → vD
open Go.Proofs.SlLaysZ renaming n6 → BH, n7 → BI
open Go.Proofs.SlLaysM renaming n6 → BJ, n5 → BK
open Go.Proofs.SlLaysF0 renaming n6 → AP
set_option linter.unusedVariables false
set_option linter.unusedSimpArgs false
namespace Go.Proofs
open Go.Proofs.Tryz renaming prog → pg
open Go.Shelf
def Tryz.KX:ji:=⟨fun|6=>138|8=>191|9=>192|11=>226|13=>135|12=>227|23=>188|24=>189|14=>267|15=>268|16=>269|17=>270|18=>271|19=>272|20=>273|21=>274|22=>275|25=>298|26=>221|27=>222|28=>299|29=>300|30=>301|31=>312|n=>n,fun|26=>9|28=>237|24=>35|0=>0|3=>3|37=>232|48=>194|50=>208|4=>4|40=>279|39=>278|45=>283|5=>5|9=>9|51=>318|55=>322|57=>365|58=>366|33=>241|n=>n,fun|n=>n⟩
theorem Tryz.adz:BH pg Tryz.KX:= {
 mixed:=by kernel_rfl
 f6:=⟨Tryz.f138.name,by decide,Tryz.func138.trans (congrArg some (by kernel_rfl))⟩
 f8:=⟨Tryz.f191.name,by decide,Tryz.func191.trans (congrArg some (by kernel_rfl))⟩
 f11:=⟨Tryz.f226.name,by decide,Tryz.func226.trans (congrArg some (by kernel_rfl))⟩
 t0:=Tryz.underlying0
 a0:=Tryz.isAgg0
 z0:=Tryz.sizeOf0
 v0:=Tryz.zeroValue0
 t24:=Tryz.underlying35
 a24:=Tryz.isAgg35
 z24:=Tryz.sizeOf35
 v24:=Tryz.zeroValue35
 t26:=Tryz.underlying9
 a26:=Tryz.isAgg9
 z26:=Tryz.sizeOf9
 v26:=Tryz.zeroValue9
 t28:=Tryz.underlying237
 a28:=Tryz.isAgg237
 z28:=Tryz.sizeOf237
 v28:=Tryz.zeroValue237
 i26:=by kernel_rfl }
def Tryz.aar:ji:=⟨fun|6=>192|8=>135|9=>227|19=>188|20=>189|21=>267|22=>268|23=>269|24=>270|25=>271|26=>272|27=>273|28=>274|29=>275|36=>298|31=>221|32=>222|37=>299|38=>300|39=>301|41=>312|n=>n,fun|27=>35|29=>9|3=>3|32=>232|26=>35|0=>0|44=>194|46=>208|4=>4|36=>279|35=>278|41=>283|5=>5|9=>9|53=>318|57=>322|63=>365|64=>366|n=>n,fun|n=>n⟩
theorem Tryz.ac9:BJ pg Tryz.aar:= {
 mixed:=by kernel_rfl
 f6:=⟨Tryz.f192.name,by decide,Tryz.func192.trans (congrArg some (by kernel_rfl))⟩
 f8:=Tryz.func135.trans (congrArg some (by kernel_rfl))
 f9:=⟨Tryz.f227.name,by decide,Tryz.func227.trans (congrArg some (by kernel_rfl))⟩
 f19:=Tryz.func188.trans (congrArg some (by kernel_rfl))
 f20:=Tryz.func189.trans (congrArg some (by kernel_rfl))
 f21:=⟨Tryz.f267.name,by decide,Tryz.func267.trans (congrArg some (by kernel_rfl))⟩
 f22:=⟨Tryz.f268.name,by decide,Tryz.func268.trans (congrArg some (by kernel_rfl))⟩
 f23:=⟨Tryz.f269.name,by decide,Tryz.func269.trans (congrArg some (by kernel_rfl))⟩
 f24:=⟨Tryz.f270.name,by decide,Tryz.func270.trans (congrArg some (by kernel_rfl))⟩
 f25:=⟨Tryz.f271.name,by decide,Tryz.func271.trans (congrArg some (by kernel_rfl))⟩
 f26:=⟨Tryz.f272.name,by decide,Tryz.func272.trans (congrArg some (by kernel_rfl))⟩
 f27:=⟨Tryz.f273.name,by decide,Tryz.func273.trans (congrArg some (by kernel_rfl))⟩
 f28:=⟨Tryz.f274.name,by decide,Tryz.func274.trans (congrArg some (by kernel_rfl))⟩
 f29:=⟨Tryz.f275.name,by decide,Tryz.func275.trans (congrArg some (by kernel_rfl))⟩
 f31:=Tryz.func221.trans (congrArg some (by kernel_rfl))
 f32:=Tryz.func222.trans (congrArg some (by kernel_rfl))
 f36:=⟨Tryz.f298.name,by decide,Tryz.func298.trans (congrArg some (by kernel_rfl))⟩
 f37:=⟨Tryz.f299.name,by decide,Tryz.func299.trans (congrArg some (by kernel_rfl))⟩
 f38:=⟨Tryz.f300.name,by decide,Tryz.func300.trans (congrArg some (by kernel_rfl))⟩
 f39:=⟨Tryz.f301.name,by decide,Tryz.func301.trans (congrArg some (by kernel_rfl))⟩
 f41:=⟨Tryz.f312.name,by decide,Tryz.func312.trans (congrArg some (by kernel_rfl))⟩
 t0:=Tryz.underlying0
 a0:=Tryz.isAgg0
 z0:=Tryz.sizeOf0
 v0:=Tryz.zeroValue0
 t3:=Tryz.underlying3
 a3:=Tryz.isAgg3
 z3:=Tryz.sizeOf3
 v3:=Tryz.zeroValue3
 t4:=Tryz.underlying4
 a4:=Tryz.isAgg4
 z4:=Tryz.sizeOf4
 v4:=Tryz.zeroValue4
 t5:=Tryz.underlying5
 a5:=Tryz.isAgg5
 z5:=Tryz.sizeOf5
 v5:=Tryz.zeroValue5
 t9:=Tryz.underlying9
 a9:=Tryz.isAgg9
 z9:=Tryz.sizeOf9
 v9:=Tryz.zeroValue9
 t26:=Tryz.underlying35
 a26:=Tryz.isAgg35
 z26:=Tryz.sizeOf35
 v26:=Tryz.zeroValue35
 t27:=Tryz.underlying35
 a27:=Tryz.isAgg35
 z27:=Tryz.sizeOf35
 v27:=Tryz.zeroValue35
 t29:=Tryz.underlying9
 a29:=Tryz.isAgg9
 z29:=Tryz.sizeOf9
 v29:=Tryz.zeroValue9
 t32:=Tryz.underlying232
 a32:=Tryz.isAgg232
 z32:=Tryz.sizeOf232
 v32:=Tryz.zeroValue232
 t35:=Tryz.underlying278
 a35:=Tryz.isAgg278
 z35:=Tryz.sizeOf278
 v35:=Tryz.zeroValue278
 t36:=Tryz.underlying279
 a36:=Tryz.isAgg279
 z36:=Tryz.sizeOf279
 v36:=Tryz.zeroValue279
 t41:=Tryz.underlying283
 a41:=Tryz.isAgg283
 z41:=Tryz.sizeOf283
 v41:=Tryz.zeroValue283
 t44:=Tryz.underlying194
 a44:=Tryz.isAgg194
 z44:=Tryz.sizeOf194
 v44:=Tryz.zeroValue194
 t46:=Tryz.underlying208
 a46:=Tryz.isAgg208
 z46:=Tryz.sizeOf208
 v46:=Tryz.zeroValue208
 t53:=Tryz.underlying318
 a53:=Tryz.isAgg318
 z53:=Tryz.sizeOf318
 v53:=Tryz.zeroValue318
 t57:=Tryz.underlying322
 a57:=Tryz.isAgg322
 z57:=Tryz.sizeOf322
 v57:=Tryz.zeroValue322
 t63:=Tryz.underlying365
 a63:=Tryz.isAgg365
 z63:=Tryz.sizeOf365
 v63:=Tryz.zeroValue365
 t64:=Tryz.underlying366
 a64:=Tryz.isAgg366
 z64:=Tryz.sizeOf366
 v64:=Tryz.zeroValue366 }
def Tryz.KY:ji:=⟨fun|6=>46|8=>93|9=>94|11=>133|13=>135|12=>134|23=>188|24=>189|14=>179|15=>180|16=>181|17=>182|18=>183|19=>184|20=>185|21=>186|22=>187|25=>220|26=>221|27=>222|28=>223|29=>224|30=>225|31=>266|n=>n,fun|26=>3|28=>121|24=>38|0=>0|3=>3|37=>232|48=>194|50=>208|4=>4|40=>279|39=>278|45=>283|5=>5|9=>9|51=>318|55=>322|57=>365|58=>366|33=>55|n=>n,fun|n=>n⟩
theorem Tryz.adA:AO pg Tryz.KY:= {
 mixed:=by kernel_rfl
 f6:=⟨Tryz.f46.name,by decide,Tryz.func46.trans (congrArg some (by kernel_rfl))⟩
 f8:=⟨Tryz.f93.name,by decide,Tryz.func93.trans (congrArg some (by kernel_rfl))⟩
 f11:=⟨Tryz.f133.name,by decide,Tryz.func133.trans (congrArg some (by kernel_rfl))⟩
 t0:=Tryz.underlying0
 a0:=Tryz.isAgg0
 z0:=Tryz.sizeOf0
 v0:=Tryz.zeroValue0
 t24:=Tryz.underlying38
 a24:=Tryz.isAgg38
 z24:=Tryz.sizeOf38
 v24:=Tryz.zeroValue38
 t26:=Tryz.underlying3
 a26:=Tryz.isAgg3
 z26:=Tryz.sizeOf3
 v26:=Tryz.zeroValue3
 t28:=Tryz.underlying121
 a28:=Tryz.isAgg121
 z28:=Tryz.sizeOf121
 v28:=Tryz.zeroValue121
 i26:=by kernel_rfl }
def Tryz.aas:ji:=⟨fun|5=>94|8=>135|7=>134|19=>188|20=>189|10=>179|11=>180|12=>181|13=>182|14=>183|15=>184|16=>185|17=>186|18=>187|30=>220|31=>221|32=>222|33=>223|34=>224|35=>225|40=>266|n=>n,fun|23=>38|25=>3|3=>3|32=>232|22=>38|0=>0|44=>194|46=>208|4=>4|36=>279|35=>278|41=>283|5=>5|9=>9|53=>318|57=>322|63=>365|64=>366|n=>n,fun|n=>n⟩
theorem Tryz.ada:BK pg Tryz.aas:= {
 mixed:=by kernel_rfl
 f5:=⟨Tryz.f94.name,by decide,Tryz.func94.trans (congrArg some (by kernel_rfl))⟩
 f7:=⟨Tryz.f134.name,by decide,Tryz.func134.trans (congrArg some (by kernel_rfl))⟩
 f8:=Tryz.func135.trans (congrArg some (by kernel_rfl))
 f10:=⟨Tryz.f179.name,by decide,Tryz.func179.trans (congrArg some (by kernel_rfl))⟩
 f11:=⟨Tryz.f180.name,by decide,Tryz.func180.trans (congrArg some (by kernel_rfl))⟩
 f12:=⟨Tryz.f181.name,by decide,Tryz.func181.trans (congrArg some (by kernel_rfl))⟩
 f13:=⟨Tryz.f182.name,by decide,Tryz.func182.trans (congrArg some (by kernel_rfl))⟩
 f14:=⟨Tryz.f183.name,by decide,Tryz.func183.trans (congrArg some (by kernel_rfl))⟩
 f15:=⟨Tryz.f184.name,by decide,Tryz.func184.trans (congrArg some (by kernel_rfl))⟩
 f16:=⟨Tryz.f185.name,by decide,Tryz.func185.trans (congrArg some (by kernel_rfl))⟩
 f17:=⟨Tryz.f186.name,by decide,Tryz.func186.trans (congrArg some (by kernel_rfl))⟩
 f18:=⟨Tryz.f187.name,by decide,Tryz.func187.trans (congrArg some (by kernel_rfl))⟩
 f19:=Tryz.func188.trans (congrArg some (by kernel_rfl))
 f20:=Tryz.func189.trans (congrArg some (by kernel_rfl))
 f30:=⟨Tryz.f220.name,by decide,Tryz.func220.trans (congrArg some (by kernel_rfl))⟩
 f31:=Tryz.func221.trans (congrArg some (by kernel_rfl))
 f32:=Tryz.func222.trans (congrArg some (by kernel_rfl))
 f33:=⟨Tryz.f223.name,by decide,Tryz.func223.trans (congrArg some (by kernel_rfl))⟩
 f34:=⟨Tryz.f224.name,by decide,Tryz.func224.trans (congrArg some (by kernel_rfl))⟩
 f35:=⟨Tryz.f225.name,by decide,Tryz.func225.trans (congrArg some (by kernel_rfl))⟩
 f40:=⟨Tryz.f266.name,by decide,Tryz.func266.trans (congrArg some (by kernel_rfl))⟩
 t0:=Tryz.underlying0
 a0:=Tryz.isAgg0
 z0:=Tryz.sizeOf0
 v0:=Tryz.zeroValue0
 t3:=Tryz.underlying3
 a3:=Tryz.isAgg3
 z3:=Tryz.sizeOf3
 v3:=Tryz.zeroValue3
 t4:=Tryz.underlying4
 a4:=Tryz.isAgg4
 z4:=Tryz.sizeOf4
 v4:=Tryz.zeroValue4
 t5:=Tryz.underlying5
 a5:=Tryz.isAgg5
 z5:=Tryz.sizeOf5
 v5:=Tryz.zeroValue5
 t9:=Tryz.underlying9
 a9:=Tryz.isAgg9
 z9:=Tryz.sizeOf9
 v9:=Tryz.zeroValue9
 t22:=Tryz.underlying38
 a22:=Tryz.isAgg38
 z22:=Tryz.sizeOf38
 v22:=Tryz.zeroValue38
 t23:=Tryz.underlying38
 a23:=Tryz.isAgg38
 z23:=Tryz.sizeOf38
 v23:=Tryz.zeroValue38
 t25:=Tryz.underlying3
 a25:=Tryz.isAgg3
 z25:=Tryz.sizeOf3
 v25:=Tryz.zeroValue3
 t32:=Tryz.underlying232
 a32:=Tryz.isAgg232
 z32:=Tryz.sizeOf232
 v32:=Tryz.zeroValue232
 t35:=Tryz.underlying278
 a35:=Tryz.isAgg278
 z35:=Tryz.sizeOf278
 v35:=Tryz.zeroValue278
 t36:=Tryz.underlying279
 a36:=Tryz.isAgg279
 z36:=Tryz.sizeOf279
 v36:=Tryz.zeroValue279
 t41:=Tryz.underlying283
 a41:=Tryz.isAgg283
 z41:=Tryz.sizeOf283
 v41:=Tryz.zeroValue283
 t44:=Tryz.underlying194
 a44:=Tryz.isAgg194
 z44:=Tryz.sizeOf194
 v44:=Tryz.zeroValue194
 t46:=Tryz.underlying208
 a46:=Tryz.isAgg208
 z46:=Tryz.sizeOf208
 v46:=Tryz.zeroValue208
 t53:=Tryz.underlying318
 a53:=Tryz.isAgg318
 z53:=Tryz.sizeOf318
 v53:=Tryz.zeroValue318
 t57:=Tryz.underlying322
 a57:=Tryz.isAgg322
 z57:=Tryz.sizeOf322
 v57:=Tryz.zeroValue322
 t63:=Tryz.underlying365
 a63:=Tryz.isAgg365
 z63:=Tryz.sizeOf365
 v63:=Tryz.zeroValue365
 t64:=Tryz.underlying366
 a64:=Tryz.isAgg366
 z64:=Tryz.sizeOf366
 v64:=Tryz.zeroValue366 }
def Tryz.Qh:ji:=⟨fun|7=>139|10=>193|n=>n,fun|23=>77|26=>9|3=>191|28=>237|0=>0|27=>236|33=>241|4=>4|n=>n,fun|n=>n⟩
theorem Tryz.agL:BI pg Tryz.Qh:= {
 mixed:=by kernel_rfl
 f7:=⟨Tryz.f139.name,by decide,Tryz.func139.trans (congrArg some (by kernel_rfl))⟩
 f10:=⟨Tryz.f193.name,by decide,Tryz.func193.trans (congrArg some (by kernel_rfl))⟩
 t0:=Tryz.underlying0
 a0:=Tryz.isAgg0
 z0:=Tryz.sizeOf0
 v0:=Tryz.zeroValue0
 t4:=Tryz.underlying4
 a4:=Tryz.isAgg4
 z4:=Tryz.sizeOf4
 v4:=Tryz.zeroValue4
 t23:=Tryz.underlying77
 a23:=Tryz.isAgg77
 z23:=Tryz.sizeOf77
 v23:=Tryz.zeroValue77
 t26:=Tryz.underlying9
 a26:=Tryz.isAgg9
 z26:=Tryz.sizeOf9
 v26:=Tryz.zeroValue9
 t27:=Tryz.underlying236
 a27:=Tryz.isAgg236
 z27:=Tryz.sizeOf236
 v27:=Tryz.zeroValue236
 t28:=Tryz.underlying237
 a28:=Tryz.isAgg237
 z28:=Tryz.sizeOf237
 v28:=Tryz.zeroValue237
 t33:=Tryz.underlying241
 a33:=Tryz.isAgg241
 z33:=Tryz.sizeOf241
 v33:=Tryz.zeroValue241 }
def Tryz.Qi:ji:=⟨fun|7=>47|10=>95|n=>n,fun|23=>90|26=>3|3=>111|28=>121|0=>0|27=>120|33=>55|4=>4|n=>n,fun|n=>n⟩
theorem Tryz.agM:sw pg Tryz.Qi:= {
 mixed:=by kernel_rfl
 f7:=⟨Tryz.f47.name,by decide,Tryz.func47.trans (congrArg some (by kernel_rfl))⟩
 f10:=⟨Tryz.f95.name,by decide,Tryz.func95.trans (congrArg some (by kernel_rfl))⟩
 t0:=Tryz.underlying0
 a0:=Tryz.isAgg0
 z0:=Tryz.sizeOf0
 v0:=Tryz.zeroValue0
 t4:=Tryz.underlying4
 a4:=Tryz.isAgg4
 z4:=Tryz.sizeOf4
 v4:=Tryz.zeroValue4
 t23:=Tryz.underlying90
 a23:=Tryz.isAgg90
 z23:=Tryz.sizeOf90
 v23:=Tryz.zeroValue90
 t26:=Tryz.underlying3
 a26:=Tryz.isAgg3
 z26:=Tryz.sizeOf3
 v26:=Tryz.zeroValue3
 t27:=Tryz.underlying120
 a27:=Tryz.isAgg120
 z27:=Tryz.sizeOf120
 v27:=Tryz.zeroValue120
 t28:=Tryz.underlying121
 a28:=Tryz.isAgg121
 z28:=Tryz.sizeOf121
 v28:=Tryz.zeroValue121
 t33:=Tryz.underlying55
 a33:=Tryz.isAgg55
 z33:=Tryz.sizeOf55
 v33:=Tryz.zeroValue55 }
def Tryz.Qj:ji:=⟨fun|7=>136|10=>190|n=>n,fun|23=>126|26=>3|3=>34|28=>121|0=>0|27=>120|33=>55|4=>4|n=>n,fun|n=>n⟩
theorem Tryz.agN:sw pg Tryz.Qj:= {
 mixed:=by kernel_rfl
 f7:=⟨Tryz.f136.name,by decide,Tryz.func136.trans (congrArg some (by kernel_rfl))⟩
 f10:=⟨Tryz.f190.name,by decide,Tryz.func190.trans (congrArg some (by kernel_rfl))⟩
 t0:=Tryz.underlying0
 a0:=Tryz.isAgg0
 z0:=Tryz.sizeOf0
 v0:=Tryz.zeroValue0
 t4:=Tryz.underlying4
 a4:=Tryz.isAgg4
 z4:=Tryz.sizeOf4
 v4:=Tryz.zeroValue4
 t23:=Tryz.underlying126
 a23:=Tryz.isAgg126
 z23:=Tryz.sizeOf126
 v23:=Tryz.zeroValue126
 t26:=Tryz.underlying3
 a26:=Tryz.isAgg3
 z26:=Tryz.sizeOf3
 v26:=Tryz.zeroValue3
 t27:=Tryz.underlying120
 a27:=Tryz.isAgg120
 z27:=Tryz.sizeOf120
 v27:=Tryz.zeroValue120
 t28:=Tryz.underlying121
 a28:=Tryz.isAgg121
 z28:=Tryz.sizeOf121
 v28:=Tryz.zeroValue121
 t33:=Tryz.underlying55
 a33:=Tryz.isAgg55
 z33:=Tryz.sizeOf55
 v33:=Tryz.zeroValue55 }
def Tryz.Qk:ji:=⟨fun|6=>175|15=>135|14=>218|28=>188|29=>189|20=>257|21=>258|22=>259|23=>260|24=>261|25=>262|26=>263|27=>264|46=>295|47=>221|48=>222|49=>296|50=>297|57=>311|n=>n,fun|22=>37|24=>118|25=>276|3=>3|39=>232|0=>0|53=>194|55=>208|4=>4|46=>279|45=>278|50=>283|5=>5|9=>9|66=>318|70=>322|76=>365|77=>366|n=>n,fun|n=>n⟩
theorem Tryz.agO:AP pg Tryz.Qk:= {
 mixed:=by kernel_rfl
 f6:=⟨Tryz.f175.name,by decide,Tryz.func175.trans (congrArg some (by kernel_rfl))⟩
 f14:=⟨Tryz.f218.name,by decide,Tryz.func218.trans (congrArg some (by kernel_rfl))⟩
 f15:=Tryz.func135.trans (congrArg some (by kernel_rfl))
 f20:=⟨Tryz.f257.name,by decide,Tryz.func257.trans (congrArg some (by kernel_rfl))⟩
 f21:=⟨Tryz.f258.name,by decide,Tryz.func258.trans (congrArg some (by kernel_rfl))⟩
 f22:=⟨Tryz.f259.name,by decide,Tryz.func259.trans (congrArg some (by kernel_rfl))⟩
 f23:=⟨Tryz.f260.name,by decide,Tryz.func260.trans (congrArg some (by kernel_rfl))⟩
 f24:=⟨Tryz.f261.name,by decide,Tryz.func261.trans (congrArg some (by kernel_rfl))⟩
 f25:=⟨Tryz.f262.name,by decide,Tryz.func262.trans (congrArg some (by kernel_rfl))⟩
 f26:=⟨Tryz.f263.name,by decide,Tryz.func263.trans (congrArg some (by kernel_rfl))⟩
 f27:=⟨Tryz.f264.name,by decide,Tryz.func264.trans (congrArg some (by kernel_rfl))⟩
 f28:=Tryz.func188.trans (congrArg some (by kernel_rfl))
 f29:=Tryz.func189.trans (congrArg some (by kernel_rfl))
 f46:=⟨Tryz.f295.name,by decide,Tryz.func295.trans (congrArg some (by kernel_rfl))⟩
 f47:=Tryz.func221.trans (congrArg some (by kernel_rfl))
 f48:=Tryz.func222.trans (congrArg some (by kernel_rfl))
 f49:=⟨Tryz.f296.name,by decide,Tryz.func296.trans (congrArg some (by kernel_rfl))⟩
 f50:=⟨Tryz.f297.name,by decide,Tryz.func297.trans (congrArg some (by kernel_rfl))⟩
 f57:=⟨Tryz.f311.name,by decide,Tryz.func311.trans (congrArg some (by kernel_rfl))⟩
 t0:=Tryz.underlying0
 a0:=Tryz.isAgg0
 z0:=Tryz.sizeOf0
 v0:=Tryz.zeroValue0
 t3:=Tryz.underlying3
 a3:=Tryz.isAgg3
 z3:=Tryz.sizeOf3
 v3:=Tryz.zeroValue3
 t4:=Tryz.underlying4
 a4:=Tryz.isAgg4
 z4:=Tryz.sizeOf4
 v4:=Tryz.zeroValue4
 t5:=Tryz.underlying5
 a5:=Tryz.isAgg5
 z5:=Tryz.sizeOf5
 v5:=Tryz.zeroValue5
 t9:=Tryz.underlying9
 a9:=Tryz.isAgg9
 z9:=Tryz.sizeOf9
 v9:=Tryz.zeroValue9
 t22:=Tryz.underlying37
 a22:=Tryz.isAgg37
 z22:=Tryz.sizeOf37
 v22:=Tryz.zeroValue37
 t25:=Tryz.underlying276
 a25:=Tryz.isAgg276
 z25:=Tryz.sizeOf276
 v25:=Tryz.zeroValue276
 t39:=Tryz.underlying232
 a39:=Tryz.isAgg232
 z39:=Tryz.sizeOf232
 v39:=Tryz.zeroValue232
 t45:=Tryz.underlying278
 a45:=Tryz.isAgg278
 z45:=Tryz.sizeOf278
 v45:=Tryz.zeroValue278
 t46:=Tryz.underlying279
 a46:=Tryz.isAgg279
 z46:=Tryz.sizeOf279
 v46:=Tryz.zeroValue279
 t50:=Tryz.underlying283
 a50:=Tryz.isAgg283
 z50:=Tryz.sizeOf283
 v50:=Tryz.zeroValue283
 t53:=Tryz.underlying194
 a53:=Tryz.isAgg194
 z53:=Tryz.sizeOf194
 v53:=Tryz.zeroValue194
 t55:=Tryz.underlying208
 a55:=Tryz.isAgg208
 z55:=Tryz.sizeOf208
 v55:=Tryz.zeroValue208
 t66:=Tryz.underlying318
 a66:=Tryz.isAgg318
 z66:=Tryz.sizeOf318
 v66:=Tryz.zeroValue318
 t70:=Tryz.underlying322
 a70:=Tryz.isAgg322
 z70:=Tryz.sizeOf322
 v70:=Tryz.zeroValue322
 t76:=Tryz.underlying365
 a76:=Tryz.isAgg365
 z76:=Tryz.sizeOf365
 v76:=Tryz.zeroValue365
 t77:=Tryz.underlying366
 a77:=Tryz.isAgg366
 z77:=Tryz.sizeOf366
 v77:=Tryz.zeroValue366 }
end Go.Proofs
namespace Go.Proofs.YtfndblbeikocdaaGreat
open Go.Proofs.Tryz renaming prog → pg
open Go.bB Go.RowKit Go.Maps Go.Sort Go.Shelf Go.Proofs
set_option maxRecDepth 100000
set_option maxHeartbeats 1000000
set_option linter.unusedVariables false
set_option linter.unusedSimpArgs false
theorem insert_perm {H:Type} (x:Lit×DataW H): ∀l:List (Lit×DataW H),(nO x l).Perm (x::l)
 |[]=>mu _
 |y::r=>by
  unfold nO;split
  ·exact mu _
  ·exact((insert_perm x r).cons y).trans (List.Perm.swap x y r)
theorem sV {H:Type} : ∀l:List (Lit×DataW H),(l.foldr nO []).Perm l
 |[]=>mu _
 |x::l=>(insert_perm x _).trans ((sV l).cons x)
def RT:Value→Option (DataW Unit×List MemPlace):=fun _=>some (.lit (.bool true),[])
theorem VQ {P:Program} {w:World} {X:XS} {b kt c:Nat} {es:List (iD ByteArray)} (h:jZ w X b di es c) (hk:P.underlying kt=some .string) (hs: ∀x∈es,x.1.size≤2^40) (hl:es.length≤2^40):
  ∃D0:DataW Unit,w.ownsMap P kt RT b es.length D0∧uM D0=es.length∧(strKeys D0).Perm (es.map fun x=>x.1.data.toList):=by
 have Bl:(2:Nat)^40≤maxLen:=by decide
 have abG: ∀x∈es,keyOf P kt (.string x.1)=some (.string x.1.data.toList):=fun x hx=>by
  unfold keyOf mapKey;rw [hk];simp [af (hs x hx) Bl]
 have mG: ∀x∈es,ra P kt RT (kE di x)=some (.string x.1.data.toList,.lit (.bool true)):=fun x hx=>by
  unfold ra kE RT;simp [abG x hx]
 have abH:(es.map (kE di)).map (lM P kt RT)=es.map fun x=>((.string x.1.data.toList:Lit),(.lit (.bool true):DataW Unit)):=by
  rw [dN];apply gm;intro x hx;simp only [lf,lM,mG x hx,wZ]
 refine⟨.map (((es.map (kE di)).map (lM P kt RT)).foldr nO []),⟨_,c,h.2.1,⟨?_,⟨?_,?_,?_⟩,?_⟩,by simp,by simp⟩,?_,?_⟩
 ·simpa using af hl Bl
 ·intro x hx;simp only [eJ,qZ] at hx;obtain⟨y,hy,rfl⟩:=hx;exact h.2.2.2.2 y hy
 ·have:=h.2.2.2.1;simpa [dN,gJ,kE] using this
 ·have h1:=h.2.2.1;have e:((es.map (kE di)).toArray.toList.map (·.key))=(es.map (·.1)).map di:=by simp [dN,gJ,kE]
  rw [e];exact vD di (fun a b x7 e=>x7 (by cases e;rfl)) h1
 ·intro x hx;simp only [eJ,qZ] at hx;obtain⟨y,hy,rfl⟩:=hx;exact⟨_,mG y hy⟩
 ·show aq _=_
  rw [(sV _).length_eq];simp
 ·show(List.map _ _).Perm _
  refine((sV _).map _).trans ?_;rw [abH,dN];exact mu _
def leB (x y:List UInt8):Bool:=decide (x≤y)
def bl (s:ByteArray):List UInt8:=s.data.toList
theorem agP (s:ByteArray):(⟨(bl s).toArray⟩:ByteArray)=s:=by unfold bl;simp
def yM (ks:List ByteArray):List ByteArray:=((ks.map bl).mergeSort leB).map fun x=>⟨x.toArray⟩
theorem Ql: ∀a b c:List UInt8,leB a b=true→leB b c=true→leB a c=true:=fun a b c h1 h2=>by
 unfold leB at*;simp only [decide_eq_true_eq] at*;exact List.le_trans h1 h2
theorem Qm: ∀a b:List UInt8,(leB a b||leB b a)=true:=fun a b=>by
 unfold leB;rcases List.le_total a b with h|h<;>simp [h]
theorem abI: ∀a b:List UInt8,leB a b=true→leB b a=true→a=b:=fun a b h1 h2=>by
 unfold leB at*;simp only [decide_eq_true_eq] at*;exact List.le_antisymm h1 h2
theorem Qn: ∀{l l':List (List UInt8)},l.Perm l'→l.Pairwise (fun a b=>leB a b=true)→l'.Pairwise (fun a b=>leB a b=true)→l=l'
 |[],l',hp,_,_=>(wY hp)
 |a::l,[],hp,_,_=>absurd hp.length_eq (by simp)
 |a::l,b::l',hp,h1,h2=>by
  have Sb:=List.pairwise_cons.1 h1;have h2':=List.pairwise_cons.1 h2;have x7:a=b:=by
   have ha:a∈b::l':=hp.mem_iff.1 (by simp);have hb:b∈a::l:=hp.mem_iff.2 (by simp);rcases List.mem_cons.1 ha with e|ha
   ·exact e
   ·rcases List.mem_cons.1 hb with e|hb
    ·exact e.symm
    ·exact abI a b (Sb.1 b hb) (h2'.1 a ha)
  subst x7;rw [Qn (uz hp) Sb.2 h2'.2]
theorem aat {l l':List (List UInt8)} (h:l.Perm l'):l.mergeSort leB=l'.mergeSort leB:=
 Qn (((lC l leB).trans h).trans (lC l' leB).symm) (mr Ql Qm l) (mr Ql Qm l')
theorem Yp (ks:List ByteArray):(yM ks).Perm ks:=by
 have h:=(lC (ks.map bl) leB).map fun x=>(⟨x.toArray⟩:ByteArray);rw [dN] at h;have e:(ks.map ((fun x=>(⟨x.toArray⟩:ByteArray))∘bl))=ks:=by
  conv=>rhs;rw [←List.map_id ks]
  apply gm;intro x _;exact agP x
 rw [e] at h;exact h
theorem abJ (m:Nat):AnyZ.SortsIn pg Tryz.KX lL m:=
  ⟨fun dP off cap ss W hH hblk fN=>callsIn_wide.2 (AnyM.slices_Sort_string Tryz.ac9 dP off cap ss W hH hblk fN),
   fun p cap W=>callsIn_wide.2 (AnyM.slices_Sort_string_none Tryz.ac9 p cap W)⟩
theorem abK {g:FuncId} {lb:Array Value} {w:World} {X A:XS} {mb:Nat} {α:Type} {rd:World→XS→Value→α→Prop} {l:List (ByteArray×α)} (h:fL w X A mb di rd l) (eg:enters pg g=true)
  (hs: ∀x∈l,x.1.size≤2^40) (hl:l.length≤2^40)
  (hg: ∀wa,Kp X w wa→ ∀(nn:Nat) (D0:DataW Unit),wa.ownsMap pg 9 RT mb nn D0→SeqGives lL 2 pg g lb encStr (fun ss=>ss.Perm (strKeys D0)) (uM D0) wa):
  Ct pg 138 #[.func (.func g) #[] lb] w X nX fun v wa w'=>Own w' (made wa w') wa.heap.size 9 1 v ((yM (l.map (·.1))).map S1):=by
 intro wa hk;obtain⟨es,c,h1,h2⟩:=h;have xa:=h2.keys;have hlen:es.length=l.length:=by have:=congrArg aq xa;simpa using this
 obtain⟨D0,lN,fN,Nh⟩:=VQ (P:=pg) (h1.kp hk) (kt:=9) kQ (fun x hx=>by
  have:x.1∈l.map (·.1):=by rw [←xa];exact List.mem_map.2 ⟨x,hx,rfl⟩
  obtain⟨y,hy,e⟩:=List.mem_map.1 this;rw [←e];exact hs y hy) zQ
 have Bl:(2:Nat)^40≤maxLen:=by decide
 have hS:=callsIn_wide.1 (AnyZ.sorted_in Tryz.adz lL 5 trivial trivial trivial trivial rfl zQ (abJ _) (fun args w=>tj kQ args w) g lb trivial (fun args w=>tj eg args w) _ _ zQ zQ wa (hg wa hk _ D0 lN));refine hS.mono ?_;rintro e w' ⟨v,ss,rfl,hp,bH,XU,hb⟩;have hx:Ext wa w':=⟨hb.os,hb.tape,hb.output,hb.size,fun k ah _=>hb.block k ah⟩;refine⟨v,rfl,hx,?_⟩;have e1:ss.mergeSort (fun x y=>decide (x≤y))=(l.map fun x=>bl x.1).mergeSort leB:=by
  have Tu:ss.Perm (l.map fun x=>bl x.1):=by
   refine hp.trans (Nh.trans ?_);have:(es.map fun x=>x.1.data.toList)=(l.map fun x=>bl x.1):=by
    have:=congrArg (List.map bl) xa;simpa [dN,gJ,bl] using this
   rw [this]
  exact aat Tu
 have e2:((ss.mergeSort (fun x y=>decide (x≤y))).map encStr)=((yM (l.map (·.1))).map S1).flatten:=by
  rw [e1];unfold yM;rw [dN,dN];have e3: ∀q:List (List UInt8),q.map encStr=(q.map (S1∘fun x=>(⟨x.toArray⟩:ByteArray))).flatten:=fun q=>by
   induction q with
   |nil=>rfl
   |cons a q ih=>simp only [List.map_cons,dU,←ih];rfl
  exact e3 _
 have re:ss.length=((yM (l.map (·.1))).map S1).length:=by
  rw [aA,(Yp _).length_eq,aA,←hlen];have:=hp.length_eq;rw [this,Nh.length_eq,aA]
 refine⟨fun r hr=>by obtain⟨x,_,rfl⟩:=List.mem_map.1 hr;rfl,?_,fun q hq=>⟨?_,?_⟩⟩
 ·rw [←re,←e2];exact bH
 ·exact(bH.lt _ hq).1
 ·exact(bH.lt _ hq).2
end Go.Proofs.YtfndblbeikocdaaGreat
namespace Go.Proofs.YtfndblbeikocdaaGreat
open Go.Proofs.Tryz renaming prog → pg
open Go.bB Go.Maps Go.Shelf
set_option maxRecDepth 100000
set_option maxHeartbeats 1000000
set_option linter.unusedVariables false
set_option linter.unusedSimpArgs false
attribute [local irreducible] un jn aI aT ld1 ek st1 cA cp mE ea mF wh vy gG ga ab ax ay eW eV eU eC eF gE au fin aM aP aF vS y9 gg ix rr wi wj za zc zd fY iy ru wm wo ze zf
theorem adB {w:World} {X:XS} {mb:Nat} :Ct pg 139 #[.map (some mb)] w X nX fun v wa w'=> ∃bx,v= .func (.func 193) #[] #[ptr bx 0]∧bN w' (made wa w') bx [.map (some mb)] 77:=by
 intro w0 hk;apply mY;unfold iY;have hs:=aj.init w0;refine ph rfl hs.has fun bx w1 X1 fi ao bH=>?_;repeat' first|refine aG ?_;intros
 exact ai ao fun wa bD=>⟨bx,rfl,⟨fi,(bH.kp bD).lt⟩,(bH.kp bD).2⟩
theorem aau {w:World} {X A:XS} {mb bx:Nat} {α:Type} {rd:World→XS→Value→α→Prop} {l:List (ByteArray×α)} (h:fL w X A mb di rd l) (hb:bN w X bx [.map (some mb)] 77)
  (hs: ∀x∈l,x.1.size≤2^40) (hl:l.length≤2^40):
  Ct pg 138 #[.func (.func 193) #[] #[ptr bx 0]] w X nX fun v wa w'=>Own w' (made wa w') wa.heap.size 9 1 v ((yM (l.map (·.1))).map S1):=
 abK h kQ hs hl fun wa hk nn D0 lN=>
  AnyZ.keys_gives (ρ:=Tryz.Qh) { Tryz.agL with } lL _ trivial rfl zQ bx mb nn D0 wa (hb.kp hk).lt (by have:=(hb.kp hk).2;simp [World.cell?,this]) lN
theorem VR {w:World} {X F:XS} {db:Nat} {m:DM} (h:Dk w F db m) (hF:FX F X w) (hs: ∀x∈m.fs,x.1.size≤2^40) (hl:m.fs.length≤2^40):
  Ct pg 100 #[ptr db 0] w X nX fun v wa w'=>Own w' (made wa w') wa.heap.size 9 1 v ((yM (m.fs.map (·.1))).map S1):=by
 intro w0 hk;obtain⟨mb,l,h0,hz⟩:=h.mv (hF.mv hk);have hX:=fun k ah=>(hF.kp hk k ah).1;have hb:=h0.box.mv (Mv.sub hX);have hm:=h0.map.mv jx (Mv.sub hX) (A':=nX) fun _ h=>h.elim;have MZ:=h0.fs;apply JI;unfold Ag;have bE:=aj.init w0;repeat' first|refine aG ?_;intros
 refine ep adB kQ bE.has ?_;rintro _ wa w1 X1 ⟨bx,rfl,bH⟩ hle eH ao;have sd:=hm.mv jx ao.mv (A':=nX) fun _ h=>h.elim;refine ep (aau sd (bH.mono eH) (fun x hx=>hs (x.1,x.2.er) (by rw [MZ];exact List.mem_map.2 ⟨x,hx,rfl⟩)) (by rw [MZ,aA] at hl;exact hl)) kQ ao.has ?_;rintro v zr w2 X2 ho oU lx dF;have XI:=ao.kp.size;refine ai (ao.trans dF) fun P9 bD=>?_;have iH:Own w2 X2 w0.heap.size 9 1 v ((yM (l.map (·.1))).map S1):=ho.up lx zQ;have e:m.fs.map (·.1)=l.map (·.1):=by rw [MZ,dN];rfl
 rw [e];exact(iH.kp bD).tight
end Go.Proofs.YtfndblbeikocdaaGreat
namespace Go.Proofs.YtfndblbeikocdaaGreat
open Go.Proofs.Tryz renaming prog → pg
open Go.bB Go.RowKit Go.Maps Go.Sort Go.Shelf Go.Proofs
set_option maxRecDepth 100000
set_option maxHeartbeats 1000000
set_option linter.unusedVariables false
set_option linter.unusedSimpArgs false
abbrev Gs:Int→Value:=fun z=>I z
theorem Tv {P:Program} {w:World} {X:XS} {b kt c:Nat} {es:List (iD Int)} (h:jZ w X b Gs es c) (hk:P.underlying kt=some (.int .i64)) (hs: ∀x∈es,-(2^63)≤x.1∧x.1<2^63) (hl:es.length≤2^40):
  ∃D0:DataW Unit,w.ownsMap P kt RT b es.length D0∧uM D0=es.length∧(intKeys D0).Perm (es.map fun x=>x.1):=by
 have Bl:(2:Nat)^40≤maxLen:=by decide
 have abG: ∀x∈es,keyOf P kt (Gs x.1)=some (.int .i64 x.1):=fun x hx=>by
  unfold keyOf mapKey;rw [hk];have:=hs x hx;have h1:IntKind.i64.min= -(2^63):=by decide
  have h2:IntKind.i64.max=2^63-1:=by decide
  simp [Gs,Lit.wf,h1];omega
 have mG: ∀x∈es,ra P kt RT (kE Gs x)=some (.int .i64 x.1,.lit (.bool true)):=fun x hx=>by
  unfold ra kE RT;simp [abG x hx]
 have abH:(es.map (kE Gs)).map (lM P kt RT)=es.map fun x=>((.int .i64 x.1:Lit),(.lit (.bool true):DataW Unit)):=by
  rw [dN];apply gm;intro x hx;simp only [lf,lM,mG x hx,wZ]
 refine⟨.map (((es.map (kE Gs)).map (lM P kt RT)).foldr nO []),⟨_,c,h.2.1,⟨?_,⟨?_,?_,?_⟩,?_⟩,by simp,by simp⟩,?_,?_⟩
 ·simpa using af hl Bl
 ·intro x hx;simp only [eJ,qZ] at hx;obtain⟨y,hy,rfl⟩:=hx;exact h.2.2.2.2 y hy
 ·have:=h.2.2.2.1;simpa [dN,gJ,kE] using this
 ·have h1:=h.2.2.1;have e:((es.map (kE Gs)).toArray.toList.map (·.key))=(es.map (·.1)).map Gs:=by simp [dN,gJ,kE]
  rw [e];exact vD Gs (fun a b x7 e=>x7 (by cases e;rfl)) h1
 ·intro x hx;simp only [eJ,qZ] at hx;obtain⟨y,hy,rfl⟩:=hx;exact⟨_,mG y hy⟩
 ·show aq _=_
  rw [(sV _).length_eq];simp
 ·show(List.map _ _).Perm _
  refine((sV _).map _).trans ?_;rw [abH,dN];exact mu _
def ig (ks:List Int):List Int:=ks.mergeSort fun x y=>decide (x≤y)
theorem l7 (ks:List Int):(ig ks).Perm ks:=lC _ _
theorem LG (ks:List Int):(ig ks).Pairwise fun x y=>x≤y:=by
 have:=mr (le:=fun x y:Int=>decide (x≤y)) (fun a b c h1 h2=>by simp only [decide_eq_true_eq] at*;omega) (fun a b=>by simp only [Bool.or_eq_true,decide_eq_true_eq];omega) ks;exact this.imp fun h=>by simpa using h
theorem Fh: ∀{l l':List Int},l.Perm l'→l.Pairwise (fun a b=>a≤b)→l'.Pairwise (fun a b=>a≤b)→l=l'
 |[],l',hp,_,_=>(wY hp)
 |a::l,[],hp,_,_=>absurd hp.length_eq (by simp)
 |a::l,b::l',hp,h1,h2=>by
  have Sb:=List.pairwise_cons.1 h1;have h2':=List.pairwise_cons.1 h2;have x7:a=b:=by
   have ha:a∈b::l':=hp.mem_iff.1 (by simp);have hb:b∈a::l:=hp.mem_iff.2 (by simp);rcases List.mem_cons.1 ha with e|ha
   ·exact e
   ·rcases List.mem_cons.1 hb with e|hb
    ·exact e.symm
    ·have:=Sb.1 b hb;have:=h2'.1 a ha;omega
  subst x7;rw [Fh (uz hp) Sb.2 h2'.2]
theorem Tw {ks ks':List Int} (h:ks.Perm ks'):ig ks=ig ks':=Fh (((l7 ks).trans h).trans (l7 ks').symm) (LG _) (LG _)
theorem abL (m:Nat):AnyZI.SortsIn pg Tryz.KY lL m:=
  ⟨fun dP off cap ss W hH hblk fN=>callsIn_wide.2 (AnyM.slices_Sort_int Tryz.ada dP off cap ss W hH hblk fN),
   fun p cap W=>callsIn_wide.2 (AnyM.slices_Sort_int_none Tryz.ada p cap W)⟩
theorem Qo {g:FuncId} {lb:Array Value} {w:World} {X A:XS} {mb:Nat} {α:Type} {rd:World→XS→Value→α→Prop} {l:List (Int×α)} (h:fL w X A mb Gs rd l) (eg:enters pg g=true)
  (hs: ∀x∈l,-(2^63)≤x.1∧x.1<2^63) (hl:l.length≤2^40)
  (hg: ∀wa,Kp X w wa→ ∀(nn:Nat) (D0:DataW Unit),wa.ownsMap pg 3 RT mb nn D0→SeqGives lL 2 pg g lb encZ (fun ss=>ss.Perm (intKeys D0)) (uM D0) wa):
  Ct pg 46 #[.func (.func g) #[] lb] w X nX fun v wa w'=>Own w' (made wa w') wa.heap.size 3 1 v ((ig (l.map (·.1))).map I1):=by
 intro wa hk;obtain⟨es,c,h1,h2⟩:=h;have xa:=h2.keys;have hlen:es.length=l.length:=by have:=congrArg aq xa;simpa using this
 obtain⟨D0,lN,fN,Nh⟩:=Tv (P:=pg) (h1.kp hk) (kt:=3) kQ (fun x hx=>by
  have:x.1∈l.map (·.1):=by rw [←xa];exact List.mem_map.2 ⟨x,hx,rfl⟩
  obtain⟨y,hy,e⟩:=List.mem_map.1 this;rw [←e];exact hs y hy) zQ
 have Bl:(2:Nat)^40≤maxLen:=by decide
 have hS:=callsIn_wide.1 (AnyZI.sorted_in Tryz.adA lL 5 trivial trivial trivial trivial rfl zQ (abL _) (fun args w=>tj kQ args w) g lb trivial (fun args w=>tj eg args w) _ _ zQ zQ wa (hg wa hk _ D0 lN));refine hS.mono ?_;rintro e w' ⟨v,ss,rfl,hp,bH,XU,hb⟩;have hx:Ext wa w':=⟨hb.os,hb.tape,hb.output,hb.size,fun k ah _=>hb.block k ah⟩;refine⟨v,rfl,hx,?_⟩;have e1:ss.mergeSort (fun x y=>decide (x≤y))=ig (l.map (·.1)):=by
  refine Tw (hp.trans (Nh.trans ?_));rw [xa]
 have e2:((ss.mergeSort (fun x y=>decide (x≤y))).map encZ)=((ig (l.map (·.1))).map I1).flatten:=by
  rw [e1];have e3: ∀q:List Int,q.map encZ=(q.map I1).flatten:=fun q=>by
   induction q with
   |nil=>rfl
   |cons a q ih=>simp only [List.map_cons,dU,←ih];rfl
  exact e3 _
 have re:ss.length=((ig (l.map (·.1))).map I1).length:=by
  rw [aA,(l7 _).length_eq,aA,←hlen];have:=hp.length_eq;rw [this,Nh.length_eq,aA]
 refine⟨fun r hr=>by obtain⟨x,_,rfl⟩:=List.mem_map.1 hr;rfl,?_,fun q hq=>⟨?_,?_⟩⟩
 ·rw [←re,←e2];exact bH
 ·exact(bH.lt _ hq).1
 ·exact(bH.lt _ hq).2
end Go.Proofs.YtfndblbeikocdaaGreat
