/- Part 6 of the proof. -/
import Derived.Shelf.SlIter.Nil
import Derived.Shelf.SlIterI.Nil
import Derived.Shelf.SortM.Plain
import Derived.Shelf.SortM.SortNone
import Derived.Ground.GgzProg
import Derived.Ground.SlgmProg
import Derived.Ground.SlsfProg
import Derived.Shelf.SlGeneric
import Derived.Test.YtgfijddlkhkopaaGreatProg
import Derived.Test.YtgfijddlkhkopaaGreatH5
set_option linter.all false
open Go.Value renaming string → aP
open List renaming map_map → cd, length_map → af, length → bB, mergeSort_perm → ta, map_congr_left → eB, toList_toArray → cX, pairwise_mergeSort → vF, length_append → aa
open Bool renaming false_eq_true → aW
open Go.Shelf renaming Ren → iS
open Go.Fence renaming wide → gu
open Go.DataW renaming insert → vZ
open Nat renaming lt_of_lt_of_le → aw
open Go.Proofs.SlLaysZ renaming n7 → sC, n6 → FR
open List.Perm renaming refl → yv
open Go.WideElems renaming rg → ni, rd → sD
open Function renaming comp_def → jQ
open Go.World renaming cell? → fw
open Go.Builtin renaming len_ → kf, max_ → lB, max2 → sE
open Go.Proofs.SlLaysM renaming n6 → FU, n5 → FV
open Go.Proofs.SlLaysZI renaming n6 → Eu, n7 → Ev
namespace Go.Proofs
open Go.Proofs.Tryz renaming prog → pg
open Go.Shelf
def Tryz.OQ:iS:=⟨fun|6=>118|8=>172|9=>114|11=>249|13=>143|12=>170|23=>210|24=>211|14=>240|15=>241|16=>242|17=>243|18=>244|19=>245|20=>246|21=>247|22=>248|25=>311|26=>283|27=>284|28=>312|29=>313|30=>314|31=>356|n=>n,fun|26=>9|28=>216|24=>40|0=>0|3=>3|37=>263|48=>351|50=>264|4=>4|40=>344|39=>343|45=>348|5=>5|9=>9|51=>411|55=>317|57=>466|58=>467|33=>282|n=>n,fun|n=>n⟩
theorem Tryz.alb:FR pg Tryz.OQ:= {
 mixed:=by kernel_rfl
 f6:=⟨Tryz.f118.name,by decide,Tryz.func118.trans Go.aK.kS⟩
 f8:=⟨Tryz.f172.name,by decide,Tryz.func172.trans Go.aK.kS⟩
 f11:=⟨Tryz.f249.name,by decide,Tryz.func249.trans Go.aK.kS⟩
 t0:=Tryz.underlying0
 a0:=Tryz.isAgg0
 z0:=Tryz.sizeOf0
 v0:=Tryz.zeroValue0
 t24:=Tryz.underlying40
 a24:=Tryz.isAgg40
 z24:=Tryz.sizeOf40
 v24:=Tryz.zeroValue40
 t26:=Tryz.underlying9
 a26:=Tryz.isAgg9
 z26:=Tryz.sizeOf9
 v26:=Tryz.zeroValue9
 t28:=Tryz.underlying216
 a28:=Tryz.isAgg216
 z28:=Tryz.sizeOf216
 v28:=Tryz.zeroValue216
 i26:=by kernel_rfl }
def Tryz.agw:iS:=⟨fun|6=>114|8=>143|9=>170|19=>210|20=>211|21=>240|22=>241|23=>242|24=>243|25=>244|26=>245|27=>246|28=>247|29=>248|36=>311|31=>283|32=>284|37=>312|38=>313|39=>314|41=>356|n=>n,fun|27=>40|29=>9|3=>3|32=>263|26=>40|0=>0|44=>351|46=>264|4=>4|36=>344|35=>343|41=>348|5=>5|9=>9|53=>411|57=>317|63=>466|64=>467|n=>n,fun|n=>n⟩
theorem Tryz.Wa:FU pg Tryz.agw:= {
 mixed:=by kernel_rfl
 f6:=⟨Tryz.f114.name,by decide,Tryz.func114.trans Go.aK.kS⟩
 f8:=Tryz.func143.trans Go.aK.kS
 f9:=⟨Tryz.f170.name,by decide,Tryz.func170.trans Go.aK.kS⟩
 f19:=Tryz.func210.trans Go.aK.kS
 f20:=Tryz.func211.trans Go.aK.kS
 f21:=⟨Tryz.f240.name,by decide,Tryz.func240.trans Go.aK.kS⟩
 f22:=⟨Tryz.f241.name,by decide,Tryz.func241.trans Go.aK.kS⟩
 f23:=⟨Tryz.f242.name,by decide,Tryz.func242.trans Go.aK.kS⟩
 f24:=⟨Tryz.f243.name,by decide,Tryz.func243.trans Go.aK.kS⟩
 f25:=⟨Tryz.f244.name,by decide,Tryz.func244.trans Go.aK.kS⟩
 f26:=⟨Tryz.f245.name,by decide,Tryz.func245.trans Go.aK.kS⟩
 f27:=⟨Tryz.f246.name,by decide,Tryz.func246.trans Go.aK.kS⟩
 f28:=⟨Tryz.f247.name,by decide,Tryz.func247.trans Go.aK.kS⟩
 f29:=⟨Tryz.f248.name,by decide,Tryz.func248.trans Go.aK.kS⟩
 f31:=Tryz.func283.trans Go.aK.kS
 f32:=Tryz.func284.trans Go.aK.kS
 f36:=⟨Tryz.f311.name,by decide,Tryz.func311.trans Go.aK.kS⟩
 f37:=⟨Tryz.f312.name,by decide,Tryz.func312.trans Go.aK.kS⟩
 f38:=⟨Tryz.f313.name,by decide,Tryz.func313.trans Go.aK.kS⟩
 f39:=⟨Tryz.f314.name,by decide,Tryz.func314.trans Go.aK.kS⟩
 f41:=⟨Tryz.f356.name,by decide,Tryz.func356.trans Go.aK.kS⟩
 t0:=Tryz.underlying0
 a0:=Tryz.isAgg0
 z0:=Tryz.sizeOf0
 v0:=Tryz.zeroValue0
 t3:=Tryz.underlying3
 a3:=Tryz.isAgg3
 z3:=Tryz.sizeOf3
 v3:=Tryz.zeroValue3
 t4:=Tryz.underlying4
 a4:=Tryz.isAgg4
 z4:=Tryz.sizeOf4
 v4:=Tryz.zeroValue4
 t5:=Tryz.underlying5
 a5:=Tryz.isAgg5
 z5:=Tryz.sizeOf5
 v5:=Tryz.zeroValue5
 t9:=Tryz.underlying9
 a9:=Tryz.isAgg9
 z9:=Tryz.sizeOf9
 v9:=Tryz.zeroValue9
 t26:=Tryz.underlying40
 a26:=Tryz.isAgg40
 z26:=Tryz.sizeOf40
 v26:=Tryz.zeroValue40
 t27:=Tryz.underlying40
 a27:=Tryz.isAgg40
 z27:=Tryz.sizeOf40
 v27:=Tryz.zeroValue40
 t29:=Tryz.underlying9
 a29:=Tryz.isAgg9
 z29:=Tryz.sizeOf9
 v29:=Tryz.zeroValue9
 t32:=Tryz.underlying263
 a32:=Tryz.isAgg263
 z32:=Tryz.sizeOf263
 v32:=Tryz.zeroValue263
 t35:=Tryz.underlying343
 a35:=Tryz.isAgg343
 z35:=Tryz.sizeOf343
 v35:=Tryz.zeroValue343
 t36:=Tryz.underlying344
 a36:=Tryz.isAgg344
 z36:=Tryz.sizeOf344
 v36:=Tryz.zeroValue344
 t41:=Tryz.underlying348
 a41:=Tryz.isAgg348
 z41:=Tryz.sizeOf348
 v41:=Tryz.zeroValue348
 t44:=Tryz.underlying351
 a44:=Tryz.isAgg351
 z44:=Tryz.sizeOf351
 v44:=Tryz.zeroValue351
 t46:=Tryz.underlying264
 a46:=Tryz.isAgg264
 z46:=Tryz.sizeOf264
 v46:=Tryz.zeroValue264
 t53:=Tryz.underlying411
 a53:=Tryz.isAgg411
 z53:=Tryz.sizeOf411
 v53:=Tryz.zeroValue411
 t57:=Tryz.underlying317
 a57:=Tryz.isAgg317
 z57:=Tryz.sizeOf317
 v57:=Tryz.zeroValue317
 t63:=Tryz.underlying466
 a63:=Tryz.isAgg466
 z63:=Tryz.sizeOf466
 v63:=Tryz.zeroValue466
 t64:=Tryz.underlying467
 a64:=Tryz.isAgg467
 z64:=Tryz.sizeOf467
 v64:=Tryz.zeroValue467 }
def Tryz.OR:iS:=⟨fun|6=>120|8=>174|9=>175|11=>250|13=>143|12=>251|23=>210|24=>211|14=>315|15=>316|16=>317|17=>318|18=>319|19=>320|20=>321|21=>322|22=>323|25=>357|26=>283|27=>284|28=>358|29=>359|30=>360|31=>368|n=>n,fun|26=>3|28=>220|24=>43|0=>0|3=>3|37=>263|48=>351|50=>264|4=>4|40=>344|39=>343|45=>348|5=>5|9=>9|51=>411|55=>317|57=>466|58=>467|33=>190|n=>n,fun|n=>n⟩
theorem Tryz.alc:Eu pg Tryz.OR:= {
 mixed:=by kernel_rfl
 f6:=⟨Tryz.f120.name,by decide,Tryz.func120.trans Go.aK.kS⟩
 f8:=⟨Tryz.f174.name,by decide,Tryz.func174.trans Go.aK.kS⟩
 f11:=⟨Tryz.f250.name,by decide,Tryz.func250.trans Go.aK.kS⟩
 t0:=Tryz.underlying0
 a0:=Tryz.isAgg0
 z0:=Tryz.sizeOf0
 v0:=Tryz.zeroValue0
 t24:=Tryz.underlying43
 a24:=Tryz.isAgg43
 z24:=Tryz.sizeOf43
 v24:=Tryz.zeroValue43
 t26:=Tryz.underlying3
 a26:=Tryz.isAgg3
 z26:=Tryz.sizeOf3
 v26:=Tryz.zeroValue3
 t28:=Tryz.underlying220
 a28:=Tryz.isAgg220
 z28:=Tryz.sizeOf220
 v28:=Tryz.zeroValue220
 i26:=by kernel_rfl }
def Tryz.agx:iS:=⟨fun|5=>175|8=>143|7=>251|19=>210|20=>211|10=>315|11=>316|12=>317|13=>318|14=>319|15=>320|16=>321|17=>322|18=>323|30=>357|31=>283|32=>284|33=>358|34=>359|35=>360|40=>368|n=>n,fun|23=>43|25=>3|3=>3|32=>263|22=>43|0=>0|44=>351|46=>264|4=>4|36=>344|35=>343|41=>348|5=>5|9=>9|53=>411|57=>317|63=>466|64=>467|n=>n,fun|n=>n⟩
theorem Tryz.ajY:FV pg Tryz.agx:= {
 mixed:=by kernel_rfl
 f5:=⟨Tryz.f175.name,by decide,Tryz.func175.trans Go.aK.kS⟩
 f7:=⟨Tryz.f251.name,by decide,Tryz.func251.trans Go.aK.kS⟩
 f8:=Tryz.func143.trans Go.aK.kS
 f10:=⟨Tryz.f315.name,by decide,Tryz.func315.trans Go.aK.kS⟩
 f11:=⟨Tryz.f316.name,by decide,Tryz.func316.trans Go.aK.kS⟩
 f12:=⟨Tryz.f317.name,by decide,Tryz.func317.trans Go.aK.kS⟩
 f13:=⟨Tryz.f318.name,by decide,Tryz.func318.trans Go.aK.kS⟩
 f14:=⟨Tryz.f319.name,by decide,Tryz.func319.trans Go.aK.kS⟩
 f15:=⟨Tryz.f320.name,by decide,Tryz.func320.trans Go.aK.kS⟩
 f16:=⟨Tryz.f321.name,by decide,Tryz.func321.trans Go.aK.kS⟩
 f17:=⟨Tryz.f322.name,by decide,Tryz.func322.trans Go.aK.kS⟩
 f18:=⟨Tryz.f323.name,by decide,Tryz.func323.trans Go.aK.kS⟩
 f19:=Tryz.func210.trans Go.aK.kS
 f20:=Tryz.func211.trans Go.aK.kS
 f30:=⟨Tryz.f357.name,by decide,Tryz.func357.trans Go.aK.kS⟩
 f31:=Tryz.func283.trans Go.aK.kS
 f32:=Tryz.func284.trans Go.aK.kS
 f33:=⟨Tryz.f358.name,by decide,Tryz.func358.trans Go.aK.kS⟩
 f34:=⟨Tryz.f359.name,by decide,Tryz.func359.trans Go.aK.kS⟩
 f35:=⟨Tryz.f360.name,by decide,Tryz.func360.trans Go.aK.kS⟩
 f40:=⟨Tryz.f368.name,by decide,Tryz.func368.trans Go.aK.kS⟩
 t0:=Tryz.underlying0
 a0:=Tryz.isAgg0
 z0:=Tryz.sizeOf0
 v0:=Tryz.zeroValue0
 t3:=Tryz.underlying3
 a3:=Tryz.isAgg3
 z3:=Tryz.sizeOf3
 v3:=Tryz.zeroValue3
 t4:=Tryz.underlying4
 a4:=Tryz.isAgg4
 z4:=Tryz.sizeOf4
 v4:=Tryz.zeroValue4
 t5:=Tryz.underlying5
 a5:=Tryz.isAgg5
 z5:=Tryz.sizeOf5
 v5:=Tryz.zeroValue5
 t9:=Tryz.underlying9
 a9:=Tryz.isAgg9
 z9:=Tryz.sizeOf9
 v9:=Tryz.zeroValue9
 t22:=Tryz.underlying43
 a22:=Tryz.isAgg43
 z22:=Tryz.sizeOf43
 v22:=Tryz.zeroValue43
 t23:=Tryz.underlying43
 a23:=Tryz.isAgg43
 z23:=Tryz.sizeOf43
 v23:=Tryz.zeroValue43
 t25:=Tryz.underlying3
 a25:=Tryz.isAgg3
 z25:=Tryz.sizeOf3
 v25:=Tryz.zeroValue3
 t32:=Tryz.underlying263
 a32:=Tryz.isAgg263
 z32:=Tryz.sizeOf263
 v32:=Tryz.zeroValue263
 t35:=Tryz.underlying343
 a35:=Tryz.isAgg343
 z35:=Tryz.sizeOf343
 v35:=Tryz.zeroValue343
 t36:=Tryz.underlying344
 a36:=Tryz.isAgg344
 z36:=Tryz.sizeOf344
 v36:=Tryz.zeroValue344
 t41:=Tryz.underlying348
 a41:=Tryz.isAgg348
 z41:=Tryz.sizeOf348
 v41:=Tryz.zeroValue348
 t44:=Tryz.underlying351
 a44:=Tryz.isAgg351
 z44:=Tryz.sizeOf351
 v44:=Tryz.zeroValue351
 t46:=Tryz.underlying264
 a46:=Tryz.isAgg264
 z46:=Tryz.sizeOf264
 v46:=Tryz.zeroValue264
 t53:=Tryz.underlying411
 a53:=Tryz.isAgg411
 z53:=Tryz.sizeOf411
 v53:=Tryz.zeroValue411
 t57:=Tryz.underlying317
 a57:=Tryz.isAgg317
 z57:=Tryz.sizeOf317
 v57:=Tryz.zeroValue317
 t63:=Tryz.underlying466
 a63:=Tryz.isAgg466
 z63:=Tryz.sizeOf466
 v63:=Tryz.zeroValue466
 t64:=Tryz.underlying467
 a64:=Tryz.isAgg467
 z64:=Tryz.sizeOf467
 v64:=Tryz.zeroValue467 }
def Tryz.U3:iS:=⟨fun|7=>119|10=>173|n=>n,fun|23=>109|26=>9|3=>150|28=>216|0=>0|27=>215|33=>282|4=>4|n=>n,fun|n=>n⟩
theorem Tryz.api:sC pg Tryz.U3:= {
 mixed:=by kernel_rfl
 f7:=⟨Tryz.f119.name,by decide,Tryz.func119.trans Go.aK.kS⟩
 f10:=⟨Tryz.f173.name,by decide,Tryz.func173.trans Go.aK.kS⟩
 t0:=Tryz.underlying0
 a0:=Tryz.isAgg0
 z0:=Tryz.sizeOf0
 v0:=Tryz.zeroValue0
 t4:=Tryz.underlying4
 a4:=Tryz.isAgg4
 z4:=Tryz.sizeOf4
 v4:=Tryz.zeroValue4
 t23:=Tryz.underlying109
 a23:=Tryz.isAgg109
 z23:=Tryz.sizeOf109
 v23:=Tryz.zeroValue109
 t26:=Tryz.underlying9
 a26:=Tryz.isAgg9
 z26:=Tryz.sizeOf9
 v26:=Tryz.zeroValue9
 t27:=Tryz.underlying215
 a27:=Tryz.isAgg215
 z27:=Tryz.sizeOf215
 v27:=Tryz.zeroValue215
 t28:=Tryz.underlying216
 a28:=Tryz.isAgg216
 z28:=Tryz.sizeOf216
 v28:=Tryz.zeroValue216
 t33:=Tryz.underlying282
 a33:=Tryz.isAgg282
 z33:=Tryz.sizeOf282
 v33:=Tryz.zeroValue282 }
def Tryz.U5:iS:=⟨fun|7=>169|10=>239|n=>n,fun|23=>287|26=>9|3=>97|28=>216|0=>0|27=>215|33=>282|4=>4|n=>n,fun|n=>n⟩
theorem Tryz.apj:sC pg Tryz.U5:= {
 mixed:=by kernel_rfl
 f7:=⟨Tryz.f169.name,by decide,Tryz.func169.trans Go.aK.kS⟩
 f10:=⟨Tryz.f239.name,by decide,Tryz.func239.trans Go.aK.kS⟩
 t0:=Tryz.underlying0
 a0:=Tryz.isAgg0
 z0:=Tryz.sizeOf0
 v0:=Tryz.zeroValue0
 t4:=Tryz.underlying4
 a4:=Tryz.isAgg4
 z4:=Tryz.sizeOf4
 v4:=Tryz.zeroValue4
 t23:=Tryz.underlying287
 a23:=Tryz.isAgg287
 z23:=Tryz.sizeOf287
 v23:=Tryz.zeroValue287
 t26:=Tryz.underlying9
 a26:=Tryz.isAgg9
 z26:=Tryz.sizeOf9
 v26:=Tryz.zeroValue9
 t27:=Tryz.underlying215
 a27:=Tryz.isAgg215
 z27:=Tryz.sizeOf215
 v27:=Tryz.zeroValue215
 t28:=Tryz.underlying216
 a28:=Tryz.isAgg216
 z28:=Tryz.sizeOf216
 v28:=Tryz.zeroValue216
 t33:=Tryz.underlying282
 a33:=Tryz.isAgg282
 z33:=Tryz.sizeOf282
 v33:=Tryz.zeroValue282 }
def Tryz.U6:iS:=⟨fun|7=>231|10=>306|n=>n,fun|23=>370|26=>9|3=>3|28=>216|0=>0|27=>215|33=>282|4=>4|n=>n,fun|n=>n⟩
theorem Tryz.apk:sC pg Tryz.U6:= {
 mixed:=by kernel_rfl
 f7:=⟨Tryz.f231.name,by decide,Tryz.func231.trans Go.aK.kS⟩
 f10:=⟨Tryz.f306.name,by decide,Tryz.func306.trans Go.aK.kS⟩
 t0:=Tryz.underlying0
 a0:=Tryz.isAgg0
 z0:=Tryz.sizeOf0
 v0:=Tryz.zeroValue0
 t4:=Tryz.underlying4
 a4:=Tryz.isAgg4
 z4:=Tryz.sizeOf4
 v4:=Tryz.zeroValue4
 t23:=Tryz.underlying370
 a23:=Tryz.isAgg370
 z23:=Tryz.sizeOf370
 v23:=Tryz.zeroValue370
 t26:=Tryz.underlying9
 a26:=Tryz.isAgg9
 z26:=Tryz.sizeOf9
 v26:=Tryz.zeroValue9
 t27:=Tryz.underlying215
 a27:=Tryz.isAgg215
 z27:=Tryz.sizeOf215
 v27:=Tryz.zeroValue215
 t28:=Tryz.underlying216
 a28:=Tryz.isAgg216
 z28:=Tryz.sizeOf216
 v28:=Tryz.zeroValue216
 t33:=Tryz.underlying282
 a33:=Tryz.isAgg282
 z33:=Tryz.sizeOf282
 v33:=Tryz.zeroValue282 }
def Tryz.U7:iS:=⟨fun|7=>164|10=>230|n=>n,fun|23=>281|26=>3|3=>40|28=>220|0=>0|27=>219|33=>190|4=>4|n=>n,fun|n=>n⟩
theorem Tryz.apl:Ev pg Tryz.U7:= {
 mixed:=by kernel_rfl
 f7:=⟨Tryz.f164.name,by decide,Tryz.func164.trans Go.aK.kS⟩
 f10:=⟨Tryz.f230.name,by decide,Tryz.func230.trans Go.aK.kS⟩
 t0:=Tryz.underlying0
 a0:=Tryz.isAgg0
 z0:=Tryz.sizeOf0
 v0:=Tryz.zeroValue0
 t4:=Tryz.underlying4
 a4:=Tryz.isAgg4
 z4:=Tryz.sizeOf4
 v4:=Tryz.zeroValue4
 t23:=Tryz.underlying281
 a23:=Tryz.isAgg281
 z23:=Tryz.sizeOf281
 v23:=Tryz.zeroValue281
 t26:=Tryz.underlying3
 a26:=Tryz.isAgg3
 z26:=Tryz.sizeOf3
 v26:=Tryz.zeroValue3
 t27:=Tryz.underlying219
 a27:=Tryz.isAgg219
 z27:=Tryz.sizeOf219
 v27:=Tryz.zeroValue219
 t28:=Tryz.underlying220
 a28:=Tryz.isAgg220
 z28:=Tryz.sizeOf220
 v28:=Tryz.zeroValue220
 t33:=Tryz.underlying190
 a33:=Tryz.isAgg190
 z33:=Tryz.sizeOf190
 v33:=Tryz.zeroValue190 }
end Go.Proofs
namespace Go.Proofs.YtgfijddlkhkopaaGreat
open Go.Proofs.Tryz renaming prog → pg
open Go.aK Go.RowKit Go.Maps Go.Sort Go.Shelf Go.Proofs
set_option maxRecDepth 100000
set_option maxHeartbeats 4000000
variable {H : Type}
theorem insert_perm (x:Lit×DataW H): ∀l:List (Lit×DataW H),(vZ x l).Perm (x::l)
 |[]=>yv _
 |y::r=>by
  unfold vZ;split
  ·exact yv _
  ·exact((insert_perm x r).cons y).trans (List.Perm.swap x y r)
theorem yw: ∀l:List (Lit×DataW H),(l.foldr vZ []).Perm l
 |[]=>yv _
 |x::l=>(insert_perm x _).trans ((yw l).cons x)
def RT:Value->Option (DataW Unit×List MemPlace):=λ_=>some (.lit (.bool true),[])
variable {b kt : Nat} {X : XS} {w : World} {P : Program}
theorem abx {c:Nat} {es:List (jy ByteArray)} (h:mH w X b aP es c) (hk:P.underlying kt=some .string) (hs: ∀x∈es,x.1.size<=2^40) (hl:es.length<=2^40):
  ∃D0:DataW Unit,w.ownsMap P kt RT b es.length D0/\Maps.size D0=es.length/\(strKeys D0).Perm (es.map λx=>x.1.data.toList):=by
 have HJ:(2:Nat)^40<=maxLen:=by decide
 have iO: ∀x∈es,keyOf P kt (.string x.1)=some (.string x.1.data.toList):=λx hx=>by
  unfold keyOf mapKey;rw[hk]
  grind
 have jE: ∀x∈es,sD P kt RT (lS aP x)=some (.string x.1.data.toList,.lit (.bool true)):=λx hx=>by grind [sD,lS,RT]
 have ai9:(es.map (lS aP)).map (ni P kt RT)=es.map λx=>((.string x.1.data.toList:Lit),(.lit (.bool true):DataW Unit)):=by
  rw[cd];apply eB;intro x hx;simp only[Function.comp,ni,jE x hx,Option.getD_some]
 refine⟨.map (((es.map (lS aP)).map (ni P kt RT)).foldr vZ []),⟨_,c,h.2.1,⟨?_,⟨?_,?_,?_⟩,?_⟩,by simp,by simp⟩,?_,?_⟩
 ·grind
 ·intro x hx;simp only[cX,List.mem_map] at hx;obtain⟨y,hy,rfl⟩:=hx;exact h.2.2.2.2 y hy
 ·have:=h.2.2.2.1;simpa [cd,jQ,lS] using this
 ·have h1:=h.2.2.1;have e:((es.map (lS aP)).toArray.toList.map (·.key))=(es.map (·.1)).map aP:=by simp[cd,jQ,lS]
  rw[e];exact List.Pairwise.map aP (λa b xg e=>xg (by cases e;rfl)) h1
 ·intro x hx;simp only[cX,List.mem_map] at hx;obtain⟨y,hy,rfl⟩:=hx;exact⟨_,jE y hy⟩
 ·show bB _=_
  rw[(yw _).length_eq];simp
 ·show(List.map _ _).Perm _
  refine((yw _).map _).trans ?_;rw[ai9,cd];rfl
def leB (x y:List UInt8):Bool:=decide (x<=y)
def bl (s:ByteArray):List UInt8:=s.data.toList
theorem apm (s:ByteArray):(⟨(bl s).toArray⟩:ByteArray)=s:=by rfl
def fT (ks:List ByteArray):List ByteArray:=((ks.map bl).mergeSort leB).map λx=>⟨x.toArray⟩
theorem U9: ∀a b c:List UInt8,leB a b=true->leB b c=true->leB a c=true:=λa b c h1 h2=>by
 unfold leB at*
 grind
theorem Va: ∀a b:List UInt8,(leB a b||leB b a)=true:=λa b=>by grind [leB]
theorem aja: ∀a b:List UInt8,leB a b=true->leB b a=true->a=b:=λa b h1 h2=>by
 unfold leB at*
 grind
theorem Vb: ∀{l l':List (List UInt8)},l.Perm l'->l.Pairwise (λa b=>leB a b=true)->l'.Pairwise (λa b=>leB a b=true)->l=l'
 |[],l',hp,_,_=>(List.Perm.nil_eq hp)
 |a::l,[],hp,_,_=>absurd hp.length_eq sQ
 |a::l,b::l',hp,h1,h2=>by
  have KJ:=List.pairwise_cons.1 h1;have h2':=List.pairwise_cons.1 h2;have xg:a=b:=by
   have ha:a∈b::l':=hp.mem_iff.1 sQ;have hb:b∈a::l:=hp.mem_iff.2 sQ;rcases List.mem_cons.1 ha with e|ha
   ·exact e
   ·rcases List.mem_cons.1 hb with e|hb
    ·exact e.symm
    ·exact aja a b (KJ.1 b hb) (h2'.1 a ha)
  subst xg;rw[Vb (List.Perm.cons_inv hp) KJ.2 h2'.2]
theorem Vc {l l':List (List UInt8)} (h:l.Perm l'):l.mergeSort leB=l'.mergeSort leB:=
 Vb (((ta l leB).trans h).trans (ta l' leB).symm) (vF U9 Va l) (vF U9 Va l')
theorem kU (ks:List ByteArray):(fT ks).Perm ks:=by
 have h:=(ta (ks.map bl) leB).map λx=>(⟨x.toArray⟩:ByteArray);rw[cd] at h;have e:(ks.map ((λx=>(⟨x.toArray⟩:ByteArray))∘bl))=ks:=by
  conv=>rhs;rw[<-List.map_id ks]
  apply eB;intro x _;exact apm x
 rw[e] at h;exact h
theorem ahW {ks ks':List ByteArray} (h:ks.Perm ks'):fT ks=fT ks':=by grind [fT,Vc]
def ajb (m:Nat):AnyZ.SortsIn pg Tryz.OQ gu m:=
  ⟨λfv off cap ss W hH hblk gh=>callsIn_wide.2 (AnyM.slices_Sort_string Tryz.Wa fv off cap ss W hH hblk gh),
   λp cap W=>callsIn_wide.2 (AnyM.slices_Sort_string_none Tryz.Wa p cap W)⟩
variable {mb : Nat} {A : XS}
theorem PY {g:FuncId} {lb:Array Value} {α:Type} {rd:World->XS->Value->α->Prop} {l:List (ByteArray×α)} (h:dS w X A mb aP rd l) (eg:enters pg g=true)
  (hs: ∀x∈l,x.1.size<=2^40) (hl:l.length<=2^40)
  (hg: ∀wa,Kp X w wa-> ∀(nn:Nat) (D0:DataW Unit),wa.ownsMap pg 9 RT mb nn D0->SeqGives gu 2 pg g lb encStr (λss=>ss.Perm (strKeys D0)) (Maps.size D0) wa):
  Ct pg 118 #[.func (.func g) #[] lb] w X nX λv wa w'=>Own w' (made wa w') wa.heap.size 9 1 v ((fT (l.map (·.1))).map S1):=by
 intro wa hk;obtain⟨es,c,h1,h2⟩:=h;have CI:=h2.keys;have hlen:es.length=l.length:=by have:=congrArg bB CI;simpa using this
 obtain⟨D0,xP,gh,RX⟩:=abx (P:=pg) (h1.kp hk) (kt:=9) kQ (λx hx=>by
  have:x.1∈l.map (·.1):=by rw[<-CI];exact List.mem_map.2 ⟨x,hx,rfl⟩
  obtain⟨y,hy,e⟩:=List.mem_map.1 this
  grind) zQ
 have HJ:(2:Nat)^40<=maxLen:=by decide
 have hS:=callsIn_wide.1 (AnyZ.sorted_in Tryz.alb gu 5 trivial trivial trivial trivial rfl zQ (ajb _) (λargs w=>pG kQ args w) g lb trivial (λargs w=>pG eg args w) _ _ zQ zQ wa (hg wa hk _ D0 xP));refine hS.mono ?_;rintro e w' ⟨v,ss,rfl,hp,bt,ahT,hb⟩;have hx:Ext wa w':=⟨hb.os,hb.tape,hb.output,hb.size,λk ah _=>hb.block k ah⟩;refine⟨v,rfl,hx,?_⟩;have e1:ss.mergeSort (λx y=>decide (x<=y))=(l.map λx=>bl x.1).mergeSort leB:=by
  have hp2:ss.Perm (l.map λx=>bl x.1):=by
   refine hp.trans (RX.trans ?_);have:(es.map λx=>x.1.data.toList)=(l.map λx=>bl x.1):=by
    have:=congrArg (List.map bl) CI;simpa [cd,jQ,bl] using this
   rw[this]
  exact Vc hp2
 have e2:((ss.mergeSort (λx y=>decide (x<=y))).map encStr)=((fT (l.map (·.1))).map S1).flatten:=by
  rw[e1];unfold fT;rw[cd,cd];have e3: ∀q:List (List UInt8),q.map encStr=(q.map (S1∘λx=>(⟨x.toArray⟩:ByteArray))).flatten:=λq=>by
   induction q with
   |nil=>rfl
   |cons a q ih=>simp only[List.map_cons,List.flatten_cons,<-ih];rfl
  exact e3 _
 have sO:ss.length=((fT (l.map (·.1))).map S1).length:=by
  rw[af,(kU _).length_eq,af,<-hlen];have:=hp.length_eq;rw[this,RX.length_eq,af]
 refine⟨λr hr=>by obtain⟨x,_,rfl⟩:=List.mem_map.1 hr;rfl,?_,λq hq=>⟨?_,?_⟩⟩
 ·rw[<-sO,<-e2];exact bt
 ·exact(bt.lt _ hq).1
 ·exact(bt.lt _ hq).2
attribute [local irreducible] un jn jh ji ld1 jt st1 nW mP pN sR qj JG ET gT rY aY nU nV eW eV eU eC eF gE nB fin jl bC dF vS N9 JH JI HP JJ JK Oa Ob JL Oc Gi Gj JM JN JO Od Oe JP
variable {R : Ending -> World -> Prop} {w0 : World} {F F0 G : XS} {db o' t z : Nat} {m : DM} {N : Value -> Prop}
section
variable {l : List (ByteArray × nD)}
theorem anQ {κ α:Type} [DecidableEq κ] {ty et:Nat} {kv:κ->Value} {rd:World->XS->Value->α->Prop} {l:List (κ×α)} (h:dS w X A b kv rd l) (ht:P.underlying t=some (.map kt et))
  (n:N (I l.length)):aY P X w (kf #[t] ty #[.map (some b)]) N:=by
 obtain⟨es,c,h1,h2⟩:=h;refine HK (I l.length) (λwa hk=>?_) n;have hl:es.length=l.length:=by have:=congrArg bB h2.keys;simpa using this
 simp[kf,run_underlying ht,getObj,Sem.run,((h1.kp hk).2.1),goInt,hl]
theorem apn {t ty:TypeId} {a b:Int} (h:N (I (max a b))):aY P X w (lB #[t,t] ty #[I a,I b]) N:=
 bK (λwa=>by
  simp only[lB,List.foldlM];by_cases hc:a<b
  ·have:max a b=b:=by omega
   simp[sE,hc,this]
  ·have:max a b=a:=by omega
   simp[sE,hc,this]) h
def agy {t:TypeId} {a b:Int} (h:N (.int .i64 (IntKind.i64.wrap (a+b)))):aY P X w (binOp .add t (.int .i64 a) (.int .i64 b)) N:=oG h
theorem ya {N:Value->World->XS->Prop} {o:Nat} {v:Value} (hT:Ft w0 F0 w X F) (h:oJ w G db mb l m z) (hG: ∀k,G k->F k) (m':DM) (z':Nat) (Mm:o'=o) (ht:((P.info? t).map (·.size))=some 1) (ho:o+1<=5) (h1:aK.one v=true)
  (hc:bM [.map (some mb),I z,I m.wr,I m.ar,B m.dn] o [v]=[.map (some mb),I z',I m'.wr,I m'.ar,B m'.dn]) (OC:m'.fs=m.fs) (har:m'.ar<2^63)
  (n: ∀w' X',Ft w0 F0 w' X' F->oJ w' G db mb l m' z'->dY (· =db) X w X' w'->N undef w' X'):eU P R X w true (st1 t 1 (ptr db o') v) N:=by
 subst Mm;have hX: ∀k,G k->X k:=λk hk=>hT.bg k (hG k hk);have hv:v.cells= #[v]:=rG h1;refine CV (h.box.mv (Mv.sub hX)) ht ho (by rw[hv];rfl) (by rw[hv];simp[h1]) hT.s.has λw' X' c hr=>?_;rw[hv] at hr;rw[hc] at hr;exact n w' X' (hT.dT c (λk hk=>by subst hk;exact hG _ h.box.1) λk hk=>.inl hk) (h.anP hX c hr OC har) c
end
variable {n : ByteArray}
theorem tt {l:List (ByteArray×nD)} (hm:dS w X nX mb aP OP l) (n1: ∀f,getM n l=some f->N (ptr f.b 0)) (n0:getM n l=none->N (.pointer none)):
  aY pg X w (Instr.lookup 109 (.map (some mb)) (.string n) false) N:=
 nr (kt:=9) (et:=150) (.pointer none) hm (I2 kQ) kQ kQ (λv f h1 h2=>by
  have h2:v=ptr f.b 0:=h2;subst h2;exact n1 f h1) n0
theorem OS {l:List (ByteArray×nD)} (h:oJ w F db mb l m z) (hF:FX F X w) (jT:m.dn=false):
  Ct pg 280 #[ptr db 0] w X F λv wa w'=>v=B m.tick.dn/\oJ w' F db mb l m.tick z:=by
 intro w0 hk;have h0:=h.mv (hF.mv hk);have hT:=hF.ft hk;clear h;have har:=h0.ar;refine NM.1 λ_=>?_;have hb:=h0.box.mv (Mv.sub hT.bg);rw[jT] at hb;have oc: ∀k,F k->F k:=λ_ h=>h;refine cK ?_;repeat' first|refine aq ?_;intros|refine dg ?_ ?_<;>intros|with_reducible apply cK
 ·refine ya hT h0 oc { m with ar:=m.ar-1 } z (o:=3) zQ kQ zQ rfl (by rw[show((m.ar-1:Nat):Int)=(m.ar:Int)-1 by omega];rfl) rfl (by show m.ar-1<_;omega) λw1 X1 hT h1 c1=>?_;clear hb h0;have hb:=h1.box.mv (Mv.sub hT.bg);repeat' first|refine aq ?_;intros|refine dg ?_ ?_<;>intros
  ·refine ya hT h1 oc { m with ar:=m.ar-1,dn:=true } z (o:=4) zQ kQ zQ rfl rfl rfl h1.ar λw1 X1 hT h2 c1=>?_;clear hb h1;have hb:=h2.box.mv (Mv.sub hT.bg);have q':((m.ar-1:Nat):Int)=0:=by assumption
   have sj:m.ar=1:=by omega
   repeat' first|refine aq ?_;intros|with_reducible apply cK
   refine hT.fin λwa aL=>⟨by rw[DM.tick,if_pos sj],?_⟩;rw[DM.tick,if_pos sj];rw[show m.ar-1=0 by omega] at h2;exact h2.mv (aL.jj hT.bg)
  ·refine ya hT h1 oc { m with ar:=m.ar-1,dn:=false } z (o:=4) zQ kQ zQ rfl rfl rfl h1.ar λw1 X1 hT h2 c1=>?_;clear hb h1;have hb:=h2.box.mv (Mv.sub hT.bg);have q': ¬((m.ar-1:Nat):Int)=0:=by assumption
   have sj: ¬m.ar=1:=by omega
   repeat' first|refine aq ?_;intros|with_reducible apply cK|(with_reducible apply agy)
   refine ya hT h2 oc { m with ar:=m.ar-1,dn:=false,wr:=IntKind.i64.wrap (m.wr+1) } z (o:=2) zQ kQ zQ rfl rfl rfl h2.ar λw1 X1 hT h3 c1=>?_;clear hb h2;have hb:=h3.box.mv (Mv.sub hT.bg);repeat' refine aq ?_;intros
   refine hT.fin λwa aL=>⟨by rw[DM.tick,if_neg sj,jT],?_⟩;rw[DM.tick,if_neg sj];have h4:=h3.mv (aL.jj hT.bg);rw[<-jT] at h4;exact h4
 ·have sj: ¬m.ar=1:=by omega
  have ha0:m.ar-1=m.ar:=by omega
  repeat' first|refine aq ?_;intros|(with_reducible apply agy)
  refine ya hT h0 oc { m with wr:=IntKind.i64.wrap (m.wr+1) } z (o:=2) zQ kQ zQ rfl rfl rfl h0.ar λw1 X1 hT h3 c1=>?_;clear hb h0;have hb:=h3.box.mv (Mv.sub hT.bg);rw[jT] at hb;repeat' refine aq ?_;intros
  refine hT.fin λwa aL=>⟨by rw[DM.tick,if_neg sj,jT],?_⟩;rw[DM.tick,if_neg sj,ha0];exact h3.mv (aL.jj hT.bg)
theorem aby (n:ByteArray):Pure pg 255 #[.string n] (B (wC n)):=by
 intro w0;refine ZG.1 λhs=>?_;repeat' first|refine aq ?_;intros|refine dg ?_ ?_<;>intros|(with_reducible refine fE hs ?_);(simp_all [wC]<;>omega)
theorem ad9:Ct pg 35 #[] w X nX λv wa w'=> ∃db,v=ptr db 0/\Dk w' (made wa w') db ⟨[],0,0,false⟩:=by
 intro w0 hk;refine abf.1 λhs=>?_;refine rL (kv:=aP) OP nX hs.has λmb w1 X1 hmb aB pV=>?_;replace hs:=hs.trans aB;refine aeu kQ ?_;refine Bj hs.has λbx w2 X2 gn bH bt=>?_;have rO:=pV.mv mr bH.mv (λ_ h=>h.elim) (A':=nX);have hz:=hs.kp.size;refine cH (hs.trans bH) λwa aL=>⟨bx,rfl,mb,[],⟨rfl,⟨⟨by omega,(bt.kp aL).lt⟩,(bt.kp aL).2⟩,?_,by simp,by simp,List.Pairwise.nil,by decide,by simp⟩,by decide⟩;exact rO.own.mv mr (Mv.one aL rO.x.1 ⟨hmb,aw rO.x.2 aL.size⟩) λ_ h=>h.elim
theorem aa1 (h:Dk w F db m) (hF:FX F X w):Ct pg 125 #[ptr db 0] w X nX λv wa w'=>v=B m.dn:=by
 intro w0 hk;obtain⟨mb,l,h0,hz⟩:=h.mv (hF.mv hk);have hb:=h0.box.mv (Mv.sub λk ah=>(hF.kp hk k ah).1);refine NH.1 λhs=>?_;repeat' first|refine aq ?_;intros|(refine qr ?_;intro wa hk;rfl)
theorem QS (h:Dk w F db m) (hF:FX F X w):Ct pg 258 #[ptr db 0,.string n] w X nX λv wa w'=>v=I (if(m.get n).isSome then 0 else 8):=by
 intro w0 hk;obtain⟨mb,l,h0,hz⟩:=h.mv (hF.mv hk);have hX:=λk ah=>(hF.kp hk k ah).1;have hb:=h0.box.mv (Mv.sub hX);have hg:=h0.get n;have hm:=h0.map.mv mr (Mv.sub hX) (A':=nX) λ_ h=>h.elim;refine PN.1 λhs=>?_;repeat' refine aq ?_;intros
 refine tt hm (λf h1=>?_) λh1=>?_
 ·repeat' first|refine aq ?_;intros|(refine qr ?_;intro wa hk;(rw[hg,h1];rfl))
 ·repeat' first|refine aq ?_;intros|(refine qr ?_;intro wa hk;(rw[hg,h1];rfl))
theorem Fa {f:Nat} {c:List Value} {e:Nat} {g:DM->DM} (h:Dk w F db m) (hF:FX F X w) (hA: ∀k,A k->X k/\k<w.heap.size/\ ¬F k) (hf:enters pg f=true)
  (hdo:e=0-> ∀w1 X1,Mv A w A w1->(∀k,A k->X1 k)->FX F X1 w1->Dk w1 F db m.tick->Ct pg f c.toArray w1 X1 F λv wa w'=>v= .tuple #[]/\ ∃F',(∀k,F' k->F k\/made wa w' k)/\Dk w' F' db (g m.tick)):
  Ct pg 256 #[ptr db 0,I e,.func (.func f) #[] c.toArray] w X F λv wa w'=>v=I (m.write e g).2/\ ∃F',(∀k,F' k->F k\/made wa w' k)/\Dk w' F' db (m.write e g).1:=by
 intro w0 hk;obtain⟨mb,l,h0,hz⟩:=h.mv (hF.mv hk);have hT:=hF.ft hk;have oK:FX F (bP w0) w0:=hF.kp hk;have hAm:Mv A w A w0:=λk ah _=>⟨ah,hk.block k (hA k ah).1⟩;have hb:=h0.box.mv (Mv.sub hT.bg);have hs:=ai.init w0;have stay: ∀{w1 X1} (m':DM),Ft w0 F w1 X1 F->oJ w1 F db mb l m' m'.sz->m'.sz<=4194304-> ∀wa,Kp X1 w1 wa-> ∃F',(∀k,F' k->F k\/made w0 wa k)/\Dk wa F' db m':=λm' hT h1 hz wa aL=>⟨F,hT.jv aL λ_ h=>h,mb,l,h1.mv (aL.jj hT.bg),hz⟩;have htz:m.tick.sz=m.sz:=by unfold DM.tick DM.sz;split<;>rfl
 refine Mt.1 λ_=>?_;cases jT:m.dn
 ·rw[jT] at hb;repeat' first|refine aq ?_;intros|refine dg ?_ ?_<;>intros
  ·have he:e≠0:=by omega
   refine hT.fin λwa aL=>⟨?_,?_⟩
   ·simp[DM.write,jT,he]
   ·simp only[DM.write,jT,he,aW,if_false,ne_eq,not_false_eq_true,if_true];exact stay m hT h0 hz wa aL
  ·have he:e=0:=by omega
   refine hT.call (OS h0 oK jT) kQ (λ_ h=>h) λv wa w2 X2 hq hle gC da hc=>?_;obtain⟨rfl,h2⟩:=hq;replace da:Ft w0 F w2 X2 F:=da.less λk hk=>.inl hk;rw[<-htz] at h2;cases ht:m.tick.dn
   ·repeat' refine aq ?_;intros
    refine da.call (hdo he w2 X2 (hAm.trans (hc.jj λk ah=>⟨aw (hA k ah).2.1 hk.size,(hA k ah).2.2⟩)) (λk ah=>hc.sub k (aw (hA k ah).2.1 hk.size)) (da.fx λ_ h=>h) ⟨mb,l,h2,htz▸hz⟩) hf (λ_ h=>h) λv zA w3 X3 Qw rn mX dU vu=>?_;obtain⟨rfl,F',Dg,hD⟩:=Qw;refine dU.fin λH3 aL=>⟨?_,F',dU.jv aL Dg,?_⟩
    ·simp[DM.write,jT,he,ht]
    ·simp only[DM.write,jT,he,ht,aW,if_false,ne_eq,not_true_eq_false];exact hD.mv (aL.jj λk ah=>dU.bg k (Dg k ah))
   ·repeat' refine aq ?_;intros
    refine da.fin λwa aL=>⟨?_,?_⟩
    ·simp[DM.write,jT,he,ht]
    ·simp only[DM.write,jT,he,ht,aW,if_false,ne_eq,not_true_eq_false,if_true];exact stay _ da h2 (htz▸hz) wa aL
 ·rw[jT] at hb;repeat' refine aq ?_;intros
  refine hT.fin λwa aL=>⟨?_,?_⟩
  ·simp[DM.write,jT]
  ·simp only[DM.write,jT,if_true];exact stay m hT h0 hz wa aL
section
variable {l : List (ByteArray × nD)} {f : nD} {N : Value -> World -> XS -> Prop}
theorem aeT {x:Int} {s':Nat} (hT:Ft w0 F0 w X F) (h:oJ w G db mb l m z) (hG: ∀k,G k->F k) (hn:getM n l=some f) (ho:o'=1) (hx:x=s') (hs:s'<=f.bs.length)
  (k: ∀w' X',Ft w0 F0 w' X' F->oJ w' G db mb (cU n ⟨f.b,f.v,f.bs,s'⟩ l) (m.put n f.bs s') z->N undef w' X'):eU pg R X w true (st1 3 1 (ptr f.b o') (I x)) N:=by
 subst ho;subst hx;have hX: ∀k,G k->X k:=λk hk=>hT.bg k (hG k hk);have hr:=h.row _ (gS hn);have ho:=h.ow _ (gS hn);refine CV (hr.mv (Mv.sub hX)) kQ sQ rfl rfl hT.s.has λw' X' c jY=>?_;have hT':Ft w0 F0 w' X' F:=hT.dT c (λk hk=>by subst hk;exact hG _ hr.1) λk hk=>.inl hk;refine k w' X' hT' (h.jX (F':=G) (hT.fx hG) c hn (λk hk=>.inl hk) (λ_ h=>h) ⟨hr.1,jY.2⟩ ?_ (.inl rfl) hs);exact ho.tight.mv λk hk hl=>⟨(ho.bg hk).1,c.block k (hX k (ho.bg hk).1) λe=>ho.eT hr kQ (by rw[<-(show k=f.b from e)];exact hk)⟩
theorem agz {vs:Value} {b:List Nat} (hT:Ft w0 F0 w X F) (h:oJ w G db mb l m z) (hG: ∀k,G k->F k) (hn:getM n l=some f) (src:Sl w X 1 vs (b.map U1)) (hl:f.bs.length+b.length<=2^40)
  (k: ∀w' X',Ft w0 F0 w' X' (λk=>F k\/(X' k/\w.heap.size<=k))->(∃v',oJ w' (λk=>G k\/(X' k/\w.heap.size<=k)) db mb (cU n ⟨f.b,v',f.bs++b,f.safe⟩ l) (m.put n (f.bs++b) f.safe) z)->N undef w' X'):
  eV pg R X w true (rY 151 5 1 1 151 f.v vs) λx w1 X1=>nU pg X1 w1 (bC (ptr f.b 0)) λp=>aY pg X1 w1 (ji 153 0 0 1 p) λq=>eU pg R X1 w1 true (st1 151 1 q x) N:=by
 have hX: ∀k,G k->X k:=λk hk=>hT.bg k (hG k hk);have hr:=h.row _ (gS hn);have ho:=h.ow _ (gS hn);have hsf:=h.safe _ (gS hn);have cu:f.v.ownBlock≠some f.b:=ho.eT hr kQ;refine Ru kQ hT.s.has (ho.mono hX) src (by intro r hr u hu;obtain⟨x,_,rfl⟩:=List.mem_map.1 hr;simp only[U1,List.mem_singleton] at hu;subst hu;rfl) oQ oQ λv' w1 X1 c vz dc=>?_;have rI:aH w1 X1 f.b [f.v,I f.safe] 153:=⟨c.sub _ (hX _ hr.1),by rw[c.block _ (hX _ hr.1) λe=>cu e];exact hr.2⟩
 with_reducible apply I4
 have UB:fieldInfo pg 153 0=some (0,1):=by kernel_rfl
 refine Rs rI.cells UB rfl λo' wj _=>?_;subst wj;have kV:=rG vz.one;refine CV rI kQ sQ (by rw[kV];rfl) (by rw[kV];simp[vz.one]) c.has λw' X' c' jY=>?_;rw[kV] at jY;have cc:dY (λk=>k=f.b\/f.v.ownBlock=some k) X w X' w':=(c.mono λk _ hk=>.inr hk).trans (c'.mono λk _ hk=>.inl hk);have ajc:v'.ownBlock≠some f.b:=vz.eT rI kQ;have gC: ∀g,v'.ownBlock=some g->G g\/(X' g/\w.heap.size<=g):=λg hg=>by
  rcases dc with e|⟨g',e,dC⟩
  ·exact .inl (ho.bg (e▸hg)).1
  ·rw[hg] at e;have:g=g':=Option.some.inj e;subst this;exact .inr ⟨c'.sub _ (vz.bg hg).1,dC⟩
 have kF:Ow w' (λk=>G k\/(X' k/\w.heap.size<=k)) 5 1 v' ((f.bs++b).map U1):=by
  rw[List.map_append];exact vz.tight.mv λk hk hl=>⟨gC k hk,c'.block k (vz.bg hk).1 λe=>ajc (by rw[<-(show k=f.b from e)];exact hk)⟩
 refine k w' X' (hT.dT cc (λk hk=>?_) λk hk=>hk) ⟨v',h.jX (F':=λk=>G k\/(X' k/\w.heap.size<=k)) (hT.fx hG) cc hn (λk hk=>hk) (λk hk=>.inl hk) ⟨.inl hr.1,?_⟩ kF dc (by rw[aa];have:f.safe<=f.bs.length:=hsf;omega)⟩
 ·rcases hk with rfl|hk
  ·exact hG _ hr.1
  ·exact hG _ (ho.bg hk).1
 ·exact jY.2
end
theorem VW {S:XS} {vb:Value} {b:List Nat} (h:Dk w F db m) (hF:FX F X w) (hb:Sl w S 1 vb (b.map U1)) (hS: ∀k,S k->X k/\ ¬F k) (Gf:b.length<=2^30):
  Ct pg 200 #[ptr db 0,.string n,vb] w X F λv wa w'=>v=I (m.append n b).2/\ ∃F',(∀k,F' k->F k\/made wa w' k)/\Dk w' F' db (m.append n b).1:=by
 intro w0 hk;obtain⟨mb,l,h0,hz⟩:=h.mv (hF.mv hk);have hT:=hF.ft hk;have oK:FX F (bP w0) w0:=hF.kp hk;replace hb:Sl w0 (λk=>S k/\k<w0.heap.size) 1 vb (b.map U1):=hb.mv λk ah hl=>⟨⟨ah,aw hl hk.size⟩,hk.block k (hS k ah).1⟩;have gn:=h0.box.mv (Mv.sub hT.bg);have hs:=ai.init w0;have hg:=h0.get n;have hm:=h0.map.mv mr (Mv.sub hT.bg) (A':=nX) λ_ h=>h.elim;refine Kz.1 λ_=>?_;repeat' refine aq ?_;intros
 refine tt hm (λf hn=>?_) λhn=>?_
 ·have qi:m.get n=some (f.bs,f.safe):=by rw[hg,hn];rfl
  have as0:=DM.Ck qi;cases jT:m.dn
  ·rw[jT] at gn;repeat' first|refine aq ?_;intros|refine dg ?_ ?_<;>intros
   ·refine hT.fin λwa aL=>⟨?_,F,hT.jv aL λ_ h=>h,?_⟩
    ·simp only[DM.append,jT,qi,aW,if_false];rw[if_pos zQ];rfl
    ·simp only[DM.append,jT,qi,aW,if_false];rw[if_pos zQ];exact⟨mb,l,h0.mv (aL.jj hT.bg),hz⟩
   ·have I6: ¬4194304-m.sz<b.length:=by omega
    refine hT.call (OS h0 oK jT) kQ (λ_ h=>h) λv wa w2 X2 hq hle gC da hc=>?_;obtain⟨rfl,h2⟩:=hq;replace da:Ft w0 F w2 X2 F:=da.less λk hk=>.inl hk;have jJ:=(h2.row _ (gS hn)).mv (Mv.sub da.bg);repeat' refine aq ?_;intros
    refine agz da h2 (λ_ h=>h) hn ((hb.mv (hc.jj λk ah=>⟨ah.2,(hS k ah.1).2⟩)).mono λk ah=>hc.sub k ah.2) (show f.bs.length+b.length<=2^40 by omega) λw3 X3 dU ⟨v',h3⟩=>?_;have rW:=h3.box.mv (Mv.sub dU.bg);have htz:=m.yH;repeat' refine aq ?_;intros
    have Bu:=DM.Lo (bs:=f.bs++b) (s':=f.safe) ((m.qz n).trans qi);have hlen:(f.bs++b).length=f.bs.length+b.length:=aa;refine ya dU h3 (λ_ h=>h) (m.tick.put n (f.bs++b) f.safe) (m.tick.put n (f.bs++b) f.safe).sz (o:=1) zQ kQ zQ rfl (by rw[show(((m.tick.put n (f.bs++b) f.safe).sz:Nat):Int)=(m.sz:Int)+(b.length:Int)by omega];rfl) rfl h3.ar λw4 X4 fR h4 c4=>?_;have fin: ∀wa,Kp X4 w4 wa-> ∃F',(∀k,F' k->F k\/made w0 wa k)/\Dk wa F' db (m.append n b).1:=λwa aL=>⟨_,fR.jv aL λ_ h=>h,by
     simp only[DM.append,jT,qi,aW,if_false];rw[if_neg I6];exact⟨mb,_,h4.mv (aL.jj fR.bg),by show(m.tick.put n (f.bs++b) f.safe).sz<=_;omega⟩⟩
    cases ht:m.tick.dn
    ·repeat' refine aq ?_;intros
     refine fR.fin λwa aL=>⟨?_,fin wa aL⟩;simp only[DM.append,jT,qi,aW,if_false];rw[if_neg I6];simp[ht]
    ·repeat' refine aq ?_;intros
     refine fR.fin λwa aL=>⟨?_,fin wa aL⟩;simp only[DM.append,jT,qi,aW,if_false];rw[if_neg I6];simp[ht]
  ·rw[jT] at gn;repeat' refine aq ?_;intros
   refine hT.fin λwa aL=>⟨?_,F,hT.jv aL λ_ h=>h,?_⟩
   ·simp[DM.append,jT]
   ·simp only[DM.append,jT,if_true];exact⟨mb,l,h0.mv (aL.jj hT.bg),hz⟩
 ·have qi:m.get n=none:=by rw[hg,hn];rfl
  cases jT:m.dn
  ·rw[jT] at gn;repeat' refine aq ?_;intros
   refine hT.fin λwa aL=>⟨?_,F,hT.jv aL λ_ h=>h,?_⟩
   ·simp[DM.append,jT,qi]
   ·simp only[DM.append,jT,qi,aW,if_false];exact⟨mb,l,h0.mv (aL.jj hT.bg),hz⟩
  ·rw[jT] at gn;repeat' refine aq ?_;intros
   refine hT.fin λwa aL=>⟨?_,F,hT.jv aL λ_ h=>h,?_⟩
   ·simp[DM.append,jT]
   ·simp only[DM.append,jT,if_true];exact⟨mb,l,h0.mv (aL.jj hT.bg),hz⟩
variable {bd bn : Nat}
theorem aaa (h:Dk w F db m) (hF:FX F X w) (hd:aH w X bd [ptr db 0] 25) (hn:aH w X bn [.string n] 9) (hg:(m.get n).isSome=true):
  Ct pg 281 #[ptr bd 0,ptr bn 0] w X F λv wa w'=>v= .tuple #[]/\ ∃F',(∀k,F' k->F k\/made wa w' k)/\Dk w' F' db (DM.kD n m):=by
 intro w0 hk;obtain⟨mb,l,h0,hz⟩:=h.mv (hF.mv hk);have hT:=hF.ft hk;replace hd:=hd.mv hk.cE;replace hn:=hn.mv hk.cE;have gn:=h0.box.mv (Mv.sub hT.bg);have hs:=ai.init w0;have qi:=h0.get n;have hm:=h0.map.mv mr (Mv.sub hT.bg) (A':=nX) λ_ h=>h.elim;refine Jj.1 λ_=>?_;repeat' refine aq ?_;intros
 refine tt hm (λf h1=>?_) λh1=>?_
 ·repeat' refine aq ?_;intros
  refine tt hm (λf' h2=>?_) λh2=>?_
  ·rw[h1] at h2;cases h2;have hr:=(h0.row _ (gS h1)).mv (Mv.sub hT.bg);have ho:=(h0.ow _ (gS h1)).sl;have XM:m.get n=some (f.bs,f.safe):=by rw[qi,h1];rfl
   repeat' refine aq ?_;intros
   refine aeT hT h0 (λ_ h=>h) h1 (s':=f.bs.length) zQ rfl (Nat.le_refl _) λw1 X1 eo h3=>?_;refine eo.fin λwa aL=>⟨rfl,F,eo.jv aL λ_ h=>h,?_⟩;have e:DM.kD n m=m.put n f.bs f.bs.length:=by unfold DM.kD;rw[XM]
   have gh:=m.Fg n;rw[e] at gh⊢;exact⟨mb,_,by rw[gh];exact h3.mv (aL.jj eo.bg),by omega⟩
  ·rw[h1] at h2;cases h2
 ·rw[qi,h1] at hg;cases hg
theorem abz (h:Dk w F db m) (hF:FX F X w):
  Ct pg 201 #[ptr db 0,.string n] w X F λv wa w'=>v=I (m.sync n).2/\ ∃F',(∀k,F' k->F k\/made wa w' k)/\Dk w' F' db (m.sync n).1:=by
 intro w0 hk;replace h:=h.mv (hF.mv hk);have hT:=hF.ft hk;have oK:FX F (bP w0) w0:=hF.kp hk;clear hF;refine NL.1 λ_=>?_;refine uy rfl hT.s.has λbd w1 X1 qg aB jE=>?_;refine uy rfl aB.has λbn w2 X2 TJ bH Ue=>?_;have uH:=aB.trans bH;have da:=hT.since uH;have Ts:=jE.since bH;have h2:Dk w2 F db m:=h.mv (uH.gY λk ah=>(oK k ah).1);have hs:=ai.fL bH.has;repeat' refine aq ?_;intros
 refine cM (QS h2 (da.fx λ_ h=>h)) kQ hs.has ?_;rintro v wa w3 X3 rfl hle gC dt;have dU:=da.since dt;have h3:Dk w3 F db m:=h2.mv (dt.gY da.bg);have as1:=jE.lt;have ars:=dt.sub _ Ts.1;have art:=dt.sub _ Ue.1;have Ac:=Ts.since dt;have DG:=Ue.since dt;have e8:I (if(m.get n).isSome then 0 else 8)=I (((if(m.get n).isSome then 0 else 8:Nat)):Nat):=by split<;>rfl
 rw[e8];refine dU.call (Fa (A:=λk=>k=bd\/k=bn) (g:=DM.kD n) h3 (dU.fx λ_ h=>h) (λk ah=>?_) kQ ?_) kQ (λ_ h=>h) λv zB w4 X4 hq tJ py fR Fe=>?_
 ·rcases ah with rfl|rfl
  ·exact⟨ars,Ac.lt,λhf=>by have:=(oK _ hf).2;omega⟩
  ·exact⟨art,DG.lt,λhf=>by have:=(oK _ hf).2;have:=aB.kp.size;omega⟩
 ·intro he w5 X5 xS Re hF5 h5;refine aaa h5 hF5 ⟨Re _ (.inl rfl),?_⟩ ⟨Re _ (.inr rfl),?_⟩ ?_
  ·rw[(xS bd (.inl rfl) (Ac.lt)).2];exact Ac.2
  ·rw[(xS bn (.inr rfl) (DG.lt)).2];exact DG.2
  ·rw[m.qz];cases mO:(m.get n).isSome
   ·rw[mO] at he;cases he
   ·rfl
 ·obtain⟨rfl,F',Dg,hD⟩:=hq
  skip
  refine fR.fin λH3 aL=>⟨rfl,F',fR.jv aL Dg,hD.mv (aL.jj λk ah=>fR.bg k (Dg k ah))⟩
theorem Tt (h:Dk w F db m) (hF:FX F X w) (hd:aH w X bd [ptr db 0] 25) (hn:aH w X bn [.string n] 9) (hg:m.get n=none):
  Ct pg 257 #[ptr bd 0,ptr bn 0] w X F λv wa w'=>v= .tuple #[]/\ ∃F',(∀k,F' k->F k\/made wa w' k)/\Dk w' F' db (m.put n [] 0):=by
 intro w0 hk;obtain⟨mb,l,h0,hz⟩:=h.mv (hF.mv hk);have hT:=hF.ft hk;have oK:FX F (bP w0) w0:=hF.kp hk;replace hd:=hd.mv hk.cE;replace hn:=hn.mv hk.cE;have gn:=h0.box.mv (Mv.sub hT.bg);have hs:=ai.init w0;have qi:=h0.get n;have hm:=h0.map.mv mr (Mv.sub hT.bg) (A':=nX) λ_ h=>h.elim;have hgn:getM n l=none:=by
  rw[hg] at qi;cases hq:getM n l with
  |none=>rfl
  |some f=>rw[hq] at qi;cases qi
 refine Hv.1 λ_=>?_;repeat' first|refine aq ?_;intros|(refine Oq hs ?_;intro bx w X gn aB gw hs bt)
 have pV:=hm.mv mr gw.mv (A':=nX) λ_ h=>h.elim;refine vJ (kt:=9) (et:=150) (a:=⟨bx,.slice none 0 0,[],0⟩) pV mr (show OP _ _ (ptr bx 0) ⟨bx,.slice none 0 0,[],0⟩from rfl) (λ_ h=>h.elim) (I2 kQ) kQ gw.has λw2 X2 c rO=>?_;have OA:bx≠mb:=(pV.eT bt).symm;have da:Ft w0 F w2 X2 (λk=>F k\/k=bx):=((hT.since gw).more (F':=λk=>F k\/k=bx) λk ah=>ah.imp id λe=>by subst e;exact⟨bt.1,gn⟩).dT c (λk ah=>by subst ah;exact .inl h0.map.x.1) λk ah=>.inl ah;have BU:dY (· =mb) (bP w0) w0 X2 w2:=(dY.oh gw _).trans c;refine da.fin λwa aL=>⟨rfl,_,da.jv aL λ_ h=>h,?_⟩;have hL:=h0.new (F':=λk=>F k\/k=bx) oK BU hgn (λk ah=>ah) (λk ah=>.inl ah) gn (rO.own.mv mr (λk ah hl=>⟨.inl (by subst ah;exact h0.map.x.1),rfl⟩) λ_ h=>h.elim) ⟨.inr rfl,by rw[c.block _ bt.1 OA];exact bt.2⟩;have aru:(m.put n [] 0).sz=m.sz:=by simpa using (DM.SB (bs:=[]) (s':=0) hg)
 rw[<-aru] at hL;exact⟨mb,_,hL.mv (aL.jj da.bg),by omega⟩
def DM.CB (m:DM) (n:ByteArray):Nat:=if¬wC n then 10 else if(m.get n).isSome then 9 else if 64<=m.fs.length then 3 else 0
theorem VX (h:Dk w F db m) (hF:FX F X w):
  Ct pg 181 #[ptr db 0,.string n] w X F λv wa w'=>v=I (m.create n).2/\ ∃F',(∀k,F' k->F k\/made wa w' k)/\Dk w' F' db (m.create n).1:=by
 intro w0 hk;replace h:=h.mv (hF.mv hk);have hT:=hF.ft hk;have oK:FX F (bP w0) w0:=hF.kp hk;clear hF;obtain⟨mb,l,h0,hz⟩:=id h;refine Kv.1 λ_=>?_;refine uy rfl hT.s.has λbd w1 X1 qg aB jE=>?_;refine uy rfl aB.has λbn w2 X2 TJ bH Ue=>?_;have uH:=aB.trans bH;have hs:=ai.fL bH.has;have Ts:=jE.since bH;have gn:=(h0.box.mv (Mv.sub hT.bg)).since uH;have hm:=(h0.map.mv mr (Mv.sub hT.bg) (A':=nX) λ_ h=>h.elim).mv mr uH.mv (A':=nX) λ_ h=>h.elim;have qi:=h0.get n;have hlen:=h0.len;have key: ∀(w3:World) (X3:XS) (e:Nat),ai X2 w2 X3 w3->m.CB n=e->eC pg (vy F w0 λv w'=>v=I (m.create n).2/\ ∃F',(∀k,F' k->F k\/made w0 w' k)/\Dk w' F' db (m.create n).1) X3 w3 true 256 #[ptr db 0,I e,.func (.func 257) #[] #[ptr bd 0,ptr bn 0]] λx w4 X4=>
   fin (vy F w0 λv w'=>v=I (m.create n).2/\ ∃F',(∀k,F' k->F k\/made w0 w' k)/\Dk w' F' db (m.create n).1) X4 w4 x:=by
  intro w3 X3 e dt he;have aef:=uH.trans dt;have dU:=hT.since aef;have h3:Dk w3 F db m:=h.mv (aef.gY λk ah=>(oK k ah).1);have Ac:=Ts.since dt;have DG:=Ue.since dt;have em:m.create n=m.write e λm=>m.put n [] 0:=by rw[<-he];rfl
  rw[em];refine dU.call (Fa (A:=λk=>k=bd\/k=bn) (g:=λm=>m.put n [] 0) h3 (dU.fx λ_ h=>h) (λk ah=>?_) kQ ?_) kQ (λ_ h=>h) λv zB w4 X4 hq tJ py fR Fe=>?_
  ·rcases ah with rfl|rfl
   ·exact⟨Ac.1,Ac.lt,λhf=>by have:=(oK _ hf).2;omega⟩
   ·exact⟨DG.1,DG.lt,λhf=>by have:=(oK _ hf).2;have:=aB.kp.size;omega⟩
  ·intro A4 w5 X5 xS Re hF5 h5;refine Tt h5 hF5 ⟨Re _ (.inl rfl),?_⟩ ⟨Re _ (.inr rfl),?_⟩ ?_
   ·rw[(xS bd (.inl rfl) (Ac.lt)).2];exact Ac.2
   ·rw[(xS bn (.inr rfl) (DG.lt)).2];exact DG.2
   ·rw[m.qz];rw[A4] at he;unfold DM.CB at he;cases mO:m.get n with
    |none=>rfl
    |some x=>
     rw[mO] at he;simp at he;exfalso;split at he<;>omega
  ·obtain⟨rfl,F',Dg,hD⟩:=hq;exact fR.fin λH3 aL=>⟨rfl,F',fR.jv aL Dg,hD.mv (aL.jj λk ah=>fR.bg k (Dg k ah))⟩
 refine ib (λk=> ∀(e:Nat) (w3:World) (X3:XS),ai X2 w2 X3 w3->m.CB n=e->k (I e) w3 X3) ?_ ?_
 ·intro e w3 X3 dt he;have Ac:=Ts.since dt;repeat' refine aq ?_;intros
  exact key w3 X3 e dt he
 ·intro K hK;repeat' first|refine aq ?_;intros|(refine kG (aby _) hs ?_ ?_<;>intro _ w X hs)
  ·have DG:=Ue.since hs;have Ac:=Ts.since hs;have as2:=gn.since hs;have qS:=hm.mv mr hs.mv (A':=nX) λ_ h=>h.elim
   skip
   refine tt qS (λf hn=>?_) λhn=>?_
   ·repeat' refine aq ?_;intros
    exact hK 9 _ _ hs (by simp_all [DM.CB])
   ·repeat' first|refine aq ?_;intros|refine dg ?_ ?_<;>intros|(refine anQ qS (kt:=9) (et:=150) kQ ?_)
    ·exact hK 3 _ _ hs (by simp only[DM.CB,qi,hn];simp_all<;>omega)
    ·exact hK 0 _ _ hs (by simp only[DM.CB,qi,hn];simp_all<;>omega)
  ·exact hK 10 _ _ hs (by simp_all [DM.CB])
theorem Rj {n:Int} (h:Dk w F db m) (hF:FX F X w) (hn:n<2^63):
  Ct pg 14 #[ptr db 0,I n] w X F λv wa w'=>v= .tuple #[]/\Dk w' F db (if m.dn then m else { m with ar:=n.toNat }):=by
 intro w0 hk;obtain⟨mb,l,h0,hz⟩:=h.mv (hF.mv hk);have hT:=hF.ft hk;have gn:=h0.box.mv (Mv.sub hT.bg);have hs:=ai.init w0;refine PG.1 λ_=>?_;cases jT:m.dn
 ·rw[jT] at gn;repeat' first|refine aq ?_;intros|(refine apn ?_)
  refine ya hT h0 (λ_ h=>h) { m with ar:=n.toNat } m.sz (o:=3) zQ kQ zQ rfl (by rw[show((n.toNat:Nat):Int)=max n 0 by omega];rfl) rfl (by show n.toNat<_;omega) λw1 X1 eo h1 c1=>?_;refine eo.fin λwa aL=>⟨rfl,?_⟩;rw[if_neg Bool.false_ne_true];have h2:=h1.mv (aL.jj eo.bg);rw[jT] at h2;exact⟨mb,l,h2,hz⟩
 ·rw[jT] at gn;repeat' refine aq ?_;intros
  exact hT.fin λwa aL=>⟨rfl,mb,l,h0.mv (aL.jj hT.bg),hz⟩
theorem ald:Ct pg 119 #[.map (some mb)] w X nX λv wa w'=> ∃bx,v= .func (.func 173) #[] #[ptr bx 0]/\aH w' (made wa w') bx [.map (some mb)] 109:=by
 intro w0 hk;refine rB.1 λhs=>?_;refine uy rfl hs.has λbx w1 X1 gn aB bt=>?_;repeat' refine aq ?_;intros
 exact cH aB λwa aL=>⟨bx,rfl,⟨gn,(bt.kp aL).lt⟩,(bt.kp aL).2⟩
theorem ale:Ct pg 169 #[.map (some mb)] w X nX λv wa w'=> ∃bx,v= .func (.func 239) #[] #[ptr bx 0]/\aH w' (made wa w') bx [.map (some mb)] 287:=by
 intro w0 hk;refine rC.1 λhs=>?_;refine uy rfl hs.has λbx w1 X1 gn aB bt=>?_;repeat' refine aq ?_;intros
 exact cH aB λwa aL=>⟨bx,rfl,⟨gn,(bt.kp aL).lt⟩,(bt.kp aL).2⟩
variable {bx : Nat}
theorem agA {α:Type} {rd:World->XS->Value->α->Prop} {l:List (ByteArray×α)} (h:dS w X A mb aP rd l) (hb:aH w X bx [.map (some mb)] 109)
  (hs: ∀x∈l,x.1.size<=2^40) (hl:l.length<=2^40):
  Ct pg 118 #[.func (.func 173) #[] #[ptr bx 0]] w X nX λv wa w'=>Own w' (made wa w') wa.heap.size 9 1 v ((fT (l.map (·.1))).map S1):=
 PY h kQ hs hl λwa hk nn D0 xP=>
  AnyZ.keys_gives (ρ:=Tryz.U3) { Tryz.api with } gu _ trivial rfl zQ bx mb nn D0 wa (hb.kp hk).lt (by have:=(hb.kp hk).2;simp[fw,this]) xP
theorem agB {α:Type} {rd:World->XS->Value->α->Prop} {l:List (ByteArray×α)} (h:dS w X A mb aP rd l) (hb:aH w X bx [.map (some mb)] 287)
  (hs: ∀x∈l,x.1.size<=2^40) (hl:l.length<=2^40):
  Ct pg 118 #[.func (.func 239) #[] #[ptr bx 0]] w X nX λv wa w'=>Own w' (made wa w') wa.heap.size 9 1 v ((fT (l.map (·.1))).map S1):=
 PY h kQ hs hl λwa hk nn D0 xP=>
  AnyZ.keys_gives (ρ:=Tryz.U5) { Tryz.apj with } gu _ trivial rfl zQ bx mb nn D0 wa (hb.kp hk).lt (by have:=(hb.kp hk).2;simp[fw,this]) xP
theorem Ox (h:Dk w F db m) (hF:FX F X w) (hs: ∀x∈m.fs,x.1.size<=2^40) (hl:m.fs.length<=2^40):
  Ct pg 71 #[ptr db 0] w X nX λv wa w'=>Own w' (made wa w') wa.heap.size 9 1 v ((fT (m.fs.map (·.1))).map S1):=by
 intro w0 hk;obtain⟨mb,l,h0,hz⟩:=h.mv (hF.mv hk);have hX:=λk ah=>(hF.kp hk k ah).1;have hb:=h0.box.mv (Mv.sub hX);have hm:=h0.map.mv mr (Mv.sub hX) (A':=nX) λ_ h=>h.elim;have OC:=h0.fs;refine NG.1 λ_=>?_;have gw:=ai.init w0;repeat' refine aq ?_;intros
 refine cM ald kQ gw.has ?_;rintro _ wa w1 X1 ⟨bx,rfl,bt⟩ hle gC aB;have pV:=hm.mv mr aB.mv (A':=nX) λ_ h=>h.elim;refine cM (agA pV (bt.mono gC) (λx hx=>hs (x.1,x.2.er) (by rw[OC];exact List.mem_map.2 ⟨x,hx,rfl⟩)) (by rw[OC,af] at hl;exact hl)) kQ aB.has ?_;rintro v xN w2 X2 ho lK ko bH;have Yb:=aB.kp.size;refine cH (aB.trans bH) λH3 aL=>?_;have kF:Own w2 X2 w0.heap.size 9 1 v ((fT (l.map (·.1))).map S1):=ho.up ko zQ;have e:m.fs.map (·.1)=l.map (·.1):=by rw[OC,cd];rfl
 rw[e];exact(kF.kp aL).tight
structure jz where
 code:Int
 key:BA
 val:gO
abbrev jz.l (o:jz):List Value:=[I o.code,.string o.key,I o.val.kind,.float .f64 o.val.num,.string o.val.text]
def Ju (c:Int):Int:=if c<1\/15<c then 0 else if c=4 then 2 else if c<=3 then 1 else 0
def tV (c:Int):Int:=if c<1\/15<c then 0 else if c=1\/c=3\/c=4 then 0 else if c=2\/c=13\/c=14 then 1 else 2
def BM (c:Int):Int:=if c<1\/15<c then 0 else if c=2\/c=3\/c=13 then 0 else if c=14\/c=15 then 2 else 1
def ajd (c:Int):BA:=if c=1 then⟨#[103,101,116]⟩else if c=2 then⟨#[112,117,116]⟩else if c=3 then⟨#[100,114,111,112]⟩else if c=4 then⟨#[112,117,115,104]⟩else if c=5 then⟨#[97,100,100]⟩else if c=6 then⟨#[115,117,98]⟩else if c=7 then⟨#[109,117,108]⟩else if c=8 then⟨#[100,105,118]⟩
 else if c=9 then⟨#[109,105,110]⟩else if c=10 then⟨#[109,97,120]⟩else if c=11 then⟨#[108,101,115,115]⟩else if c=12 then⟨#[115,97,109,101]⟩else if c=13 then⟨#[110,101,101,100]⟩else if c=14 then⟨#[100,117,112]⟩else if c=15 then⟨#[115,119,97,112]⟩else⟨#[]⟩
abbrev Ww (c:Int):List Value:=[.string (ajd c),I (Ju c),I (tV c),I (BM c)]
abbrev agC:List Value:=[.string ⟨#[]⟩,I 0,I 0,I 0,.string ⟨#[103,101,116]⟩,I 1,I 0,I 1,.string ⟨#[112,117,116]⟩,I 1,I 1,I 0,.string ⟨#[100,114,111,112]⟩,I 1,I 0,I 0,.string ⟨#[112,117,115,104]⟩,I 2,I 0,I 1,
 .string ⟨#[97,100,100]⟩,I 0,I 2,I 1,.string ⟨#[115,117,98]⟩,I 0,I 2,I 1,.string ⟨#[109,117,108]⟩,I 0,I 2,I 1,.string ⟨#[100,105,118]⟩,I 0,I 2,I 1,.string ⟨#[109,105,110]⟩,I 0,I 2,I 1,.string ⟨#[109,97,120]⟩,I 0,I 2,I 1,
 .string ⟨#[108,101,115,115]⟩,I 0,I 2,I 1,.string ⟨#[115,97,109,101]⟩,I 0,I 2,I 1,.string ⟨#[110,101,101,100]⟩,I 0,I 1,I 0,.string ⟨#[100,117,112]⟩,I 0,I 1,I 2,.string ⟨#[115,119,97,112]⟩,I 0,I 2,I 2]
theorem MI:Pure pg 228 #[] (.agg agC.toArray):=by
 intro w0;refine VE.1 λhs=>?_;repeat' first|refine aq ?_;intros|(with_reducible refine fE hs ?_);rfl
theorem aje (c:Int) (h:1<=c/\c<=15) (wa:World):(ET 367 16 277 (.agg agC.toArray) (I c)).run pg wa= .ok (.agg (Ww c).toArray) wa:=by
 have h:c=1\/c=2\/c=3\/c=4\/c=5\/c=6\/c=7\/c=8\/c=9\/c=10\/c=11\/c=12\/c=13\/c=14\/c=15:=by omega
 rcases h with rfl|rfl|rfl|rfl|rfl|rfl|rfl|rfl|rfl|rfl|rfl|rfl|rfl|rfl|rfl<;>(show _=_;kernel_rfl)
theorem agD (c:Int):Pure pg 158 #[I c] (.tuple #[.agg (Ww c).toArray,B (decide (1<=c/\c<=15))]):=by
 intro w0;by_cases hc:1<=c/\c<=15
 ·rw[decide_eq_true hc];refine RF.1 λhs=>?_;repeat' first|refine aq ?_;intros|refine dg ?_ ?_<;>intros|(refine pt MI hs ?_;intro w X hs)|(exfalso;omega)|(with_reducible refine fE hs ?_);rfl|(refine bK (aje c hc) ?_)
 ·have hz:Ww c=[.string ⟨#[]⟩,I 0,I 0,I 0]:=by
   have h1:Ju c=0:=by unfold Ju;rw[if_pos zQ]
   have h2:tV c=0:=by unfold tV;rw[if_pos zQ]
   have h3:BM c=0:=by unfold BM;rw[if_pos zQ]
   have h4:ajd c=⟨#[]⟩:=by
    unfold ajd;repeat rw[if_neg zQ]
   simp only[Ww,h1,h2,h3,h4]
  rw[decide_eq_false hc,hz];refine RF.1 λhs=>?_;repeat' first|refine aq ?_;intros|refine dg ?_ ?_<;>intros|(refine pt MI hs ?_;intro w X hs)|(exfalso;omega)|(with_reducible refine fE hs ?_);rfl
def FW (o:jz) (n:Int):Bool:=
 if(n=1/\iN o.key=false)\/(n≠1/\o.key≠⟨#[]⟩)then false else if n=2 then o.val.may else decide (o.val.kind=0/\o.val.text=⟨#[]⟩/\o.val.num=0)
theorem abA (o:jz) (n:Int):Pure pg 159 #[.agg o.l.toArray,I n] (B (FW o n)):=by
 intro w0;refine Zv.1 λhs=>?_;repeat' first|refine aq ?_;intros|refine dg ?_ ?_<;>intros|with_reducible apply cK|(refine kG (lD _) hs ?_ ?_<;>intro _ w X hs)|(refine kG (mA _) hs ?_ ?_<;>intro _ w X hs)|(with_reducible refine fE hs ?_);(simp_all [FW])|((with_reducible refine FG (Cz _) hs.has ?_);intro w X aB;replace hs:=hs.trans aB)
theorem alf:Ct pg 231 #[.map (some mb)] w X nX λv wa w'=> ∃bx,v= .func (.func 306) #[] #[ptr bx 0]/\aH w' (made wa w') bx [.map (some mb)] 370:=by
 intro w0 hk;refine wV.1 λhs=>?_;refine uy rfl hs.has λbx w1 X1 gn aB bt=>?_;repeat' refine aq ?_;intros
 exact cH aB λwa aL=>⟨bx,rfl,⟨gn,(bt.kp aL).lt⟩,(bt.kp aL).2⟩
theorem agE {α:Type} {rd:World->XS->Value->α->Prop} {l:List (ByteArray×α)} (h:dS w X A mb aP rd l) (hb:aH w X bx [.map (some mb)] 370)
  (hs: ∀x∈l,x.1.size<=2^40) (hl:l.length<=2^40):
  Ct pg 118 #[.func (.func 306) #[] #[ptr bx 0]] w X nX λv wa w'=>Own w' (made wa w') wa.heap.size 9 1 v ((fT (l.map (·.1))).map S1):=
 PY h kQ hs hl λwa hk nn D0 xP=>
  AnyZ.keys_gives (ρ:=Tryz.U6) { Tryz.apk with } gu _ trivial rfl zQ bx mb nn D0 wa (hb.kp hk).lt (by have:=(hb.kp hk).2;simp[fw,this]) xP
def rdN:World->XS->Value->Int->Prop:=λ_ _ v x=>v=I x
def aab:qV rdN:=λ_ _ _ _ _ _ h _=>h
def lr (a b:Int) (t:List (BA×Int)) (o:jz):List (BA×Int):=if(o.code=a\/o.code=b)/\iN o.key=true then cU o.key ((getM o.key t).getD 0+1) t else t
def fq (a b:Int) (p:List jz):List BA:=fT ((p.foldl (lr a b) []).map (·.1))
theorem EV (a b:Int): ∀(p:List jz) (t:List (BA×Int)) (n:Nat),(t.map (·.1)).Nodup->(∀x∈t,0<=x.2/\x.2<=n/\x.1.size<=24)->t.length<=n->
  ((p.foldl (lr a b) t).map (·.1)).Nodup/\(∀x∈p.foldl (lr a b) t,0<=x.2/\x.2<=(n+p.length:Nat)/\x.1.size<=24)/\(p.foldl (lr a b) t).length<=n+p.length
 |[],t,n,h1,h2,h3=>⟨h1,λx hx=>h2 x hx,h3⟩
 |o::p,t,n,h1,h2,h3=>by
  have fQ:((lr a b t o).map (·.1)).Nodup/\(∀x∈lr a b t o,0<=x.2/\x.2<=(n+1:Nat)/\x.1.size<=24)/\(lr a b t o).length<=n+1:=by
   unfold lr;split
   ·rename_i hc;have hg:o.key.size<=24:=by have:=hc.2;unfold iN at this;simp at this;omega
    refine⟨Qs h1,λx hx=>?_,?_⟩
    ·rcases mV h1 hx with rfl|⟨hx,_⟩
     ·have:0<=(getM o.key t).getD 0/\(getM o.key t).getD 0<=n:=by
       cases Ln:getM o.key t with
       |none=>simp
       |some y=>have:=h2 _ (gS Ln);exact⟨this.1,this.2.1⟩
      exact⟨by simp only;omega,by simp only;omega,hg⟩
     ·have:=h2 x hx;exact⟨this.1,by omega,this.2.2⟩
    ·have hlp:(cU o.key ((getM o.key t).getD 0+1) t).length=((cU o.key ((getM o.key t).getD 0+1) t).map (·.1)).length:=by simp
     rw[hlp,yd];split<;>simp<;>omega
   ·exact⟨h1,λx hx=>by have:=h2 x hx;exact⟨this.1,by omega,this.2.2⟩,by omega⟩
  have:=EV a b p _ (n+1) fQ.1 fQ.2.1 fQ.2.2;rw[List.foldl_cons,List.length_cons];exact⟨this.1,λx hx=>by have:=this.2.1 x hx;exact⟨this.1,by omega,this.2.2⟩,by omega⟩
theorem anR {t:List (BA×Int)} {k:BA} (h:dS w X nX mb (λk:BA=>aP k) rdN t) (n:N (I ((getM k t).getD 0))):aY pg X w (Instr.lookup 370 (.map (some mb)) (.string k) false) N:=by
 refine nr (kt:=9) (et:=3) (kv:=λk:BA=>aP k) (I 0) h yt kQ kQ (λv a hg hv=>?_) (λhg=>?_)
 ·simp only[rdN] at hv;subst hv;rw[hg] at n;exact n
 ·rw[hg] at n;exact n
variable {p : List jz} {a : Value}
theorem MJ {ca cb:Int} (ha:Sl w X 5 a (p.map jz.l)) (hl:p.length<=2^30):
  Ct pg 165 #[a,I ca,I cb] w X nX λv wa w'=>Own w' (made wa w') wa.heap.size 9 1 v ((fq ca cb p).map S1):=by
 intro w0 hk;replace ha:=ha.mv hk.cE;have lh:=ha.gV;refine VC.1 λhs=>?_;refine rL (kv:=λk:BA=>aP k) rdN nX hs.has λmb w1 X1 hmb aB pV=>?_;replace hs:=hs.trans aB;have sj:=ha.mv hs.mv;repeat' refine aq ?_;intros
 refine fY (λn a w X=> ∃i:Nat,a=I i/\n=p.length-i/\i<=p.length/\ai (bP w0) w0 X w/\dS w X nX mb (λk:BA=>aP k) rdN ((p.take i).foldl (lr ca cb) [])) p.length ⟨0,rfl,rfl,Nat.zero_le _,hs,pV⟩ ?_;clear hs aB pV sj;rintro n _ w X ⟨i,rfl,rfl,hi,hs,hm⟩;have sj:=ha.mv hs.mv;have lT:=EV (a:=ca) (b:=cb) (p.take i) [] 0 sQ sQ sQ;have hli:(p.take i).length=i:=by rw[List.length_take];omega
 rw[hli] at lT;rcases dB (p) i with⟨cI,o,hx,hd⟩|⟨dC,hd⟩
 ·have fQ:(p.take (i+1)).foldl (lr ca cb) []=lr ca cb ((p.take i).foldl (lr ca cb) []) o:=by rw[List.take_add_one,hx,List.foldl_append];rfl
  generalize (p.take i).foldl (lr ca cb) []=t at fQ hm lT;have ajZ: ∀{w X},ai (bP w0) w0 X w->dS w X nX mb (λk:BA=>aP k) rdN t->lr ca cb t o=t->Gi (J1 λn a w X=> ∃i:Nat,a=I i/\n=p.length-i/\i<=p.length/\ai (bP w0) w0 X w/\dS w X nX mb (λk:BA=>aP k) rdN ((p.take i).foldl (lr ca cb) [])) (p.length-i) (I ((i:Int)+1)) w X:=
   λq1 q2 q3=>ey (p.length-(i+1)) zQ ⟨i+1,by simp,rfl,by omega,q1,by rw[fQ,q3];exact q2⟩
  by_cases hc:o.code=ca\/o.code=cb
  ·repeat' first|refine aI ?_;intros|refine dg ?_ ?_<;>intros|with_reducible apply cK
   all_goals
    refine sk (lD o.key) kQ hs.has λw2 X2 bH=>?_;have rO:=hm.mv aab bH.mv (λ_ h=>h.elim) (A':=nX);have dt:=hs.trans bH;by_cases hg:iN o.key=true
    ·rw[hg];have hN:lr ca cb t o=cU o.key ((getM o.key t).getD 0+1) t:=by unfold lr;rw[if_pos ⟨hc,hg⟩]
     have Uy:0<=(getM o.key t).getD 0/\(getM o.key t).getD 0<=i:=by
      cases Ln:getM o.key t with
      |none=>simp
      |some y=>have:=lT.2.1 _ (gS Ln);exact⟨this.1,by have:=this.2.1;simp at this⊢;omega⟩
     repeat' refine aq ?_;intros
     refine anR rO ?_;repeat' refine aq ?_;intros
     refine vJ (kv:=λk:BA=>aP k) (k:=o.key) (a:=(getM o.key t).getD 0+1) (kt:=9) (et:=3) rO aab rfl (λ_ h=>h.elim) yt kQ dt.has λw4 X4 c4 Az=>?_;have gd:ai (bP w0) w0 X4 w4:=dt.dT c4 λg hg e=>by have:g<w0.heap.size:=hg;omega
     repeat' first|refine aq ?_;intros|((with_reducible refine ey ((p).length-(i+1)) ?_ ?_);omega;exact⟨i+1,by simp,rfl,by omega,gd,by rw[fQ,hN];exact Az⟩)
    ·rw[Bool.eq_false_iff.2 hg];have hN:lr ca cb t o=t:=by unfold lr;rw[if_neg (λh=>hg h.2)]
     repeat' first|refine aq ?_;intros|(exact ajZ dt rO hN)
  ·have hN:lr ca cb t o=t:=by unfold lr;rw[if_neg (λh=>hc h.1)]
   repeat' first|refine aI ?_;intros|with_reducible apply cK|(exact ajZ hs hm hN)
 ·rw[List.take_of_length_le dC] at hm lT;repeat' refine aI ?_;intros
  refine cM alf kQ hs.has ?_;rintro _ wa w2 X2 ⟨bx,rfl,hb⟩ hle gC bH;have rO:=hm.mv aab bH.mv (λ_ h=>h.elim) (A':=nX);have MK:=hs.trans bH;refine cM (agE rO (hb.mono gC) (λe he=>by have:=lT.2.1 e he;omega) zQ) kQ MK.has ?_;rintro vs wb w3 X3 ho rn mX dt;have hz:=MK.kp.size;have xl:Own w3 X3 w0.heap.size 9 1 vs ((fT ((p.foldl (lr ca cb) []).map (·.1))).map S1):=ho.up mX zQ;exact cH (MK.trans dt) λH3 aL=>(xl.kp aL).tight
theorem A3 (ha:Sl w X 5 a (p.map jz.l)) (hl:p.length<=2^30):
  Ct pg 112 #[a] w X nX λv wa w'=>Own w' (made wa w') wa.heap.size 9 1 v ((fq 1 1 p).map S1):=by
 intro w0 hk;replace ha:=ha.mv hk.cE;have hs:=ai.init w0;refine Vx.1 λ_=>?_;refine cM (MJ ha hl) kQ hs.has ?_;rintro v wa w1 X1 ho hle gC aB;exact cH (hs.trans aB) λH3 aL=>((ho.up gC hle).kp aL).tight
theorem aac (ha:Sl w X 5 a (p.map jz.l)) (hl:p.length<=2^30):
  Ct pg 160 #[a] w X nX λv wa w'=>Own w' (made wa w') wa.heap.size 9 1 v ((fq 2 3 p).map S1):=by
 intro w0 hk;replace ha:=ha.mv hk.cE;have hs:=ai.init w0;refine VB.1 λ_=>?_;refine cM (MJ ha hl) kQ hs.has ?_;rintro v wa w1 X1 ho hle gC aB;exact cH (hs.trans aB) λH3 aL=>((ho.up gC hle).kp aL).tight
def zg:List jz->Int->Int
 |[],_=>0
 |o::r,h=>if¬(1<=o.code/\o.code<=15)then 7 else if FW o (Ju o.code)=false then 4 else if h<tV o.code then 5 else if h+(BM o.code-tV o.code)>16 then 2 else zg r (h+(BM o.code-tV o.code))
def nG (p:List jz):Int:=if 40<p.length then 3 else if zg p 0≠0 then zg p 0 else if 16<(fq 1 1 p).length\/16<(fq 2 3 p).length then 3 else 0
theorem aeU (c:Int):0<=tV c/\tV c<=2/\0<=BM c/\BM c<=2:=by
 unfold tV BM;split
 ·simp
 ·constructor
  ·split;simp;split<;>simp
  ·constructor
   ·split;simp;split<;>simp
   ·split;simp;split<;>simp
theorem K9 (ha:Sl w X 5 a (p.map jz.l)):Ct pg 109 #[a] w X nX λv _ _=>v=I (nG p):=by
 intro w0 hk;replace ha:=ha.mv hk.cE;have lh:=ha.gV;refine Vw.1 λhs=>?_;by_cases hl:40<p.length
 ·repeat' first|refine aI ?_;intros|(refine qr ?_;intro wa hk;(unfold nG;rw[if_pos hl]))
 ·repeat' refine aI ?_;intros
  refine gM (λn a b w X=> ∃(i:Nat) (h:Int),a=I i/\b=I h/\0<=h/\h<=16/\n=p.length-i/\i<=p.length/\ai (bP w0) w0 X w/\zg p 0=zg (p.drop i) h) p.length ⟨0,0,rfl,rfl,by omega,by omega,rfl,Nat.zero_le _,hs,rfl⟩ ?_;clear hs;rintro n _ _ w X ⟨i,h,rfl,rfl,h0,h1,rfl,hi,hs,hw⟩;have sj:=ha.mv hs.mv;rcases dB (p) i with⟨cI,o,hx,hd⟩|⟨dC,hd⟩
  ·rw[hd,zg] at hw;have hb:=aeU o.code;repeat' refine aI ?_;intros
   refine sk (agD o.code) kQ hs.has λw1 X1 aB=>?_;replace hs:=hs.trans aB;clear sj aB;by_cases hc:1<=o.code/\o.code<=15
   ·rw[if_neg (λh=>h hc)] at hw;rw[decide_eq_true hc];repeat' first|refine aq ?_;intros|refine dg ?_ ?_<;>intros|(refine kG (abA _ _) hs ?_ ?_<;>intro _ w X hs)|((with_reducible refine fG ((p).length-(i+1)) ?_ ?_);omega;exact⟨i+1,_,by simp,rfl,by omega,by omega,rfl,by omega,hs,by simp_all⟩)|(refine qr ?_;intro wa hk;(unfold nG;rw[if_neg hl];simp_all))
    done
   ·rw[if_pos hc] at hw;rw[decide_eq_false hc];repeat' first|refine aq ?_;intros|(refine qr ?_;intro wa hk;(unfold nG;rw[if_neg hl,hw];rfl))
  ·rw[hd,zg] at hw;repeat' refine aI ?_;intros
   refine cM (A3 sj zQ) kQ hs.has ?_;rintro v1 wa w1 X1 vz hle gC aB;have ha2:=sj.since aB;have Ch:=(vz.mono gC).sl;have bH:=hs.trans aB;clear hs aB sj;by_cases hr:16<(fq 1 1 p).length
   ·have hc:nG p=3:=by unfold nG;rw[if_neg hl,if_neg zQ,if_pos (.inl hr)]
    have hs:=bH;repeat' first|refine aI ?_;intros|with_reducible apply cK|(refine qr ?_;intro wa hk;(rw[hc]))
    done
   ·have hs:=bH;repeat' first|refine aI ?_;intros|with_reducible apply cK
    refine cM (aac ha2 zQ) kQ bH.has ?_;rintro v3 wb w3 X3 OF rn mX dt;have ac3:=(OF.mono mX).sl;replace hs:=bH.trans dt;by_cases hn:16<(fq 2 3 p).length
    ·have hc:nG p=3:=by unfold nG;rw[if_neg hl,if_neg zQ,if_pos (.inr hn)]
     repeat' first|refine aI ?_;intros|(refine qr ?_;intro wa hk;(rw[hc]))
    ·have hc:nG p=0:=by unfold nG;rw[if_neg hl,if_neg zQ,if_neg (λh=>h.elim hr hn)]
     repeat' first|refine aI ?_;intros|(refine qr ?_;intro wa hk;(rw[hc]))
end Go.Proofs.YtgfijddlkhkopaaGreat