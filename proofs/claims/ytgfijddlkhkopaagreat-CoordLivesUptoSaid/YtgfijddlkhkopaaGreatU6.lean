/- Part 6 of the proof. -/
import Derived.Shelf.SlIter.Nil
import Derived.Shelf.SlIterI.Nil
import Derived.Shelf.SortM.Plain
import Derived.Shelf.SortM.SortNone
import Derived.Ground.GgzProg
import Derived.Ground.SlgmProg
import Derived.Ground.SlsfProg
import Derived.Shelf.SlGeneric
import Derived.Test.YtgfijddlkhkopaaGreatProg
import Derived.Test.YtgfijddlkhkopaaGreatU5
set_option linter.all false
open Go.Value renaming string → aO
open List renaming map_map → bz, length_map → ah, length → ba, mergeSort_perm → sG, map_congr_left → ee, toList_toArray → cN, pairwise_mergeSort → uO, length_append → aa
open Bool renaming false_eq_true → aW
open Go.Shelf renaming Ren → iO
open Go.Fence renaming wide → gh
open Go.DataW renaming insert → vC
open Nat renaming lt_of_lt_of_le → av
open Go.Proofs.SlLaysZ renaming n7 → rR, n6 → Fv
open List.Perm renaming refl → ye
open Go.WideElems renaming rg → mG, rd → rS
open Function renaming comp_def → jL
open Go.World renaming cell? → fj
open Go.Builtin renaming len_ → mF, max_ → kY, max2 → rT
open Go.Proofs.SlLaysM renaming n6 → Fw, n5 → Fx
open Go.Proofs.SlLaysZI renaming n6 → Eb, n7 → Ec
namespace Go.Proofs
open Go.Proofs.Tryz renaming prog → pg
open Go.Shelf
def Tryz.OD:iO:=⟨fun|6=>118|8=>172|9=>114|11=>249|13=>143|12=>170|23=>210|24=>211|14=>240|15=>241|16=>242|17=>243|18=>244|19=>245|20=>246|21=>247|22=>248|25=>311|26=>283|27=>284|28=>312|29=>313|30=>314|31=>356|n=>n,fun|26=>9|28=>216|24=>40|0=>0|3=>3|37=>263|48=>351|50=>264|4=>4|40=>344|39=>343|45=>348|5=>5|9=>9|51=>411|55=>317|57=>466|58=>467|33=>282|n=>n,fun|n=>n⟩
theorem Tryz.alh:Fv pg Tryz.OD:= {
 mixed:=by kernel_rfl
 f6:=⟨Tryz.f118.name,by decide,Tryz.func118.trans Go.aL.kS⟩
 f8:=⟨Tryz.f172.name,by decide,Tryz.func172.trans Go.aL.kS⟩
 f11:=⟨Tryz.f249.name,by decide,Tryz.func249.trans Go.aL.kS⟩
 t0:=Tryz.underlying0
 a0:=Tryz.isAgg0
 z0:=Tryz.sizeOf0
 v0:=Tryz.zeroValue0
 t24:=Tryz.underlying40
 a24:=Tryz.isAgg40
 z24:=Tryz.sizeOf40
 v24:=Tryz.zeroValue40
 t26:=Tryz.underlying9
 a26:=Tryz.isAgg9
 z26:=Tryz.sizeOf9
 v26:=Tryz.zeroValue9
 t28:=Tryz.underlying216
 a28:=Tryz.isAgg216
 z28:=Tryz.sizeOf216
 v28:=Tryz.zeroValue216
 i26:=by kernel_rfl }
def Tryz.agr:iO:=⟨fun|6=>114|8=>143|9=>170|19=>210|20=>211|21=>240|22=>241|23=>242|24=>243|25=>244|26=>245|27=>246|28=>247|29=>248|36=>311|31=>283|32=>284|37=>312|38=>313|39=>314|41=>356|n=>n,fun|27=>40|29=>9|3=>3|32=>263|26=>40|0=>0|44=>351|46=>264|4=>4|36=>344|35=>343|41=>348|5=>5|9=>9|53=>411|57=>317|63=>466|64=>467|n=>n,fun|n=>n⟩
theorem Tryz.Wb:Fw pg Tryz.agr:= {
 mixed:=by kernel_rfl
 f6:=⟨Tryz.f114.name,by decide,Tryz.func114.trans Go.aL.kS⟩
 f8:=Tryz.func143.trans Go.aL.kS
 f9:=⟨Tryz.f170.name,by decide,Tryz.func170.trans Go.aL.kS⟩
 f19:=Tryz.func210.trans Go.aL.kS
 f20:=Tryz.func211.trans Go.aL.kS
 f21:=⟨Tryz.f240.name,by decide,Tryz.func240.trans Go.aL.kS⟩
 f22:=⟨Tryz.f241.name,by decide,Tryz.func241.trans Go.aL.kS⟩
 f23:=⟨Tryz.f242.name,by decide,Tryz.func242.trans Go.aL.kS⟩
 f24:=⟨Tryz.f243.name,by decide,Tryz.func243.trans Go.aL.kS⟩
 f25:=⟨Tryz.f244.name,by decide,Tryz.func244.trans Go.aL.kS⟩
 f26:=⟨Tryz.f245.name,by decide,Tryz.func245.trans Go.aL.kS⟩
 f27:=⟨Tryz.f246.name,by decide,Tryz.func246.trans Go.aL.kS⟩
 f28:=⟨Tryz.f247.name,by decide,Tryz.func247.trans Go.aL.kS⟩
 f29:=⟨Tryz.f248.name,by decide,Tryz.func248.trans Go.aL.kS⟩
 f31:=Tryz.func283.trans Go.aL.kS
 f32:=Tryz.func284.trans Go.aL.kS
 f36:=⟨Tryz.f311.name,by decide,Tryz.func311.trans Go.aL.kS⟩
 f37:=⟨Tryz.f312.name,by decide,Tryz.func312.trans Go.aL.kS⟩
 f38:=⟨Tryz.f313.name,by decide,Tryz.func313.trans Go.aL.kS⟩
 f39:=⟨Tryz.f314.name,by decide,Tryz.func314.trans Go.aL.kS⟩
 f41:=⟨Tryz.f356.name,by decide,Tryz.func356.trans Go.aL.kS⟩
 t0:=Tryz.underlying0
 a0:=Tryz.isAgg0
 z0:=Tryz.sizeOf0
 v0:=Tryz.zeroValue0
 t3:=Tryz.underlying3
 a3:=Tryz.isAgg3
 z3:=Tryz.sizeOf3
 v3:=Tryz.zeroValue3
 t4:=Tryz.underlying4
 a4:=Tryz.isAgg4
 z4:=Tryz.sizeOf4
 v4:=Tryz.zeroValue4
 t5:=Tryz.underlying5
 a5:=Tryz.isAgg5
 z5:=Tryz.sizeOf5
 v5:=Tryz.zeroValue5
 t9:=Tryz.underlying9
 a9:=Tryz.isAgg9
 z9:=Tryz.sizeOf9
 v9:=Tryz.zeroValue9
 t26:=Tryz.underlying40
 a26:=Tryz.isAgg40
 z26:=Tryz.sizeOf40
 v26:=Tryz.zeroValue40
 t27:=Tryz.underlying40
 a27:=Tryz.isAgg40
 z27:=Tryz.sizeOf40
 v27:=Tryz.zeroValue40
 t29:=Tryz.underlying9
 a29:=Tryz.isAgg9
 z29:=Tryz.sizeOf9
 v29:=Tryz.zeroValue9
 t32:=Tryz.underlying263
 a32:=Tryz.isAgg263
 z32:=Tryz.sizeOf263
 v32:=Tryz.zeroValue263
 t35:=Tryz.underlying343
 a35:=Tryz.isAgg343
 z35:=Tryz.sizeOf343
 v35:=Tryz.zeroValue343
 t36:=Tryz.underlying344
 a36:=Tryz.isAgg344
 z36:=Tryz.sizeOf344
 v36:=Tryz.zeroValue344
 t41:=Tryz.underlying348
 a41:=Tryz.isAgg348
 z41:=Tryz.sizeOf348
 v41:=Tryz.zeroValue348
 t44:=Tryz.underlying351
 a44:=Tryz.isAgg351
 z44:=Tryz.sizeOf351
 v44:=Tryz.zeroValue351
 t46:=Tryz.underlying264
 a46:=Tryz.isAgg264
 z46:=Tryz.sizeOf264
 v46:=Tryz.zeroValue264
 t53:=Tryz.underlying411
 a53:=Tryz.isAgg411
 z53:=Tryz.sizeOf411
 v53:=Tryz.zeroValue411
 t57:=Tryz.underlying317
 a57:=Tryz.isAgg317
 z57:=Tryz.sizeOf317
 v57:=Tryz.zeroValue317
 t63:=Tryz.underlying466
 a63:=Tryz.isAgg466
 z63:=Tryz.sizeOf466
 v63:=Tryz.zeroValue466
 t64:=Tryz.underlying467
 a64:=Tryz.isAgg467
 z64:=Tryz.sizeOf467
 v64:=Tryz.zeroValue467 }
def Tryz.OE:iO:=⟨fun|6=>120|8=>174|9=>175|11=>250|13=>143|12=>251|23=>210|24=>211|14=>315|15=>316|16=>317|17=>318|18=>319|19=>320|20=>321|21=>322|22=>323|25=>357|26=>283|27=>284|28=>358|29=>359|30=>360|31=>368|n=>n,fun|26=>3|28=>220|24=>43|0=>0|3=>3|37=>263|48=>351|50=>264|4=>4|40=>344|39=>343|45=>348|5=>5|9=>9|51=>411|55=>317|57=>466|58=>467|33=>190|n=>n,fun|n=>n⟩
theorem Tryz.ali:Eb pg Tryz.OE:= {
 mixed:=by kernel_rfl
 f6:=⟨Tryz.f120.name,by decide,Tryz.func120.trans Go.aL.kS⟩
 f8:=⟨Tryz.f174.name,by decide,Tryz.func174.trans Go.aL.kS⟩
 f11:=⟨Tryz.f250.name,by decide,Tryz.func250.trans Go.aL.kS⟩
 t0:=Tryz.underlying0
 a0:=Tryz.isAgg0
 z0:=Tryz.sizeOf0
 v0:=Tryz.zeroValue0
 t24:=Tryz.underlying43
 a24:=Tryz.isAgg43
 z24:=Tryz.sizeOf43
 v24:=Tryz.zeroValue43
 t26:=Tryz.underlying3
 a26:=Tryz.isAgg3
 z26:=Tryz.sizeOf3
 v26:=Tryz.zeroValue3
 t28:=Tryz.underlying220
 a28:=Tryz.isAgg220
 z28:=Tryz.sizeOf220
 v28:=Tryz.zeroValue220
 i26:=by kernel_rfl }
def Tryz.ags:iO:=⟨fun|5=>175|8=>143|7=>251|19=>210|20=>211|10=>315|11=>316|12=>317|13=>318|14=>319|15=>320|16=>321|17=>322|18=>323|30=>357|31=>283|32=>284|33=>358|34=>359|35=>360|40=>368|n=>n,fun|23=>43|25=>3|3=>3|32=>263|22=>43|0=>0|44=>351|46=>264|4=>4|36=>344|35=>343|41=>348|5=>5|9=>9|53=>411|57=>317|63=>466|64=>467|n=>n,fun|n=>n⟩
theorem Tryz.aj3:Fx pg Tryz.ags:= {
 mixed:=by kernel_rfl
 f5:=⟨Tryz.f175.name,by decide,Tryz.func175.trans Go.aL.kS⟩
 f7:=⟨Tryz.f251.name,by decide,Tryz.func251.trans Go.aL.kS⟩
 f8:=Tryz.func143.trans Go.aL.kS
 f10:=⟨Tryz.f315.name,by decide,Tryz.func315.trans Go.aL.kS⟩
 f11:=⟨Tryz.f316.name,by decide,Tryz.func316.trans Go.aL.kS⟩
 f12:=⟨Tryz.f317.name,by decide,Tryz.func317.trans Go.aL.kS⟩
 f13:=⟨Tryz.f318.name,by decide,Tryz.func318.trans Go.aL.kS⟩
 f14:=⟨Tryz.f319.name,by decide,Tryz.func319.trans Go.aL.kS⟩
 f15:=⟨Tryz.f320.name,by decide,Tryz.func320.trans Go.aL.kS⟩
 f16:=⟨Tryz.f321.name,by decide,Tryz.func321.trans Go.aL.kS⟩
 f17:=⟨Tryz.f322.name,by decide,Tryz.func322.trans Go.aL.kS⟩
 f18:=⟨Tryz.f323.name,by decide,Tryz.func323.trans Go.aL.kS⟩
 f19:=Tryz.func210.trans Go.aL.kS
 f20:=Tryz.func211.trans Go.aL.kS
 f30:=⟨Tryz.f357.name,by decide,Tryz.func357.trans Go.aL.kS⟩
 f31:=Tryz.func283.trans Go.aL.kS
 f32:=Tryz.func284.trans Go.aL.kS
 f33:=⟨Tryz.f358.name,by decide,Tryz.func358.trans Go.aL.kS⟩
 f34:=⟨Tryz.f359.name,by decide,Tryz.func359.trans Go.aL.kS⟩
 f35:=⟨Tryz.f360.name,by decide,Tryz.func360.trans Go.aL.kS⟩
 f40:=⟨Tryz.f368.name,by decide,Tryz.func368.trans Go.aL.kS⟩
 t0:=Tryz.underlying0
 a0:=Tryz.isAgg0
 z0:=Tryz.sizeOf0
 v0:=Tryz.zeroValue0
 t3:=Tryz.underlying3
 a3:=Tryz.isAgg3
 z3:=Tryz.sizeOf3
 v3:=Tryz.zeroValue3
 t4:=Tryz.underlying4
 a4:=Tryz.isAgg4
 z4:=Tryz.sizeOf4
 v4:=Tryz.zeroValue4
 t5:=Tryz.underlying5
 a5:=Tryz.isAgg5
 z5:=Tryz.sizeOf5
 v5:=Tryz.zeroValue5
 t9:=Tryz.underlying9
 a9:=Tryz.isAgg9
 z9:=Tryz.sizeOf9
 v9:=Tryz.zeroValue9
 t22:=Tryz.underlying43
 a22:=Tryz.isAgg43
 z22:=Tryz.sizeOf43
 v22:=Tryz.zeroValue43
 t23:=Tryz.underlying43
 a23:=Tryz.isAgg43
 z23:=Tryz.sizeOf43
 v23:=Tryz.zeroValue43
 t25:=Tryz.underlying3
 a25:=Tryz.isAgg3
 z25:=Tryz.sizeOf3
 v25:=Tryz.zeroValue3
 t32:=Tryz.underlying263
 a32:=Tryz.isAgg263
 z32:=Tryz.sizeOf263
 v32:=Tryz.zeroValue263
 t35:=Tryz.underlying343
 a35:=Tryz.isAgg343
 z35:=Tryz.sizeOf343
 v35:=Tryz.zeroValue343
 t36:=Tryz.underlying344
 a36:=Tryz.isAgg344
 z36:=Tryz.sizeOf344
 v36:=Tryz.zeroValue344
 t41:=Tryz.underlying348
 a41:=Tryz.isAgg348
 z41:=Tryz.sizeOf348
 v41:=Tryz.zeroValue348
 t44:=Tryz.underlying351
 a44:=Tryz.isAgg351
 z44:=Tryz.sizeOf351
 v44:=Tryz.zeroValue351
 t46:=Tryz.underlying264
 a46:=Tryz.isAgg264
 z46:=Tryz.sizeOf264
 v46:=Tryz.zeroValue264
 t53:=Tryz.underlying411
 a53:=Tryz.isAgg411
 z53:=Tryz.sizeOf411
 v53:=Tryz.zeroValue411
 t57:=Tryz.underlying317
 a57:=Tryz.isAgg317
 z57:=Tryz.sizeOf317
 v57:=Tryz.zeroValue317
 t63:=Tryz.underlying466
 a63:=Tryz.isAgg466
 z63:=Tryz.sizeOf466
 v63:=Tryz.zeroValue466
 t64:=Tryz.underlying467
 a64:=Tryz.isAgg467
 z64:=Tryz.sizeOf467
 v64:=Tryz.zeroValue467 }
def Tryz.U7:iO:=⟨fun|7=>119|10=>173|n=>n,fun|23=>109|26=>9|3=>150|28=>216|0=>0|27=>215|33=>282|4=>4|n=>n,fun|n=>n⟩
theorem Tryz.apz:rR pg Tryz.U7:= {
 mixed:=by kernel_rfl
 f7:=⟨Tryz.f119.name,by decide,Tryz.func119.trans Go.aL.kS⟩
 f10:=⟨Tryz.f173.name,by decide,Tryz.func173.trans Go.aL.kS⟩
 t0:=Tryz.underlying0
 a0:=Tryz.isAgg0
 z0:=Tryz.sizeOf0
 v0:=Tryz.zeroValue0
 t4:=Tryz.underlying4
 a4:=Tryz.isAgg4
 z4:=Tryz.sizeOf4
 v4:=Tryz.zeroValue4
 t23:=Tryz.underlying109
 a23:=Tryz.isAgg109
 z23:=Tryz.sizeOf109
 v23:=Tryz.zeroValue109
 t26:=Tryz.underlying9
 a26:=Tryz.isAgg9
 z26:=Tryz.sizeOf9
 v26:=Tryz.zeroValue9
 t27:=Tryz.underlying215
 a27:=Tryz.isAgg215
 z27:=Tryz.sizeOf215
 v27:=Tryz.zeroValue215
 t28:=Tryz.underlying216
 a28:=Tryz.isAgg216
 z28:=Tryz.sizeOf216
 v28:=Tryz.zeroValue216
 t33:=Tryz.underlying282
 a33:=Tryz.isAgg282
 z33:=Tryz.sizeOf282
 v33:=Tryz.zeroValue282 }
def Tryz.U9:iO:=⟨fun|7=>169|10=>239|n=>n,fun|23=>287|26=>9|3=>97|28=>216|0=>0|27=>215|33=>282|4=>4|n=>n,fun|n=>n⟩
theorem Tryz.apA:rR pg Tryz.U9:= {
 mixed:=by kernel_rfl
 f7:=⟨Tryz.f169.name,by decide,Tryz.func169.trans Go.aL.kS⟩
 f10:=⟨Tryz.f239.name,by decide,Tryz.func239.trans Go.aL.kS⟩
 t0:=Tryz.underlying0
 a0:=Tryz.isAgg0
 z0:=Tryz.sizeOf0
 v0:=Tryz.zeroValue0
 t4:=Tryz.underlying4
 a4:=Tryz.isAgg4
 z4:=Tryz.sizeOf4
 v4:=Tryz.zeroValue4
 t23:=Tryz.underlying287
 a23:=Tryz.isAgg287
 z23:=Tryz.sizeOf287
 v23:=Tryz.zeroValue287
 t26:=Tryz.underlying9
 a26:=Tryz.isAgg9
 z26:=Tryz.sizeOf9
 v26:=Tryz.zeroValue9
 t27:=Tryz.underlying215
 a27:=Tryz.isAgg215
 z27:=Tryz.sizeOf215
 v27:=Tryz.zeroValue215
 t28:=Tryz.underlying216
 a28:=Tryz.isAgg216
 z28:=Tryz.sizeOf216
 v28:=Tryz.zeroValue216
 t33:=Tryz.underlying282
 a33:=Tryz.isAgg282
 z33:=Tryz.sizeOf282
 v33:=Tryz.zeroValue282 }
def Tryz.Va:iO:=⟨fun|7=>231|10=>306|n=>n,fun|23=>370|26=>9|3=>3|28=>216|0=>0|27=>215|33=>282|4=>4|n=>n,fun|n=>n⟩
theorem Tryz.apB:rR pg Tryz.Va:= {
 mixed:=by kernel_rfl
 f7:=⟨Tryz.f231.name,by decide,Tryz.func231.trans Go.aL.kS⟩
 f10:=⟨Tryz.f306.name,by decide,Tryz.func306.trans Go.aL.kS⟩
 t0:=Tryz.underlying0
 a0:=Tryz.isAgg0
 z0:=Tryz.sizeOf0
 v0:=Tryz.zeroValue0
 t4:=Tryz.underlying4
 a4:=Tryz.isAgg4
 z4:=Tryz.sizeOf4
 v4:=Tryz.zeroValue4
 t23:=Tryz.underlying370
 a23:=Tryz.isAgg370
 z23:=Tryz.sizeOf370
 v23:=Tryz.zeroValue370
 t26:=Tryz.underlying9
 a26:=Tryz.isAgg9
 z26:=Tryz.sizeOf9
 v26:=Tryz.zeroValue9
 t27:=Tryz.underlying215
 a27:=Tryz.isAgg215
 z27:=Tryz.sizeOf215
 v27:=Tryz.zeroValue215
 t28:=Tryz.underlying216
 a28:=Tryz.isAgg216
 z28:=Tryz.sizeOf216
 v28:=Tryz.zeroValue216
 t33:=Tryz.underlying282
 a33:=Tryz.isAgg282
 z33:=Tryz.sizeOf282
 v33:=Tryz.zeroValue282 }
def Tryz.Vb:iO:=⟨fun|7=>164|10=>230|n=>n,fun|23=>281|26=>3|3=>40|28=>220|0=>0|27=>219|33=>190|4=>4|n=>n,fun|n=>n⟩
theorem Tryz.apC:Ec pg Tryz.Vb:= {
 mixed:=by kernel_rfl
 f7:=⟨Tryz.f164.name,by decide,Tryz.func164.trans Go.aL.kS⟩
 f10:=⟨Tryz.f230.name,by decide,Tryz.func230.trans Go.aL.kS⟩
 t0:=Tryz.underlying0
 a0:=Tryz.isAgg0
 z0:=Tryz.sizeOf0
 v0:=Tryz.zeroValue0
 t4:=Tryz.underlying4
 a4:=Tryz.isAgg4
 z4:=Tryz.sizeOf4
 v4:=Tryz.zeroValue4
 t23:=Tryz.underlying281
 a23:=Tryz.isAgg281
 z23:=Tryz.sizeOf281
 v23:=Tryz.zeroValue281
 t26:=Tryz.underlying3
 a26:=Tryz.isAgg3
 z26:=Tryz.sizeOf3
 v26:=Tryz.zeroValue3
 t27:=Tryz.underlying219
 a27:=Tryz.isAgg219
 z27:=Tryz.sizeOf219
 v27:=Tryz.zeroValue219
 t28:=Tryz.underlying220
 a28:=Tryz.isAgg220
 z28:=Tryz.sizeOf220
 v28:=Tryz.zeroValue220
 t33:=Tryz.underlying190
 a33:=Tryz.isAgg190
 z33:=Tryz.sizeOf190
 v33:=Tryz.zeroValue190 }
end Go.Proofs
namespace Go.Proofs.YtgfijddlkhkopaaGreat
open Go.Proofs.Tryz renaming prog → pg
open Go.aL Go.RowKit Go.Maps Go.Sort Go.Shelf Go.Proofs
set_option maxRecDepth 100000
set_option maxHeartbeats 4000000
variable {H : Type}
theorem insert_perm (x:Lit×DataW H): ∀l:List (Lit×DataW H),(vC x l).Perm (x::l)
 |[]=>ye _
 |y::r=>by
  unfold vC;split
  ·exact ye _
  ·exact((insert_perm x r).cons y).trans (List.Perm.swap x y r)
theorem yf: ∀l:List (Lit×DataW H),(l.foldr vC []).Perm l
 |[]=>ye _
 |x::l=>(insert_perm x _).trans ((yf l).cons x)
def RT:Value->Option (DataW Unit×List MemPlace):=λ_=>some (.lit (.bool true),[])
variable {b kt : Nat} {X : XS} {w : World} {P : Program}
theorem abv {c:Nat} {es:List (jr ByteArray)} (h:mg w X b aO es c) (hk:P.underlying kt=some .string) (hs: ∀x∈es,x.1.size<=2^40) (hl:es.length<=2^40):
  ∃D0:DataW Unit,w.ownsMap P kt RT b es.length D0/\Maps.size D0=es.length/\(strKeys D0).Perm (es.map λx=>x.1.data.toList):=by
 have Ho:(2:Nat)^40<=maxLen:=by decide
 have nC: ∀x∈es,keyOf P kt (.string x.1)=some (.string x.1.data.toList):=λx hx=>by
  unfold keyOf mapKey;rw[hk]
  grind
 have jw: ∀x∈es,rS P kt RT (lB aO x)=some (.string x.1.data.toList,.lit (.bool true)):=λx hx=>by grind [rS,lB,RT]
 have ai5:(es.map (lB aO)).map (mG P kt RT)=es.map λx=>((.string x.1.data.toList:Lit),(.lit (.bool true):DataW Unit)):=by
  rw[bz];apply ee;intro x hx;simp only[Function.comp,mG,jw x hx,Option.getD_some]
 refine⟨.map (((es.map (lB aO)).map (mG P kt RT)).foldr vC []),⟨_,c,h.2.1,⟨?_,⟨?_,?_,?_⟩,?_⟩,by simp,by simp⟩,?_,?_⟩
 ·grind
 ·intro x hx;simp only[cN,List.mem_map] at hx;obtain⟨y,hy,rfl⟩:=hx;exact h.2.2.2.2 y hy
 ·have:=h.2.2.2.1;simpa [bz,jL,lB] using this
 ·have h1:=h.2.2.1;have e:((es.map (lB aO)).toArray.toList.map (·.key))=(es.map (·.1)).map aO:=by simp[bz,jL,lB]
  rw[e];exact List.Pairwise.map aO (λa b wI e=>wI (by cases e;rfl)) h1
 ·intro x hx;simp only[cN,List.mem_map] at hx;obtain⟨y,hy,rfl⟩:=hx;exact⟨_,jw y hy⟩
 ·show ba _=_
  rw[(yf _).length_eq];simp
 ·show(List.map _ _).Perm _
  refine((yf _).map _).trans ?_;rw[ai5,bz];rfl
def leB (x y:List UInt8):Bool:=decide (x<=y)
def bl (s:ByteArray):List UInt8:=s.data.toList
theorem apD (s:ByteArray):(⟨(bl s).toArray⟩:ByteArray)=s:=by rfl
def fR (ks:List ByteArray):List ByteArray:=((ks.map bl).mergeSort leB).map λx=>⟨x.toArray⟩
theorem Vc: ∀a b c:List UInt8,leB a b=true->leB b c=true->leB a c=true:=λa b c h1 h2=>by
 unfold leB at*
 grind
theorem Vd: ∀a b:List UInt8,(leB a b||leB b a)=true:=λa b=>by grind [leB]
theorem ai6: ∀a b:List UInt8,leB a b=true->leB b a=true->a=b:=λa b h1 h2=>by
 unfold leB at*
 grind
theorem Ve: ∀{l l':List (List UInt8)},l.Perm l'->l.Pairwise (λa b=>leB a b=true)->l'.Pairwise (λa b=>leB a b=true)->l=l'
 |[],l',hp,_,_=>(List.Perm.nil_eq hp)
 |a::l,[],hp,_,_=>absurd hp.length_eq sQ
 |a::l,b::l',hp,h1,h2=>by
  have Ks:=List.pairwise_cons.1 h1;have h2':=List.pairwise_cons.1 h2;have wI:a=b:=by
   have ha:a∈b::l':=hp.mem_iff.1 sQ;have hb:b∈a::l:=hp.mem_iff.2 sQ;rcases List.mem_cons.1 ha with e|ha
   ·exact e
   ·rcases List.mem_cons.1 hb with e|hb
    ·exact e.symm
    ·exact ai6 a b (Ks.1 b hb) (h2'.1 a ha)
  subst wI;rw[Ve (List.Perm.cons_inv hp) Ks.2 h2'.2]
theorem Vf {l l':List (List UInt8)} (h:l.Perm l'):l.mergeSort leB=l'.mergeSort leB:=
 Ve (((sG l leB).trans h).trans (sG l' leB).symm) (uO Vc Vd l) (uO Vc Vd l')
theorem kF (ks:List ByteArray):(fR ks).Perm ks:=by
 have h:=(sG (ks.map bl) leB).map λx=>(⟨x.toArray⟩:ByteArray);rw[bz] at h;have e:(ks.map ((λx=>(⟨x.toArray⟩:ByteArray))∘bl))=ks:=by
  conv=>rhs;rw[<-List.map_id ks]
  apply ee;intro x _;exact apD x
 rw[e] at h;exact h
theorem ahR {ks ks':List ByteArray} (h:ks.Perm ks'):fR ks=fR ks':=by grind [fR,Vf]
def ai7 (m:Nat):AnyZ.SortsIn pg Tryz.OD gh m:=
  ⟨λeT off cap ss W hH hblk gd=>callsIn_wide.2 (AnyM.slices_Sort_string Tryz.Wb eT off cap ss W hH hblk gd),
   λp cap W=>callsIn_wide.2 (AnyM.slices_Sort_string_none Tryz.Wb p cap W)⟩
variable {mb : Nat} {A : XS}
theorem PO {g:FuncId} {lb:Array Value} {α:Type} {rd:World->XS->Value->α->Prop} {l:List (ByteArray×α)} (h:dK w X A mb aO rd l) (eg:enters pg g=true)
  (hs: ∀x∈l,x.1.size<=2^40) (hl:l.length<=2^40)
  (hg: ∀wa,Kp X w wa-> ∀(nn:Nat) (D0:DataW Unit),wa.ownsMap pg 9 RT mb nn D0->SeqGives gh 2 pg g lb encStr (λss=>ss.Perm (strKeys D0)) (Maps.size D0) wa):
  Ct pg 118 #[.func (.func g) #[] lb] w X nX λv wa w'=>Own w' (made wa w') wa.heap.size 9 1 v ((fR (l.map (·.1))).map S1):=by
 intro wa hk;obtain⟨es,c,h1,h2⟩:=h;have Cn:=h2.keys;have hlen:es.length=l.length:=by have:=congrArg ba Cn;simpa using this
 obtain⟨D0,xx,gd,RW⟩:=abv (P:=pg) (h1.kp hk) (kt:=9) kQ (λx hx=>by
  have:x.1∈l.map (·.1):=by rw[<-Cn];exact List.mem_map.2 ⟨x,hx,rfl⟩
  obtain⟨y,hy,e⟩:=List.mem_map.1 this
  grind) zQ
 have Ho:(2:Nat)^40<=maxLen:=by decide
 have hS:=callsIn_wide.1 (AnyZ.sorted_in Tryz.alh gh 5 trivial trivial trivial trivial rfl zQ (ai7 _) (λargs w=>oR kQ args w) g lb trivial (λargs w=>oR eg args w) _ _ zQ zQ wa (hg wa hk _ D0 xx));refine hS.mono ?_;rintro e w' ⟨v,ss,rfl,hp,bw,ahO,hb⟩;have hx:Ext wa w':=⟨hb.os,hb.tape,hb.output,hb.size,λk af _=>hb.block k af⟩;refine⟨v,rfl,hx,?_⟩;have e1:ss.mergeSort (λx y=>decide (x<=y))=(l.map λx=>bl x.1).mergeSort leB:=by
  have hp2:ss.Perm (l.map λx=>bl x.1):=by
   refine hp.trans (RW.trans ?_);have:(es.map λx=>x.1.data.toList)=(l.map λx=>bl x.1):=by
    have:=congrArg (List.map bl) Cn;simpa [bz,jL,bl] using this
   rw[this]
  exact Vf hp2
 have e2:((ss.mergeSort (λx y=>decide (x<=y))).map encStr)=((fR (l.map (·.1))).map S1).flatten:=by
  rw[e1];unfold fR;rw[bz,bz];have e3: ∀q:List (List UInt8),q.map encStr=(q.map (S1∘λx=>(⟨x.toArray⟩:ByteArray))).flatten:=λq=>by
   induction q with
   |nil=>rfl
   |cons a q ih=>simp only[List.map_cons,List.flatten_cons,<-ih];rfl
  exact e3 _
 have si:ss.length=((fR (l.map (·.1))).map S1).length:=by
  rw[ah,(kF _).length_eq,ah,<-hlen];have:=hp.length_eq;rw[this,RW.length_eq,ah]
 refine⟨λr hr=>by obtain⟨x,_,rfl⟩:=List.mem_map.1 hr;rfl,?_,λq hq=>⟨?_,?_⟩⟩
 ·rw[<-si,<-e2];exact bw
 ·exact(bw.lt _ hq).1
 ·exact(bw.lt _ hq).2
attribute [local irreducible] un jn jk iA ld1 su st1 kT kU oY rE pH Jp Ew gR gu aX lR lS eW eV eU eC eF gE mR fin iE bu dG vS NO Jq Jr Js Jt Ju NP NR NS NT FN FO Jv Jw Jx NU NV NW
variable {R : Ending -> World -> Prop} {w0 : World} {F F0 G : XS} {db o' t z : Nat} {m : DM} {N : Value -> Prop}
section
variable {l : List (ByteArray × mU)}
theorem an2 {κ α:Type} [DecidableEq κ] {ty et:Nat} {kv:κ->Value} {rd:World->XS->Value->α->Prop} {l:List (κ×α)} (h:dK w X A b kv rd l) (ht:P.underlying t=some (.map kt et))
  (n:N (I l.length)):aX P X w (mF #[t] ty #[.map (some b)]) N:=by
 obtain⟨es,c,h1,h2⟩:=h;refine Hp (I l.length) (λwa hk=>?_) n;have hl:es.length=l.length:=by have:=congrArg ba h2.keys;simpa using this
 simp[mF,run_underlying ht,getObj,Sem.run,((h1.kp hk).2.1),goInt,hl]
theorem apE {t ty:TypeId} {a b:Int} (h:N (I (max a b))):aX P X w (kY #[t,t] ty #[I a,I b]) N:=
 bF (λwa=>by
  simp only[kY,List.foldlM];by_cases hc:a<b
  ·have:max a b=b:=by omega
   simp[rT,hc,this]
  ·have:max a b=a:=by omega
   simp[rT,hc,this]) h
def agt {t:TypeId} {a b:Int} (h:N (.int .i64 (IntKind.i64.wrap (a+b)))):aX P X w (binOp .add t (.int .i64 a) (.int .i64 b)) N:=nI h
theorem xI {N:Value->World->XS->Prop} {o:Nat} {v:Value} (hT:Ft w0 F0 w X F) (h:nK w G db mb l m z) (hG: ∀k,G k->F k) (m':DM) (z':Nat) (L5:o'=o) (ht:((P.info? t).map (·.size))=some 1) (ho:o+1<=5) (h1:aL.one v=true)
  (hc:dr [.map (some mb),I z,I m.wr,I m.ar,B m.dn] o [v]=[.map (some mb),I z',I m'.wr,I m'.ar,B m'.dn]) (Om:m'.fs=m.fs) (har:m'.ar<2^63)
  (n: ∀w' X',Ft w0 F0 w' X' F->nK w' G db mb l m' z'->dY (· =db) X w X' w'->N undef w' X'):eU P R X w true (st1 t 1 (ptr db o') v) N:=by
 subst L5;have hX: ∀k,G k->X k:=λk hk=>hT.bA k (hG k hk);have hv:v.cells= #[v]:=sL h1;refine D4 (h.box.mv (Mv.sub hX)) ht ho (by rw[hv];rfl) (by rw[hv];simp[h1]) hT.s.has λw' X' c hr=>?_;rw[hv] at hr;rw[hc] at hr;exact n w' X' (hT.dX c (λk hk=>by subst hk;exact hG _ h.box.1) λk hk=>.inl hk) (h.an1 hX c hr Om har) c
end
variable {n : ByteArray}
theorem sU {l:List (ByteArray×mU)} (hm:dK w X nX mb aO OC l) (n1: ∀f,getM n l=some f->N (ptr f.b 0)) (n0:getM n l=none->N (.pointer none)):
  aX pg X w (Instr.lookup 109 (.map (some mb)) (.string n) false) N:=
 mL (kt:=9) (et:=150) (.pointer none) hm (IG kQ) kQ kQ (λv f h1 h2=>by
  have h2:v=ptr f.b 0:=h2;subst h2;exact n1 f h1) n0
theorem OF {l:List (ByteArray×mU)} (h:nK w F db mb l m z) (hF:FX F X w) (jN:m.dn=false):
  Ct pg 280 #[ptr db 0] w X F λv wa w'=>v=B m.tick.dn/\nK w' F db mb l m.tick z:=by
 intro w0 hk;have h0:=h.mv (hF.mv hk);have hT:=hF.ft hk;clear h;have har:=h0.ar;refine Nv.1 λ_=>?_;have hb:=h0.box.mv (Mv.sub hT.bA);rw[jN] at hb;have vH: ∀k,F k->F k:=λ_ h=>h;refine cD ?_;repeat' first|refine ak ?_;intros|refine cQ ?_ ?_<;>intros|with_reducible apply cD
 ·refine xI hT h0 vH { m with ar:=m.ar-1 } z (o:=3) zQ kQ zQ rfl (by rw[show((m.ar-1:Nat):Int)=(m.ar:Int)-1 by omega];rfl) rfl (by show m.ar-1<_;omega) λw1 X1 hT h1 c1=>?_;clear hb h0;have hb:=h1.box.mv (Mv.sub hT.bA);repeat' first|refine ak ?_;intros|refine cQ ?_ ?_<;>intros
  ·refine xI hT h1 vH { m with ar:=m.ar-1,dn:=true } z (o:=4) zQ kQ zQ rfl rfl rfl h1.ar λw1 X1 hT h2 c1=>?_;clear hb h1;have hb:=h2.box.mv (Mv.sub hT.bA);have q':((m.ar-1:Nat):Int)=0:=by assumption
   have rK:m.ar=1:=by omega
   repeat' first|refine ak ?_;intros|with_reducible apply cD
   refine hT.fin λwa aI=>⟨by rw[DM.tick,if_pos rK],?_⟩;rw[DM.tick,if_pos rK];rw[show m.ar-1=0 by omega] at h2;exact h2.mv (aI.jd hT.bA)
  ·refine xI hT h1 vH { m with ar:=m.ar-1,dn:=false } z (o:=4) zQ kQ zQ rfl rfl rfl h1.ar λw1 X1 hT h2 c1=>?_;clear hb h1;have hb:=h2.box.mv (Mv.sub hT.bA);have q': ¬((m.ar-1:Nat):Int)=0:=by assumption
   have rK: ¬m.ar=1:=by omega
   repeat' first|refine ak ?_;intros|with_reducible apply cD|(with_reducible apply agt)
   refine xI hT h2 vH { m with ar:=m.ar-1,dn:=false,wr:=IntKind.i64.wrap (m.wr+1) } z (o:=2) zQ kQ zQ rfl rfl rfl h2.ar λw1 X1 hT h3 c1=>?_;clear hb h2;have hb:=h3.box.mv (Mv.sub hT.bA);repeat' refine ak ?_;intros
   refine hT.fin λwa aI=>⟨by rw[DM.tick,if_neg rK,jN],?_⟩;rw[DM.tick,if_neg rK];have h4:=h3.mv (aI.jd hT.bA);rw[<-jN] at h4;exact h4
 ·have rK: ¬m.ar=1:=by omega
  have ha0:m.ar-1=m.ar:=by omega
  repeat' first|refine ak ?_;intros|(with_reducible apply agt)
  refine xI hT h0 vH { m with wr:=IntKind.i64.wrap (m.wr+1) } z (o:=2) zQ kQ zQ rfl rfl rfl h0.ar λw1 X1 hT h3 c1=>?_;clear hb h0;have hb:=h3.box.mv (Mv.sub hT.bA);rw[jN] at hb;repeat' refine ak ?_;intros
  refine hT.fin λwa aI=>⟨by rw[DM.tick,if_neg rK,jN],?_⟩;rw[DM.tick,if_neg rK,ha0];exact h3.mv (aI.jd hT.bA)
theorem abw (n:ByteArray):Pure pg 255 #[.string n] (B (vM n)):=by
 intro w0;refine ZC.1 λhs=>?_;repeat' first|refine ak ?_;intros|refine cQ ?_ ?_<;>intros|(with_reducible refine fK hs ?_);(simp_all [vM]<;>omega)
theorem ad3:Ct pg 35 #[] w X nX λv wa w'=> ∃db,v=ptr db 0/\Dk w' (made wa w') db ⟨[],0,0,false⟩:=by
 intro w0 hk;refine abd.1 λhs=>?_;refine qY (kv:=aO) OC nX hs.has λmb w1 X1 Z7 ax qo=>?_;replace hs:=hs.trans ax;refine aer kQ ?_;refine A6 hs.has λbx w2 X2 gr bB bw=>?_;have ri:=qo.mv lW bB.mv (λ_ h=>h.elim) (A':=nX);have hz:=hs.kp.size;refine bS (hs.trans bB) λwa aI=>⟨bx,rfl,mb,[],⟨rfl,⟨⟨by omega,(bw.kp aI).lt⟩,(bw.kp aI).2⟩,?_,by simp,by simp,List.Pairwise.nil,by decide,by simp⟩,by decide⟩;exact ri.own.mv lW (Mv.one aI ri.x.1 ⟨Z7,av ri.x.2 aI.size⟩) λ_ h=>h.elim
theorem aaZ (h:Dk w F db m) (hF:FX F X w):Ct pg 125 #[ptr db 0] w X nX λv wa w'=>v=B m.dn:=by
 intro w0 hk;obtain⟨mb,l,h0,hz⟩:=h.mv (hF.mv hk);have hb:=h0.box.mv (Mv.sub λk af=>(hF.kp hk k af).1);refine Nq.1 λhs=>?_;repeat' first|refine ak ?_;intros|(refine qr ?_;intro wa hk;rfl)
theorem QH (h:Dk w F db m) (hF:FX F X w):Ct pg 258 #[ptr db 0,.string n] w X nX λv wa w'=>v=I (if(m.get n).isSome then 0 else 8):=by
 intro w0 hk;obtain⟨mb,l,h0,hz⟩:=h.mv (hF.mv hk);have hX:=λk af=>(hF.kp hk k af).1;have hb:=h0.box.mv (Mv.sub hX);have hg:=h0.get n;have hm:=h0.map.mv lW (Mv.sub hX) (A':=nX) λ_ h=>h.elim;refine PE.1 λhs=>?_;repeat' refine ak ?_;intros
 refine sU hm (λf h1=>?_) λh1=>?_
 ·repeat' first|refine ak ?_;intros|(refine qr ?_;intro wa hk;(rw[hg,h1];rfl))
 ·repeat' first|refine ak ?_;intros|(refine qr ?_;intro wa hk;(rw[hg,h1];rfl))
theorem EK {f:Nat} {c:List Value} {e:Nat} {g:DM->DM} (h:Dk w F db m) (hF:FX F X w) (hA: ∀k,A k->X k/\k<w.heap.size/\ ¬F k) (hf:enters pg f=true)
  (hdo:e=0-> ∀w1 X1,Mv A w A w1->(∀k,A k->X1 k)->FX F X1 w1->Dk w1 F db m.tick->Ct pg f c.toArray w1 X1 F λv wa w'=>v= .tuple #[]/\ ∃F',(∀k,F' k->F k\/made wa w' k)/\Dk w' F' db (g m.tick)):
  Ct pg 256 #[ptr db 0,I e,.func (.func f) #[] c.toArray] w X F λv wa w'=>v=I (m.write e g).2/\ ∃F',(∀k,F' k->F k\/made wa w' k)/\Dk w' F' db (m.write e g).1:=by
 intro w0 hk;obtain⟨mb,l,h0,hz⟩:=h.mv (hF.mv hk);have hT:=hF.ft hk;have nL:FX F (bK w0) w0:=hF.kp hk;have hAm:Mv A w A w0:=λk af _=>⟨af,hk.block k (hA k af).1⟩;have hb:=h0.box.mv (Mv.sub hT.bA);have hs:=ai.init w0;have stay: ∀{w1 X1} (m':DM),Ft w0 F w1 X1 F->nK w1 F db mb l m' m'.sz->m'.sz<=4194304-> ∀wa,Kp X1 w1 wa-> ∃F',(∀k,F' k->F k\/made w0 wa k)/\Dk wa F' db m':=λm' hT h1 hz wa aI=>⟨F,hT.ju aI λ_ h=>h,mb,l,h1.mv (aI.jd hT.bA),hz⟩;have htz:m.tick.sz=m.sz:=by unfold DM.tick DM.sz;split<;>rfl
 refine Mc.1 λ_=>?_;cases jN:m.dn
 ·rw[jN] at hb;repeat' first|refine ak ?_;intros|refine cQ ?_ ?_<;>intros
  ·have he:e≠0:=by omega
   refine hT.fin λwa aI=>⟨?_,?_⟩
   ·simp[DM.write,jN,he]
   ·simp only[DM.write,jN,he,aW,if_false,ne_eq,not_false_eq_true,if_true];exact stay m hT h0 hz wa aI
  ·have he:e=0:=by omega
   refine hT.call (OF h0 nL jN) kQ (λ_ h=>h) λv wa w2 X2 hq hle gv cY hc=>?_;obtain⟨rfl,h2⟩:=hq;replace cY:Ft w0 F w2 X2 F:=cY.less λk hk=>.inl hk;rw[<-htz] at h2;cases ht:m.tick.dn
   ·repeat' refine ak ?_;intros
    refine cY.call (hdo he w2 X2 (hAm.trans (hc.jd λk af=>⟨av (hA k af).2.1 hk.size,(hA k af).2.2⟩)) (λk af=>hc.sub k (av (hA k af).2.1 hk.size)) (cY.fx λ_ h=>h) ⟨mb,l,h2,htz▸hz⟩) hf (λ_ h=>h) λv ze w3 X3 Qm qB mz dU uD=>?_;obtain⟨rfl,F',CU,hD⟩:=Qm;refine dU.fin λFZ aI=>⟨?_,F',dU.ju aI CU,?_⟩
    ·simp[DM.write,jN,he,ht]
    ·simp only[DM.write,jN,he,ht,aW,if_false,ne_eq,not_true_eq_false];exact hD.mv (aI.jd λk af=>dU.bA k (CU k af))
   ·repeat' refine ak ?_;intros
    refine cY.fin λwa aI=>⟨?_,?_⟩
    ·simp[DM.write,jN,he,ht]
    ·simp only[DM.write,jN,he,ht,aW,if_false,ne_eq,not_true_eq_false,if_true];exact stay _ cY h2 (htz▸hz) wa aI
 ·rw[jN] at hb;repeat' refine ak ?_;intros
  refine hT.fin λwa aI=>⟨?_,?_⟩
  ·simp[DM.write,jN]
  ·simp only[DM.write,jN,if_true];exact stay m hT h0 hz wa aI
section
variable {l : List (ByteArray × mU)} {f : mU} {N : Value -> World -> XS -> Prop}
theorem aeQ {x:Int} {s':Nat} (hT:Ft w0 F0 w X F) (h:nK w G db mb l m z) (hG: ∀k,G k->F k) (hn:getM n l=some f) (ho:o'=1) (hx:x=s') (hs:s'<=f.bs.length)
  (k: ∀w' X',Ft w0 F0 w' X' F->nK w' G db mb (cK n ⟨f.b,f.v,f.bs,s'⟩ l) (m.put n f.bs s') z->N undef w' X'):eU pg R X w true (st1 3 1 (ptr f.b o') (I x)) N:=by
 subst ho;subst hx;have hX: ∀k,G k->X k:=λk hk=>hT.bA k (hG k hk);have hr:=h.row _ (gP hn);have ho:=h.ow _ (gP hn);refine D4 (hr.mv (Mv.sub hX)) kQ sQ rfl rfl hT.s.has λw' X' c jS=>?_;have hT':Ft w0 F0 w' X' F:=hT.dX c (λk hk=>by subst hk;exact hG _ hr.1) λk hk=>.inl hk;refine k w' X' hT' (h.jR (F':=G) (hT.fx hG) c hn (λk hk=>.inl hk) (λ_ h=>h) ⟨hr.1,jS.2⟩ ?_ (.inl rfl) hs);exact ho.tight.mv λk hk hl=>⟨(ho.bA hk).1,c.block k (hX k (ho.bA hk).1) λe=>ho.eH hr kQ (by rw[<-(show k=f.b from e)];exact hk)⟩
theorem agu {vs:Value} {b:List Nat} (hT:Ft w0 F0 w X F) (h:nK w G db mb l m z) (hG: ∀k,G k->F k) (hn:getM n l=some f) (src:Sl w X 1 vs (b.map U1)) (hl:f.bs.length+b.length<=2^40)
  (k: ∀w' X',Ft w0 F0 w' X' (λk=>F k\/(X' k/\w.heap.size<=k))->(∃v',nK w' (λk=>G k\/(X' k/\w.heap.size<=k)) db mb (cK n ⟨f.b,v',f.bs++b,f.safe⟩ l) (m.put n (f.bs++b) f.safe) z)->N undef w' X'):
  eV pg R X w true (gu 151 5 1 1 151 f.v vs) λx w1 X1=>lR pg X1 w1 (bu (ptr f.b 0)) λp=>aX pg X1 w1 (iA 153 0 0 1 p) λq=>eU pg R X1 w1 true (st1 151 1 q x) N:=by
 have hX: ∀k,G k->X k:=λk hk=>hT.bA k (hG k hk);have hr:=h.row _ (gP hn);have ho:=h.ow _ (gP hn);have hsf:=h.safe _ (gP hn);have ct:f.v.ownBlock≠some f.b:=ho.eH hr kQ;refine Rs kQ hT.s.has (ho.mono hX) src (by intro r hr u hu;obtain⟨x,_,rfl⟩:=List.mem_map.1 hr;simp only[U1,List.mem_singleton] at hu;subst hu;rfl) oQ oQ λv' w1 X1 c uH dh=>?_;have qU:aH w1 X1 f.b [f.v,I f.safe] 153:=⟨c.sub _ (hX _ hr.1),by rw[c.block _ (hX _ hr.1) λe=>ct e];exact hr.2⟩
 with_reducible apply II
 have UB:fieldInfo pg 153 0=some (0,1):=by kernel_rfl
 refine Rq qU.cells UB rfl λo' vG _=>?_;subst vG;have kW:=sL uH.one;refine D4 qU kQ sQ (by rw[kW];rfl) (by rw[kW];simp[uH.one]) c.has λw' X' c' jS=>?_;rw[kW] at jS;have cc:dY (λk=>k=f.b\/f.v.ownBlock=some k) X w X' w':=(c.mono λk _ hk=>.inr hk).trans (c'.mono λk _ hk=>.inl hk);have ai8:v'.ownBlock≠some f.b:=uH.eH qU kQ;have gv: ∀g,v'.ownBlock=some g->G g\/(X' g/\w.heap.size<=g):=λg hg=>by
  rcases dh with e|⟨g',e,dB⟩
  ·exact .inl (ho.bA (e▸hg)).1
  ·rw[hg] at e;have:g=g':=Option.some.inj e;subst this;exact .inr ⟨c'.sub _ (uH.bA hg).1,dB⟩
 have kq:Ow w' (λk=>G k\/(X' k/\w.heap.size<=k)) 5 1 v' ((f.bs++b).map U1):=by
  rw[List.map_append];exact uH.tight.mv λk hk hl=>⟨gv k hk,c'.block k (uH.bA hk).1 λe=>ai8 (by rw[<-(show k=f.b from e)];exact hk)⟩
 refine k w' X' (hT.dX cc (λk hk=>?_) λk hk=>hk) ⟨v',h.jR (F':=λk=>G k\/(X' k/\w.heap.size<=k)) (hT.fx hG) cc hn (λk hk=>hk) (λk hk=>.inl hk) ⟨.inl hr.1,?_⟩ kq dh (by rw[aa];have:f.safe<=f.bs.length:=hsf;omega)⟩
 ·rcases hk with rfl|hk
  ·exact hG _ hr.1
  ·exact hG _ (ho.bA hk).1
 ·exact jS.2
end
theorem VZ {S:XS} {vb:Value} {b:List Nat} (h:Dk w F db m) (hF:FX F X w) (hb:Sl w S 1 vb (b.map U1)) (hS: ∀k,S k->X k/\ ¬F k) (Jm:b.length<=2^30):
  Ct pg 200 #[ptr db 0,.string n,vb] w X F λv wa w'=>v=I (m.append n b).2/\ ∃F',(∀k,F' k->F k\/made wa w' k)/\Dk w' F' db (m.append n b).1:=by
 intro w0 hk;obtain⟨mb,l,h0,hz⟩:=h.mv (hF.mv hk);have hT:=hF.ft hk;have nL:FX F (bK w0) w0:=hF.kp hk;replace hb:Sl w0 (λk=>S k/\k<w0.heap.size) 1 vb (b.map U1):=hb.mv λk af hl=>⟨⟨af,av hl hk.size⟩,hk.block k (hS k af).1⟩;have gr:=h0.box.mv (Mv.sub hT.bA);have hs:=ai.init w0;have hg:=h0.get n;have hm:=h0.map.mv lW (Mv.sub hT.bA) (A':=nX) λ_ h=>h.elim;refine Kf.1 λ_=>?_;repeat' refine ak ?_;intros
 refine sU hm (λf hn=>?_) λhn=>?_
 ·have pF:m.get n=some (f.bs,f.safe):=by rw[hg,hn];rfl
  have atp:=DM.B3 pF;cases jN:m.dn
  ·rw[jN] at gr;repeat' first|refine ak ?_;intros|refine cQ ?_ ?_<;>intros
   ·refine hT.fin λwa aI=>⟨?_,F,hT.ju aI λ_ h=>h,?_⟩
    ·simp only[DM.append,jN,pF,aW,if_false];rw[if_pos zQ];rfl
    ·simp only[DM.append,jN,pF,aW,if_false];rw[if_pos zQ];exact⟨mb,l,h0.mv (aI.jd hT.bA),hz⟩
   ·have IK: ¬4194304-m.sz<b.length:=by omega
    refine hT.call (OF h0 nL jN) kQ (λ_ h=>h) λv wa w2 X2 hq hle gv cY hc=>?_;obtain⟨rfl,h2⟩:=hq;replace cY:Ft w0 F w2 X2 F:=cY.less λk hk=>.inl hk;have jD:=(h2.row _ (gP hn)).mv (Mv.sub cY.bA);repeat' refine ak ?_;intros
    refine agu cY h2 (λ_ h=>h) hn ((hb.mv (hc.jd λk af=>⟨af.2,(hS k af.1).2⟩)).mono λk af=>hc.sub k af.2) (show f.bs.length+b.length<=2^40 by omega) λw3 X3 dU ⟨v',h3⟩=>?_;have rC:=h3.box.mv (Mv.sub dU.bA);have htz:=m.yp;repeat' refine ak ?_;intros
    have GR:=DM.K6 (bs:=f.bs++b) (s':=f.safe) ((m.pX n).trans pF);have hlen:(f.bs++b).length=f.bs.length+b.length:=aa;refine xI dU h3 (λ_ h=>h) (m.tick.put n (f.bs++b) f.safe) (m.tick.put n (f.bs++b) f.safe).sz (o:=1) zQ kQ zQ rfl (by rw[show(((m.tick.put n (f.bs++b) f.safe).sz:Nat):Int)=(m.sz:Int)+(b.length:Int)by omega];rfl) rfl h3.ar λw4 X4 fQ h4 c4=>?_;have fin: ∀wa,Kp X4 w4 wa-> ∃F',(∀k,F' k->F k\/made w0 wa k)/\Dk wa F' db (m.append n b).1:=λwa aI=>⟨_,fQ.ju aI λ_ h=>h,by
     simp only[DM.append,jN,pF,aW,if_false];rw[if_neg IK];exact⟨mb,_,h4.mv (aI.jd fQ.bA),by show(m.tick.put n (f.bs++b) f.safe).sz<=_;omega⟩⟩
    cases ht:m.tick.dn
    ·repeat' refine ak ?_;intros
     refine fQ.fin λwa aI=>⟨?_,fin wa aI⟩;simp only[DM.append,jN,pF,aW,if_false];rw[if_neg IK];simp[ht]
    ·repeat' refine ak ?_;intros
     refine fQ.fin λwa aI=>⟨?_,fin wa aI⟩;simp only[DM.append,jN,pF,aW,if_false];rw[if_neg IK];simp[ht]
  ·rw[jN] at gr;repeat' refine ak ?_;intros
   refine hT.fin λwa aI=>⟨?_,F,hT.ju aI λ_ h=>h,?_⟩
   ·simp[DM.append,jN]
   ·simp only[DM.append,jN,if_true];exact⟨mb,l,h0.mv (aI.jd hT.bA),hz⟩
 ·have pF:m.get n=none:=by rw[hg,hn];rfl
  cases jN:m.dn
  ·rw[jN] at gr;repeat' refine ak ?_;intros
   refine hT.fin λwa aI=>⟨?_,F,hT.ju aI λ_ h=>h,?_⟩
   ·simp[DM.append,jN,pF]
   ·simp only[DM.append,jN,pF,aW,if_false];exact⟨mb,l,h0.mv (aI.jd hT.bA),hz⟩
  ·rw[jN] at gr;repeat' refine ak ?_;intros
   refine hT.fin λwa aI=>⟨?_,F,hT.ju aI λ_ h=>h,?_⟩
   ·simp[DM.append,jN]
   ·simp only[DM.append,jN,if_true];exact⟨mb,l,h0.mv (aI.jd hT.bA),hz⟩
variable {bd bn : Nat}
theorem Z8 (h:Dk w F db m) (hF:FX F X w) (hd:aH w X bd [ptr db 0] 25) (hn:aH w X bn [.string n] 9) (hg:(m.get n).isSome=true):
  Ct pg 281 #[ptr bd 0,ptr bn 0] w X F λv wa w'=>v= .tuple #[]/\ ∃F',(∀k,F' k->F k\/made wa w' k)/\Dk w' F' db (DM.km n m):=by
 intro w0 hk;obtain⟨mb,l,h0,hz⟩:=h.mv (hF.mv hk);have hT:=hF.ft hk;replace hd:=hd.mv hk.cr;replace hn:=hn.mv hk.cr;have gr:=h0.box.mv (Mv.sub hT.bA);have hs:=ai.init w0;have pF:=h0.get n;have hm:=h0.map.mv lW (Mv.sub hT.bA) (A':=nX) λ_ h=>h.elim;refine IZ.1 λ_=>?_;repeat' refine ak ?_;intros
 refine sU hm (λf h1=>?_) λh1=>?_
 ·repeat' refine ak ?_;intros
  refine sU hm (λf' h2=>?_) λh2=>?_
  ·rw[h1] at h2;cases h2;have hr:=(h0.row _ (gP h1)).mv (Mv.sub hT.bA);have ho:=(h0.ow _ (gP h1)).sl;have XM:m.get n=some (f.bs,f.safe):=by rw[pF,h1];rfl
   repeat' refine ak ?_;intros
   refine aeQ hT h0 (λ_ h=>h) h1 (s':=f.bs.length) zQ rfl (Nat.le_refl _) λw1 X1 dW h3=>?_;refine dW.fin λwa aI=>⟨rfl,F,dW.ju aI λ_ h=>h,?_⟩;have e:DM.km n m=m.put n f.bs f.bs.length:=by unfold DM.km;rw[XM]
   have gd:=m.ER n;rw[e] at gd⊢;exact⟨mb,_,by rw[gd];exact h3.mv (aI.jd dW.bA),by omega⟩
  ·rw[h1] at h2;cases h2
 ·rw[pF,h1] at hg;cases hg
theorem abx (h:Dk w F db m) (hF:FX F X w):
  Ct pg 201 #[ptr db 0,.string n] w X F λv wa w'=>v=I (m.sync n).2/\ ∃F',(∀k,F' k->F k\/made wa w' k)/\Dk w' F' db (m.sync n).1:=by
 intro w0 hk;replace h:=h.mv (hF.mv hk);have hT:=hF.ft hk;have nL:FX F (bK w0) w0:=hF.kp hk;clear hF;refine Nu.1 λ_=>?_;refine tR rfl hT.s.has λbd w1 X1 pD ax jw=>?_;refine tR rfl ax.has λbn w2 X2 hbn bB Uh=>?_;have rJ:=ax.trans bB;have cY:=hT.since rJ;have Tw:=jw.since bB;have h2:Dk w2 F db m:=h.mv (rJ.gV λk af=>(nL k af).1);have hs:=ai.fG bB.has;repeat' refine ak ?_;intros
 refine cu (QH h2 (cY.fx λ_ h=>h)) kQ hs.has ?_;rintro v wa w3 X3 rfl hle gv dp;have dU:=cY.since dp;have h3:Dk w3 F db m:=h2.mv (dp.gV cY.bA);have atq:=jw.lt;have arE:=dp.sub _ Tw.1;have arG:=dp.sub _ Uh.1;have zV:=Tw.since dp;have Dn:=Uh.since dp;have e8:I (if(m.get n).isSome then 0 else 8)=I (((if(m.get n).isSome then 0 else 8:Nat)):Nat):=by split<;>rfl
 rw[e8];refine dU.call (EK (A:=λk=>k=bd\/k=bn) (g:=DM.km n) h3 (dU.fx λ_ h=>h) (λk af=>?_) kQ ?_) kQ (λ_ h=>h) λv zf w4 X4 hq tq oF fQ EO=>?_
 ·rcases af with rfl|rfl
  ·exact⟨arE,zV.lt,λhf=>by have:=(nL _ hf).2;omega⟩
  ·exact⟨arG,Dn.lt,λhf=>by have:=(nL _ hf).2;have:=ax.kp.size;omega⟩
 ·intro he w5 X5 xA Q4 hF5 h5;refine Z8 h5 hF5 ⟨Q4 _ (.inl rfl),?_⟩ ⟨Q4 _ (.inr rfl),?_⟩ ?_
  ·rw[(xA bd (.inl rfl) (zV.lt)).2];exact zV.2
  ·rw[(xA bn (.inr rfl) (Dn.lt)).2];exact Dn.2
  ·rw[m.pX];cases ml:(m.get n).isSome
   ·rw[ml] at he;cases he
   ·rfl
 ·obtain⟨rfl,F',CU,hD⟩:=hq
  skip
  refine fQ.fin λFZ aI=>⟨rfl,F',fQ.ju aI CU,hD.mv (aI.jd λk af=>fQ.bA k (CU k af))⟩
theorem Tx (h:Dk w F db m) (hF:FX F X w) (hd:aH w X bd [ptr db 0] 25) (hn:aH w X bn [.string n] 9) (hg:m.get n=none):
  Ct pg 257 #[ptr bd 0,ptr bn 0] w X F λv wa w'=>v= .tuple #[]/\ ∃F',(∀k,F' k->F k\/made wa w' k)/\Dk w' F' db (m.put n [] 0):=by
 intro w0 hk;obtain⟨mb,l,h0,hz⟩:=h.mv (hF.mv hk);have hT:=hF.ft hk;have nL:FX F (bK w0) w0:=hF.kp hk;replace hd:=hd.mv hk.cr;replace hn:=hn.mv hk.cr;have gr:=h0.box.mv (Mv.sub hT.bA);have hs:=ai.init w0;have pF:=h0.get n;have hm:=h0.map.mv lW (Mv.sub hT.bA) (A':=nX) λ_ h=>h.elim;have hgn:getM n l=none:=by
  rw[hg] at pF;cases hq:getM n l with
  |none=>rfl
  |some f=>rw[hq] at pF;cases pF
 refine G9.1 λ_=>?_;repeat' first|refine ak ?_;intros|(refine Od hs ?_;intro bx w X gr ax gf hs bw)
 have qo:=hm.mv lW gf.mv (A':=nX) λ_ h=>h.elim;refine uU (kt:=9) (et:=150) (a:=⟨bx,.slice none 0 0,[],0⟩) qo lW (show OC _ _ (ptr bx 0) ⟨bx,.slice none 0 0,[],0⟩from rfl) (λ_ h=>h.elim) (IG kQ) kQ gf.has λw2 X2 c ri=>?_;have JD:bx≠mb:=(qo.eH bw).symm;have cY:Ft w0 F w2 X2 (λk=>F k\/k=bx):=((hT.since gf).more (F':=λk=>F k\/k=bx) λk af=>af.imp id λe=>by subst e;exact⟨bw.1,gr⟩).dX c (λk af=>by subst af;exact .inl h0.map.x.1) λk af=>.inl af;have BF:dY (· =mb) (bK w0) w0 X2 w2:=(dY.nz gf _).trans c;refine cY.fin λwa aI=>⟨rfl,_,cY.ju aI λ_ h=>h,?_⟩;have hL:=h0.new (F':=λk=>F k\/k=bx) nL BF hgn (λk af=>af) (λk af=>.inl af) gr (ri.own.mv lW (λk af hl=>⟨.inl (by subst af;exact h0.map.x.1),rfl⟩) λ_ h=>h.elim) ⟨.inr rfl,by rw[c.block _ bw.1 JD];exact bw.2⟩;have arH:(m.put n [] 0).sz=m.sz:=by simpa using (DM.SC (bs:=[]) (s':=0) hg)
 rw[<-arH] at hL;exact⟨mb,_,hL.mv (aI.jd cY.bA),by omega⟩
def DM.Cg (m:DM) (n:ByteArray):Nat:=if¬vM n then 10 else if(m.get n).isSome then 9 else if 64<=m.fs.length then 3 else 0
theorem V1 (h:Dk w F db m) (hF:FX F X w):
  Ct pg 181 #[ptr db 0,.string n] w X F λv wa w'=>v=I (m.create n).2/\ ∃F',(∀k,F' k->F k\/made wa w' k)/\Dk w' F' db (m.create n).1:=by
 intro w0 hk;replace h:=h.mv (hF.mv hk);have hT:=hF.ft hk;have nL:FX F (bK w0) w0:=hF.kp hk;clear hF;obtain⟨mb,l,h0,hz⟩:=id h;refine Kc.1 λ_=>?_;refine tR rfl hT.s.has λbd w1 X1 pD ax jw=>?_;refine tR rfl ax.has λbn w2 X2 hbn bB Uh=>?_;have rJ:=ax.trans bB;have hs:=ai.fG bB.has;have Tw:=jw.since bB;have gr:=(h0.box.mv (Mv.sub hT.bA)).since rJ;have hm:=(h0.map.mv lW (Mv.sub hT.bA) (A':=nX) λ_ h=>h.elim).mv lW rJ.mv (A':=nX) λ_ h=>h.elim;have pF:=h0.get n;have hlen:=h0.len;have key: ∀(w3:World) (X3:XS) (e:Nat),ai X2 w2 X3 w3->m.Cg n=e->eC pg (uF F w0 λv w'=>v=I (m.create n).2/\ ∃F',(∀k,F' k->F k\/made w0 w' k)/\Dk w' F' db (m.create n).1) X3 w3 true 256 #[ptr db 0,I e,.func (.func 257) #[] #[ptr bd 0,ptr bn 0]] λx w4 X4=>
   fin (uF F w0 λv w'=>v=I (m.create n).2/\ ∃F',(∀k,F' k->F k\/made w0 w' k)/\Dk w' F' db (m.create n).1) X4 w4 x:=by
  intro w3 X3 e dp he;have ad9:=rJ.trans dp;have dU:=hT.since ad9;have h3:Dk w3 F db m:=h.mv (ad9.gV λk af=>(nL k af).1);have zV:=Tw.since dp;have Dn:=Uh.since dp;have em:m.create n=m.write e λm=>m.put n [] 0:=by rw[<-he];rfl
  rw[em];refine dU.call (EK (A:=λk=>k=bd\/k=bn) (g:=λm=>m.put n [] 0) h3 (dU.fx λ_ h=>h) (λk af=>?_) kQ ?_) kQ (λ_ h=>h) λv zf w4 X4 hq tq oF fQ EO=>?_
  ·rcases af with rfl|rfl
   ·exact⟨zV.1,zV.lt,λhf=>by have:=(nL _ hf).2;omega⟩
   ·exact⟨Dn.1,Dn.lt,λhf=>by have:=(nL _ hf).2;have:=ax.kp.size;omega⟩
  ·intro AQ w5 X5 xA Q4 hF5 h5;refine Tx h5 hF5 ⟨Q4 _ (.inl rfl),?_⟩ ⟨Q4 _ (.inr rfl),?_⟩ ?_
   ·rw[(xA bd (.inl rfl) (zV.lt)).2];exact zV.2
   ·rw[(xA bn (.inr rfl) (Dn.lt)).2];exact Dn.2
   ·rw[m.pX];rw[AQ] at he;unfold DM.Cg at he;cases ml:m.get n with
    |none=>rfl
    |some x=>
     rw[ml] at he;simp at he;exfalso;split at he<;>omega
  ·obtain⟨rfl,F',CU,hD⟩:=hq;exact fQ.fin λFZ aI=>⟨rfl,F',fQ.ju aI CU,hD.mv (aI.jd λk af=>fQ.bA k (CU k af))⟩
 refine ij (λk=> ∀(e:Nat) (w3:World) (X3:XS),ai X2 w2 X3 w3->m.Cg n=e->k (I e) w3 X3) ?_ ?_
 ·intro e w3 X3 dp he;have zV:=Tw.since dp;repeat' refine ak ?_;intros
  exact key w3 X3 e dp he
 ·intro K hK;repeat' first|refine ak ?_;intros|(refine kh (abw _) hs ?_ ?_<;>intro _ w X hs)
  ·have Dn:=Uh.since hs;have zV:=Tw.since hs;have atr:=gr.since hs;have qm:=hm.mv lW hs.mv (A':=nX) λ_ h=>h.elim
   skip
   refine sU qm (λf hn=>?_) λhn=>?_
   ·repeat' refine ak ?_;intros
    exact hK 9 _ _ hs (by simp_all [DM.Cg])
   ·repeat' first|refine ak ?_;intros|refine cQ ?_ ?_<;>intros|(refine an2 qm (kt:=9) (et:=150) kQ ?_)
    ·exact hK 3 _ _ hs (by simp only[DM.Cg,pF,hn];simp_all<;>omega)
    ·exact hK 0 _ _ hs (by simp only[DM.Cg,pF,hn];simp_all<;>omega)
  ·exact hK 10 _ _ hs (by simp_all [DM.Cg])
theorem Ra {n:Int} (h:Dk w F db m) (hF:FX F X w) (hn:n<2^63):
  Ct pg 14 #[ptr db 0,I n] w X F λv wa w'=>v= .tuple #[]/\Dk w' F db (if m.dn then m else { m with ar:=n.toNat }):=by
 intro w0 hk;obtain⟨mb,l,h0,hz⟩:=h.mv (hF.mv hk);have hT:=hF.ft hk;have gr:=h0.box.mv (Mv.sub hT.bA);have hs:=ai.init w0;refine Pw.1 λ_=>?_;cases jN:m.dn
 ·rw[jN] at gr;repeat' first|refine ak ?_;intros|(refine apE ?_)
  refine xI hT h0 (λ_ h=>h) { m with ar:=n.toNat } m.sz (o:=3) zQ kQ zQ rfl (by rw[show((n.toNat:Nat):Int)=max n 0 by omega];rfl) rfl (by show n.toNat<_;omega) λw1 X1 dW h1 c1=>?_;refine dW.fin λwa aI=>⟨rfl,?_⟩;rw[if_neg Bool.false_ne_true];have h2:=h1.mv (aI.jd dW.bA);rw[jN] at h2;exact⟨mb,l,h2,hz⟩
 ·rw[jN] at gr;repeat' refine ak ?_;intros
  exact hT.fin λwa aI=>⟨rfl,mb,l,h0.mv (aI.jd hT.bA),hz⟩
theorem alj:Ct pg 119 #[.map (some mb)] w X nX λv wa w'=> ∃bx,v= .func (.func 173) #[] #[ptr bx 0]/\aH w' (made wa w') bx [.map (some mb)] 109:=by
 intro w0 hk;refine qL.1 λhs=>?_;refine tR rfl hs.has λbx w1 X1 gr ax bw=>?_;repeat' refine ak ?_;intros
 exact bS ax λwa aI=>⟨bx,rfl,⟨gr,(bw.kp aI).lt⟩,(bw.kp aI).2⟩
theorem alk:Ct pg 169 #[.map (some mb)] w X nX λv wa w'=> ∃bx,v= .func (.func 239) #[] #[ptr bx 0]/\aH w' (made wa w') bx [.map (some mb)] 287:=by
 intro w0 hk;refine qP.1 λhs=>?_;refine tR rfl hs.has λbx w1 X1 gr ax bw=>?_;repeat' refine ak ?_;intros
 exact bS ax λwa aI=>⟨bx,rfl,⟨gr,(bw.kp aI).lt⟩,(bw.kp aI).2⟩
variable {bx : Nat}
theorem agv {α:Type} {rd:World->XS->Value->α->Prop} {l:List (ByteArray×α)} (h:dK w X A mb aO rd l) (hb:aH w X bx [.map (some mb)] 109)
  (hs: ∀x∈l,x.1.size<=2^40) (hl:l.length<=2^40):
  Ct pg 118 #[.func (.func 173) #[] #[ptr bx 0]] w X nX λv wa w'=>Own w' (made wa w') wa.heap.size 9 1 v ((fR (l.map (·.1))).map S1):=
 PO h kQ hs hl λwa hk nn D0 xx=>
  AnyZ.keys_gives (ρ:=Tryz.U7) { Tryz.apz with } gh _ trivial rfl zQ bx mb nn D0 wa (hb.kp hk).lt (by have:=(hb.kp hk).2;simp[fj,this]) xx
theorem agw {α:Type} {rd:World->XS->Value->α->Prop} {l:List (ByteArray×α)} (h:dK w X A mb aO rd l) (hb:aH w X bx [.map (some mb)] 287)
  (hs: ∀x∈l,x.1.size<=2^40) (hl:l.length<=2^40):
  Ct pg 118 #[.func (.func 239) #[] #[ptr bx 0]] w X nX λv wa w'=>Own w' (made wa w') wa.heap.size 9 1 v ((fR (l.map (·.1))).map S1):=
 PO h kQ hs hl λwa hk nn D0 xx=>
  AnyZ.keys_gives (ρ:=Tryz.U9) { Tryz.apA with } gh _ trivial rfl zQ bx mb nn D0 wa (hb.kp hk).lt (by have:=(hb.kp hk).2;simp[fj,this]) xx
theorem Oh (h:Dk w F db m) (hF:FX F X w) (hs: ∀x∈m.fs,x.1.size<=2^40) (hl:m.fs.length<=2^40):
  Ct pg 71 #[ptr db 0] w X nX λv wa w'=>Own w' (made wa w') wa.heap.size 9 1 v ((fR (m.fs.map (·.1))).map S1):=by
 intro w0 hk;obtain⟨mb,l,h0,hz⟩:=h.mv (hF.mv hk);have hX:=λk af=>(hF.kp hk k af).1;have hb:=h0.box.mv (Mv.sub hX);have hm:=h0.map.mv lW (Mv.sub hX) (A':=nX) λ_ h=>h.elim;have Om:=h0.fs;refine Np.1 λ_=>?_;have gf:=ai.init w0;repeat' refine ak ?_;intros
 refine cu alj kQ gf.has ?_;rintro _ wa w1 X1 ⟨bx,rfl,bw⟩ hle gv ax;have qo:=hm.mv lW ax.mv (A':=nX) λ_ h=>h.elim;refine cu (agv qo (bw.mono gv) (λx hx=>hs (x.1,x.2.er) (by rw[Om];exact List.mem_map.2 ⟨x,hx,rfl⟩)) (by rw[Om,ah] at hl;exact hl)) kQ ax.has ?_;rintro v xu w2 X2 ho lu ka bB;have Yb:=ax.kp.size;refine bS (ax.trans bB) λFZ aI=>?_;have kq:Own w2 X2 w0.heap.size 9 1 v ((fR (l.map (·.1))).map S1):=ho.up ka zQ;have e:m.fs.map (·.1)=l.map (·.1):=by rw[Om,bz];rfl
 rw[e];exact(kq.kp aI).tight
structure jE where
 code:Int
 key:BA
 val:gL
abbrev jE.l (o:jE):List Value:=[I o.code,.string o.key,I o.val.kind,.float .f64 o.val.num,.string o.val.text]
def Jb (c:Int):Int:=if c<1\/15<c then 0 else if c=4 then 2 else if c<=3 then 1 else 0
def tD (c:Int):Int:=if c<1\/15<c then 0 else if c=1\/c=3\/c=4 then 0 else if c=2\/c=13\/c=14 then 1 else 2
def Bu (c:Int):Int:=if c<1\/15<c then 0 else if c=2\/c=3\/c=13 then 0 else if c=14\/c=15 then 2 else 1
def ai9 (c:Int):BA:=if c=1 then⟨#[103,101,116]⟩else if c=2 then⟨#[112,117,116]⟩else if c=3 then⟨#[100,114,111,112]⟩else if c=4 then⟨#[112,117,115,104]⟩else if c=5 then⟨#[97,100,100]⟩else if c=6 then⟨#[115,117,98]⟩else if c=7 then⟨#[109,117,108]⟩else if c=8 then⟨#[100,105,118]⟩
 else if c=9 then⟨#[109,105,110]⟩else if c=10 then⟨#[109,97,120]⟩else if c=11 then⟨#[108,101,115,115]⟩else if c=12 then⟨#[115,97,109,101]⟩else if c=13 then⟨#[110,101,101,100]⟩else if c=14 then⟨#[100,117,112]⟩else if c=15 then⟨#[115,119,97,112]⟩else⟨#[]⟩
abbrev Wv (c:Int):List Value:=[.string (ai9 c),I (Jb c),I (tD c),I (Bu c)]
abbrev agx:List Value:=[.string ⟨#[]⟩,I 0,I 0,I 0,.string ⟨#[103,101,116]⟩,I 1,I 0,I 1,.string ⟨#[112,117,116]⟩,I 1,I 1,I 0,.string ⟨#[100,114,111,112]⟩,I 1,I 0,I 0,.string ⟨#[112,117,115,104]⟩,I 2,I 0,I 1,
 .string ⟨#[97,100,100]⟩,I 0,I 2,I 1,.string ⟨#[115,117,98]⟩,I 0,I 2,I 1,.string ⟨#[109,117,108]⟩,I 0,I 2,I 1,.string ⟨#[100,105,118]⟩,I 0,I 2,I 1,.string ⟨#[109,105,110]⟩,I 0,I 2,I 1,.string ⟨#[109,97,120]⟩,I 0,I 2,I 1,
 .string ⟨#[108,101,115,115]⟩,I 0,I 2,I 1,.string ⟨#[115,97,109,101]⟩,I 0,I 2,I 1,.string ⟨#[110,101,101,100]⟩,I 0,I 1,I 0,.string ⟨#[100,117,112]⟩,I 0,I 1,I 2,.string ⟨#[115,119,97,112]⟩,I 0,I 2,I 2]
theorem Mr:Pure pg 228 #[] (.agg agx.toArray):=by
 intro w0;refine VJ.1 λhs=>?_;repeat' first|refine ak ?_;intros|(with_reducible refine fK hs ?_);rfl
theorem aja (c:Int) (h:1<=c/\c<=15) (wa:World):(Ew 367 16 277 (.agg agx.toArray) (I c)).run pg wa= .ok (.agg (Wv c).toArray) wa:=by
 have h:c=1\/c=2\/c=3\/c=4\/c=5\/c=6\/c=7\/c=8\/c=9\/c=10\/c=11\/c=12\/c=13\/c=14\/c=15:=by omega
 rcases h with rfl|rfl|rfl|rfl|rfl|rfl|rfl|rfl|rfl|rfl|rfl|rfl|rfl|rfl|rfl<;>(show _=_;kernel_rfl)
theorem agy (c:Int):Pure pg 158 #[I c] (.tuple #[.agg (Wv c).toArray,B (decide (1<=c/\c<=15))]):=by
 intro w0;by_cases hc:1<=c/\c<=15
 ·rw[decide_eq_true hc];refine RE.1 λhs=>?_;repeat' first|refine ak ?_;intros|refine cQ ?_ ?_<;>intros|(refine ph Mr hs ?_;intro w X hs)|(exfalso;omega)|(with_reducible refine fK hs ?_);rfl|(refine bF (aja c hc) ?_)
 ·have hz:Wv c=[.string ⟨#[]⟩,I 0,I 0,I 0]:=by
   have h1:Jb c=0:=by unfold Jb;rw[if_pos zQ]
   have h2:tD c=0:=by unfold tD;rw[if_pos zQ]
   have h3:Bu c=0:=by unfold Bu;rw[if_pos zQ]
   have h4:ai9 c=⟨#[]⟩:=by
    unfold ai9;repeat rw[if_neg zQ]
   simp only[Wv,h1,h2,h3,h4]
  rw[decide_eq_false hc,hz];refine RE.1 λhs=>?_;repeat' first|refine ak ?_;intros|refine cQ ?_ ?_<;>intros|(refine ph Mr hs ?_;intro w X hs)|(exfalso;omega)|(with_reducible refine fK hs ?_);rfl
def Fy (o:jE) (n:Int):Bool:=
 if(n=1/\iJ o.key=false)\/(n≠1/\o.key≠⟨#[]⟩)then false else if n=2 then o.val.may else decide (o.val.kind=0/\o.val.text=⟨#[]⟩/\o.val.num=0)
theorem aby (o:jE) (n:Int):Pure pg 159 #[.agg o.l.toArray,I n] (B (Fy o n)):=by
 intro w0;refine Zr.1 λhs=>?_;repeat' first|refine ak ?_;intros|refine cQ ?_ ?_<;>intros|with_reducible apply cD|(refine kh (lf _) hs ?_ ?_<;>intro _ w X hs)|(refine kh (l7 _) hs ?_ ?_<;>intro _ w X hs)|(with_reducible refine fK hs ?_);(simp_all [Fy])|((with_reducible refine C4 (Ae _) hs.has ?_);intro w X ax;replace hs:=hs.trans ax)
theorem alm:Ct pg 231 #[.map (some mb)] w X nX λv wa w'=> ∃bx,v= .func (.func 306) #[] #[ptr bx 0]/\aH w' (made wa w') bx [.map (some mb)] 370:=by
 intro w0 hk;refine wy.1 λhs=>?_;refine tR rfl hs.has λbx w1 X1 gr ax bw=>?_;repeat' refine ak ?_;intros
 exact bS ax λwa aI=>⟨bx,rfl,⟨gr,(bw.kp aI).lt⟩,(bw.kp aI).2⟩
theorem agz {α:Type} {rd:World->XS->Value->α->Prop} {l:List (ByteArray×α)} (h:dK w X A mb aO rd l) (hb:aH w X bx [.map (some mb)] 370)
  (hs: ∀x∈l,x.1.size<=2^40) (hl:l.length<=2^40):
  Ct pg 118 #[.func (.func 306) #[] #[ptr bx 0]] w X nX λv wa w'=>Own w' (made wa w') wa.heap.size 9 1 v ((fR (l.map (·.1))).map S1):=
 PO h kQ hs hl λwa hk nn D0 xx=>
  AnyZ.keys_gives (ρ:=Tryz.Va) { Tryz.apB with } gh _ trivial rfl zQ bx mb nn D0 wa (hb.kp hk).lt (by have:=(hb.kp hk).2;simp[fj,this]) xx
def Z9:World->XS->Value->Int->Prop:=λ_ _ v x=>v=I x
def aaa:qs Z9:=λ_ _ _ _ _ _ h _=>h
def kN (a b:Int) (t:List (BA×Int)) (o:jE):List (BA×Int):=if(o.code=a\/o.code=b)/\iJ o.key=true then cK o.key ((getM o.key t).getD 0+1) t else t
def fh (a b:Int) (p:List jE):List BA:=fR ((p.foldl (kN a b) []).map (·.1))
theorem Ez (a b:Int): ∀(p:List jE) (t:List (BA×Int)) (n:Nat),(t.map (·.1)).Nodup->(∀x∈t,0<=x.2/\x.2<=n/\x.1.size<=24)->t.length<=n->
  ((p.foldl (kN a b) t).map (·.1)).Nodup/\(∀x∈p.foldl (kN a b) t,0<=x.2/\x.2<=(n+p.length:Nat)/\x.1.size<=24)/\(p.foldl (kN a b) t).length<=n+p.length
 |[],t,n,h1,h2,h3=>⟨h1,λx hx=>h2 x hx,h3⟩
 |o::p,t,n,h1,h2,h3=>by
  have fP:((kN a b t o).map (·.1)).Nodup/\(∀x∈kN a b t o,0<=x.2/\x.2<=(n+1:Nat)/\x.1.size<=24)/\(kN a b t o).length<=n+1:=by
   unfold kN;split
   ·rename_i hc;have hg:o.key.size<=24:=by have:=hc.2;unfold iJ at this;simp at this;omega
    refine⟨Qj h1,λx hx=>?_,?_⟩
    ·rcases mw h1 hx with rfl|⟨hx,_⟩
     ·have:0<=(getM o.key t).getD 0/\(getM o.key t).getD 0<=n:=by
       cases QF:getM o.key t with
       |none=>simp
       |some y=>have:=h2 _ (gP QF);exact⟨this.1,this.2.1⟩
      exact⟨by simp only;omega,by simp only;omega,hg⟩
     ·have:=h2 x hx;exact⟨this.1,by omega,this.2.2⟩
    ·have hlp:(cK o.key ((getM o.key t).getD 0+1) t).length=((cK o.key ((getM o.key t).getD 0+1) t).map (·.1)).length:=by simp
     rw[hlp,xL];split<;>simp<;>omega
   ·exact⟨h1,λx hx=>by have:=h2 x hx;exact⟨this.1,by omega,this.2.2⟩,by omega⟩
  have:=Ez a b p _ (n+1) fP.1 fP.2.1 fP.2.2;rw[List.foldl_cons,List.length_cons];exact⟨this.1,λx hx=>by have:=this.2.1 x hx;exact⟨this.1,by omega,this.2.2⟩,by omega⟩
theorem an3 {t:List (BA×Int)} {k:BA} (h:dK w X nX mb (λk:BA=>aO k) Z9 t) (n:N (I ((getM k t).getD 0))):aX pg X w (Instr.lookup 370 (.map (some mb)) (.string k) false) N:=by
 refine mL (kt:=9) (et:=3) (kv:=λk:BA=>aO k) (I 0) h yc kQ kQ (λv a hg hv=>?_) (λhg=>?_)
 ·simp only[Z9] at hv;subst hv;rw[hg] at n;exact n
 ·rw[hg] at n;exact n
variable {p : List jE} {a : Value}
theorem Ms {ca cb:Int} (ha:Sl w X 5 a (p.map jE.l)) (hl:p.length<=2^30):
  Ct pg 165 #[a,I ca,I cb] w X nX λv wa w'=>Own w' (made wa w') wa.heap.size 9 1 v ((fh ca cb p).map S1):=by
 intro w0 hk;replace ha:=ha.mv hk.cr;have kG:=ha.gO;refine VH.1 λhs=>?_;refine qY (kv:=λk:BA=>aO k) Z9 nX hs.has λmb w1 X1 Z7 ax qo=>?_;replace hs:=hs.trans ax;have rK:=ha.mv hs.mv;repeat' refine ak ?_;intros
 refine fp (λn a w X=> ∃i:Nat,a=I i/\n=p.length-i/\i<=p.length/\ai (bK w0) w0 X w/\dK w X nX mb (λk:BA=>aO k) Z9 ((p.take i).foldl (kN ca cb) [])) p.length ⟨0,rfl,rfl,Nat.zero_le _,hs,qo⟩ ?_;clear hs ax qo rK;rintro n _ w X ⟨i,rfl,rfl,hi,hs,hm⟩;have rK:=ha.mv hs.mv;have lh:=Ez (a:=ca) (b:=cb) (p.take i) [] 0 sQ sQ sQ;have hli:(p.take i).length=i:=by rw[List.length_take];omega
 rw[hli] at lh;rcases dA (p) i with⟨cB,o,hx,hd⟩|⟨dB,hd⟩
 ·have fP:(p.take (i+1)).foldl (kN ca cb) []=kN ca cb ((p.take i).foldl (kN ca cb) []) o:=by rw[List.take_add_one,hx,List.foldl_append];rfl
  generalize (p.take i).foldl (kN ca cb) []=t at fP hm lh;have aj4: ∀{w X},ai (bK w0) w0 X w->dK w X nX mb (λk:BA=>aO k) Z9 t->kN ca cb t o=t->FN (J1 λn a w X=> ∃i:Nat,a=I i/\n=p.length-i/\i<=p.length/\ai (bK w0) w0 X w/\dK w X nX mb (λk:BA=>aO k) Z9 ((p.take i).foldl (kN ca cb) [])) (p.length-i) (I ((i:Int)+1)) w X:=
   λq1 q2 q3=>eP (p.length-(i+1)) zQ ⟨i+1,by simp,rfl,by omega,q1,by rw[fP,q3];exact q2⟩
  by_cases hc:o.code=ca\/o.code=cb
  ·repeat' first|refine aJ ?_;intros|refine cQ ?_ ?_<;>intros|with_reducible apply cD
   all_goals
    refine rL (lf o.key) kQ hs.has λw2 X2 bB=>?_;have ri:=hm.mv aaa bB.mv (λ_ h=>h.elim) (A':=nX);have dp:=hs.trans bB;by_cases hg:iJ o.key=true
    ·rw[hg];have hN:kN ca cb t o=cK o.key ((getM o.key t).getD 0+1) t:=by unfold kN;rw[if_pos ⟨hc,hg⟩]
     have Uz:0<=(getM o.key t).getD 0/\(getM o.key t).getD 0<=i:=by
      cases QF:getM o.key t with
      |none=>simp
      |some y=>have:=lh.2.1 _ (gP QF);exact⟨this.1,by have:=this.2.1;simp at this⊢;omega⟩
     repeat' refine ak ?_;intros
     refine an3 ri ?_;repeat' refine ak ?_;intros
     refine uU (kv:=λk:BA=>aO k) (k:=o.key) (a:=(getM o.key t).getD 0+1) (kt:=9) (et:=3) ri aaa rfl (λ_ h=>h.elim) yc kQ dp.has λw4 X4 c4 Ao=>?_;have fX:ai (bK w0) w0 X4 w4:=dp.dX c4 λg hg e=>by have:g<w0.heap.size:=hg;omega
     repeat' first|refine ak ?_;intros|((with_reducible refine eP ((p).length-(i+1)) ?_ ?_);omega;exact⟨i+1,by simp,rfl,by omega,fX,by rw[fP,hN];exact Ao⟩)
    ·rw[Bool.eq_false_iff.2 hg];have hN:kN ca cb t o=t:=by unfold kN;rw[if_neg (λh=>hg h.2)]
     repeat' first|refine ak ?_;intros|(exact aj4 dp ri hN)
  ·have hN:kN ca cb t o=t:=by unfold kN;rw[if_neg (λh=>hc h.1)]
   repeat' first|refine aJ ?_;intros|with_reducible apply cD|(exact aj4 hs hm hN)
 ·rw[List.take_of_length_le dB] at hm lh;repeat' refine aJ ?_;intros
  refine cu alm kQ hs.has ?_;rintro _ wa w2 X2 ⟨bx,rfl,hb⟩ hle gv bB;have ri:=hm.mv aaa bB.mv (λ_ h=>h.elim) (A':=nX);have Mt:=hs.trans bB;refine cu (agz ri (hb.mono gv) (λe he=>by have:=lh.2.1 e he;omega) zQ) kQ Mt.has ?_;rintro vs wb w3 X3 ho qB mz dp;have hz:=Mt.kp.size;have wO:Own w3 X3 w0.heap.size 9 1 vs ((fR ((p.foldl (kN ca cb) []).map (·.1))).map S1):=ho.up mz zQ;exact bS (Mt.trans dp) λFZ aI=>(wO.kp aI).tight
theorem AP (ha:Sl w X 5 a (p.map jE.l)) (hl:p.length<=2^30):
  Ct pg 112 #[a] w X nX λv wa w'=>Own w' (made wa w') wa.heap.size 9 1 v ((fh 1 1 p).map S1):=by
 intro w0 hk;replace ha:=ha.mv hk.cr;have hs:=ai.init w0;refine VC.1 λ_=>?_;refine cu (Ms ha hl) kQ hs.has ?_;rintro v wa w1 X1 ho hle gv ax;exact bS (hs.trans ax) λFZ aI=>((ho.up gv hle).kp aI).tight
theorem aab (ha:Sl w X 5 a (p.map jE.l)) (hl:p.length<=2^30):
  Ct pg 160 #[a] w X nX λv wa w'=>Own w' (made wa w') wa.heap.size 9 1 v ((fh 2 3 p).map S1):=by
 intro w0 hk;replace ha:=ha.mv hk.cr;have hs:=ai.init w0;refine VG.1 λ_=>?_;refine cu (Ms ha hl) kQ hs.has ?_;rintro v wa w1 X1 ho hle gv ax;exact bS (hs.trans ax) λFZ aI=>((ho.up gv hle).kp aI).tight
def yO:List jE->Int->Int
 |[],_=>0
 |o::r,h=>if¬(1<=o.code/\o.code<=15)then 7 else if Fy o (Jb o.code)=false then 4 else if h<tD o.code then 5 else if h+(Bu o.code-tD o.code)>16 then 2 else yO r (h+(Bu o.code-tD o.code))
def mX (p:List jE):Int:=if 40<p.length then 3 else if yO p 0≠0 then yO p 0 else if 16<(fh 1 1 p).length\/16<(fh 2 3 p).length then 3 else 0
theorem aeR (c:Int):0<=tD c/\tD c<=2/\0<=Bu c/\Bu c<=2:=by
 unfold tD Bu;split
 ·simp
 ·constructor
  ·split;simp;split<;>simp
  ·constructor
   ·split;simp;split<;>simp
   ·split;simp;split<;>simp
theorem KR (ha:Sl w X 5 a (p.map jE.l)):Ct pg 109 #[a] w X nX λv _ _=>v=I (mX p):=by
 intro w0 hk;replace ha:=ha.mv hk.cr;have kG:=ha.gO;refine VB.1 λhs=>?_;by_cases hl:40<p.length
 ·repeat' first|refine aJ ?_;intros|(refine qr ?_;intro wa hk;(unfold mX;rw[if_pos hl]))
 ·repeat' refine aJ ?_;intros
  refine gz (λn a b w X=> ∃(i:Nat) (h:Int),a=I i/\b=I h/\0<=h/\h<=16/\n=p.length-i/\i<=p.length/\ai (bK w0) w0 X w/\yO p 0=yO (p.drop i) h) p.length ⟨0,0,rfl,rfl,by omega,by omega,rfl,Nat.zero_le _,hs,rfl⟩ ?_;clear hs;rintro n _ _ w X ⟨i,h,rfl,rfl,h0,h1,rfl,hi,hs,hw⟩;have rK:=ha.mv hs.mv;rcases dA (p) i with⟨cB,o,hx,hd⟩|⟨dB,hd⟩
  ·rw[hd,yO] at hw;have hb:=aeR o.code;repeat' refine aJ ?_;intros
   refine rL (agy o.code) kQ hs.has λw1 X1 ax=>?_;replace hs:=hs.trans ax;clear rK ax;by_cases hc:1<=o.code/\o.code<=15
   ·rw[if_neg (λh=>h hc)] at hw;rw[decide_eq_true hc];repeat' first|refine ak ?_;intros|refine cQ ?_ ?_<;>intros|(refine kh (aby _ _) hs ?_ ?_<;>intro _ w X hs)|((with_reducible refine fB ((p).length-(i+1)) ?_ ?_);omega;exact⟨i+1,_,by simp,rfl,by omega,by omega,rfl,by omega,hs,by simp_all⟩)|(refine qr ?_;intro wa hk;(unfold mX;rw[if_neg hl];simp_all))
    done
   ·rw[if_pos hc] at hw;rw[decide_eq_false hc];repeat' first|refine ak ?_;intros|(refine qr ?_;intro wa hk;(unfold mX;rw[if_neg hl,hw];rfl))
  ·rw[hd,yO] at hw;repeat' refine aJ ?_;intros
   refine cu (AP rK zQ) kQ hs.has ?_;rintro v1 wa w1 X1 uH hle gv ax;have ha2:=rK.since ax;have B1:=(uH.mono gv).sl;have bB:=hs.trans ax;clear hs ax rK;by_cases hr:16<(fh 1 1 p).length
   ·have hc:mX p=3:=by unfold mX;rw[if_neg hl,if_neg zQ,if_pos (.inl hr)]
    have hs:=bB;repeat' first|refine aJ ?_;intros|with_reducible apply cD|(refine qr ?_;intro wa hk;(rw[hc]))
    done
   ·have hs:=bB;repeat' first|refine aJ ?_;intros|with_reducible apply cD
    refine cu (aab ha2 zQ) kQ bB.has ?_;rintro v3 wb w3 X3 Yr qB mz dp;have acZ:=(Yr.mono mz).sl;replace hs:=bB.trans dp;by_cases hn:16<(fh 2 3 p).length
    ·have hc:mX p=3:=by unfold mX;rw[if_neg hl,if_neg zQ,if_pos (.inr hn)]
     repeat' first|refine aJ ?_;intros|(refine qr ?_;intro wa hk;(rw[hc]))
    ·have hc:mX p=0:=by unfold mX;rw[if_neg hl,if_neg zQ,if_neg (λh=>h.elim hr hn)]
     repeat' first|refine aJ ?_;intros|(refine qr ?_;intro wa hk;(rw[hc]))
end Go.Proofs.YtgfijddlkhkopaaGreat