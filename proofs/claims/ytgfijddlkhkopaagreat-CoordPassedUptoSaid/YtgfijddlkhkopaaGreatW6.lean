/- Part 6 of the proof. -/
import Derived.Shelf.SlIter.Nil
import Derived.Shelf.SlIterI.Nil
import Derived.Shelf.SortM.Plain
import Derived.Shelf.SortM.SortNone
import Derived.Ground.GgzProg
import Derived.Ground.SlgmProg
import Derived.Ground.SlsfProg
import Derived.Shelf.SlGeneric
import Derived.Test.YtgfijddlkhkopaaGreatProg
import Derived.Test.YtgfijddlkhkopaaGreatW5
set_option linter.all false
open Go.Value renaming string → aN
open List renaming map_map → bU, length_map → af, length → ba, mergeSort_perm → sF, map_congr_left → eu, toList_toArray → cR, pairwise_mergeSort → uQ, length_append → aa
open Bool renaming false_eq_true → aU
open Go.Shelf renaming Ren → iP
open Go.Fence renaming wide → gp
open Go.DataW renaming insert → vH
open Nat renaming lt_of_lt_of_le → aw
open Go.Proofs.SlLaysZ renaming n7 → rQ, n6 → Fo
open List.Perm renaming refl → yd
open Go.WideElems renaming rg → mK, rd → rR
open Function renaming comp_def → jI
open Go.World renaming cell? → fu
open Go.Builtin renaming len_ → mJ, max_ → kV, max2 → rS
open Go.Proofs.SlLaysM renaming n6 → Fp, n5 → Fq
open Go.Proofs.SlLaysZI renaming n6 → D7, n7 → qH
namespace Go.Proofs
open Go.Proofs.Tryz renaming prog → pg
open Go.Shelf
def Tryz.Oo:iP:=⟨fun|6=>118|8=>172|9=>114|11=>249|13=>143|12=>170|23=>210|24=>211|14=>240|15=>241|16=>242|17=>243|18=>244|19=>245|20=>246|21=>247|22=>248|25=>311|26=>283|27=>284|28=>312|29=>313|30=>314|31=>356|n=>n,fun|26=>9|28=>216|24=>40|0=>0|3=>3|37=>263|48=>351|50=>264|4=>4|40=>344|39=>343|45=>348|5=>5|9=>9|51=>411|55=>317|57=>466|58=>467|33=>282|n=>n,fun|n=>n⟩
theorem Tryz.ak0:Fo pg Tryz.Oo:= {
 mixed:=by kernel_rfl
 f6:=⟨Tryz.f118.name,by decide,Tryz.func118.trans Go.aK.kS⟩
 f8:=⟨Tryz.f172.name,by decide,Tryz.func172.trans Go.aK.kS⟩
 f11:=⟨Tryz.f249.name,by decide,Tryz.func249.trans Go.aK.kS⟩
 t0:=Tryz.underlying0
 a0:=Tryz.isAgg0
 z0:=Tryz.sizeOf0
 v0:=Tryz.zeroValue0
 t24:=Tryz.underlying40
 a24:=Tryz.isAgg40
 z24:=Tryz.sizeOf40
 v24:=Tryz.zeroValue40
 t26:=Tryz.underlying9
 a26:=Tryz.isAgg9
 z26:=Tryz.sizeOf9
 v26:=Tryz.zeroValue9
 t28:=Tryz.underlying216
 a28:=Tryz.isAgg216
 z28:=Tryz.sizeOf216
 v28:=Tryz.zeroValue216
 i26:=by kernel_rfl }
def Tryz.agd:iP:=⟨fun|6=>114|8=>143|9=>170|19=>210|20=>211|21=>240|22=>241|23=>242|24=>243|25=>244|26=>245|27=>246|28=>247|29=>248|36=>311|31=>283|32=>284|37=>312|38=>313|39=>314|41=>356|n=>n,fun|27=>40|29=>9|3=>3|32=>263|26=>40|0=>0|44=>351|46=>264|4=>4|36=>344|35=>343|41=>348|5=>5|9=>9|53=>411|57=>317|63=>466|64=>467|n=>n,fun|n=>n⟩
theorem Tryz.VS:Fp pg Tryz.agd:= {
 mixed:=by kernel_rfl
 f6:=⟨Tryz.f114.name,by decide,Tryz.func114.trans Go.aK.kS⟩
 f8:=Tryz.func143.trans Go.aK.kS
 f9:=⟨Tryz.f170.name,by decide,Tryz.func170.trans Go.aK.kS⟩
 f19:=Tryz.func210.trans Go.aK.kS
 f20:=Tryz.func211.trans Go.aK.kS
 f21:=⟨Tryz.f240.name,by decide,Tryz.func240.trans Go.aK.kS⟩
 f22:=⟨Tryz.f241.name,by decide,Tryz.func241.trans Go.aK.kS⟩
 f23:=⟨Tryz.f242.name,by decide,Tryz.func242.trans Go.aK.kS⟩
 f24:=⟨Tryz.f243.name,by decide,Tryz.func243.trans Go.aK.kS⟩
 f25:=⟨Tryz.f244.name,by decide,Tryz.func244.trans Go.aK.kS⟩
 f26:=⟨Tryz.f245.name,by decide,Tryz.func245.trans Go.aK.kS⟩
 f27:=⟨Tryz.f246.name,by decide,Tryz.func246.trans Go.aK.kS⟩
 f28:=⟨Tryz.f247.name,by decide,Tryz.func247.trans Go.aK.kS⟩
 f29:=⟨Tryz.f248.name,by decide,Tryz.func248.trans Go.aK.kS⟩
 f31:=Tryz.func283.trans Go.aK.kS
 f32:=Tryz.func284.trans Go.aK.kS
 f36:=⟨Tryz.f311.name,by decide,Tryz.func311.trans Go.aK.kS⟩
 f37:=⟨Tryz.f312.name,by decide,Tryz.func312.trans Go.aK.kS⟩
 f38:=⟨Tryz.f313.name,by decide,Tryz.func313.trans Go.aK.kS⟩
 f39:=⟨Tryz.f314.name,by decide,Tryz.func314.trans Go.aK.kS⟩
 f41:=⟨Tryz.f356.name,by decide,Tryz.func356.trans Go.aK.kS⟩
 t0:=Tryz.underlying0
 a0:=Tryz.isAgg0
 z0:=Tryz.sizeOf0
 v0:=Tryz.zeroValue0
 t3:=Tryz.underlying3
 a3:=Tryz.isAgg3
 z3:=Tryz.sizeOf3
 v3:=Tryz.zeroValue3
 t4:=Tryz.underlying4
 a4:=Tryz.isAgg4
 z4:=Tryz.sizeOf4
 v4:=Tryz.zeroValue4
 t5:=Tryz.underlying5
 a5:=Tryz.isAgg5
 z5:=Tryz.sizeOf5
 v5:=Tryz.zeroValue5
 t9:=Tryz.underlying9
 a9:=Tryz.isAgg9
 z9:=Tryz.sizeOf9
 v9:=Tryz.zeroValue9
 t26:=Tryz.underlying40
 a26:=Tryz.isAgg40
 z26:=Tryz.sizeOf40
 v26:=Tryz.zeroValue40
 t27:=Tryz.underlying40
 a27:=Tryz.isAgg40
 z27:=Tryz.sizeOf40
 v27:=Tryz.zeroValue40
 t29:=Tryz.underlying9
 a29:=Tryz.isAgg9
 z29:=Tryz.sizeOf9
 v29:=Tryz.zeroValue9
 t32:=Tryz.underlying263
 a32:=Tryz.isAgg263
 z32:=Tryz.sizeOf263
 v32:=Tryz.zeroValue263
 t35:=Tryz.underlying343
 a35:=Tryz.isAgg343
 z35:=Tryz.sizeOf343
 v35:=Tryz.zeroValue343
 t36:=Tryz.underlying344
 a36:=Tryz.isAgg344
 z36:=Tryz.sizeOf344
 v36:=Tryz.zeroValue344
 t41:=Tryz.underlying348
 a41:=Tryz.isAgg348
 z41:=Tryz.sizeOf348
 v41:=Tryz.zeroValue348
 t44:=Tryz.underlying351
 a44:=Tryz.isAgg351
 z44:=Tryz.sizeOf351
 v44:=Tryz.zeroValue351
 t46:=Tryz.underlying264
 a46:=Tryz.isAgg264
 z46:=Tryz.sizeOf264
 v46:=Tryz.zeroValue264
 t53:=Tryz.underlying411
 a53:=Tryz.isAgg411
 z53:=Tryz.sizeOf411
 v53:=Tryz.zeroValue411
 t57:=Tryz.underlying317
 a57:=Tryz.isAgg317
 z57:=Tryz.sizeOf317
 v57:=Tryz.zeroValue317
 t63:=Tryz.underlying466
 a63:=Tryz.isAgg466
 z63:=Tryz.sizeOf466
 v63:=Tryz.zeroValue466
 t64:=Tryz.underlying467
 a64:=Tryz.isAgg467
 z64:=Tryz.sizeOf467
 v64:=Tryz.zeroValue467 }
def Tryz.Oq:iP:=⟨fun|6=>120|8=>174|9=>175|11=>250|13=>143|12=>251|23=>210|24=>211|14=>315|15=>316|16=>317|17=>318|18=>319|19=>320|20=>321|21=>322|22=>323|25=>357|26=>283|27=>284|28=>358|29=>359|30=>360|31=>368|n=>n,fun|26=>3|28=>220|24=>43|0=>0|3=>3|37=>263|48=>351|50=>264|4=>4|40=>344|39=>343|45=>348|5=>5|9=>9|51=>411|55=>317|57=>466|58=>467|33=>190|n=>n,fun|n=>n⟩
theorem Tryz.ak1:D7 pg Tryz.Oq:= {
 mixed:=by kernel_rfl
 f6:=⟨Tryz.f120.name,by decide,Tryz.func120.trans Go.aK.kS⟩
 f8:=⟨Tryz.f174.name,by decide,Tryz.func174.trans Go.aK.kS⟩
 f11:=⟨Tryz.f250.name,by decide,Tryz.func250.trans Go.aK.kS⟩
 t0:=Tryz.underlying0
 a0:=Tryz.isAgg0
 z0:=Tryz.sizeOf0
 v0:=Tryz.zeroValue0
 t24:=Tryz.underlying43
 a24:=Tryz.isAgg43
 z24:=Tryz.sizeOf43
 v24:=Tryz.zeroValue43
 t26:=Tryz.underlying3
 a26:=Tryz.isAgg3
 z26:=Tryz.sizeOf3
 v26:=Tryz.zeroValue3
 t28:=Tryz.underlying220
 a28:=Tryz.isAgg220
 z28:=Tryz.sizeOf220
 v28:=Tryz.zeroValue220
 i26:=by kernel_rfl }
def Tryz.agf:iP:=⟨fun|5=>175|8=>143|7=>251|19=>210|20=>211|10=>315|11=>316|12=>317|13=>318|14=>319|15=>320|16=>321|17=>322|18=>323|30=>357|31=>283|32=>284|33=>358|34=>359|35=>360|40=>368|n=>n,fun|23=>43|25=>3|3=>3|32=>263|22=>43|0=>0|44=>351|46=>264|4=>4|36=>344|35=>343|41=>348|5=>5|9=>9|53=>411|57=>317|63=>466|64=>467|n=>n,fun|n=>n⟩
theorem Tryz.ajL:Fq pg Tryz.agf:= {
 mixed:=by kernel_rfl
 f5:=⟨Tryz.f175.name,by decide,Tryz.func175.trans Go.aK.kS⟩
 f7:=⟨Tryz.f251.name,by decide,Tryz.func251.trans Go.aK.kS⟩
 f8:=Tryz.func143.trans Go.aK.kS
 f10:=⟨Tryz.f315.name,by decide,Tryz.func315.trans Go.aK.kS⟩
 f11:=⟨Tryz.f316.name,by decide,Tryz.func316.trans Go.aK.kS⟩
 f12:=⟨Tryz.f317.name,by decide,Tryz.func317.trans Go.aK.kS⟩
 f13:=⟨Tryz.f318.name,by decide,Tryz.func318.trans Go.aK.kS⟩
 f14:=⟨Tryz.f319.name,by decide,Tryz.func319.trans Go.aK.kS⟩
 f15:=⟨Tryz.f320.name,by decide,Tryz.func320.trans Go.aK.kS⟩
 f16:=⟨Tryz.f321.name,by decide,Tryz.func321.trans Go.aK.kS⟩
 f17:=⟨Tryz.f322.name,by decide,Tryz.func322.trans Go.aK.kS⟩
 f18:=⟨Tryz.f323.name,by decide,Tryz.func323.trans Go.aK.kS⟩
 f19:=Tryz.func210.trans Go.aK.kS
 f20:=Tryz.func211.trans Go.aK.kS
 f30:=⟨Tryz.f357.name,by decide,Tryz.func357.trans Go.aK.kS⟩
 f31:=Tryz.func283.trans Go.aK.kS
 f32:=Tryz.func284.trans Go.aK.kS
 f33:=⟨Tryz.f358.name,by decide,Tryz.func358.trans Go.aK.kS⟩
 f34:=⟨Tryz.f359.name,by decide,Tryz.func359.trans Go.aK.kS⟩
 f35:=⟨Tryz.f360.name,by decide,Tryz.func360.trans Go.aK.kS⟩
 f40:=⟨Tryz.f368.name,by decide,Tryz.func368.trans Go.aK.kS⟩
 t0:=Tryz.underlying0
 a0:=Tryz.isAgg0
 z0:=Tryz.sizeOf0
 v0:=Tryz.zeroValue0
 t3:=Tryz.underlying3
 a3:=Tryz.isAgg3
 z3:=Tryz.sizeOf3
 v3:=Tryz.zeroValue3
 t4:=Tryz.underlying4
 a4:=Tryz.isAgg4
 z4:=Tryz.sizeOf4
 v4:=Tryz.zeroValue4
 t5:=Tryz.underlying5
 a5:=Tryz.isAgg5
 z5:=Tryz.sizeOf5
 v5:=Tryz.zeroValue5
 t9:=Tryz.underlying9
 a9:=Tryz.isAgg9
 z9:=Tryz.sizeOf9
 v9:=Tryz.zeroValue9
 t22:=Tryz.underlying43
 a22:=Tryz.isAgg43
 z22:=Tryz.sizeOf43
 v22:=Tryz.zeroValue43
 t23:=Tryz.underlying43
 a23:=Tryz.isAgg43
 z23:=Tryz.sizeOf43
 v23:=Tryz.zeroValue43
 t25:=Tryz.underlying3
 a25:=Tryz.isAgg3
 z25:=Tryz.sizeOf3
 v25:=Tryz.zeroValue3
 t32:=Tryz.underlying263
 a32:=Tryz.isAgg263
 z32:=Tryz.sizeOf263
 v32:=Tryz.zeroValue263
 t35:=Tryz.underlying343
 a35:=Tryz.isAgg343
 z35:=Tryz.sizeOf343
 v35:=Tryz.zeroValue343
 t36:=Tryz.underlying344
 a36:=Tryz.isAgg344
 z36:=Tryz.sizeOf344
 v36:=Tryz.zeroValue344
 t41:=Tryz.underlying348
 a41:=Tryz.isAgg348
 z41:=Tryz.sizeOf348
 v41:=Tryz.zeroValue348
 t44:=Tryz.underlying351
 a44:=Tryz.isAgg351
 z44:=Tryz.sizeOf351
 v44:=Tryz.zeroValue351
 t46:=Tryz.underlying264
 a46:=Tryz.isAgg264
 z46:=Tryz.sizeOf264
 v46:=Tryz.zeroValue264
 t53:=Tryz.underlying411
 a53:=Tryz.isAgg411
 z53:=Tryz.sizeOf411
 v53:=Tryz.zeroValue411
 t57:=Tryz.underlying317
 a57:=Tryz.isAgg317
 z57:=Tryz.sizeOf317
 v57:=Tryz.zeroValue317
 t63:=Tryz.underlying466
 a63:=Tryz.isAgg466
 z63:=Tryz.sizeOf466
 v63:=Tryz.zeroValue466
 t64:=Tryz.underlying467
 a64:=Tryz.isAgg467
 z64:=Tryz.sizeOf467
 v64:=Tryz.zeroValue467 }
def Tryz.UJ:iP:=⟨fun|7=>119|10=>173|n=>n,fun|23=>109|26=>9|3=>150|28=>216|0=>0|27=>215|33=>282|4=>4|n=>n,fun|n=>n⟩
theorem Tryz.apj:rQ pg Tryz.UJ:= {
 mixed:=by kernel_rfl
 f7:=⟨Tryz.f119.name,by decide,Tryz.func119.trans Go.aK.kS⟩
 f10:=⟨Tryz.f173.name,by decide,Tryz.func173.trans Go.aK.kS⟩
 t0:=Tryz.underlying0
 a0:=Tryz.isAgg0
 z0:=Tryz.sizeOf0
 v0:=Tryz.zeroValue0
 t4:=Tryz.underlying4
 a4:=Tryz.isAgg4
 z4:=Tryz.sizeOf4
 v4:=Tryz.zeroValue4
 t23:=Tryz.underlying109
 a23:=Tryz.isAgg109
 z23:=Tryz.sizeOf109
 v23:=Tryz.zeroValue109
 t26:=Tryz.underlying9
 a26:=Tryz.isAgg9
 z26:=Tryz.sizeOf9
 v26:=Tryz.zeroValue9
 t27:=Tryz.underlying215
 a27:=Tryz.isAgg215
 z27:=Tryz.sizeOf215
 v27:=Tryz.zeroValue215
 t28:=Tryz.underlying216
 a28:=Tryz.isAgg216
 z28:=Tryz.sizeOf216
 v28:=Tryz.zeroValue216
 t33:=Tryz.underlying282
 a33:=Tryz.isAgg282
 z33:=Tryz.sizeOf282
 v33:=Tryz.zeroValue282 }
def Tryz.UK:iP:=⟨fun|7=>169|10=>239|n=>n,fun|23=>287|26=>9|3=>97|28=>216|0=>0|27=>215|33=>282|4=>4|n=>n,fun|n=>n⟩
theorem Tryz.apk:rQ pg Tryz.UK:= {
 mixed:=by kernel_rfl
 f7:=⟨Tryz.f169.name,by decide,Tryz.func169.trans Go.aK.kS⟩
 f10:=⟨Tryz.f239.name,by decide,Tryz.func239.trans Go.aK.kS⟩
 t0:=Tryz.underlying0
 a0:=Tryz.isAgg0
 z0:=Tryz.sizeOf0
 v0:=Tryz.zeroValue0
 t4:=Tryz.underlying4
 a4:=Tryz.isAgg4
 z4:=Tryz.sizeOf4
 v4:=Tryz.zeroValue4
 t23:=Tryz.underlying287
 a23:=Tryz.isAgg287
 z23:=Tryz.sizeOf287
 v23:=Tryz.zeroValue287
 t26:=Tryz.underlying9
 a26:=Tryz.isAgg9
 z26:=Tryz.sizeOf9
 v26:=Tryz.zeroValue9
 t27:=Tryz.underlying215
 a27:=Tryz.isAgg215
 z27:=Tryz.sizeOf215
 v27:=Tryz.zeroValue215
 t28:=Tryz.underlying216
 a28:=Tryz.isAgg216
 z28:=Tryz.sizeOf216
 v28:=Tryz.zeroValue216
 t33:=Tryz.underlying282
 a33:=Tryz.isAgg282
 z33:=Tryz.sizeOf282
 v33:=Tryz.zeroValue282 }
def Tryz.UL:iP:=⟨fun|7=>231|10=>306|n=>n,fun|23=>370|26=>9|3=>3|28=>216|0=>0|27=>215|33=>282|4=>4|n=>n,fun|n=>n⟩
theorem Tryz.apl:rQ pg Tryz.UL:= {
 mixed:=by kernel_rfl
 f7:=⟨Tryz.f231.name,by decide,Tryz.func231.trans Go.aK.kS⟩
 f10:=⟨Tryz.f306.name,by decide,Tryz.func306.trans Go.aK.kS⟩
 t0:=Tryz.underlying0
 a0:=Tryz.isAgg0
 z0:=Tryz.sizeOf0
 v0:=Tryz.zeroValue0
 t4:=Tryz.underlying4
 a4:=Tryz.isAgg4
 z4:=Tryz.sizeOf4
 v4:=Tryz.zeroValue4
 t23:=Tryz.underlying370
 a23:=Tryz.isAgg370
 z23:=Tryz.sizeOf370
 v23:=Tryz.zeroValue370
 t26:=Tryz.underlying9
 a26:=Tryz.isAgg9
 z26:=Tryz.sizeOf9
 v26:=Tryz.zeroValue9
 t27:=Tryz.underlying215
 a27:=Tryz.isAgg215
 z27:=Tryz.sizeOf215
 v27:=Tryz.zeroValue215
 t28:=Tryz.underlying216
 a28:=Tryz.isAgg216
 z28:=Tryz.sizeOf216
 v28:=Tryz.zeroValue216
 t33:=Tryz.underlying282
 a33:=Tryz.isAgg282
 z33:=Tryz.sizeOf282
 v33:=Tryz.zeroValue282 }
def Tryz.UM:iP:=⟨fun|7=>164|10=>230|n=>n,fun|23=>281|26=>3|3=>40|28=>220|0=>0|27=>219|33=>190|4=>4|n=>n,fun|n=>n⟩
theorem Tryz.apm:qH pg Tryz.UM:= {
 mixed:=by kernel_rfl
 f7:=⟨Tryz.f164.name,by decide,Tryz.func164.trans Go.aK.kS⟩
 f10:=⟨Tryz.f230.name,by decide,Tryz.func230.trans Go.aK.kS⟩
 t0:=Tryz.underlying0
 a0:=Tryz.isAgg0
 z0:=Tryz.sizeOf0
 v0:=Tryz.zeroValue0
 t4:=Tryz.underlying4
 a4:=Tryz.isAgg4
 z4:=Tryz.sizeOf4
 v4:=Tryz.zeroValue4
 t23:=Tryz.underlying281
 a23:=Tryz.isAgg281
 z23:=Tryz.sizeOf281
 v23:=Tryz.zeroValue281
 t26:=Tryz.underlying3
 a26:=Tryz.isAgg3
 z26:=Tryz.sizeOf3
 v26:=Tryz.zeroValue3
 t27:=Tryz.underlying219
 a27:=Tryz.isAgg219
 z27:=Tryz.sizeOf219
 v27:=Tryz.zeroValue219
 t28:=Tryz.underlying220
 a28:=Tryz.isAgg220
 z28:=Tryz.sizeOf220
 v28:=Tryz.zeroValue220
 t33:=Tryz.underlying190
 a33:=Tryz.isAgg190
 z33:=Tryz.sizeOf190
 v33:=Tryz.zeroValue190 }
end Go.Proofs
namespace Go.Proofs.YtgfijddlkhkopaaGreat
open Go.Proofs.Tryz renaming prog → pg
open Go.aK Go.RowKit Go.Maps Go.Sort Go.Shelf Go.Proofs
set_option maxRecDepth 100000
set_option maxHeartbeats 4000000
variable {H : Type}
theorem insert_perm (x:Lit×DataW H): ∀l:List (Lit×DataW H),(vH x l).Perm (x::l)
 |[]=>yd _
 |y::r=>by
  unfold vH;split
  ·exact yd _
  ·exact((insert_perm x r).cons y).trans (List.Perm.swap x y r)
theorem ye: ∀l:List (Lit×DataW H),(l.foldr vH []).Perm l
 |[]=>yd _
 |x::l=>(insert_perm x _).trans ((ye l).cons x)
def RT:Value->Option (DataW Unit×List MemPlace):=λ_=>some (.lit (.bool true),[])
variable {b kt : Nat} {X : XS} {w : World} {P : Program}
theorem abe {c:Nat} {es:List (jo ByteArray)} (h:ml w X b aN es c) (hk:P.underlying kt=some .string) (hs: ∀x∈es,x.1.size<=2^40) (hl:es.length<=2^40):
  ∃D0:DataW Unit,w.ownsMap P kt RT b es.length D0/\Maps.size D0=es.length/\(strKeys D0).Perm (es.map λx=>x.1.data.toList):=by
 have Hc:(2:Nat)^40<=maxLen:=by decide
 have oJ: ∀x∈es,keyOf P kt (.string x.1)=some (.string x.1.data.toList):=λx hx=>by
  unfold keyOf mapKey;rw[hk]
  grind
 have jv: ∀x∈es,rR P kt RT (ly aN x)=some (.string x.1.data.toList,.lit (.bool true)):=λx hx=>by grind [rR,ly,RT]
 have aiQ:(es.map (ly aN)).map (mK P kt RT)=es.map λx=>((.string x.1.data.toList:Lit),(.lit (.bool true):DataW Unit)):=by
  rw[bU];apply eu;intro x hx;simp only[Function.comp,mK,jv x hx,Option.getD_some]
 refine⟨.map (((es.map (ly aN)).map (mK P kt RT)).foldr vH []),⟨_,c,h.2.1,⟨?_,⟨?_,?_,?_⟩,?_⟩,by simp,by simp⟩,?_,?_⟩
 ·grind
 ·intro x hx;simp only[cR,List.mem_map] at hx;obtain⟨y,hy,rfl⟩:=hx;exact h.2.2.2.2 y hy
 ·have:=h.2.2.2.1;simpa [bU,jI,ly] using this
 ·have h1:=h.2.2.1;have e:((es.map (ly aN)).toArray.toList.map (·.key))=(es.map (·.1)).map aN:=by simp[bU,jI,ly]
  rw[e];exact List.Pairwise.map aN (λa b wM e=>wM (by cases e;rfl)) h1
 ·intro x hx;simp only[cR,List.mem_map] at hx;obtain⟨y,hy,rfl⟩:=hx;exact⟨_,jv y hy⟩
 ·show ba _=_
  rw[(ye _).length_eq];simp
 ·show(List.map _ _).Perm _
  refine((ye _).map _).trans ?_;rw[aiQ,bU];rfl
def leB (x y:List UInt8):Bool:=decide (x<=y)
def bl (s:ByteArray):List UInt8:=s.data.toList
theorem apn (s:ByteArray):(⟨(bl s).toArray⟩:ByteArray)=s:=by rfl
def fG (ks:List ByteArray):List ByteArray:=((ks.map bl).mergeSort leB).map λx=>⟨x.toArray⟩
theorem UN: ∀a b c:List UInt8,leB a b=true->leB b c=true->leB a c=true:=λa b c h1 h2=>by
 unfold leB at*
 grind
theorem UO: ∀a b:List UInt8,(leB a b||leB b a)=true:=λa b=>by grind [leB]
theorem aiR: ∀a b:List UInt8,leB a b=true->leB b a=true->a=b:=λa b h1 h2=>by
 unfold leB at*
 grind
theorem UP: ∀{l l':List (List UInt8)},l.Perm l'->l.Pairwise (λa b=>leB a b=true)->l'.Pairwise (λa b=>leB a b=true)->l=l'
 |[],l',hp,_,_=>(List.Perm.nil_eq hp)
 |a::l,[],hp,_,_=>absurd hp.length_eq sQ
 |a::l,b::l',hp,h1,h2=>by
  have Ke:=List.pairwise_cons.1 h1;have h2':=List.pairwise_cons.1 h2;have wM:a=b:=by
   have ha:a∈b::l':=hp.mem_iff.1 sQ;have hb:b∈a::l:=hp.mem_iff.2 sQ;rcases List.mem_cons.1 ha with e|ha
   ·exact e
   ·rcases List.mem_cons.1 hb with e|hb
    ·exact e.symm
    ·exact aiR a b (Ke.1 b hb) (h2'.1 a ha)
  subst wM;rw[UP (List.Perm.cons_inv hp) Ke.2 h2'.2]
theorem UQ {l l':List (List UInt8)} (h:l.Perm l'):l.mergeSort leB=l'.mergeSort leB:=
 UP (((sF l leB).trans h).trans (sF l' leB).symm) (uQ UN UO l) (uQ UN UO l')
theorem jx (ks:List ByteArray):(fG ks).Perm ks:=by
 have h:=(sF (ks.map bl) leB).map λx=>(⟨x.toArray⟩:ByteArray);rw[bU] at h;have e:(ks.map ((λx=>(⟨x.toArray⟩:ByteArray))∘bl))=ks:=by
  conv=>rhs;rw[<-List.map_id ks]
  apply eu;intro x _;exact apn x
 rw[e] at h;exact h
theorem ahE {ks ks':List ByteArray} (h:ks.Perm ks'):fG ks=fG ks':=by grind [fG,UQ]
def aiS (m:Nat):AnyZ.SortsIn pg Tryz.Oo gp m:=
  ⟨λfc off cap ss W hH hblk gh=>callsIn_wide.2 (AnyM.slices_Sort_string Tryz.VS fc off cap ss W hH hblk gh),
   λp cap W=>callsIn_wide.2 (AnyM.slices_Sort_string_none Tryz.VS p cap W)⟩
variable {mb : Nat} {A : XS}
theorem PB {g:FuncId} {lb:Array Value} {α:Type} {rd:World->XS->Value->α->Prop} {l:List (ByteArray×α)} (h:dM w X A mb aN rd l) (eg:enters pg g=true)
  (hs: ∀x∈l,x.1.size<=2^40) (hl:l.length<=2^40)
  (hg: ∀wa,Kp X w wa-> ∀(nn:Nat) (D0:DataW Unit),wa.ownsMap pg 9 RT mb nn D0->SeqGives gp 2 pg g lb encStr (λss=>ss.Perm (strKeys D0)) (Maps.size D0) wa):
  Ct pg 118 #[.func (.func g) #[] lb] w X nX λv wa w'=>Own w' (made wa w') wa.heap.size 9 1 v ((fG (l.map (·.1))).map S1):=by
 intro wa hk;obtain⟨es,c,h1,h2⟩:=h;have Cf:=h2.keys;have hlen:es.length=l.length:=by have:=congrArg ba Cf;simpa using this
 obtain⟨D0,uV,gh,RC⟩:=abe (P:=pg) (h1.kp hk) (kt:=9) kQ (λx hx=>by
  have:x.1∈l.map (·.1):=by rw[<-Cf];exact List.mem_map.2 ⟨x,hx,rfl⟩
  obtain⟨y,hy,e⟩:=List.mem_map.1 this
  grind) zQ
 have Hc:(2:Nat)^40<=maxLen:=by decide
 have hS:=callsIn_wide.1 (AnyZ.sorted_in Tryz.ak0 gp 5 trivial trivial trivial trivial rfl zQ (aiS _) (λargs w=>oV kQ args w) g lb trivial (λargs w=>oV eg args w) _ _ zQ zQ wa (hg wa hk _ D0 uV));refine hS.mono ?_;rintro e w' ⟨v,ss,rfl,hp,bo,ahB,hb⟩;have hx:Ext wa w':=⟨hb.os,hb.tape,hb.output,hb.size,λk ah _=>hb.block k ah⟩;refine⟨v,rfl,hx,?_⟩;have e1:ss.mergeSort (λx y=>decide (x<=y))=(l.map λx=>bl x.1).mergeSort leB:=by
  have hp2:ss.Perm (l.map λx=>bl x.1):=by
   refine hp.trans (RC.trans ?_);have:(es.map λx=>x.1.data.toList)=(l.map λx=>bl x.1):=by
    have:=congrArg (List.map bl) Cf;simpa [bU,jI,bl] using this
   rw[this]
  exact UQ hp2
 have e2:((ss.mergeSort (λx y=>decide (x<=y))).map encStr)=((fG (l.map (·.1))).map S1).flatten:=by
  rw[e1];unfold fG;rw[bU,bU];have e3: ∀q:List (List UInt8),q.map encStr=(q.map (S1∘λx=>(⟨x.toArray⟩:ByteArray))).flatten:=λq=>by
   induction q with
   |nil=>rfl
   |cons a q ih=>simp only[List.map_cons,List.flatten_cons,<-ih];rfl
  exact e3 _
 have sh:ss.length=((fG (l.map (·.1))).map S1).length:=by
  rw[af,(jx _).length_eq,af,<-hlen];have:=hp.length_eq;rw[this,RC.length_eq,af]
 refine⟨λr hr=>by obtain⟨x,_,rfl⟩:=List.mem_map.1 hr;rfl,?_,λq hq=>⟨?_,?_⟩⟩
 ·rw[<-sh,<-e2];exact bo
 ·exact(bo.lt _ hq).1
 ·exact(bo.lt _ hq).2
attribute [local irreducible] un jn jc iE ld1 iw st1 kY kZ oP rF o9 Hg Dz gO ga aV lK lB eW eV eU eC eF gE me fin iu bu eB vS Kz Hh Hi Hj Hk Hl KA KB KC KD Et Eu Hm Hn Ho KE KF KG
variable {R : Ending -> World -> Prop} {w0 : World} {F F0 G : XS} {db o' t z : Nat} {m : DM} {N : Value -> Prop}
section
variable {l : List (ByteArray × mX)}
theorem anK {κ α:Type} [DecidableEq κ] {ty et:Nat} {kv:κ->Value} {rd:World->XS->Value->α->Prop} {l:List (κ×α)} (h:dM w X A b kv rd l) (ht:P.underlying t=some (.map kt et))
  (n:N (I l.length)):aV P X w (mJ #[t] ty #[.map (some b)]) N:=by
 obtain⟨es,c,h1,h2⟩:=h;refine Hd (I l.length) (λwa hk=>?_) n;have hl:es.length=l.length:=by have:=congrArg ba h2.keys;simpa using this
 simp[mJ,run_underlying ht,getObj,Sem.run,((h1.kp hk).2.1),goInt,hl]
theorem apo {t ty:TypeId} {a b:Int} (h:N (I (max a b))):aV P X w (kV #[t,t] ty #[I a,I b]) N:=
 bF (λwa=>by
  simp only[kV,List.foldlM];by_cases hc:a<b
  ·have:max a b=b:=by omega
   simp[rS,hc,this]
  ·have:max a b=a:=by omega
   simp[rS,hc,this]) h
def agh {t:TypeId} {a b:Int} (h:N (.int .i64 (IntKind.i64.wrap (a+b)))):aV P X w (binOp .add t (.int .i64 a) (.int .i64 b)) N:=nK h
theorem xK {N:Value->World->XS->Prop} {o:Nat} {v:Value} (hT:Ft w0 F0 w X F) (h:nM w G db mb l m z) (hG: ∀k,G k->F k) (m':DM) (z':Nat) (LY:o'=o) (ht:((P.info? t).map (·.size))=some 1) (ho:o+1<=5) (h1:aK.one v=true)
  (hc:bO [.map (some mb),I z,I m.wr,I m.ar,B m.dn] o [v]=[.map (some mb),I z',I m'.wr,I m'.ar,B m'.dn]) (Oa:m'.fs=m.fs) (har:m'.ar<2^63)
  (n: ∀w' X',Ft w0 F0 w' X' F->nM w' G db mb l m' z'->ee (· =db) X w X' w'->N undef w' X'):eU P R X w true (st1 t 1 (ptr db o') v) N:=by
 subst LY;have hX: ∀k,G k->X k:=λk hk=>hT.bw k (hG k hk);have hv:v.cells= #[v]:=sL h1;refine DZ (h.box.mv (Mv.sub hX)) ht ho (by rw[hv];rfl) (by rw[hv];simp[h1]) hT.s.has λw' X' c hr=>?_;rw[hv] at hr;rw[hc] at hr;exact n w' X' (hT.dY c (λk hk=>by subst hk;exact hG _ h.box.1) λk hk=>.inl hk) (h.anJ hX c hr Oa har) c
end
variable {n : ByteArray}
theorem qY {l:List (ByteArray×mX)} (hm:dM w X nX mb aN On l) (n1: ∀f,getM n l=some f->N (ptr f.b 0)) (n0:getM n l=none->N (.pointer none)):
  aV pg X w (Instr.lookup 109 (.map (some mb)) (.string n) false) N:=
 lO (kt:=9) (et:=150) (.pointer none) hm (II kQ) kQ kQ (λv f h1 h2=>by
  have h2:v=ptr f.b 0:=h2;subst h2;exact n1 f h1) n0
theorem Ot {l:List (ByteArray×mX)} (h:nM w F db mb l m z) (hF:FX F X w) (jK:m.dn=false):
  Ct pg 280 #[ptr db 0] w X F λv wa w'=>v=B m.tick.dn/\nM w' F db mb l m.tick z:=by
 intro w0 hk;have h0:=h.mv (hF.mv hk);have hT:=hF.ft hk;clear h;have har:=h0.ar;refine Ns.1 λ_=>?_;have hb:=h0.box.mv (Mv.sub hT.bw);rw[jK] at hb;have sR: ∀k,F k->F k:=λ_ h=>h;refine cB ?_;repeat' first|refine ak ?_;intros|refine cM ?_ ?_<;>intros|with_reducible apply cB
 ·refine xK hT h0 sR { m with ar:=m.ar-1 } z (o:=3) zQ kQ zQ rfl (by rw[show((m.ar-1:Nat):Int)=(m.ar:Int)-1 by omega];rfl) rfl (by show m.ar-1<_;omega) λw1 X1 hT h1 c1=>?_;clear hb h0;have hb:=h1.box.mv (Mv.sub hT.bw);repeat' first|refine ak ?_;intros|refine cM ?_ ?_<;>intros
  ·refine xK hT h1 sR { m with ar:=m.ar-1,dn:=true } z (o:=4) zQ kQ zQ rfl rfl rfl h1.ar λw1 X1 hT h2 c1=>?_;clear hb h1;have hb:=h2.box.mv (Mv.sub hT.bw);have q':((m.ar-1:Nat):Int)=0:=by assumption
   have rK:m.ar=1:=by omega
   repeat' first|refine ak ?_;intros|with_reducible apply cB
   refine hT.fin λwa aH=>⟨by rw[DM.tick,if_pos rK],?_⟩;rw[DM.tick,if_pos rK];rw[show m.ar-1=0 by omega] at h2;exact h2.mv (aH.iZ hT.bw)
  ·refine xK hT h1 sR { m with ar:=m.ar-1,dn:=false } z (o:=4) zQ kQ zQ rfl rfl rfl h1.ar λw1 X1 hT h2 c1=>?_;clear hb h1;have hb:=h2.box.mv (Mv.sub hT.bw);have q': ¬((m.ar-1:Nat):Int)=0:=by assumption
   have rK: ¬m.ar=1:=by omega
   repeat' first|refine ak ?_;intros|with_reducible apply cB|(with_reducible apply agh)
   refine xK hT h2 sR { m with ar:=m.ar-1,dn:=false,wr:=IntKind.i64.wrap (m.wr+1) } z (o:=2) zQ kQ zQ rfl rfl rfl h2.ar λw1 X1 hT h3 c1=>?_;clear hb h2;have hb:=h3.box.mv (Mv.sub hT.bw);repeat' refine ak ?_;intros
   refine hT.fin λwa aH=>⟨by rw[DM.tick,if_neg rK,jK],?_⟩;rw[DM.tick,if_neg rK];have h4:=h3.mv (aH.iZ hT.bw);rw[<-jK] at h4;exact h4
 ·have rK: ¬m.ar=1:=by omega
  have ha0:m.ar-1=m.ar:=by omega
  repeat' first|refine ak ?_;intros|(with_reducible apply agh)
  refine xK hT h0 sR { m with wr:=IntKind.i64.wrap (m.wr+1) } z (o:=2) zQ kQ zQ rfl rfl rfl h0.ar λw1 X1 hT h3 c1=>?_;clear hb h0;have hb:=h3.box.mv (Mv.sub hT.bw);rw[jK] at hb;repeat' refine ak ?_;intros
  refine hT.fin λwa aH=>⟨by rw[DM.tick,if_neg rK,jK],?_⟩;rw[DM.tick,if_neg rK,ha0];exact h3.mv (aH.iZ hT.bw)
theorem abf (n:ByteArray):Pure pg 255 #[.string n] (B (vR n)):=by
 intro w0;refine Zl.1 λhs=>?_;repeat' first|refine ak ?_;intros|refine cM ?_ ?_<;>intros|(with_reducible refine fJ hs ?_);(simp_all [vR]<;>omega)
theorem adQ:Ct pg 35 #[] w X nX λv wa w'=> ∃db,v=ptr db 0/\Dk w' (made wa w') db ⟨[],0,0,false⟩:=by
 intro w0 hk;refine aaX.1 λhs=>?_;refine ri (kv:=aN) On nX hs.has λmb w1 X1 ZP ax qp=>?_;replace hs:=hs.trans ax;refine aed kQ ?_;refine AZ hs.has λbx w2 X2 fY bp bo=>?_;have rl:=qp.mv kP bp.mv (λ_ h=>h.elim) (A':=nX);have hz:=hs.kp.size;refine bM (hs.trans bp) λwa aH=>⟨bx,rfl,mb,[],⟨rfl,⟨⟨by omega,(bo.kp aH).lt⟩,(bo.kp aH).2⟩,?_,by simp,by simp,List.Pairwise.nil,by decide,by simp⟩,by decide⟩;exact rl.own.mv kP (Mv.one aH rl.x.1 ⟨ZP,aw rl.x.2 aH.size⟩) λ_ h=>h.elim
theorem aaK (h:Dk w F db m) (hF:FX F X w):Ct pg 125 #[ptr db 0] w X nX λv wa w'=>v=B m.dn:=by
 intro w0 hk;obtain⟨mb,l,h0,hz⟩:=h.mv (hF.mv hk);have hb:=h0.box.mv (Mv.sub λk ah=>(hF.kp hk k ah).1);refine Nn.1 λhs=>?_;repeat' first|refine ak ?_;intros|(refine qr ?_;intro wa hk;rfl)
theorem Qv (h:Dk w F db m) (hF:FX F X w):Ct pg 258 #[ptr db 0,.string n] w X nX λv wa w'=>v=I (if(m.get n).isSome then 0 else 8):=by
 intro w0 hk;obtain⟨mb,l,h0,hz⟩:=h.mv (hF.mv hk);have hX:=λk ah=>(hF.kp hk k ah).1;have hb:=h0.box.mv (Mv.sub hX);have hg:=h0.get n;have hm:=h0.map.mv kP (Mv.sub hX) (A':=nX) λ_ h=>h.elim;refine Pr.1 λhs=>?_;repeat' refine ak ?_;intros
 refine qY hm (λf h1=>?_) λh1=>?_
 ·repeat' first|refine ak ?_;intros|(refine qr ?_;intro wa hk;(rw[hg,h1];rfl))
 ·repeat' first|refine ak ?_;intros|(refine qr ?_;intro wa hk;(rw[hg,h1];rfl))
theorem EH {f:Nat} {c:List Value} {e:Nat} {g:DM->DM} (h:Dk w F db m) (hF:FX F X w) (hA: ∀k,A k->X k/\k<w.heap.size/\ ¬F k) (hf:enters pg f=true)
  (hdo:e=0-> ∀w1 X1,Mv A w A w1->(∀k,A k->X1 k)->FX F X1 w1->Dk w1 F db m.tick->Ct pg f c.toArray w1 X1 F λv wa w'=>v= .tuple #[]/\ ∃F',(∀k,F' k->F k\/made wa w' k)/\Dk w' F' db (g m.tick)):
  Ct pg 256 #[ptr db 0,I e,.func (.func f) #[] c.toArray] w X F λv wa w'=>v=I (m.write e g).2/\ ∃F',(∀k,F' k->F k\/made wa w' k)/\Dk w' F' db (m.write e g).1:=by
 intro w0 hk;obtain⟨mb,l,h0,hz⟩:=h.mv (hF.mv hk);have hT:=hF.ft hk;have nN:FX F (bI w0) w0:=hF.kp hk;have hAm:Mv A w A w0:=λk ah _=>⟨ah,hk.block k (hA k ah).1⟩;have hb:=h0.box.mv (Mv.sub hT.bw);have hs:=ai.init w0;have stay: ∀{w1 X1} (m':DM),Ft w0 F w1 X1 F->nM w1 F db mb l m' m'.sz->m'.sz<=4194304-> ∀wa,Kp X1 w1 wa-> ∃F',(∀k,F' k->F k\/made w0 wa k)/\Dk wa F' db m':=λm' hT h1 hz wa aH=>⟨F,hT.js aH λ_ h=>h,mb,l,h1.mv (aH.iZ hT.bw),hz⟩;have htz:m.tick.sz=m.sz:=by unfold DM.tick DM.sz;split<;>rfl
 refine L6.1 λ_=>?_;cases jK:m.dn
 ·rw[jK] at hb;repeat' first|refine ak ?_;intros|refine cM ?_ ?_<;>intros
  ·have he:e≠0:=by omega
   refine hT.fin λwa aH=>⟨?_,?_⟩
   ·simp[DM.write,jK,he]
   ·simp only[DM.write,jK,he,aU,if_false,ne_eq,not_false_eq_true,if_true];exact stay m hT h0 hz wa aH
  ·have he:e=0:=by omega
   refine hT.call (Ot h0 nN jK) kQ (λ_ h=>h) λv wa w2 X2 hq hle gn dh hc=>?_;obtain⟨rfl,h2⟩:=hq;replace dh:Ft w0 F w2 X2 F:=dh.less λk hk=>.inl hk;rw[<-htz] at h2;cases ht:m.tick.dn
   ·repeat' refine ak ?_;intros
    refine dh.call (hdo he w2 X2 (hAm.trans (hc.iZ λk ah=>⟨aw (hA k ah).2.1 hk.size,(hA k ah).2.2⟩)) (λk ah=>hc.sub k (aw (hA k ah).2.1 hk.size)) (dh.fx λ_ h=>h) ⟨mb,l,h2,htz▸hz⟩) hf (λ_ h=>h) λv yD w3 X3 P9 pV lT dU uE=>?_;obtain⟨rfl,F',CN,hD⟩:=P9;refine dU.fin λEI aH=>⟨?_,F',dU.js aH CN,?_⟩
    ·simp[DM.write,jK,he,ht]
    ·simp only[DM.write,jK,he,ht,aU,if_false,ne_eq,not_true_eq_false];exact hD.mv (aH.iZ λk ah=>dU.bw k (CN k ah))
   ·repeat' refine ak ?_;intros
    refine dh.fin λwa aH=>⟨?_,?_⟩
    ·simp[DM.write,jK,he,ht]
    ·simp only[DM.write,jK,he,ht,aU,if_false,ne_eq,not_true_eq_false,if_true];exact stay _ dh h2 (htz▸hz) wa aH
 ·rw[jK] at hb;repeat' refine ak ?_;intros
  refine hT.fin λwa aH=>⟨?_,?_⟩
  ·simp[DM.write,jK]
  ·simp only[DM.write,jK,if_true];exact stay m hT h0 hz wa aH
section
variable {l : List (ByteArray × mX)} {f : mX} {N : Value -> World -> XS -> Prop}
theorem aeA {x:Int} {s':Nat} (hT:Ft w0 F0 w X F) (h:nM w G db mb l m z) (hG: ∀k,G k->F k) (hn:getM n l=some f) (ho:o'=1) (hx:x=s') (hs:s'<=f.bs.length)
  (k: ∀w' X',Ft w0 F0 w' X' F->nM w' G db mb (cL n ⟨f.b,f.v,f.bs,s'⟩ l) (m.put n f.bs s') z->N undef w' X'):eU pg R X w true (st1 3 1 (ptr f.b o') (I x)) N:=by
 subst ho;subst hx;have hX: ∀k,G k->X k:=λk hk=>hT.bw k (hG k hk);have hr:=h.row _ (gA hn);have ho:=h.ow _ (gA hn);refine DZ (hr.mv (Mv.sub hX)) kQ sQ rfl rfl hT.s.has λw' X' c jP=>?_;have hT':Ft w0 F0 w' X' F:=hT.dY c (λk hk=>by subst hk;exact hG _ hr.1) λk hk=>.inl hk;refine k w' X' hT' (h.jO (F':=G) (hT.fx hG) c hn (λk hk=>.inl hk) (λ_ h=>h) ⟨hr.1,jP.2⟩ ?_ (.inl rfl) hs);exact ho.tight.mv λk hk hl=>⟨(ho.bw hk).1,c.block k (hX k (ho.bw hk).1) λe=>ho.eT hr kQ (by rw[<-(show k=f.b from e)];exact hk)⟩
theorem agi {vs:Value} {b:List Nat} (hT:Ft w0 F0 w X F) (h:nM w G db mb l m z) (hG: ∀k,G k->F k) (hn:getM n l=some f) (src:Sl w X 1 vs (b.map U1)) (hl:f.bs.length+b.length<=2^40)
  (k: ∀w' X',Ft w0 F0 w' X' (λk=>F k\/(X' k/\w.heap.size<=k))->(∃v',nM w' (λk=>G k\/(X' k/\w.heap.size<=k)) db mb (cL n ⟨f.b,v',f.bs++b,f.safe⟩ l) (m.put n (f.bs++b) f.safe) z)->N undef w' X'):
  eV pg R X w true (ga 151 5 1 1 151 f.v vs) λx w1 X1=>lK pg X1 w1 (bu (ptr f.b 0)) λp=>aV pg X1 w1 (iE 153 0 0 1 p) λq=>eU pg R X1 w1 true (st1 151 1 q x) N:=by
 have hX: ∀k,G k->X k:=λk hk=>hT.bw k (hG k hk);have hr:=h.row _ (gA hn);have ho:=h.ow _ (gA hn);have hsf:=h.safe _ (gA hn);have cA:f.v.ownBlock≠some f.b:=ho.eT hr kQ;refine Ra kQ hT.s.has (ho.mono hX) src (by intro r hr u hu;obtain⟨x,_,rfl⟩:=List.mem_map.1 hr;simp only[U1,List.mem_singleton] at hu;subst hu;rfl) oQ oQ λv' w1 X1 c uH dF=>?_;have oO:aG w1 X1 f.b [f.v,I f.safe] 153:=⟨c.sub _ (hX _ hr.1),by rw[c.block _ (hX _ hr.1) λe=>cA e];exact hr.2⟩
 with_reducible apply IK
 have Uk:fieldInfo pg 153 0=some (0,1):=by kernel_rfl
 refine Q8 oO.cells Uk rfl λo' vL _=>?_;subst vL;have kO:=sL uH.one;refine DZ oO kQ sQ (by rw[kO];rfl) (by rw[kO];simp[uH.one]) c.has λw' X' c' jP=>?_;rw[kO] at jP;have cc:ee (λk=>k=f.b\/f.v.ownBlock=some k) X w X' w':=(c.mono λk _ hk=>.inr hk).trans (c'.mono λk _ hk=>.inl hk);have aiT:v'.ownBlock≠some f.b:=uH.eT oO kQ;have gn: ∀g,v'.ownBlock=some g->G g\/(X' g/\w.heap.size<=g):=λg hg=>by
  rcases dF with e|⟨g',e,dD⟩
  ·exact .inl (ho.bw (e▸hg)).1
  ·rw[hg] at e;have:g=g':=Option.some.inj e;subst this;exact .inr ⟨c'.sub _ (uH.bw hg).1,dD⟩
 have ju:Ow w' (λk=>G k\/(X' k/\w.heap.size<=k)) 5 1 v' ((f.bs++b).map U1):=by
  rw[List.map_append];exact uH.tight.mv λk hk hl=>⟨gn k hk,c'.block k (uH.bw hk).1 λe=>aiT (by rw[<-(show k=f.b from e)];exact hk)⟩
 refine k w' X' (hT.dY cc (λk hk=>?_) λk hk=>hk) ⟨v',h.jO (F':=λk=>G k\/(X' k/\w.heap.size<=k)) (hT.fx hG) cc hn (λk hk=>hk) (λk hk=>.inl hk) ⟨.inl hr.1,?_⟩ ju dF (by rw[aa];have:f.safe<=f.bs.length:=hsf;omega)⟩
 ·rcases hk with rfl|hk
  ·exact hG _ hr.1
  ·exact hG _ (ho.bw hk).1
 ·exact jP.2
end
theorem VH {S:XS} {vb:Value} {b:List Nat} (h:Dk w F db m) (hF:FX F X w) (hb:Sl w S 1 vb (b.map U1)) (hS: ∀k,S k->X k/\ ¬F k) (Jn:b.length<=2^30):
  Ct pg 200 #[ptr db 0,.string n,vb] w X F λv wa w'=>v=I (m.append n b).2/\ ∃F',(∀k,F' k->F k\/made wa w' k)/\Dk w' F' db (m.append n b).1:=by
 intro w0 hk;obtain⟨mb,l,h0,hz⟩:=h.mv (hF.mv hk);have hT:=hF.ft hk;have nN:FX F (bI w0) w0:=hF.kp hk;replace hb:Sl w0 (λk=>S k/\k<w0.heap.size) 1 vb (b.map U1):=hb.mv λk ah hl=>⟨⟨ah,aw hl hk.size⟩,hk.block k (hS k ah).1⟩;have fY:=h0.box.mv (Mv.sub hT.bw);have hs:=ai.init w0;have hg:=h0.get n;have hm:=h0.map.mv kP (Mv.sub hT.bw) (A':=nX) λ_ h=>h.elim;refine JX.1 λ_=>?_;repeat' refine ak ?_;intros
 refine qY hm (λf hn=>?_) λhn=>?_
 ·have pI:m.get n=some (f.bs,f.safe):=by rw[hg,hn];rfl
  have atd:=DM.Au pI;cases jK:m.dn
  ·rw[jK] at fY;repeat' first|refine ak ?_;intros|refine cM ?_ ?_<;>intros
   ·refine hT.fin λwa aH=>⟨?_,F,hT.js aH λ_ h=>h,?_⟩
    ·simp only[DM.append,jK,pI,aU,if_false];rw[if_pos zQ];rfl
    ·simp only[DM.append,jK,pI,aU,if_false];rw[if_pos zQ];exact⟨mb,l,h0.mv (aH.iZ hT.bw),hz⟩
   ·have IM: ¬4194304-m.sz<b.length:=by omega
    refine hT.call (Ot h0 nN jK) kQ (λ_ h=>h) λv wa w2 X2 hq hle gn dh hc=>?_;obtain⟨rfl,h2⟩:=hq;replace dh:Ft w0 F w2 X2 F:=dh.less λk hk=>.inl hk;have jC:=(h2.row _ (gA hn)).mv (Mv.sub dh.bw);repeat' refine ak ?_;intros
    refine agi dh h2 (λ_ h=>h) hn ((hb.mv (hc.iZ λk ah=>⟨ah.2,(hS k ah.1).2⟩)).mono λk ah=>hc.sub k ah.2) (show f.bs.length+b.length<=2^40 by omega) λw3 X3 dU ⟨v',h3⟩=>?_;have rD:=h3.box.mv (Mv.sub dU.bw);have htz:=m.yn;repeat' refine ak ?_;intros
    have GG:=DM.K3 (bs:=f.bs++b) (s':=f.safe) ((m.pY n).trans pI);have hlen:(f.bs++b).length=f.bs.length+b.length:=aa;refine xK dU h3 (λ_ h=>h) (m.tick.put n (f.bs++b) f.safe) (m.tick.put n (f.bs++b) f.safe).sz (o:=1) zQ kQ zQ rfl (by rw[show(((m.tick.put n (f.bs++b) f.safe).sz:Nat):Int)=(m.sz:Int)+(b.length:Int)by omega];rfl) rfl h3.ar λw4 X4 fO h4 c4=>?_;have fin: ∀wa,Kp X4 w4 wa-> ∃F',(∀k,F' k->F k\/made w0 wa k)/\Dk wa F' db (m.append n b).1:=λwa aH=>⟨_,fO.js aH λ_ h=>h,by
     simp only[DM.append,jK,pI,aU,if_false];rw[if_neg IM];exact⟨mb,_,h4.mv (aH.iZ fO.bw),by show(m.tick.put n (f.bs++b) f.safe).sz<=_;omega⟩⟩
    cases ht:m.tick.dn
    ·repeat' refine ak ?_;intros
     refine fO.fin λwa aH=>⟨?_,fin wa aH⟩;simp only[DM.append,jK,pI,aU,if_false];rw[if_neg IM];simp[ht]
    ·repeat' refine ak ?_;intros
     refine fO.fin λwa aH=>⟨?_,fin wa aH⟩;simp only[DM.append,jK,pI,aU,if_false];rw[if_neg IM];simp[ht]
  ·rw[jK] at fY;repeat' refine ak ?_;intros
   refine hT.fin λwa aH=>⟨?_,F,hT.js aH λ_ h=>h,?_⟩
   ·simp[DM.append,jK]
   ·simp only[DM.append,jK,if_true];exact⟨mb,l,h0.mv (aH.iZ hT.bw),hz⟩
 ·have pI:m.get n=none:=by rw[hg,hn];rfl
  cases jK:m.dn
  ·rw[jK] at fY;repeat' refine ak ?_;intros
   refine hT.fin λwa aH=>⟨?_,F,hT.js aH λ_ h=>h,?_⟩
   ·simp[DM.append,jK,pI]
   ·simp only[DM.append,jK,pI,aU,if_false];exact⟨mb,l,h0.mv (aH.iZ hT.bw),hz⟩
  ·rw[jK] at fY;repeat' refine ak ?_;intros
   refine hT.fin λwa aH=>⟨?_,F,hT.js aH λ_ h=>h,?_⟩
   ·simp[DM.append,jK]
   ·simp only[DM.append,jK,if_true];exact⟨mb,l,h0.mv (aH.iZ hT.bw),hz⟩
variable {bd bn : Nat}
theorem ZQ (h:Dk w F db m) (hF:FX F X w) (hd:aG w X bd [ptr db 0] 25) (hn:aG w X bn [.string n] 9) (hg:(m.get n).isSome=true):
  Ct pg 281 #[ptr bd 0,ptr bn 0] w X F λv wa w'=>v= .tuple #[]/\ ∃F',(∀k,F' k->F k\/made wa w' k)/\Dk w' F' db (DM.ki n m):=by
 intro w0 hk;obtain⟨mb,l,h0,hz⟩:=h.mv (hF.mv hk);have hT:=hF.ft hk;replace hd:=hd.mv hk.bY;replace hn:=hn.mv hk.bY;have fY:=h0.box.mv (Mv.sub hT.bw);have hs:=ai.init w0;have pI:=h0.get n;have hm:=h0.map.mv kP (Mv.sub hT.bw) (A':=nX) λ_ h=>h.elim;refine I2.1 λ_=>?_;repeat' refine ak ?_;intros
 refine qY hm (λf h1=>?_) λh1=>?_
 ·repeat' refine ak ?_;intros
  refine qY hm (λf' h2=>?_) λh2=>?_
  ·rw[h1] at h2;cases h2;have hr:=(h0.row _ (gA h1)).mv (Mv.sub hT.bw);have ho:=(h0.ow _ (gA h1)).sl;have Xr:m.get n=some (f.bs,f.safe):=by rw[pI,h1];rfl
   repeat' refine ak ?_;intros
   refine aeA hT h0 (λ_ h=>h) h1 (s':=f.bs.length) zQ rfl (Nat.le_refl _) λw1 X1 ea h3=>?_;refine ea.fin λwa aH=>⟨rfl,F,ea.js aH λ_ h=>h,?_⟩;have e:DM.ki n m=m.put n f.bs f.bs.length:=by unfold DM.ki;rw[Xr]
   have gh:=m.EN n;rw[e] at gh⊢;exact⟨mb,_,by rw[gh];exact h3.mv (aH.iZ ea.bw),by omega⟩
  ·rw[h1] at h2;cases h2
 ·rw[pI,h1] at hg;cases hg
theorem abg (h:Dk w F db m) (hF:FX F X w):
  Ct pg 201 #[ptr db 0,.string n] w X F λv wa w'=>v=I (m.sync n).2/\ ∃F',(∀k,F' k->F k\/made wa w' k)/\Dk w' F' db (m.sync n).1:=by
 intro w0 hk;replace h:=h.mv (hF.mv hk);have hT:=hF.ft hk;have nN:FX F (bI w0) w0:=hF.kp hk;clear hF;refine Nr.1 λ_=>?_;refine sP rfl hT.s.has λbd w1 X1 pG ax jv=>?_;refine sP rfl ax.has λbn w2 X2 hbn bp TV=>?_;have sA:=ax.trans bp;have dh:=hT.since sA;have Tc:=jv.since bp;have h2:Dk w2 F db m:=h.mv (sA.gU λk ah=>(nN k ah).1);have hs:=ai.eQ bp.has;repeat' refine ak ?_;intros
 refine cd (Qv h2 (dh.fx λ_ h=>h)) kQ hs.has ?_;rintro v wa w3 X3 rfl hle gn cY;have dU:=dh.since cY;have h3:Dk w3 F db m:=h2.mv (cY.gU dh.bw);have ate:=jv.lt;have arv:=cY.sub _ Tc.1;have arw:=cY.sub _ TV.1;have zS:=Tc.since cY;have Di:=TV.since cY;have e8:I (if(m.get n).isSome then 0 else 8)=I (((if(m.get n).isSome then 0 else 8:Nat)):Nat):=by split<;>rfl
 rw[e8];refine dU.call (EH (A:=λk=>k=bd\/k=bn) (g:=DM.ki n) h3 (dU.fx λ_ h=>h) (λk ah=>?_) kQ ?_) kQ (λ_ h=>h) λv zk w4 X4 hq tr oH fO EL=>?_
 ·rcases ah with rfl|rfl
  ·exact⟨arv,zS.lt,λhf=>by have:=(nN _ hf).2;omega⟩
  ·exact⟨arw,Di.lt,λhf=>by have:=(nN _ hf).2;have:=ax.kp.size;omega⟩
 ·intro he w5 X5 xC QN hF5 h5;refine ZQ h5 hF5 ⟨QN _ (.inl rfl),?_⟩ ⟨QN _ (.inr rfl),?_⟩ ?_
  ·rw[(xC bd (.inl rfl) (zS.lt)).2];exact zS.2
  ·rw[(xC bn (.inr rfl) (Di.lt)).2];exact Di.2
  ·rw[m.pY];cases lx:(m.get n).isSome
   ·rw[lx] at he;cases he
   ·rfl
 ·obtain⟨rfl,F',CN,hD⟩:=hq
  skip
  refine fO.fin λEI aH=>⟨rfl,F',fO.js aH CN,hD.mv (aH.iZ λk ah=>fO.bw k (CN k ah))⟩
theorem Td (h:Dk w F db m) (hF:FX F X w) (hd:aG w X bd [ptr db 0] 25) (hn:aG w X bn [.string n] 9) (hg:m.get n=none):
  Ct pg 257 #[ptr bd 0,ptr bn 0] w X F λv wa w'=>v= .tuple #[]/\ ∃F',(∀k,F' k->F k\/made wa w' k)/\Dk w' F' db (m.put n [] 0):=by
 intro w0 hk;obtain⟨mb,l,h0,hz⟩:=h.mv (hF.mv hk);have hT:=hF.ft hk;have nN:FX F (bI w0) w0:=hF.kp hk;replace hd:=hd.mv hk.bY;replace hn:=hn.mv hk.bY;have fY:=h0.box.mv (Mv.sub hT.bw);have hs:=ai.init w0;have pI:=h0.get n;have hm:=h0.map.mv kP (Mv.sub hT.bw) (A':=nX) λ_ h=>h.elim;have hgn:getM n l=none:=by
  rw[hg] at pI;cases hq:getM n l with
  |none=>rfl
  |some f=>rw[hq] at pI;cases pI
 refine GS.1 λ_=>?_;repeat' first|refine ak ?_;intros|(refine NV hs ?_;intro bx w X fY ax fv hs bo)
 have qp:=hm.mv kP fv.mv (A':=nX) λ_ h=>h.elim;refine uY (kt:=9) (et:=150) (a:=⟨bx,.slice none 0 0,[],0⟩) qp kP (show On _ _ (ptr bx 0) ⟨bx,.slice none 0 0,[],0⟩from rfl) (λ_ h=>h.elim) (II kQ) kQ fv.has λw2 X2 c rl=>?_;have N8:bx≠mb:=(qp.eT bo).symm;have dh:Ft w0 F w2 X2 (λk=>F k\/k=bx):=((hT.since fv).more (F':=λk=>F k\/k=bx) λk ah=>ah.imp id λe=>by subst e;exact⟨bo.1,fY⟩).dY c (λk ah=>by subst ah;exact .inl h0.map.x.1) λk ah=>.inl ah;have Bw:ee (· =mb) (bI w0) w0 X2 w2:=(ee.nA fv _).trans c;refine dh.fin λwa aH=>⟨rfl,_,dh.js aH λ_ h=>h,?_⟩;have hL:=h0.new (F':=λk=>F k\/k=bx) nN Bw hgn (λk ah=>ah) (λk ah=>.inl ah) fY (rl.own.mv kP (λk ah hl=>⟨.inl (by subst ah;exact h0.map.x.1),rfl⟩) λ_ h=>h.elim) ⟨.inr rfl,by rw[c.block _ bo.1 N8];exact bo.2⟩;have arx:(m.put n [] 0).sz=m.sz:=by simpa using (DM.Se (bs:=[]) (s':=0) hg)
 rw[<-arx] at hL;exact⟨mb,_,hL.mv (aH.iZ dh.bw),by omega⟩
def DM.B8 (m:DM) (n:ByteArray):Nat:=if¬vR n then 10 else if(m.get n).isSome then 9 else if 64<=m.fs.length then 3 else 0
theorem VI (h:Dk w F db m) (hF:FX F X w):
  Ct pg 181 #[ptr db 0,.string n] w X F λv wa w'=>v=I (m.create n).2/\ ∃F',(∀k,F' k->F k\/made wa w' k)/\Dk w' F' db (m.create n).1:=by
 intro w0 hk;replace h:=h.mv (hF.mv hk);have hT:=hF.ft hk;have nN:FX F (bI w0) w0:=hF.kp hk;clear hF;obtain⟨mb,l,h0,hz⟩:=id h;refine JU.1 λ_=>?_;refine sP rfl hT.s.has λbd w1 X1 pG ax jv=>?_;refine sP rfl ax.has λbn w2 X2 hbn bp TV=>?_;have sA:=ax.trans bp;have hs:=ai.eQ bp.has;have Tc:=jv.since bp;have fY:=(h0.box.mv (Mv.sub hT.bw)).since sA;have hm:=(h0.map.mv kP (Mv.sub hT.bw) (A':=nX) λ_ h=>h.elim).mv kP sA.mv (A':=nX) λ_ h=>h.elim;have pI:=h0.get n;have hlen:=h0.len;have key: ∀(w3:World) (X3:XS) (e:Nat),ai X2 w2 X3 w3->m.B8 n=e->eC pg (uF F w0 λv w'=>v=I (m.create n).2/\ ∃F',(∀k,F' k->F k\/made w0 w' k)/\Dk w' F' db (m.create n).1) X3 w3 true 256 #[ptr db 0,I e,.func (.func 257) #[] #[ptr bd 0,ptr bn 0]] λx w4 X4=>
   fin (uF F w0 λv w'=>v=I (m.create n).2/\ ∃F',(∀k,F' k->F k\/made w0 w' k)/\Dk w' F' db (m.create n).1) X4 w4 x:=by
  intro w3 X3 e cY he;have adW:=sA.trans cY;have dU:=hT.since adW;have h3:Dk w3 F db m:=h.mv (adW.gU λk ah=>(nN k ah).1);have zS:=Tc.since cY;have Di:=TV.since cY;have em:m.create n=m.write e λm=>m.put n [] 0:=by rw[<-he];rfl
  rw[em];refine dU.call (EH (A:=λk=>k=bd\/k=bn) (g:=λm=>m.put n [] 0) h3 (dU.fx λ_ h=>h) (λk ah=>?_) kQ ?_) kQ (λ_ h=>h) λv zk w4 X4 hq tr oH fO EL=>?_
  ·rcases ah with rfl|rfl
   ·exact⟨zS.1,zS.lt,λhf=>by have:=(nN _ hf).2;omega⟩
   ·exact⟨Di.1,Di.lt,λhf=>by have:=(nN _ hf).2;have:=ax.kp.size;omega⟩
  ·intro AN w5 X5 xC QN hF5 h5;refine Td h5 hF5 ⟨QN _ (.inl rfl),?_⟩ ⟨QN _ (.inr rfl),?_⟩ ?_
   ·rw[(xC bd (.inl rfl) (zS.lt)).2];exact zS.2
   ·rw[(xC bn (.inr rfl) (Di.lt)).2];exact Di.2
   ·rw[m.pY];rw[AN] at he;unfold DM.B8 at he;cases lx:m.get n with
    |none=>rfl
    |some x=>
     rw[lx] at he;simp at he;exfalso;split at he<;>omega
  ·obtain⟨rfl,F',CN,hD⟩:=hq;exact fO.fin λEI aH=>⟨rfl,F',fO.js aH CN,hD.mv (aH.iZ λk ah=>fO.bw k (CN k ah))⟩
 refine ij (λk=> ∀(e:Nat) (w3:World) (X3:XS),ai X2 w2 X3 w3->m.B8 n=e->k (I e) w3 X3) ?_ ?_
 ·intro e w3 X3 cY he;have zS:=Tc.since cY;repeat' refine ak ?_;intros
  exact key w3 X3 e cY he
 ·intro K hK;repeat' first|refine ak ?_;intros|(refine j5 (abf _) hs ?_ ?_<;>intro _ w X hs)
  ·have Di:=TV.since hs;have zS:=Tc.since hs;have atf:=fY.since hs;have qo:=hm.mv kP hs.mv (A':=nX) λ_ h=>h.elim
   skip
   refine qY qo (λf hn=>?_) λhn=>?_
   ·repeat' refine ak ?_;intros
    exact hK 9 _ _ hs (by simp_all [DM.B8])
   ·repeat' first|refine ak ?_;intros|refine cM ?_ ?_<;>intros|(refine anK qo (kt:=9) (et:=150) kQ ?_)
    ·exact hK 3 _ _ hs (by simp only[DM.B8,pI,hn];simp_all<;>omega)
    ·exact hK 0 _ _ hs (by simp only[DM.B8,pI,hn];simp_all<;>omega)
  ·exact hK 10 _ _ hs (by simp_all [DM.B8])
theorem QT {n:Int} (h:Dk w F db m) (hF:FX F X w) (hn:n<2^63):
  Ct pg 14 #[ptr db 0,I n] w X F λv wa w'=>v= .tuple #[]/\Dk w' F db (if m.dn then m else { m with ar:=n.toNat }):=by
 intro w0 hk;obtain⟨mb,l,h0,hz⟩:=h.mv (hF.mv hk);have hT:=hF.ft hk;have fY:=h0.box.mv (Mv.sub hT.bw);have hs:=ai.init w0;refine Ph.1 λ_=>?_;cases jK:m.dn
 ·rw[jK] at fY;repeat' first|refine ak ?_;intros|(refine apo ?_)
  refine xK hT h0 (λ_ h=>h) { m with ar:=n.toNat } m.sz (o:=3) zQ kQ zQ rfl (by rw[show((n.toNat:Nat):Int)=max n 0 by omega];rfl) rfl (by show n.toNat<_;omega) λw1 X1 ea h1 c1=>?_;refine ea.fin λwa aH=>⟨rfl,?_⟩;rw[if_neg Bool.false_ne_true];have h2:=h1.mv (aH.iZ ea.bw);rw[jK] at h2;exact⟨mb,l,h2,hz⟩
 ·rw[jK] at fY;repeat' refine ak ?_;intros
  exact hT.fin λwa aH=>⟨rfl,mb,l,h0.mv (aH.iZ hT.bw),hz⟩
theorem ak2:Ct pg 119 #[.map (some mb)] w X nX λv wa w'=> ∃bx,v= .func (.func 173) #[] #[ptr bx 0]/\aG w' (made wa w') bx [.map (some mb)] 109:=by
 intro w0 hk;refine qP.1 λhs=>?_;refine sP rfl hs.has λbx w1 X1 fY ax bo=>?_;repeat' refine ak ?_;intros
 exact bM ax λwa aH=>⟨bx,rfl,⟨fY,(bo.kp aH).lt⟩,(bo.kp aH).2⟩
theorem ak3:Ct pg 169 #[.map (some mb)] w X nX λv wa w'=> ∃bx,v= .func (.func 239) #[] #[ptr bx 0]/\aG w' (made wa w') bx [.map (some mb)] 287:=by
 intro w0 hk;refine qQ.1 λhs=>?_;refine sP rfl hs.has λbx w1 X1 fY ax bo=>?_;repeat' refine ak ?_;intros
 exact bM ax λwa aH=>⟨bx,rfl,⟨fY,(bo.kp aH).lt⟩,(bo.kp aH).2⟩
variable {bx : Nat}
theorem agj {α:Type} {rd:World->XS->Value->α->Prop} {l:List (ByteArray×α)} (h:dM w X A mb aN rd l) (hb:aG w X bx [.map (some mb)] 109)
  (hs: ∀x∈l,x.1.size<=2^40) (hl:l.length<=2^40):
  Ct pg 118 #[.func (.func 173) #[] #[ptr bx 0]] w X nX λv wa w'=>Own w' (made wa w') wa.heap.size 9 1 v ((fG (l.map (·.1))).map S1):=
 PB h kQ hs hl λwa hk nn D0 uV=>
  AnyZ.keys_gives (ρ:=Tryz.UJ) { Tryz.apj with } gp _ trivial rfl zQ bx mb nn D0 wa (hb.kp hk).lt (by have:=(hb.kp hk).2;simp[fu,this]) uV
theorem agk {α:Type} {rd:World->XS->Value->α->Prop} {l:List (ByteArray×α)} (h:dM w X A mb aN rd l) (hb:aG w X bx [.map (some mb)] 287)
  (hs: ∀x∈l,x.1.size<=2^40) (hl:l.length<=2^40):
  Ct pg 118 #[.func (.func 239) #[] #[ptr bx 0]] w X nX λv wa w'=>Own w' (made wa w') wa.heap.size 9 1 v ((fG (l.map (·.1))).map S1):=
 PB h kQ hs hl λwa hk nn D0 uV=>
  AnyZ.keys_gives (ρ:=Tryz.UK) { Tryz.apk with } gp _ trivial rfl zQ bx mb nn D0 wa (hb.kp hk).lt (by have:=(hb.kp hk).2;simp[fu,this]) uV
theorem Gy (h:Dk w F db m) (hF:FX F X w) (hs: ∀x∈m.fs,x.1.size<=2^40) (hl:m.fs.length<=2^40):
  Ct pg 71 #[ptr db 0] w X nX λv wa w'=>Own w' (made wa w') wa.heap.size 9 1 v ((fG (m.fs.map (·.1))).map S1):=by
 intro w0 hk;obtain⟨mb,l,h0,hz⟩:=h.mv (hF.mv hk);have hX:=λk ah=>(hF.kp hk k ah).1;have hb:=h0.box.mv (Mv.sub hX);have hm:=h0.map.mv kP (Mv.sub hX) (A':=nX) λ_ h=>h.elim;have Oa:=h0.fs;refine Nl.1 λ_=>?_;have fv:=ai.init w0;repeat' refine ak ?_;intros
 refine cd ak2 kQ fv.has ?_;rintro _ wa w1 X1 ⟨bx,rfl,bo⟩ hle gn ax;have qp:=hm.mv kP ax.mv (A':=nX) λ_ h=>h.elim;refine cd (agj qp (bo.mono gn) (λx hx=>hs (x.1,x.2.er) (by rw[Oa];exact List.mem_map.2 ⟨x,hx,rfl⟩)) (by rw[Oa,af] at hl;exact hl)) kQ ax.has ?_;rintro v vM w2 X2 ho kF jt bp;have XH:=ax.kp.size;refine bM (ax.trans bp) λEI aH=>?_;have ju:Own w2 X2 w0.heap.size 9 1 v ((fG (l.map (·.1))).map S1):=ho.up jt zQ;have e:m.fs.map (·.1)=l.map (·.1):=by rw[Oa,bU];rfl
 rw[e];exact(ju.kp aH).tight
structure jD where
 code:Int
 key:BA
 val:gL
abbrev jD.l (o:jD):List Value:=[I o.code,.string o.key,I o.val.kind,.float .f64 o.val.num,.string o.val.text]
def Jd (c:Int):Int:=if c<1\/15<c then 0 else if c=4 then 2 else if c<=3 then 1 else 0
def tC (c:Int):Int:=if c<1\/15<c then 0 else if c=1\/c=3\/c=4 then 0 else if c=2\/c=13\/c=14 then 1 else 2
def Bl (c:Int):Int:=if c<1\/15<c then 0 else if c=2\/c=3\/c=13 then 0 else if c=14\/c=15 then 2 else 1
def aiU (c:Int):BA:=if c=1 then⟨#[103,101,116]⟩else if c=2 then⟨#[112,117,116]⟩else if c=3 then⟨#[100,114,111,112]⟩else if c=4 then⟨#[112,117,115,104]⟩else if c=5 then⟨#[97,100,100]⟩else if c=6 then⟨#[115,117,98]⟩else if c=7 then⟨#[109,117,108]⟩else if c=8 then⟨#[100,105,118]⟩
 else if c=9 then⟨#[109,105,110]⟩else if c=10 then⟨#[109,97,120]⟩else if c=11 then⟨#[108,101,115,115]⟩else if c=12 then⟨#[115,97,109,101]⟩else if c=13 then⟨#[110,101,101,100]⟩else if c=14 then⟨#[100,117,112]⟩else if c=15 then⟨#[115,119,97,112]⟩else⟨#[]⟩
abbrev Wd (c:Int):List Value:=[.string (aiU c),I (Jd c),I (tC c),I (Bl c)]
abbrev agl:List Value:=[.string ⟨#[]⟩,I 0,I 0,I 0,.string ⟨#[103,101,116]⟩,I 1,I 0,I 1,.string ⟨#[112,117,116]⟩,I 1,I 1,I 0,.string ⟨#[100,114,111,112]⟩,I 1,I 0,I 0,.string ⟨#[112,117,115,104]⟩,I 2,I 0,I 1,
 .string ⟨#[97,100,100]⟩,I 0,I 2,I 1,.string ⟨#[115,117,98]⟩,I 0,I 2,I 1,.string ⟨#[109,117,108]⟩,I 0,I 2,I 1,.string ⟨#[100,105,118]⟩,I 0,I 2,I 1,.string ⟨#[109,105,110]⟩,I 0,I 2,I 1,.string ⟨#[109,97,120]⟩,I 0,I 2,I 1,
 .string ⟨#[108,101,115,115]⟩,I 0,I 2,I 1,.string ⟨#[115,97,109,101]⟩,I 0,I 2,I 1,.string ⟨#[110,101,101,100]⟩,I 0,I 1,I 0,.string ⟨#[100,117,112]⟩,I 0,I 1,I 2,.string ⟨#[115,119,97,112]⟩,I 0,I 2,I 2]
theorem Ml:Pure pg 228 #[] (.agg agl.toArray):=by
 intro w0;refine Vr.1 λhs=>?_;repeat' first|refine ak ?_;intros|(with_reducible refine fJ hs ?_);rfl
theorem aiV (c:Int) (h:1<=c/\c<=15) (wa:World):(Dz 367 16 277 (.agg agl.toArray) (I c)).run pg wa= .ok (.agg (Wd c).toArray) wa:=by
 have h:c=1\/c=2\/c=3\/c=4\/c=5\/c=6\/c=7\/c=8\/c=9\/c=10\/c=11\/c=12\/c=13\/c=14\/c=15:=by omega
 rcases h with rfl|rfl|rfl|rfl|rfl|rfl|rfl|rfl|rfl|rfl|rfl|rfl|rfl|rfl|rfl<;>(show _=_;kernel_rfl)
theorem agm (c:Int):Pure pg 158 #[I c] (.tuple #[.agg (Wd c).toArray,B (decide (1<=c/\c<=15))]):=by
 intro w0;by_cases hc:1<=c/\c<=15
 ·rw[decide_eq_true hc];refine Rm.1 λhs=>?_;repeat' first|refine ak ?_;intros|refine cM ?_ ?_<;>intros|(refine px Ml hs ?_;intro w X hs)|(exfalso;omega)|(with_reducible refine fJ hs ?_);rfl|(refine bF (aiV c hc) ?_)
 ·have hz:Wd c=[.string ⟨#[]⟩,I 0,I 0,I 0]:=by
   have h1:Jd c=0:=by unfold Jd;rw[if_pos zQ]
   have h2:tC c=0:=by unfold tC;rw[if_pos zQ]
   have h3:Bl c=0:=by unfold Bl;rw[if_pos zQ]
   have h4:aiU c=⟨#[]⟩:=by
    unfold aiU;repeat rw[if_neg zQ]
   simp only[Wd,h1,h2,h3,h4]
  rw[decide_eq_false hc,hz];refine Rm.1 λhs=>?_;repeat' first|refine ak ?_;intros|refine cM ?_ ?_<;>intros|(refine px Ml hs ?_;intro w X hs)|(exfalso;omega)|(with_reducible refine fJ hs ?_);rfl
def Fs (o:jD) (n:Int):Bool:=
 if(n=1/\iM o.key=false)\/(n≠1/\o.key≠⟨#[]⟩)then false else if n=2 then o.val.may else decide (o.val.kind=0/\o.val.text=⟨#[]⟩/\o.val.num=0)
theorem abh (o:jD) (n:Int):Pure pg 159 #[.agg o.l.toArray,I n] (B (Fs o n)):=by
 intro w0;refine Zb.1 λhs=>?_;repeat' first|refine ak ?_;intros|refine cM ?_ ?_<;>intros|with_reducible apply cB|(refine j5 (kX _) hs ?_ ?_<;>intro _ w X hs)|(refine j5 (l9 _) hs ?_ ?_<;>intro _ w X hs)|(with_reducible refine fJ hs ?_);(simp_all [Fs])|((with_reducible refine CZ (Ad _) hs.has ?_);intro w X ax;replace hs:=hs.trans ax)
theorem ak4:Ct pg 231 #[.map (some mb)] w X nX λv wa w'=> ∃bx,v= .func (.func 306) #[] #[ptr bx 0]/\aG w' (made wa w') bx [.map (some mb)] 370:=by
 intro w0 hk;refine wC.1 λhs=>?_;refine sP rfl hs.has λbx w1 X1 fY ax bo=>?_;repeat' refine ak ?_;intros
 exact bM ax λwa aH=>⟨bx,rfl,⟨fY,(bo.kp aH).lt⟩,(bo.kp aH).2⟩
theorem agn {α:Type} {rd:World->XS->Value->α->Prop} {l:List (ByteArray×α)} (h:dM w X A mb aN rd l) (hb:aG w X bx [.map (some mb)] 370)
  (hs: ∀x∈l,x.1.size<=2^40) (hl:l.length<=2^40):
  Ct pg 118 #[.func (.func 306) #[] #[ptr bx 0]] w X nX λv wa w'=>Own w' (made wa w') wa.heap.size 9 1 v ((fG (l.map (·.1))).map S1):=
 PB h kQ hs hl λwa hk nn D0 uV=>
  AnyZ.keys_gives (ρ:=Tryz.UL) { Tryz.apl with } gp _ trivial rfl zQ bx mb nn D0 wa (hb.kp hk).lt (by have:=(hb.kp hk).2;simp[fu,this]) uV
def ZR:World->XS->Value->Int->Prop:=λ_ _ v x=>v=I x
def ZS:qt ZR:=λ_ _ _ _ _ _ h _=>h
def kK (a b:Int) (t:List (BA×Int)) (o:jD):List (BA×Int):=if(o.code=a\/o.code=b)/\iM o.key=true then cL o.key ((getM o.key t).getD 0+1) t else t
def fq (a b:Int) (p:List jD):List BA:=fG ((p.foldl (kK a b) []).map (·.1))
theorem Ew (a b:Int): ∀(p:List jD) (t:List (BA×Int)) (n:Nat),(t.map (·.1)).Nodup->(∀x∈t,0<=x.2/\x.2<=n/\x.1.size<=24)->t.length<=n->
  ((p.foldl (kK a b) t).map (·.1)).Nodup/\(∀x∈p.foldl (kK a b) t,0<=x.2/\x.2<=(n+p.length:Nat)/\x.1.size<=24)/\(p.foldl (kK a b) t).length<=n+p.length
 |[],t,n,h1,h2,h3=>⟨h1,λx hx=>h2 x hx,h3⟩
 |o::p,t,n,h1,h2,h3=>by
  have fN:((kK a b t o).map (·.1)).Nodup/\(∀x∈kK a b t o,0<=x.2/\x.2<=(n+1:Nat)/\x.1.size<=24)/\(kK a b t o).length<=n+1:=by
   unfold kK;split
   ·rename_i hc;have hg:o.key.size<=24:=by have:=hc.2;unfold iM at this;simp at this;omega
    refine⟨P6 h1,λx hx=>?_,?_⟩
    ·rcases mC h1 hx with rfl|⟨hx,_⟩
     ·have:0<=(getM o.key t).getD 0/\(getM o.key t).getD 0<=n:=by
       cases Qs:getM o.key t with
       |none=>simp
       |some y=>have:=h2 _ (gA Qs);exact⟨this.1,this.2.1⟩
      exact⟨by simp only;omega,by simp only;omega,hg⟩
     ·have:=h2 x hx;exact⟨this.1,by omega,this.2.2⟩
    ·have hlp:(cL o.key ((getM o.key t).getD 0+1) t).length=((cL o.key ((getM o.key t).getD 0+1) t).map (·.1)).length:=by simp
     rw[hlp,uK];split<;>simp<;>omega
   ·exact⟨h1,λx hx=>by have:=h2 x hx;exact⟨this.1,by omega,this.2.2⟩,by omega⟩
  have:=Ew a b p _ (n+1) fN.1 fN.2.1 fN.2.2;rw[List.foldl_cons,List.length_cons];exact⟨this.1,λx hx=>by have:=this.2.1 x hx;exact⟨this.1,by omega,this.2.2⟩,by omega⟩
theorem anM {t:List (BA×Int)} {k:BA} (h:dM w X nX mb (λk:BA=>aN k) ZR t) (n:N (I ((getM k t).getD 0))):aV pg X w (Instr.lookup 370 (.map (some mb)) (.string k) false) N:=by
 refine lO (kt:=9) (et:=3) (kv:=λk:BA=>aN k) (I 0) h yb kQ kQ (λv a hg hv=>?_) (λhg=>?_)
 ·simp only[ZR] at hv;subst hv;rw[hg] at n;exact n
 ·rw[hg] at n;exact n
variable {p : List jD} {a : Value}
theorem Mm {ca cb:Int} (ha:Sl w X 5 a (p.map jD.l)) (hl:p.length<=2^30):
  Ct pg 165 #[a,I ca,I cb] w X nX λv wa w'=>Own w' (made wa w') wa.heap.size 9 1 v ((fq ca cb p).map S1):=by
 intro w0 hk;replace ha:=ha.mv hk.bY;have kn:=ha.gR;refine Vp.1 λhs=>?_;refine ri (kv:=λk:BA=>aN k) ZR nX hs.has λmb w1 X1 ZP ax qp=>?_;replace hs:=hs.trans ax;have rK:=ha.mv hs.mv;repeat' refine ak ?_;intros
 refine eY (λn a w X=> ∃i:Nat,a=I i/\n=p.length-i/\i<=p.length/\ai (bI w0) w0 X w/\dM w X nX mb (λk:BA=>aN k) ZR ((p.take i).foldl (kK ca cb) [])) p.length ⟨0,rfl,rfl,Nat.zero_le _,hs,qp⟩ ?_;clear hs ax qp rK;rintro n _ w X ⟨i,rfl,rfl,hi,hs,hm⟩;have rK:=ha.mv hs.mv;have mO:=Ew (a:=ca) (b:=cb) (p.take i) [] 0 sQ sQ sQ;have hli:(p.take i).length=i:=by rw[List.length_take];omega
 rw[hli] at mO;rcases dE (p) i with⟨cD,o,hx,hd⟩|⟨dD,hd⟩
 ·have fN:(p.take (i+1)).foldl (kK ca cb) []=kK ca cb ((p.take i).foldl (kK ca cb) []) o:=by rw[List.take_add_one,hx,List.foldl_append];rfl
  generalize (p.take i).foldl (kK ca cb) []=t at fN hm mO;have ajM: ∀{w X},ai (bI w0) w0 X w->dM w X nX mb (λk:BA=>aN k) ZR t->kK ca cb t o=t->Et (J1 λn a w X=> ∃i:Nat,a=I i/\n=p.length-i/\i<=p.length/\ai (bI w0) w0 X w/\dM w X nX mb (λk:BA=>aN k) ZR ((p.take i).foldl (kK ca cb) [])) (p.length-i) (I ((i:Int)+1)) w X:=
   λq1 q2 q3=>ep (p.length-(i+1)) zQ ⟨i+1,by simp,rfl,by omega,q1,by rw[fN,q3];exact q2⟩
  by_cases hc:o.code=ca\/o.code=cb
  ·repeat' first|refine aJ ?_;intros|refine cM ?_ ?_<;>intros|with_reducible apply cB
   all_goals
    refine rL (kX o.key) kQ hs.has λw2 X2 bp=>?_;have rl:=hm.mv ZS bp.mv (λ_ h=>h.elim) (A':=nX);have cY:=hs.trans bp;by_cases hg:iM o.key=true
    ·rw[hg];have hN:kK ca cb t o=cL o.key ((getM o.key t).getD 0+1) t:=by unfold kK;rw[if_pos ⟨hc,hg⟩]
     have Ui:0<=(getM o.key t).getD 0/\(getM o.key t).getD 0<=i:=by
      cases Qs:getM o.key t with
      |none=>simp
      |some y=>have:=mO.2.1 _ (gA Qs);exact⟨this.1,by have:=this.2.1;simp at this⊢;omega⟩
     repeat' refine ak ?_;intros
     refine anM rl ?_;repeat' refine ak ?_;intros
     refine uY (kv:=λk:BA=>aN k) (k:=o.key) (a:=(getM o.key t).getD 0+1) (kt:=9) (et:=3) rl ZS rfl (λ_ h=>h.elim) yb kQ cY.has λw4 X4 c4 Ao=>?_;have fV:ai (bI w0) w0 X4 w4:=cY.dY c4 λg hg e=>by have:g<w0.heap.size:=hg;omega
     repeat' first|refine ak ?_;intros|((with_reducible refine ep ((p).length-(i+1)) ?_ ?_);omega;exact⟨i+1,by simp,rfl,by omega,fV,by rw[fN,hN];exact Ao⟩)
    ·rw[Bool.eq_false_iff.2 hg];have hN:kK ca cb t o=t:=by unfold kK;rw[if_neg (λh=>hg h.2)]
     repeat' first|refine ak ?_;intros|(exact ajM cY rl hN)
  ·have hN:kK ca cb t o=t:=by unfold kK;rw[if_neg (λh=>hc h.1)]
   repeat' first|refine aJ ?_;intros|with_reducible apply cB|(exact ajM hs hm hN)
 ·rw[List.take_of_length_le dD] at hm mO;repeat' refine aJ ?_;intros
  refine cd ak4 kQ hs.has ?_;rintro _ wa w2 X2 ⟨bx,rfl,hb⟩ hle gn bp;have rl:=hm.mv ZS bp.mv (λ_ h=>h.elim) (A':=nX);have Mn:=hs.trans bp;refine cd (agn rl (hb.mono gn) (λe he=>by have:=mO.2.1 e he;omega) zQ) kQ Mn.has ?_;rintro vs wb w3 X3 ho pV lT cY;have hz:=Mn.kp.size;have wT:Own w3 X3 w0.heap.size 9 1 vs ((fG ((p.foldl (kK ca cb) []).map (·.1))).map S1):=ho.up lT zQ;exact bM (Mn.trans cY) λEI aH=>(wT.kp aH).tight
theorem AM (ha:Sl w X 5 a (p.map jD.l)) (hl:p.length<=2^30):
  Ct pg 112 #[a] w X nX λv wa w'=>Own w' (made wa w') wa.heap.size 9 1 v ((fq 1 1 p).map S1):=by
 intro w0 hk;replace ha:=ha.mv hk.bY;have hs:=ai.init w0;refine Vk.1 λ_=>?_;refine cd (Mm ha hl) kQ hs.has ?_;rintro v wa w1 X1 ho hle gn ax;exact bM (hs.trans ax) λEI aH=>((ho.up gn hle).kp aH).tight
theorem ZT (ha:Sl w X 5 a (p.map jD.l)) (hl:p.length<=2^30):
  Ct pg 160 #[a] w X nX λv wa w'=>Own w' (made wa w') wa.heap.size 9 1 v ((fq 2 3 p).map S1):=by
 intro w0 hk;replace ha:=ha.mv hk.bY;have hs:=ai.init w0;refine Vo.1 λ_=>?_;refine cd (Mm ha hl) kQ hs.has ?_;rintro v wa w1 X1 ho hle gn ax;exact bM (hs.trans ax) λEI aH=>((ho.up gn hle).kp aH).tight
def yQ:List jD->Int->Int
 |[],_=>0
 |o::r,h=>if¬(1<=o.code/\o.code<=15)then 7 else if Fs o (Jd o.code)=false then 4 else if h<tC o.code then 5 else if h+(Bl o.code-tC o.code)>16 then 2 else yQ r (h+(Bl o.code-tC o.code))
def na (p:List jD):Int:=if 40<p.length then 3 else if yQ p 0≠0 then yQ p 0 else if 16<(fq 1 1 p).length\/16<(fq 2 3 p).length then 3 else 0
theorem aeB (c:Int):0<=tC c/\tC c<=2/\0<=Bl c/\Bl c<=2:=by
 unfold tC Bl;split
 ·simp
 ·constructor
  ·split;simp;split<;>simp
  ·constructor
   ·split;simp;split<;>simp
   ·split;simp;split<;>simp
theorem KN (ha:Sl w X 5 a (p.map jD.l)):Ct pg 109 #[a] w X nX λv _ _=>v=I (na p):=by
 intro w0 hk;replace ha:=ha.mv hk.bY;have kn:=ha.gR;refine Vj.1 λhs=>?_;by_cases hl:40<p.length
 ·repeat' first|refine aJ ?_;intros|(refine qr ?_;intro wa hk;(unfold na;rw[if_pos hl]))
 ·repeat' refine aJ ?_;intros
  refine gv (λn a b w X=> ∃(i:Nat) (h:Int),a=I i/\b=I h/\0<=h/\h<=16/\n=p.length-i/\i<=p.length/\ai (bI w0) w0 X w/\yQ p 0=yQ (p.drop i) h) p.length ⟨0,0,rfl,rfl,by omega,by omega,rfl,Nat.zero_le _,hs,rfl⟩ ?_;clear hs;rintro n _ _ w X ⟨i,h,rfl,rfl,h0,h1,rfl,hi,hs,hw⟩;have rK:=ha.mv hs.mv;rcases dE (p) i with⟨cD,o,hx,hd⟩|⟨dD,hd⟩
  ·rw[hd,yQ] at hw;have hb:=aeB o.code;repeat' refine aJ ?_;intros
   refine rL (agm o.code) kQ hs.has λw1 X1 ax=>?_;replace hs:=hs.trans ax;clear rK ax;by_cases hc:1<=o.code/\o.code<=15
   ·rw[if_neg (λh=>h hc)] at hw;rw[decide_eq_true hc];repeat' first|refine ak ?_;intros|refine cM ?_ ?_<;>intros|(refine j5 (abh _ _) hs ?_ ?_<;>intro _ w X hs)|((with_reducible refine fw ((p).length-(i+1)) ?_ ?_);omega;exact⟨i+1,_,by simp,rfl,by omega,by omega,rfl,by omega,hs,by simp_all⟩)|(refine qr ?_;intro wa hk;(unfold na;rw[if_neg hl];simp_all))
    done
   ·rw[if_pos hc] at hw;rw[decide_eq_false hc];repeat' first|refine ak ?_;intros|(refine qr ?_;intro wa hk;(unfold na;rw[if_neg hl,hw];rfl))
  ·rw[hd,yQ] at hw;repeat' refine aJ ?_;intros
   refine cd (AM rK zQ) kQ hs.has ?_;rintro v1 wa w1 X1 uH hle gn ax;have ha2:=rK.since ax;have BS:=(uH.mono gn).sl;have bp:=hs.trans ax;clear hs ax rK;by_cases hr:16<(fq 1 1 p).length
   ·have hc:na p=3:=by unfold na;rw[if_neg hl,if_neg zQ,if_pos (.inl hr)]
    have hs:=bp;repeat' first|refine aJ ?_;intros|with_reducible apply cB|(refine qr ?_;intro wa hk;(rw[hc]))
    done
   ·have hs:=bp;repeat' first|refine aJ ?_;intros|with_reducible apply cB
    refine cd (ZT ha2 zQ) kQ bp.has ?_;rintro v3 wb w3 X3 Yb pV lT cY;have acF:=(Yb.mono lT).sl;replace hs:=bp.trans cY;by_cases hn:16<(fq 2 3 p).length
    ·have hc:na p=3:=by unfold na;rw[if_neg hl,if_neg zQ,if_pos (.inr hn)]
     repeat' first|refine aJ ?_;intros|(refine qr ?_;intro wa hk;(rw[hc]))
    ·have hc:na p=0:=by unfold na;rw[if_neg hl,if_neg zQ,if_neg (λh=>h.elim hr hn)]
     repeat' first|refine aJ ?_;intros|(refine qr ?_;intro wa hk;(rw[hc]))
end Go.Proofs.YtgfijddlkhkopaaGreat