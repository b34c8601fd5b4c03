/- Part 6 of the proof. -/
import Derived.Shelf.SlIter.Nil
import Derived.Shelf.SlIterI.Nil
import Derived.Shelf.SortM.Plain
import Derived.Shelf.SortM.SortNone
import Derived.Ground.GgzProg
import Derived.Ground.SlgmProg
import Derived.Ground.SlsfProg
import Derived.Shelf.SlGeneric
import Derived.Test.YtgfijddlkhkopaaGreatProg
import Derived.Test.YtgfijddlkhkopaaGreatG5
set_option linter.all false
open Go.Value renaming string → aP
open List renaming map_map → bw, length_map → af, length → bf, mergeSort_perm → sX, map_congr_left → dp, toList_toArray → cM, pairwise_mergeSort → vF, length_append → aa
open Bool renaming false_eq_true → aW
open Go.Shelf renaming Ren → iQ
open Go.Fence renaming wide → gg
open Go.DataW renaming insert → we
open Nat renaming lt_of_lt_of_le → aw
open Go.Proofs.SlLaysZ renaming n7 → se, n6 → Gi
open List.Perm renaming refl → yH
open Go.WideElems renaming rg → mU, rd → sh
open Function renaming comp_def → jO
open Go.World renaming cell? → fp
open Go.Builtin renaming len_ → j9, max_ → lx, max2 → si
open Go.Proofs.SlLaysM renaming n6 → Gj, n5 → Gk
open Go.Proofs.SlLaysZI renaming n6 → EO, n7 → EP
namespace Go.Proofs
open Go.Proofs.Tryz renaming prog → pg
open Go.Shelf
def Tryz.Pe:iQ:=⟨fun|6=>118|8=>172|9=>114|11=>249|13=>143|12=>170|23=>210|24=>211|14=>240|15=>241|16=>242|17=>243|18=>244|19=>245|20=>246|21=>247|22=>248|25=>311|26=>283|27=>284|28=>312|29=>313|30=>314|31=>356|n=>n,fun|26=>9|28=>216|24=>40|0=>0|3=>3|37=>263|48=>351|50=>264|4=>4|40=>344|39=>343|45=>348|5=>5|9=>9|51=>411|55=>317|57=>466|58=>467|33=>282|n=>n,fun|n=>n⟩
theorem Tryz.al1:Gi pg Tryz.Pe:= {
 mixed:=by kernel_rfl
 f6:=⟨Tryz.f118.name,by decide,Tryz.func118.trans Go.aJ.kS⟩
 f8:=⟨Tryz.f172.name,by decide,Tryz.func172.trans Go.aJ.kS⟩
 f11:=⟨Tryz.f249.name,by decide,Tryz.func249.trans Go.aJ.kS⟩
 t0:=Tryz.underlying0
 a0:=Tryz.isAgg0
 z0:=Tryz.sizeOf0
 v0:=Tryz.zeroValue0
 t24:=Tryz.underlying40
 a24:=Tryz.isAgg40
 z24:=Tryz.sizeOf40
 v24:=Tryz.zeroValue40
 t26:=Tryz.underlying9
 a26:=Tryz.isAgg9
 z26:=Tryz.sizeOf9
 v26:=Tryz.zeroValue9
 t28:=Tryz.underlying216
 a28:=Tryz.isAgg216
 z28:=Tryz.sizeOf216
 v28:=Tryz.zeroValue216
 i26:=by kernel_rfl }
def Tryz.ag6:iQ:=⟨fun|6=>114|8=>143|9=>170|19=>210|20=>211|21=>240|22=>241|23=>242|24=>243|25=>244|26=>245|27=>246|28=>247|29=>248|36=>311|31=>283|32=>284|37=>312|38=>313|39=>314|41=>356|n=>n,fun|27=>40|29=>9|3=>3|32=>263|26=>40|0=>0|44=>351|46=>264|4=>4|36=>344|35=>343|41=>348|5=>5|9=>9|53=>411|57=>317|63=>466|64=>467|n=>n,fun|n=>n⟩
theorem Tryz.WU:Gj pg Tryz.ag6:= {
 mixed:=by kernel_rfl
 f6:=⟨Tryz.f114.name,by decide,Tryz.func114.trans Go.aJ.kS⟩
 f8:=Tryz.func143.trans Go.aJ.kS
 f9:=⟨Tryz.f170.name,by decide,Tryz.func170.trans Go.aJ.kS⟩
 f19:=Tryz.func210.trans Go.aJ.kS
 f20:=Tryz.func211.trans Go.aJ.kS
 f21:=⟨Tryz.f240.name,by decide,Tryz.func240.trans Go.aJ.kS⟩
 f22:=⟨Tryz.f241.name,by decide,Tryz.func241.trans Go.aJ.kS⟩
 f23:=⟨Tryz.f242.name,by decide,Tryz.func242.trans Go.aJ.kS⟩
 f24:=⟨Tryz.f243.name,by decide,Tryz.func243.trans Go.aJ.kS⟩
 f25:=⟨Tryz.f244.name,by decide,Tryz.func244.trans Go.aJ.kS⟩
 f26:=⟨Tryz.f245.name,by decide,Tryz.func245.trans Go.aJ.kS⟩
 f27:=⟨Tryz.f246.name,by decide,Tryz.func246.trans Go.aJ.kS⟩
 f28:=⟨Tryz.f247.name,by decide,Tryz.func247.trans Go.aJ.kS⟩
 f29:=⟨Tryz.f248.name,by decide,Tryz.func248.trans Go.aJ.kS⟩
 f31:=Tryz.func283.trans Go.aJ.kS
 f32:=Tryz.func284.trans Go.aJ.kS
 f36:=⟨Tryz.f311.name,by decide,Tryz.func311.trans Go.aJ.kS⟩
 f37:=⟨Tryz.f312.name,by decide,Tryz.func312.trans Go.aJ.kS⟩
 f38:=⟨Tryz.f313.name,by decide,Tryz.func313.trans Go.aJ.kS⟩
 f39:=⟨Tryz.f314.name,by decide,Tryz.func314.trans Go.aJ.kS⟩
 f41:=⟨Tryz.f356.name,by decide,Tryz.func356.trans Go.aJ.kS⟩
 t0:=Tryz.underlying0
 a0:=Tryz.isAgg0
 z0:=Tryz.sizeOf0
 v0:=Tryz.zeroValue0
 t3:=Tryz.underlying3
 a3:=Tryz.isAgg3
 z3:=Tryz.sizeOf3
 v3:=Tryz.zeroValue3
 t4:=Tryz.underlying4
 a4:=Tryz.isAgg4
 z4:=Tryz.sizeOf4
 v4:=Tryz.zeroValue4
 t5:=Tryz.underlying5
 a5:=Tryz.isAgg5
 z5:=Tryz.sizeOf5
 v5:=Tryz.zeroValue5
 t9:=Tryz.underlying9
 a9:=Tryz.isAgg9
 z9:=Tryz.sizeOf9
 v9:=Tryz.zeroValue9
 t26:=Tryz.underlying40
 a26:=Tryz.isAgg40
 z26:=Tryz.sizeOf40
 v26:=Tryz.zeroValue40
 t27:=Tryz.underlying40
 a27:=Tryz.isAgg40
 z27:=Tryz.sizeOf40
 v27:=Tryz.zeroValue40
 t29:=Tryz.underlying9
 a29:=Tryz.isAgg9
 z29:=Tryz.sizeOf9
 v29:=Tryz.zeroValue9
 t32:=Tryz.underlying263
 a32:=Tryz.isAgg263
 z32:=Tryz.sizeOf263
 v32:=Tryz.zeroValue263
 t35:=Tryz.underlying343
 a35:=Tryz.isAgg343
 z35:=Tryz.sizeOf343
 v35:=Tryz.zeroValue343
 t36:=Tryz.underlying344
 a36:=Tryz.isAgg344
 z36:=Tryz.sizeOf344
 v36:=Tryz.zeroValue344
 t41:=Tryz.underlying348
 a41:=Tryz.isAgg348
 z41:=Tryz.sizeOf348
 v41:=Tryz.zeroValue348
 t44:=Tryz.underlying351
 a44:=Tryz.isAgg351
 z44:=Tryz.sizeOf351
 v44:=Tryz.zeroValue351
 t46:=Tryz.underlying264
 a46:=Tryz.isAgg264
 z46:=Tryz.sizeOf264
 v46:=Tryz.zeroValue264
 t53:=Tryz.underlying411
 a53:=Tryz.isAgg411
 z53:=Tryz.sizeOf411
 v53:=Tryz.zeroValue411
 t57:=Tryz.underlying317
 a57:=Tryz.isAgg317
 z57:=Tryz.sizeOf317
 v57:=Tryz.zeroValue317
 t63:=Tryz.underlying466
 a63:=Tryz.isAgg466
 z63:=Tryz.sizeOf466
 v63:=Tryz.zeroValue466
 t64:=Tryz.underlying467
 a64:=Tryz.isAgg467
 z64:=Tryz.sizeOf467
 v64:=Tryz.zeroValue467 }
def Tryz.Pf:iQ:=⟨fun|6=>120|8=>174|9=>175|11=>250|13=>143|12=>251|23=>210|24=>211|14=>315|15=>316|16=>317|17=>318|18=>319|19=>320|20=>321|21=>322|22=>323|25=>357|26=>283|27=>284|28=>358|29=>359|30=>360|31=>368|n=>n,fun|26=>3|28=>220|24=>43|0=>0|3=>3|37=>263|48=>351|50=>264|4=>4|40=>344|39=>343|45=>348|5=>5|9=>9|51=>411|55=>317|57=>466|58=>467|33=>190|n=>n,fun|n=>n⟩
theorem Tryz.al2:EO pg Tryz.Pf:= {
 mixed:=by kernel_rfl
 f6:=⟨Tryz.f120.name,by decide,Tryz.func120.trans Go.aJ.kS⟩
 f8:=⟨Tryz.f174.name,by decide,Tryz.func174.trans Go.aJ.kS⟩
 f11:=⟨Tryz.f250.name,by decide,Tryz.func250.trans Go.aJ.kS⟩
 t0:=Tryz.underlying0
 a0:=Tryz.isAgg0
 z0:=Tryz.sizeOf0
 v0:=Tryz.zeroValue0
 t24:=Tryz.underlying43
 a24:=Tryz.isAgg43
 z24:=Tryz.sizeOf43
 v24:=Tryz.zeroValue43
 t26:=Tryz.underlying3
 a26:=Tryz.isAgg3
 z26:=Tryz.sizeOf3
 v26:=Tryz.zeroValue3
 t28:=Tryz.underlying220
 a28:=Tryz.isAgg220
 z28:=Tryz.sizeOf220
 v28:=Tryz.zeroValue220
 i26:=by kernel_rfl }
def Tryz.ag7:iQ:=⟨fun|5=>175|8=>143|7=>251|19=>210|20=>211|10=>315|11=>316|12=>317|13=>318|14=>319|15=>320|16=>321|17=>322|18=>323|30=>357|31=>283|32=>284|33=>358|34=>359|35=>360|40=>368|n=>n,fun|23=>43|25=>3|3=>3|32=>263|22=>43|0=>0|44=>351|46=>264|4=>4|36=>344|35=>343|41=>348|5=>5|9=>9|53=>411|57=>317|63=>466|64=>467|n=>n,fun|n=>n⟩
theorem Tryz.akM:Gk pg Tryz.ag7:= {
 mixed:=by kernel_rfl
 f5:=⟨Tryz.f175.name,by decide,Tryz.func175.trans Go.aJ.kS⟩
 f7:=⟨Tryz.f251.name,by decide,Tryz.func251.trans Go.aJ.kS⟩
 f8:=Tryz.func143.trans Go.aJ.kS
 f10:=⟨Tryz.f315.name,by decide,Tryz.func315.trans Go.aJ.kS⟩
 f11:=⟨Tryz.f316.name,by decide,Tryz.func316.trans Go.aJ.kS⟩
 f12:=⟨Tryz.f317.name,by decide,Tryz.func317.trans Go.aJ.kS⟩
 f13:=⟨Tryz.f318.name,by decide,Tryz.func318.trans Go.aJ.kS⟩
 f14:=⟨Tryz.f319.name,by decide,Tryz.func319.trans Go.aJ.kS⟩
 f15:=⟨Tryz.f320.name,by decide,Tryz.func320.trans Go.aJ.kS⟩
 f16:=⟨Tryz.f321.name,by decide,Tryz.func321.trans Go.aJ.kS⟩
 f17:=⟨Tryz.f322.name,by decide,Tryz.func322.trans Go.aJ.kS⟩
 f18:=⟨Tryz.f323.name,by decide,Tryz.func323.trans Go.aJ.kS⟩
 f19:=Tryz.func210.trans Go.aJ.kS
 f20:=Tryz.func211.trans Go.aJ.kS
 f30:=⟨Tryz.f357.name,by decide,Tryz.func357.trans Go.aJ.kS⟩
 f31:=Tryz.func283.trans Go.aJ.kS
 f32:=Tryz.func284.trans Go.aJ.kS
 f33:=⟨Tryz.f358.name,by decide,Tryz.func358.trans Go.aJ.kS⟩
 f34:=⟨Tryz.f359.name,by decide,Tryz.func359.trans Go.aJ.kS⟩
 f35:=⟨Tryz.f360.name,by decide,Tryz.func360.trans Go.aJ.kS⟩
 f40:=⟨Tryz.f368.name,by decide,Tryz.func368.trans Go.aJ.kS⟩
 t0:=Tryz.underlying0
 a0:=Tryz.isAgg0
 z0:=Tryz.sizeOf0
 v0:=Tryz.zeroValue0
 t3:=Tryz.underlying3
 a3:=Tryz.isAgg3
 z3:=Tryz.sizeOf3
 v3:=Tryz.zeroValue3
 t4:=Tryz.underlying4
 a4:=Tryz.isAgg4
 z4:=Tryz.sizeOf4
 v4:=Tryz.zeroValue4
 t5:=Tryz.underlying5
 a5:=Tryz.isAgg5
 z5:=Tryz.sizeOf5
 v5:=Tryz.zeroValue5
 t9:=Tryz.underlying9
 a9:=Tryz.isAgg9
 z9:=Tryz.sizeOf9
 v9:=Tryz.zeroValue9
 t22:=Tryz.underlying43
 a22:=Tryz.isAgg43
 z22:=Tryz.sizeOf43
 v22:=Tryz.zeroValue43
 t23:=Tryz.underlying43
 a23:=Tryz.isAgg43
 z23:=Tryz.sizeOf43
 v23:=Tryz.zeroValue43
 t25:=Tryz.underlying3
 a25:=Tryz.isAgg3
 z25:=Tryz.sizeOf3
 v25:=Tryz.zeroValue3
 t32:=Tryz.underlying263
 a32:=Tryz.isAgg263
 z32:=Tryz.sizeOf263
 v32:=Tryz.zeroValue263
 t35:=Tryz.underlying343
 a35:=Tryz.isAgg343
 z35:=Tryz.sizeOf343
 v35:=Tryz.zeroValue343
 t36:=Tryz.underlying344
 a36:=Tryz.isAgg344
 z36:=Tryz.sizeOf344
 v36:=Tryz.zeroValue344
 t41:=Tryz.underlying348
 a41:=Tryz.isAgg348
 z41:=Tryz.sizeOf348
 v41:=Tryz.zeroValue348
 t44:=Tryz.underlying351
 a44:=Tryz.isAgg351
 z44:=Tryz.sizeOf351
 v44:=Tryz.zeroValue351
 t46:=Tryz.underlying264
 a46:=Tryz.isAgg264
 z46:=Tryz.sizeOf264
 v46:=Tryz.zeroValue264
 t53:=Tryz.underlying411
 a53:=Tryz.isAgg411
 z53:=Tryz.sizeOf411
 v53:=Tryz.zeroValue411
 t57:=Tryz.underlying317
 a57:=Tryz.isAgg317
 z57:=Tryz.sizeOf317
 v57:=Tryz.zeroValue317
 t63:=Tryz.underlying466
 a63:=Tryz.isAgg466
 z63:=Tryz.sizeOf466
 v63:=Tryz.zeroValue466
 t64:=Tryz.underlying467
 a64:=Tryz.isAgg467
 z64:=Tryz.sizeOf467
 v64:=Tryz.zeroValue467 }
def Tryz.VI:iQ:=⟨fun|7=>119|10=>173|n=>n,fun|23=>109|26=>9|3=>150|28=>216|0=>0|27=>215|33=>282|4=>4|n=>n,fun|n=>n⟩
theorem Tryz.aqh:se pg Tryz.VI:= {
 mixed:=by kernel_rfl
 f7:=⟨Tryz.f119.name,by decide,Tryz.func119.trans Go.aJ.kS⟩
 f10:=⟨Tryz.f173.name,by decide,Tryz.func173.trans Go.aJ.kS⟩
 t0:=Tryz.underlying0
 a0:=Tryz.isAgg0
 z0:=Tryz.sizeOf0
 v0:=Tryz.zeroValue0
 t4:=Tryz.underlying4
 a4:=Tryz.isAgg4
 z4:=Tryz.sizeOf4
 v4:=Tryz.zeroValue4
 t23:=Tryz.underlying109
 a23:=Tryz.isAgg109
 z23:=Tryz.sizeOf109
 v23:=Tryz.zeroValue109
 t26:=Tryz.underlying9
 a26:=Tryz.isAgg9
 z26:=Tryz.sizeOf9
 v26:=Tryz.zeroValue9
 t27:=Tryz.underlying215
 a27:=Tryz.isAgg215
 z27:=Tryz.sizeOf215
 v27:=Tryz.zeroValue215
 t28:=Tryz.underlying216
 a28:=Tryz.isAgg216
 z28:=Tryz.sizeOf216
 v28:=Tryz.zeroValue216
 t33:=Tryz.underlying282
 a33:=Tryz.isAgg282
 z33:=Tryz.sizeOf282
 v33:=Tryz.zeroValue282 }
def Tryz.VJ:iQ:=⟨fun|7=>169|10=>239|n=>n,fun|23=>287|26=>9|3=>97|28=>216|0=>0|27=>215|33=>282|4=>4|n=>n,fun|n=>n⟩
theorem Tryz.aqi:se pg Tryz.VJ:= {
 mixed:=by kernel_rfl
 f7:=⟨Tryz.f169.name,by decide,Tryz.func169.trans Go.aJ.kS⟩
 f10:=⟨Tryz.f239.name,by decide,Tryz.func239.trans Go.aJ.kS⟩
 t0:=Tryz.underlying0
 a0:=Tryz.isAgg0
 z0:=Tryz.sizeOf0
 v0:=Tryz.zeroValue0
 t4:=Tryz.underlying4
 a4:=Tryz.isAgg4
 z4:=Tryz.sizeOf4
 v4:=Tryz.zeroValue4
 t23:=Tryz.underlying287
 a23:=Tryz.isAgg287
 z23:=Tryz.sizeOf287
 v23:=Tryz.zeroValue287
 t26:=Tryz.underlying9
 a26:=Tryz.isAgg9
 z26:=Tryz.sizeOf9
 v26:=Tryz.zeroValue9
 t27:=Tryz.underlying215
 a27:=Tryz.isAgg215
 z27:=Tryz.sizeOf215
 v27:=Tryz.zeroValue215
 t28:=Tryz.underlying216
 a28:=Tryz.isAgg216
 z28:=Tryz.sizeOf216
 v28:=Tryz.zeroValue216
 t33:=Tryz.underlying282
 a33:=Tryz.isAgg282
 z33:=Tryz.sizeOf282
 v33:=Tryz.zeroValue282 }
def Tryz.VK:iQ:=⟨fun|7=>231|10=>306|n=>n,fun|23=>370|26=>9|3=>3|28=>216|0=>0|27=>215|33=>282|4=>4|n=>n,fun|n=>n⟩
theorem Tryz.aqj:se pg Tryz.VK:= {
 mixed:=by kernel_rfl
 f7:=⟨Tryz.f231.name,by decide,Tryz.func231.trans Go.aJ.kS⟩
 f10:=⟨Tryz.f306.name,by decide,Tryz.func306.trans Go.aJ.kS⟩
 t0:=Tryz.underlying0
 a0:=Tryz.isAgg0
 z0:=Tryz.sizeOf0
 v0:=Tryz.zeroValue0
 t4:=Tryz.underlying4
 a4:=Tryz.isAgg4
 z4:=Tryz.sizeOf4
 v4:=Tryz.zeroValue4
 t23:=Tryz.underlying370
 a23:=Tryz.isAgg370
 z23:=Tryz.sizeOf370
 v23:=Tryz.zeroValue370
 t26:=Tryz.underlying9
 a26:=Tryz.isAgg9
 z26:=Tryz.sizeOf9
 v26:=Tryz.zeroValue9
 t27:=Tryz.underlying215
 a27:=Tryz.isAgg215
 z27:=Tryz.sizeOf215
 v27:=Tryz.zeroValue215
 t28:=Tryz.underlying216
 a28:=Tryz.isAgg216
 z28:=Tryz.sizeOf216
 v28:=Tryz.zeroValue216
 t33:=Tryz.underlying282
 a33:=Tryz.isAgg282
 z33:=Tryz.sizeOf282
 v33:=Tryz.zeroValue282 }
def Tryz.VL:iQ:=⟨fun|7=>164|10=>230|n=>n,fun|23=>281|26=>3|3=>40|28=>220|0=>0|27=>219|33=>190|4=>4|n=>n,fun|n=>n⟩
theorem Tryz.aqk:EP pg Tryz.VL:= {
 mixed:=by kernel_rfl
 f7:=⟨Tryz.f164.name,by decide,Tryz.func164.trans Go.aJ.kS⟩
 f10:=⟨Tryz.f230.name,by decide,Tryz.func230.trans Go.aJ.kS⟩
 t0:=Tryz.underlying0
 a0:=Tryz.isAgg0
 z0:=Tryz.sizeOf0
 v0:=Tryz.zeroValue0
 t4:=Tryz.underlying4
 a4:=Tryz.isAgg4
 z4:=Tryz.sizeOf4
 v4:=Tryz.zeroValue4
 t23:=Tryz.underlying281
 a23:=Tryz.isAgg281
 z23:=Tryz.sizeOf281
 v23:=Tryz.zeroValue281
 t26:=Tryz.underlying3
 a26:=Tryz.isAgg3
 z26:=Tryz.sizeOf3
 v26:=Tryz.zeroValue3
 t27:=Tryz.underlying219
 a27:=Tryz.isAgg219
 z27:=Tryz.sizeOf219
 v27:=Tryz.zeroValue219
 t28:=Tryz.underlying220
 a28:=Tryz.isAgg220
 z28:=Tryz.sizeOf220
 v28:=Tryz.zeroValue220
 t33:=Tryz.underlying190
 a33:=Tryz.isAgg190
 z33:=Tryz.sizeOf190
 v33:=Tryz.zeroValue190 }
end Go.Proofs
namespace Go.Proofs.YtgfijddlkhkopaaGreat
open Go.Proofs.Tryz renaming prog → pg
open Go.aJ Go.RowKit Go.Maps Go.Sort Go.Shelf Go.Proofs
set_option maxRecDepth 100000
set_option maxHeartbeats 4000000
variable {H : Type}
theorem insert_perm (x:Lit×DataW H): ∀l:List (Lit×DataW H),(we x l).Perm (x::l)
 |[]=>yH _
 |y::r=>by
  unfold we;split
  ·exact yH _
  ·exact((insert_perm x r).cons y).trans (List.Perm.swap x y r)
theorem yI: ∀l:List (Lit×DataW H),(l.foldr we []).Perm l
 |[]=>yH _
 |x::l=>(insert_perm x _).trans ((yI l).cons x)
def RT:Value->Option (DataW Unit×List MemPlace):=λ_=>some (.lit (.bool true),[])
variable {b kt : Nat} {X : XS} {w : World} {P : Program}
theorem ab8 {c:Nat} {es:List (jy ByteArray)} (h:mB w X b aP es c) (hk:P.underlying kt=some .string) (hs: ∀x∈es,x.1.size<=2^40) (hl:es.length<=2^40):
  ∃D0:DataW Unit,w.ownsMap P kt RT b es.length D0/\Maps.size D0=es.length/\(strKeys D0).Perm (es.map λx=>x.1.data.toList):=by
 have HY:(2:Nat)^40<=maxLen:=by decide
 have kE: ∀x∈es,keyOf P kt (.string x.1)=some (.string x.1.data.toList):=λx hx=>by
  unfold keyOf mapKey;rw[hk]
  grind
 have jB: ∀x∈es,sh P kt RT (lL aP x)=some (.string x.1.data.toList,.lit (.bool true)):=λx hx=>by grind [sh,lL,RT]
 have ajT:(es.map (lL aP)).map (mU P kt RT)=es.map λx=>((.string x.1.data.toList:Lit),(.lit (.bool true):DataW Unit)):=by
  rw[bw];apply dp;intro x hx;simp only[Function.comp,mU,jB x hx,Option.getD_some]
 refine⟨.map (((es.map (lL aP)).map (mU P kt RT)).foldr we []),⟨_,c,h.2.1,⟨?_,⟨?_,?_,?_⟩,?_⟩,by simp,by simp⟩,?_,?_⟩
 ·grind
 ·intro x hx;simp only[cM,List.mem_map] at hx;obtain⟨y,hy,rfl⟩:=hx;exact h.2.2.2.2 y hy
 ·have:=h.2.2.2.1;simpa [bw,jO,lL] using this
 ·have h1:=h.2.2.1;have e:((es.map (lL aP)).toArray.toList.map (·.key))=(es.map (·.1)).map aP:=by simp[bw,jO,lL]
  rw[e];exact List.Pairwise.map aP (λa b xh e=>xh (by cases e;rfl)) h1
 ·intro x hx;simp only[cM,List.mem_map] at hx;obtain⟨y,hy,rfl⟩:=hx;exact⟨_,jB y hy⟩
 ·show bf _=_
  rw[(yI _).length_eq];simp
 ·show(List.map _ _).Perm _
  refine((yI _).map _).trans ?_;rw[ajT,bw];rfl
def leB (x y:List UInt8):Bool:=decide (x<=y)
def bl (s:ByteArray):List UInt8:=s.data.toList
theorem aql (s:ByteArray):(⟨(bl s).toArray⟩:ByteArray)=s:=by rfl
def fQ (ks:List ByteArray):List ByteArray:=((ks.map bl).mergeSort leB).map λx=>⟨x.toArray⟩
theorem VM: ∀a b c:List UInt8,leB a b=true->leB b c=true->leB a c=true:=λa b c h1 h2=>by
 unfold leB at*
 grind
theorem VN: ∀a b:List UInt8,(leB a b||leB b a)=true:=λa b=>by grind [leB]
theorem ajU: ∀a b:List UInt8,leB a b=true->leB b a=true->a=b:=λa b h1 h2=>by
 unfold leB at*
 grind
theorem VO: ∀{l l':List (List UInt8)},l.Perm l'->l.Pairwise (λa b=>leB a b=true)->l'.Pairwise (λa b=>leB a b=true)->l=l'
 |[],l',hp,_,_=>(List.Perm.nil_eq hp)
 |a::l,[],hp,_,_=>absurd hp.length_eq sQ
 |a::l,b::l',hp,h1,h2=>by
  have La:=List.pairwise_cons.1 h1;have h2':=List.pairwise_cons.1 h2;have xh:a=b:=by
   have ha:a∈b::l':=hp.mem_iff.1 sQ;have hb:b∈a::l:=hp.mem_iff.2 sQ;rcases List.mem_cons.1 ha with e|ha
   ·exact e
   ·rcases List.mem_cons.1 hb with e|hb
    ·exact e.symm
    ·exact ajU a b (La.1 b hb) (h2'.1 a ha)
  subst xh;rw[VO (List.Perm.cons_inv hp) La.2 h2'.2]
theorem VP {l l':List (List UInt8)} (h:l.Perm l'):l.mergeSort leB=l'.mergeSort leB:=
 VO (((sX l leB).trans h).trans (sX l' leB).symm) (vF VM VN l) (vF VM VN l')
theorem kL (ks:List ByteArray):(fQ ks).Perm ks:=by
 have h:=(sX (ks.map bl) leB).map λx=>(⟨x.toArray⟩:ByteArray);rw[bw] at h;have e:(ks.map ((λx=>(⟨x.toArray⟩:ByteArray))∘bl))=ks:=by
  conv=>rhs;rw[<-List.map_id ks]
  apply dp;intro x _;exact aql x
 rw[e] at h;exact h
theorem aix {ks ks':List ByteArray} (h:ks.Perm ks'):fQ ks=fQ ks':=by grind [fQ,VP]
def ajV (m:Nat):AnyZ.SortsIn pg Tryz.Pe gg m:=
  ⟨λcU off cap ss W hH hblk gf=>callsIn_wide.2 (AnyM.slices_Sort_string Tryz.WU cU off cap ss W hH hblk gf),
   λp cap W=>callsIn_wide.2 (AnyM.slices_Sort_string_none Tryz.WU p cap W)⟩
variable {mb : Nat} {A : XS}
theorem Qs {g:FuncId} {lb:Array Value} {α:Type} {rd:World->XS->Value->α->Prop} {l:List (ByteArray×α)} (h:dL w X A mb aP rd l) (eg:enters pg g=true)
  (hs: ∀x∈l,x.1.size<=2^40) (hl:l.length<=2^40)
  (hg: ∀wa,Kp X w wa-> ∀(nn:Nat) (D0:DataW Unit),wa.ownsMap pg 9 RT mb nn D0->SeqGives gg 2 pg g lb encStr (λss=>ss.Perm (strKeys D0)) (Maps.size D0) wa):
  Ct pg 118 #[.func (.func g) #[] lb] w X nX λv wa w'=>Own w' (made wa w') wa.heap.size 9 1 v ((fQ (l.map (·.1))).map S1):=by
 intro wa hk;obtain⟨es,c,h1,h2⟩:=h;have C6:=h2.keys;have hlen:es.length=l.length:=by have:=congrArg bf C6;simpa using this
 obtain⟨D0,xS,gf,SB⟩:=ab8 (P:=pg) (h1.kp hk) (kt:=9) kQ (λx hx=>by
  have:x.1∈l.map (·.1):=by rw[<-C6];exact List.mem_map.2 ⟨x,hx,rfl⟩
  obtain⟨y,hy,e⟩:=List.mem_map.1 this
  grind) zQ
 have HY:(2:Nat)^40<=maxLen:=by decide
 have hS:=callsIn_wide.1 (AnyZ.sorted_in Tryz.al1 gg 5 trivial trivial trivial trivial rfl zQ (ajV _) (λargs w=>pe kQ args w) g lb trivial (λargs w=>pe eg args w) _ _ zQ zQ wa (hg wa hk _ D0 xS));refine hS.mono ?_;rintro e w' ⟨v,ss,rfl,hp,br,aiu,hb⟩;have hx:Ext wa w':=⟨hb.os,hb.tape,hb.output,hb.size,λk ah _=>hb.block k ah⟩;refine⟨v,rfl,hx,?_⟩;have e1:ss.mergeSort (λx y=>decide (x<=y))=(l.map λx=>bl x.1).mergeSort leB:=by
  have hp2:ss.Perm (l.map λx=>bl x.1):=by
   refine hp.trans (SB.trans ?_);have:(es.map λx=>x.1.data.toList)=(l.map λx=>bl x.1):=by
    have:=congrArg (List.map bl) C6;simpa [bw,jO,bl] using this
   rw[this]
  exact VP hp2
 have e2:((ss.mergeSort (λx y=>decide (x<=y))).map encStr)=((fQ (l.map (·.1))).map S1).flatten:=by
  rw[e1];unfold fQ;rw[bw,bw];have e3: ∀q:List (List UInt8),q.map encStr=(q.map (S1∘λx=>(⟨x.toArray⟩:ByteArray))).flatten:=λq=>by
   induction q with
   |nil=>rfl
   |cons a q ih=>simp only[List.map_cons,List.flatten_cons,<-ih];rfl
  exact e3 _
 have sE:ss.length=((fQ (l.map (·.1))).map S1).length:=by
  rw[af,(kL _).length_eq,af,<-hlen];have:=hp.length_eq;rw[this,SB.length_eq,af]
 refine⟨λr hr=>by obtain⟨x,_,rfl⟩:=List.mem_map.1 hr;rfl,?_,λq hq=>⟨?_,?_⟩⟩
 ·rw[<-sE,<-e2];exact br
 ·exact(br.lt _ hq).1
 ·exact(br.lt _ hq).2
attribute [local irreducible] un jn jg iN ld1 tW st1 mG lN pB sH pT J6 Fc gR ru aX lW lP eW eV eU eC eF gE np fin ix cj eP vS OA J7 J9 Ka Kb Kc OB OC Kd OD Gz GA Ke Kf Kg OE OF Kh
variable {R : Ending -> World -> Prop} {w0 : World} {F F0 G : XS} {db o' t z : Nat} {m : DM} {N : Value -> Prop}
section
variable {l : List (ByteArray × nr)}
theorem aoN {κ α:Type} [DecidableEq κ] {ty et:Nat} {kv:κ->Value} {rd:World->XS->Value->α->Prop} {l:List (κ×α)} (h:dL w X A b kv rd l) (ht:P.underlying t=some (.map kt et))
  (n:N (I l.length)):aX P X w (j9 #[t] ty #[.map (some b)]) N:=by
 obtain⟨es,c,h1,h2⟩:=h;refine HZ (I l.length) (λwa hk=>?_) n;have hl:es.length=l.length:=by have:=congrArg bf h2.keys;simpa using this
 simp[j9,run_underlying ht,getObj,Sem.run,((h1.kp hk).2.1),goInt,hl]
theorem aqm {t ty:TypeId} {a b:Int} (h:N (I (max a b))):aX P X w (lx #[t,t] ty #[I a,I b]) N:=
 bB (λwa=>by
  simp only[lx,List.foldlM];by_cases hc:a<b
  ·have:max a b=b:=by omega
   simp[si,hc,this]
  ·have:max a b=a:=by omega
   simp[si,hc,this]) h
def ag8 {t:TypeId} {a b:Int} (h:N (.int .i64 (IntKind.i64.wrap (a+b)))):aX P X w (binOp .add t (.int .i64 a) (.int .i64 b)) N:=od h
theorem yc {N:Value->World->XS->Prop} {o:Nat} {v:Value} (hT:Ft w0 F0 w X F) (h:oq w G db mb l m z) (hG: ∀k,G k->F k) (m':DM) (z':Nat) (MG:o'=o) (ht:((P.info? t).map (·.size))=some 1) (ho:o+1<=5) (h1:aJ.one v=true)
  (hc:dr [.map (some mb),I z,I m.wr,I m.ar,B m.dn] o [v]=[.map (some mb),I z',I m'.wr,I m'.ar,B m'.dn]) (OZ:m'.fs=m.fs) (har:m'.ar<2^63)
  (n: ∀w' X',Ft w0 F0 w' X' F->oq w' G db mb l m' z'->ee (· =db) X w X' w'->N undef w' X'):eU P R X w true (st1 t 1 (ptr db o') v) N:=by
 subst MG;have hX: ∀k,G k->X k:=λk hk=>hT.bo k (hG k hk);have hv:v.cells= #[v]:=tg h1;refine EH (h.box.mv (Mv.sub hX)) ht ho (by rw[hv];rfl) (by rw[hv];simp[h1]) hT.s.has λw' X' c hr=>?_;rw[hv] at hr;rw[hc] at hr;exact n w' X' (hT.ea c (λk hk=>by subst hk;exact hG _ h.box.1) λk hk=>.inl hk) (h.aoM hX c hr OZ har) c
end
variable {n : ByteArray}
theorem tt {l:List (ByteArray×nr)} (hm:dL w X nX mb aP Pd l) (n1: ∀f,getM n l=some f->N (ptr f.b 0)) (n0:getM n l=none->N (.pointer none)):
  aX pg X w (Instr.lookup 109 (.map (some mb)) (.string n) false) N:=
 mZ (kt:=9) (et:=150) (.pointer none) hm (Jj kQ) kQ kQ (λv f h1 h2=>by
  have h2:v=ptr f.b 0:=h2;subst h2;exact n1 f h1) n0
theorem Pg {l:List (ByteArray×nr)} (h:oq w F db mb l m z) (hF:FX F X w) (jQ:m.dn=false):
  Ct pg 280 #[ptr db 0] w X F λv wa w'=>v=B m.tick.dn/\oq w' F db mb l m.tick z:=by
 intro w0 hk;have h0:=h.mv (hF.mv hk);have hT:=hF.ft hk;clear h;have har:=h0.ar;refine Og.1 λ_=>?_;have hb:=h0.box.mv (Mv.sub hT.bo);rw[jQ] at hb;have Bu: ∀k,F k->F k:=λ_ h=>h;refine cJ ?_;repeat' first|refine ao ?_;intros|refine cP ?_ ?_<;>intros|with_reducible apply cJ
 ·refine yc hT h0 Bu { m with ar:=m.ar-1 } z (o:=3) zQ kQ zQ rfl (by rw[show((m.ar-1:Nat):Int)=(m.ar:Int)-1 by omega];rfl) rfl (by show m.ar-1<_;omega) λw1 X1 hT h1 c1=>?_;clear hb h0;have hb:=h1.box.mv (Mv.sub hT.bo);repeat' first|refine ao ?_;intros|refine cP ?_ ?_<;>intros
  ·refine yc hT h1 Bu { m with ar:=m.ar-1,dn:=true } z (o:=4) zQ kQ zQ rfl rfl rfl h1.ar λw1 X1 hT h2 c1=>?_;clear hb h1;have hb:=h2.box.mv (Mv.sub hT.bo);have q':((m.ar-1:Nat):Int)=0:=by assumption
   have rT:m.ar=1:=by omega
   repeat' first|refine ao ?_;intros|with_reducible apply cJ
   refine hT.fin λwa aK=>⟨by rw[DM.tick,if_pos rT],?_⟩;rw[DM.tick,if_pos rT];rw[show m.ar-1=0 by omega] at h2;exact h2.mv (aK.je hT.bo)
  ·refine yc hT h1 Bu { m with ar:=m.ar-1,dn:=false } z (o:=4) zQ kQ zQ rfl rfl rfl h1.ar λw1 X1 hT h2 c1=>?_;clear hb h1;have hb:=h2.box.mv (Mv.sub hT.bo);have q': ¬((m.ar-1:Nat):Int)=0:=by assumption
   have rT: ¬m.ar=1:=by omega
   repeat' first|refine ao ?_;intros|with_reducible apply cJ|(with_reducible apply ag8)
   refine yc hT h2 Bu { m with ar:=m.ar-1,dn:=false,wr:=IntKind.i64.wrap (m.wr+1) } z (o:=2) zQ kQ zQ rfl rfl rfl h2.ar λw1 X1 hT h3 c1=>?_;clear hb h2;have hb:=h3.box.mv (Mv.sub hT.bo);repeat' refine ao ?_;intros
   refine hT.fin λwa aK=>⟨by rw[DM.tick,if_neg rT,jQ],?_⟩;rw[DM.tick,if_neg rT];have h4:=h3.mv (aK.je hT.bo);rw[<-jQ] at h4;exact h4
 ·have rT: ¬m.ar=1:=by omega
  have ha0:m.ar-1=m.ar:=by omega
  repeat' first|refine ao ?_;intros|(with_reducible apply ag8)
  refine yc hT h0 Bu { m with wr:=IntKind.i64.wrap (m.wr+1) } z (o:=2) zQ kQ zQ rfl rfl rfl h0.ar λw1 X1 hT h3 c1=>?_;clear hb h0;have hb:=h3.box.mv (Mv.sub hT.bo);rw[jQ] at hb;repeat' refine ao ?_;intros
  refine hT.fin λwa aK=>⟨by rw[DM.tick,if_neg rT,jQ],?_⟩;rw[DM.tick,if_neg rT,ha0];exact h3.mv (aK.je hT.bo)
theorem ab9 (n:ByteArray):Pure pg 255 #[.string n] (B (wA n)):=by
 intro w0;refine aam.1 λhs=>?_;repeat' first|refine ao ?_;intros|refine cP ?_ ?_<;>intros|(with_reducible refine fG hs ?_);(simp_all [wA]<;>omega)
theorem aeF:Ct pg 35 #[] w X nX λv wa w'=> ∃db,v=ptr db 0/\Dk w' (made wa w') db ⟨[],0,0,false⟩:=by
 intro w0 hk;refine abQ.1 λhs=>?_;refine rA (kv:=aP) Pd nX hs.has λmb w1 X1 hmb ay qy=>?_;replace hs:=hs.trans ay;refine Xd kQ ?_;refine BL hs.has λbx w2 X2 fY bA br=>?_;have rC:=qy.mv mj bA.mv (λ_ h=>h.elim) (A':=nX);have hz:=hs.kp.size;refine bQ (hs.trans bA) λwa aK=>⟨bx,rfl,mb,[],⟨rfl,⟨⟨by omega,(br.kp aK).lt⟩,(br.kp aK).2⟩,?_,by simp,by simp,List.Pairwise.nil,by decide,by simp⟩,by decide⟩;exact rC.own.mv mj (Mv.one aK rC.x.1 ⟨hmb,aw rC.x.2 aK.size⟩) λ_ h=>h.elim
theorem abC (h:Dk w F db m) (hF:FX F X w):Ct pg 125 #[ptr db 0] w X nX λv wa w'=>v=B m.dn:=by
 intro w0 hk;obtain⟨mb,l,h0,hz⟩:=h.mv (hF.mv hk);have hb:=h0.box.mv (Mv.sub λk ah=>(hF.kp hk k ah).1);refine Ob.1 λhs=>?_;repeat' first|refine ao ?_;intros|(refine qr ?_;intro wa hk;rfl)
theorem Rp (h:Dk w F db m) (hF:FX F X w):Ct pg 258 #[ptr db 0,.string n] w X nX λv wa w'=>v=I (if(m.get n).isSome then 0 else 8):=by
 intro w0 hk;obtain⟨mb,l,h0,hz⟩:=h.mv (hF.mv hk);have hX:=λk ah=>(hF.kp hk k ah).1;have hb:=h0.box.mv (Mv.sub hX);have hg:=h0.get n;have hm:=h0.map.mv mj (Mv.sub hX) (A':=nX) λ_ h=>h.elim;refine Qi.1 λhs=>?_;repeat' refine ao ?_;intros
 refine tt hm (λf h1=>?_) λh1=>?_
 ·repeat' first|refine ao ?_;intros|(refine qr ?_;intro wa hk;(rw[hg,h1];rfl))
 ·repeat' first|refine ao ?_;intros|(refine qr ?_;intro wa hk;(rw[hg,h1];rfl))
theorem Fq {f:Nat} {c:List Value} {e:Nat} {g:DM->DM} (h:Dk w F db m) (hF:FX F X w) (hA: ∀k,A k->X k/\k<w.heap.size/\ ¬F k) (hf:enters pg f=true)
  (hdo:e=0-> ∀w1 X1,Mv A w A w1->(∀k,A k->X1 k)->FX F X1 w1->Dk w1 F db m.tick->Ct pg f c.toArray w1 X1 F λv wa w'=>v= .tuple #[]/\ ∃F',(∀k,F' k->F k\/made wa w' k)/\Dk w' F' db (g m.tick)):
  Ct pg 256 #[ptr db 0,I e,.func (.func f) #[] c.toArray] w X F λv wa w'=>v=I (m.write e g).2/\ ∃F',(∀k,F' k->F k\/made wa w' k)/\Dk w' F' db (m.write e g).1:=by
 intro w0 hk;obtain⟨mb,l,h0,hz⟩:=h.mv (hF.mv hk);have hT:=hF.ft hk;have ot:FX F (bN w0) w0:=hF.kp hk;have hAm:Mv A w A w0:=λk ah _=>⟨ah,hk.block k (hA k ah).1⟩;have hb:=h0.box.mv (Mv.sub hT.bo);have hs:=ai.init w0;have stay: ∀{w1 X1} (m':DM),Ft w0 F w1 X1 F->oq w1 F db mb l m' m'.sz->m'.sz<=4194304-> ∀wa,Kp X1 w1 wa-> ∃F',(∀k,F' k->F k\/made w0 wa k)/\Dk wa F' db m':=λm' hT h1 hz wa aK=>⟨F,hT.jz aK λ_ h=>h,mb,l,h1.mv (aK.je hT.bo),hz⟩;have htz:m.tick.sz=m.sz:=by unfold DM.tick DM.sz;split<;>rfl
 refine MN.1 λ_=>?_;cases jQ:m.dn
 ·rw[jQ] at hb;repeat' first|refine ao ?_;intros|refine cP ?_ ?_<;>intros
  ·have he:e≠0:=by omega
   refine hT.fin λwa aK=>⟨?_,?_⟩
   ·simp[DM.write,jQ,he]
   ·simp only[DM.write,jQ,he,aW,if_false,ne_eq,not_false_eq_true,if_true];exact stay m hT h0 hz wa aK
  ·have he:e=0:=by omega
   refine hT.call (Pg h0 ot jQ) kQ (λ_ h=>h) λv wa w2 X2 hq hle gu cX hc=>?_;obtain⟨rfl,h2⟩:=hq;replace cX:Ft w0 F w2 X2 F:=cX.less λk hk=>.inl hk;rw[<-htz] at h2;cases ht:m.tick.dn
   ·repeat' refine ao ?_;intros
    refine cX.call (hdo he w2 X2 (hAm.trans (hc.je λk ah=>⟨aw (hA k ah).2.1 hk.size,(hA k ah).2.2⟩)) (λk ah=>hc.sub k (aw (hA k ah).2.1 hk.size)) (cX.fx λ_ h=>h) ⟨mb,l,h2,htz▸hz⟩) hf (λ_ h=>h) λv zR w3 X3 Q3 qS mN dX uZ=>?_;obtain⟨rfl,F',DB,hD⟩:=Q3;refine dX.fin λIi aK=>⟨?_,F',dX.jz aK DB,?_⟩
    ·simp[DM.write,jQ,he,ht]
    ·simp only[DM.write,jQ,he,ht,aW,if_false,ne_eq,not_true_eq_false];exact hD.mv (aK.je λk ah=>dX.bo k (DB k ah))
   ·repeat' refine ao ?_;intros
    refine cX.fin λwa aK=>⟨?_,?_⟩
    ·simp[DM.write,jQ,he,ht]
    ·simp only[DM.write,jQ,he,ht,aW,if_false,ne_eq,not_true_eq_false,if_true];exact stay _ cX h2 (htz▸hz) wa aK
 ·rw[jQ] at hb;repeat' refine ao ?_;intros
  refine hT.fin λwa aK=>⟨?_,?_⟩
  ·simp[DM.write,jQ]
  ·simp only[DM.write,jQ,if_true];exact stay m hT h0 hz wa aK
section
variable {l : List (ByteArray × nr)} {f : nr} {N : Value -> World -> XS -> Prop}
theorem afs {x:Int} {s':Nat} (hT:Ft w0 F0 w X F) (h:oq w G db mb l m z) (hG: ∀k,G k->F k) (hn:getM n l=some f) (ho:o'=1) (hx:x=s') (hs:s'<=f.bs.length)
  (k: ∀w' X',Ft w0 F0 w' X' F->oq w' G db mb (cI n ⟨f.b,f.v,f.bs,s'⟩ l) (m.put n f.bs s') z->N undef w' X'):eU pg R X w true (st1 3 1 (ptr f.b o') (I x)) N:=by
 subst ho;subst hx;have hX: ∀k,G k->X k:=λk hk=>hT.bo k (hG k hk);have hr:=h.row _ (gL hn);have ho:=h.ow _ (gL hn);refine EH (hr.mv (Mv.sub hX)) kQ sQ rfl rfl hT.s.has λw' X' c jU=>?_;have hT':Ft w0 F0 w' X' F:=hT.ea c (λk hk=>by subst hk;exact hG _ hr.1) λk hk=>.inl hk;refine k w' X' hT' (h.jT (F':=G) (hT.fx hG) c hn (λk hk=>.inl hk) (λ_ h=>h) ⟨hr.1,jU.2⟩ ?_ (.inl rfl) hs);exact ho.tight.mv λk hk hl=>⟨(ho.bo hk).1,c.block k (hX k (ho.bo hk).1) λe=>ho.eT hr kQ (by rw[<-(show k=f.b from e)];exact hk)⟩
theorem ag9 {vs:Value} {b:List Nat} (hT:Ft w0 F0 w X F) (h:oq w G db mb l m z) (hG: ∀k,G k->F k) (hn:getM n l=some f) (src:Sl w X 1 vs (b.map U1)) (hl:f.bs.length+b.length<=2^40)
  (k: ∀w' X',Ft w0 F0 w' X' (λk=>F k\/(X' k/\w.heap.size<=k))->(∃v',oq w' (λk=>G k\/(X' k/\w.heap.size<=k)) db mb (cI n ⟨f.b,v',f.bs++b,f.safe⟩ l) (m.put n (f.bs++b) f.safe) z)->N undef w' X'):
  eV pg R X w true (ru 151 5 1 1 151 f.v vs) λx w1 X1=>lW pg X1 w1 (cj (ptr f.b 0)) λp=>aX pg X1 w1 (iN 153 0 0 1 p) λq=>eU pg R X1 w1 true (st1 151 1 q x) N:=by
 have hX: ∀k,G k->X k:=λk hk=>hT.bo k (hG k hk);have hr:=h.row _ (gL hn);have ho:=h.ow _ (gL hn);have hsf:=h.safe _ (gL hn);have bU:f.v.ownBlock≠some f.b:=ho.eT hr kQ;refine R7 kQ hT.s.has (ho.mono hX) src (by intro r hr u hu;obtain⟨x,_,rfl⟩:=List.mem_map.1 hr;simp only[U1,List.mem_singleton] at hu;subst hu;rfl) oQ oQ λv' w1 X1 c vu dg=>?_;have rr:aI w1 X1 f.b [f.v,I f.safe] 153:=⟨c.sub _ (hX _ hr.1),by rw[c.block _ (hX _ hr.1) λe=>bU e];exact hr.2⟩
 with_reducible apply Jl
 have Vd:fieldInfo pg 153 0=some (0,1):=by kernel_rfl
 refine R5 rr.cells Vd rfl λo' wo _=>?_;subst wo;have lq:=tg vu.one;refine EH rr kQ sQ (by rw[lq];rfl) (by rw[lq];simp[vu.one]) c.has λw' X' c' jU=>?_;rw[lq] at jU;have cc:ee (λk=>k=f.b\/f.v.ownBlock=some k) X w X' w':=(c.mono λk _ hk=>.inr hk).trans (c'.mono λk _ hk=>.inl hk);have ajW:v'.ownBlock≠some f.b:=vu.eT rr kQ;have gu: ∀g,v'.ownBlock=some g->G g\/(X' g/\w.heap.size<=g):=λg hg=>by
  rcases dg with e|⟨g',e,dA⟩
  ·exact .inl (ho.bo (e▸hg)).1
  ·rw[hg] at e;have:g=g':=Option.some.inj e;subst this;exact .inr ⟨c'.sub _ (vu.bo hg).1,dA⟩
 have jV:Ow w' (λk=>G k\/(X' k/\w.heap.size<=k)) 5 1 v' ((f.bs++b).map U1):=by
  rw[List.map_append];exact vu.tight.mv λk hk hl=>⟨gu k hk,c'.block k (vu.bo hk).1 λe=>ajW (by rw[<-(show k=f.b from e)];exact hk)⟩
 refine k w' X' (hT.ea cc (λk hk=>?_) λk hk=>hk) ⟨v',h.jT (F':=λk=>G k\/(X' k/\w.heap.size<=k)) (hT.fx hG) cc hn (λk hk=>hk) (λk hk=>.inl hk) ⟨.inl hr.1,?_⟩ jV dg (by rw[aa];have:f.safe<=f.bs.length:=hsf;omega)⟩
 ·rcases hk with rfl|hk
  ·exact hG _ hr.1
  ·exact hG _ (ho.bo hk).1
 ·exact jU.2
end
theorem WH {S:XS} {vb:Value} {b:List Nat} (h:Dk w F db m) (hF:FX F X w) (hb:Sl w S 1 vb (b.map U1)) (hS: ∀k,S k->X k/\ ¬F k) (JX:b.length<=2^30):
  Ct pg 200 #[ptr db 0,.string n,vb] w X F λv wa w'=>v=I (m.append n b).2/\ ∃F',(∀k,F' k->F k\/made wa w' k)/\Dk w' F' db (m.append n b).1:=by
 intro w0 hk;obtain⟨mb,l,h0,hz⟩:=h.mv (hF.mv hk);have hT:=hF.ft hk;have ot:FX F (bN w0) w0:=hF.kp hk;replace hb:Sl w0 (λk=>S k/\k<w0.heap.size) 1 vb (b.map U1):=hb.mv λk ah hl=>⟨⟨ah,aw hl hk.size⟩,hk.block k (hS k ah).1⟩;have fY:=h0.box.mv (Mv.sub hT.bo);have hs:=ai.init w0;have hg:=h0.get n;have hm:=h0.map.mv mj (Mv.sub hT.bo) (A':=nX) λ_ h=>h.elim;refine KX.1 λ_=>?_;repeat' refine ao ?_;intros
 refine tt hm (λf hn=>?_) λhn=>?_
 ·have pS:m.get n=some (f.bs,f.safe):=by rw[hg,hn];rfl
  have auc:=DM.CD pS;cases jQ:m.dn
  ·rw[jQ] at fY;repeat' first|refine ao ?_;intros|refine cP ?_ ?_<;>intros
   ·refine hT.fin λwa aK=>⟨?_,F,hT.jz aK λ_ h=>h,?_⟩
    ·simp only[DM.append,jQ,pS,aW,if_false];rw[if_pos zQ];rfl
    ·simp only[DM.append,jQ,pS,aW,if_false];rw[if_pos zQ];exact⟨mb,l,h0.mv (aK.je hT.bo),hz⟩
   ·have Jn: ¬4194304-m.sz<b.length:=by omega
    refine hT.call (Pg h0 ot jQ) kQ (λ_ h=>h) λv wa w2 X2 hq hle gu cX hc=>?_;obtain⟨rfl,h2⟩:=hq;replace cX:Ft w0 F w2 X2 F:=cX.less λk hk=>.inl hk;have jI:=(h2.row _ (gL hn)).mv (Mv.sub cX.bo);repeat' refine ao ?_;intros
    refine ag9 cX h2 (λ_ h=>h) hn ((hb.mv (hc.je λk ah=>⟨ah.2,(hS k ah.1).2⟩)).mono λk ah=>hc.sub k ah.2) (show f.bs.length+b.length<=2^40 by omega) λw3 X3 dX ⟨v',h3⟩=>?_;have rM:=h3.box.mv (Mv.sub dX.bo);have htz:=m.yR;repeat' refine ao ?_;intros
    have Hx:=DM.LL (bs:=f.bs++b) (s':=f.safe) ((m.qj n).trans pS);have hlen:(f.bs++b).length=f.bs.length+b.length:=aa;refine yc dX h3 (λ_ h=>h) (m.tick.put n (f.bs++b) f.safe) (m.tick.put n (f.bs++b) f.safe).sz (o:=1) zQ kQ zQ rfl (by rw[show(((m.tick.put n (f.bs++b) f.safe).sz:Nat):Int)=(m.sz:Int)+(b.length:Int)by omega];rfl) rfl h3.ar λw4 X4 fP h4 c4=>?_;have fin: ∀wa,Kp X4 w4 wa-> ∃F',(∀k,F' k->F k\/made w0 wa k)/\Dk wa F' db (m.append n b).1:=λwa aK=>⟨_,fP.jz aK λ_ h=>h,by
     simp only[DM.append,jQ,pS,aW,if_false];rw[if_neg Jn];exact⟨mb,_,h4.mv (aK.je fP.bo),by show(m.tick.put n (f.bs++b) f.safe).sz<=_;omega⟩⟩
    cases ht:m.tick.dn
    ·repeat' refine ao ?_;intros
     refine fP.fin λwa aK=>⟨?_,fin wa aK⟩;simp only[DM.append,jQ,pS,aW,if_false];rw[if_neg Jn];simp[ht]
    ·repeat' refine ao ?_;intros
     refine fP.fin λwa aK=>⟨?_,fin wa aK⟩;simp only[DM.append,jQ,pS,aW,if_false];rw[if_neg Jn];simp[ht]
  ·rw[jQ] at fY;repeat' refine ao ?_;intros
   refine hT.fin λwa aK=>⟨?_,F,hT.jz aK λ_ h=>h,?_⟩
   ·simp[DM.append,jQ]
   ·simp only[DM.append,jQ,if_true];exact⟨mb,l,h0.mv (aK.je hT.bo),hz⟩
 ·have pS:m.get n=none:=by rw[hg,hn];rfl
  cases jQ:m.dn
  ·rw[jQ] at fY;repeat' refine ao ?_;intros
   refine hT.fin λwa aK=>⟨?_,F,hT.jz aK λ_ h=>h,?_⟩
   ·simp[DM.append,jQ,pS]
   ·simp only[DM.append,jQ,pS,aW,if_false];exact⟨mb,l,h0.mv (aK.je hT.bo),hz⟩
  ·rw[jQ] at fY;repeat' refine ao ?_;intros
   refine hT.fin λwa aK=>⟨?_,F,hT.jz aK λ_ h=>h,?_⟩
   ·simp[DM.append,jQ]
   ·simp only[DM.append,jQ,if_true];exact⟨mb,l,h0.mv (aK.je hT.bo),hz⟩
variable {bd bn : Nat}
theorem aaK (h:Dk w F db m) (hF:FX F X w) (hd:aI w X bd [ptr db 0] 25) (hn:aI w X bn [.string n] 9) (hg:(m.get n).isSome=true):
  Ct pg 281 #[ptr bd 0,ptr bn 0] w X F λv wa w'=>v= .tuple #[]/\ ∃F',(∀k,F' k->F k\/made wa w' k)/\Dk w' F' db (DM.kr n m):=by
 intro w0 hk;obtain⟨mb,l,h0,hz⟩:=h.mv (hF.mv hk);have hT:=hF.ft hk;replace hd:=hd.mv hk.cd;replace hn:=hn.mv hk.cd;have fY:=h0.box.mv (Mv.sub hT.bo);have hs:=ai.init w0;have pS:=h0.get n;have hm:=h0.map.mv mj (Mv.sub hT.bo) (A':=nX) λ_ h=>h.elim;refine JA.1 λ_=>?_;repeat' refine ao ?_;intros
 refine tt hm (λf h1=>?_) λh1=>?_
 ·repeat' refine ao ?_;intros
  refine tt hm (λf' h2=>?_) λh2=>?_
  ·rw[h1] at h2;cases h2;have hr:=(h0.row _ (gL h1)).mv (Mv.sub hT.bo);have ho:=(h0.ow _ (gL h1)).sl;have YE:m.get n=some (f.bs,f.safe):=by rw[pS,h1];rfl
   repeat' refine ao ?_;intros
   refine afs hT h0 (λ_ h=>h) h1 (s':=f.bs.length) zQ rfl (Nat.le_refl _) λw1 X1 eh h3=>?_;refine eh.fin λwa aK=>⟨rfl,F,eh.jz aK λ_ h=>h,?_⟩;have e:DM.kr n m=m.put n f.bs f.bs.length:=by unfold DM.kr;rw[YE]
   have gf:=m.Fy n;rw[e] at gf⊢;exact⟨mb,_,by rw[gf];exact h3.mv (aK.je eh.bo),by omega⟩
  ·rw[h1] at h2;cases h2
 ·rw[pS,h1] at hg;cases hg
theorem aca (h:Dk w F db m) (hF:FX F X w):
  Ct pg 201 #[ptr db 0,.string n] w X F λv wa w'=>v=I (m.sync n).2/\ ∃F',(∀k,F' k->F k\/made wa w' k)/\Dk w' F' db (m.sync n).1:=by
 intro w0 hk;replace h:=h.mv (hF.mv hk);have hT:=hF.ft hk;have ot:FX F (bN w0) w0:=hF.kp hk;clear hF;refine Of.1 λ_=>?_;refine uv rfl hT.s.has λbd w1 X1 pR ay jB=>?_;refine uv rfl ay.has λbn w2 X2 hbn bA UM=>?_;have nV:=ay.trans bA;have cX:=hT.since nV;have T6:=jB.since bA;have h2:Dk w2 F db m:=h.mv (nV.gW λk ah=>(ot k ah).1);have hs:=ai.fK bA.has;repeat' refine ao ?_;intros
 refine cA (Rp h2 (cX.fx λ_ h=>h)) kQ hs.has ?_;rintro v wa w3 X3 rfl hle gu dm;have dX:=cX.since dm;have h3:Dk w3 F db m:=h2.mv (dm.gW cX.bo);have aud:=jB.lt;have asv:=dm.sub _ T6.1;have asw:=dm.sub _ UM.1;have AB:=T6.since dm;have D3:=UM.since dm;have e8:I (if(m.get n).isSome then 0 else 8)=I (((if(m.get n).isSome then 0 else 8:Nat)):Nat):=by split<;>rfl
 rw[e8];refine dX.call (Fq (A:=λk=>k=bd\/k=bn) (g:=DM.kr n) h3 (dX.fx λ_ h=>h) (λk ah=>?_) kQ ?_) kQ (λ_ h=>h) λv zS w4 X4 hq tK oV fP Fw=>?_
 ·rcases ah with rfl|rfl
  ·exact⟨asv,AB.lt,λhf=>by have:=(ot _ hf).2;omega⟩
  ·exact⟨asw,D3.lt,λhf=>by have:=(ot _ hf).2;have:=ay.kp.size;omega⟩
 ·intro he w5 X5 xV RI hF5 h5;refine aaK h5 hF5 ⟨RI _ (.inl rfl),?_⟩ ⟨RI _ (.inr rfl),?_⟩ ?_
  ·rw[(xV bd (.inl rfl) (AB.lt)).2];exact AB.2
  ·rw[(xV bn (.inr rfl) (D3.lt)).2];exact D3.2
  ·rw[m.qj];cases mF:(m.get n).isSome
   ·rw[mF] at he;cases he
   ·rfl
 ·obtain⟨rfl,F',DB,hD⟩:=hq
  skip
  refine fP.fin λIi aK=>⟨rfl,F',fP.jz aK DB,hD.mv (aK.je λk ah=>fP.bo k (DB k ah))⟩
theorem T7 (h:Dk w F db m) (hF:FX F X w) (hd:aI w X bd [ptr db 0] 25) (hn:aI w X bn [.string n] 9) (hg:m.get n=none):
  Ct pg 257 #[ptr bd 0,ptr bn 0] w X F λv wa w'=>v= .tuple #[]/\ ∃F',(∀k,F' k->F k\/made wa w' k)/\Dk w' F' db (m.put n [] 0):=by
 intro w0 hk;obtain⟨mb,l,h0,hz⟩:=h.mv (hF.mv hk);have hT:=hF.ft hk;have ot:FX F (bN w0) w0:=hF.kp hk;replace hd:=hd.mv hk.cd;replace hn:=hn.mv hk.cd;have fY:=h0.box.mv (Mv.sub hT.bo);have hs:=ai.init w0;have pS:=h0.get n;have hm:=h0.map.mv mj (Mv.sub hT.bo) (A':=nX) λ_ h=>h.elim;have hgn:getM n l=none:=by
  rw[hg] at pS;cases hq:getM n l with
  |none=>rfl
  |some f=>rw[hq] at pS;cases pS
 refine HJ.1 λ_=>?_;repeat' first|refine ao ?_;intros|(refine OQ hs ?_;intro bx w X fY ay gn hs br)
 have qy:=hm.mv mj gn.mv (A':=nX) λ_ h=>h.elim;refine vK (kt:=9) (et:=150) (a:=⟨bx,.slice none 0 0,[],0⟩) qy mj (show Pd _ _ (ptr bx 0) ⟨bx,.slice none 0 0,[],0⟩from rfl) (λ_ h=>h.elim) (Jj kQ) kQ gn.has λw2 X2 c rC=>?_;have OX:bx≠mb:=(qy.eT br).symm;have cX:Ft w0 F w2 X2 (λk=>F k\/k=bx):=((hT.since gn).more (F':=λk=>F k\/k=bx) λk ah=>ah.imp id λe=>by subst e;exact⟨br.1,fY⟩).ea c (λk ah=>by subst ah;exact .inl h0.map.x.1) λk ah=>.inl ah;have Cf:ee (· =mb) (bN w0) w0 X2 w2:=(ee.nQ gn _).trans c;refine cX.fin λwa aK=>⟨rfl,_,cX.jz aK λ_ h=>h,?_⟩;have hL:=h0.new (F':=λk=>F k\/k=bx) ot Cf hgn (λk ah=>ah) (λk ah=>.inl ah) fY (rC.own.mv mj (λk ah hl=>⟨.inl (by subst ah;exact h0.map.x.1),rfl⟩) λ_ h=>h.elim) ⟨.inr rfl,by rw[c.block _ br.1 OX];exact br.2⟩;have asx:(m.put n [] 0).sz=m.sz:=by simpa using (DM.Th (bs:=[]) (s':=0) hg)
 rw[<-asx] at hL;exact⟨mb,_,hL.mv (aK.je cX.bo),by omega⟩
def DM.CX (m:DM) (n:ByteArray):Nat:=if¬wA n then 10 else if(m.get n).isSome then 9 else if 64<=m.fs.length then 3 else 0
theorem WI (h:Dk w F db m) (hF:FX F X w):
  Ct pg 181 #[ptr db 0,.string n] w X F λv wa w'=>v=I (m.create n).2/\ ∃F',(∀k,F' k->F k\/made wa w' k)/\Dk w' F' db (m.create n).1:=by
 intro w0 hk;replace h:=h.mv (hF.mv hk);have hT:=hF.ft hk;have ot:FX F (bN w0) w0:=hF.kp hk;clear hF;obtain⟨mb,l,h0,hz⟩:=id h;refine KT.1 λ_=>?_;refine uv rfl hT.s.has λbd w1 X1 pR ay jB=>?_;refine uv rfl ay.has λbn w2 X2 hbn bA UM=>?_;have nV:=ay.trans bA;have hs:=ai.fK bA.has;have T6:=jB.since bA;have fY:=(h0.box.mv (Mv.sub hT.bo)).since nV;have hm:=(h0.map.mv mj (Mv.sub hT.bo) (A':=nX) λ_ h=>h.elim).mv mj nV.mv (A':=nX) λ_ h=>h.elim;have pS:=h0.get n;have hlen:=h0.len;have key: ∀(w3:World) (X3:XS) (e:Nat),ai X2 w2 X3 w3->m.CX n=e->eC pg (vi F w0 λv w'=>v=I (m.create n).2/\ ∃F',(∀k,F' k->F k\/made w0 w' k)/\Dk w' F' db (m.create n).1) X3 w3 true 256 #[ptr db 0,I e,.func (.func 257) #[] #[ptr bd 0,ptr bn 0]] λx w4 X4=>
   fin (vi F w0 λv w'=>v=I (m.create n).2/\ ∃F',(∀k,F' k->F k\/made w0 w' k)/\Dk w' F' db (m.create n).1) X4 w4 x:=by
  intro w3 X3 e dm he;have aeL:=nV.trans dm;have dX:=hT.since aeL;have h3:Dk w3 F db m:=h.mv (aeL.gW λk ah=>(ot k ah).1);have AB:=T6.since dm;have D3:=UM.since dm;have em:m.create n=m.write e λm=>m.put n [] 0:=by rw[<-he];rfl
  rw[em];refine dX.call (Fq (A:=λk=>k=bd\/k=bn) (g:=λm=>m.put n [] 0) h3 (dX.fx λ_ h=>h) (λk ah=>?_) kQ ?_) kQ (λ_ h=>h) λv zS w4 X4 hq tK oV fP Fw=>?_
  ·rcases ah with rfl|rfl
   ·exact⟨AB.1,AB.lt,λhf=>by have:=(ot _ hf).2;omega⟩
   ·exact⟨D3.1,D3.lt,λhf=>by have:=(ot _ hf).2;have:=ay.kp.size;omega⟩
  ·intro Bw w5 X5 xV RI hF5 h5;refine T7 h5 hF5 ⟨RI _ (.inl rfl),?_⟩ ⟨RI _ (.inr rfl),?_⟩ ?_
   ·rw[(xV bd (.inl rfl) (AB.lt)).2];exact AB.2
   ·rw[(xV bn (.inr rfl) (D3.lt)).2];exact D3.2
   ·rw[m.qj];rw[Bw] at he;unfold DM.CX at he;cases mF:m.get n with
    |none=>rfl
    |some x=>
     rw[mF] at he;simp at he;exfalso;split at he<;>omega
  ·obtain⟨rfl,F',DB,hD⟩:=hq;exact fP.fin λIi aK=>⟨rfl,F',fP.jz aK DB,hD.mv (aK.je λk ah=>fP.bo k (DB k ah))⟩
 refine gZ (λk=> ∀(e:Nat) (w3:World) (X3:XS),ai X2 w2 X3 w3->m.CX n=e->k (I e) w3 X3) ?_ ?_
 ·intro e w3 X3 dm he;have AB:=T6.since dm;repeat' refine ao ?_;intros
  exact key w3 X3 e dm he
 ·intro K hK;repeat' first|refine ao ?_;intros|(refine kn (ab9 _) hs ?_ ?_<;>intro _ w X hs)
  ·have D3:=UM.since hs;have AB:=T6.since hs;have aue:=fY.since hs;have qx:=hm.mv mj hs.mv (A':=nX) λ_ h=>h.elim
   skip
   refine tt qx (λf hn=>?_) λhn=>?_
   ·repeat' refine ao ?_;intros
    exact hK 9 _ _ hs (by simp_all [DM.CX])
   ·repeat' first|refine ao ?_;intros|refine cP ?_ ?_<;>intros|(refine aoN qx (kt:=9) (et:=150) kQ ?_)
    ·exact hK 3 _ _ hs (by simp only[DM.CX,pS,hn];simp_all<;>omega)
    ·exact hK 0 _ _ hs (by simp only[DM.CX,pS,hn];simp_all<;>omega)
  ·exact hK 10 _ _ hs (by simp_all [DM.CX])
theorem RN {n:Int} (h:Dk w F db m) (hF:FX F X w) (hn:n<2^63):
  Ct pg 14 #[ptr db 0,I n] w X F λv wa w'=>v= .tuple #[]/\Dk w' F db (if m.dn then m else { m with ar:=n.toNat }):=by
 intro w0 hk;obtain⟨mb,l,h0,hz⟩:=h.mv (hF.mv hk);have hT:=hF.ft hk;have fY:=h0.box.mv (Mv.sub hT.bo);have hs:=ai.init w0;refine Qa.1 λ_=>?_;cases jQ:m.dn
 ·rw[jQ] at fY;repeat' first|refine ao ?_;intros|(refine aqm ?_)
  refine yc hT h0 (λ_ h=>h) { m with ar:=n.toNat } m.sz (o:=3) zQ kQ zQ rfl (by rw[show((n.toNat:Nat):Int)=max n 0 by omega];rfl) rfl (by show n.toNat<_;omega) λw1 X1 eh h1 c1=>?_;refine eh.fin λwa aK=>⟨rfl,?_⟩;rw[if_neg Bool.false_ne_true];have h2:=h1.mv (aK.je eh.bo);rw[jQ] at h2;exact⟨mb,l,h2,hz⟩
 ·rw[jQ] at fY;repeat' refine ao ?_;intros
  exact hT.fin λwa aK=>⟨rfl,mb,l,h0.mv (aK.je hT.bo),hz⟩
theorem al3:Ct pg 119 #[.map (some mb)] w X nX λv wa w'=> ∃bx,v= .func (.func 173) #[] #[ptr bx 0]/\aI w' (made wa w') bx [.map (some mb)] 109:=by
 intro w0 hk;refine qZ.1 λhs=>?_;refine uv rfl hs.has λbx w1 X1 fY ay br=>?_;repeat' refine ao ?_;intros
 exact bQ ay λwa aK=>⟨bx,rfl,⟨fY,(br.kp aK).lt⟩,(br.kp aK).2⟩
theorem al4:Ct pg 169 #[.map (some mb)] w X nX λv wa w'=> ∃bx,v= .func (.func 239) #[] #[ptr bx 0]/\aI w' (made wa w') bx [.map (some mb)] 287:=by
 intro w0 hk;refine ri.1 λhs=>?_;refine uv rfl hs.has λbx w1 X1 fY ay br=>?_;repeat' refine ao ?_;intros
 exact bQ ay λwa aK=>⟨bx,rfl,⟨fY,(br.kp aK).lt⟩,(br.kp aK).2⟩
variable {bx : Nat}
theorem aha {α:Type} {rd:World->XS->Value->α->Prop} {l:List (ByteArray×α)} (h:dL w X A mb aP rd l) (hb:aI w X bx [.map (some mb)] 109)
  (hs: ∀x∈l,x.1.size<=2^40) (hl:l.length<=2^40):
  Ct pg 118 #[.func (.func 173) #[] #[ptr bx 0]] w X nX λv wa w'=>Own w' (made wa w') wa.heap.size 9 1 v ((fQ (l.map (·.1))).map S1):=
 Qs h kQ hs hl λwa hk nn D0 xS=>
  AnyZ.keys_gives (ρ:=Tryz.VI) { Tryz.aqh with } gg _ trivial rfl zQ bx mb nn D0 wa (hb.kp hk).lt (by have:=(hb.kp hk).2;simp[fp,this]) xS
theorem ahb {α:Type} {rd:World->XS->Value->α->Prop} {l:List (ByteArray×α)} (h:dL w X A mb aP rd l) (hb:aI w X bx [.map (some mb)] 287)
  (hs: ∀x∈l,x.1.size<=2^40) (hl:l.length<=2^40):
  Ct pg 118 #[.func (.func 239) #[] #[ptr bx 0]] w X nX λv wa w'=>Own w' (made wa w') wa.heap.size 9 1 v ((fQ (l.map (·.1))).map S1):=
 Qs h kQ hs hl λwa hk nn D0 xS=>
  AnyZ.keys_gives (ρ:=Tryz.VJ) { Tryz.aqi with } gg _ trivial rfl zQ bx mb nn D0 wa (hb.kp hk).lt (by have:=(hb.kp hk).2;simp[fp,this]) xS
theorem OU (h:Dk w F db m) (hF:FX F X w) (hs: ∀x∈m.fs,x.1.size<=2^40) (hl:m.fs.length<=2^40):
  Ct pg 71 #[ptr db 0] w X nX λv wa w'=>Own w' (made wa w') wa.heap.size 9 1 v ((fQ (m.fs.map (·.1))).map S1):=by
 intro w0 hk;obtain⟨mb,l,h0,hz⟩:=h.mv (hF.mv hk);have hX:=λk ah=>(hF.kp hk k ah).1;have hb:=h0.box.mv (Mv.sub hX);have hm:=h0.map.mv mj (Mv.sub hX) (A':=nX) λ_ h=>h.elim;have OZ:=h0.fs;refine Oa.1 λ_=>?_;have gn:=ai.init w0;repeat' refine ao ?_;intros
 refine cA al3 kQ gn.has ?_;rintro _ wa w1 X1 ⟨bx,rfl,br⟩ hle gu ay;have qy:=hm.mv mj ay.mv (A':=nX) λ_ h=>h.elim;refine cA (aha qy (br.mono gu) (λx hx=>hs (x.1,x.2.er) (by rw[OZ];exact List.mem_map.2 ⟨x,hx,rfl⟩)) (by rw[OZ,af] at hl;exact hl)) kQ ay.has ?_;rintro v xQ w2 X2 ho lD kh bA;have YV:=ay.kp.size;refine bQ (ay.trans bA) λIi aK=>?_;have jV:Own w2 X2 w0.heap.size 9 1 v ((fQ (l.map (·.1))).map S1):=ho.up kh zQ;have e:m.fs.map (·.1)=l.map (·.1):=by rw[OZ,bw];rfl
 rw[e];exact(jV.kp aK).tight
structure ju where
 code:Int
 key:BA
 val:gK
abbrev ju.l (o:ju):List Value:=[I o.code,.string o.key,I o.val.kind,.float .f64 o.val.num,.string o.val.text]
def JL (c:Int):Int:=if c<1\/15<c then 0 else if c=4 then 2 else if c<=3 then 1 else 0
def tV (c:Int):Int:=if c<1\/15<c then 0 else if c=1\/c=3\/c=4 then 0 else if c=2\/c=13\/c=14 then 1 else 2
def B7 (c:Int):Int:=if c<1\/15<c then 0 else if c=2\/c=3\/c=13 then 0 else if c=14\/c=15 then 2 else 1
def ajX (c:Int):BA:=if c=1 then⟨#[103,101,116]⟩else if c=2 then⟨#[112,117,116]⟩else if c=3 then⟨#[100,114,111,112]⟩else if c=4 then⟨#[112,117,115,104]⟩else if c=5 then⟨#[97,100,100]⟩else if c=6 then⟨#[115,117,98]⟩else if c=7 then⟨#[109,117,108]⟩else if c=8 then⟨#[100,105,118]⟩
 else if c=9 then⟨#[109,105,110]⟩else if c=10 then⟨#[109,97,120]⟩else if c=11 then⟨#[108,101,115,115]⟩else if c=12 then⟨#[115,97,109,101]⟩else if c=13 then⟨#[110,101,101,100]⟩else if c=14 then⟨#[100,117,112]⟩else if c=15 then⟨#[115,119,97,112]⟩else⟨#[]⟩
abbrev Xj (c:Int):List Value:=[.string (ajX c),I (JL c),I (tV c),I (B7 c)]
abbrev ahc:List Value:=[.string ⟨#[]⟩,I 0,I 0,I 0,.string ⟨#[103,101,116]⟩,I 1,I 0,I 1,.string ⟨#[112,117,116]⟩,I 1,I 1,I 0,.string ⟨#[100,114,111,112]⟩,I 1,I 0,I 0,.string ⟨#[112,117,115,104]⟩,I 2,I 0,I 1,
 .string ⟨#[97,100,100]⟩,I 0,I 2,I 1,.string ⟨#[115,117,98]⟩,I 0,I 2,I 1,.string ⟨#[109,117,108]⟩,I 0,I 2,I 1,.string ⟨#[100,105,118]⟩,I 0,I 2,I 1,.string ⟨#[109,105,110]⟩,I 0,I 2,I 1,.string ⟨#[109,97,120]⟩,I 0,I 2,I 1,
 .string ⟨#[108,101,115,115]⟩,I 0,I 2,I 1,.string ⟨#[115,97,109,101]⟩,I 0,I 2,I 1,.string ⟨#[110,101,101,100]⟩,I 0,I 1,I 0,.string ⟨#[100,117,112]⟩,I 0,I 1,I 2,.string ⟨#[115,119,97,112]⟩,I 0,I 2,I 2]
theorem M4:Pure pg 228 #[] (.agg ahc.toArray):=by
 intro w0;refine Wn.1 λhs=>?_;repeat' first|refine ao ?_;intros|(with_reducible refine fG hs ?_);rfl
theorem ajY (c:Int) (h:1<=c/\c<=15) (wa:World):(Fc 367 16 277 (.agg ahc.toArray) (I c)).run pg wa= .ok (.agg (Xj c).toArray) wa:=by
 have h:c=1\/c=2\/c=3\/c=4\/c=5\/c=6\/c=7\/c=8\/c=9\/c=10\/c=11\/c=12\/c=13\/c=14\/c=15:=by omega
 rcases h with rfl|rfl|rfl|rfl|rfl|rfl|rfl|rfl|rfl|rfl|rfl|rfl|rfl|rfl|rfl<;>(show _=_;kernel_rfl)
theorem ahd (c:Int):Pure pg 158 #[I c] (.tuple #[.agg (Xj c).toArray,B (decide (1<=c/\c<=15))]):=by
 intro w0;by_cases hc:1<=c/\c<=15
 ·rw[decide_eq_true hc];refine Si.1 λhs=>?_;repeat' first|refine ao ?_;intros|refine cP ?_ ?_<;>intros|(refine pH M4 hs ?_;intro w X hs)|(exfalso;omega)|(with_reducible refine fG hs ?_);rfl|(refine bB (ajY c hc) ?_)
 ·have hz:Xj c=[.string ⟨#[]⟩,I 0,I 0,I 0]:=by
   have h1:JL c=0:=by unfold JL;rw[if_pos zQ]
   have h2:tV c=0:=by unfold tV;rw[if_pos zQ]
   have h3:B7 c=0:=by unfold B7;rw[if_pos zQ]
   have h4:ajX c=⟨#[]⟩:=by
    unfold ajX;repeat rw[if_neg zQ]
   simp only[Xj,h1,h2,h3,h4]
  rw[decide_eq_false hc,hz];refine Si.1 λhs=>?_;repeat' first|refine ao ?_;intros|refine cP ?_ ?_<;>intros|(refine pH M4 hs ?_;intro w X hs)|(exfalso;omega)|(with_reducible refine fG hs ?_);rfl
def Gl (o:ju) (n:Int):Bool:=
 if(n=1/\iM o.key=false)\/(n≠1/\o.key≠⟨#[]⟩)then false else if n=2 then o.val.may else decide (o.val.kind=0/\o.val.text=⟨#[]⟩/\o.val.num=0)
theorem acb (o:ju) (n:Int):Pure pg 159 #[.agg o.l.toArray,I n] (B (Gl o n)):=by
 intro w0;refine aac.1 λhs=>?_;repeat' first|refine ao ?_;intros|refine cP ?_ ?_<;>intros|with_reducible apply cJ|(refine kn (lz _) hs ?_ ?_<;>intro _ w X hs)|(refine kn (mu _) hs ?_ ?_<;>intro _ w X hs)|(with_reducible refine fG hs ?_);(simp_all [Gl])|((with_reducible refine DJ (AR _) hs.has ?_);intro w X ay;replace hs:=hs.trans ay)
theorem al5:Ct pg 231 #[.map (some mb)] w X nX λv wa w'=> ∃bx,v= .func (.func 306) #[] #[ptr bx 0]/\aI w' (made wa w') bx [.map (some mb)] 370:=by
 intro w0 hk;refine wW.1 λhs=>?_;refine uv rfl hs.has λbx w1 X1 fY ay br=>?_;repeat' refine ao ?_;intros
 exact bQ ay λwa aK=>⟨bx,rfl,⟨fY,(br.kp aK).lt⟩,(br.kp aK).2⟩
theorem ahe {α:Type} {rd:World->XS->Value->α->Prop} {l:List (ByteArray×α)} (h:dL w X A mb aP rd l) (hb:aI w X bx [.map (some mb)] 370)
  (hs: ∀x∈l,x.1.size<=2^40) (hl:l.length<=2^40):
  Ct pg 118 #[.func (.func 306) #[] #[ptr bx 0]] w X nX λv wa w'=>Own w' (made wa w') wa.heap.size 9 1 v ((fQ (l.map (·.1))).map S1):=
 Qs h kQ hs hl λwa hk nn D0 xS=>
  AnyZ.keys_gives (ρ:=Tryz.VK) { Tryz.aqj with } gg _ trivial rfl zQ bx mb nn D0 wa (hb.kp hk).lt (by have:=(hb.kp hk).2;simp[fp,this]) xS
def rdN:World->XS->Value->Int->Prop:=λ_ _ v x=>v=I x
def aaL:qG rdN:=λ_ _ _ _ _ _ h _=>h
def kY (a b:Int) (t:List (BA×Int)) (o:ju):List (BA×Int):=if(o.code=a\/o.code=b)/\iM o.key=true then cI o.key ((getM o.key t).getD 0+1) t else t
def fj (a b:Int) (p:List ju):List BA:=fQ ((p.foldl (kY a b) []).map (·.1))
theorem Ff (a b:Int): ∀(p:List ju) (t:List (BA×Int)) (n:Nat),(t.map (·.1)).Nodup->(∀x∈t,0<=x.2/\x.2<=n/\x.1.size<=24)->t.length<=n->
  ((p.foldl (kY a b) t).map (·.1)).Nodup/\(∀x∈p.foldl (kY a b) t,0<=x.2/\x.2<=(n+p.length:Nat)/\x.1.size<=24)/\(p.foldl (kY a b) t).length<=n+p.length
 |[],t,n,h1,h2,h3=>⟨h1,λx hx=>h2 x hx,h3⟩
 |o::p,t,n,h1,h2,h3=>by
  have fO:((kY a b t o).map (·.1)).Nodup/\(∀x∈kY a b t o,0<=x.2/\x.2<=(n+1:Nat)/\x.1.size<=24)/\(kY a b t o).length<=n+1:=by
   unfold kY;split
   ·rename_i hc;have hg:o.key.size<=24:=by have:=hc.2;unfold iM at this;simp at this;omega
    refine⟨QY h1,λx hx=>?_,?_⟩
    ·rcases mK h1 hx with rfl|⟨hx,_⟩
     ·have:0<=(getM o.key t).getD 0/\(getM o.key t).getD 0<=n:=by
       cases Rn:getM o.key t with
       |none=>simp
       |some y=>have:=h2 _ (gL Rn);exact⟨this.1,this.2.1⟩
      exact⟨by simp only;omega,by simp only;omega,hg⟩
     ·have:=h2 x hx;exact⟨this.1,by omega,this.2.2⟩
    ·have hlp:(cI o.key ((getM o.key t).getD 0+1) t).length=((cI o.key ((getM o.key t).getD 0+1) t).map (·.1)).length:=by simp
     rw[hlp,yf];split<;>simp<;>omega
   ·exact⟨h1,λx hx=>by have:=h2 x hx;exact⟨this.1,by omega,this.2.2⟩,by omega⟩
  have:=Ff a b p _ (n+1) fO.1 fO.2.1 fO.2.2;rw[List.foldl_cons,List.length_cons];exact⟨this.1,λx hx=>by have:=this.2.1 x hx;exact⟨this.1,by omega,this.2.2⟩,by omega⟩
theorem aoO {t:List (BA×Int)} {k:BA} (h:dL w X nX mb (λk:BA=>aP k) rdN t) (n:N (I ((getM k t).getD 0))):aX pg X w (Instr.lookup 370 (.map (some mb)) (.string k) false) N:=by
 refine mZ (kt:=9) (et:=3) (kv:=λk:BA=>aP k) (I 0) h yF kQ kQ (λv a hg hv=>?_) (λhg=>?_)
 ·simp only[rdN] at hv;subst hv;rw[hg] at n;exact n
 ·rw[hg] at n;exact n
variable {p : List ju} {a : Value}
theorem M5 {ca cb:Int} (ha:Sl w X 5 a (p.map ju.l)) (hl:p.length<=2^30):
  Ct pg 165 #[a,I ca,I cb] w X nX λv wa w'=>Own w' (made wa w') wa.heap.size 9 1 v ((fj ca cb p).map S1):=by
 intro w0 hk;replace ha:=ha.mv hk.cd;have kV:=ha.gN;refine Wl.1 λhs=>?_;refine rA (kv:=λk:BA=>aP k) rdN nX hs.has λmb w1 X1 hmb ay qy=>?_;replace hs:=hs.trans ay;have rT:=ha.mv hs.mv;repeat' refine ao ?_;intros
 refine eI (λn a w X=> ∃i:Nat,a=I i/\n=p.length-i/\i<=p.length/\ai (bN w0) w0 X w/\dL w X nX mb (λk:BA=>aP k) rdN ((p.take i).foldl (kY ca cb) [])) p.length ⟨0,rfl,rfl,Nat.zero_le _,hs,qy⟩ ?_;clear hs ay qy rT;rintro n _ w X ⟨i,rfl,rfl,hi,hs,hm⟩;have rT:=ha.mv hs.mv;have kz:=Ff (a:=ca) (b:=cb) (p.take i) [] 0 sQ sQ sQ;have hli:(p.take i).length=i:=by rw[List.length_take];omega
 rw[hli] at kz;rcases dD (p) i with⟨cx,o,hx,hd⟩|⟨dA,hd⟩
 ·have fO:(p.take (i+1)).foldl (kY ca cb) []=kY ca cb ((p.take i).foldl (kY ca cb) []) o:=by rw[List.take_add_one,hx,List.foldl_append];rfl
  generalize (p.take i).foldl (kY ca cb) []=t at fO hm kz;have akN: ∀{w X},ai (bN w0) w0 X w->dL w X nX mb (λk:BA=>aP k) rdN t->kY ca cb t o=t->Gz (J1 λn a w X=> ∃i:Nat,a=I i/\n=p.length-i/\i<=p.length/\ai (bN w0) w0 X w/\dL w X nX mb (λk:BA=>aP k) rdN ((p.take i).foldl (kY ca cb) [])) (p.length-i) (I ((i:Int)+1)) w X:=
   λq1 q2 q3=>dS (p.length-(i+1)) zQ ⟨i+1,by simp,rfl,by omega,q1,by rw[fO,q3];exact q2⟩
  by_cases hc:o.code=ca\/o.code=cb
  ·repeat' first|refine aL ?_;intros|refine cP ?_ ?_<;>intros|with_reducible apply cJ
   all_goals
    refine rV (lz o.key) kQ hs.has λw2 X2 bA=>?_;have rC:=hm.mv aaL bA.mv (λ_ h=>h.elim) (A':=nX);have dm:=hs.trans bA;by_cases hg:iM o.key=true
    ·rw[hg];have hN:kY ca cb t o=cI o.key ((getM o.key t).getD 0+1) t:=by unfold kY;rw[if_pos ⟨hc,hg⟩]
     have Vb:0<=(getM o.key t).getD 0/\(getM o.key t).getD 0<=i:=by
      cases Rn:getM o.key t with
      |none=>simp
      |some y=>have:=kz.2.1 _ (gL Rn);exact⟨this.1,by have:=this.2.1;simp at this⊢;omega⟩
     repeat' refine ao ?_;intros
     refine aoO rC ?_;repeat' refine ao ?_;intros
     refine vK (kv:=λk:BA=>aP k) (k:=o.key) (a:=(getM o.key t).getD 0+1) (kt:=9) (et:=3) rC aaL rfl (λ_ h=>h.elim) yF kQ dm.has λw4 X4 c4 A6=>?_;have fV:ai (bN w0) w0 X4 w4:=dm.ea c4 λg hg e=>by have:g<w0.heap.size:=hg;omega
     repeat' first|refine ao ?_;intros|((with_reducible refine dS ((p).length-(i+1)) ?_ ?_);omega;exact⟨i+1,by simp,rfl,by omega,fV,by rw[fO,hN];exact A6⟩)
    ·rw[Bool.eq_false_iff.2 hg];have hN:kY ca cb t o=t:=by unfold kY;rw[if_neg (λh=>hg h.2)]
     repeat' first|refine ao ?_;intros|(exact akN dm rC hN)
  ·have hN:kY ca cb t o=t:=by unfold kY;rw[if_neg (λh=>hc h.1)]
   repeat' first|refine aL ?_;intros|with_reducible apply cJ|(exact akN hs hm hN)
 ·rw[List.take_of_length_le dA] at hm kz;repeat' refine aL ?_;intros
  refine cA al5 kQ hs.has ?_;rintro _ wa w2 X2 ⟨bx,rfl,hb⟩ hle gu bA;have rC:=hm.mv aaL bA.mv (λ_ h=>h.elim) (A':=nX);have M6:=hs.trans bA;refine cA (ahe rC (hb.mono gu) (λe he=>by have:=kz.2.1 e he;omega) zQ) kQ M6.has ?_;rintro vs wb w3 X3 ho qS mN dm;have hz:=M6.kp.size;have xp:Own w3 X3 w0.heap.size 9 1 vs ((fQ ((p.foldl (kY ca cb) []).map (·.1))).map S1):=ho.up mN zQ;exact bQ (M6.trans dm) λIi aK=>(xp.kp aK).tight
theorem Bv (ha:Sl w X 5 a (p.map ju.l)) (hl:p.length<=2^30):
  Ct pg 112 #[a] w X nX λv wa w'=>Own w' (made wa w') wa.heap.size 9 1 v ((fj 1 1 p).map S1):=by
 intro w0 hk;replace ha:=ha.mv hk.cd;have hs:=ai.init w0;refine Wg.1 λ_=>?_;refine cA (M5 ha hl) kQ hs.has ?_;rintro v wa w1 X1 ho hle gu ay;exact bQ (hs.trans ay) λIi aK=>((ho.up gu hle).kp aK).tight
theorem aaM (ha:Sl w X 5 a (p.map ju.l)) (hl:p.length<=2^30):
  Ct pg 160 #[a] w X nX λv wa w'=>Own w' (made wa w') wa.heap.size 9 1 v ((fj 2 3 p).map S1):=by
 intro w0 hk;replace ha:=ha.mv hk.cd;have hs:=ai.init w0;refine Wk.1 λ_=>?_;refine cA (M5 ha hl) kQ hs.has ?_;rintro v wa w1 X1 ho hle gu ay;exact bQ (hs.trans ay) λIi aK=>((ho.up gu hle).kp aK).tight
def zp:List ju->Int->Int
 |[],_=>0
 |o::r,h=>if¬(1<=o.code/\o.code<=15)then 7 else if Gl o (JL o.code)=false then 4 else if h<tV o.code then 5 else if h+(B7 o.code-tV o.code)>16 then 2 else zp r (h+(B7 o.code-tV o.code))
def ny (p:List ju):Int:=if 40<p.length then 3 else if zp p 0≠0 then zp p 0 else if 16<(fj 1 1 p).length\/16<(fj 2 3 p).length then 3 else 0
theorem afu (c:Int):0<=tV c/\tV c<=2/\0<=B7 c/\B7 c<=2:=by
 unfold tV B7;split
 ·simp
 ·constructor
  ·split;simp;split<;>simp
  ·constructor
   ·split;simp;split<;>simp
   ·split;simp;split<;>simp
theorem Lx (ha:Sl w X 5 a (p.map ju.l)):Ct pg 109 #[a] w X nX λv _ _=>v=I (ny p):=by
 intro w0 hk;replace ha:=ha.mv hk.cd;have kV:=ha.gN;refine Wf.1 λhs=>?_;by_cases hl:40<p.length
 ·repeat' first|refine aL ?_;intros|(refine qr ?_;intro wa hk;(unfold ny;rw[if_pos hl]))
 ·repeat' refine aL ?_;intros
  refine gO (λn a b w X=> ∃(i:Nat) (h:Int),a=I i/\b=I h/\0<=h/\h<=16/\n=p.length-i/\i<=p.length/\ai (bN w0) w0 X w/\zp p 0=zp (p.drop i) h) p.length ⟨0,0,rfl,rfl,by omega,by omega,rfl,Nat.zero_le _,hs,rfl⟩ ?_;clear hs;rintro n _ _ w X ⟨i,h,rfl,rfl,h0,h1,rfl,hi,hs,hw⟩;have rT:=ha.mv hs.mv;rcases dD (p) i with⟨cx,o,hx,hd⟩|⟨dA,hd⟩
  ·rw[hd,zp] at hw;have hb:=afu o.code;repeat' refine aL ?_;intros
   refine rV (ahd o.code) kQ hs.has λw1 X1 ay=>?_;replace hs:=hs.trans ay;clear rT ay;by_cases hc:1<=o.code/\o.code<=15
   ·rw[if_neg (λh=>h hc)] at hw;rw[decide_eq_true hc];repeat' first|refine ao ?_;intros|refine cP ?_ ?_<;>intros|(refine kn (acb _ _) hs ?_ ?_<;>intro _ w X hs)|((with_reducible refine fZ ((p).length-(i+1)) ?_ ?_);omega;exact⟨i+1,_,by simp,rfl,by omega,by omega,rfl,by omega,hs,by simp_all⟩)|(refine qr ?_;intro wa hk;(unfold ny;rw[if_neg hl];simp_all))
    done
   ·rw[if_pos hc] at hw;rw[decide_eq_false hc];repeat' first|refine ao ?_;intros|(refine qr ?_;intro wa hk;(unfold ny;rw[if_neg hl,hw];rfl))
  ·rw[hd,zp] at hw;repeat' refine aL ?_;intros
   refine cA (Bv rT zQ) kQ hs.has ?_;rintro v1 wa w1 X1 vu hle gu ay;have ha2:=rT.since ay;have CB:=(vu.mono gu).sl;have bA:=hs.trans ay;clear hs ay rT;by_cases hr:16<(fj 1 1 p).length
   ·have hc:ny p=3:=by unfold ny;rw[if_neg hl,if_neg zQ,if_pos (.inl hr)]
    have hs:=bA;repeat' first|refine aL ?_;intros|with_reducible apply cJ|(refine qr ?_;intro wa hk;(rw[hc]))
    done
   ·have hs:=bA;repeat' first|refine aL ?_;intros|with_reducible apply cJ
    refine cA (aaM ha2 zQ) kQ bA.has ?_;rintro v3 wb w3 X3 Ze qS mN dm;have adG:=(Ze.mono mN).sl;replace hs:=bA.trans dm;by_cases hn:16<(fj 2 3 p).length
    ·have hc:ny p=3:=by unfold ny;rw[if_neg hl,if_neg zQ,if_pos (.inr hn)]
     repeat' first|refine aL ?_;intros|(refine qr ?_;intro wa hk;(rw[hc]))
    ·have hc:ny p=0:=by unfold ny;rw[if_neg hl,if_neg zQ,if_neg (λh=>h.elim hr hn)]
     repeat' first|refine aL ?_;intros|(refine qr ?_;intro wa hk;(rw[hc]))
end Go.Proofs.YtgfijddlkhkopaaGreat