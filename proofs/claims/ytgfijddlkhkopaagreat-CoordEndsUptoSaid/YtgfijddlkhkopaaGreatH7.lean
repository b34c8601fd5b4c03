/-
 Part 7 of the proof: what the last text leans on.
-/
import Derived.Shelf.SlIter.Nil
import Derived.Shelf.SlIterI.Nil
import Derived.Shelf.SortM.Plain
import Derived.Shelf.SortM.SortNone
import Derived.Shelf.SlSortCmp.WholeK
import Derived.Ground.GgzProg
import Derived.Ground.SlgmProg
import Derived.Ground.SlsfProg
import Derived.Shelf.SlGeneric
import Derived.Test.YtgfijddlkhkopaaGreatProg
import Derived.Test.YtgfijddlkhkopaaGreatH6
open Go.Value renaming string → aP
open List renaming map_map → bB, length_map → ai, length → az, mergeSort_perm → sW, map_congr_left → ey, toList_toArray → cL, pairwise_mergeSort → vf, length_append → aa
open Bool renaming false_eq_true → aY
open Go.Shelf renaming Ren → iP
open Go.Fence renaming wide → gf
open Go.DataW renaming insert → vN
open Nat renaming lt_of_lt_of_le → av
open Go.Proofs.SlLaysZ renaming n7 → sk, n6 → Gb
open List.Perm renaming refl → ye
open Go.WideElems renaming rg → nf, rd → su
open Function renaming comp_def → jS
open Go.World renaming cell? → fq
open Go.Builtin renaming len_ → na, max_ → lz, max2 → sw
open Go.Proofs.SlLaysM renaming n6 → Gc, n5 → Ge
open Go.Proofs.SlLaysZI renaming n6 → EE, n7 → EF
namespace Go.Proofs
open Go.Proofs.Tryz renaming prog → pg
open Go.Shelf
def Tryz.OW:iP:=⟨fun|6=>118|8=>172|9=>114|11=>249|13=>143|12=>170|23=>210|24=>211|14=>240|15=>241|16=>242|17=>243|18=>244|19=>245|20=>246|21=>247|22=>248|25=>311|26=>283|27=>284|28=>312|29=>313|30=>314|31=>356|n=>n,fun|26=>9|28=>216|24=>40|0=>0|3=>3|37=>263|48=>351|50=>264|4=>4|40=>344|39=>343|45=>348|5=>5|9=>9|51=>411|55=>317|57=>466|58=>467|33=>282|n=>n,fun|n=>n⟩
theorem Tryz.akR:Gb pg Tryz.OW:= {
 mixed:=by kernel_rfl
 f6:=⟨Tryz.f118.name,by decide,Tryz.func118.trans Go.aG.kS⟩
 f8:=⟨Tryz.f172.name,by decide,Tryz.func172.trans Go.aG.kS⟩
 f11:=⟨Tryz.f249.name,by decide,Tryz.func249.trans Go.aG.kS⟩
 t0:=Tryz.underlying0
 a0:=Tryz.isAgg0
 z0:=Tryz.sizeOf0
 v0:=Tryz.zeroValue0
 t24:=Tryz.underlying40
 a24:=Tryz.isAgg40
 z24:=Tryz.sizeOf40
 v24:=Tryz.zeroValue40
 t26:=Tryz.underlying9
 a26:=Tryz.isAgg9
 z26:=Tryz.sizeOf9
 v26:=Tryz.zeroValue9
 t28:=Tryz.underlying216
 a28:=Tryz.isAgg216
 z28:=Tryz.sizeOf216
 v28:=Tryz.zeroValue216
 i26:=by kernel_rfl }
def Tryz.agh:iP:=⟨fun|6=>114|8=>143|9=>170|19=>210|20=>211|21=>240|22=>241|23=>242|24=>243|25=>244|26=>245|27=>246|28=>247|29=>248|36=>311|31=>283|32=>284|37=>312|38=>313|39=>314|41=>356|n=>n,fun|27=>40|29=>9|3=>3|32=>263|26=>40|0=>0|44=>351|46=>264|4=>4|36=>344|35=>343|41=>348|5=>5|9=>9|53=>411|57=>317|63=>466|64=>467|n=>n,fun|n=>n⟩
theorem Tryz.V3:Gc pg Tryz.agh:= {
 mixed:=by kernel_rfl
 f6:=⟨Tryz.f114.name,by decide,Tryz.func114.trans Go.aG.kS⟩
 f8:=Tryz.func143.trans Go.aG.kS
 f9:=⟨Tryz.f170.name,by decide,Tryz.func170.trans Go.aG.kS⟩
 f19:=Tryz.func210.trans Go.aG.kS
 f20:=Tryz.func211.trans Go.aG.kS
 f21:=⟨Tryz.f240.name,by decide,Tryz.func240.trans Go.aG.kS⟩
 f22:=⟨Tryz.f241.name,by decide,Tryz.func241.trans Go.aG.kS⟩
 f23:=⟨Tryz.f242.name,by decide,Tryz.func242.trans Go.aG.kS⟩
 f24:=⟨Tryz.f243.name,by decide,Tryz.func243.trans Go.aG.kS⟩
 f25:=⟨Tryz.f244.name,by decide,Tryz.func244.trans Go.aG.kS⟩
 f26:=⟨Tryz.f245.name,by decide,Tryz.func245.trans Go.aG.kS⟩
 f27:=⟨Tryz.f246.name,by decide,Tryz.func246.trans Go.aG.kS⟩
 f28:=⟨Tryz.f247.name,by decide,Tryz.func247.trans Go.aG.kS⟩
 f29:=⟨Tryz.f248.name,by decide,Tryz.func248.trans Go.aG.kS⟩
 f31:=Tryz.func283.trans Go.aG.kS
 f32:=Tryz.func284.trans Go.aG.kS
 f36:=⟨Tryz.f311.name,by decide,Tryz.func311.trans Go.aG.kS⟩
 f37:=⟨Tryz.f312.name,by decide,Tryz.func312.trans Go.aG.kS⟩
 f38:=⟨Tryz.f313.name,by decide,Tryz.func313.trans Go.aG.kS⟩
 f39:=⟨Tryz.f314.name,by decide,Tryz.func314.trans Go.aG.kS⟩
 f41:=⟨Tryz.f356.name,by decide,Tryz.func356.trans Go.aG.kS⟩
 t0:=Tryz.underlying0
 a0:=Tryz.isAgg0
 z0:=Tryz.sizeOf0
 v0:=Tryz.zeroValue0
 t3:=Tryz.underlying3
 a3:=Tryz.isAgg3
 z3:=Tryz.sizeOf3
 v3:=Tryz.zeroValue3
 t4:=Tryz.underlying4
 a4:=Tryz.isAgg4
 z4:=Tryz.sizeOf4
 v4:=Tryz.zeroValue4
 t5:=Tryz.underlying5
 a5:=Tryz.isAgg5
 z5:=Tryz.sizeOf5
 v5:=Tryz.zeroValue5
 t9:=Tryz.underlying9
 a9:=Tryz.isAgg9
 z9:=Tryz.sizeOf9
 v9:=Tryz.zeroValue9
 t26:=Tryz.underlying40
 a26:=Tryz.isAgg40
 z26:=Tryz.sizeOf40
 v26:=Tryz.zeroValue40
 t27:=Tryz.underlying40
 a27:=Tryz.isAgg40
 z27:=Tryz.sizeOf40
 v27:=Tryz.zeroValue40
 t29:=Tryz.underlying9
 a29:=Tryz.isAgg9
 z29:=Tryz.sizeOf9
 v29:=Tryz.zeroValue9
 t32:=Tryz.underlying263
 a32:=Tryz.isAgg263
 z32:=Tryz.sizeOf263
 v32:=Tryz.zeroValue263
 t35:=Tryz.underlying343
 a35:=Tryz.isAgg343
 z35:=Tryz.sizeOf343
 v35:=Tryz.zeroValue343
 t36:=Tryz.underlying344
 a36:=Tryz.isAgg344
 z36:=Tryz.sizeOf344
 v36:=Tryz.zeroValue344
 t41:=Tryz.underlying348
 a41:=Tryz.isAgg348
 z41:=Tryz.sizeOf348
 v41:=Tryz.zeroValue348
 t44:=Tryz.underlying351
 a44:=Tryz.isAgg351
 z44:=Tryz.sizeOf351
 v44:=Tryz.zeroValue351
 t46:=Tryz.underlying264
 a46:=Tryz.isAgg264
 z46:=Tryz.sizeOf264
 v46:=Tryz.zeroValue264
 t53:=Tryz.underlying411
 a53:=Tryz.isAgg411
 z53:=Tryz.sizeOf411
 v53:=Tryz.zeroValue411
 t57:=Tryz.underlying317
 a57:=Tryz.isAgg317
 z57:=Tryz.sizeOf317
 v57:=Tryz.zeroValue317
 t63:=Tryz.underlying466
 a63:=Tryz.isAgg466
 z63:=Tryz.sizeOf466
 v63:=Tryz.zeroValue466
 t64:=Tryz.underlying467
 a64:=Tryz.isAgg467
 z64:=Tryz.sizeOf467
 v64:=Tryz.zeroValue467 }
def Tryz.OX:iP:=⟨fun|6=>120|8=>174|9=>175|11=>250|13=>143|12=>251|23=>210|24=>211|14=>315|15=>316|16=>317|17=>318|18=>319|19=>320|20=>321|21=>322|22=>323|25=>357|26=>283|27=>284|28=>358|29=>359|30=>360|31=>368|n=>n,fun|26=>3|28=>220|24=>43|0=>0|3=>3|37=>263|48=>351|50=>264|4=>4|40=>344|39=>343|45=>348|5=>5|9=>9|51=>411|55=>317|57=>466|58=>467|33=>190|n=>n,fun|n=>n⟩
theorem Tryz.akS:EE pg Tryz.OX:= {
 mixed:=by kernel_rfl
 f6:=⟨Tryz.f120.name,by decide,Tryz.func120.trans Go.aG.kS⟩
 f8:=⟨Tryz.f174.name,by decide,Tryz.func174.trans Go.aG.kS⟩
 f11:=⟨Tryz.f250.name,by decide,Tryz.func250.trans Go.aG.kS⟩
 t0:=Tryz.underlying0
 a0:=Tryz.isAgg0
 z0:=Tryz.sizeOf0
 v0:=Tryz.zeroValue0
 t24:=Tryz.underlying43
 a24:=Tryz.isAgg43
 z24:=Tryz.sizeOf43
 v24:=Tryz.zeroValue43
 t26:=Tryz.underlying3
 a26:=Tryz.isAgg3
 z26:=Tryz.sizeOf3
 v26:=Tryz.zeroValue3
 t28:=Tryz.underlying220
 a28:=Tryz.isAgg220
 z28:=Tryz.sizeOf220
 v28:=Tryz.zeroValue220
 i26:=by kernel_rfl }
def Tryz.agi:iP:=⟨fun|5=>175|8=>143|7=>251|19=>210|20=>211|10=>315|11=>316|12=>317|13=>318|14=>319|15=>320|16=>321|17=>322|18=>323|30=>357|31=>283|32=>284|33=>358|34=>359|35=>360|40=>368|n=>n,fun|23=>43|25=>3|3=>3|32=>263|22=>43|0=>0|44=>351|46=>264|4=>4|36=>344|35=>343|41=>348|5=>5|9=>9|53=>411|57=>317|63=>466|64=>467|n=>n,fun|n=>n⟩
theorem Tryz.ajx:Ge pg Tryz.agi:= {
 mixed:=by kernel_rfl
 f5:=⟨Tryz.f175.name,by decide,Tryz.func175.trans Go.aG.kS⟩
 f7:=⟨Tryz.f251.name,by decide,Tryz.func251.trans Go.aG.kS⟩
 f8:=Tryz.func143.trans Go.aG.kS
 f10:=⟨Tryz.f315.name,by decide,Tryz.func315.trans Go.aG.kS⟩
 f11:=⟨Tryz.f316.name,by decide,Tryz.func316.trans Go.aG.kS⟩
 f12:=⟨Tryz.f317.name,by decide,Tryz.func317.trans Go.aG.kS⟩
 f13:=⟨Tryz.f318.name,by decide,Tryz.func318.trans Go.aG.kS⟩
 f14:=⟨Tryz.f319.name,by decide,Tryz.func319.trans Go.aG.kS⟩
 f15:=⟨Tryz.f320.name,by decide,Tryz.func320.trans Go.aG.kS⟩
 f16:=⟨Tryz.f321.name,by decide,Tryz.func321.trans Go.aG.kS⟩
 f17:=⟨Tryz.f322.name,by decide,Tryz.func322.trans Go.aG.kS⟩
 f18:=⟨Tryz.f323.name,by decide,Tryz.func323.trans Go.aG.kS⟩
 f19:=Tryz.func210.trans Go.aG.kS
 f20:=Tryz.func211.trans Go.aG.kS
 f30:=⟨Tryz.f357.name,by decide,Tryz.func357.trans Go.aG.kS⟩
 f31:=Tryz.func283.trans Go.aG.kS
 f32:=Tryz.func284.trans Go.aG.kS
 f33:=⟨Tryz.f358.name,by decide,Tryz.func358.trans Go.aG.kS⟩
 f34:=⟨Tryz.f359.name,by decide,Tryz.func359.trans Go.aG.kS⟩
 f35:=⟨Tryz.f360.name,by decide,Tryz.func360.trans Go.aG.kS⟩
 f40:=⟨Tryz.f368.name,by decide,Tryz.func368.trans Go.aG.kS⟩
 t0:=Tryz.underlying0
 a0:=Tryz.isAgg0
 z0:=Tryz.sizeOf0
 v0:=Tryz.zeroValue0
 t3:=Tryz.underlying3
 a3:=Tryz.isAgg3
 z3:=Tryz.sizeOf3
 v3:=Tryz.zeroValue3
 t4:=Tryz.underlying4
 a4:=Tryz.isAgg4
 z4:=Tryz.sizeOf4
 v4:=Tryz.zeroValue4
 t5:=Tryz.underlying5
 a5:=Tryz.isAgg5
 z5:=Tryz.sizeOf5
 v5:=Tryz.zeroValue5
 t9:=Tryz.underlying9
 a9:=Tryz.isAgg9
 z9:=Tryz.sizeOf9
 v9:=Tryz.zeroValue9
 t22:=Tryz.underlying43
 a22:=Tryz.isAgg43
 z22:=Tryz.sizeOf43
 v22:=Tryz.zeroValue43
 t23:=Tryz.underlying43
 a23:=Tryz.isAgg43
 z23:=Tryz.sizeOf43
 v23:=Tryz.zeroValue43
 t25:=Tryz.underlying3
 a25:=Tryz.isAgg3
 z25:=Tryz.sizeOf3
 v25:=Tryz.zeroValue3
 t32:=Tryz.underlying263
 a32:=Tryz.isAgg263
 z32:=Tryz.sizeOf263
 v32:=Tryz.zeroValue263
 t35:=Tryz.underlying343
 a35:=Tryz.isAgg343
 z35:=Tryz.sizeOf343
 v35:=Tryz.zeroValue343
 t36:=Tryz.underlying344
 a36:=Tryz.isAgg344
 z36:=Tryz.sizeOf344
 v36:=Tryz.zeroValue344
 t41:=Tryz.underlying348
 a41:=Tryz.isAgg348
 z41:=Tryz.sizeOf348
 v41:=Tryz.zeroValue348
 t44:=Tryz.underlying351
 a44:=Tryz.isAgg351
 z44:=Tryz.sizeOf351
 v44:=Tryz.zeroValue351
 t46:=Tryz.underlying264
 a46:=Tryz.isAgg264
 z46:=Tryz.sizeOf264
 v46:=Tryz.zeroValue264
 t53:=Tryz.underlying411
 a53:=Tryz.isAgg411
 z53:=Tryz.sizeOf411
 v53:=Tryz.zeroValue411
 t57:=Tryz.underlying317
 a57:=Tryz.isAgg317
 z57:=Tryz.sizeOf317
 v57:=Tryz.zeroValue317
 t63:=Tryz.underlying466
 a63:=Tryz.isAgg466
 z63:=Tryz.sizeOf466
 v63:=Tryz.zeroValue466
 t64:=Tryz.underlying467
 a64:=Tryz.isAgg467
 z64:=Tryz.sizeOf467
 v64:=Tryz.zeroValue467 }
def Tryz.UU:iP:=⟨fun|7=>119|10=>173|n=>n,fun|23=>109|26=>9|3=>150|28=>216|0=>0|27=>215|33=>282|4=>4|n=>n,fun|n=>n⟩
theorem Tryz.aoU:sk pg Tryz.UU:= {
 mixed:=by kernel_rfl
 f7:=⟨Tryz.f119.name,by decide,Tryz.func119.trans Go.aG.kS⟩
 f10:=⟨Tryz.f173.name,by decide,Tryz.func173.trans Go.aG.kS⟩
 t0:=Tryz.underlying0
 a0:=Tryz.isAgg0
 z0:=Tryz.sizeOf0
 v0:=Tryz.zeroValue0
 t4:=Tryz.underlying4
 a4:=Tryz.isAgg4
 z4:=Tryz.sizeOf4
 v4:=Tryz.zeroValue4
 t23:=Tryz.underlying109
 a23:=Tryz.isAgg109
 z23:=Tryz.sizeOf109
 v23:=Tryz.zeroValue109
 t26:=Tryz.underlying9
 a26:=Tryz.isAgg9
 z26:=Tryz.sizeOf9
 v26:=Tryz.zeroValue9
 t27:=Tryz.underlying215
 a27:=Tryz.isAgg215
 z27:=Tryz.sizeOf215
 v27:=Tryz.zeroValue215
 t28:=Tryz.underlying216
 a28:=Tryz.isAgg216
 z28:=Tryz.sizeOf216
 v28:=Tryz.zeroValue216
 t33:=Tryz.underlying282
 a33:=Tryz.isAgg282
 z33:=Tryz.sizeOf282
 v33:=Tryz.zeroValue282 }
def Tryz.UW:iP:=⟨fun|7=>169|10=>239|n=>n,fun|23=>287|26=>9|3=>97|28=>216|0=>0|27=>215|33=>282|4=>4|n=>n,fun|n=>n⟩
theorem Tryz.aoV:sk pg Tryz.UW:= {
 mixed:=by kernel_rfl
 f7:=⟨Tryz.f169.name,by decide,Tryz.func169.trans Go.aG.kS⟩
 f10:=⟨Tryz.f239.name,by decide,Tryz.func239.trans Go.aG.kS⟩
 t0:=Tryz.underlying0
 a0:=Tryz.isAgg0
 z0:=Tryz.sizeOf0
 v0:=Tryz.zeroValue0
 t4:=Tryz.underlying4
 a4:=Tryz.isAgg4
 z4:=Tryz.sizeOf4
 v4:=Tryz.zeroValue4
 t23:=Tryz.underlying287
 a23:=Tryz.isAgg287
 z23:=Tryz.sizeOf287
 v23:=Tryz.zeroValue287
 t26:=Tryz.underlying9
 a26:=Tryz.isAgg9
 z26:=Tryz.sizeOf9
 v26:=Tryz.zeroValue9
 t27:=Tryz.underlying215
 a27:=Tryz.isAgg215
 z27:=Tryz.sizeOf215
 v27:=Tryz.zeroValue215
 t28:=Tryz.underlying216
 a28:=Tryz.isAgg216
 z28:=Tryz.sizeOf216
 v28:=Tryz.zeroValue216
 t33:=Tryz.underlying282
 a33:=Tryz.isAgg282
 z33:=Tryz.sizeOf282
 v33:=Tryz.zeroValue282 }
def Tryz.UX:iP:=⟨fun|7=>231|10=>306|n=>n,fun|23=>370|26=>9|3=>3|28=>216|0=>0|27=>215|33=>282|4=>4|n=>n,fun|n=>n⟩
theorem Tryz.aoW:sk pg Tryz.UX:= {
 mixed:=by kernel_rfl
 f7:=⟨Tryz.f231.name,by decide,Tryz.func231.trans Go.aG.kS⟩
 f10:=⟨Tryz.f306.name,by decide,Tryz.func306.trans Go.aG.kS⟩
 t0:=Tryz.underlying0
 a0:=Tryz.isAgg0
 z0:=Tryz.sizeOf0
 v0:=Tryz.zeroValue0
 t4:=Tryz.underlying4
 a4:=Tryz.isAgg4
 z4:=Tryz.sizeOf4
 v4:=Tryz.zeroValue4
 t23:=Tryz.underlying370
 a23:=Tryz.isAgg370
 z23:=Tryz.sizeOf370
 v23:=Tryz.zeroValue370
 t26:=Tryz.underlying9
 a26:=Tryz.isAgg9
 z26:=Tryz.sizeOf9
 v26:=Tryz.zeroValue9
 t27:=Tryz.underlying215
 a27:=Tryz.isAgg215
 z27:=Tryz.sizeOf215
 v27:=Tryz.zeroValue215
 t28:=Tryz.underlying216
 a28:=Tryz.isAgg216
 z28:=Tryz.sizeOf216
 v28:=Tryz.zeroValue216
 t33:=Tryz.underlying282
 a33:=Tryz.isAgg282
 z33:=Tryz.sizeOf282
 v33:=Tryz.zeroValue282 }
def Tryz.UY:iP:=⟨fun|7=>164|10=>230|n=>n,fun|23=>281|26=>3|3=>40|28=>220|0=>0|27=>219|33=>190|4=>4|n=>n,fun|n=>n⟩
theorem Tryz.aoX:EF pg Tryz.UY:= {
 mixed:=by kernel_rfl
 f7:=⟨Tryz.f164.name,by decide,Tryz.func164.trans Go.aG.kS⟩
 f10:=⟨Tryz.f230.name,by decide,Tryz.func230.trans Go.aG.kS⟩
 t0:=Tryz.underlying0
 a0:=Tryz.isAgg0
 z0:=Tryz.sizeOf0
 v0:=Tryz.zeroValue0
 t4:=Tryz.underlying4
 a4:=Tryz.isAgg4
 z4:=Tryz.sizeOf4
 v4:=Tryz.zeroValue4
 t23:=Tryz.underlying281
 a23:=Tryz.isAgg281
 z23:=Tryz.sizeOf281
 v23:=Tryz.zeroValue281
 t26:=Tryz.underlying3
 a26:=Tryz.isAgg3
 z26:=Tryz.sizeOf3
 v26:=Tryz.zeroValue3
 t27:=Tryz.underlying219
 a27:=Tryz.isAgg219
 z27:=Tryz.sizeOf219
 v27:=Tryz.zeroValue219
 t28:=Tryz.underlying220
 a28:=Tryz.isAgg220
 z28:=Tryz.sizeOf220
 v28:=Tryz.zeroValue220
 t33:=Tryz.underlying190
 a33:=Tryz.isAgg190
 z33:=Tryz.sizeOf190
 v33:=Tryz.zeroValue190 }
end Go.Proofs
namespace Go.Proofs.YtgfijddlkhkopaaGreat
open Go.Proofs.Tryz renaming prog → pg
open Go.aG Go.RowKit Go.Maps Go.Sort Go.Shelf Go.Proofs
set_option maxRecDepth 100000
set_option maxHeartbeats 4000000
set_option linter.unusedVariables false
set_option linter.unusedSimpArgs false
variable {H : Type}
theorem insert_perm (x:Lit×DataW H): ∀l:List (Lit×DataW H),(vN x l).Perm (x::l)
 |[]=>ye _
 |y::r=>by
  unfold vN;split
  ·exact ye _
  ·exact((insert_perm x r).cons y).trans (List.Perm.swap x y r)
theorem yf: ∀l:List (Lit×DataW H),(l.foldr vN []).Perm l
 |[]=>ye _
 |x::l=>(insert_perm x _).trans ((yf l).cons x)
def RT:Value->Option (DataW Unit×List MemPlace):=λ_=>some (.lit (.bool true),[])
variable {b kt : Nat} {X : XS} {w : World} {P : Program}
theorem abj {c:Nat} {es:List (jy ByteArray)} (h:mK w X b aP es c) (hk:P.underlying kt=some .string) (hs: ∀x∈es,x.1.size<=2^40) (hl:es.length<=2^40):
  ∃D0:DataW Unit,w.ownsMap P kt RT b es.length D0/\Maps.size D0=es.length/\(strKeys D0).Perm (es.map λx=>x.1.data.toList):=by
 have HO:(2:Nat)^40<=maxLen:=by decide
 have lV: ∀x∈es,keyOf P kt (.string x.1)=some (.string x.1.data.toList):=λx hx=>by
  unfold keyOf mapKey;rw[hk]
  grind
 have jE: ∀x∈es,su P kt RT (lO aP x)=some (.string x.1.data.toList,.lit (.bool true)):=λx hx=>by grind [su,lO,RT]
 have aiL:(es.map (lO aP)).map (nf P kt RT)=es.map λx=>((.string x.1.data.toList:Lit),(.lit (.bool true):DataW Unit)):=by
  rw[bB];apply ey;intro x hx;simp only[Function.comp,nf,jE x hx,Option.getD_some]
 refine⟨.map (((es.map (lO aP)).map (nf P kt RT)).foldr vN []),⟨_,c,h.2.1,⟨?_,⟨?_,?_,?_⟩,?_⟩,by simp,by simp⟩,?_,?_⟩
 ·grind
 ·intro x hx;simp only[cL,List.mem_map] at hx;obtain⟨y,hy,rfl⟩:=hx;exact h.2.2.2.2 y hy
 ·have:=h.2.2.2.1;simpa [bB,jS,lO] using this
 ·have h1:=h.2.2.1;have e:((es.map (lO aP)).toArray.toList.map (·.key))=(es.map (·.1)).map aP:=by simp[bB,jS,lO]
  rw[e];exact List.Pairwise.map aP (λa b wX e=>wX (by cases e;rfl)) h1
 ·intro x hx;simp only[cL,List.mem_map] at hx;obtain⟨y,hy,rfl⟩:=hx;exact⟨_,jE y hy⟩
 ·show az _=_
  rw[(yf _).length_eq];simp
 ·show(List.map _ _).Perm _
  refine((yf _).map _).trans ?_;rw[aiL,bB];rfl
def leB (x y:List UInt8):Bool:=decide (x<=y)
def bl (s:ByteArray):List UInt8:=s.data.toList
theorem aoY (s:ByteArray):(⟨(bl s).toArray⟩:ByteArray)=s:=by rfl
def fL (ks:List ByteArray):List ByteArray:=((ks.map bl).mergeSort leB).map λx=>⟨x.toArray⟩
theorem UZ: ∀a b c:List UInt8,leB a b=true->leB b c=true->leB a c=true:=λa b c h1 h2=>by
 unfold leB at*
 grind
theorem U2: ∀a b:List UInt8,(leB a b||leB b a)=true:=λa b=>by grind [leB]
theorem aiM: ∀a b:List UInt8,leB a b=true->leB b a=true->a=b:=λa b h1 h2=>by
 unfold leB at*
 grind
theorem U3: ∀{l l':List (List UInt8)},l.Perm l'->l.Pairwise (λa b=>leB a b=true)->l'.Pairwise (λa b=>leB a b=true)->l=l'
 |[],l',hp,_,_=>(List.Perm.nil_eq hp)
 |a::l,[],hp,_,_=>absurd hp.length_eq sQ
 |a::l,b::l',hp,h1,h2=>by
  have KJ:=List.pairwise_cons.1 h1;have h2':=List.pairwise_cons.1 h2;have wX:a=b:=by
   have ha:a∈b::l':=hp.mem_iff.1 sQ;have hb:b∈a::l:=hp.mem_iff.2 sQ;rcases List.mem_cons.1 ha with e|ha
   ·exact e
   ·rcases List.mem_cons.1 hb with e|hb
    ·exact e.symm
    ·exact aiM a b (KJ.1 b hb) (h2'.1 a ha)
  subst wX;rw[U3 (List.Perm.cons_inv hp) KJ.2 h2'.2]
theorem U5 {l l':List (List UInt8)} (h:l.Perm l'):l.mergeSort leB=l'.mergeSort leB:=
 U3 (((sW l leB).trans h).trans (sW l' leB).symm) (vf UZ U2 l) (vf UZ U2 l')
theorem kP (ks:List ByteArray):(fL ks).Perm ks:=by
 have h:=(sW (ks.map bl) leB).map λx=>(⟨x.toArray⟩:ByteArray);rw[bB] at h;have e:(ks.map ((λx=>(⟨x.toArray⟩:ByteArray))∘bl))=ks:=by
  conv=>rhs;rw[<-List.map_id ks]
  apply ey;intro x _;exact aoY x
 rw[e] at h;exact h
theorem ahE {ks ks':List ByteArray} (h:ks.Perm ks'):fL ks=fL ks':=by grind [fL,U5]
theorem aiN (m:Nat):AnyZ.SortsIn pg Tryz.OW gf m:=
  ⟨λga off cap ss W hH hblk gd=>callsIn_wide.2 (AnyM.slices_Sort_string Tryz.V3 ga off cap ss W hH hblk gd),
   λp cap W=>callsIn_wide.2 (AnyM.slices_Sort_string_none Tryz.V3 p cap W)⟩
variable {mb : Nat} {A : XS}
theorem PY {g:FuncId} {lb:Array Value} {α:Type} {rd:World->XS->Value->α->Prop} {l:List (ByteArray×α)} (h:dK w X A mb aP rd l) (eg:enters pg g=true)
  (hs: ∀x∈l,x.1.size<=2^40) (hl:l.length<=2^40)
  (hg: ∀wa,Kp X w wa-> ∀(nn:Nat) (D0:DataW Unit),wa.ownsMap pg 9 RT mb nn D0->SeqGives gf 2 pg g lb encStr (λss=>ss.Perm (strKeys D0)) (Maps.size D0) wa):
  Ct pg 118 #[.func (.func g) #[] lb] w X nX λv wa w'=>Own w' (made wa w') wa.heap.size 9 1 v ((fL (l.map (·.1))).map S1):=by
 intro wa hk;obtain⟨es,c,h1,h2⟩:=h;have CH:=h2.keys;have hlen:es.length=l.length:=by have:=congrArg az CH;simpa using this
 obtain⟨D0,xC,gd,RZ⟩:=abj (P:=pg) (h1.kp hk) (kt:=9) kQ (λx hx=>by
  have:x.1∈l.map (·.1):=by rw[<-CH];exact List.mem_map.2 ⟨x,hx,rfl⟩
  obtain⟨y,hy,e⟩:=List.mem_map.1 this
  grind) zQ
 have HO:(2:Nat)^40<=maxLen:=by decide
 have hS:=callsIn_wide.1 (AnyZ.sorted_in Tryz.akR gf 5 trivial trivial trivial trivial rfl zQ (aiN _) (λargs w=>nZ kQ args w) g lb trivial (λargs w=>nZ eg args w) _ _ zQ zQ wa (hg wa hk _ D0 xC));refine hS.mono ?_;rintro e w' ⟨v,ss,rfl,hp,bo,ahB,hb⟩;have hx:Ext wa w':=⟨hb.os,hb.tape,hb.output,hb.size,λk af _=>hb.block k af⟩;refine⟨v,rfl,hx,?_⟩;have e1:ss.mergeSort (λx y=>decide (x<=y))=(l.map λx=>bl x.1).mergeSort leB:=by
  have hp2:ss.Perm (l.map λx=>bl x.1):=by
   refine hp.trans (RZ.trans ?_);have:(es.map λx=>x.1.data.toList)=(l.map λx=>bl x.1):=by
    have:=congrArg (List.map bl) CH;simpa [bB,jS,bl] using this
   rw[this]
  exact U5 hp2
 have e2:((ss.mergeSort (λx y=>decide (x<=y))).map encStr)=((fL (l.map (·.1))).map S1).flatten:=by
  rw[e1];unfold fL;rw[bB,bB];have e3: ∀q:List (List UInt8),q.map encStr=(q.map (S1∘λx=>(⟨x.toArray⟩:ByteArray))).flatten:=λq=>by
   induction q with
   |nil=>rfl
   |cons a q ih=>simp only[List.map_cons,List.flatten_cons,<-ih];rfl
  exact e3 _
 have sH:ss.length=((fL (l.map (·.1))).map S1).length:=by
  rw[ai,(kP _).length_eq,ai,<-hlen];have:=hp.length_eq;rw[this,RZ.length_eq,ai]
 refine⟨λr hr=>by obtain⟨x,_,rfl⟩:=List.mem_map.1 hr;rfl,?_,λq hq=>⟨?_,?_⟩⟩
 ·rw[<-sH,<-e2];exact bo
 ·exact(bo.lt _ hq).1
 ·exact(bo.lt _ hq).2
attribute [local irreducible] un jn jq ji ld1 je st1 oS mO pj me pH HR D4 gT pI aZ nO nQ eW eV eU eC eF gE mE fin iM bq de vS KZ HS HT HU HV HW K0 K3 K4 K5 EW EX HX HY HZ K6 K7 K8
variable {R : Ending -> World -> Prop} {w0 : World} {F F0 G : XS} {db o' t : Nat} {N : Value -> Prop}
section
variable {z : Nat} {l : List (ByteArray × nB)} {m : DM}
theorem anr {κ α:Type} [DecidableEq κ] {ty et:Nat} {kv:κ->Value} {rd:World->XS->Value->α->Prop} {l:List (κ×α)} (h:dK w X A b kv rd l) (ht:P.underlying t=some (.map kt et))
  (n:N (I l.length)):aZ P X w (na #[t] ty #[.map (some b)]) N:=by
 obtain⟨es,c,h1,h2⟩:=h;refine HQ (I l.length) (λwa hk=>?_) n;have hl:es.length=l.length:=by have:=congrArg az h2.keys;simpa using this
 simp[na,run_underlying ht,getObj,Sem.run,((h1.kp hk).2.1),goInt,hl]
theorem aoZ {t ty:TypeId} {a b:Int} (h:N (I (max a b))):aZ P X w (lz #[t,t] ty #[I a,I b]) N:=
 bA (λwa=>by
  simp only[lz,List.foldlM];by_cases hc:a<b
  ·have:max a b=b:=by omega
   simp[sw,hc,this]
  ·have:max a b=a:=by omega
   simp[sw,hc,this]) h
theorem agj {t:TypeId} {a b:Int} (h:N (.int .i64 (IntKind.i64.wrap (a+b)))):aZ P X w (binOp .add t (.int .i64 a) (.int .i64 b)) N:=oD h
theorem xK {N:Value->World->XS->Prop} {o:Nat} {v:Value} (hT:Ft w0 F0 w X F) (h:oF w G db mb l m z) (hG: ∀k,G k->F k) (m':DM) (z':Nat) (MC:o'=o) (ht:((P.info? t).map (·.size))=some 1) (ho:o+1<=5) (h1:aG.one v=true)
  (hc:cY [.map (some mb),I z,I m.wr,I m.ar,B m.dn] o [v]=[.map (some mb),I z',I m'.wr,I m'.ar,B m'.dn]) (OJ:m'.fs=m.fs) (har:m'.ar<2^63)
  (n: ∀w' X',Ft w0 F0 w' X' F->oF w' G db mb l m' z'->eh (· =db) X w X' w'->N undef w' X'):eU P R X w true (st1 t 1 (ptr db o') v) N:=by
 subst MC;have hX: ∀k,G k->X k:=λk hk=>hT.br k (hG k hk);have hv:v.cells= #[v]:=td h1;refine Ew (h.box.mv (Mv.sub hX)) ht ho (by rw[hv];rfl) (by rw[hv];simp[h1]) hT.s.has λw' X' c hr=>?_;rw[hv] at hr;rw[hc] at hr;exact n w' X' (hT.eo c (λk hk=>by subst hk;exact hG _ h.box.1) λk hk=>.inl hk) (h.anq hX c hr OJ har) c
end
variable {n : ByteArray}
theorem tr {l:List (ByteArray×nB)} (hm:dK w X nX mb aP OV l) (n1: ∀f,getM n l=some f->N (ptr f.b 0)) (n0:getM n l=none->N (.pointer none)):
  aZ pg X w (Instr.lookup 109 (.map (some mb)) (.string n) false) N:=
 nh (kt:=9) (et:=150) (.pointer none) hm (Jg kQ) kQ kQ (λv f h1 h2=>by
  have h2:v=ptr f.b 0:=h2;subst h2;exact n1 f h1) n0
theorem OY {z:Nat} {l:List (ByteArray×nB)} {m:DM} (h:oF w F db mb l m z) (hF:FX F X w) (jz:m.dn=false):
  Ct pg 280 #[ptr db 0] w X F λv wa w'=>v=B m.tick.dn/\oF w' F db mb l m.tick z:=by
 intro w0 hk;have h0:=h.mv (hF.mv hk);have hT:=hF.ft hk;clear h;have har:=h0.ar;refine NV.1 λ_=>?_;have hb:=h0.box.mv (Mv.sub hT.br);rw[jz] at hb;have AQ: ∀k,F k->F k:=λ_ h=>h;refine cK ?_;repeat' first|refine ao ?_;intros|refine dq ?_ ?_<;>intros|with_reducible apply cK
 ·refine xK hT h0 AQ { m with ar:=m.ar-1 } z (o:=3) zQ kQ zQ rfl (by rw[show((m.ar-1:Nat):Int)=(m.ar:Int)-1 by omega];rfl) rfl (by show m.ar-1<_;omega) λw1 X1 hT h1 c1=>?_;clear hb h0;have hb:=h1.box.mv (Mv.sub hT.br);repeat' first|refine ao ?_;intros|refine dq ?_ ?_<;>intros
  ·refine xK hT h1 AQ { m with ar:=m.ar-1,dn:=true } z (o:=4) zQ kQ zQ rfl rfl rfl h1.ar λw1 X1 hT h2 c1=>?_;clear hb h1;have hb:=h2.box.mv (Mv.sub hT.br);have q':((m.ar-1:Nat):Int)=0:=by assumption
   have rS:m.ar=1:=by omega
   repeat' first|refine ao ?_;intros|with_reducible apply cK
   refine hT.fin λwa aL=>⟨by rw[DM.tick,if_pos rS],?_⟩;rw[DM.tick,if_pos rS];rw[show m.ar-1=0 by omega] at h2;exact h2.mv (aL.jf hT.br)
  ·refine xK hT h1 AQ { m with ar:=m.ar-1,dn:=false } z (o:=4) zQ kQ zQ rfl rfl rfl h1.ar λw1 X1 hT h2 c1=>?_;clear hb h1;have hb:=h2.box.mv (Mv.sub hT.br);have q': ¬((m.ar-1:Nat):Int)=0:=by assumption
   have rS: ¬m.ar=1:=by omega
   repeat' first|refine ao ?_;intros|with_reducible apply cK|(with_reducible apply agj)
   refine xK hT h2 AQ { m with ar:=m.ar-1,dn:=false,wr:=IntKind.i64.wrap (m.wr+1) } z (o:=2) zQ kQ zQ rfl rfl rfl h2.ar λw1 X1 hT h3 c1=>?_;clear hb h2;have hb:=h3.box.mv (Mv.sub hT.br);repeat' refine ao ?_;intros
   refine hT.fin λwa aL=>⟨by rw[DM.tick,if_neg rS,jz],?_⟩;rw[DM.tick,if_neg rS];have h4:=h3.mv (aL.jf hT.br);rw[<-jz] at h4;exact h4
 ·have rS: ¬m.ar=1:=by omega
  have ha0:m.ar-1=m.ar:=by omega
  repeat' first|refine ao ?_;intros|(with_reducible apply agj)
  refine xK hT h0 AQ { m with wr:=IntKind.i64.wrap (m.wr+1) } z (o:=2) zQ kQ zQ rfl rfl rfl h0.ar λw1 X1 hT h3 c1=>?_;clear hb h0;have hb:=h3.box.mv (Mv.sub hT.br);rw[jz] at hb;repeat' refine ao ?_;intros
  refine hT.fin λwa aL=>⟨by rw[DM.tick,if_neg rS,jz],?_⟩;rw[DM.tick,if_neg rS,ha0];exact h3.mv (aL.jf hT.br)
theorem abk (n:ByteArray):Pure pg 255 #[.string n] (B (vZ n)):=by
 intro w0;refine ZF.1 λhs=>?_;repeat' first|refine ao ?_;intros|refine dq ?_ ?_<;>intros|(with_reducible refine fV hs ?_);(simp_all [vZ]<;>omega)
theorem adT:Ct pg 35 #[] w X nX λv wa w'=> ∃db,v=ptr db 0/\Dk w' (made wa w') db ⟨[],0,0,false⟩:=by
 intro w0 hk;refine aa3.1 λhs=>?_;refine rE (kv:=aP) OV nX hs.has λmb w1 X1 W7 aC pr=>?_;replace hs:=hs.trans aC;refine aeb kQ ?_;refine AJ hs.has λbx w2 X2 gq bm bo=>?_;have oV:=pr.mv my bm.mv (λ_ h=>h.elim) (A':=nX);have hz:=hs.kp.size;refine cG (hs.trans bm) λwa aL=>⟨bx,rfl,mb,[],⟨rfl,⟨⟨by omega,(bo.kp aL).lt⟩,(bo.kp aL).2⟩,?_,by simp,by simp,List.Pairwise.nil,by decide,by simp⟩,by decide⟩;exact oV.own.mv my (Mv.one aL oV.x.1 ⟨W7,av oV.x.2 aL.size⟩) λ_ h=>h.elim
theorem aaT {m:DM} (h:Dk w F db m) (hF:FX F X w):Ct pg 125 #[ptr db 0] w X nX λv wa w'=>v=B m.dn:=by
 intro w0 hk;obtain⟨mb,l,h0,hz⟩:=h.mv (hF.mv hk);have hb:=h0.box.mv (Mv.sub λk af=>(hF.kp hk k af).1);refine NP.1 λhs=>?_;repeat' first|refine ao ?_;intros|(refine qr ?_;intro wa hk;rfl)
theorem QX {m:DM} (h:Dk w F db m) (hF:FX F X w):Ct pg 258 #[ptr db 0,.string n] w X nX λv wa w'=>v=I (if(m.get n).isSome then 0 else 8):=by
 intro w0 hk;obtain⟨mb,l,h0,hz⟩:=h.mv (hF.mv hk);have hX:=λk af=>(hF.kp hk k af).1;have hb:=h0.box.mv (Mv.sub hX);have hg:=h0.get n;have hm:=h0.map.mv my (Mv.sub hX) (A':=nX) λ_ h=>h.elim;refine PN.1 λhs=>?_;repeat' refine ao ?_;intros
 refine tr hm (λf h1=>?_) λh1=>?_
 ·repeat' first|refine ao ?_;intros|(refine qr ?_;intro wa hk;(rw[hg,h1];rfl))
 ·repeat' first|refine ao ?_;intros|(refine qr ?_;intro wa hk;(rw[hg,h1];rfl))
theorem Fk {f:Nat} {c:List Value} {m:DM} {e:Nat} {g:DM->DM} (h:Dk w F db m) (hF:FX F X w) (hA: ∀k,A k->X k/\k<w.heap.size/\ ¬F k) (hf:enters pg f=true)
  (hdo:e=0-> ∀w1 X1,Mv A w A w1->(∀k,A k->X1 k)->FX F X1 w1->Dk w1 F db m.tick->Ct pg f c.toArray w1 X1 F λv wa w'=>v= .tuple #[]/\ ∃F',(∀k,F' k->F k\/made wa w' k)/\Dk w' F' db (g m.tick)):
  Ct pg 256 #[ptr db 0,I e,.func (.func f) #[] c.toArray] w X F λv wa w'=>v=I (m.write e g).2/\ ∃F',(∀k,F' k->F k\/made wa w' k)/\Dk w' F' db (m.write e g).1:=by
 intro w0 hk;obtain⟨mb,l,h0,hz⟩:=h.mv (hF.mv hk);have hT:=hF.ft hk;have oG:FX F (bV w0) w0:=hF.kp hk;have hAm:Mv A w A w0:=λk af _=>⟨af,hk.block k (hA k af).1⟩;have hb:=h0.box.mv (Mv.sub hT.br);have hs:=aj.init w0;have stay: ∀{w1 X1} (m':DM),Ft w0 F w1 X1 F->oF w1 F db mb l m' m'.sz->m'.sz<=4194304-> ∀wa,Kp X1 w1 wa-> ∃F',(∀k,F' k->F k\/made w0 wa k)/\Dk wa F' db m':=λm' hT h1 hz wa aL=>⟨F,hT.jC aL λ_ h=>h,mb,l,h1.mv (aL.jf hT.br),hz⟩;have htz:m.tick.sz=m.sz:=by unfold DM.tick DM.sz;split<;>rfl
 refine MO.1 λ_=>?_;cases jz:m.dn
 ·rw[jz] at hb;repeat' first|refine ao ?_;intros|refine dq ?_ ?_<;>intros
  ·have he:e≠0:=by omega
   refine hT.fin λwa aL=>⟨?_,?_⟩
   ·simp[DM.write,jz,he]
   ·simp only[DM.write,jz,he,aY,if_false,ne_eq,not_false_eq_true,if_true];exact stay m hT h0 hz wa aL
  ·have he:e=0:=by omega
   refine hT.call (OY h0 oG jz) kQ (λ_ h=>h) λv wa w2 X2 hq hle gy da hc=>?_;obtain⟨rfl,h2⟩:=hq;replace da:Ft w0 F w2 X2 F:=da.less λk hk=>.inl hk;rw[<-htz] at h2;cases ht:m.tick.dn
   ·repeat' refine ao ?_;intros
    refine da.call (hdo he w2 X2 (hAm.trans (hc.jf λk af=>⟨av (hA k af).2.1 hk.size,(hA k af).2.2⟩)) (λk af=>hc.sub k (av (hA k af).2.1 hk.size)) (da.fx λ_ h=>h) ⟨mb,l,h2,htz▸hz⟩) hf (λ_ h=>h) λv yF w3 X3 QD qy mr dS uQ=>?_;obtain⟨rfl,F',Di,hD⟩:=QD;refine dS.fin λFl aL=>⟨?_,F',dS.jC aL Di,?_⟩
    ·simp[DM.write,jz,he,ht]
    ·simp only[DM.write,jz,he,ht,aY,if_false,ne_eq,not_true_eq_false];exact hD.mv (aL.jf λk af=>dS.br k (Di k af))
   ·repeat' refine ao ?_;intros
    refine da.fin λwa aL=>⟨?_,?_⟩
    ·simp[DM.write,jz,he,ht]
    ·simp only[DM.write,jz,he,ht,aY,if_false,ne_eq,not_true_eq_false,if_true];exact stay _ da h2 (htz▸hz) wa aL
 ·rw[jz] at hb;repeat' refine ao ?_;intros
  refine hT.fin λwa aL=>⟨?_,?_⟩
  ·simp[DM.write,jz]
  ·simp only[DM.write,jz,if_true];exact stay m hT h0 hz wa aL
section
variable {z : Nat} {l : List (ByteArray × nB)} {m : DM} {f : nB} {N : Value -> World -> XS -> Prop}
theorem aeC {x:Int} {s':Nat} (hT:Ft w0 F0 w X F) (h:oF w G db mb l m z) (hG: ∀k,G k->F k) (hn:getM n l=some f) (ho:o'=1) (hx:x=s') (hs:s'<=f.bs.length)
  (k: ∀w' X',Ft w0 F0 w' X' F->oF w' G db mb (cI n ⟨f.b,f.v,f.bs,s'⟩ l) (m.put n f.bs s') z->N undef w' X'):eU pg R X w true (st1 3 1 (ptr f.b o') (I x)) N:=by
 subst ho;subst hx;have hX: ∀k,G k->X k:=λk hk=>hT.br k (hG k hk);have hr:=h.row _ (gK hn);have ho:=h.ow _ (gK hn);refine Ew (hr.mv (Mv.sub hX)) kQ sQ rfl rfl hT.s.has λw' X' c jZ=>?_;have hT':Ft w0 F0 w' X' F:=hT.eo c (λk hk=>by subst hk;exact hG _ hr.1) λk hk=>.inl hk;refine k w' X' hT' (h.jY (F':=G) (hT.fx hG) c hn (λk hk=>.inl hk) (λ_ h=>h) ⟨hr.1,jZ.2⟩ ?_ (.inl rfl) hs);exact ho.tight.mv λk hk hl=>⟨(ho.br hk).1,c.block k (hX k (ho.br hk).1) λe=>ho.eP hr kQ (by rw[<-(show k=f.b from e)];exact hk)⟩
theorem agk {vs:Value} {b:List Nat} (hT:Ft w0 F0 w X F) (h:oF w G db mb l m z) (hG: ∀k,G k->F k) (hn:getM n l=some f) (src:Sl w X 1 vs (b.map U1)) (hl:f.bs.length+b.length<=2^40)
  (k: ∀w' X',Ft w0 F0 w' X' (λk=>F k\/(X' k/\w.heap.size<=k))->(∃v',oF w' (λk=>G k\/(X' k/\w.heap.size<=k)) db mb (cI n ⟨f.b,v',f.bs++b,f.safe⟩ l) (m.put n (f.bs++b) f.safe) z)->N undef w' X'):
  eV pg R X w true (pI 151 5 1 1 151 f.v vs) λx w1 X1=>nO pg X1 w1 (bq (ptr f.b 0)) λp=>aZ pg X1 w1 (ji 153 0 0 1 p) λq=>eU pg R X1 w1 true (st1 151 1 q x) N:=by
 have hX: ∀k,G k->X k:=λk hk=>hT.br k (hG k hk);have hr:=h.row _ (gK hn);have ho:=h.ow _ (gK hn);have hsf:=h.safe _ (gK hn);have cj:f.v.ownBlock≠some f.b:=ho.eP hr kQ;refine Rz kQ hT.s.has (ho.mono hX) src (by intro r hr u hu;obtain⟨x,_,rfl⟩:=List.mem_map.1 hr;simp only[U1,List.mem_singleton] at hu;subst hu;rfl) oQ oQ λv' w1 X1 c uT dB=>?_;have pz:aK w1 X1 f.b [f.v,I f.safe] 153:=⟨c.sub _ (hX _ hr.1),by rw[c.block _ (hX _ hr.1) λe=>cj e];exact hr.2⟩
 with_reducible apply Ji
 have Uv:fieldInfo pg 153 0=some (0,1):=by kernel_rfl
 refine Rx pz.cells Uv rfl λo' vQ _=>?_;subst vQ;have lq:=td uT.one;refine Ew pz kQ sQ (by rw[lq];rfl) (by rw[lq];simp[uT.one]) c.has λw' X' c' jZ=>?_;rw[lq] at jZ;have cc:eh (λk=>k=f.b\/f.v.ownBlock=some k) X w X' w':=(c.mono λk _ hk=>.inr hk).trans (c'.mono λk _ hk=>.inl hk);have ag2:v'.ownBlock≠some f.b:=uT.eP pz kQ;have gy: ∀g,v'.ownBlock=some g->G g\/(X' g/\w.heap.size<=g):=λg hg=>by
  rcases dB with e|⟨g',e,dH⟩
  ·exact .inl (ho.br (e▸hg)).1
  ·rw[hg] at e;have:g=g':=Option.some.inj e;subst this;exact .inr ⟨c'.sub _ (uT.br hg).1,dH⟩
 have lv:Ow w' (λk=>G k\/(X' k/\w.heap.size<=k)) 5 1 v' ((f.bs++b).map U1):=by
  rw[List.map_append];exact uT.tight.mv λk hk hl=>⟨gy k hk,c'.block k (uT.br hk).1 λe=>ag2 (by rw[<-(show k=f.b from e)];exact hk)⟩
 refine k w' X' (hT.eo cc (λk hk=>?_) λk hk=>hk) ⟨v',h.jY (F':=λk=>G k\/(X' k/\w.heap.size<=k)) (hT.fx hG) cc hn (λk hk=>hk) (λk hk=>.inl hk) ⟨.inl hr.1,?_⟩ lv dB (by rw[aa];have:f.safe<=f.bs.length:=hsf;omega)⟩
 ·rcases hk with rfl|hk
  ·exact hG _ hr.1
  ·exact hG _ (ho.br hk).1
 ·exact jZ.2
end
theorem VR {S:XS} {m:DM} {vb:Value} {b:List Nat} (h:Dk w F db m) (hF:FX F X w) (hb:Sl w S 1 vb (b.map U1)) (hS: ∀k,S k->X k/\ ¬F k) (JR:b.length<=2^30):
  Ct pg 200 #[ptr db 0,.string n,vb] w X F λv wa w'=>v=I (m.append n b).2/\ ∃F',(∀k,F' k->F k\/made wa w' k)/\Dk w' F' db (m.append n b).1:=by
 intro w0 hk;obtain⟨mb,l,h0,hz⟩:=h.mv (hF.mv hk);have hT:=hF.ft hk;have oG:FX F (bV w0) w0:=hF.kp hk;replace hb:Sl w0 (λk=>S k/\k<w0.heap.size) 1 vb (b.map U1):=hb.mv λk af hl=>⟨⟨af,av hl hk.size⟩,hk.block k (hS k af).1⟩;have gq:=h0.box.mv (Mv.sub hT.br);have hs:=aj.init w0;have hg:=h0.get n;have hm:=h0.map.mv my (Mv.sub hT.br) (A':=nX) λ_ h=>h.elim;refine Kw.1 λ_=>?_;repeat' refine ao ?_;intros
 refine tr hm (λf hn=>?_) λhn=>?_
 ·have qg:m.get n=some (f.bs,f.safe):=by rw[hg,hn];rfl
  have asq:=DM.Cn qg;cases jz:m.dn
  ·rw[jz] at gq;repeat' first|refine ao ?_;intros|refine dq ?_ ?_<;>intros
   ·refine hT.fin λwa aL=>⟨?_,F,hT.jC aL λ_ h=>h,?_⟩
    ·simp only[DM.append,jz,qg,aY,if_false];rw[if_pos zQ];rfl
    ·simp only[DM.append,jz,qg,aY,if_false];rw[if_pos zQ];exact⟨mb,l,h0.mv (aL.jf hT.br),hz⟩
   ·have Jk: ¬4194304-m.sz<b.length:=by omega
    refine hT.call (OY h0 oG jz) kQ (λ_ h=>h) λv wa w2 X2 hq hle gy da hc=>?_;obtain⟨rfl,h2⟩:=hq;replace da:Ft w0 F w2 X2 F:=da.less λk hk=>.inl hk;have jI:=(h2.row _ (gK hn)).mv (Mv.sub da.br);repeat' refine ao ?_;intros
    refine agk da h2 (λ_ h=>h) hn ((hb.mv (hc.jf λk af=>⟨af.2,(hS k af.1).2⟩)).mono λk af=>hc.sub k af.2) (show f.bs.length+b.length<=2^40 by omega) λw3 X3 dS ⟨v',h3⟩=>?_;have rV:=h3.box.mv (Mv.sub dS.br);have htz:=m.yu;repeat' refine ao ?_;intros
    have Hm:=DM.LC (bs:=f.bs++b) (s':=f.safe) ((m.qG n).trans qg);have hlen:(f.bs++b).length=f.bs.length+b.length:=aa;refine xK dS h3 (λ_ h=>h) (m.tick.put n (f.bs++b) f.safe) (m.tick.put n (f.bs++b) f.safe).sz (o:=1) zQ kQ zQ rfl (by rw[show(((m.tick.put n (f.bs++b) f.safe).sz:Nat):Int)=(m.sz:Int)+(b.length:Int)by omega];rfl) rfl h3.ar λw4 X4 fJ h4 c4=>?_;have fin: ∀wa,Kp X4 w4 wa-> ∃F',(∀k,F' k->F k\/made w0 wa k)/\Dk wa F' db (m.append n b).1:=λwa aL=>⟨_,fJ.jC aL λ_ h=>h,by
     simp only[DM.append,jz,qg,aY,if_false];rw[if_neg Jk];exact⟨mb,_,h4.mv (aL.jf fJ.br),by show(m.tick.put n (f.bs++b) f.safe).sz<=_;omega⟩⟩
    cases ht:m.tick.dn
    ·repeat' refine ao ?_;intros
     refine fJ.fin λwa aL=>⟨?_,fin wa aL⟩;simp only[DM.append,jz,qg,aY,if_false];rw[if_neg Jk];simp[ht]
    ·repeat' refine ao ?_;intros
     refine fJ.fin λwa aL=>⟨?_,fin wa aL⟩;simp only[DM.append,jz,qg,aY,if_false];rw[if_neg Jk];simp[ht]
  ·rw[jz] at gq;repeat' refine ao ?_;intros
   refine hT.fin λwa aL=>⟨?_,F,hT.jC aL λ_ h=>h,?_⟩
   ·simp[DM.append,jz]
   ·simp only[DM.append,jz,if_true];exact⟨mb,l,h0.mv (aL.jf hT.br),hz⟩
 ·have qg:m.get n=none:=by rw[hg,hn];rfl
  cases jz:m.dn
  ·rw[jz] at gq;repeat' refine ao ?_;intros
   refine hT.fin λwa aL=>⟨?_,F,hT.jC aL λ_ h=>h,?_⟩
   ·simp[DM.append,jz,qg]
   ·simp only[DM.append,jz,qg,aY,if_false];exact⟨mb,l,h0.mv (aL.jf hT.br),hz⟩
  ·rw[jz] at gq;repeat' refine ao ?_;intros
   refine hT.fin λwa aL=>⟨?_,F,hT.jC aL λ_ h=>h,?_⟩
   ·simp[DM.append,jz]
   ·simp only[DM.append,jz,if_true];exact⟨mb,l,h0.mv (aL.jf hT.br),hz⟩
variable {bd bn : Nat}
theorem Z5 {m:DM} (h:Dk w F db m) (hF:FX F X w) (hd:aK w X bd [ptr db 0] 25) (hn:aK w X bn [.string n] 9) (hg:(m.get n).isSome=true):
  Ct pg 281 #[ptr bd 0,ptr bn 0] w X F λv wa w'=>v= .tuple #[]/\ ∃F',(∀k,F' k->F k\/made wa w' k)/\Dk w' F' db (DM.kB n m):=by
 intro w0 hk;obtain⟨mb,l,h0,hz⟩:=h.mv (hF.mv hk);have hT:=hF.ft hk;replace hd:=hd.mv hk.cu;replace hn:=hn.mv hk.cu;have gq:=h0.box.mv (Mv.sub hT.br);have hs:=aj.init w0;have qg:=h0.get n;have hm:=h0.map.mv my (Mv.sub hT.br) (A':=nX) λ_ h=>h.elim;refine Jw.1 λ_=>?_;repeat' refine ao ?_;intros
 refine tr hm (λf h1=>?_) λh1=>?_
 ·repeat' refine ao ?_;intros
  refine tr hm (λf' h2=>?_) λh2=>?_
  ·rw[h1] at h2;cases h2;have hr:=(h0.row _ (gK h1)).mv (Mv.sub hT.br);have ho:=(h0.ow _ (gK h1)).sl;have XU:m.get n=some (f.bs,f.safe):=by rw[qg,h1];rfl
   repeat' refine ao ?_;intros
   refine aeC hT h0 (λ_ h=>h) h1 (s':=f.bs.length) zQ rfl (Nat.le_refl _) λw1 X1 ej h3=>?_;refine ej.fin λwa aL=>⟨rfl,F,ej.jC aL λ_ h=>h,?_⟩;have e:DM.kB n m=m.put n f.bs f.bs.length:=by unfold DM.kB;rw[XU]
   have gd:=m.Fu n;rw[e] at gd⊢;exact⟨mb,_,by rw[gd];exact h3.mv (aL.jf ej.br),by omega⟩
  ·rw[h1] at h2;cases h2
 ·rw[qg,h1] at hg;cases hg
theorem abl {m:DM} (h:Dk w F db m) (hF:FX F X w):
  Ct pg 201 #[ptr db 0,.string n] w X F λv wa w'=>v=I (m.sync n).2/\ ∃F',(∀k,F' k->F k\/made wa w' k)/\Dk w' F' db (m.sync n).1:=by
 intro w0 hk;replace h:=h.mv (hF.mv hk);have hT:=hF.ft hk;have oG:FX F (bV w0) w0:=hF.kp hk;clear hF;refine NU.1 λ_=>?_;refine uu rfl hT.s.has λbd w1 X1 qd aC jE=>?_;refine uu rfl aC.has λbn w2 X2 hbn bm Ub=>?_;have pc:=aC.trans bm;have da:=hT.since pc;have Tn:=jE.since bm;have h2:Dk w2 F db m:=h.mv (pc.gU λk af=>(oG k af).1);have hs:=aj.fT bm.has;repeat' refine ao ?_;intros
 refine cA (QX h2 (da.fx λ_ h=>h)) kQ hs.has ?_;rintro v wa w3 X3 rfl hle gy cV;have dS:=da.since cV;have h3:Dk w3 F db m:=h2.mv (cV.gU da.br);have asr:=jE.lt;have aq2:=cV.sub _ Tn.1;have aq3:=cV.sub _ Ub.1;have zT:=Tn.since cV;have DP:=Ub.since cV;have e8:I (if(m.get n).isSome then 0 else 8)=I (((if(m.get n).isSome then 0 else 8:Nat)):Nat):=by split<;>rfl
 rw[e8];refine dS.call (Fk (A:=λk=>k=bd\/k=bn) (g:=DM.kB n) h3 (dS.fx λ_ h=>h) (λk af=>?_) kQ ?_) kQ (λ_ h=>h) λv zj w4 X4 hq tL pa fJ Fq=>?_
 ·rcases af with rfl|rfl
  ·exact⟨aq2,zT.lt,λhf=>by have:=(oG _ hf).2;omega⟩
  ·exact⟨aq3,DP.lt,λhf=>by have:=(oG _ hf).2;have:=aC.kp.size;omega⟩
 ·intro he w5 X5 xx Rf hF5 h5;refine Z5 h5 hF5 ⟨Rf _ (.inl rfl),?_⟩ ⟨Rf _ (.inr rfl),?_⟩ ?_
  ·rw[(xx bd (.inl rfl) (zT.lt)).2];exact zT.2
  ·rw[(xx bn (.inr rfl) (DP.lt)).2];exact DP.2
  ·rw[m.qG];cases mN:(m.get n).isSome
   ·rw[mN] at he;cases he
   ·rfl
 ·obtain⟨rfl,F',Di,hD⟩:=hq
  skip
  refine fJ.fin λFl aL=>⟨rfl,F',fJ.jC aL Di,hD.mv (aL.jf λk af=>fJ.br k (Di k af))⟩
theorem To {m:DM} (h:Dk w F db m) (hF:FX F X w) (hd:aK w X bd [ptr db 0] 25) (hn:aK w X bn [.string n] 9) (hg:m.get n=none):
  Ct pg 257 #[ptr bd 0,ptr bn 0] w X F λv wa w'=>v= .tuple #[]/\ ∃F',(∀k,F' k->F k\/made wa w' k)/\Dk w' F' db (m.put n [] 0):=by
 intro w0 hk;obtain⟨mb,l,h0,hz⟩:=h.mv (hF.mv hk);have hT:=hF.ft hk;have oG:FX F (bV w0) w0:=hF.kp hk;replace hd:=hd.mv hk.cu;replace hn:=hn.mv hk.cu;have gq:=h0.box.mv (Mv.sub hT.br);have hs:=aj.init w0;have qg:=h0.get n;have hm:=h0.map.mv my (Mv.sub hT.br) (A':=nX) λ_ h=>h.elim;have hgn:getM n l=none:=by
  rw[hg] at qg;cases hq:getM n l with
  |none=>rfl
  |some f=>rw[hq] at qg;cases qg
 refine HB.1 λ_=>?_;repeat' first|refine ao ?_;intros|(refine Oy hs ?_;intro bx w X gq aC gg hs bo)
 have pr:=hm.mv my gg.mv (A':=nX) λ_ h=>h.elim;refine vA (kt:=9) (et:=150) (a:=⟨bx,.slice none 0 0,[],0⟩) pr my (show OV _ _ (ptr bx 0) ⟨bx,.slice none 0 0,[],0⟩from rfl) (λ_ h=>h.elim) (Jg kQ) kQ gg.has λw2 X2 c oV=>?_;have hbm:bx≠mb:=(pr.eP bo).symm;have da:Ft w0 F w2 X2 (λk=>F k\/k=bx):=((hT.since gg).more (F':=λk=>F k\/k=bx) λk af=>af.imp id λe=>by subst e;exact⟨bo.1,gq⟩).eo c (λk af=>by subst af;exact .inl h0.map.x.1) λk af=>.inl af;have uP:eh (· =mb) (bV w0) w0 X2 w2:=(eh.oh gg _).trans c;refine da.fin λwa aL=>⟨rfl,_,da.jC aL λ_ h=>h,?_⟩;have hL:=h0.new (F':=λk=>F k\/k=bx) oG uP hgn (λk af=>af) (λk af=>.inl af) gq (oV.own.mv my (λk af hl=>⟨.inl (by subst af;exact h0.map.x.1),rfl⟩) λ_ h=>h.elim) ⟨.inr rfl,by rw[c.block _ bo.1 hbm];exact bo.2⟩;have aq4:(m.put n [] 0).sz=m.sz:=by simpa using (DM.SC (bs:=[]) (s':=0) hg)
 rw[<-aq4] at hL;exact⟨mb,_,hL.mv (aL.jf da.br),by omega⟩
def DM.CB (m:DM) (n:ByteArray):Nat:=if¬vZ n then 10 else if(m.get n).isSome then 9 else if 64<=m.fs.length then 3 else 0
theorem VS {m:DM} (h:Dk w F db m) (hF:FX F X w):
  Ct pg 181 #[ptr db 0,.string n] w X F λv wa w'=>v=I (m.create n).2/\ ∃F',(∀k,F' k->F k\/made wa w' k)/\Dk w' F' db (m.create n).1:=by
 intro w0 hk;replace h:=h.mv (hF.mv hk);have hT:=hF.ft hk;have oG:FX F (bV w0) w0:=hF.kp hk;clear hF;obtain⟨mb,l,h0,hz⟩:=id h;refine Kt.1 λ_=>?_;refine uu rfl hT.s.has λbd w1 X1 qd aC jE=>?_;refine uu rfl aC.has λbn w2 X2 hbn bm Ub=>?_;have pc:=aC.trans bm;have hs:=aj.fT bm.has;have Tn:=jE.since bm;have gq:=(h0.box.mv (Mv.sub hT.br)).since pc;have hm:=(h0.map.mv my (Mv.sub hT.br) (A':=nX) λ_ h=>h.elim).mv my pc.mv (A':=nX) λ_ h=>h.elim;have qg:=h0.get n;have hlen:=h0.len;have key: ∀(w3:World) (X3:XS) (e:Nat),aj X2 w2 X3 w3->m.CB n=e->eC pg (vR F w0 λv w'=>v=I (m.create n).2/\ ∃F',(∀k,F' k->F k\/made w0 w' k)/\Dk w' F' db (m.create n).1) X3 w3 true 256 #[ptr db 0,I e,.func (.func 257) #[] #[ptr bd 0,ptr bn 0]] λx w4 X4=>
   fin (vR F w0 λv w'=>v=I (m.create n).2/\ ∃F',(∀k,F' k->F k\/made w0 w' k)/\Dk w' F' db (m.create n).1) X4 w4 x:=by
  intro w3 X3 e cV he;have ans:=pc.trans cV;have dS:=hT.since ans;have h3:Dk w3 F db m:=h.mv (ans.gU λk af=>(oG k af).1);have zT:=Tn.since cV;have DP:=Ub.since cV;have em:m.create n=m.write e λm=>m.put n [] 0:=by rw[<-he];rfl
  rw[em];refine dS.call (Fk (A:=λk=>k=bd\/k=bn) (g:=λm=>m.put n [] 0) h3 (dS.fx λ_ h=>h) (λk af=>?_) kQ ?_) kQ (λ_ h=>h) λv zj w4 X4 hq tL pa fJ Fq=>?_
  ·rcases af with rfl|rfl
   ·exact⟨zT.1,zT.lt,λhf=>by have:=(oG _ hf).2;omega⟩
   ·exact⟨DP.1,DP.lt,λhf=>by have:=(oG _ hf).2;have:=aC.kp.size;omega⟩
  ·intro AS w5 X5 xx Rf hF5 h5;refine To h5 hF5 ⟨Rf _ (.inl rfl),?_⟩ ⟨Rf _ (.inr rfl),?_⟩ ?_
   ·rw[(xx bd (.inl rfl) (zT.lt)).2];exact zT.2
   ·rw[(xx bn (.inr rfl) (DP.lt)).2];exact DP.2
   ·rw[m.qG];rw[AS] at he;unfold DM.CB at he;cases mN:m.get n with
    |none=>rfl
    |some x=>
     rw[mN] at he;simp at he;exfalso;split at he<;>omega
  ·obtain⟨rfl,F',Di,hD⟩:=hq;exact fJ.fin λFl aL=>⟨rfl,F',fJ.jC aL Di,hD.mv (aL.jf λk af=>fJ.br k (Di k af))⟩
 refine gY (λk=> ∀(e:Nat) (w3:World) (X3:XS),aj X2 w2 X3 w3->m.CB n=e->k (I e) w3 X3) ?_ ?_
 ·intro e w3 X3 cV he;have zT:=Tn.since cV;repeat' refine ao ?_;intros
  exact key w3 X3 e cV he
 ·intro K hK;repeat' first|refine ao ?_;intros|(refine kR (abk _) hs ?_ ?_<;>intro _ w X hs)
  ·have DP:=Ub.since hs;have zT:=Tn.since hs;have ass:=gq.since hs;have qK:=hm.mv my hs.mv (A':=nX) λ_ h=>h.elim
   skip
   refine tr qK (λf hn=>?_) λhn=>?_
   ·repeat' refine ao ?_;intros
    exact hK 9 _ _ hs (by simp_all [DM.CB])
   ·repeat' first|refine ao ?_;intros|refine dq ?_ ?_<;>intros|(refine anr qK (kt:=9) (et:=150) kQ ?_)
    ·exact hK 3 _ _ hs (by simp only[DM.CB,qg,hn];simp_all<;>omega)
    ·exact hK 0 _ _ hs (by simp only[DM.CB,qg,hn];simp_all<;>omega)
  ·exact hK 10 _ _ hs (by simp_all [DM.CB])
theorem Rl {m:DM} {n:Int} (h:Dk w F db m) (hF:FX F X w) (hn:n<2^63):
  Ct pg 14 #[ptr db 0,I n] w X F λv wa w'=>v= .tuple #[]/\Dk w' F db (if m.dn then m else { m with ar:=n.toNat }):=by
 intro w0 hk;obtain⟨mb,l,h0,hz⟩:=h.mv (hF.mv hk);have hT:=hF.ft hk;have gq:=h0.box.mv (Mv.sub hT.br);have hs:=aj.init w0;refine PG.1 λ_=>?_;cases jz:m.dn
 ·rw[jz] at gq;repeat' first|refine ao ?_;intros|(refine aoZ ?_)
  refine xK hT h0 (λ_ h=>h) { m with ar:=n.toNat } m.sz (o:=3) zQ kQ zQ rfl (by rw[show((n.toNat:Nat):Int)=max n 0 by omega];rfl) rfl (by show n.toNat<_;omega) λw1 X1 ej h1 c1=>?_;refine ej.fin λwa aL=>⟨rfl,?_⟩;rw[if_neg Bool.false_ne_true];have h2:=h1.mv (aL.jf ej.br);rw[jz] at h2;exact⟨mb,l,h2,hz⟩
 ·rw[jz] at gq;repeat' refine ao ?_;intros
  exact hT.fin λwa aL=>⟨rfl,mb,l,h0.mv (aL.jf hT.br),hz⟩
theorem akT:Ct pg 119 #[.map (some mb)] w X nX λv wa w'=> ∃bx,v= .func (.func 173) #[] #[ptr bx 0]/\aK w' (made wa w') bx [.map (some mb)] 109:=by
 intro w0 hk;refine rz.1 λhs=>?_;refine uu rfl hs.has λbx w1 X1 gq aC bo=>?_;repeat' refine ao ?_;intros
 exact cG aC λwa aL=>⟨bx,rfl,⟨gq,(bo.kp aL).lt⟩,(bo.kp aL).2⟩
theorem ajR:Ct pg 169 #[.map (some mb)] w X nX λv wa w'=> ∃bx,v= .func (.func 239) #[] #[ptr bx 0]/\aK w' (made wa w') bx [.map (some mb)] 287:=by
 intro w0 hk;refine rA.1 λhs=>?_;refine uu rfl hs.has λbx w1 X1 gq aC bo=>?_;repeat' refine ao ?_;intros
 exact cG aC λwa aL=>⟨bx,rfl,⟨gq,(bo.kp aL).lt⟩,(bo.kp aL).2⟩
variable {bx : Nat}
theorem agl {α:Type} {rd:World->XS->Value->α->Prop} {l:List (ByteArray×α)} (h:dK w X A mb aP rd l) (hb:aK w X bx [.map (some mb)] 109)
  (hs: ∀x∈l,x.1.size<=2^40) (hl:l.length<=2^40):
  Ct pg 118 #[.func (.func 173) #[] #[ptr bx 0]] w X nX λv wa w'=>Own w' (made wa w') wa.heap.size 9 1 v ((fL (l.map (·.1))).map S1):=
 PY h kQ hs hl λwa hk nn D0 xC=>
  AnyZ.keys_gives (ρ:=Tryz.UU) { Tryz.aoU with } gf _ trivial rfl zQ bx mb nn D0 wa (hb.kp hk).lt (by have:=(hb.kp hk).2;simp[fq,this]) xC
theorem afg {α:Type} {rd:World->XS->Value->α->Prop} {l:List (ByteArray×α)} (h:dK w X A mb aP rd l) (hb:aK w X bx [.map (some mb)] 287)
  (hs: ∀x∈l,x.1.size<=2^40) (hl:l.length<=2^40):
  Ct pg 118 #[.func (.func 239) #[] #[ptr bx 0]] w X nX λv wa w'=>Own w' (made wa w') wa.heap.size 9 1 v ((fL (l.map (·.1))).map S1):=
 PY h kQ hs hl λwa hk nn D0 xC=>
  AnyZ.keys_gives (ρ:=Tryz.UW) { Tryz.aoV with } gf _ trivial rfl zQ bx mb nn D0 wa (hb.kp hk).lt (by have:=(hb.kp hk).2;simp[fq,this]) xC
theorem OE {m:DM} (h:Dk w F db m) (hF:FX F X w) (hs: ∀x∈m.fs,x.1.size<=2^40) (hl:m.fs.length<=2^40):
  Ct pg 71 #[ptr db 0] w X nX λv wa w'=>Own w' (made wa w') wa.heap.size 9 1 v ((fL (m.fs.map (·.1))).map S1):=by
 intro w0 hk;obtain⟨mb,l,h0,hz⟩:=h.mv (hF.mv hk);have hX:=λk af=>(hF.kp hk k af).1;have hb:=h0.box.mv (Mv.sub hX);have hm:=h0.map.mv my (Mv.sub hX) (A':=nX) λ_ h=>h.elim;have OJ:=h0.fs;refine NO.1 λ_=>?_;have gg:=aj.init w0;repeat' refine ao ?_;intros
 refine cA akT kQ gg.has ?_;rintro _ wa w1 X1 ⟨bx,rfl,bo⟩ hle gy aC;have pr:=hm.mv my aC.mv (A':=nX) λ_ h=>h.elim;refine cA (agl pr (bo.mono gy) (λx hx=>hs (x.1,x.2.er) (by rw[OJ];exact List.mem_map.2 ⟨x,hx,rfl⟩)) (by rw[OJ,ai] at hl;exact hl)) kQ aC.has ?_;rintro v yE w2 X2 ho mq kW bm;have Yh:=aC.kp.size;refine cG (aC.trans bm) λFl aL=>?_;have lv:Own w2 X2 w0.heap.size 9 1 v ((fL (l.map (·.1))).map S1):=ho.up kW zQ;have e:m.fs.map (·.1)=l.map (·.1):=by rw[OJ,bB];rfl
 rw[e];exact(lv.kp aL).tight
structure jr where
 code:Int
 key:BA
 val:gJ
abbrev jr.l (o:jr):List Value:=[I o.code,.string o.key,I o.val.kind,.float .f64 o.val.num,.string o.val.text]
def IN (c:Int):Int:=if c<1\/15<c then 0 else if c=4 then 2 else if c<=3 then 1 else 0
def tK (c:Int):Int:=if c<1\/15<c then 0 else if c=1\/c=3\/c=4 then 0 else if c=2\/c=13\/c=14 then 1 else 2
def AF (c:Int):Int:=if c<1\/15<c then 0 else if c=2\/c=3\/c=13 then 0 else if c=14\/c=15 then 2 else 1
def aiO (c:Int):BA:=if c=1 then⟨#[103,101,116]⟩else if c=2 then⟨#[112,117,116]⟩else if c=3 then⟨#[100,114,111,112]⟩else if c=4 then⟨#[112,117,115,104]⟩else if c=5 then⟨#[97,100,100]⟩else if c=6 then⟨#[115,117,98]⟩else if c=7 then⟨#[109,117,108]⟩else if c=8 then⟨#[100,105,118]⟩
 else if c=9 then⟨#[109,105,110]⟩else if c=10 then⟨#[109,97,120]⟩else if c=11 then⟨#[108,101,115,115]⟩else if c=12 then⟨#[115,97,109,101]⟩else if c=13 then⟨#[110,101,101,100]⟩else if c=14 then⟨#[100,117,112]⟩else if c=15 then⟨#[115,119,97,112]⟩else⟨#[]⟩
abbrev Wn (c:Int):List Value:=[.string (aiO c),I (IN c),I (tK c),I (AF c)]
abbrev agm:List Value:=[.string ⟨#[]⟩,I 0,I 0,I 0,.string ⟨#[103,101,116]⟩,I 1,I 0,I 1,.string ⟨#[112,117,116]⟩,I 1,I 1,I 0,.string ⟨#[100,114,111,112]⟩,I 1,I 0,I 0,.string ⟨#[112,117,115,104]⟩,I 2,I 0,I 1,
 .string ⟨#[97,100,100]⟩,I 0,I 2,I 1,.string ⟨#[115,117,98]⟩,I 0,I 2,I 1,.string ⟨#[109,117,108]⟩,I 0,I 2,I 1,.string ⟨#[100,105,118]⟩,I 0,I 2,I 1,.string ⟨#[109,105,110]⟩,I 0,I 2,I 1,.string ⟨#[109,97,120]⟩,I 0,I 2,I 1,
 .string ⟨#[108,101,115,115]⟩,I 0,I 2,I 1,.string ⟨#[115,97,109,101]⟩,I 0,I 2,I 1,.string ⟨#[110,101,101,100]⟩,I 0,I 1,I 0,.string ⟨#[100,117,112]⟩,I 0,I 1,I 2,.string ⟨#[115,119,97,112]⟩,I 0,I 2,I 2]
theorem MZ:Pure pg 228 #[] (.agg agm.toArray):=by
 intro w0;refine VC.1 λhs=>?_;repeat' first|refine ao ?_;intros|(with_reducible refine fV hs ?_);rfl
theorem aiP (c:Int) (h:1<=c/\c<=15) (wa:World):(D4 367 16 277 (.agg agm.toArray) (I c)).run pg wa= .ok (.agg (Wn c).toArray) wa:=by
 have h:c=1\/c=2\/c=3\/c=4\/c=5\/c=6\/c=7\/c=8\/c=9\/c=10\/c=11\/c=12\/c=13\/c=14\/c=15:=by omega
 rcases h with rfl|rfl|rfl|rfl|rfl|rfl|rfl|rfl|rfl|rfl|rfl|rfl|rfl|rfl|rfl<;>(show _=_;kernel_rfl)
theorem agn (c:Int):Pure pg 158 #[I c] (.tuple #[.agg (Wn c).toArray,B (decide (1<=c/\c<=15))]):=by
 intro w0;by_cases hc:1<=c/\c<=15
 ·rw[decide_eq_true hc];refine RJ.1 λhs=>?_;repeat' first|refine ao ?_;intros|refine dq ?_ ?_<;>intros|(refine pN MZ hs ?_;intro w X hs)|(exfalso;omega)|(with_reducible refine fV hs ?_);rfl|(refine bA (aiP c hc) ?_)
 ·have hz:Wn c=[.string ⟨#[]⟩,I 0,I 0,I 0]:=by
   have h1:IN c=0:=by unfold IN;rw[if_pos zQ]
   have h2:tK c=0:=by unfold tK;rw[if_pos zQ]
   have h3:AF c=0:=by unfold AF;rw[if_pos zQ]
   have h4:aiO c=⟨#[]⟩:=by
    unfold aiO;repeat rw[if_neg zQ]
   simp only[Wn,h1,h2,h3,h4]
  rw[decide_eq_false hc,hz];refine RJ.1 λhs=>?_;repeat' first|refine ao ?_;intros|refine dq ?_ ?_<;>intros|(refine pN MZ hs ?_;intro w X hs)|(exfalso;omega)|(with_reducible refine fV hs ?_);rfl
def EZ (o:jr) (n:Int):Bool:=
 if(n=1/\iL o.key=false)\/(n≠1/\o.key≠⟨#[]⟩)then false else if n=2 then o.val.may else decide (o.val.kind=0/\o.val.text=⟨#[]⟩/\o.val.num=0)
theorem abm (o:jr) (n:Int):Pure pg 159 #[.agg o.l.toArray,I n] (B (EZ o n)):=by
 intro w0;refine Zv.1 λhs=>?_;repeat' first|refine ao ?_;intros|refine dq ?_ ?_<;>intros|with_reducible apply cK|(refine kR (lB _) hs ?_ ?_<;>intro _ w X hs)|(refine kR (mn _) hs ?_ ?_<;>intro _ w X hs)|(with_reducible refine fV hs ?_);(simp_all [EZ])|((with_reducible refine E2 (Ci _) hs.has ?_);intro w X aC;replace hs:=hs.trans aC)
theorem akU:Ct pg 231 #[.map (some mb)] w X nX λv wa w'=> ∃bx,v= .func (.func 306) #[] #[ptr bx 0]/\aK w' (made wa w') bx [.map (some mb)] 370:=by
 intro w0 hk;refine wI.1 λhs=>?_;refine uu rfl hs.has λbx w1 X1 gq aC bo=>?_;repeat' refine ao ?_;intros
 exact cG aC λwa aL=>⟨bx,rfl,⟨gq,(bo.kp aL).lt⟩,(bo.kp aL).2⟩
theorem ago {α:Type} {rd:World->XS->Value->α->Prop} {l:List (ByteArray×α)} (h:dK w X A mb aP rd l) (hb:aK w X bx [.map (some mb)] 370)
  (hs: ∀x∈l,x.1.size<=2^40) (hl:l.length<=2^40):
  Ct pg 118 #[.func (.func 306) #[] #[ptr bx 0]] w X nX λv wa w'=>Own w' (made wa w') wa.heap.size 9 1 v ((fL (l.map (·.1))).map S1):=
 PY h kQ hs hl λwa hk nn D0 xC=>
  AnyZ.keys_gives (ρ:=Tryz.UX) { Tryz.aoW with } gf _ trivial rfl zQ bx mb nn D0 wa (hb.kp hk).lt (by have:=(hb.kp hk).2;simp[fq,this]) xC
def Z6:World->XS->Value->Int->Prop:=λ_ _ v x=>v=I x
theorem Z7:qU Z6:=λ_ _ _ _ _ _ h _=>h
def lf (a b:Int) (t:List (BA×Int)) (o:jr):List (BA×Int):=if(o.code=a\/o.code=b)/\iL o.key=true then cI o.key ((getM o.key t).getD 0+1) t else t
def fj (a b:Int) (p:List jr):List BA:=fL ((p.foldl (lf a b) []).map (·.1))
theorem E9 (a b:Int): ∀(p:List jr) (t:List (BA×Int)) (n:Nat),(t.map (·.1)).Nodup->(∀x∈t,0<=x.2/\x.2<=n/\x.1.size<=24)->t.length<=n->
  ((p.foldl (lf a b) t).map (·.1)).Nodup/\(∀x∈p.foldl (lf a b) t,0<=x.2/\x.2<=(n+p.length:Nat)/\x.1.size<=24)/\(p.foldl (lf a b) t).length<=n+p.length
 |[],t,n,h1,h2,h3=>⟨h1,λx hx=>h2 x hx,h3⟩
 |o::p,t,n,h1,h2,h3=>by
  have fE:((lf a b t o).map (·.1)).Nodup/\(∀x∈lf a b t o,0<=x.2/\x.2<=(n+1:Nat)/\x.1.size<=24)/\(lf a b t o).length<=n+1:=by
   unfold lf;split
   ·rename_i hc;have hg:o.key.size<=24:=by have:=hc.2;unfold iL at this;simp at this;omega
    refine⟨QA h1,λx hx=>?_,?_⟩
    ·rcases mU h1 hx with rfl|⟨hx,_⟩
     ·have:0<=(getM o.key t).getD 0/\(getM o.key t).getD 0<=n:=by
       cases QV:getM o.key t with
       |none=>simp
       |some y=>have:=h2 _ (gK QV);exact⟨this.1,this.2.1⟩
      exact⟨by simp only;omega,by simp only;omega,hg⟩
     ·have:=h2 x hx;exact⟨this.1,by omega,this.2.2⟩
    ·have hlp:(cI o.key ((getM o.key t).getD 0+1) t).length=((cI o.key ((getM o.key t).getD 0+1) t).map (·.1)).length:=by simp
     rw[hlp,xN];split<;>simp<;>omega
   ·exact⟨h1,λx hx=>by have:=h2 x hx;exact⟨this.1,by omega,this.2.2⟩,by omega⟩
  have:=E9 a b p _ (n+1) fE.1 fE.2.1 fE.2.2;rw[List.foldl_cons,List.length_cons];exact⟨this.1,λx hx=>by have:=this.2.1 x hx;exact⟨this.1,by omega,this.2.2⟩,by omega⟩
theorem ant {t:List (BA×Int)} {k:BA} (h:dK w X nX mb (λk:BA=>aP k) Z6 t) (n:N (I ((getM k t).getD 0))):aZ pg X w (Instr.lookup 370 (.map (some mb)) (.string k) false) N:=by
 refine nh (kt:=9) (et:=3) (kv:=λk:BA=>aP k) (I 0) h xw kQ kQ (λv a hg hv=>?_) (λhg=>?_)
 ·simp only[Z6] at hv;subst hv;rw[hg] at n;exact n
 ·rw[hg] at n;exact n
variable {p : List jr} {a : Value}
theorem M1 {ca cb:Int} (ha:Sl w X 5 a (p.map jr.l)) (hl:p.length<=2^30):
  Ct pg 165 #[a,I ca,I cb] w X nX λv wa w'=>Own w' (made wa w') wa.heap.size 9 1 v ((fj ca cb p).map S1):=by
 intro w0 hk;replace ha:=ha.mv hk.cu;have lN:=ha.ib;refine VA.1 λhs=>?_;refine rE (kv:=λk:BA=>aP k) Z6 nX hs.has λmb w1 X1 W7 aC pr=>?_;replace hs:=hs.trans aC;have rS:=ha.mv hs.mv;repeat' refine ao ?_;intros
 refine gh (λn a w X=> ∃i:Nat,a=I i/\n=p.length-i/\i<=p.length/\aj (bV w0) w0 X w/\dK w X nX mb (λk:BA=>aP k) Z6 ((p.take i).foldl (lf ca cb) [])) p.length ⟨0,rfl,rfl,Nat.zero_le _,hs,pr⟩ ?_;clear hs aC pr rS;rintro n _ w X ⟨i,rfl,rfl,hi,hs,hm⟩;have rS:=ha.mv hs.mv;have nk:=E9 (a:=ca) (b:=cb) (p.take i) [] 0 sQ sQ sQ;have hli:(p.take i).length=i:=by rw[List.length_take];omega
 rw[hli] at nk;rcases dG (p) i with⟨cC,o,hx,hd⟩|⟨dH,hd⟩
 ·have fE:(p.take (i+1)).foldl (lf ca cb) []=lf ca cb ((p.take i).foldl (lf ca cb) []) o:=by rw[List.take_add_one,hx,List.foldl_append];rfl
  generalize (p.take i).foldl (lf ca cb) []=t at fE hm nk;have ajy: ∀{w X},aj (bV w0) w0 X w->dK w X nX mb (λk:BA=>aP k) Z6 t->lf ca cb t o=t->EW (J1 λn a w X=> ∃i:Nat,a=I i/\n=p.length-i/\i<=p.length/\aj (bV w0) w0 X w/\dK w X nX mb (λk:BA=>aP k) Z6 ((p.take i).foldl (lf ca cb) [])) (p.length-i) (I ((i:Int)+1)) w X:=
   λq1 q2 q3=>fp (p.length-(i+1)) zQ ⟨i+1,by simp,rfl,by omega,q1,by rw[fE,q3];exact q2⟩
  by_cases hc:o.code=ca\/o.code=cb
  ·repeat' first|refine aN ?_;intros|refine dq ?_ ?_<;>intros|with_reducible apply cK
   all_goals
    refine se (lB o.key) kQ hs.has λw2 X2 bm=>?_;have oV:=hm.mv Z7 bm.mv (λ_ h=>h.elim) (A':=nX);have cV:=hs.trans bm;by_cases hg:iL o.key=true
    ·rw[hg];have hN:lf ca cb t o=cI o.key ((getM o.key t).getD 0+1) t:=by unfold lf;rw[if_pos ⟨hc,hg⟩]
     have Ut:0<=(getM o.key t).getD 0/\(getM o.key t).getD 0<=i:=by
      cases QV:getM o.key t with
      |none=>simp
      |some y=>have:=nk.2.1 _ (gK QV);exact⟨this.1,by have:=this.2.1;simp at this⊢;omega⟩
     repeat' refine ao ?_;intros
     refine ant oV ?_;repeat' refine ao ?_;intros
     refine vA (kv:=λk:BA=>aP k) (k:=o.key) (a:=(getM o.key t).getD 0+1) (kt:=9) (et:=3) oV Z7 rfl (λ_ h=>h.elim) xw kQ cV.has λw4 X4 c4 Aj=>?_;have fR:aj (bV w0) w0 X4 w4:=cV.eo c4 λg hg e=>by have:g<w0.heap.size:=hg;omega
     repeat' first|refine ao ?_;intros|((with_reducible refine fp ((p).length-(i+1)) ?_ ?_);omega;exact⟨i+1,by simp,rfl,by omega,fR,by rw[fE,hN];exact Aj⟩)
    ·rw[Bool.eq_false_iff.2 hg];have hN:lf ca cb t o=t:=by unfold lf;rw[if_neg (λh=>hg h.2)]
     repeat' first|refine ao ?_;intros|(exact ajy cV oV hN)
  ·have hN:lf ca cb t o=t:=by unfold lf;rw[if_neg (λh=>hc h.1)]
   repeat' first|refine aN ?_;intros|with_reducible apply cK|(exact ajy hs hm hN)
 ·rw[List.take_of_length_le dH] at hm nk;repeat' refine aN ?_;intros
  refine cA akU kQ hs.has ?_;rintro _ wa w2 X2 ⟨bx,rfl,hb⟩ hle gy bm;have oV:=hm.mv Z7 bm.mv (λ_ h=>h.elim) (A':=nX);have M3:=hs.trans bm;refine cA (ago oV (hb.mono gy) (λe he=>by have:=nk.2.1 e he;omega) zQ) kQ M3.has ?_;rintro vs wb w3 X3 ho qy mr cV;have hz:=M3.kp.size;have wV:Own w3 X3 w0.heap.size 9 1 vs ((fL ((p.foldl (lf ca cb) []).map (·.1))).map S1):=ho.up mr zQ;exact cG (M3.trans cV) λFl aL=>(wV.kp aL).tight
theorem AI (ha:Sl w X 5 a (p.map jr.l)) (hl:p.length<=2^30):
  Ct pg 112 #[a] w X nX λv wa w'=>Own w' (made wa w') wa.heap.size 9 1 v ((fj 1 1 p).map S1):=by
 intro w0 hk;replace ha:=ha.mv hk.cu;have hs:=aj.init w0;refine Vw.1 λ_=>?_;refine cA (M1 ha hl) kQ hs.has ?_;rintro v wa w1 X1 ho hle gy aC;exact cG (hs.trans aC) λFl aL=>((ho.up gy hle).kp aL).tight
theorem Z8 (ha:Sl w X 5 a (p.map jr.l)) (hl:p.length<=2^30):
  Ct pg 160 #[a] w X nX λv wa w'=>Own w' (made wa w') wa.heap.size 9 1 v ((fj 2 3 p).map S1):=by
 intro w0 hk;replace ha:=ha.mv hk.cu;have hs:=aj.init w0;refine Vz.1 λ_=>?_;refine cA (M1 ha hl) kQ hs.has ?_;rintro v wa w1 X1 ho hle gy aC;exact cG (hs.trans aC) λFl aL=>((ho.up gy hle).kp aL).tight
def yU:List jr->Int->Int
 |[],_=>0
 |o::r,h=>if¬(1<=o.code/\o.code<=15)then 7 else if EZ o (IN o.code)=false then 4 else if h<tK o.code then 5 else if h+(AF o.code-tK o.code)>16 then 2 else yU r (h+(AF o.code-tK o.code))
def nF (p:List jr):Int:=if 40<p.length then 3 else if yU p 0≠0 then yU p 0 else if 16<(fj 1 1 p).length\/16<(fj 2 3 p).length then 3 else 0
theorem aeD (c:Int):0<=tK c/\tK c<=2/\0<=AF c/\AF c<=2:=by
 unfold tK AF;split
 ·simp
 ·constructor
  ·split;simp;split<;>simp
  ·constructor
   ·split;simp;split<;>simp
   ·split;simp;split<;>simp
theorem Le (ha:Sl w X 5 a (p.map jr.l)):Ct pg 109 #[a] w X nX λv _ _=>v=I (nF p):=by
 intro w0 hk;replace ha:=ha.mv hk.cu;have lN:=ha.ib;refine Vv.1 λhs=>?_;by_cases hl:40<p.length
 ·repeat' first|refine aN ?_;intros|(refine qr ?_;intro wa hk;(unfold nF;rw[if_pos hl]))
 ·repeat' refine aN ?_;intros
  refine gM (λn a b w X=> ∃(i:Nat) (h:Int),a=I i/\b=I h/\0<=h/\h<=16/\n=p.length-i/\i<=p.length/\aj (bV w0) w0 X w/\yU p 0=yU (p.drop i) h) p.length ⟨0,0,rfl,rfl,by omega,by omega,rfl,Nat.zero_le _,hs,rfl⟩ ?_;clear hs;rintro n _ _ w X ⟨i,h,rfl,rfl,h0,h1,rfl,hi,hs,hw⟩;have rS:=ha.mv hs.mv;rcases dG (p) i with⟨cC,o,hx,hd⟩|⟨dH,hd⟩
  ·rw[hd,yU] at hw;have hb:=aeD o.code;repeat' refine aN ?_;intros
   refine se (agn o.code) kQ hs.has λw1 X1 aC=>?_;replace hs:=hs.trans aC;clear rS aC;by_cases hc:1<=o.code/\o.code<=15
   ·rw[if_neg (λh=>h hc)] at hw;rw[decide_eq_true hc];repeat' first|refine ao ?_;intros|refine dq ?_ ?_<;>intros|(refine kR (abm _ _) hs ?_ ?_<;>intro _ w X hs)|((with_reducible refine fK ((p).length-(i+1)) ?_ ?_);omega;exact⟨i+1,_,by simp,rfl,by omega,by omega,rfl,by omega,hs,by simp_all⟩)|(refine qr ?_;intro wa hk;(unfold nF;rw[if_neg hl];simp_all))
    done
   ·rw[if_pos hc] at hw;rw[decide_eq_false hc];repeat' first|refine ao ?_;intros|(refine qr ?_;intro wa hk;(unfold nF;rw[if_neg hl,hw];rfl))
  ·rw[hd,yU] at hw;repeat' refine aN ?_;intros
   refine cA (AI rS zQ) kQ hs.has ?_;rintro v1 wa w1 X1 uT hle gy aC;have Of:=rS.since aC;have Cl:=(uT.mono gy).sl;have bm:=hs.trans aC;clear hs aC rS;by_cases hr:16<(fj 1 1 p).length
   ·have hc:nF p=3:=by unfold nF;rw[if_neg hl,if_neg zQ,if_pos (.inl hr)]
    have hs:=bm;repeat' first|refine aN ?_;intros|with_reducible apply cK|(refine qr ?_;intro wa hk;(rw[hc]))
    done
   ·have hs:=bm;repeat' first|refine aN ?_;intros|with_reducible apply cK
    refine cA (Z8 Of zQ) kQ bm.has ?_;rintro v3 wb w3 X3 Mb qy mr cV;have acO:=(Mb.mono mr).sl;replace hs:=bm.trans cV;by_cases hn:16<(fj 2 3 p).length
    ·have hc:nF p=3:=by unfold nF;rw[if_neg hl,if_neg zQ,if_pos (.inr hn)]
     repeat' first|refine aN ?_;intros|(refine qr ?_;intro wa hk;(rw[hc]))
    ·have hc:nF p=0:=by unfold nF;rw[if_neg hl,if_neg zQ,if_neg (λh=>h.elim hr hn)]
     repeat' first|refine aN ?_;intros|(refine qr ?_;intro wa hk;(rw[hc]))
end Go.Proofs.YtgfijddlkhkopaaGreat