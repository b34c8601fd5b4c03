/-
 Part 11 of the proof: what the last text leans on.
-/
import Derived.Shelf.SlIter.Nil
import Derived.Shelf.SlIterI.Nil
import Derived.Shelf.SortM.Plain
import Derived.Shelf.SortM.SortNone
import Derived.Shelf.SlSortCmp.WholeK
import Derived.Ground.GgzProg
import Derived.Ground.SlgmProg
import Derived.Ground.SlsfProg
import Derived.Shelf.SlGeneric
import Derived.Test.YtbpnemeooenpmaaGreatProg
import Derived.Test.YtbpnemeooenpmaaGreatH10
open Go.Value renaming string → bB
open List renaming map_map → dt, length_map → aI, mergeSort_perm → oQ, map_congr_left → fE, toList_toArray → dg, pairwise_mergeSort → rA
open Go.Shelf renaming Ren → iX
open Go.Fence renaming wide → eT
open Go.DataW renaming insert → rI
open List.Perm renaming refl → pf
open Nat renaming le_trans → ah
open Go.Proofs.SlLaysZ renaming n7 → nU, n6 → BS
open Go.WideElems renaming rg → jY, rd → nV
open Function renaming comp_def → gY
open ByteArray renaming size → zH
open Go.Builtin renaming max_ → BT, max2 → BU
open Go.Proofs.SlLaysM renaming n6 → BV, n5 → BW
open Go.Proofs.SlLaysZI renaming n6 → Bj, n7 → Bl
set_option linter.unusedVariables false
set_option linter.unusedSimpArgs false
namespace Go.Proofs
open Go.Proofs.Tryz renaming prog → pg
open Go.Shelf
def Tryz.LO:iX:=⟨fun|6=>47|8=>106|9=>92|11=>170|13=>162|12=>161|23=>225|24=>226|14=>216|15=>217|16=>218|17=>219|18=>220|19=>221|20=>222|21=>223|22=>224|25=>283|26=>284|27=>285|28=>286|29=>287|30=>288|31=>316|n=>n,fun|26=>9|28=>145|24=>31|0=>0|3=>3|37=>132|48=>326|50=>130|4=>4|40=>356|39=>355|45=>361|5=>5|9=>9|51=>411|55=>262|57=>439|58=>440|33=>219|n=>n,fun|n=>n⟩
theorem Tryz.afM:BS pg Tryz.LO:= {
 mixed:=by kernel_rfl
 f6:=⟨Tryz.f47.name,by decide,Tryz.func47.trans (congrArg some (by kernel_rfl))⟩
 f8:=⟨Tryz.f106.name,by decide,Tryz.func106.trans (congrArg some (by kernel_rfl))⟩
 f11:=⟨Tryz.f170.name,by decide,Tryz.func170.trans (congrArg some (by kernel_rfl))⟩
 t0:=Tryz.underlying0
 a0:=Tryz.isAgg0
 z0:=Tryz.sizeOf0
 v0:=Tryz.zeroValue0
 t24:=Tryz.underlying31
 a24:=Tryz.isAgg31
 z24:=Tryz.sizeOf31
 v24:=Tryz.zeroValue31
 t26:=Tryz.underlying9
 a26:=Tryz.isAgg9
 z26:=Tryz.sizeOf9
 v26:=Tryz.zeroValue9
 t28:=Tryz.underlying145
 a28:=Tryz.isAgg145
 z28:=Tryz.sizeOf145
 v28:=Tryz.zeroValue145
 i26:=by kernel_rfl }
def Tryz.abp:iX:=⟨fun|6=>92|8=>162|9=>161|19=>225|20=>226|21=>216|22=>217|23=>218|24=>219|25=>220|26=>221|27=>222|28=>223|29=>224|36=>283|31=>284|32=>285|37=>286|38=>287|39=>288|41=>316|n=>n,fun|27=>31|29=>9|3=>3|32=>132|26=>31|0=>0|44=>326|46=>130|4=>4|36=>356|35=>355|41=>361|5=>5|9=>9|53=>411|57=>262|63=>439|64=>440|n=>n,fun|n=>n⟩
theorem Tryz.Tu:BV pg Tryz.abp:= {
 mixed:=by kernel_rfl
 f6:=⟨Tryz.f92.name,by decide,Tryz.func92.trans (congrArg some (by kernel_rfl))⟩
 f8:=Tryz.func162.trans (congrArg some (by kernel_rfl))
 f9:=⟨Tryz.f161.name,by decide,Tryz.func161.trans (congrArg some (by kernel_rfl))⟩
 f19:=Tryz.func225.trans (congrArg some (by kernel_rfl))
 f20:=Tryz.func226.trans (congrArg some (by kernel_rfl))
 f21:=⟨Tryz.f216.name,by decide,Tryz.func216.trans (congrArg some (by kernel_rfl))⟩
 f22:=⟨Tryz.f217.name,by decide,Tryz.func217.trans (congrArg some (by kernel_rfl))⟩
 f23:=⟨Tryz.f218.name,by decide,Tryz.func218.trans (congrArg some (by kernel_rfl))⟩
 f24:=⟨Tryz.f219.name,by decide,Tryz.func219.trans (congrArg some (by kernel_rfl))⟩
 f25:=⟨Tryz.f220.name,by decide,Tryz.func220.trans (congrArg some (by kernel_rfl))⟩
 f26:=⟨Tryz.f221.name,by decide,Tryz.func221.trans (congrArg some (by kernel_rfl))⟩
 f27:=⟨Tryz.f222.name,by decide,Tryz.func222.trans (congrArg some (by kernel_rfl))⟩
 f28:=⟨Tryz.f223.name,by decide,Tryz.func223.trans (congrArg some (by kernel_rfl))⟩
 f29:=⟨Tryz.f224.name,by decide,Tryz.func224.trans (congrArg some (by kernel_rfl))⟩
 f31:=Tryz.func284.trans (congrArg some (by kernel_rfl))
 f32:=Tryz.func285.trans (congrArg some (by kernel_rfl))
 f36:=⟨Tryz.f283.name,by decide,Tryz.func283.trans (congrArg some (by kernel_rfl))⟩
 f37:=⟨Tryz.f286.name,by decide,Tryz.func286.trans (congrArg some (by kernel_rfl))⟩
 f38:=⟨Tryz.f287.name,by decide,Tryz.func287.trans (congrArg some (by kernel_rfl))⟩
 f39:=⟨Tryz.f288.name,by decide,Tryz.func288.trans (congrArg some (by kernel_rfl))⟩
 f41:=⟨Tryz.f316.name,by decide,Tryz.func316.trans (congrArg some (by kernel_rfl))⟩
 t0:=Tryz.underlying0
 a0:=Tryz.isAgg0
 z0:=Tryz.sizeOf0
 v0:=Tryz.zeroValue0
 t3:=Tryz.underlying3
 a3:=Tryz.isAgg3
 z3:=Tryz.sizeOf3
 v3:=Tryz.zeroValue3
 t4:=Tryz.underlying4
 a4:=Tryz.isAgg4
 z4:=Tryz.sizeOf4
 v4:=Tryz.zeroValue4
 t5:=Tryz.underlying5
 a5:=Tryz.isAgg5
 z5:=Tryz.sizeOf5
 v5:=Tryz.zeroValue5
 t9:=Tryz.underlying9
 a9:=Tryz.isAgg9
 z9:=Tryz.sizeOf9
 v9:=Tryz.zeroValue9
 t26:=Tryz.underlying31
 a26:=Tryz.isAgg31
 z26:=Tryz.sizeOf31
 v26:=Tryz.zeroValue31
 t27:=Tryz.underlying31
 a27:=Tryz.isAgg31
 z27:=Tryz.sizeOf31
 v27:=Tryz.zeroValue31
 t29:=Tryz.underlying9
 a29:=Tryz.isAgg9
 z29:=Tryz.sizeOf9
 v29:=Tryz.zeroValue9
 t32:=Tryz.underlying132
 a32:=Tryz.isAgg132
 z32:=Tryz.sizeOf132
 v32:=Tryz.zeroValue132
 t35:=Tryz.underlying355
 a35:=Tryz.isAgg355
 z35:=Tryz.sizeOf355
 v35:=Tryz.zeroValue355
 t36:=Tryz.underlying356
 a36:=Tryz.isAgg356
 z36:=Tryz.sizeOf356
 v36:=Tryz.zeroValue356
 t41:=Tryz.underlying361
 a41:=Tryz.isAgg361
 z41:=Tryz.sizeOf361
 v41:=Tryz.zeroValue361
 t44:=Tryz.underlying326
 a44:=Tryz.isAgg326
 z44:=Tryz.sizeOf326
 v44:=Tryz.zeroValue326
 t46:=Tryz.underlying130
 a46:=Tryz.isAgg130
 z46:=Tryz.sizeOf130
 v46:=Tryz.zeroValue130
 t53:=Tryz.underlying411
 a53:=Tryz.isAgg411
 z53:=Tryz.sizeOf411
 v53:=Tryz.zeroValue411
 t57:=Tryz.underlying262
 a57:=Tryz.isAgg262
 z57:=Tryz.sizeOf262
 v57:=Tryz.zeroValue262
 t63:=Tryz.underlying439
 a63:=Tryz.isAgg439
 z63:=Tryz.sizeOf439
 v63:=Tryz.zeroValue439
 t64:=Tryz.underlying440
 a64:=Tryz.isAgg440
 z64:=Tryz.sizeOf440
 v64:=Tryz.zeroValue440 }
def Tryz.LP:iX:=⟨fun|6=>154|8=>212|9=>213|11=>273|13=>162|12=>274|23=>225|24=>226|14=>304|15=>305|16=>306|17=>307|18=>308|19=>309|20=>310|21=>311|22=>312|25=>320|26=>284|27=>285|28=>321|29=>322|30=>323|31=>328|n=>n,fun|26=>3|28=>294|24=>34|0=>0|3=>3|37=>132|48=>326|50=>130|4=>4|40=>356|39=>355|45=>361|5=>5|9=>9|51=>411|55=>262|57=>439|58=>440|33=>236|n=>n,fun|n=>n⟩
theorem Tryz.afN:Bj pg Tryz.LP:= {
 mixed:=by kernel_rfl
 f6:=⟨Tryz.f154.name,by decide,Tryz.func154.trans (congrArg some (by kernel_rfl))⟩
 f8:=⟨Tryz.f212.name,by decide,Tryz.func212.trans (congrArg some (by kernel_rfl))⟩
 f11:=⟨Tryz.f273.name,by decide,Tryz.func273.trans (congrArg some (by kernel_rfl))⟩
 t0:=Tryz.underlying0
 a0:=Tryz.isAgg0
 z0:=Tryz.sizeOf0
 v0:=Tryz.zeroValue0
 t24:=Tryz.underlying34
 a24:=Tryz.isAgg34
 z24:=Tryz.sizeOf34
 v24:=Tryz.zeroValue34
 t26:=Tryz.underlying3
 a26:=Tryz.isAgg3
 z26:=Tryz.sizeOf3
 v26:=Tryz.zeroValue3
 t28:=Tryz.underlying294
 a28:=Tryz.isAgg294
 z28:=Tryz.sizeOf294
 v28:=Tryz.zeroValue294
 i26:=by kernel_rfl }
def Tryz.abq:iX:=⟨fun|5=>213|8=>162|7=>274|19=>225|20=>226|10=>304|11=>305|12=>306|13=>307|14=>308|15=>309|16=>310|17=>311|18=>312|30=>320|31=>284|32=>285|33=>321|34=>322|35=>323|40=>328|n=>n,fun|23=>34|25=>3|3=>3|32=>132|22=>34|0=>0|44=>326|46=>130|4=>4|36=>356|35=>355|41=>361|5=>5|9=>9|53=>411|57=>262|63=>439|64=>440|n=>n,fun|n=>n⟩
theorem Tryz.afi:BW pg Tryz.abq:= {
 mixed:=by kernel_rfl
 f5:=⟨Tryz.f213.name,by decide,Tryz.func213.trans (congrArg some (by kernel_rfl))⟩
 f7:=⟨Tryz.f274.name,by decide,Tryz.func274.trans (congrArg some (by kernel_rfl))⟩
 f8:=Tryz.func162.trans (congrArg some (by kernel_rfl))
 f10:=⟨Tryz.f304.name,by decide,Tryz.func304.trans (congrArg some (by kernel_rfl))⟩
 f11:=⟨Tryz.f305.name,by decide,Tryz.func305.trans (congrArg some (by kernel_rfl))⟩
 f12:=⟨Tryz.f306.name,by decide,Tryz.func306.trans (congrArg some (by kernel_rfl))⟩
 f13:=⟨Tryz.f307.name,by decide,Tryz.func307.trans (congrArg some (by kernel_rfl))⟩
 f14:=⟨Tryz.f308.name,by decide,Tryz.func308.trans (congrArg some (by kernel_rfl))⟩
 f15:=⟨Tryz.f309.name,by decide,Tryz.func309.trans (congrArg some (by kernel_rfl))⟩
 f16:=⟨Tryz.f310.name,by decide,Tryz.func310.trans (congrArg some (by kernel_rfl))⟩
 f17:=⟨Tryz.f311.name,by decide,Tryz.func311.trans (congrArg some (by kernel_rfl))⟩
 f18:=⟨Tryz.f312.name,by decide,Tryz.func312.trans (congrArg some (by kernel_rfl))⟩
 f19:=Tryz.func225.trans (congrArg some (by kernel_rfl))
 f20:=Tryz.func226.trans (congrArg some (by kernel_rfl))
 f30:=⟨Tryz.f320.name,by decide,Tryz.func320.trans (congrArg some (by kernel_rfl))⟩
 f31:=Tryz.func284.trans (congrArg some (by kernel_rfl))
 f32:=Tryz.func285.trans (congrArg some (by kernel_rfl))
 f33:=⟨Tryz.f321.name,by decide,Tryz.func321.trans (congrArg some (by kernel_rfl))⟩
 f34:=⟨Tryz.f322.name,by decide,Tryz.func322.trans (congrArg some (by kernel_rfl))⟩
 f35:=⟨Tryz.f323.name,by decide,Tryz.func323.trans (congrArg some (by kernel_rfl))⟩
 f40:=⟨Tryz.f328.name,by decide,Tryz.func328.trans (congrArg some (by kernel_rfl))⟩
 t0:=Tryz.underlying0
 a0:=Tryz.isAgg0
 z0:=Tryz.sizeOf0
 v0:=Tryz.zeroValue0
 t3:=Tryz.underlying3
 a3:=Tryz.isAgg3
 z3:=Tryz.sizeOf3
 v3:=Tryz.zeroValue3
 t4:=Tryz.underlying4
 a4:=Tryz.isAgg4
 z4:=Tryz.sizeOf4
 v4:=Tryz.zeroValue4
 t5:=Tryz.underlying5
 a5:=Tryz.isAgg5
 z5:=Tryz.sizeOf5
 v5:=Tryz.zeroValue5
 t9:=Tryz.underlying9
 a9:=Tryz.isAgg9
 z9:=Tryz.sizeOf9
 v9:=Tryz.zeroValue9
 t22:=Tryz.underlying34
 a22:=Tryz.isAgg34
 z22:=Tryz.sizeOf34
 v22:=Tryz.zeroValue34
 t23:=Tryz.underlying34
 a23:=Tryz.isAgg34
 z23:=Tryz.sizeOf34
 v23:=Tryz.zeroValue34
 t25:=Tryz.underlying3
 a25:=Tryz.isAgg3
 z25:=Tryz.sizeOf3
 v25:=Tryz.zeroValue3
 t32:=Tryz.underlying132
 a32:=Tryz.isAgg132
 z32:=Tryz.sizeOf132
 v32:=Tryz.zeroValue132
 t35:=Tryz.underlying355
 a35:=Tryz.isAgg355
 z35:=Tryz.sizeOf355
 v35:=Tryz.zeroValue355
 t36:=Tryz.underlying356
 a36:=Tryz.isAgg356
 z36:=Tryz.sizeOf356
 v36:=Tryz.zeroValue356
 t41:=Tryz.underlying361
 a41:=Tryz.isAgg361
 z41:=Tryz.sizeOf361
 v41:=Tryz.zeroValue361
 t44:=Tryz.underlying326
 a44:=Tryz.isAgg326
 z44:=Tryz.sizeOf326
 v44:=Tryz.zeroValue326
 t46:=Tryz.underlying130
 a46:=Tryz.isAgg130
 z46:=Tryz.sizeOf130
 v46:=Tryz.zeroValue130
 t53:=Tryz.underlying411
 a53:=Tryz.isAgg411
 z53:=Tryz.sizeOf411
 v53:=Tryz.zeroValue411
 t57:=Tryz.underlying262
 a57:=Tryz.isAgg262
 z57:=Tryz.sizeOf262
 v57:=Tryz.zeroValue262
 t63:=Tryz.underlying439
 a63:=Tryz.isAgg439
 z63:=Tryz.sizeOf439
 v63:=Tryz.zeroValue439
 t64:=Tryz.underlying440
 a64:=Tryz.isAgg440
 z64:=Tryz.sizeOf440
 v64:=Tryz.zeroValue440 }
def Tryz.RA:iX:=⟨fun|7=>127|10=>182|n=>n,fun|23=>107|26=>9|3=>253|28=>145|0=>0|27=>144|33=>219|4=>4|n=>n,fun|n=>n⟩
theorem Tryz.ajj:nU pg Tryz.RA:= {
 mixed:=by kernel_rfl
 f7:=⟨Tryz.f127.name,by decide,Tryz.func127.trans (congrArg some (by kernel_rfl))⟩
 f10:=⟨Tryz.f182.name,by decide,Tryz.func182.trans (congrArg some (by kernel_rfl))⟩
 t0:=Tryz.underlying0
 a0:=Tryz.isAgg0
 z0:=Tryz.sizeOf0
 v0:=Tryz.zeroValue0
 t4:=Tryz.underlying4
 a4:=Tryz.isAgg4
 z4:=Tryz.sizeOf4
 v4:=Tryz.zeroValue4
 t23:=Tryz.underlying107
 a23:=Tryz.isAgg107
 z23:=Tryz.sizeOf107
 v23:=Tryz.zeroValue107
 t26:=Tryz.underlying9
 a26:=Tryz.isAgg9
 z26:=Tryz.sizeOf9
 v26:=Tryz.zeroValue9
 t27:=Tryz.underlying144
 a27:=Tryz.isAgg144
 z27:=Tryz.sizeOf144
 v27:=Tryz.zeroValue144
 t28:=Tryz.underlying145
 a28:=Tryz.isAgg145
 z28:=Tryz.sizeOf145
 v28:=Tryz.zeroValue145
 t33:=Tryz.underlying219
 a33:=Tryz.isAgg219
 z33:=Tryz.sizeOf219
 v33:=Tryz.zeroValue219 }
def Tryz.RC:iX:=⟨fun|7=>48|10=>107|n=>n,fun|23=>133|26=>9|3=>62|28=>145|0=>0|27=>144|33=>219|4=>4|n=>n,fun|n=>n⟩
theorem Tryz.ajk:nU pg Tryz.RC:= {
 mixed:=by kernel_rfl
 f7:=⟨Tryz.f48.name,by decide,Tryz.func48.trans (congrArg some (by kernel_rfl))⟩
 f10:=⟨Tryz.f107.name,by decide,Tryz.func107.trans (congrArg some (by kernel_rfl))⟩
 t0:=Tryz.underlying0
 a0:=Tryz.isAgg0
 z0:=Tryz.sizeOf0
 v0:=Tryz.zeroValue0
 t4:=Tryz.underlying4
 a4:=Tryz.isAgg4
 z4:=Tryz.sizeOf4
 v4:=Tryz.zeroValue4
 t23:=Tryz.underlying133
 a23:=Tryz.isAgg133
 z23:=Tryz.sizeOf133
 v23:=Tryz.zeroValue133
 t26:=Tryz.underlying9
 a26:=Tryz.isAgg9
 z26:=Tryz.sizeOf9
 v26:=Tryz.zeroValue9
 t27:=Tryz.underlying144
 a27:=Tryz.isAgg144
 z27:=Tryz.sizeOf144
 v27:=Tryz.zeroValue144
 t28:=Tryz.underlying145
 a28:=Tryz.isAgg145
 z28:=Tryz.sizeOf145
 v28:=Tryz.zeroValue145
 t33:=Tryz.underlying219
 a33:=Tryz.isAgg219
 z33:=Tryz.sizeOf219
 v33:=Tryz.zeroValue219 }
def Tryz.RD:iX:=⟨fun|7=>98|10=>165|n=>n,fun|23=>222|26=>9|3=>3|28=>145|0=>0|27=>144|33=>219|4=>4|n=>n,fun|n=>n⟩
theorem Tryz.ajl:nU pg Tryz.RD:= {
 mixed:=by kernel_rfl
 f7:=⟨Tryz.f98.name,by decide,Tryz.func98.trans (congrArg some (by kernel_rfl))⟩
 f10:=⟨Tryz.f165.name,by decide,Tryz.func165.trans (congrArg some (by kernel_rfl))⟩
 t0:=Tryz.underlying0
 a0:=Tryz.isAgg0
 z0:=Tryz.sizeOf0
 v0:=Tryz.zeroValue0
 t4:=Tryz.underlying4
 a4:=Tryz.isAgg4
 z4:=Tryz.sizeOf4
 v4:=Tryz.zeroValue4
 t23:=Tryz.underlying222
 a23:=Tryz.isAgg222
 z23:=Tryz.sizeOf222
 v23:=Tryz.zeroValue222
 t26:=Tryz.underlying9
 a26:=Tryz.isAgg9
 z26:=Tryz.sizeOf9
 v26:=Tryz.zeroValue9
 t27:=Tryz.underlying144
 a27:=Tryz.isAgg144
 z27:=Tryz.sizeOf144
 v27:=Tryz.zeroValue144
 t28:=Tryz.underlying145
 a28:=Tryz.isAgg145
 z28:=Tryz.sizeOf145
 v28:=Tryz.zeroValue145
 t33:=Tryz.underlying219
 a33:=Tryz.isAgg219
 z33:=Tryz.sizeOf219
 v33:=Tryz.zeroValue219 }
def Tryz.RE:iX:=⟨fun|7=>155|10=>214|n=>n,fun|23=>290|26=>3|3=>31|28=>294|0=>0|27=>293|33=>236|4=>4|n=>n,fun|n=>n⟩
theorem Tryz.ajm:Bl pg Tryz.RE:= {
 mixed:=by kernel_rfl
 f7:=⟨Tryz.f155.name,by decide,Tryz.func155.trans (congrArg some (by kernel_rfl))⟩
 f10:=⟨Tryz.f214.name,by decide,Tryz.func214.trans (congrArg some (by kernel_rfl))⟩
 t0:=Tryz.underlying0
 a0:=Tryz.isAgg0
 z0:=Tryz.sizeOf0
 v0:=Tryz.zeroValue0
 t4:=Tryz.underlying4
 a4:=Tryz.isAgg4
 z4:=Tryz.sizeOf4
 v4:=Tryz.zeroValue4
 t23:=Tryz.underlying290
 a23:=Tryz.isAgg290
 z23:=Tryz.sizeOf290
 v23:=Tryz.zeroValue290
 t26:=Tryz.underlying3
 a26:=Tryz.isAgg3
 z26:=Tryz.sizeOf3
 v26:=Tryz.zeroValue3
 t27:=Tryz.underlying293
 a27:=Tryz.isAgg293
 z27:=Tryz.sizeOf293
 v27:=Tryz.zeroValue293
 t28:=Tryz.underlying294
 a28:=Tryz.isAgg294
 z28:=Tryz.sizeOf294
 v28:=Tryz.zeroValue294
 t33:=Tryz.underlying236
 a33:=Tryz.isAgg236
 z33:=Tryz.sizeOf236
 v33:=Tryz.zeroValue236 }
end Go.Proofs
namespace Go.Proofs.YtbpnemeooenpmaaGreat
open Go.Proofs.Tryz renaming prog → pg
open Go.aR Go.RowKit Go.Maps Go.Sort Go.Shelf Go.Proofs
set_option maxRecDepth 100000
set_option maxHeartbeats 1000000
set_option linter.unusedVariables false
set_option linter.unusedSimpArgs false
theorem insert_perm {H:Type} (x:Lit×DataW H): ∀l:List (Lit×DataW H),(rI x l).Perm (x::l)
 |[]=>pf _
 |y::r=>by
  unfold rI;split
  ·exact pf _
  ·exact((insert_perm x r).cons y).trans (List.Perm.swap x y r)
theorem s9 {H:Type} : ∀l:List (Lit×DataW H),(l.foldr rI []).Perm l
 |[]=>pf _
 |x::l=>(insert_perm x _).trans ((s9 l).cons x)
def RT:Value→Option (DataW Unit×List MemPlace):=fun _=>some (.lit (.bool true),[])
theorem Xa {P:Program} {w:World} {X:XS} {b kt c:Nat} {es:List (gB ByteArray)} (h:jQ w X b bB es c) (hk:P.underlying kt=some .string) (hs: ∀x∈es,x.1.size≤2^40) (hl:es.length≤2^40):
  ∃D0:DataW Unit,w.ownsMap P kt RT b es.length D0∧Maps.size D0=es.length∧(strKeys D0).Perm (es.map fun x=>x.1.data.toList):=by
 have BX:(2:Nat)^40≤maxLen:=by decide
 have acX: ∀x∈es,keyOf P kt (.string x.1)=some (.string x.1.data.toList):=fun x hx=>by
  unfold keyOf mapKey;rw [hk];simp [ah (hs x hx) BX]
 have qs: ∀x∈es,nV P kt RT (jj bB x)=some (.string x.1.data.toList,.lit (.bool true)):=fun x hx=>by
  unfold nV jj RT;simp [acX x hx]
 have acY:(es.map (jj bB)).map (jY P kt RT)=es.map fun x=>((.string x.1.data.toList:Lit),(.lit (.bool true):DataW Unit)):=by
  rw [dt];apply fE;intro x hx;simp only [Function.comp,jY,qs x hx,Option.getD_some]
 refine⟨.map (((es.map (jj bB)).map (jY P kt RT)).foldr rI []),⟨_,c,h.2.1,⟨?_,⟨?_,?_,?_⟩,?_⟩,by simp,by simp⟩,?_,?_⟩
 ·simpa using ah hl BX
 ·intro x hx;simp only [dg,List.mem_map] at hx;obtain⟨y,hy,rfl⟩:=hx;exact h.2.2.2.2 y hy
 ·have:=h.2.2.2.1;simpa [dt,gY,jj] using this
 ·have h1:=h.2.2.1;have e:((es.map (jj bB)).toArray.toList.map (·.key))=(es.map (·.1)).map bB:=by simp [dt,gY,jj]
  rw [e];exact List.Pairwise.map bB (fun a b ta e=>ta (by cases e;rfl)) h1
 ·intro x hx;simp only [dg,List.mem_map] at hx;obtain⟨y,hy,rfl⟩:=hx;exact⟨_,qs y hy⟩
 ·show List.length _=_
  rw [(s9 _).length_eq];simp
 ·show(List.map _ _).Perm _
  refine((s9 _).map _).trans ?_;rw [acY,dt];exact pf _
def leB (x y:List UInt8):Bool:=decide (x≤y)
def bl (s:ByteArray):List UInt8:=s.data.toList
theorem afj (s:ByteArray):(⟨(bl s).toArray⟩:ByteArray)=s:=by unfold bl;simp
def gu (ks:List ByteArray):List ByteArray:=((ks.map bl).mergeSort leB).map fun x=>⟨x.toArray⟩
theorem RF: ∀a b c:List UInt8,leB a b=true→leB b c=true→leB a c=true:=fun a b c h1 h2=>by
 unfold leB at*;simp only [decide_eq_true_eq] at*;exact List.le_trans h1 h2
theorem RG: ∀a b:List UInt8,(leB a b||leB b a)=true:=fun a b=>by
 unfold leB;rcases List.le_total a b with h|h<;>simp [h]
theorem acZ: ∀a b:List UInt8,leB a b=true→leB b a=true→a=b:=fun a b h1 h2=>by
 unfold leB at*;simp only [decide_eq_true_eq] at*;exact List.le_antisymm h1 h2
theorem RH: ∀{l l':List (List UInt8)},l.Perm l'→l.Pairwise (fun a b=>leB a b=true)→l'.Pairwise (fun a b=>leB a b=true)→l=l'
 |[],l',hp,_,_=>(List.Perm.nil_eq hp)
 |a::l,[],hp,_,_=>absurd hp.length_eq (by simp)
 |a::l,b::l',hp,h1,h2=>by
  have Iy:=List.pairwise_cons.1 h1;have h2':=List.pairwise_cons.1 h2;have ta:a=b:=by
   have ha:a∈b::l':=hp.mem_iff.1 (by simp);have hb:b∈a::l:=hp.mem_iff.2 (by simp);rcases List.mem_cons.1 ha with e|ha
   ·exact e
   ·rcases List.mem_cons.1 hb with e|hb
    ·exact e.symm
    ·exact acZ a b (Iy.1 b hb) (h2'.1 a ha)
  subst ta;rw [RH (List.Perm.cons_inv hp) Iy.2 h2'.2]
theorem RI {l l':List (List UInt8)} (h:l.Perm l'):l.mergeSort leB=l'.mergeSort leB:=
 RH (((oQ l leB).trans h).trans (oQ l' leB).symm) (rA RF RG l) (rA RF RG l')
theorem kL (ks:List ByteArray):(gu ks).Perm ks:=by
 have h:=(oQ (ks.map bl) leB).map fun x=>(⟨x.toArray⟩:ByteArray);rw [dt] at h;have e:(ks.map ((fun x=>(⟨x.toArray⟩:ByteArray))∘bl))=ks:=by
  conv=>rhs;rw [←List.map_id ks]
  apply fE;intro x _;exact afj x
 rw [e] at h;exact h
theorem ac0 {ks Yq:List ByteArray} (h:ks.Perm Yq):gu ks=gu Yq:=by unfold gu;rw [RI (h.map bl)]
theorem ac1 (m:Nat):AnyZ.SortsIn pg Tryz.LO eT m:=
  ⟨fun cZ off cap ss W hH hblk fK=>callsIn_wide.2 (AnyM.slices_Sort_string Tryz.Tu cZ off cap ss W hH hblk fK),
   fun p cap W=>callsIn_wide.2 (AnyM.slices_Sort_string_none Tryz.Tu p cap W)⟩
theorem MI {g:FuncId} {lb:Array Value} {w:World} {X A:XS} {mb:Nat} {α:Type} {rd:World→XS→Value→α→Prop} {l:List (ByteArray×α)} (h:dS w X A mb bB rd l) (eg:enters pg g=true)
  (hs: ∀x∈l,x.1.size≤2^40) (hl:l.length≤2^40)
  (hg: ∀wa,Kp X w wa→ ∀(nn:Nat) (D0:DataW Unit),wa.ownsMap pg 9 RT mb nn D0→SeqGives eT 2 pg g lb encStr (fun ss=>ss.Perm (strKeys D0)) (Maps.size D0) wa):
  Ct pg 47 #[.func (.func g) #[] lb] w X nX fun v wa w'=>Own w' (made wa w') wa.heap.size 9 1 v ((gu (l.map (·.1))).map S1):=by
 intro wa hk;obtain⟨es,c,h1,h2⟩:=h;have Bn:=h2.keys;have hlen:es.length=l.length:=by have:=congrArg List.length Bn;simpa using this
 obtain⟨D0,sj,fK,Oc⟩:=Xa (P:=pg) (h1.kp hk) (kt:=9) kQ (fun x hx=>by
  have:x.1∈l.map (·.1):=by rw [←Bn];exact List.mem_map.2 ⟨x,hx,rfl⟩
  obtain⟨y,hy,e⟩:=List.mem_map.1 this;rw [←e];exact hs y hy) zQ
 have BX:(2:Nat)^40≤maxLen:=by decide
 have hS:=callsIn_wide.1 (AnyZ.sorted_in Tryz.afM eT 5 trivial trivial trivial trivial rfl zQ (ac1 _) (fun args w=>kM kQ args w) g lb trivial (fun args w=>kM eg args w) _ _ zQ zQ wa (hg wa hk _ D0 sj));refine hS.mono ?_;rintro e w' ⟨v,ss,rfl,hp,bJ,agY,hb⟩;have hx:Ext wa w':=⟨hb.os,hb.tape,hb.output,hb.size,fun k af _=>hb.block k af⟩;refine⟨v,rfl,hx,?_⟩;have e1:ss.mergeSort (fun x y=>decide (x≤y))=(l.map fun x=>bl x.1).mergeSort leB:=by
  have hp2:ss.Perm (l.map fun x=>bl x.1):=by
   refine hp.trans (Oc.trans ?_);have:(es.map fun x=>x.1.data.toList)=(l.map fun x=>bl x.1):=by
    have:=congrArg (List.map bl) Bn;simpa [dt,gY,bl] using this
   rw [this]
  exact RI hp2
 have e2:((ss.mergeSort (fun x y=>decide (x≤y))).map encStr)=((gu (l.map (·.1))).map S1).flatten:=by
  rw [e1];unfold gu;rw [dt,dt];have e3: ∀q:List (List UInt8),q.map encStr=(q.map (S1∘fun x=>(⟨x.toArray⟩:ByteArray))).flatten:=fun q=>by
   induction q with
   |nil=>rfl
   |cons a q ih=>simp only [List.map_cons,List.flatten_cons,←ih];rfl
  exact e3 _
 have oH:ss.length=((gu (l.map (·.1))).map S1).length:=by
  rw [aI,(kL _).length_eq,aI,←hlen];have:=hp.length_eq;rw [this,Oc.length_eq,aI]
 refine⟨fun r hr=>by obtain⟨x,_,rfl⟩:=List.mem_map.1 hr;rfl,?_,fun q hq=>⟨?_,?_⟩⟩
 ·rw [←oH,←e2];exact bJ
 ·exact(bJ.lt _ hq).1
 ·exact(bJ.lt _ hq).2
end Go.Proofs.YtbpnemeooenpmaaGreat
namespace Go.Proofs.YtbpnemeooenpmaaGreat
open Go.Proofs.Tryz renaming prog → pg
open Go.aR Go.Maps Go.Shelf
set_option maxRecDepth 100000
set_option maxHeartbeats 1000000
set_option linter.unusedVariables false
set_option linter.unusedSimpArgs false
attribute [local irreducible] un jn aB aS ld1 dY st1 dr cB kN dw lR uK sP fC e6 ae aC aJ eW eV eU eC eF gE ay fin aQ aF aE vS xh gG gS qK uL sQ xi xj xk gz gP qL uM sR xl xm
theorem afO {w:World} {X:XS} {mb:Nat} :Ct pg 127 #[.map (some mb)] w X nX fun v wa w'=> ∃bx,v= .func (.func 182) #[] #[ptr bx 0]∧a7 w' (made wa w') bx [.map (some mb)] 107:=by
 intro w0 hk;apply nk;unfold iI;have hs:=ak.init w0;refine td rfl hs.has fun bx w1 X1 gh au bJ=>?_;repeat' first|refine aL ?_;intros
 exact aw au fun wa bk=>⟨bx,rfl,⟨gh,(bJ.kp bk).lt⟩,(bJ.kp bk).2⟩
theorem afP {w:World} {X:XS} {mb:Nat} :Ct pg 48 #[.map (some mb)] w X nX fun v wa w'=> ∃bx,v= .func (.func 107) #[] #[ptr bx 0]∧a7 w' (made wa w') bx [.map (some mb)] 133:=by
 intro w0 hk;apply nm;unfold iJ;have hs:=ak.init w0;refine td rfl hs.has fun bx w1 X1 gh au bJ=>?_;repeat' first|refine aL ?_;intros
 exact aw au fun wa bk=>⟨bx,rfl,⟨gh,(bJ.kp bk).lt⟩,(bJ.kp bk).2⟩
theorem abr {w:World} {X A:XS} {mb bx:Nat} {α:Type} {rd:World→XS→Value→α→Prop} {l:List (ByteArray×α)} (h:dS w X A mb bB rd l) (hb:a7 w X bx [.map (some mb)] 107)
  (hs: ∀x∈l,x.1.size≤2^40) (hl:l.length≤2^40):
  Ct pg 47 #[.func (.func 182) #[] #[ptr bx 0]] w X nX fun v wa w'=>Own w' (made wa w') wa.heap.size 9 1 v ((gu (l.map (·.1))).map S1):=
 MI h kQ hs hl fun wa hk nn D0 sj=>
  AnyZ.keys_gives (ρ:=Tryz.RA) { Tryz.ajj with } eT _ trivial rfl zQ bx mb nn D0 wa (hb.kp hk).lt (by have:=(hb.kp hk).2;simp [World.cell?,this]) sj
theorem abt {w:World} {X A:XS} {mb bx:Nat} {α:Type} {rd:World→XS→Value→α→Prop} {l:List (ByteArray×α)} (h:dS w X A mb bB rd l) (hb:a7 w X bx [.map (some mb)] 133)
  (hs: ∀x∈l,x.1.size≤2^40) (hl:l.length≤2^40):
  Ct pg 47 #[.func (.func 107) #[] #[ptr bx 0]] w X nX fun v wa w'=>Own w' (made wa w') wa.heap.size 9 1 v ((gu (l.map (·.1))).map S1):=
 MI h kQ hs hl fun wa hk nn D0 sj=>
  AnyZ.keys_gives (ρ:=Tryz.RC) { Tryz.ajk with } eT _ trivial rfl zQ bx mb nn D0 wa (hb.kp hk).lt (by have:=(hb.kp hk).2;simp [World.cell?,this]) sj
theorem Xb {w:World} {X F:XS} {db:Nat} {m:DM} (h:Dk w F db m) (hF:FX F X w) (hs: ∀x∈m.fs,x.1.size≤2^40) (hl:m.fs.length≤2^40):
  Ct pg 69 #[ptr db 0] w X nX fun v wa w'=>Own w' (made wa w') wa.heap.size 9 1 v ((gu (m.fs.map (·.1))).map S1):=by
 intro w0 hk;obtain⟨mb,l,h0,hz⟩:=h.mv (hF.mv hk);have hX:=fun k af=>(hF.kp hk k af).1;have hb:=h0.box.mv (Mv.sub hX);have hm:=h0.map.mv mu (Mv.sub hX) (A':=nX) fun _ h=>h.elim;have EG:=h0.fs;apply Li;unfold AI;have bR:=ak.init w0;repeat' first|refine aL ?_;intros
 refine dp afO kQ bR.has ?_;rintro _ wa w1 X1 ⟨bx,rfl,bJ⟩ hle fO au;have oM:=hm.mv mu au.mv (A':=nX) fun _ h=>h.elim;refine dp (abr oM (bJ.mono fO) (fun x hx=>hs (x.1,x.2.er) (by rw [EG];exact List.mem_map.2 ⟨x,hx,rfl⟩)) (by rw [EG,aI] at hl;exact hl)) kQ au.has ?_;rintro v zI w2 X2 ho qP nW bT;have Zk:=au.kp.size;refine aw (au.trans bT) fun C8 bk=>?_;have nY:Own w2 X2 w0.heap.size 9 1 v ((gu (l.map (·.1))).map S1):=ho.up nW zQ;have e:m.fs.map (·.1)=l.map (·.1):=by rw [EG,dt];rfl
 rw [e];exact(nY.kp bk).tight
end Go.Proofs.YtbpnemeooenpmaaGreat
namespace Go.Proofs.YtbpnemeooenpmaaGreat
open Go.Proofs.Tryz renaming prog → pg
open Go.aR
set_option maxRecDepth 100000
set_option maxHeartbeats 1000000
set_option linter.unusedVariables false
set_option linter.unusedSimpArgs false
attribute [local irreducible] un jn aB aS ld1 dY st1 dr cB kN dw lR uK sP fC e6 ae aC aJ eW eV eU eC eF gE ay fin aQ aF aE vS xh gG gS qK uL sQ xi xj xk gz gP qL uM sR xl xm
def L0 (dir:ByteArray) (sz:Nat):LM:=⟨dir,sz,[],0⟩
theorem Xc {w:World} {X F:XS} {db sz:Nat} {dir:ByteArray} {m:DM} (h:Dk w F db m) (hF:FX F X w) (EG:m.fs=[]) (iy:m.dn=false) (h1:1≤dir.size) (h2:dir.size≤11) (au:64≤sz) (bT:sz≤262144)
  (hr:(LD.ix ⟨L0 dir sz,m⟩ 1).2=0):
  Ct pg 20 #[ptr db 0,.string dir,I sz] w X F fun v wa w'=> ∃lb F',v= .tuple #[ptr lb 0,I 0]∧(∀k,F' k→F k∨made wa w' k)∧Lg w' F' lb db (LD.ix ⟨L0 dir sz,m⟩ 1).1.L (LD.ix ⟨L0 dir sz,m⟩ 1).1.m:=by
 intro w0 hk;replace h:=h.mv (hF.mv hk);have hT:=hF.ft hk;have mL:FX F (aV w0) w0:=hF.kp hk;apply Xd;unfold LQ;refine dp (Zl (n:=1) h1 h2 zQ zQ) kQ hT.s.has ?_;rintro _ qQ w1 X1 rfl sk oR FM;replace hT:=hT.since FM;replace h:=h.mv (FM.fZ fun k af=>(mL k af).1);repeat' first|refine bD ?_;intros
 refine gC (Xe h (hT.fx fun _ h=>h)) kQ hT.s.has fun w2 X2 MJ=>?_;replace h:=h.mv (MJ.fZ hT.bK);replace hT:=hT.since MJ;rw [iy];repeat' first|refine aL ?_;intros
 refine nZ hT.s.has fun lb w3 X3 AG ea bJ=>?_;have h3:=h.mv (ea.fZ hT.bK);have dE:=hT.since ea;have hFl: ∀k,F k→k<w2.heap.size:=fun k af=>hT.s.has k (hT.bK k af);have np:Ft w0 F w3 X3 (fun k=>F k∨k=lb):=dE.more fun k af=>af.imp id fun e=>by
  subst e;have:=hT.s.kp.size;exact⟨bJ.1,by omega⟩
 have g3:Lg w3 (fun k=>F k∨k=lb) lb db (L0 dir sz) m:=
  ⟨(· =lb),F,.slice none 0 0,[],fun k a b=>by have:=hFl k b;omega,fun _ h=>.inr h,fun _ h=>.inl h,
   ⟨rfl,⟨rfl,bJ.2⟩,⟨by simp,.inl ⟨rfl,rfl⟩⟩,by simp,by simp,by simp,List.Pairwise.nil⟩,h3⟩
 refine dp (Xb h3 (dE.fx fun _ h=>h) (by simp [EG]) (by simp [EG])) kQ dE.s.has ?_;rintro vl mw w4 X4 hol qh lL fq;rw [show(gu (m.fs.map (·.1))).map S1=([]:List ByteArray).map S1 from by rw [EG];simp [gu]] at hol;have wE:=hol.sl;repeat' first|refine aL ?_;intros
 refine fQ (fun n a w X=>a=I 0∧Ft w0 F w X (fun k=>F k∨k=lb)∧Lg w (fun k=>F k∨k=lb) lb db (L0 dir sz) m) 0 ⟨rfl,np.since fq,g3.mv (fq.fZ np.bK)⟩ ?_;clear hT dE np g3 h3 h bJ;rintro n a w5 X5 ⟨rfl,ff,g5⟩;obtain⟨FL,FD,sv,bl,Ub,hL,hD,hl,hd⟩:=id g5;have C9:bl=[]:=by have:=hl.eo;cases bl with
  |nil=>rfl
  |cons x y=>simp [L0] at this
 subst C9;have hb5:=hl.box.mv (Mv.sub fun k af=>ff.bK k (hL k af));have hsv:=hl.so.sl;repeat' first|refine bD ?_;intros|refine dM ?_ ?_<;>intros|with_reducible apply dy|(exfalso;rename_i h;simp at h;done)
 refine ff.call (Od (n:=1) g5 h2 zQ (by simp [L0]) (ff.fx fun _ h=>h)) kQ (fun _ h=>h) fun v Yr w6 X6 Ys PW FN eX hc6=>?_;obtain⟨rfl,F6,hF6,h6⟩:=Ys;have uB:Ft w0 F w6 X6 F6:=eX.less hF6;rw [hr];repeat' first|refine bD ?_;intros
 exact uB.fin fun wa bk=>⟨lb,F6,rfl,uB.gX bk fun _ h=>h,h6.mv (bk.fi uB.bK)⟩
theorem afQ {dir:ByteArray} {sz:Nat} {m:DM} (hr:(LD.ix ⟨L0 dir sz,m⟩ 1).2=0):(LD.ix ⟨L0 dir sz,m⟩ 1).1.L=⟨dir,sz,[⟨1,[],0⟩],0⟩:=by
 unfold LD.ix at*;dsimp only at*;rw [if_pos hr];rfl
end Go.Proofs.YtbpnemeooenpmaaGreat
namespace Go.Proofs.YtbpnemeooenpmaaGreat
open Go.Proofs.Tryz renaming prog → pg
open Go.aR
abbrev Ao:ByteArray:=⟨#[108,111,103]⟩
abbrev Oe:DM:=⟨[],0,0,false⟩
def xL (sz:Nat):LD:=(LD.ix ⟨L0 Ao sz,Oe⟩ 1).1
theorem PX (sz:Nat):(LD.ix ⟨L0 Ao sz,Oe⟩ 1).2=0∧(Oe.create (iS Ao 1)).2=0∧mg (Oe.create (iS Ao 1)).1∧(Oe.create (iS Ao 1)).1.ks=[iS Ao 1]∧(Oe.create (iS Ao 1)).1.sz=0:=by
 have hm:mg Oe:=⟨rfl,rfl⟩;have hn:xf (iS Ao 1)=true:=by simp only [xf,Oa,decide_eq_true_eq];decide
 rcases hm.create hn (by simp [DM.ks])with⟨h1,_⟩|⟨h1,h2,h3,h4,h5⟩
 ·simp at h1
 ·exact⟨h2,h2,h3,h4,h5⟩
theorem ac2 (sz:Nat):(xL sz).L=⟨Ao,sz,[⟨1,[],0⟩],0⟩:=afQ (PX sz).1
theorem abu {B sz:Nat} (h1:64≤sz) (h2:sz≤262144):lK B 0 1 (xL sz):=by
 obtain⟨_,_,g3,g4,g5⟩:=PX sz;have hL:=ac2 sz;have hm:(xL sz).m=(Oe.create (iS Ao 1)).1:=rfl;have xg:(xL sz).L.last=⟨1,[],0⟩:=by rw [hL];rfl
 refine⟨by rw [hm];exact g3,by rw [hL];simp,by rw [hL];exact(show 1≤zH Ao from by decide),by rw [hL];exact(show zH Ao≤11 from by decide),by rw [hL];exact ah (by decide) h1,by rw [hL];exact ah h2 (by decide),?_,?_,?_,?_,?_,?_,?_,?_,by rw [hm,g4];decide⟩
 ·rw [hm,g4,hL];intro k hk;exact⟨1,by simp,by simpa using hk⟩
 ·rw [hm,g4];unfold LM.gJ;rw [xg,hL];simp
 ·rw [hL];simp
 ·rw [xg];intro _;rfl
 ·rw [hL];intro s hs;simp at hs;subst hs;simp
 ·unfold LM.next;rw [xg];rfl
 ·rw [hm,g5];exact Nat.zero_le _
 ·rw [hL];simp
theorem ajn:GL 1 (xL 4096):=by
 have h:=abu (B:=0) (sz:=4096) (by decide) (by decide);refine⟨h.ok,h.ne,h.d1,h.d2,fun s hs=>?_,h.r2,h.len⟩;have:=h.pos s hs;omega
structure FO (c:Nat) (x:LD):Prop where
 l:lK 1000 c (c+1) x
 r:x.L.room=4096
theorem Xf (x:LD) (p:List Nat):(x.append p).1.L.room=x.L.room:=by
 have h0:x.sync.1.L.room=x.L.room:=by
  unfold LD.sync;dsimp only;split<;>rfl
 have h2: ∀(y:LD) n,(y.ix n).1.L.room=y.L.room:=fun y n=>by
  unfold LD.ix;dsimp only;split<;>rfl
 have h1:x.room.1.L.room=x.L.room:=by
  unfold LD.room;dsimp only;split
  ·split
   ·exact h0
   ·exact(h2 _ _).trans h0
  ·rfl
 have h3: ∀y:LD,(y.lay p).1.L.room=y.L.room:=fun y=>by
  unfold LD.lay;dsimp only;split<;>rfl
 unfold LD.append;dsimp only;split
 ·rfl
 ·split
  ·rfl
  ·split
   ·exact h1
   ·split<;>exact(h3 _).trans h1
theorem FO.jJ {c:Nat} {x:LD} {p:List Nat} (h:FO c x) (hc:c≤3) (hp:p.length≤900):(x.jJ 0 p).2.2=0∧FO (c+1) (x.jJ 0 p).1:=by
 rcases h.l.append (p:=p) zQ zQ zQ zQ with⟨h1,h2,h3⟩|⟨_,h2,_⟩
 ·obtain⟨k1,k2⟩:=h3.sync;unfold LD.jJ;rw [if_neg (by simp)];dsimp only;rw [if_neg (by simp [h1])];exact⟨k1,k2.inv h3,by rw [k2.room,Xf];exact h.r⟩
 ·have h4:=h2.2;have h5:=(h.l.pos _ (LM.vZ h.l.ne)).2.2.2;rw [h.r] at h4;omega
theorem FO.gl {c:Nat} {x:LD} (h:FO c x):GL (c+1) x:=by
 refine⟨h.l.ok,h.l.ne,h.l.d1,h.l.d2,fun s hs=>?_,h.l.r2,h.l.len⟩;have:=h.l.pos s hs;omega
theorem agZ:FO 0 (xL 4096):=⟨abu (by decide) (by decide),by rw [ac2]⟩
end Go.Proofs.YtbpnemeooenpmaaGreat
namespace Go.Proofs.YtbpnemeooenpmaaGreat
open Go.Proofs.Tryz renaming prog → pg
open Go.aR
set_option maxRecDepth 100000
set_option maxHeartbeats 1000000
set_option linter.unusedVariables false
set_option linter.unusedSimpArgs false
attribute [local irreducible] un jn aB aS ld1 dY st1 dr cB kN dw lR uK sP fC e6 ae aC aJ eW eV eU eC eF gE ay fin aQ aF aE vS xh gG gS qK uL sQ xi xj xk gz gP qL uM sR xl xm
theorem ajo {P:Program} {X:XS} {w:World} {N:Value→Prop} {t ty:TypeId} {a b:Int} (h:N (.int .i64 (max a b))):ae P X w (BT #[t,t] ty #[.int .i64 a,.int .i64 b]) N:=
 cd (fun wa=>by
  simp only [BT,List.foldlM];by_cases hc:b>a
  ·have:max a b=b:=by omega
   simp [BU,hc,this]
  ·have:max a b=a:=by omega
   simp [BU,hc,this]) h
abbrev kC (s:cx):List Value:=[I s.wall,I s.ep,I s.node]
theorem abv {w:World} {X:XS} {node:Int} {fl:cx} (h1:1≤node) (h2:node≤63) (h3:fl.may=true):Ct pg 29 #[I node,fl.v] w X nX fun v wa w'=>
  ∃cb,v= .tuple #[ptr cb 0,I 0]∧a7 w' (made wa w') cb (kC { fl with node:=node }) 206:=by
 intro w0 hk;apply Zm;unfold Of;have hs:=ak.init w0;repeat' first|refine bD ?_;intros
 refine ee (my fl) kQ hs.has fun w1 X1 au=>?_;rw [h3];replace hs:=hs.trans au;have hz:=hs.kp.size;repeat' first|refine aL ?_;intros|(with_reducible apply nZ);(case hX=>exact hs.has);intro bx w X gh au bJ;have bR:=hs.trans au;replace hs:=ak.ct au.has
 exact aw (bR.trans hs) fun wa bk=>⟨bx,rfl,⟨⟨by omega,(bJ.kp bk).lt⟩,(bJ.kp bk).2⟩⟩
def cx.qS (s:cx) (eh:Int):cx×Int:=
 if max eh 0>281474976710656 then(.zero,15)else if max eh 0>s.wall then(⟨max eh 0,0,s.node⟩,0)else if s.ep≥65535 then(.zero,16)else(⟨s.wall,s.ep+1,s.node⟩,0)
abbrev kO:Nat:=206
section
variable {w : World} {X : XS} {cb : Nat} {c : cx}
theorem Zn {eh:Int} (h:a7 w X cb (kC c) kO) (hl:c.ep<2^60) (IF: -(2^60)<c.ep):Ct pg 152 #[ptr cb 0,I eh] w X nX fun v _ _=>v= .tuple #[(c.qS eh).1.v,I (c.qS eh).2]:=by
 intro w0 hk;replace h:=h.mv hk.dD;unfold cx.qS;apply Lj;unfold AJ;have hs:=ak.init w0;refine ajo ?_;generalize max eh 0=p;repeat' first|refine aL ?_;intros|refine dM ?_ ?_<;>intros|with_reducible apply dy|((first|(with_reducible refine aw hs ?_)|(with_reducible refine aw (bR.trans hs) ?_));intro wa hk;(simp [*];try omega))
theorem SA {t:cx} (h:a7 w X cb (kC c) kO) (ht:t.may=true):
  Ct pg 179 #[ptr cb 0,t.v] w X (· =cb) fun v _ w'=>v=I 0∧a7 w' (· =cb) cb (kC (c.later ⟨t.wall,t.ep,c.node⟩)) kO:=by
 intro w0 hk;have hF:FX (· =cb) X w:=fun k af=>by subst af;exact⟨h.1,h.lt⟩
 have hT:=hF.ft hk;replace h:=h.mv hk.dD;apply FP;unfold xn;refine ee (my t) kQ (fun _ h=>h) fun w1 X1 au=>?_;rw [ht];replace h:=h.since au;have hs:=ak.ct au.has;repeat' first|refine aL ?_;intros
 refine ee (LR c ⟨t.wall,t.ep,c.node⟩) kQ hs.has fun w3 X3 ea=>?_;have h3:=h.since (hs.trans ea);have dE:Ft w0 (· =cb) w3 X3 (· =cb):=⟨hT.s.trans (au.trans (hs.trans ea)),fun k af=>by subst af;exact h3.1,fun k af=>.inl af⟩;obtain⟨r,hr⟩: ∃r,r=c.later ⟨t.wall,t.ep,c.node⟩:=⟨_,rfl⟩;rw [←hr];clear hr;repeat' first|refine aL ?_;intros
 refine FQ (o:=0) h3 zQ kQ (by simp) rfl rfl dE.s.has fun w4 X4 c4 Uc=>?_;have fm:=dE.fL (F':=(· =cb)) c4 (fun k af=>af) fun k af=>.inl af
 skip
 exact fm.fin fun wa bk=>⟨rfl,(Uc.kp bk).own⟩
end
section
variable {w : World} {X A : XS} {sb kb pb : Nat} {hm : List (BA × List kf)} {pm : List (de × ey)} {low : cx}
end
def all (own:Nat→Nat):XS:=fun k=>own k≠0
end Go.Proofs.YtbpnemeooenpmaaGreat
