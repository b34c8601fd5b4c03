/-
 Part 11 of the proof: what the last text leans on.
-/
import Derived.Shelf.SlIter.Nil
import Derived.Shelf.SlIterI.Nil
import Derived.Shelf.SortM.Plain
import Derived.Shelf.SortM.SortNone
import Derived.Shelf.SlSortCmp.WholeK
import Derived.Ground.GgzProg
import Derived.Ground.SlgmProg
import Derived.Ground.SlsfProg
import Derived.Shelf.SlGeneric
import Derived.Test.YtgfijddlkhkopaaGreatProg
import Derived.Test.YtgfijddlkhkopaaGreatH10
open Go.Shelf renaming Ren → iP
open Go.Proofs.SlLaysF0 renaming n6 → wW
namespace Go.Proofs
open Go.Proofs.Tryz renaming prog → pg
open Go.Shelf
def Tryz.Oh:iP:=⟨fun|6=>85|15=>143|14=>142|28=>210|29=>211|20=>202|21=>203|22=>204|23=>205|24=>206|25=>207|26=>208|27=>209|46=>282|47=>283|48=>284|49=>285|50=>286|57=>341|n=>n,fun|22=>59|24=>34|25=>118|3=>3|39=>263|0=>0|53=>351|55=>264|4=>4|46=>344|45=>343|50=>348|5=>5|9=>9|66=>411|70=>317|76=>466|77=>467|n=>n,fun|n=>n⟩
theorem Tryz.ajT:wW pg Tryz.Oh:= {
 mixed:=by kernel_rfl
 f6:=⟨Tryz.f85.name,by decide,Tryz.func85.trans Go.aG.kS⟩
 f14:=⟨Tryz.f142.name,by decide,Tryz.func142.trans Go.aG.kS⟩
 f15:=Tryz.func143.trans Go.aG.kS
 f20:=⟨Tryz.f202.name,by decide,Tryz.func202.trans Go.aG.kS⟩
 f21:=⟨Tryz.f203.name,by decide,Tryz.func203.trans Go.aG.kS⟩
 f22:=⟨Tryz.f204.name,by decide,Tryz.func204.trans Go.aG.kS⟩
 f23:=⟨Tryz.f205.name,by decide,Tryz.func205.trans Go.aG.kS⟩
 f24:=⟨Tryz.f206.name,by decide,Tryz.func206.trans Go.aG.kS⟩
 f25:=⟨Tryz.f207.name,by decide,Tryz.func207.trans Go.aG.kS⟩
 f26:=⟨Tryz.f208.name,by decide,Tryz.func208.trans Go.aG.kS⟩
 f27:=⟨Tryz.f209.name,by decide,Tryz.func209.trans Go.aG.kS⟩
 f28:=Tryz.func210.trans Go.aG.kS
 f29:=Tryz.func211.trans Go.aG.kS
 f46:=⟨Tryz.f282.name,by decide,Tryz.func282.trans Go.aG.kS⟩
 f47:=Tryz.func283.trans Go.aG.kS
 f48:=Tryz.func284.trans Go.aG.kS
 f49:=⟨Tryz.f285.name,by decide,Tryz.func285.trans Go.aG.kS⟩
 f50:=⟨Tryz.f286.name,by decide,Tryz.func286.trans Go.aG.kS⟩
 f57:=⟨Tryz.f341.name,by decide,Tryz.func341.trans Go.aG.kS⟩
 t0:=Tryz.underlying0
 a0:=Tryz.isAgg0
 z0:=Tryz.sizeOf0
 v0:=Tryz.zeroValue0
 t3:=Tryz.underlying3
 a3:=Tryz.isAgg3
 z3:=Tryz.sizeOf3
 v3:=Tryz.zeroValue3
 t4:=Tryz.underlying4
 a4:=Tryz.isAgg4
 z4:=Tryz.sizeOf4
 v4:=Tryz.zeroValue4
 t5:=Tryz.underlying5
 a5:=Tryz.isAgg5
 z5:=Tryz.sizeOf5
 v5:=Tryz.zeroValue5
 t9:=Tryz.underlying9
 a9:=Tryz.isAgg9
 z9:=Tryz.sizeOf9
 v9:=Tryz.zeroValue9
 t22:=Tryz.underlying59
 a22:=Tryz.isAgg59
 z22:=Tryz.sizeOf59
 v22:=Tryz.zeroValue59
 t25:=Tryz.underlying118
 a25:=Tryz.isAgg118
 z25:=Tryz.sizeOf118
 v25:=Tryz.zeroValue118
 t39:=Tryz.underlying263
 a39:=Tryz.isAgg263
 z39:=Tryz.sizeOf263
 v39:=Tryz.zeroValue263
 t45:=Tryz.underlying343
 a45:=Tryz.isAgg343
 z45:=Tryz.sizeOf343
 v45:=Tryz.zeroValue343
 t46:=Tryz.underlying344
 a46:=Tryz.isAgg344
 z46:=Tryz.sizeOf344
 v46:=Tryz.zeroValue344
 t50:=Tryz.underlying348
 a50:=Tryz.isAgg348
 z50:=Tryz.sizeOf348
 v50:=Tryz.zeroValue348
 t53:=Tryz.underlying351
 a53:=Tryz.isAgg351
 z53:=Tryz.sizeOf351
 v53:=Tryz.zeroValue351
 t55:=Tryz.underlying264
 a55:=Tryz.isAgg264
 z55:=Tryz.sizeOf264
 v55:=Tryz.zeroValue264
 t66:=Tryz.underlying411
 a66:=Tryz.isAgg411
 z66:=Tryz.sizeOf411
 v66:=Tryz.zeroValue411
 t70:=Tryz.underlying317
 a70:=Tryz.isAgg317
 z70:=Tryz.sizeOf317
 v70:=Tryz.zeroValue317
 t76:=Tryz.underlying466
 a76:=Tryz.isAgg466
 z76:=Tryz.sizeOf466
 v76:=Tryz.zeroValue466
 t77:=Tryz.underlying467
 a77:=Tryz.isAgg467
 z77:=Tryz.sizeOf467
 v77:=Tryz.zeroValue467 }
def Tryz.Li:iP:=⟨fun|6=>156|15=>143|14=>227|28=>210|29=>211|20=>297|21=>298|22=>299|23=>300|24=>301|25=>302|26=>303|27=>304|46=>344|47=>283|48=>284|49=>345|50=>346|57=>366|n=>n,fun|22=>41|24=>175|25=>275|3=>3|39=>263|0=>0|53=>351|55=>264|4=>4|46=>344|45=>343|50=>348|5=>5|9=>9|66=>411|70=>317|76=>466|77=>467|n=>n,fun|n=>n⟩
theorem Tryz.ag7:wW pg Tryz.Li:= {
 mixed:=by kernel_rfl
 f6:=⟨Tryz.f156.name,by decide,Tryz.func156.trans Go.aG.kS⟩
 f14:=⟨Tryz.f227.name,by decide,Tryz.func227.trans Go.aG.kS⟩
 f15:=Tryz.func143.trans Go.aG.kS
 f20:=⟨Tryz.f297.name,by decide,Tryz.func297.trans Go.aG.kS⟩
 f21:=⟨Tryz.f298.name,by decide,Tryz.func298.trans Go.aG.kS⟩
 f22:=⟨Tryz.f299.name,by decide,Tryz.func299.trans Go.aG.kS⟩
 f23:=⟨Tryz.f300.name,by decide,Tryz.func300.trans Go.aG.kS⟩
 f24:=⟨Tryz.f301.name,by decide,Tryz.func301.trans Go.aG.kS⟩
 f25:=⟨Tryz.f302.name,by decide,Tryz.func302.trans Go.aG.kS⟩
 f26:=⟨Tryz.f303.name,by decide,Tryz.func303.trans Go.aG.kS⟩
 f27:=⟨Tryz.f304.name,by decide,Tryz.func304.trans Go.aG.kS⟩
 f28:=Tryz.func210.trans Go.aG.kS
 f29:=Tryz.func211.trans Go.aG.kS
 f46:=⟨Tryz.f344.name,by decide,Tryz.func344.trans Go.aG.kS⟩
 f47:=Tryz.func283.trans Go.aG.kS
 f48:=Tryz.func284.trans Go.aG.kS
 f49:=⟨Tryz.f345.name,by decide,Tryz.func345.trans Go.aG.kS⟩
 f50:=⟨Tryz.f346.name,by decide,Tryz.func346.trans Go.aG.kS⟩
 f57:=⟨Tryz.f366.name,by decide,Tryz.func366.trans Go.aG.kS⟩
 t0:=Tryz.underlying0
 a0:=Tryz.isAgg0
 z0:=Tryz.sizeOf0
 v0:=Tryz.zeroValue0
 t3:=Tryz.underlying3
 a3:=Tryz.isAgg3
 z3:=Tryz.sizeOf3
 v3:=Tryz.zeroValue3
 t4:=Tryz.underlying4
 a4:=Tryz.isAgg4
 z4:=Tryz.sizeOf4
 v4:=Tryz.zeroValue4
 t5:=Tryz.underlying5
 a5:=Tryz.isAgg5
 z5:=Tryz.sizeOf5
 v5:=Tryz.zeroValue5
 t9:=Tryz.underlying9
 a9:=Tryz.isAgg9
 z9:=Tryz.sizeOf9
 v9:=Tryz.zeroValue9
 t22:=Tryz.underlying41
 a22:=Tryz.isAgg41
 z22:=Tryz.sizeOf41
 v22:=Tryz.zeroValue41
 t25:=Tryz.underlying275
 a25:=Tryz.isAgg275
 z25:=Tryz.sizeOf275
 v25:=Tryz.zeroValue275
 t39:=Tryz.underlying263
 a39:=Tryz.isAgg263
 z39:=Tryz.sizeOf263
 v39:=Tryz.zeroValue263
 t45:=Tryz.underlying343
 a45:=Tryz.isAgg343
 z45:=Tryz.sizeOf343
 v45:=Tryz.zeroValue343
 t46:=Tryz.underlying344
 a46:=Tryz.isAgg344
 z46:=Tryz.sizeOf344
 v46:=Tryz.zeroValue344
 t50:=Tryz.underlying348
 a50:=Tryz.isAgg348
 z50:=Tryz.sizeOf348
 v50:=Tryz.zeroValue348
 t53:=Tryz.underlying351
 a53:=Tryz.isAgg351
 z53:=Tryz.sizeOf351
 v53:=Tryz.zeroValue351
 t55:=Tryz.underlying264
 a55:=Tryz.isAgg264
 z55:=Tryz.sizeOf264
 v55:=Tryz.zeroValue264
 t66:=Tryz.underlying411
 a66:=Tryz.isAgg411
 z66:=Tryz.sizeOf411
 v66:=Tryz.zeroValue411
 t70:=Tryz.underlying317
 a70:=Tryz.isAgg317
 z70:=Tryz.sizeOf317
 v70:=Tryz.zeroValue317
 t76:=Tryz.underlying466
 a76:=Tryz.isAgg466
 z76:=Tryz.sizeOf466
 v76:=Tryz.zeroValue466
 t77:=Tryz.underlying467
 a77:=Tryz.isAgg467
 z77:=Tryz.sizeOf467
 v77:=Tryz.zeroValue467 }
end Go.Proofs