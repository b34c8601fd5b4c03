/-
 Part 6 of the proof: what the last text leans on.
-/
import Derived.Shelf.SlIter.Nil
import Derived.Shelf.SortM.Plain
import Derived.Shelf.SortM.SortNone
import Derived.Ground.GgzProg
import Derived.Ground.SlgmProg
import Derived.Shelf.SlGeneric
import Derived.Test.YtpdkoaklobnegaaGreatProg
import Derived.Test.YtpdkoaklobnegaaGreatH5
open Go.Value renaming string → cz
open List renaming map_map → en, length_map → aS, map_append → bq, length → aB, mergeSort_perm → pJ, map_congr_left → fG, toList_toArray → fY, pairwise_mergeSort → jG, take_add_one → dI, take_length → dV
open Go.Fence renaming wide → ry
open Go.Shelf renaming Ren → sk
open Go.DataW renaming insert → sn
open List.Perm renaming refl → kz
open Nat renaming le_trans → ah
open Go.WideElems renaming rg → wF, rd → Cj
open Function renaming comp_def → rz
open Go.Proofs.SlLaysZ renaming n7 → ue, n6 → Ck
open Go.Proofs.SlLaysM renaming n6 → Cl
set_option linter.unusedVariables false
set_option linter.unusedSimpArgs false
namespace Go.Proofs
open Go.Proofs.Tryz renaming prog → pg
open Go.Shelf
def Tryz.LZ:sk:=⟨fun|6=>48|8=>96|9=>97|11=>160|13=>162|12=>161|23=>236|24=>237|14=>227|15=>228|16=>229|17=>230|18=>231|19=>232|20=>233|21=>234|22=>235|25=>306|26=>307|27=>308|28=>309|29=>310|30=>311|31=>349|n=>n,fun|26=>9|28=>124|24=>36|0=>0|3=>3|37=>256|48=>281|50=>196|4=>4|40=>312|39=>311|45=>317|5=>5|9=>9|51=>370|55=>225|57=>403|58=>404|33=>150|n=>n,fun|n=>n⟩
theorem Tryz.aek:Ck pg Tryz.LZ:= {
 mixed:=by kernel_rfl
 f6:=⟨Tryz.f48.name,by decide,Tryz.func48.trans (congrArg some (by kernel_rfl))⟩
 f8:=⟨Tryz.f96.name,by decide,Tryz.func96.trans (congrArg some (by kernel_rfl))⟩
 f11:=⟨Tryz.f160.name,by decide,Tryz.func160.trans (congrArg some (by kernel_rfl))⟩
 t0:=Tryz.underlying0
 a0:=Tryz.isAgg0
 z0:=Tryz.sizeOf0
 v0:=Tryz.zeroValue0
 t24:=Tryz.underlying36
 a24:=Tryz.isAgg36
 z24:=Tryz.sizeOf36
 v24:=Tryz.zeroValue36
 t26:=Tryz.underlying9
 a26:=Tryz.isAgg9
 z26:=Tryz.sizeOf9
 v26:=Tryz.zeroValue9
 t28:=Tryz.underlying124
 a28:=Tryz.isAgg124
 z28:=Tryz.sizeOf124
 v28:=Tryz.zeroValue124
 i26:=by kernel_rfl }
def Tryz.aaL:sk:=⟨fun|6=>97|8=>162|9=>161|19=>236|20=>237|21=>227|22=>228|23=>229|24=>230|25=>231|26=>232|27=>233|28=>234|29=>235|36=>306|31=>307|32=>308|37=>309|38=>310|39=>311|41=>349|n=>n,fun|27=>36|29=>9|3=>3|32=>256|26=>36|0=>0|44=>281|46=>196|4=>4|36=>312|35=>311|41=>317|5=>5|9=>9|53=>370|57=>225|63=>403|64=>404|n=>n,fun|n=>n⟩
theorem Tryz.adG:Cl pg Tryz.aaL:= {
 mixed:=by kernel_rfl
 f6:=⟨Tryz.f97.name,by decide,Tryz.func97.trans (congrArg some (by kernel_rfl))⟩
 f8:=Tryz.func162.trans (congrArg some (by kernel_rfl))
 f9:=⟨Tryz.f161.name,by decide,Tryz.func161.trans (congrArg some (by kernel_rfl))⟩
 f19:=Tryz.func236.trans (congrArg some (by kernel_rfl))
 f20:=Tryz.func237.trans (congrArg some (by kernel_rfl))
 f21:=⟨Tryz.f227.name,by decide,Tryz.func227.trans (congrArg some (by kernel_rfl))⟩
 f22:=⟨Tryz.f228.name,by decide,Tryz.func228.trans (congrArg some (by kernel_rfl))⟩
 f23:=⟨Tryz.f229.name,by decide,Tryz.func229.trans (congrArg some (by kernel_rfl))⟩
 f24:=⟨Tryz.f230.name,by decide,Tryz.func230.trans (congrArg some (by kernel_rfl))⟩
 f25:=⟨Tryz.f231.name,by decide,Tryz.func231.trans (congrArg some (by kernel_rfl))⟩
 f26:=⟨Tryz.f232.name,by decide,Tryz.func232.trans (congrArg some (by kernel_rfl))⟩
 f27:=⟨Tryz.f233.name,by decide,Tryz.func233.trans (congrArg some (by kernel_rfl))⟩
 f28:=⟨Tryz.f234.name,by decide,Tryz.func234.trans (congrArg some (by kernel_rfl))⟩
 f29:=⟨Tryz.f235.name,by decide,Tryz.func235.trans (congrArg some (by kernel_rfl))⟩
 f31:=Tryz.func307.trans (congrArg some (by kernel_rfl))
 f32:=Tryz.func308.trans (congrArg some (by kernel_rfl))
 f36:=⟨Tryz.f306.name,by decide,Tryz.func306.trans (congrArg some (by kernel_rfl))⟩
 f37:=⟨Tryz.f309.name,by decide,Tryz.func309.trans (congrArg some (by kernel_rfl))⟩
 f38:=⟨Tryz.f310.name,by decide,Tryz.func310.trans (congrArg some (by kernel_rfl))⟩
 f39:=⟨Tryz.f311.name,by decide,Tryz.func311.trans (congrArg some (by kernel_rfl))⟩
 f41:=⟨Tryz.f349.name,by decide,Tryz.func349.trans (congrArg some (by kernel_rfl))⟩
 t0:=Tryz.underlying0
 a0:=Tryz.isAgg0
 z0:=Tryz.sizeOf0
 v0:=Tryz.zeroValue0
 t3:=Tryz.underlying3
 a3:=Tryz.isAgg3
 z3:=Tryz.sizeOf3
 v3:=Tryz.zeroValue3
 t4:=Tryz.underlying4
 a4:=Tryz.isAgg4
 z4:=Tryz.sizeOf4
 v4:=Tryz.zeroValue4
 t5:=Tryz.underlying5
 a5:=Tryz.isAgg5
 z5:=Tryz.sizeOf5
 v5:=Tryz.zeroValue5
 t9:=Tryz.underlying9
 a9:=Tryz.isAgg9
 z9:=Tryz.sizeOf9
 v9:=Tryz.zeroValue9
 t26:=Tryz.underlying36
 a26:=Tryz.isAgg36
 z26:=Tryz.sizeOf36
 v26:=Tryz.zeroValue36
 t27:=Tryz.underlying36
 a27:=Tryz.isAgg36
 z27:=Tryz.sizeOf36
 v27:=Tryz.zeroValue36
 t29:=Tryz.underlying9
 a29:=Tryz.isAgg9
 z29:=Tryz.sizeOf9
 v29:=Tryz.zeroValue9
 t32:=Tryz.underlying256
 a32:=Tryz.isAgg256
 z32:=Tryz.sizeOf256
 v32:=Tryz.zeroValue256
 t35:=Tryz.underlying311
 a35:=Tryz.isAgg311
 z35:=Tryz.sizeOf311
 v35:=Tryz.zeroValue311
 t36:=Tryz.underlying312
 a36:=Tryz.isAgg312
 z36:=Tryz.sizeOf312
 v36:=Tryz.zeroValue312
 t41:=Tryz.underlying317
 a41:=Tryz.isAgg317
 z41:=Tryz.sizeOf317
 v41:=Tryz.zeroValue317
 t44:=Tryz.underlying281
 a44:=Tryz.isAgg281
 z44:=Tryz.sizeOf281
 v44:=Tryz.zeroValue281
 t46:=Tryz.underlying196
 a46:=Tryz.isAgg196
 z46:=Tryz.sizeOf196
 v46:=Tryz.zeroValue196
 t53:=Tryz.underlying370
 a53:=Tryz.isAgg370
 z53:=Tryz.sizeOf370
 v53:=Tryz.zeroValue370
 t57:=Tryz.underlying225
 a57:=Tryz.isAgg225
 z57:=Tryz.sizeOf225
 v57:=Tryz.zeroValue225
 t63:=Tryz.underlying403
 a63:=Tryz.isAgg403
 z63:=Tryz.sizeOf403
 v63:=Tryz.zeroValue403
 t64:=Tryz.underlying404
 a64:=Tryz.isAgg404
 z64:=Tryz.sizeOf404
 v64:=Tryz.zeroValue404 }
def Tryz.Q8:sk:=⟨fun|7=>49|10=>98|n=>n,fun|23=>110|26=>9|3=>51|28=>124|0=>0|27=>123|33=>150|4=>4|n=>n,fun|n=>n⟩
theorem Tryz.ahh:ue pg Tryz.Q8:= {
 mixed:=by kernel_rfl
 f7:=⟨Tryz.f49.name,by decide,Tryz.func49.trans (congrArg some (by kernel_rfl))⟩
 f10:=⟨Tryz.f98.name,by decide,Tryz.func98.trans (congrArg some (by kernel_rfl))⟩
 t0:=Tryz.underlying0
 a0:=Tryz.isAgg0
 z0:=Tryz.sizeOf0
 v0:=Tryz.zeroValue0
 t4:=Tryz.underlying4
 a4:=Tryz.isAgg4
 z4:=Tryz.sizeOf4
 v4:=Tryz.zeroValue4
 t23:=Tryz.underlying110
 a23:=Tryz.isAgg110
 z23:=Tryz.sizeOf110
 v23:=Tryz.zeroValue110
 t26:=Tryz.underlying9
 a26:=Tryz.isAgg9
 z26:=Tryz.sizeOf9
 v26:=Tryz.zeroValue9
 t27:=Tryz.underlying123
 a27:=Tryz.isAgg123
 z27:=Tryz.sizeOf123
 v27:=Tryz.zeroValue123
 t28:=Tryz.underlying124
 a28:=Tryz.isAgg124
 z28:=Tryz.sizeOf124
 v28:=Tryz.zeroValue124
 t33:=Tryz.underlying150
 a33:=Tryz.isAgg150
 z33:=Tryz.sizeOf150
 v33:=Tryz.zeroValue150 }
def Tryz.Q9:sk:=⟨fun|7=>59|10=>107|n=>n,fun|23=>104|26=>9|3=>135|28=>124|0=>0|27=>123|33=>150|4=>4|n=>n,fun|n=>n⟩
theorem Tryz.ahi:ue pg Tryz.Q9:= {
 mixed:=by kernel_rfl
 f7:=⟨Tryz.f59.name,by decide,Tryz.func59.trans (congrArg some (by kernel_rfl))⟩
 f10:=⟨Tryz.f107.name,by decide,Tryz.func107.trans (congrArg some (by kernel_rfl))⟩
 t0:=Tryz.underlying0
 a0:=Tryz.isAgg0
 z0:=Tryz.sizeOf0
 v0:=Tryz.zeroValue0
 t4:=Tryz.underlying4
 a4:=Tryz.isAgg4
 z4:=Tryz.sizeOf4
 v4:=Tryz.zeroValue4
 t23:=Tryz.underlying104
 a23:=Tryz.isAgg104
 z23:=Tryz.sizeOf104
 v23:=Tryz.zeroValue104
 t26:=Tryz.underlying9
 a26:=Tryz.isAgg9
 z26:=Tryz.sizeOf9
 v26:=Tryz.zeroValue9
 t27:=Tryz.underlying123
 a27:=Tryz.isAgg123
 z27:=Tryz.sizeOf123
 v27:=Tryz.zeroValue123
 t28:=Tryz.underlying124
 a28:=Tryz.isAgg124
 z28:=Tryz.sizeOf124
 v28:=Tryz.zeroValue124
 t33:=Tryz.underlying150
 a33:=Tryz.isAgg150
 z33:=Tryz.sizeOf150
 v33:=Tryz.zeroValue150 }
end Go.Proofs
namespace Go.Proofs.YtpdkoaklobnegaaGreat
open Go.Proofs.Tryz renaming prog → pg
open Go.fR Go.RowKit Go.Maps Go.Sort Go.Shelf Go.Proofs
set_option maxRecDepth 100000
set_option maxHeartbeats 1000000
set_option linter.unusedVariables false
set_option linter.unusedSimpArgs false
theorem insert_perm {H:Type} (x:Lit×DataW H): ∀l:List (Lit×DataW H),(sn x l).Perm (x::l)
 |[]=>kz _
 |y::r=>by
  unfold sn
  split
  ·exact kz _
  ·exact((insert_perm x r).cons y).trans (List.Perm.swap x y r)
theorem Cm {H:Type} : ∀l:List (Lit×DataW H),(l.foldr sn []).Perm l
 |[]=>kz _
 |x::l=>(insert_perm x _).trans ((Cm l).cons x)
def RT:Value→Option (DataW Unit×List MemPlace):=fun _=>some (.lit (.bool true),[])
theorem WJ {P:Program} {w:World} {X:XS} {b kt c:Nat} {es:List (ke ByteArray)} (h:mY w X b cz es c) (hk:P.underlying kt=some .string) (hs: ∀x∈es,x.1.size≤2^40) (hl:es.length≤2^40):
  ∃D0:DataW Unit,w.ownsMap P kt RT b es.length D0∧Maps.size D0=es.length∧(strKeys D0).Perm (es.map fun x=>x.1.data.toList):=by
 have SY:(2:Nat)^40≤maxLen:=by decide
 have aih: ∀x∈es,keyOf P kt (.string x.1)=some (.string x.1.data.toList):=fun x hx=>by
  unfold keyOf mapKey
  rw [hk]
  simp [ah (hs x hx) SY]
 have sK: ∀x∈es,Cj P kt RT (pQ cz x)=some (.string x.1.data.toList,.lit (.bool true)):=fun x hx=>by
  unfold Cj pQ RT
  simp [aih x hx]
 have aii:(es.map (pQ cz)).map (wF P kt RT)=es.map fun x=>((.string x.1.data.toList:Lit),(.lit (.bool true):DataW Unit)):=by
  rw [en]
  apply fG
  intro x hx
  simp only [Function.comp,wF,sK x hx,Option.getD_some]
 refine⟨.map (((es.map (pQ cz)).map (wF P kt RT)).foldr sn []),⟨_,c,h.2.1,⟨?_,⟨?_,?_,?_⟩,?_⟩,by simp,by simp⟩,?_,?_⟩
 ·simpa using ah hl SY
 ·intro x hx
  simp only [fY,List.mem_map] at hx
  obtain⟨y,hy,rfl⟩:=hx
  exact h.2.2.2.2 y hy
 ·have:=h.2.2.2.1
  simpa [en,rz,pQ] using this
 ·have h1:=h.2.2.1
  have e:((es.map (pQ cz)).toArray.toList.map (·.key))=(es.map (·.1)).map cz:=by simp [en,rz,pQ]
  rw [e]
  exact List.Pairwise.map cz (fun a b rL e=>rL (by cases e;rfl)) h1
 ·intro x hx
  simp only [fY,List.mem_map] at hx
  obtain⟨y,hy,rfl⟩:=hx
  exact⟨_,sK y hy⟩
 ·show aB _=_
  rw [(Cm _).length_eq];simp
 ·show(List.map _ _).Perm _
  refine((Cm _).map _).trans ?_
  rw [aii,en]
  exact kz _
def leB (x y:List UInt8):Bool:=decide (x≤y)
def bl (s:ByteArray):List UInt8:=s.data.toList
theorem adH (s:ByteArray):(⟨(bl s).toArray⟩:ByteArray)=s:=by unfold bl;simp
def gu (ks:List ByteArray):List ByteArray:=((ks.map bl).mergeSort leB).map fun x=>⟨x.toArray⟩
theorem Di: ∀a b c:List UInt8,leB a b=true→leB b c=true→leB a c=true:=fun a b c h1 h2=>by
 unfold leB at*
 simp only [decide_eq_true_eq] at*
 exact List.le_trans h1 h2
theorem Dl: ∀a b:List UInt8,(leB a b||leB b a)=true:=fun a b=>by
 unfold leB
 rcases List.le_total a b with h|h<;>simp [h]
theorem acy: ∀a b:List UInt8,leB a b=true→leB b a=true→a=b:=fun a b h1 h2=>by
 unfold leB at*
 simp only [decide_eq_true_eq] at*
 exact List.le_antisymm h1 h2
theorem Ra: ∀{l l':List (List UInt8)},l.Perm l'→l.Pairwise (fun a b=>leB a b=true)→l'.Pairwise (fun a b=>leB a b=true)→l=l'
 |[],l',hp,_,_=>(List.Perm.nil_eq hp)
 |a::l,[],hp,_,_=>absurd hp.length_eq (by simp)
 |a::l,b::l',hp,h1,h2=>by
  have zG:=List.pairwise_cons.1 h1
  have OL:=List.pairwise_cons.1 h2
  have rL:a=b:=by
   have ha:a∈b::l':=hp.mem_iff.1 (by simp)
   have hb:b∈a::l:=hp.mem_iff.2 (by simp)
   rcases List.mem_cons.1 ha with e|ha
   ·exact e
   ·rcases List.mem_cons.1 hb with e|hb
    ·exact e.symm
    ·exact acy a b (zG.1 b hb) (OL.1 a ha)
  subst rL
  rw [Ra (List.Perm.cons_inv hp) zG.2 OL.2]
theorem Rb {l l':List (List UInt8)} (h:l.Perm l'):l.mergeSort leB=l'.mergeSort leB:=
 Ra (((pJ l leB).trans h).trans (pJ l' leB).symm) (jG Di Dl l) (jG Di Dl l')
theorem nB (ks:List ByteArray):(gu ks).Perm ks:=by
 have h:=(pJ (ks.map bl) leB).map fun x=>(⟨x.toArray⟩:ByteArray)
 rw [en] at h
 have e:(ks.map ((fun x=>(⟨x.toArray⟩:ByteArray))∘bl))=ks:=by
  conv=>rhs;rw [←List.map_id ks]
  apply fG
  intro x _
  exact adH x
 rw [e] at h
 exact h
theorem acz {ks ks':List ByteArray} (h:ks.Perm ks'):gu ks=gu ks':=by unfold gu;rw [Rb (h.map bl)]
theorem acA (m:Nat):AnyZ.SortsIn pg Tryz.LZ ry m:=
  ⟨fun jw off cap ss W hH Fu eu=>callsIn_wide.2 (AnyM.slices_Sort_string Tryz.adG jw off cap ss W hH Fu eu),
   fun p cap W=>callsIn_wide.2 (AnyM.slices_Sort_string_none Tryz.adG p cap W)⟩
theorem UM {g:FuncId} {lb:Array Value} {w:World} {X A:XS} {mb:Nat} {α:Type} {rd:World→XS→Value→α→Prop} {l:List (ByteArray×α)} (h:jm w X A mb cz rd l) (eg:enters pg g=true)
  (hs: ∀x∈l,x.1.size≤2^40) (hl:l.length≤2^40)
  (hg: ∀wa,Kp X w wa→ ∀(nn:Nat) (D0:DataW Unit),wa.ownsMap pg 9 RT mb nn D0→SeqGives ry 2 pg g lb encStr (fun ss=>ss.Perm (strKeys D0)) (Maps.size D0) wa):
  Ct pg 48 #[.func (.func g) #[] lb] w X nX fun v wa w'=>Own w' (made wa w') wa.heap.size 9 1 v ((gu (l.map (·.1))).map S1):=by
 intro wa hk
 obtain⟨es,c,h1,h2⟩:=h
 have Zc:=h2.keys
 have hlen:es.length=l.length:=by have:=congrArg aB Zc;simpa using this
 obtain⟨D0,BP,eu,zx⟩:=WJ (P:=pg) (h1.kp hk) (kt:=9) (by kernel_rfl) (fun x hx=>by
  have:x.1∈l.map (·.1):=by rw [←Zc];exact List.mem_map.2 ⟨x,hx,rfl⟩
  obtain⟨y,hy,e⟩:=List.mem_map.1 this
  rw [←e];exact hs y hy) (by omega)
 have SY:(2:Nat)^40≤maxLen:=by decide
 have hS:=callsIn_wide.1 (AnyZ.sorted_in Tryz.aek ry 5 trivial trivial trivial trivial rfl (by omega) (acA _) (fun args w=>rS (by kernel_rfl) args w) g lb trivial (fun args w=>rS eg args w) _ _ (by omega) (by omega) wa (hg wa hk _ D0 BP))
 refine hS.mono ?_
 rintro e w' ⟨v,ss,rfl,hp,dK,aca,hb⟩
 have hx:Ext wa w':=⟨hb.os,hb.tape,hb.output,hb.size,fun k ai _=>hb.block k ai⟩
 refine⟨v,rfl,hx,?_⟩
 have e1:ss.mergeSort (fun x y=>decide (x≤y))=(l.map fun x=>bl x.1).mergeSort leB:=by
  have hp2:ss.Perm (l.map fun x=>bl x.1):=by
   refine hp.trans (zx.trans ?_)
   have:(es.map fun x=>x.1.data.toList)=(l.map fun x=>bl x.1):=by
    have:=congrArg (List.map bl) Zc
    simpa [en,rz,bl] using this
   rw [this]
  exact Rb hp2
 have e2:((ss.mergeSort (fun x y=>decide (x≤y))).map encStr)=((gu (l.map (·.1))).map S1).flatten:=by
  rw [e1]
  unfold gu
  rw [en,en]
  have e3: ∀q:List (List UInt8),q.map encStr=(q.map (S1∘fun x=>(⟨x.toArray⟩:ByteArray))).flatten:=fun q=>by
   induction q with
   |nil=>rfl
   |cons a q ih=>simp only [List.map_cons,List.flatten_cons,←ih];rfl
  exact e3 _
 have td:ss.length=((gu (l.map (·.1))).map S1).length:=by
  rw [aS,(nB _).length_eq,aS,←hlen]
  have:=hp.length_eq
  rw [this,zx.length_eq,aS]
 refine⟨fun r hr=>by obtain⟨x,_,rfl⟩:=List.mem_map.1 hr;rfl,?_,fun q hq=>⟨?_,?_⟩⟩
 ·rw [←td,←e2];exact dK
 ·exact(dK.lt _ hq).1
 ·exact(dK.lt _ hq).2
end Go.Proofs.YtpdkoaklobnegaaGreat
namespace Go.Proofs.YtpdkoaklobnegaaGreat
open Go.Proofs.Tryz renaming prog → pg
open Go.fR Go.Maps Go.Shelf
set_option maxRecDepth 100000
set_option maxHeartbeats 1000000
set_option linter.unusedVariables false
set_option linter.unusedSimpArgs false
attribute [local irreducible] un jn bz aQ aX gL eo dx cr nu fF mO BK AB jc iS aa ay aF eW eV eU eC eF gE ao fin aN aH aI vS BL jB lq wK D9 Ea Eb Ec BM jC lr wL Ed Ee Ef Eg
theorem ael {w:World} {X:XS} {mb:Nat} :Ct pg 59 #[.map (some mb)] w X nX fun v wa w'=> ∃bx,v= .func (.func 107) #[] #[ptr bx 0]∧bJ w' (made wa w') bx [.map (some mb)] 104:=by
 intro w0 hk
 apply oE;unfold j7
 have hs:=aj.init w0
 refine sI rfl hs.has fun bx w1 X1 iH au dK=>?_
 repeat' first|(with_reducible apply jx)
 exact aq au fun wa aR=>⟨bx,rfl,⟨iH,(dK.kp aR).lt⟩,(dK.kp aR).2⟩
theorem aem {w:World} {X:XS} {mb:Nat} :Ct pg 49 #[.map (some mb)] w X nX fun v wa w'=> ∃bx,v= .func (.func 98) #[] #[ptr bx 0]∧bJ w' (made wa w') bx [.map (some mb)] 110:=by
 intro w0 hk
 apply oD;unfold j6
 have hs:=aj.init w0
 refine sI rfl hs.has fun bx w1 X1 iH au dK=>?_
 repeat' first|(with_reducible apply jx)
 exact aq au fun wa aR=>⟨bx,rfl,⟨iH,(dK.kp aR).lt⟩,(dK.kp aR).2⟩
theorem aaM {w:World} {X A:XS} {mb bx:Nat} {α:Type} {rd:World→XS→Value→α→Prop} {l:List (ByteArray×α)} (h:jm w X A mb cz rd l) (hb:bJ w X bx [.map (some mb)] 104)
  (hs: ∀x∈l,x.1.size≤2^40) (hl:l.length≤2^40):
  Ct pg 48 #[.func (.func 107) #[] #[ptr bx 0]] w X nX fun v wa w'=>Own w' (made wa w') wa.heap.size 9 1 v ((gu (l.map (·.1))).map S1):=
 UM h (by kernel_rfl) hs hl fun wa hk nn D0 BP=>
  AnyZ.keys_gives (ρ:=Tryz.Q9) { Tryz.ahi with } ry _ trivial rfl (by omega) bx mb nn D0 wa (hb.kp hk).lt (by have:=(hb.kp hk).2;simp [World.cell?,this]) BP
theorem aaN {w:World} {X A:XS} {mb bx:Nat} {α:Type} {rd:World→XS→Value→α→Prop} {l:List (ByteArray×α)} (h:jm w X A mb cz rd l) (hb:bJ w X bx [.map (some mb)] 110)
  (hs: ∀x∈l,x.1.size≤2^40) (hl:l.length≤2^40):
  Ct pg 48 #[.func (.func 98) #[] #[ptr bx 0]] w X nX fun v wa w'=>Own w' (made wa w') wa.heap.size 9 1 v ((gu (l.map (·.1))).map S1):=
 UM h (by kernel_rfl) hs hl fun wa hk nn D0 BP=>
  AnyZ.keys_gives (ρ:=Tryz.Q8) { Tryz.ahh with } ry _ trivial rfl (by omega) bx mb nn D0 wa (hb.kp hk).lt (by have:=(hb.kp hk).2;simp [World.cell?,this]) BP
theorem DK {w:World} {X F:XS} {db:Nat} {m:DM} (h:Dk w F db m) (hF:FX F X w) (hs: ∀x∈m.fs,x.1.size≤2^40) (hl:m.fs.length≤2^40):
  Ct pg 20 #[ptr db 0] w X nX fun v wa w'=>Own w' (made wa w') wa.heap.size 9 1 v ((gu (m.fs.map (·.1))).map S1):=by
 intro w0 hk
 obtain⟨mb,l,h0,hz⟩:=h.mv (hF.mv hk)
 have hX:=fun k ai=>(hF.kp hk k ai).1
 have hb:=h0.box.mv (Mv.sub hX)
 have hm:=h0.map.mv j8 (Mv.sub hX) (A':=nX) fun _ h=>h.elim
 have A5:=h0.fs
 apply KP;unfold AE
 have cg:=aj.init w0
 repeat' first|with_reducible apply aK|(with_reducible apply aM);exact qF;(· kernel_rfl);rfl;intro _ _ _|(with_reducible apply aZ);exact qF;exact qM;(· kernel_rfl);rfl
 refine dk ael (by kernel_rfl) cg.has ?_
 rintro _ wa w1 X1 ⟨bx,rfl,dK⟩ hle hU au
 have uP:=hm.mv j8 au.mv (A':=nX) fun _ h=>h.elim
 refine dk (aaM uP (dK.mono hU) (fun x hx=>hs (x.1,x.2.er) (by rw [A5];exact List.mem_map.2 ⟨x,hx,rfl⟩)) (by rw [A5,aS] at hl;exact hl)) (by kernel_rfl) au.has ?_
 rintro v wQ w2 X2 ho u5 rj b6
 have Mk:=au.kp.size
 refine aq (au.trans b6) fun E6 aR=>?_
 have rE:Own w2 X2 w0.heap.size 9 1 v ((gu (l.map (·.1))).map S1):=ho.up rj (by omega)
 have e:m.fs.map (·.1)=l.map (·.1):=by rw [A5,en];rfl
 rw [e]
 exact(rE.kp aR).tight
end Go.Proofs.YtpdkoaklobnegaaGreat
namespace Go.Proofs.YtpdkoaklobnegaaGreat
open Go.Proofs.Tryz renaming prog → pg
open Go.fR
set_option maxRecDepth 100000
set_option maxHeartbeats 1000000
set_option linter.unusedVariables false
set_option linter.unusedSimpArgs false
attribute [local irreducible] un jn bz aQ aX gL eo dx cr nu fF mO BK AB jc iS aa ay aF eW eV eU eC eF gE ao fin aN aH aI vS BL jB lq wK D9 Ea Eb Ec BM jC lr wL Ed Ee Ef Eg
@[ext] structure u9 where
 dH:gM
 br:bZ
 writes:List KV
 deriving DecidableEq
structure SM where
 every:Int
 since:Int
 down:Bool
 bH:List (ByteArray×fq)
 high:bZ
 done:List u9
def fM (p:List (ByteArray×fq)) (x:KV):List (ByteArray×fq):=if x.val.kind=0 then ni x.key p else fW x.key x.val p
def SM.apply (s:SM) (t:gM) (st:bZ) (l:List KV):SM:= { s with bH:=l.foldl fM s.bH,high:=st,done:=s.done++[⟨t,st,l⟩] }
abbrev u9.l (e:u9) (vw:Value):List Value:=[I e.dH.jR,I e.dH.nj,I e.dH.sq,I e.br.wall,I e.br.fA,I e.br.node,vw]
def yg:World→XS→Value→fq→Prop:=fun _ _ v x=>v=x.v
theorem np:tJ yg:=fun _ _ _ _ _ _ h _=>h
structure na (w:World) (F:XS) (nb lb mb:Nat) (av:Value) (es:List (Value×u9)) (s:SM):Prop where
 done:s.done=es.map (·.2)
 box:bJ w F nb [ptr lb 0,I s.every,I s.since,B s.down,.map (some mb),I s.high.wall,I s.high.fA,I s.high.node,av] 112
 map:jm w F nX mb cz yg s.bH
 ow:Ow w F 73 7 av (es.map fun x=>x.2.l x.1)
 ws: ∀x∈es,Ow w F 53 4 x.1 (x.2.writes.map KV.l)
section
variable {w w' : World} {X X' F F' G : XS} {nb lb mb : Nat} {av yh : Value} {es : List (Value × u9)} {s s' : SM}
theorem na.mv (h:na w F nb lb mb av es s) (v:Mv F w F' w'):na w' F' nb lb mb av es s:=
 ⟨h.done,h.box.mv v,h.map.mv np v (fun _ h=>h.elim),h.ow.mv v,fun x hx=>(h.ws x hx).mv v⟩
theorem na.UN (h:na w F nb lb mb av es s) (hX: ∀k,F k→X k) (c:fO (· =mb) X w X' w') {p:List (ByteArray×fq)} (hm:jm w' X' nX mb cz yg p):na w' F nb lb mb av es { s with bH:=p } :=by
 have mv: ∀{A:XS},(∀k,A k→F k∧k≠mb)→Mv A w F w':=fun hA k hk _=>⟨(hA k hk).1,c.block k (hX k (hA k hk).1) (hA k hk).2⟩
 refine⟨h.done,?_,?_,?_,fun x hx=>?_⟩
 ·exact h.box.own.mv (mv fun k hk=>by subst hk;exact⟨h.box.1,(h.map.dS h.box).symm⟩)
 ·obtain⟨e,c',h1,h2⟩:=hm
  exact⟨e,c',⟨h.map.x.1,h1.2⟩,h2⟩
 ·exact h.ow.tight.mv (mv fun k hk=>⟨(h.ow.ba hk).1,fun e=>h.map.Pr h.ow (e▸hk)⟩)
 ·exact(h.ws x hx).tight.mv (mv fun k hk=>⟨((h.ws x hx).ba hk).1,fun e=>h.map.Pr (h.ws x hx) (e▸hk)⟩)
theorem na.Jy (h:na w F nb lb mb av es s) (hX: ∀k,F k→X k) (c:fO (· =nb) X w X' w') (s':SM) (hp:s'.bH=s.bH) (hd:s'.done=s.done)
  (hr:bJ w' X' nb [ptr lb 0,I s'.every,I s'.since,B s'.down,.map (some mb),I s'.high.wall,I s'.high.fA,I s'.high.node,av] 112):na w' F nb lb mb av es s':=by
 have mv: ∀{A:XS},(∀k,A k→F k∧k≠nb)→Mv A w F w':=fun hA k hk _=>⟨(hA k hk).1,c.block k (hX k (hA k hk).1) (hA k hk).2⟩
 refine⟨hd.trans h.done,⟨h.box.1,hr.2⟩,?_,?_,fun x hx=>?_⟩
 ·rw [hp];exact h.map.own.mv np (mv fun k hk=>by subst hk;exact⟨h.map.x.1,h.map.dS h.box⟩) fun _ h=>h.elim
 ·exact h.ow.tight.mv (mv fun k hk=>⟨(h.ow.ba hk).1,fun e=>h.ow.dS h.box (by kernel_rfl) (e▸hk)⟩)
 ·exact(h.ws x hx).tight.mv (mv fun k hk=>⟨((h.ws x hx).ba hk).1,fun e=>(h.ws x hx).dS h.box (by kernel_rfl) (e▸hk)⟩)
theorem na.more (h:na w F nb lb mb av es s) (hX:FX F X w) (c:fO G X w X' w') (hG: ∀k,G k→k=nb∨av.ownBlock=some k) (OG: ∀k,F k→F' k) {vw:Value} {e:u9}
  (hr:bJ w' F' nb [ptr lb 0,I s.every,I s.since,B s.down,.map (some mb),I s.high.wall,I s.high.fA,I s.high.node,yh] 112)
  (ho:Ow w' F' 73 7 yh ((es++[(vw,e)]).map fun x=>x.2.l x.1)) (hw:Ow w' F' 53 4 vw (e.writes.map KV.l)):
  na w' F' nb lb mb yh (es++[(vw,e)]) { s with done:=s.done++[e] } :=by
 have mv: ∀{A:XS},(∀k,A k→F k∧k≠nb∧av.ownBlock≠some k)→Mv A w F' w':=fun hA k hk _=>by
  obtain⟨a1,a2,a3⟩:=hA k hk
  exact⟨OG k a1,c.block k (hX k a1).1 fun hg=>(hG k hg).elim a2 a3⟩
 refine⟨by rw [bq,←h.done];rfl,hr,?_,ho,fun x hx=>?_⟩
 ·exact h.map.own.mv np (mv fun k hk=>by subst hk;exact⟨h.map.x.1,h.map.dS h.box,h.map.Pr h.ow⟩) fun _ h=>h.elim
 ·rcases List.mem_append.1 hx with hx|hx
  ·refine(h.ws x hx).tight.mv (mv fun k hk=>⟨((h.ws x hx).ba hk).1,fun e=>(h.ws x hx).dS h.box (by kernel_rfl) (e▸hk),fun e=>?_⟩)
   obtain⟨c1,h1⟩:=(h.ws x hx).tag hk
   obtain⟨c2,h2⟩:=h.ow.tag e
   rw [h1] at h2;simp at h2
  ·simp only [List.mem_singleton] at hx;subst hx;exact hw
end
theorem zy {nb:Nat} {e:Int} (h:e≠12):Pure pg 57 #[ptr nb 0,I e] (I e):=by
 intro w0
 apply KT;unfold AI
 have hs:=aj.init w0
 repeat' first|(with_reducible refine qU ?_ ?_);omega|with_reducible (first|apply ak|apply dY)|(with_reducible refine fI hs ?_);rfl
theorem aaO {R:Ending→World→Prop} {w:World} {X:XS} {mb:Nat} {l:List (ByteArray×fq)} {k:ByteArray} {N:Value→World→XS→Prop} (h:jm w X nX mb cz yg l) (hX: ∀k,X k→k<w.heap.size)
  (n: ∀w' X',fO (· =mb) X w X' w'→jm w' X' nX mb cz yg (ni k l)→N (.tuple #[]) w' X'):
  eV pg R X w true (Builtin.delete_ #[110,9] 0 #[.map (some mb),.string k]) N:=
 Tl (kt:=9) (et:=51) h np (fun _ h=>h.elim) (rU (by kernel_rfl)) (by kernel_rfl) hX n
theorem Rc {R:Ending→World→Prop} {w:World} {X:XS} {mb:Nat} {l:List (ByteArray×fq)} {k:ByteArray} {x:fq} {v:Value} {N:Value→World→XS→Prop} (h:jm w X nX mb cz yg l) (hv:v=x.v) (hX: ∀k,X k→k<w.heap.size)
  (n: ∀w' X',fO (· =mb) X w X' w'→jm w' X' nX mb cz yg (fW k x l)→N undef w' X'):
  eU pg R X w true (Instr.mapUpdate 110 (.map (some mb)) (.string k) v) N:=
 Fs (kt:=9) (et:=51) h np (show yg _ _ v x from hv) (fun _ h=>h.elim) (rU (by kernel_rfl)) (by kernel_rfl) hX n
theorem JH {w:World} {X F S:XS} {nb lb mb:Nat} {av:Value} {es:List (Value×u9)} {s:SM} {t:gM} {st:bZ} {vw:Value} {l:List KV} (h:na w F nb lb mb av es s) (hF:FX F X w) (hw:Sl w S 4 vw (l.map KV.l)) (hS: ∀k,S k→X k∧ ¬F k)
  (hl:l.length≤2^30) (hd:s.done.length≤2^30):
  Ct pg 55 #[ptr nb 0,t.v,st.v,vw] w X F fun v wa w'=>v= .tuple #[]∧ ∃F' yh Ay,(∀k,F' k→F k∨made wa w' k)∧na w' F' nb lb mb yh Ay (s.apply t st l):=by
 intro w0 hk
 replace h:=h.mv (hF.mv hk)
 have hT:=hF.ft hk
 have jl:FX F (aW w0) w0:=hF.kp hk
 have vz:Sl w0 (out F w0) 4 vw (l.map KV.l):=hw.mv fun k ai yy=>⟨⟨Nat.lt_of_lt_of_le yy hk.size,(hS k ai).2⟩,hk.block k (hS k ai).1⟩
 have ov:=vz.one
 apply Ja;unfold zR
 repeat' first|(with_reducible apply bS);exact qO;(· kernel_rfl)
 refine fK (fun n a w X=> ∃i:Nat,a=I (i:Nat)∧n=l.length-i∧i≤l.length∧Ft w0 F w X F∧na w F nb lb mb av es { s with bH:=(l.take i).foldl fM s.bH }) l.length ⟨0,rfl,rfl,Nat.zero_le _,hT,h⟩ ?_
 clear hT h
 rintro n a w X ⟨i,rfl,rfl,hi,hT,h⟩
 have hb:=h.box.mv (Mv.sub hT.ba)
 have hm:=h.map.mv np (Mv.sub hT.ba) (A':=nX) fun _ h=>h.elim
 have hwc:Sl w X 4 vw (l.map KV.l):=vz.mv hT.s.mv
 rcases fh l i with⟨dh,x,hx,Ij⟩|⟨eI,Ij⟩
 ·have Sv:(l.take (i+1)).foldl fM s.bH=fM ((l.take i).foldl fM s.bH) x:=by rw [dI,hx];simp
  repeat' first|(with_reducible refine dC ?_ ?_);omega|with_reducible (first|apply aD|apply ak)|(with_reducible apply gP);rfl|(with_reducible apply ji);exact qN|with_reducible (first|apply ff|apply aK)|(with_reducible apply gF<;>intro _)|(with_reducible apply aM);exact qF;(· kernel_rfl);rfl;intro _ _ _|(with_reducible apply aZ);exact qF;exact qM;(· kernel_rfl);rfl|(with_reducible apply fP);exact qF;exact qM;(· kernel_rfl);rfl|((with_reducible apply e7);exact qO;(try (case hz=>rfl));(case hr=>exact qR);(try (case hz=>omega));(case ht=>kernel_rfl);(case hs=>kernel_rfl);intro _ _ _)|(with_reducible apply fj);(case h=>exact qE)|(with_reducible apply eh);exact qC|with_reducible apply dY
  ·refine aaO hm hT.s.has fun w1 X1 c uP=>?_
   have h1:=h.UN hT.ba c uP
   have cO:Ft w0 F w1 X1 F:=hT.ej c (fun k ai=>by subst ai;exact h.map.x.1) fun k ai=>.inl ai
   have e:ni x.key ((l.take i).foldl fM s.bH)=(l.take (i+1)).foldl fM s.bH:=by rw [Sv];unfold fM;rw [if_pos (by assumption)]
   have zG:na w1 F nb lb mb av es { s with bH:=ni x.key ((l.take i).foldl fM s.bH) } :=h1
   rw [e] at zG
   repeat' first|(with_reducible apply cx);omega;omega
   exact ga (l.length-(i+1)) (by omega) ⟨i+1,by simp,rfl,by omega,cO,zG⟩
  ·refine Rc hm (x:=x.val) rfl hT.s.has fun w1 X1 c uP=>?_
   have h1:=h.UN hT.ba c uP
   have cO:Ft w0 F w1 X1 F:=hT.ej c (fun k ai=>by subst ai;exact h.map.x.1) fun k ai=>.inl ai
   have e:fW x.key x.val ((l.take i).foldl fM s.bH)=(l.take (i+1)).foldl fM s.bH:=by rw [Sv];unfold fM;rw [if_neg (by assumption)]
   have zG:na w1 F nb lb mb av es { s with bH:=fW x.key x.val ((l.take i).foldl fM s.bH) } :=h1
   rw [e] at zG
   repeat' first|(with_reducible apply cx);omega;omega
   exact ga (l.length-(i+1)) (by omega) ⟨i+1,by simp,rfl,by omega,cO,zG⟩
 ·have mP:i=l.length:=by omega
  subst mP
  rw [dV] at h hb
  repeat' first|(with_reducible refine dm ?_ ?_);omega|with_reducible (first|apply ak|apply aK)|(with_reducible apply gx);exact qF;(· kernel_rfl);rfl;exact qN;intro _ _ _
  refine Be (o:=5) hb (by omega) (by kernel_rfl) (by simp) rfl rfl hT.s.has fun w1 X1 c1 vC=>?_
  have cO:Ft w0 F w1 X1 F:=hT.ej c1 (fun k ai=>by subst ai;exact h.box.1) fun k ai=>.inl ai
  have h1:=h.Jy hT.ba c1 { s with bH:=l.foldl fM s.bH,high:=st } rfl rfl vC
  have mF:=h1.box.mv (Mv.sub cO.ba)
  have oa:=h1.ow.one
  repeat' first|with_reducible apply aK|(with_reducible apply aM);exact qF;(· kernel_rfl);rfl;intro _ _ _|(with_reducible apply aZ);exact qF;exact qM;(· kernel_rfl);rfl
  refine dk (EW (vz.mv cO.s.mv) (by omega)) (by kernel_rfl) cO.s.has ?_
  rintro vc wQ w2 X2 hoc u5 rj b6
  have bM:=cO.since b6
  have h2:na w2 F nb lb mb av es _:=h1.mv (b6.fg cO.ba)
  have qt:=h2.box.mv (Mv.sub bM.ba)
  have Qi:Ow w2 (fun k=>X2 k∧w1.heap.size≤k) 53 4 vc (l.map KV.l):=hoc.ow.mono fun k ai=>⟨rj k ai,ah u5 ai.1⟩
  have ovc:=Qi.one
  obtain⟨xb,xn,xc,rfl⟩:=Qi.sl.form
  have sL:es.length=s.done.length:=by have:=congrArg aB h2.done;simpa using this.symm
  repeat' first|(with_reducible apply gg);(· kernel_rfl)
  refine NF (bytes:=72) (row:=(⟨t,st,l⟩:u9).l (.slice xb xn xc)) (h2.ow.mono bM.ba) bM.s.has (by kernel_rfl) rfl rfl (by simp [ovc];exact⟨rfl,rfl,rfl,rfl,rfl,rfl⟩) (by simp;omega) (by simp;omega) fun yh w3 X3 c3 pY ab9=>?_
  have Uj: ∀q,jw av q→q≠nb:=fun q hq e=>h2.ow.dS h2.box (by kernel_rfl) (by rw [←e];exact hq)
  have Ch:bJ w3 X3 nb [ptr lb 0,I s.every,I s.since,B s.down,.map (some mb),I st.wall,I st.fA,I st.node,av] 112:=⟨c3.sub _ qt.1,by rw [c3.block _ qt.1 fun hq=>Uj _ hq rfl];exact qt.2⟩
  repeat' first|with_reducible apply aK|(with_reducible apply aM);exact qF;(· kernel_rfl);rfl;intro _ _ _
  refine lB (o:=8) Ch (by omega) (by kernel_rfl) (by simp) pY.one c3.has fun w4 X4 c4 ua=>?_
  have cc:fO (fun k=>k=nb∨av.ownBlock=some k) X2 w2 X4 w4:=(c3.mono fun k _ ai=>.inr ai).trans (c4.mono fun k _ ai=>.inl ai)
  have af1: ∀q,jw av q→F q:=fun q hq=>(h2.ow.ba hq).1
  have Dt: ∀k,(X2 k∧w1.heap.size≤k)→(X4 k∧w0.heap.size≤k):=fun k ai=>⟨c4.sub _ (c3.sub _ ai.1),by have:=cO.s.kp.size;omega⟩
  have ed:Ft w0 F w4 X4 (fun k=>F k∨(X4 k∧w0.heap.size≤k)):=(bM.ej (F':=F) cc (fun k ai=>by
   rcases ai with rfl|ai
   ·exact h2.box.1
   ·exact af1 _ ai) fun k ai=>.inl ai).more fun k ai=>ai
  have ml: ∀g,yh.ownBlock=some g→F g∨(X4 g∧w0.heap.size≤g):=fun g hg=>by
   rcases ab9 with e|⟨g',e,eI⟩
   ·exact .inl (af1 _ (e.symm.trans hg))
   ·rw [hg] at e
    have:g=g':=Option.some.inj e
    subst this
    exact .inr ⟨c4.sub _ (pY.ba hg).1,by have:=bM.s.kp.size;omega⟩
  have aij: ∀q,jw yh q→q≠nb:=fun q hq e=>pY.dS Ch (by kernel_rfl) (by rw [←e];exact hq)
  have hcv: ∀q,jw (.slice xb xn xc) q→(F q∨(X4 q∧w0.heap.size≤q))∧w4.heap[q]? =w2.heap[q]? :=fun q hq=>by
   have h1:=(Qi.ba hq).1
   have UK:q≠nb:=fun e=>Qi.dS h2.box (by kernel_rfl) (by rw [←e];exact hq)
   have hnr: ¬jw av q:=fun Ns=>by
    obtain⟨c1,e1⟩:=Qi.tag hq
    obtain⟨c2,e2⟩:=h2.ow.tag Ns
    rw [e1] at e2;simp at e2
   exact⟨.inr (Dt _ h1),by rw [c4.block q (c3.sub _ h1.1) UK,c3.block q h1.1 hnr]⟩
  have XH:=h2.more (F':=fun k=>F k∨(X4 k∧w0.heap.size≤k)) (yh:=yh) (vw:=.slice xb xn xc) (e:=⟨t,st,l⟩) (bM.fx fun _ h=>h) cc (fun k ai=>ai) (fun k ai=>.inl ai) ⟨.inl h2.box.1,ua.2⟩ ?_ ?_
  ·exact ed.fin fun wa aR=>⟨rfl,_,yh,_,ed.gK aR fun _ h=>h,XH.mv (aR.fC ed.ba)⟩
  ·rw [bq]
   exact pY.tight.mv fun k ai yy=>⟨ml k ai,c4.block k (pY.ba ai).1 (aij k ai)⟩
  ·exact Qi.tight.mv fun k ai yy=>hcv k ai
def SM.get (s:SM) (k:ByteArray):fq:=(getM k s.bH).getD fq.zero
def SM.list (s:SM):List KV:=(gu (s.bH.map (·.1))).map fun k=>⟨k,s.get k⟩
theorem af2 {w:World} {X:XS} {mb:Nat} {l:List (ByteArray×fq)} {k:ByteArray} {N:Value→Prop} (h:jm w X nX mb cz yg l) (n:N ((getM k l).getD fq.zero).v):
  aa pg X w (Instr.lookup 110 (.map (some mb)) (.string k) false) N:=
 Iu (kt:=9) (et:=51) fq.zero.v h (rU (by kernel_rfl)) (by kernel_rfl) (by kernel_rfl) (fun v a h1 h2=>by
  have h2:v=a.v:=h2
  subst h2;rw [h1] at n;exact n) fun h1=>by rw [h1] at n;exact n
section
variable {w : World} {X F : XS} {nb lb mb : Nat} {av : Value} {es : List (Value × u9)} {s : SM}
theorem DL (h:na w F nb lb mb av es s) (hF:FX F X w):Ct pg 19 #[ptr nb 0] w X nX fun v wa w'=>v=s.high.v:=by
 intro w0 hk
 replace h:=h.mv (hF.mv hk)
 have hX:=fun k ai=>(hF.kp hk k ai).1
 have hb:=h.box.mv (Mv.sub hX)
 apply KO;unfold AD
 have hs:=aj.init w0
 repeat' first|(with_reducible apply ji);exact qN|with_reducible (first|apply ff|apply aK)|(with_reducible apply gx);exact qF;(· kernel_rfl);rfl;exact qN;intro _ _ _|(with_reducible apply fP);exact qF;exact qM;(· kernel_rfl);rfl|(with_reducible apply fj);(case h=>exact qE)|(with_reducible apply eh);exact qC|((first|(with_reducible refine aq hs ?_)|(with_reducible refine aq (cg.trans hs) ?_));intro wa hk;rfl)
theorem uf (h:na w F nb lb mb av es s) (hF:FX F X w) (eu: ∀x∈s.bH,x.1.size≤2^40) (hlen:s.bH.length≤2^30):
  Ct pg 14 #[ptr nb 0] w X nX fun v wa w'=>Own w' (made wa w') wa.heap.size 74 4 v (s.list.map KV.l):=by
 intro w0 hk
 replace h:=h.mv (hF.mv hk)
 have hX:=fun k ai=>(hF.kp hk k ai).1
 have hb:=h.box.mv (Mv.sub hX)
 have hm:=h.map.mv np (Mv.sub hX) (A':=nX) fun _ h=>h.elim
 apply I8;unfold zP
 have hs:=aj.init w0
 repeat' first|with_reducible apply aK|(with_reducible apply aM);exact qF;(· kernel_rfl);rfl;intro _ _ _|(with_reducible apply aZ);exact qF;exact qM;(· kernel_rfl);rfl
 refine dk aem (by kernel_rfl) hs.has ?_
 rintro _ wa w1 X1 ⟨bx,rfl,dK⟩ hle hU au
 have uP:=hm.mv np au.mv (A':=nX) fun _ h=>h.elim
 refine dk (aaN uP (dK.mono hU) eu (by omega)) (by kernel_rfl) au.has ?_
 rintro v wQ w2 X2 ho u5 rj b6
 have Mk:=au.kp.size
 replace hs:=au.trans b6
 have yF:(gu (s.bH.map (·.1))).length=s.bH.length:=by rw [(nB _).length_eq,aS]
 have e:s.list=(gu (s.bH.map (·.1))).map fun k=>⟨k,s.get k⟩:=rfl
 rw [e]
 generalize gu (s.bH.map (·.1))=ks at ho yF⊢
 have mr:=(ho.sl.mono rj)
 have sJ:=hm.mv np hs.mv (A':=nX) fun _ h=>h.elim
 repeat' first|(with_reducible apply bS);exact qO;(· kernel_rfl)
 refine iN (fun n a acc w X=> ∃i:Nat,a=I (i:Nat)∧n=ks.length-i∧i≤ks.length∧aj X2 w2 X w∧Own w X w2.heap.size 74 4 acc (((ks.take i).map fun k=>(⟨k,s.get k⟩:KV)).map KV.l)) ks.length ⟨0,rfl,rfl,Nat.zero_le _,aj.eP hs.has,Own.nil _ _ _ _ _⟩ ?_
 rintro n a acc w X ⟨i,rfl,rfl,hi,cw,MR⟩
 have Jt:=hs.trans cw
 rcases fh ks i with⟨dh,x,hx,hd⟩|⟨eI,hd⟩
 ·have ajs:=mr.since cw
  have Ch:=hb.since Jt
  have C6:=sJ.mv np cw.mv (A':=nX) fun _ h=>h.elim
  have L3:((ks.take i).map fun k=>(⟨k,s.get k⟩:KV)).length=i:=by simp;omega
  repeat' first|(with_reducible refine dC ?_ ?_);omega|with_reducible apply aD|(with_reducible apply gP);rfl|with_reducible apply aK|(with_reducible apply aM);exact qF;(· kernel_rfl);rfl;intro _ _ _|(with_reducible apply aZ);exact qF;exact qM;(· kernel_rfl);rfl|((with_reducible apply e7);exact qO;(try (case hz=>rfl));(case hr=>exact qR);(try (case hz=>omega));(case ht=>kernel_rfl);(case hs=>kernel_rfl);intro _ _ _)|(with_reducible apply gg);(· kernel_rfl)|(refine af2 C6 ?_)
  refine ad0 MR cw hs.has (by kernel_rfl) rfl rfl (by simp;omega) (by simp;omega) fun ajt w4 X4 fw Ad tW aju=>?_
  repeat' first|(with_reducible apply cx);omega;omega
  refine iC (ks.length-(i+1)) (by omega) ⟨i+1,by simp,rfl,by omega,fw,?_⟩
  rw [dI,hx,bq,bq]
  exact Ad
 ·have mP:i=ks.length:=by omega
  subst mP
  rw [dV] at MR
  repeat' first|(with_reducible refine dm ?_ ?_);omega|with_reducible apply ak
  exact aq Jt fun E6 aR=>by
   have h9:=(MR.kp aR).low (lo':=w0.heap.size) (by have:=hs.kp.size;omega)
   exact h9.tight
end
def LD.fc (x:LD) (e:Nat) (bs:List Nat):LD×Nat×Nat:=
 if e≠0 then(x,0,e)else
  let r:=x.append bs
  if r.2.2≠0 then r else(r.1.sync.1,r.2.1,r.1.sync.2)
def jo (w:World) (F:XS) (nb lb db:Nat) (s:SM) (L:LM) (m:DM):Prop:=
 ∃FN FG mb av es,Dj FN FG∧(∀k,FN k→F k)∧(∀k,FG k→F k)∧na w FN nb lb mb av es s∧Lg w FG lb db L m
theorem jo.mv {w w':World} {F:XS} {nb lb db:Nat} {s:SM} {L:LM} {m:DM} (h:jo w F nb lb db s L m) (v:Mv F w F w'):jo w' F nb lb db s L m:=by
 obtain⟨FN,FG,mb,av,es,hd,h1,h2,h3,h4⟩:=h
 exact⟨FN,FG,mb,av,es,hd,h1,h2,h3.mv fun k hk hl=>⟨hk,(v k (h1 k hk) hl).2⟩,h4.mv fun k hk hl=>⟨hk,(v k (h2 k hk) hl).2⟩⟩
theorem jo.mono {w:World} {F F':XS} {nb lb db:Nat} {s:SM} {L:LM} {m:DM} (h:jo w F nb lb db s L m) (hs: ∀k,F k→F' k):jo w F' nb lb db s L m:=by
 obtain⟨FN,FG,mb,av,es,hd,h1,h2,h3,h4⟩:=h
 exact⟨FN,FG,mb,av,es,hd,fun k hk=>hs k (h1 k hk),fun k hk=>hs k (h2 k hk),h3,h4⟩
theorem DN {w:World} {X F:XS} {nb lb db e:Nat} {s:SM} {L:LM} {m:DM} {r:Rec} {vr vw vp vq vh vd:Value} {bs:List Nat} (h:jo w F nb lb db s L m) (hL:j9 L) (mr:L.bR.length≤2^29) (hF:FX F X w)
  (MY: ∀wa,Kp X w wa→Ct pg 91 #[r.v vr vw vp vq vh vd] wa (out F wa) nX fun v wb w'=>if e≠0 then v= .tuple #[.slice none 0 0,I e] else∃vb,v= .tuple #[vb,I 0]∧Own w' (made wb w') wb.heap.size 5 1 vb (bs.map U1))
  (h1:fR.one vr=true) (h2:fR.one vw=true) (h3:fR.one vp=true) (h4:fR.one vq=true) (h5:fR.one vh=true) (h6:fR.one vd=true)
  (L4:j9 (LD.append ⟨L,m⟩ bs).1.L) (iI:(LD.fc ⟨L,m⟩ e bs).2.2≠12):
  Ct pg 54 #[ptr nb 0,r.v vr vw vp vq vh vd] w X F fun v wa w'=>v= .tuple #[I (LD.fc ⟨L,m⟩ e bs).2.1,I (LD.fc ⟨L,m⟩ e bs).2.2]∧
   ∃F',(∀k,F' k→F k∨made wa w' k)∧jo w' F' nb lb db s (LD.fc ⟨L,m⟩ e bs).1.L (LD.fc ⟨L,m⟩ e bs).1.m:=by
 intro w0 hk
 obtain⟨FN,FG,mb,av,es,qy,hN,hG,cg,hg⟩:=h.mv (hF.mv hk)
 have hT:=hF.ft hk
 have jl:FX F (aW w0) w0:=hF.kp hk
 have hb:=cg.box.mv (Mv.sub fun k ai=>hT.ba k (hN k ai))
 generalize hr:LD.fc ⟨L,m⟩ e bs=q at iI⊢
 unfold LD.fc at hr
 dsimp only at hr
 apply KS;unfold AH
 refine dk ((MY w0 hk).since (hT.s)) (by kernel_rfl) hT.s.has ?_
 rintro ve JI w1 X1 hq u4 qj au
 have cO:=hT.since au
 have mF:=hb.since au
 have hS: ∀(x:LD) (F1:XS) (w2:World) (X2:XS),Ft w0 F w2 X2 F1→jo w2 F1 nb lb db s x.L x.m→ ∀wa,Kp X2 w2 wa→ ∃F',(∀k,F' k→F k∨made w0 wa k)∧jo wa F' nb lb db s x.L x.m:=fun x F1 w2 X2 bM h2 wa aR=>⟨F1,bM.gK aR fun _ h=>h,h2.mv (aR.fC bM.ba)⟩
 have af3:na w1 FN nb lb mb av es s:=cg.mv (au.fg fun k ai=>hT.ba k (hN k ai))
 have IE:Lg w1 FG lb db L m:=hg.mv (au.fg fun k ai=>hT.ba k (hG k ai))
 by_cases he:e≠0
 ·rw [if_pos he] at hq hr
  subst hq;subst hr
  dsimp only at iI⊢
  repeat' first|(with_reducible refine qU ?_ ?_);omega|with_reducible apply ak|(with_reducible apply fp);rfl|with_reducible apply dY|(refine iO (zy (e:=(e:Int)) (by omega)) (by kernel_rfl) cO.s.has fun w2 X2 b6=>?_)
  exact(cO.since b6).fin fun wa aR=>⟨rfl,hS ⟨L,m⟩ F _ _ (cO.since b6) ⟨FN,FG,mb,av,es,qy,hN,hG,af3.mv (b6.fg fun k ai=>cO.ba k (hN k ai)),IE.mv (b6.fg fun k ai=>cO.ba k (hG k ai))⟩ wa aR⟩
 ·rw [if_neg he] at hq hr
  obtain⟨vb,rfl,E9⟩:=hq
  have ovb:=E9.sl.one
  repeat' first|(with_reducible refine m7 ?_ ?_);omega|with_reducible (first|apply aD|apply aK)|(with_reducible apply aM);exact qF;(· kernel_rfl);rfl;intro _ _ _|(with_reducible apply aZ);exact qF;exact qM;(· kernel_rfl);rfl|(with_reducible apply fp);rfl|with_reducible apply dY
  have hFG:FX FG X1 w1:=cO.fx hG
  refine cO.call (UH IE hL (by omega) hFG E9.sl fun k ai=>⟨qj k ai,fun hf=>?_⟩) (by kernel_rfl) hG fun v wQ w2 X2 hq u5 rj bM lS=>?_
  ·have:=(jl k (hG k hf)).2
   have:=ai.1
   omega
  obtain⟨rfl,FG2,af4,xF⟩:=hq
  generalize vj:LD.append ⟨L,m⟩ bs=ap at hr L4 xF⊢
  have acB:na w2 FN nb lb mb av es s:=af3.mv (lS.fC fun k ai=>⟨cO.ba k (hN k ai),fun hf=>qy k ai hf⟩)
  have Zd:Dj FN FG2:=fun k a b=>(af4 k b).elim (qy k a) fun hm=>by
   have:=(cO.fx hN k a).2;have:=hm.1;omega
  have Hs: ∀k,FN k→F k∨made wQ w2 k:=fun k ai=>.inl (hN k ai)
  have XI: ∀k,FG2 k→F k∨made wQ w2 k:=fun k ai=>(af4 k ai).imp (hG k) id
  have qt:=acB.box.mv (Mv.sub fun k ai=>bM.ba k (Hs k ai))
  by_cases hz:ap.2.2≠0
  ·rw [if_pos hz] at hr
   subst hr
   repeat' first|(with_reducible refine qU ?_ ?_);omega|with_reducible apply ak|(with_reducible apply fp);rfl|with_reducible apply dY|(refine iO (zy (e:=(ap.2.2:Int)) (by omega)) (by kernel_rfl) bM.s.has fun w3 X3 cw=>?_)
   exact(bM.since cw).fin fun wa aR=>⟨rfl,hS ap.1 _ _ _ (bM.since cw) ⟨FN,FG2,mb,av,es,Zd,Hs,XI,acB.mv (cw.fg fun k ai=>bM.ba k (Hs k ai)),xF.mv (cw.fg fun k ai=>bM.ba k (XI k ai))⟩ wa aR⟩
  ·rw [if_neg hz] at hr
   have xp:(ap.2.2:Int)=0:=by omega
   repeat' first|(with_reducible refine m7 ?_ ?_);omega|with_reducible (first|apply aD|apply aK)|(with_reducible apply aM);exact qF;(· kernel_rfl);rfl;intro _ _ _|(with_reducible apply aZ);exact qF;exact qM;(· kernel_rfl);rfl|(with_reducible apply fp);rfl|with_reducible apply dY
   refine bM.call (Gx xF L4 (bM.fx XI)) (by kernel_rfl) XI fun v qw w3 X3 hq rr oG cP oe=>?_
   obtain⟨rfl,FG3,af5,hg3⟩:=hq
   have eap:ap.1=⟨ap.1.L,ap.1.m⟩:=rfl
   rw [eap] at hr
   subst hr
   generalize hsy:LD.sync ⟨ap.1.L,ap.1.m⟩=sy at iI hg3⊢
   have YY:na w3 FN nb lb mb av es s:=acB.mv (oe.fC fun k ai=>⟨bM.ba k (Hs k ai),fun hf=>Zd k ai hf⟩)
   have acC:Dj FN FG3:=fun k a b=>(af5 k b).elim (Zd k a) fun hm=>by
    have:=(bM.fx Hs k a).2;have:=hm.1;omega
   have XJ: ∀k,FN k→(F k∨made wQ w2 k)∨made qw w3 k:=fun k ai=>.inl (Hs k ai)
   have hG3: ∀k,FG3 k→(F k∨made wQ w2 k)∨made qw w3 k:=fun k ai=>(af5 k ai).imp (XI k) id
   repeat' first|(refine iO (zy (e:=(sy.2:Int)) (by have:sy.2≠12:=iI;omega)) (by kernel_rfl) cP.s.has fun w4 X4 fw=>?_)
   exact(cP.since fw).fin fun wa aR=>⟨rfl,hS sy.1 _ _ _ (cP.since fw) ⟨FN,FG3,mb,av,es,acC,XJ,hG3,YY.mv (fw.fg fun k ai=>cP.ba k (XJ k ai)),hg3.mv (fw.fg fun k ai=>cP.ba k (hG3 k ai))⟩ wa aR⟩
end Go.Proofs.YtpdkoaklobnegaaGreat
