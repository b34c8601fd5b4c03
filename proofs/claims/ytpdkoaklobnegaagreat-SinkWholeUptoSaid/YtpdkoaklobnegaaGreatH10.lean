/-
 Part 10 of the proof: what the last text leans on.
-/
import Derived.Shelf.SlIter.Nil
import Derived.Shelf.SortM.Plain
import Derived.Shelf.SortM.SortNone
import Derived.Ground.GgzProg
import Derived.Ground.SlgmProg
import Derived.Shelf.SlGeneric
import Derived.Test.YtpdkoaklobnegaaGreatProg
import Derived.Test.YtpdkoaklobnegaaGreatH9
open Go.Value renaming string → cu
open List renaming map_map → eP, length_map → aG, map_append → aT, length → az, mergeSort_perm → pf, map_congr_left → ga, toList_toArray → fG, pairwise_mergeSort → qQ, take_add_one → ca, take_length → dE
open Go.Fence renaming wide → qp
open Go.Shelf renaming Ren → ru
open Go.DataW renaming insert → ry
open List.Perm renaming refl → jR
open Nat renaming le_trans → ah
open Go.WideElems renaming rg → vV, rd → Cc
open Function renaming comp_def → qq
open Go.Proofs.SlLaysZ renaming n7 → tp, n6 → Cd
open Go.Proofs.SlLaysM renaming n6 → Ce
set_option linter.unusedVariables false
set_option linter.unusedSimpArgs false
namespace Go.Proofs
open Go.Proofs.Tryz renaming prog → pg
open Go.Shelf
def Tryz.My:ru:=⟨fun|6=>48|8=>96|9=>97|11=>160|13=>162|12=>161|23=>236|24=>237|14=>227|15=>228|16=>229|17=>230|18=>231|19=>232|20=>233|21=>234|22=>235|25=>306|26=>307|27=>308|28=>309|29=>310|30=>311|31=>349|n=>n,fun|26=>9|28=>124|24=>36|0=>0|3=>3|37=>256|48=>281|50=>196|4=>4|40=>312|39=>311|45=>317|5=>5|9=>9|51=>370|55=>225|57=>403|58=>404|33=>150|n=>n,fun|n=>n⟩
theorem Tryz.aga:Cd pg Tryz.My:= {
 mixed:=by kernel_rfl
 f6:=⟨Tryz.f48.name,by decide,Tryz.func48.trans (congrArg some (by kernel_rfl))⟩
 f8:=⟨Tryz.f96.name,by decide,Tryz.func96.trans (congrArg some (by kernel_rfl))⟩
 f11:=⟨Tryz.f160.name,by decide,Tryz.func160.trans (congrArg some (by kernel_rfl))⟩
 t0:=Tryz.underlying0
 a0:=Tryz.isAgg0
 z0:=Tryz.sizeOf0
 v0:=Tryz.zeroValue0
 t24:=Tryz.underlying36
 a24:=Tryz.isAgg36
 z24:=Tryz.sizeOf36
 v24:=Tryz.zeroValue36
 t26:=Tryz.underlying9
 a26:=Tryz.isAgg9
 z26:=Tryz.sizeOf9
 v26:=Tryz.zeroValue9
 t28:=Tryz.underlying124
 a28:=Tryz.isAgg124
 z28:=Tryz.sizeOf124
 v28:=Tryz.zeroValue124
 i26:=by kernel_rfl }
def Tryz.acn:ru:=⟨fun|6=>97|8=>162|9=>161|19=>236|20=>237|21=>227|22=>228|23=>229|24=>230|25=>231|26=>232|27=>233|28=>234|29=>235|36=>306|31=>307|32=>308|37=>309|38=>310|39=>311|41=>349|n=>n,fun|27=>36|29=>9|3=>3|32=>256|26=>36|0=>0|44=>281|46=>196|4=>4|36=>312|35=>311|41=>317|5=>5|9=>9|53=>370|57=>225|63=>403|64=>404|n=>n,fun|n=>n⟩
theorem Tryz.afK:Ce pg Tryz.acn:= {
 mixed:=by kernel_rfl
 f6:=⟨Tryz.f97.name,by decide,Tryz.func97.trans (congrArg some (by kernel_rfl))⟩
 f8:=Tryz.func162.trans (congrArg some (by kernel_rfl))
 f9:=⟨Tryz.f161.name,by decide,Tryz.func161.trans (congrArg some (by kernel_rfl))⟩
 f19:=Tryz.func236.trans (congrArg some (by kernel_rfl))
 f20:=Tryz.func237.trans (congrArg some (by kernel_rfl))
 f21:=⟨Tryz.f227.name,by decide,Tryz.func227.trans (congrArg some (by kernel_rfl))⟩
 f22:=⟨Tryz.f228.name,by decide,Tryz.func228.trans (congrArg some (by kernel_rfl))⟩
 f23:=⟨Tryz.f229.name,by decide,Tryz.func229.trans (congrArg some (by kernel_rfl))⟩
 f24:=⟨Tryz.f230.name,by decide,Tryz.func230.trans (congrArg some (by kernel_rfl))⟩
 f25:=⟨Tryz.f231.name,by decide,Tryz.func231.trans (congrArg some (by kernel_rfl))⟩
 f26:=⟨Tryz.f232.name,by decide,Tryz.func232.trans (congrArg some (by kernel_rfl))⟩
 f27:=⟨Tryz.f233.name,by decide,Tryz.func233.trans (congrArg some (by kernel_rfl))⟩
 f28:=⟨Tryz.f234.name,by decide,Tryz.func234.trans (congrArg some (by kernel_rfl))⟩
 f29:=⟨Tryz.f235.name,by decide,Tryz.func235.trans (congrArg some (by kernel_rfl))⟩
 f31:=Tryz.func307.trans (congrArg some (by kernel_rfl))
 f32:=Tryz.func308.trans (congrArg some (by kernel_rfl))
 f36:=⟨Tryz.f306.name,by decide,Tryz.func306.trans (congrArg some (by kernel_rfl))⟩
 f37:=⟨Tryz.f309.name,by decide,Tryz.func309.trans (congrArg some (by kernel_rfl))⟩
 f38:=⟨Tryz.f310.name,by decide,Tryz.func310.trans (congrArg some (by kernel_rfl))⟩
 f39:=⟨Tryz.f311.name,by decide,Tryz.func311.trans (congrArg some (by kernel_rfl))⟩
 f41:=⟨Tryz.f349.name,by decide,Tryz.func349.trans (congrArg some (by kernel_rfl))⟩
 t0:=Tryz.underlying0
 a0:=Tryz.isAgg0
 z0:=Tryz.sizeOf0
 v0:=Tryz.zeroValue0
 t3:=Tryz.underlying3
 a3:=Tryz.isAgg3
 z3:=Tryz.sizeOf3
 v3:=Tryz.zeroValue3
 t4:=Tryz.underlying4
 a4:=Tryz.isAgg4
 z4:=Tryz.sizeOf4
 v4:=Tryz.zeroValue4
 t5:=Tryz.underlying5
 a5:=Tryz.isAgg5
 z5:=Tryz.sizeOf5
 v5:=Tryz.zeroValue5
 t9:=Tryz.underlying9
 a9:=Tryz.isAgg9
 z9:=Tryz.sizeOf9
 v9:=Tryz.zeroValue9
 t26:=Tryz.underlying36
 a26:=Tryz.isAgg36
 z26:=Tryz.sizeOf36
 v26:=Tryz.zeroValue36
 t27:=Tryz.underlying36
 a27:=Tryz.isAgg36
 z27:=Tryz.sizeOf36
 v27:=Tryz.zeroValue36
 t29:=Tryz.underlying9
 a29:=Tryz.isAgg9
 z29:=Tryz.sizeOf9
 v29:=Tryz.zeroValue9
 t32:=Tryz.underlying256
 a32:=Tryz.isAgg256
 z32:=Tryz.sizeOf256
 v32:=Tryz.zeroValue256
 t35:=Tryz.underlying311
 a35:=Tryz.isAgg311
 z35:=Tryz.sizeOf311
 v35:=Tryz.zeroValue311
 t36:=Tryz.underlying312
 a36:=Tryz.isAgg312
 z36:=Tryz.sizeOf312
 v36:=Tryz.zeroValue312
 t41:=Tryz.underlying317
 a41:=Tryz.isAgg317
 z41:=Tryz.sizeOf317
 v41:=Tryz.zeroValue317
 t44:=Tryz.underlying281
 a44:=Tryz.isAgg281
 z44:=Tryz.sizeOf281
 v44:=Tryz.zeroValue281
 t46:=Tryz.underlying196
 a46:=Tryz.isAgg196
 z46:=Tryz.sizeOf196
 v46:=Tryz.zeroValue196
 t53:=Tryz.underlying370
 a53:=Tryz.isAgg370
 z53:=Tryz.sizeOf370
 v53:=Tryz.zeroValue370
 t57:=Tryz.underlying225
 a57:=Tryz.isAgg225
 z57:=Tryz.sizeOf225
 v57:=Tryz.zeroValue225
 t63:=Tryz.underlying403
 a63:=Tryz.isAgg403
 z63:=Tryz.sizeOf403
 v63:=Tryz.zeroValue403
 t64:=Tryz.underlying404
 a64:=Tryz.isAgg404
 z64:=Tryz.sizeOf404
 v64:=Tryz.zeroValue404 }
def Tryz.Se:ru:=⟨fun|7=>49|10=>98|n=>n,fun|23=>110|26=>9|3=>51|28=>124|0=>0|27=>123|33=>150|4=>4|n=>n,fun|n=>n⟩
theorem Tryz.ajF:tp pg Tryz.Se:= {
 mixed:=by kernel_rfl
 f7:=⟨Tryz.f49.name,by decide,Tryz.func49.trans (congrArg some (by kernel_rfl))⟩
 f10:=⟨Tryz.f98.name,by decide,Tryz.func98.trans (congrArg some (by kernel_rfl))⟩
 t0:=Tryz.underlying0
 a0:=Tryz.isAgg0
 z0:=Tryz.sizeOf0
 v0:=Tryz.zeroValue0
 t4:=Tryz.underlying4
 a4:=Tryz.isAgg4
 z4:=Tryz.sizeOf4
 v4:=Tryz.zeroValue4
 t23:=Tryz.underlying110
 a23:=Tryz.isAgg110
 z23:=Tryz.sizeOf110
 v23:=Tryz.zeroValue110
 t26:=Tryz.underlying9
 a26:=Tryz.isAgg9
 z26:=Tryz.sizeOf9
 v26:=Tryz.zeroValue9
 t27:=Tryz.underlying123
 a27:=Tryz.isAgg123
 z27:=Tryz.sizeOf123
 v27:=Tryz.zeroValue123
 t28:=Tryz.underlying124
 a28:=Tryz.isAgg124
 z28:=Tryz.sizeOf124
 v28:=Tryz.zeroValue124
 t33:=Tryz.underlying150
 a33:=Tryz.isAgg150
 z33:=Tryz.sizeOf150
 v33:=Tryz.zeroValue150 }
def Tryz.Sf:ru:=⟨fun|7=>59|10=>107|n=>n,fun|23=>104|26=>9|3=>135|28=>124|0=>0|27=>123|33=>150|4=>4|n=>n,fun|n=>n⟩
theorem Tryz.ajG:tp pg Tryz.Sf:= {
 mixed:=by kernel_rfl
 f7:=⟨Tryz.f59.name,by decide,Tryz.func59.trans (congrArg some (by kernel_rfl))⟩
 f10:=⟨Tryz.f107.name,by decide,Tryz.func107.trans (congrArg some (by kernel_rfl))⟩
 t0:=Tryz.underlying0
 a0:=Tryz.isAgg0
 z0:=Tryz.sizeOf0
 v0:=Tryz.zeroValue0
 t4:=Tryz.underlying4
 a4:=Tryz.isAgg4
 z4:=Tryz.sizeOf4
 v4:=Tryz.zeroValue4
 t23:=Tryz.underlying104
 a23:=Tryz.isAgg104
 z23:=Tryz.sizeOf104
 v23:=Tryz.zeroValue104
 t26:=Tryz.underlying9
 a26:=Tryz.isAgg9
 z26:=Tryz.sizeOf9
 v26:=Tryz.zeroValue9
 t27:=Tryz.underlying123
 a27:=Tryz.isAgg123
 z27:=Tryz.sizeOf123
 v27:=Tryz.zeroValue123
 t28:=Tryz.underlying124
 a28:=Tryz.isAgg124
 z28:=Tryz.sizeOf124
 v28:=Tryz.zeroValue124
 t33:=Tryz.underlying150
 a33:=Tryz.isAgg150
 z33:=Tryz.sizeOf150
 v33:=Tryz.zeroValue150 }
end Go.Proofs
namespace Go.Proofs.YtpdkoaklobnegaaGreat
open Go.Proofs.Tryz renaming prog → pg
open Go.dL Go.RowKit Go.Maps Go.Sort Go.Shelf Go.Proofs
set_option maxRecDepth 100000
set_option maxHeartbeats 1000000
set_option linter.unusedVariables false
set_option linter.unusedSimpArgs false
theorem insert_perm {H:Type} (x:Lit×DataW H): ∀l:List (Lit×DataW H),(ry x l).Perm (x::l)
 |[]=>jR _
 |y::r=>by
  unfold ry;split
  ·exact jR _
  ·exact((insert_perm x r).cons y).trans (List.Perm.swap x y r)
theorem Cf {H:Type} : ∀l:List (Lit×DataW H),(l.foldr ry []).Perm l
 |[]=>jR _
 |x::l=>(insert_perm x _).trans ((Cf l).cons x)
def RT:Value→Option (DataW Unit×List MemPlace):=fun _=>some (.lit (.bool true),[])
theorem Ye {P:Program} {w:World} {X:XS} {b kt c:Nat} {es:List (jL ByteArray)} (h:mj w X b cu es c) (hk:P.underlying kt=some .string) (hs: ∀x∈es,x.1.size≤2^40) (hl:es.length≤2^40):
  ∃D0:DataW Unit,w.ownsMap P kt RT b es.length D0∧Maps.size D0=es.length∧(strKeys D0).Perm (es.map fun x=>x.1.data.toList):=by
 have UI:(2:Nat)^40≤maxLen:=by decide
 have akP: ∀x∈es,keyOf P kt (.string x.1)=some (.string x.1.data.toList):=fun x hx=>by
  unfold keyOf mapKey;rw [hk];simp [ah (hs x hx) UI]
 have rX: ∀x∈es,Cc P kt RT (pC cu x)=some (.string x.1.data.toList,.lit (.bool true)):=fun x hx=>by
  unfold Cc pC RT;simp [akP x hx]
 have akQ:(es.map (pC cu)).map (vV P kt RT)=es.map fun x=>((.string x.1.data.toList:Lit),(.lit (.bool true):DataW Unit)):=by
  rw [eP];apply ga;intro x hx;simp only [Function.comp,vV,rX x hx,Option.getD_some]
 refine⟨.map (((es.map (pC cu)).map (vV P kt RT)).foldr ry []),⟨_,c,h.2.1,⟨?_,⟨?_,?_,?_⟩,?_⟩,by simp,by simp⟩,?_,?_⟩
 ·simpa using ah hl UI
 ·intro x hx;simp only [fG,List.mem_map] at hx;obtain⟨y,hy,rfl⟩:=hx;exact h.2.2.2.2 y hy
 ·have:=h.2.2.2.1;simpa [eP,qq,pC] using this
 ·have h1:=h.2.2.1;have e:((es.map (pC cu)).toArray.toList.map (·.key))=(es.map (·.1)).map cu:=by simp [eP,qq,pC]
  rw [e];exact List.Pairwise.map cu (fun a b qS e=>qS (by cases e;rfl)) h1
 ·intro x hx;simp only [fG,List.mem_map] at hx;obtain⟨y,hy,rfl⟩:=hx;exact⟨_,rX y hy⟩
 ·show az _=_
  rw [(Cf _).length_eq];simp
 ·show(List.map _ _).Perm _
  refine((Cf _).map _).trans ?_;rw [akQ,eP];exact jR _
def leB (x y:List UInt8):Bool:=decide (x≤y)
def bl (s:ByteArray):List UInt8:=s.data.toList
theorem afL (s:ByteArray):(⟨(bl s).toArray⟩:ByteArray)=s:=by unfold bl;simp
def fB (ks:List ByteArray):List ByteArray:=((ks.map bl).mergeSort leB).map fun x=>⟨x.toArray⟩
theorem Dv: ∀a b c:List UInt8,leB a b=true→leB b c=true→leB a c=true:=fun a b c h1 h2=>by
 unfold leB at*;simp only [decide_eq_true_eq] at*;exact List.le_trans h1 h2
theorem Dw: ∀a b:List UInt8,(leB a b||leB b a)=true:=fun a b=>by
 unfold leB;rcases List.le_total a b with h|h<;>simp [h]
theorem adM: ∀a b:List UInt8,leB a b=true→leB b a=true→a=b:=fun a b h1 h2=>by
 unfold leB at*;simp only [decide_eq_true_eq] at*;exact List.le_antisymm h1 h2
theorem Sg: ∀{l l':List (List UInt8)},l.Perm l'→l.Pairwise (fun a b=>leB a b=true)→l'.Pairwise (fun a b=>leB a b=true)→l=l'
 |[],l',hp,_,_=>(List.Perm.nil_eq hp)
 |a::l,[],hp,_,_=>absurd hp.length_eq (by simp)
 |a::l,b::l',hp,h1,h2=>by
  have zU:=List.pairwise_cons.1 h1;have OS:=List.pairwise_cons.1 h2;have qS:a=b:=by
   have ha:a∈b::l':=hp.mem_iff.1 (by simp);have hb:b∈a::l:=hp.mem_iff.2 (by simp);rcases List.mem_cons.1 ha with e|ha
   ·exact e
   ·rcases List.mem_cons.1 hb with e|hb
    ·exact e.symm
    ·exact adM a b (zU.1 b hb) (OS.1 a ha)
  subst qS;rw [Sg (List.Perm.cons_inv hp) zU.2 OS.2]
theorem Sh {l l':List (List UInt8)} (h:l.Perm l'):l.mergeSort leB=l'.mergeSort leB:=
 Sg (((pf l leB).trans h).trans (pf l' leB).symm) (qQ Dv Dw l) (qQ Dv Dw l')
theorem mK (ks:List ByteArray):(fB ks).Perm ks:=by
 have h:=(pf (ks.map bl) leB).map fun x=>(⟨x.toArray⟩:ByteArray);rw [eP] at h;have e:(ks.map ((fun x=>(⟨x.toArray⟩:ByteArray))∘bl))=ks:=by
  conv=>rhs;rw [←List.map_id ks]
  apply ga;intro x _;exact afL x
 rw [e] at h;exact h
theorem adN {ks ks':List ByteArray} (h:ks.Perm ks'):fB ks=fB ks':=by unfold fB;rw [Sh (h.map bl)]
theorem adO (m:Nat):AnyZ.SortsIn pg Tryz.My qp m:=
  ⟨fun iu off cap ss W hH AK dU=>callsIn_wide.2 (AnyM.slices_Sort_string Tryz.afK iu off cap ss W hH AK dU),
   fun p cap W=>callsIn_wide.2 (AnyM.slices_Sort_string_none Tryz.afK p cap W)⟩
theorem UJ {g:FuncId} {lb:Array Value} {w:World} {X A:XS} {mb:Nat} {α:Type} {rd:World→XS→Value→α→Prop} {l:List (ByteArray×α)} (h:iK w X A mb cu rd l) (eg:enters pg g=true)
  (hs: ∀x∈l,x.1.size≤2^40) (hl:l.length≤2^40)
  (hg: ∀wa,Kp X w wa→ ∀(nn:Nat) (D0:DataW Unit),wa.ownsMap pg 9 RT mb nn D0→SeqGives qp 2 pg g lb encStr (fun ss=>ss.Perm (strKeys D0)) (Maps.size D0) wa):
  Ct pg 48 #[.func (.func g) #[] lb] w X nX fun v wa w'=>Own w' (made wa w') wa.heap.size 9 1 v ((fB (l.map (·.1))).map S1):=by
 intro wa hk;obtain⟨es,c,h1,h2⟩:=h;have aau:=h2.keys;have hlen:es.length=l.length:=by have:=congrArg az aau;simpa using this
 obtain⟨D0,Cg,dU,zF⟩:=Ye (P:=pg) (h1.kp hk) (kt:=9) kQ (fun x hx=>by
  have:x.1∈l.map (·.1):=by rw [←aau];exact List.mem_map.2 ⟨x,hx,rfl⟩
  obtain⟨y,hy,e⟩:=List.mem_map.1 this;rw [←e];exact hs y hy) zQ
 have UI:(2:Nat)^40≤maxLen:=by decide
 have hS:=callsIn_wide.1 (AnyZ.sorted_in Tryz.aga qp 5 trivial trivial trivial trivial rfl zQ (adO _) (fun args w=>pD kQ args w) g lb trivial (fun args w=>pD eg args w) _ _ zQ zQ wa (hg wa hk _ D0 Cg));refine hS.mono ?_;rintro e w' ⟨v,ss,rfl,hp,dA,adP,hb⟩;have hx:Ext wa w':=⟨hb.os,hb.tape,hb.output,hb.size,fun k ai _=>hb.block k ai⟩;refine⟨v,rfl,hx,?_⟩;have e1:ss.mergeSort (fun x y=>decide (x≤y))=(l.map fun x=>bl x.1).mergeSort leB:=by
  have hp2:ss.Perm (l.map fun x=>bl x.1):=by
   refine hp.trans (zF.trans ?_);have:(es.map fun x=>x.1.data.toList)=(l.map fun x=>bl x.1):=by
    have:=congrArg (List.map bl) aau;simpa [eP,qq,bl] using this
   rw [this]
  exact Sh hp2
 have e2:((ss.mergeSort (fun x y=>decide (x≤y))).map encStr)=((fB (l.map (·.1))).map S1).flatten:=by
  rw [e1];unfold fB;rw [eP,eP];have e3: ∀q:List (List UInt8),q.map encStr=(q.map (S1∘fun x=>(⟨x.toArray⟩:ByteArray))).flatten:=fun q=>by
   induction q with
   |nil=>rfl
   |cons a q ih=>simp only [List.map_cons,List.flatten_cons,←ih];rfl
  exact e3 _
 have sV:ss.length=((fB (l.map (·.1))).map S1).length:=by
  rw [aG,(mK _).length_eq,aG,←hlen];have:=hp.length_eq;rw [this,zF.length_eq,aG]
 refine⟨fun r hr=>by obtain⟨x,_,rfl⟩:=List.mem_map.1 hr;rfl,?_,fun q hq=>⟨?_,?_⟩⟩
 ·rw [←sV,←e2];exact dA
 ·exact(dA.lt _ hq).1
 ·exact(dA.lt _ hq).2
end Go.Proofs.YtpdkoaklobnegaaGreat
namespace Go.Proofs.YtpdkoaklobnegaaGreat
open Go.Proofs.Tryz renaming prog → pg
open Go.dL Go.Maps Go.Shelf
set_option maxRecDepth 100000
set_option maxHeartbeats 1000000
set_option linter.unusedVariables false
set_option linter.unusedSimpArgs false
attribute [local irreducible] un jn bq aS bb gy dV dD cK lJ ez kV yC xf gU gH aa ay aD eW eV eU eC eF gE ao fin aR aE aJ vS yD jw jA tq A6 A7 yE A8 yF jx jB tt A9 Ba yG Bb
theorem agb {w:World} {X:XS} {mb:Nat} :Ct pg 59 #[.map (some mb)] w X nX fun v wa w'=> ∃bx,v= .func (.func 107) #[] #[ptr bx 0]∧bH w' (made wa w') bx [.map (some mb)] 104:=by
 intro w0 hk;apply nH;unfold jC;have hs:=aj.init w0;refine rY rfl hs.has fun bx w1 X1 gT aq dA=>?_;repeat' first|refine aI ?_;intros
 exact ak aq fun wa aM=>⟨bx,rfl,⟨gT,(dA.kp aM).lt⟩,(dA.kp aM).2⟩
theorem agc {w:World} {X:XS} {mb:Nat} :Ct pg 49 #[.map (some mb)] w X nX fun v wa w'=> ∃bx,v= .func (.func 98) #[] #[ptr bx 0]∧bH w' (made wa w') bx [.map (some mb)] 110:=by
 intro w0 hk;apply nI;unfold jD;have hs:=aj.init w0;refine rY rfl hs.has fun bx w1 X1 gT aq dA=>?_;repeat' first|refine aI ?_;intros
 exact ak aq fun wa aM=>⟨bx,rfl,⟨gT,(dA.kp aM).lt⟩,(dA.kp aM).2⟩
theorem aco {w:World} {X A:XS} {mb bx:Nat} {α:Type} {rd:World→XS→Value→α→Prop} {l:List (ByteArray×α)} (h:iK w X A mb cu rd l) (hb:bH w X bx [.map (some mb)] 104)
  (hs: ∀x∈l,x.1.size≤2^40) (hl:l.length≤2^40):
  Ct pg 48 #[.func (.func 107) #[] #[ptr bx 0]] w X nX fun v wa w'=>Own w' (made wa w') wa.heap.size 9 1 v ((fB (l.map (·.1))).map S1):=
 UJ h kQ hs hl fun wa hk nn D0 Cg=>
  AnyZ.keys_gives (ρ:=Tryz.Sf) { Tryz.ajG with } qp _ trivial rfl zQ bx mb nn D0 wa (hb.kp hk).lt (by have:=(hb.kp hk).2;simp [World.cell?,this]) Cg
theorem acp {w:World} {X A:XS} {mb bx:Nat} {α:Type} {rd:World→XS→Value→α→Prop} {l:List (ByteArray×α)} (h:iK w X A mb cu rd l) (hb:bH w X bx [.map (some mb)] 110)
  (hs: ∀x∈l,x.1.size≤2^40) (hl:l.length≤2^40):
  Ct pg 48 #[.func (.func 98) #[] #[ptr bx 0]] w X nX fun v wa w'=>Own w' (made wa w') wa.heap.size 9 1 v ((fB (l.map (·.1))).map S1):=
 UJ h kQ hs hl fun wa hk nn D0 Cg=>
  AnyZ.keys_gives (ρ:=Tryz.Se) { Tryz.ajF with } qp _ trivial rfl zQ bx mb nn D0 wa (hb.kp hk).lt (by have:=(hb.kp hk).2;simp [World.cell?,this]) Cg
theorem Es {w:World} {X F:XS} {db:Nat} {m:DM} (h:Dk w F db m) (hF:FX F X w) (hs: ∀x∈m.fs,x.1.size≤2^40) (hl:m.fs.length≤2^40):
  Ct pg 20 #[ptr db 0] w X nX fun v wa w'=>Own w' (made wa w') wa.heap.size 9 1 v ((fB (m.fs.map (·.1))).map S1):=by
 intro w0 hk;obtain⟨mb,l,h0,hz⟩:=h.mv (hF.mv hk);have hX:=fun k ai=>(hF.kp hk k ai).1;have hb:=h0.box.mv (Mv.sub hX);have hm:=h0.map.mv jE (Mv.sub hX) (A':=nX) fun _ h=>h.elim;have Bc:=h0.fs;apply LO;unfold Bd;have bT:=aj.init w0;repeat' first|refine aI ?_;intros
 refine cJ agb kQ bT.has ?_;rintro _ wa w1 X1 ⟨bx,rfl,dA⟩ hle fU aq;have uq:=hm.mv jE aq.mv (A':=nX) fun _ h=>h.elim;refine cJ (aco uq (dA.mono fU) (fun x hx=>hs (x.1,x.2.er) (by rw [Bc];exact List.mem_map.2 ⟨x,hx,rfl⟩)) (by rw [Bc,aG] at hl;exact hl)) kQ aq.has ?_;rintro v rZ w2 X2 ho sD ph bQ;have No:=aq.kp.size;refine ak (aq.trans bQ) fun Mz aM=>?_;have m7:Own w2 X2 w0.heap.size 9 1 v ((fB (l.map (·.1))).map S1):=ho.up ph zQ;have e:m.fs.map (·.1)=l.map (·.1):=by rw [Bc,eP];rfl
 rw [e];exact(m7.kp aM).tight
end Go.Proofs.YtpdkoaklobnegaaGreat
namespace Go.Proofs.YtpdkoaklobnegaaGreat
open Go.Proofs.Tryz renaming prog → pg
open Go.dL
set_option maxRecDepth 100000
set_option maxHeartbeats 1000000
set_option linter.unusedVariables false
set_option linter.unusedSimpArgs false
attribute [local irreducible] un jn bq aS bb gy dV dD cK lJ ez kV yC xf gU gH aa ay aD eW eV eU eC eF gE ao fin aR aE aJ vS yD jw jA tq A6 A7 yE A8 yF jx jB tt A9 Ba yG Bb
@[ext] structure fN where
 cB:gf
 aP:bE
 writes:List KV
 deriving DecidableEq
structure SM where
 every:Int
 since:Int
 down:Bool
 bF:List (ByteArray×eQ)
 high:bE
 done:List fN
def fq (p:List (ByteArray×eQ)) (x:KV):List (ByteArray×eQ):=if x.val.kind=0 then mz x.key p else fC x.key x.val p
def SM.apply (s:SM) (t:gf) (st:bE) (l:List KV):SM:= { s with bF:=l.foldl fq s.bF,high:=st,done:=s.done++[⟨t,st,l⟩] }
abbrev fN.l (e:fN) (vw:Value):List Value:=[I e.cB.jr,I e.cB.mA,I e.cB.sq,I e.aP.wall,I e.aP.fi,I e.aP.node,vw]
def xg:World→XS→Value→eQ→Prop:=fun _ _ v x=>v=x.v
theorem mB:tu xg:=fun _ _ _ _ _ _ h _=>h
structure mI (w:World) (F:XS) (nb lb mb:Nat) (av:Value) (es:List (Value×fN)) (s:SM):Prop where
 done:s.done=es.map (·.2)
 box:bH w F nb [ptr lb 0,I s.every,I s.since,B s.down,.map (some mb),I s.high.wall,I s.high.fi,I s.high.node,av] 112
 map:iK w F nX mb cu xg s.bF
 ow:Ow w F 73 7 av (es.map fun x=>x.2.l x.1)
 ws: ∀x∈es,Ow w F 53 4 x.1 (x.2.writes.map KV.l)
section
variable {w w' : World} {X X' F F' G : XS} {nb lb mb : Nat} {av xh : Value} {es : List (Value × fN)} {s s' : SM}
theorem mI.mv (h:mI w F nb lb mb av es s) (v:Mv F w F' w'):mI w' F' nb lb mb av es s:=
 ⟨h.done,h.box.mv v,h.map.mv mB v (fun _ h=>h.elim),h.ow.mv v,fun x hx=>(h.ws x hx).mv v⟩
theorem mI.UK (h:mI w F nb lb mb av es s) (hX: ∀k,F k→X k) (c:eD (· =mb) X w X' w') {p:List (ByteArray×eQ)} (hm:iK w' X' nX mb cu xg p):mI w' F nb lb mb av es { s with bF:=p } :=by
 have mv: ∀{A:XS},(∀k,A k→F k∧k≠mb)→Mv A w F w':=fun hA k hk _=>⟨(hA k hk).1,c.block k (hX k (hA k hk).1) (hA k hk).2⟩;refine⟨h.done,?_,?_,?_,fun x hx=>?_⟩
 ·exact h.box.own.mv (mv fun k hk=>by subst hk;exact⟨h.box.1,(h.map.dJ h.box).symm⟩)
 ·obtain⟨e,c',h1,h2⟩:=hm;exact⟨e,c',⟨h.map.x.1,h1.2⟩,h2⟩
 ·exact h.ow.tight.mv (mv fun k hk=>⟨(h.ow.aU hk).1,fun e=>h.map.QH h.ow (e▸hk)⟩)
 ·exact(h.ws x hx).tight.mv (mv fun k hk=>⟨((h.ws x hx).aU hk).1,fun e=>h.map.QH (h.ws x hx) (e▸hk)⟩)
theorem mI.Ji (h:mI w F nb lb mb av es s) (hX: ∀k,F k→X k) (c:eD (· =nb) X w X' w') (s':SM) (hp:s'.bF=s.bF) (hd:s'.done=s.done)
  (hr:bH w' X' nb [ptr lb 0,I s'.every,I s'.since,B s'.down,.map (some mb),I s'.high.wall,I s'.high.fi,I s'.high.node,av] 112):mI w' F nb lb mb av es s':=by
 have mv: ∀{A:XS},(∀k,A k→F k∧k≠nb)→Mv A w F w':=fun hA k hk _=>⟨(hA k hk).1,c.block k (hX k (hA k hk).1) (hA k hk).2⟩;refine⟨hd.trans h.done,⟨h.box.1,hr.2⟩,?_,?_,fun x hx=>?_⟩
 ·rw [hp];exact h.map.own.mv mB (mv fun k hk=>by subst hk;exact⟨h.map.x.1,h.map.dJ h.box⟩) fun _ h=>h.elim
 ·exact h.ow.tight.mv (mv fun k hk=>⟨(h.ow.aU hk).1,fun e=>h.ow.dJ h.box kQ (e▸hk)⟩)
 ·exact(h.ws x hx).tight.mv (mv fun k hk=>⟨((h.ws x hx).aU hk).1,fun e=>(h.ws x hx).dJ h.box kQ (e▸hk)⟩)
theorem mI.more (h:mI w F nb lb mb av es s) (hX:FX F X w) (c:eD G X w X' w') (hG: ∀k,G k→k=nb∨av.ownBlock=some k) (OT: ∀k,F k→F' k) {vw:Value} {e:fN}
  (hr:bH w' F' nb [ptr lb 0,I s.every,I s.since,B s.down,.map (some mb),I s.high.wall,I s.high.fi,I s.high.node,xh] 112)
  (ho:Ow w' F' 73 7 xh ((es++[(vw,e)]).map fun x=>x.2.l x.1)) (hw:Ow w' F' 53 4 vw (e.writes.map KV.l)):
  mI w' F' nb lb mb xh (es++[(vw,e)]) { s with done:=s.done++[e] } :=by
 have mv: ∀{A:XS},(∀k,A k→F k∧k≠nb∧av.ownBlock≠some k)→Mv A w F' w':=fun hA k hk _=>by
  obtain⟨a1,a2,a3⟩:=hA k hk;exact⟨OT k a1,c.block k (hX k a1).1 fun hg=>(hG k hg).elim a2 a3⟩
 refine⟨by rw [aT,←h.done];rfl,hr,?_,ho,fun x hx=>?_⟩
 ·exact h.map.own.mv mB (mv fun k hk=>by subst hk;exact⟨h.map.x.1,h.map.dJ h.box,h.map.QH h.ow⟩) fun _ h=>h.elim
 ·rcases List.mem_append.1 hx with hx|hx
  ·refine(h.ws x hx).tight.mv (mv fun k hk=>⟨((h.ws x hx).aU hk).1,fun e=>(h.ws x hx).dJ h.box kQ (e▸hk),fun e=>?_⟩);obtain⟨c1,h1⟩:=(h.ws x hx).tag hk;obtain⟨c2,h2⟩:=h.ow.tag e;rw [h1] at h2;simp at h2
  ·simp only [List.mem_singleton] at hx;subst hx;exact hw
end
theorem zG {nb:Nat} {e:Int} (h:e≠12):Pure pg 57 #[ptr nb 0,I e] (I e):=by
 intro w0;apply Be;unfold uD;have hs:=aj.init w0;repeat' first|refine bL ?_;intros|with_reducible apply cG|(with_reducible refine eY hs ?_);rfl
theorem acq {R:Ending→World→Prop} {w:World} {X:XS} {mb:Nat} {l:List (ByteArray×eQ)} {k:ByteArray} {N:Value→World→XS→Prop} (h:iK w X nX mb cu xg l) (hX: ∀k,X k→k<w.heap.size)
  (n: ∀w' X',eD (· =mb) X w X' w'→iK w' X' nX mb cu xg (mz k l)→N (.tuple #[]) w' X'):
  eV pg R X w true (Builtin.delete_ #[110,9] 0 #[.map (some mb),.string k]) N:=
 UL (kt:=9) (et:=51) h mB (fun _ h=>h.elim) (rz kQ) kQ hX n
theorem Si {R:Ending→World→Prop} {w:World} {X:XS} {mb:Nat} {l:List (ByteArray×eQ)} {k:ByteArray} {x:eQ} {v:Value} {N:Value→World→XS→Prop} (h:iK w X nX mb cu xg l) (hv:v=x.v) (hX: ∀k,X k→k<w.heap.size)
  (n: ∀w' X',eD (· =mb) X w X' w'→iK w' X' nX mb cu xg (fC k x l)→N undef w' X'):
  eU pg R X w true (Instr.mapUpdate 110 (.map (some mb)) (.string k) v) N:=
 Gs (kt:=9) (et:=51) h mB (show xg _ _ v x from hv) (fun _ h=>h.elim) (rz kQ) kQ hX n
theorem Jj {w:World} {X F S:XS} {nb lb mb:Nat} {av:Value} {es:List (Value×fN)} {s:SM} {t:gf} {st:bE} {vw:Value} {l:List KV} (h:mI w F nb lb mb av es s) (hF:FX F X w) (hw:Sl w S 4 vw (l.map KV.l)) (hS: ∀k,S k→X k∧ ¬F k)
  (hl:l.length≤2^30) (hd:s.done.length≤2^30):
  Ct pg 55 #[ptr nb 0,t.v,st.v,vw] w X F fun v wa w'=>v= .tuple #[]∧ ∃F' xh zW,(∀k,F' k→F k∨made wa w' k)∧mI w' F' nb lb mb xh zW (s.apply t st l):=by
 intro w0 hk;replace h:=h.mv (hF.mv hk);have hT:=hF.ft hk;have iz:FX F (ba w0) w0:=hF.kp hk;have wG:Sl w0 (out F w0) 4 vw (l.map KV.l):=hw.mv fun k ai yH=>⟨⟨Nat.lt_of_lt_of_le yH hk.size,(hS k ai).2⟩,hk.block k (hS k ai).1⟩;have ov:=wG.one;apply Jk;unfold zX;repeat' first|refine aI ?_;intros
 refine fV (fun n a w X=> ∃i:Nat,a=I (i:Nat)∧n=l.length-i∧i≤l.length∧Ft w0 F w X F∧mI w F nb lb mb av es { s with bF:=(l.take i).foldl fq s.bF }) l.length ⟨0,rfl,rfl,Nat.zero_le _,hT,h⟩ ?_;clear hT h;rintro n a w X ⟨i,rfl,rfl,hi,hT,h⟩;have hb:=h.box.mv (Mv.sub hT.aU);have hm:=h.map.mv mB (Mv.sub hT.aU) (A':=nX) fun _ h=>h.elim;have hwc:Sl w X 4 vw (l.map KV.l):=wG.mv hT.s.mv;rcases ej l i with⟨cH,x,hx,Jl⟩|⟨eh,Jl⟩
 ·have T6:(l.take (i+1)).foldl fq s.bF=fq ((l.take i).foldl fq s.bF) x:=by rw [ca,hx];simp
  repeat' first|refine bL ?_;intros|refine de ?_ ?_<;>intros|with_reducible apply cG
  ·refine acq hm hT.s.has fun w1 X1 c uq=>?_;have h1:=h.UK hT.aU c uq;have cm:Ft w0 F w1 X1 F:=hT.dM c (fun k ai=>by subst ai;exact h.map.x.1) fun k ai=>.inl ai;have e:mz x.key ((l.take i).foldl fq s.bF)=(l.take (i+1)).foldl fq s.bF:=by rw [T6];unfold fq;rw [if_pos (by assumption)]
   have zU:mI w1 F nb lb mb av es { s with bF:=mz x.key ((l.take i).foldl fq s.bF) } :=h1;rw [e] at zU;repeat' first|refine aI ?_;intros
   exact fF (l.length-(i+1)) zQ ⟨i+1,by simp,rfl,by omega,cm,zU⟩
  ·refine Si hm (x:=x.val) rfl hT.s.has fun w1 X1 c uq=>?_;have h1:=h.UK hT.aU c uq;have cm:Ft w0 F w1 X1 F:=hT.dM c (fun k ai=>by subst ai;exact h.map.x.1) fun k ai=>.inl ai;have e:fC x.key x.val ((l.take i).foldl fq s.bF)=(l.take (i+1)).foldl fq s.bF:=by rw [T6];unfold fq;rw [if_neg (by assumption)]
   have zU:mI w1 F nb lb mb av es { s with bF:=fC x.key x.val ((l.take i).foldl fq s.bF) } :=h1;rw [e] at zU;repeat' first|refine aI ?_;intros
   exact fF (l.length-(i+1)) zQ ⟨i+1,by simp,rfl,by omega,cm,zU⟩
 ·have jM:i=l.length:=by omega
  subst jM;rw [dE] at h hb;repeat' first|refine bL ?_;intros
  refine zH (o:=5) hb zQ kQ (by simp) rfl rfl hT.s.has fun w1 X1 c1 qs=>?_;have cm:Ft w0 F w1 X1 F:=hT.dM c1 (fun k ai=>by subst ai;exact h.box.1) fun k ai=>.inl ai;have h1:=h.Ji hT.aU c1 { s with bF:=l.foldl fq s.bF,high:=st } rfl rfl qs;have kW:=h1.box.mv (Mv.sub cm.aU);have oa:=h1.ow.one;repeat' first|refine aI ?_;intros
  refine cJ (Fb (wG.mv cm.s.mv) zQ) kQ cm.s.has ?_;rintro vc rZ w2 X2 hoc sD ph bQ;have bK:=cm.since bQ;have h2:mI w2 F nb lb mb av es _:=h1.mv (bQ.dZ cm.aU);have ny:=h2.box.mv (Mv.sub bK.aU);have QI:Ow w2 (fun k=>X2 k∧w1.heap.size≤k) 53 4 vc (l.map KV.l):=hoc.ow.mono fun k ai=>⟨ph k ai,ah sD ai.1⟩;have ovc:=QI.one;obtain⟨xb,xn,xc,rfl⟩:=QI.sl.form;have qt:es.length=s.done.length:=by have:=congrArg az h2.done;simpa using this.symm
  repeat' first|refine aI ?_;intros
  refine Jm (bytes:=72) (row:=(⟨t,st,l⟩:fN).l (.slice xb xn xc)) (h2.ow.mono bK.aU) bK.s.has kQ rfl rfl (by simp [ovc];exact⟨rfl,rfl,rfl,rfl,rfl,rfl⟩) (by simp;omega) (by simp;omega) fun xh w3 X3 c3 oZ adQ=>?_;have UM: ∀q,iu av q→q≠nb:=fun q hq e=>h2.ow.dJ h2.box kQ (by rw [←e];exact hq);have zY:bH w3 X3 nb [ptr lb 0,I s.every,I s.since,B s.down,.map (some mb),I st.wall,I st.fi,I st.node,av] 112:=⟨c3.sub _ ny.1,by rw [c3.block _ ny.1 fun hq=>UM _ hq rfl];exact ny.2⟩;repeat' first|refine aI ?_;intros
  refine kK (o:=8) zY zQ kQ (by simp) oZ.one c3.has fun w4 X4 c4 o9=>?_;have cc:eD (fun k=>k=nb∨av.ownBlock=some k) X2 w2 X4 w4:=(c3.mono fun k _ ai=>.inr ai).trans (c4.mono fun k _ ai=>.inl ai);have ahq: ∀q,iu av q→F q:=fun q hq=>(h2.ow.aU hq).1;have Et: ∀k,(X2 k∧w1.heap.size≤k)→(X4 k∧w0.heap.size≤k):=fun k ai=>⟨c4.sub _ (c3.sub _ ai.1),by have:=cm.s.kp.size;omega⟩;have dS:Ft w0 F w4 X4 (fun k=>F k∨(X4 k∧w0.heap.size≤k)):=(bK.dM (F':=F) cc (fun k ai=>by
   rcases ai with rfl|ai
   ·exact h2.box.1
   ·exact ahq _ ai) fun k ai=>.inl ai).more fun k ai=>ai
  have lK: ∀g,xh.ownBlock=some g→F g∨(X4 g∧w0.heap.size≤g):=fun g hg=>by
   rcases adQ with e|⟨g',e,eh⟩
   ·exact .inl (ahq _ (e.symm.trans hg))
   ·rw [hg] at e;have:g=g':=Option.some.inj e;subst this;exact .inr ⟨c4.sub _ (oZ.aU hg).1,by have:=bK.s.kp.size;omega⟩
  have akR: ∀q,iu xh q→q≠nb:=fun q hq e=>oZ.dJ zY kQ (by rw [←e];exact hq);have hcv: ∀q,iu (.slice xb xn xc) q→(F q∨(X4 q∧w0.heap.size≤q))∧w4.heap[q]? =w2.heap[q]? :=fun q hq=>by
   have h1:=(QI.aU hq).1;have UN:q≠nb:=fun e=>QI.dJ h2.box kQ (by rw [←e];exact hq);have hnr: ¬iu av q:=fun OU=>by
    obtain⟨c1,e1⟩:=QI.tag hq;obtain⟨c2,e2⟩:=h2.ow.tag OU;rw [e1] at e2;simp at e2
   exact⟨.inr (Et _ h1),by rw [c4.block q (c3.sub _ h1.1) UN,c3.block q h1.1 hnr]⟩
  have Zp:=h2.more (F':=fun k=>F k∨(X4 k∧w0.heap.size≤k)) (xh:=xh) (vw:=.slice xb xn xc) (e:=⟨t,st,l⟩) (bK.fx fun _ h=>h) cc (fun k ai=>ai) (fun k ai=>.inl ai) ⟨.inl h2.box.1,o9.2⟩ ?_ ?_
  ·exact dS.fin fun wa aM=>⟨rfl,_,xh,_,dS.fL aM fun _ h=>h,Zp.mv (aM.ew dS.aU)⟩
  ·rw [aT];exact oZ.tight.mv fun k ai yH=>⟨lK k ai,c4.block k (oZ.aU ai).1 (akR k ai)⟩
  ·exact QI.tight.mv fun k ai yH=>hcv k ai
def SM.get (s:SM) (k:ByteArray):eQ:=(getM k s.bF).getD eQ.zero
def SM.list (s:SM):List KV:=(fB (s.bF.map (·.1))).map fun k=>⟨k,s.get k⟩
theorem ahr {w:World} {X:XS} {mb:Nat} {l:List (ByteArray×eQ)} {k:ByteArray} {N:Value→Prop} (h:iK w X nX mb cu xg l) (n:N ((getM k l).getD eQ.zero).v):
  aa pg X w (Instr.lookup 110 (.map (some mb)) (.string k) false) N:=
 Jn (kt:=9) (et:=51) eQ.zero.v h (rz kQ) kQ kQ (fun v a h1 h2=>by
  have h2:v=a.v:=h2;subst h2;rw [h1] at n;exact n) fun h1=>by rw [h1] at n;exact n
section
variable {w : World} {X F : XS} {nb lb mb : Nat} {av : Value} {es : List (Value × fN)} {s : SM}
theorem MB (h:mI w F nb lb mb av es s) (hF:FX F X w):Ct pg 19 #[ptr nb 0] w X nX fun v wa w'=>v=s.high.v:=by
 intro w0 hk;replace h:=h.mv (hF.mv hk);have hX:=fun k ai=>(hF.kp hk k ai).1;have hb:=h.box.mv (Mv.sub hX);apply Bf;unfold uE;have hs:=aj.init w0;repeat' first|refine aI ?_;intros|((first|(with_reducible refine ak hs ?_)|(with_reducible refine ak (bT.trans hs) ?_));intro wa hk;rfl)
theorem Yf (h:mI w F nb lb mb av es s) (hF:FX F X w):Ct pg 17 #[ptr nb 0] w X nX fun v wa w'=>v=B s.down:=by
 intro w0 hk;replace h:=h.mv (hF.mv hk);have hX:=fun k ai=>(hF.kp hk k ai).1;have hb:=h.box.mv (Mv.sub hX);apply Bg;unfold uF;have hs:=aj.init w0;repeat' first|refine aI ?_;intros|((first|(with_reducible refine ak hs ?_)|(with_reducible refine ak (bT.trans hs) ?_));intro wa hk;rfl)
theorem xi (h:mI w F nb lb mb av es s) (hF:FX F X w) (dU: ∀x∈s.bF,x.1.size≤2^40) (hlen:s.bF.length≤2^30):
  Ct pg 14 #[ptr nb 0] w X nX fun v wa w'=>Own w' (made wa w') wa.heap.size 74 4 v (s.list.map KV.l):=by
 intro w0 hk;replace h:=h.mv (hF.mv hk);have hX:=fun k ai=>(hF.kp hk k ai).1;have hb:=h.box.mv (Mv.sub hX);have hm:=h.map.mv mB (Mv.sub hX) (A':=nX) fun _ h=>h.elim;apply Jo;unfold zZ;have hs:=aj.init w0;repeat' first|refine aI ?_;intros
 refine cJ agc kQ hs.has ?_;rintro _ wa w1 X1 ⟨bx,rfl,dA⟩ hle fU aq;have uq:=hm.mv mB aq.mv (A':=nX) fun _ h=>h.elim;refine cJ (acp uq (dA.mono fU) dU zQ) kQ aq.has ?_;rintro v rZ w2 X2 ho sD ph bQ;have No:=aq.kp.size;replace hs:=aq.trans bQ;have xj:(fB (s.bF.map (·.1))).length=s.bF.length:=by rw [(mK _).length_eq,aG]
 have e:s.list=(fB (s.bF.map (·.1))).map fun k=>⟨k,s.get k⟩:=rfl;rw [e];generalize fB (s.bF.map (·.1))=ks at ho xj⊢;have j7:=(ho.sl.mono ph);have sa:=hm.mv mB hs.mv (A':=nX) fun _ h=>h.elim;repeat' first|refine aI ?_;intros
 refine gN (fun n a acc w X=> ∃i:Nat,a=I (i:Nat)∧n=ks.length-i∧i≤ks.length∧aj X2 w2 X w∧Own w X w2.heap.size 74 4 acc (((ks.take i).map fun k=>(⟨k,s.get k⟩:KV)).map KV.l)) ks.length ⟨0,rfl,rfl,Nat.zero_le _,aj.dY hs.has,Own.nil _ _ _ _ _⟩ ?_;rintro n a acc w X ⟨i,rfl,rfl,hi,cl,sE⟩;have Jp:=hs.trans cl;rcases ej ks i with⟨cH,x,hx,hd⟩|⟨eh,hd⟩
 ·have amz:=j7.since cl;have zY:=hb.since Jp;have Dx:=sa.mv mB cl.mv (A':=nX) fun _ h=>h.elim;have Dy:((ks.take i).map fun k=>(⟨k,s.get k⟩:KV)).length=i:=by simp;omega
  repeat' first|refine bL ?_;intros|(refine ahr Dx ?_)
  refine Fc sE cl hs.has kQ rfl rfl (by simp;omega) (by simp;omega) fun amA w4 X4 ff yI sc amB=>?_;repeat' first|refine aI ?_;intros
  refine gA (ks.length-(i+1)) zQ ⟨i+1,by simp,rfl,by omega,ff,?_⟩;rw [ca,hx,aT,aT];exact yI
 ·have jM:i=ks.length:=by omega
  subst jM;rw [dE] at sE;repeat' first|refine bL ?_;intros
  exact ak Jp fun Mz aM=>by
   have h9:=(sE.kp aM).low (lo':=w0.heap.size) (by have:=hs.kp.size;omega);exact h9.tight
end
def LD.dN (x:LD) (e:Nat) (bs:List Nat):LD×Nat×Nat:=
 if e≠0 then(x,0,e)else
  let r:=x.append bs
  if r.2.2≠0 then r else(r.1.sync.1,r.2.1,r.1.sync.2)
def ig (w:World) (F:XS) (nb lb db:Nat) (s:SM) (L:LM) (m:DM):Prop:=
 ∃FN FG mb av es,Dj FN FG∧(∀k,FN k→F k)∧(∀k,FG k→F k)∧mI w FN nb lb mb av es s∧Lg w FG lb db L m
theorem ig.mv {w w':World} {F:XS} {nb lb db:Nat} {s:SM} {L:LM} {m:DM} (h:ig w F nb lb db s L m) (v:Mv F w F w'):ig w' F nb lb db s L m:=by
 obtain⟨FN,FG,mb,av,es,hd,h1,h2,h3,h4⟩:=h;exact⟨FN,FG,mb,av,es,hd,h1,h2,h3.mv fun k hk hl=>⟨hk,(v k (h1 k hk) hl).2⟩,h4.mv fun k hk hl=>⟨hk,(v k (h2 k hk) hl).2⟩⟩
theorem ig.mono {w:World} {F F':XS} {nb lb db:Nat} {s:SM} {L:LM} {m:DM} (h:ig w F nb lb db s L m) (hs: ∀k,F k→F' k):ig w F' nb lb db s L m:=by
 obtain⟨FN,FG,mb,av,es,hd,h1,h2,h3,h4⟩:=h;exact⟨FN,FG,mb,av,es,hd,fun k hk=>hs k (h1 k hk),fun k hk=>hs k (h2 k hk),h3,h4⟩
theorem Yg {w:World} {X F:XS} {nb lb db e:Nat} {s:SM} {L:LM} {m:DM} {r:Rec} {vr vw vp vq vh vd:Value} {bs:List Nat} (h:ig w F nb lb db s L m) (hL:iT L) (j7:L.bI.length≤2^29) (hF:FX F X w)
  (Gt: ∀wa,Kp X w wa→Ct pg 91 #[r.v vr vw vp vq vh vd] wa (out F wa) nX fun v wb w'=>if e≠0 then v= .tuple #[.slice none 0 0,I e] else∃vb,v= .tuple #[vb,I 0]∧Own w' (made wb w') wb.heap.size 5 1 vb (bs.map U1))
  (h1:dL.one vr=true) (h2:dL.one vw=true) (h3:dL.one vp=true) (h4:dL.one vq=true) (h5:dL.one vh=true) (h6:dL.one vd=true)
  (Fe:iT (LD.append ⟨L,m⟩ bs).1.L) (gg:(LD.dN ⟨L,m⟩ e bs).2.2≠12):
  Ct pg 54 #[ptr nb 0,r.v vr vw vp vq vh vd] w X F fun v wa w'=>v= .tuple #[I (LD.dN ⟨L,m⟩ e bs).2.1,I (LD.dN ⟨L,m⟩ e bs).2.2]∧
   ∃F',(∀k,F' k→F k∨made wa w' k)∧ig w' F' nb lb db s (LD.dN ⟨L,m⟩ e bs).1.L (LD.dN ⟨L,m⟩ e bs).1.m:=by
 intro w0 hk;obtain⟨FN,FG,mb,av,es,iW,hN,hG,bT,hg⟩:=h.mv (hF.mv hk);have hT:=hF.ft hk;have iz:FX F (ba w0) w0:=hF.kp hk;have hb:=bT.box.mv (Mv.sub fun k ai=>hT.aU k (hN k ai));generalize hr:LD.dN ⟨L,m⟩ e bs=q at gg⊢;unfold LD.dN at hr;dsimp only at hr;apply Bh;unfold uG;refine cJ ((Gt w0 hk).since (hT.s)) kQ hT.s.has ?_;rintro ve HQ w1 X1 hq tv oF aq;have cm:=hT.since aq;have kW:=hb.since aq;have hS: ∀(x:LD) (F1:XS) (w2:World) (X2:XS),Ft w0 F w2 X2 F1→ig w2 F1 nb lb db s x.L x.m→ ∀wa,Kp X2 w2 wa→ ∃F',(∀k,F' k→F k∨made w0 wa k)∧ig wa F' nb lb db s x.L x.m:=fun x F1 w2 X2 bK h2 wa aM=>⟨F1,bK.fL aM fun _ h=>h,h2.mv (aM.ew bK.aU)⟩;have UO:mI w1 FN nb lb mb av es s:=bT.mv (aq.dZ fun k ai=>hT.aU k (hN k ai));have Ch:Lg w1 FG lb db L m:=hg.mv (aq.dZ fun k ai=>hT.aU k (hG k ai));by_cases he:e≠0
 ·rw [if_pos he] at hq hr;subst hq;subst hr;dsimp only at gg⊢;repeat' first|refine bL ?_;intros|with_reducible apply cG|(refine gh (zG (e:=(e:Int)) zQ) kQ cm.s.has fun w2 X2 bQ=>?_)
  exact(cm.since bQ).fin fun wa aM=>⟨rfl,hS ⟨L,m⟩ F _ _ (cm.since bQ) ⟨FN,FG,mb,av,es,iW,hN,hG,UO.mv (bQ.dZ fun k ai=>cm.aU k (hN k ai)),Ch.mv (bQ.dZ fun k ai=>cm.aU k (hG k ai))⟩ wa aM⟩
 ·rw [if_neg he] at hq hr;obtain⟨vb,rfl,Bi⟩:=hq;have ovb:=Bi.sl.one;repeat' first|refine bL ?_;intros|with_reducible apply cG
  have hFG:FX FG X1 w1:=cm.fx hG;refine cm.call (Jq Ch hL zQ hFG Bi.sl fun k ai=>⟨oF k ai,fun hf=>?_⟩) kQ hG fun v rZ w2 X2 hq sD ph bK jF=>?_
  ·have:=(iz k (hG k hf)).2;have:=ai.1;omega
  obtain⟨rfl,Dz,UP,qu⟩:=hq;generalize rW:LD.append ⟨L,m⟩ bs=ap at hr Fe qu⊢;have Np:mI w2 FN nb lb mb av es s:=UO.mv (jF.ew fun k ai=>⟨cm.aU k (hN k ai),fun hf=>iW k ai hf⟩);have Ci:Dj FN Dz:=fun k a b=>(UP k b).elim (iW k a) fun hm=>by
   have:=(cm.fx hN k a).2;have:=hm.1;omega
  have Cj: ∀k,FN k→F k∨made rZ w2 k:=fun k ai=>.inl (hN k ai);have Ff: ∀k,Dz k→F k∨made rZ w2 k:=fun k ai=>(UP k ai).imp (hG k) id;have ny:=Np.box.mv (Mv.sub fun k ai=>bK.aU k (Cj k ai));by_cases hz:ap.2.2≠0
  ·rw [if_pos hz] at hr;subst hr;repeat' first|refine bL ?_;intros|with_reducible apply cG|(refine gh (zG (e:=(ap.2.2:Int)) zQ) kQ bK.s.has fun w3 X3 cl=>?_)
   exact(bK.since cl).fin fun wa aM=>⟨rfl,hS ap.1 _ _ _ (bK.since cl) ⟨FN,Dz,mb,av,es,Ci,Cj,Ff,Np.mv (cl.dZ fun k ai=>bK.aU k (Cj k ai)),qu.mv (cl.dZ fun k ai=>bK.aU k (Ff k ai))⟩ wa aM⟩
  ·rw [if_neg hz] at hr;have tw:(ap.2.2:Int)=0:=by omega
   repeat' first|refine bL ?_;intros|with_reducible apply cG
   refine bK.call (BN qu Fe (bK.fx Ff)) kQ Ff fun v oG w3 X3 hq nJ mg cn lL=>?_;obtain⟨rfl,OV,UQ,Sj⟩:=hq;have eap:ap.1=⟨ap.1.L,ap.1.m⟩:=rfl;rw [eap] at hr;subst hr;generalize hsy:LD.sync ⟨ap.1.L,ap.1.m⟩=sy at gg Sj⊢;have Nq:mI w3 FN nb lb mb av es s:=Np.mv (lL.ew fun k ai=>⟨bK.aU k (Cj k ai),fun hf=>Ci k ai hf⟩);have Nr:Dj FN OV:=fun k a b=>(UQ k b).elim (Ci k a) fun hm=>by
    have:=(bK.fx Cj k a).2;have:=hm.1;omega
   have HR: ∀k,FN k→(F k∨made rZ w2 k)∨made oG w3 k:=fun k ai=>.inl (Cj k ai);have OW: ∀k,OV k→(F k∨made rZ w2 k)∨made oG w3 k:=fun k ai=>(UQ k ai).imp (Ff k) id;repeat' first|(refine gh (zG (e:=(sy.2:Int)) (by have:sy.2≠12:=gg;omega)) kQ cn.s.has fun w4 X4 ff=>?_)
   exact(cn.since ff).fin fun wa aM=>⟨rfl,hS sy.1 _ _ _ (cn.since ff) ⟨FN,OV,mb,av,es,Nr,HR,OW,Nq.mv (ff.dZ fun k ai=>cn.aU k (HR k ai)),Sj.mv (ff.dZ fun k ai=>cn.aU k (OW k ai))⟩ wa aM⟩
end Go.Proofs.YtpdkoaklobnegaaGreat
