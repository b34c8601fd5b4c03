/-
 Part 12 of the proof: what the last text leans on.
-/
import Derived.Test.YtbpnemeooenpmaaGreatChecked
import Derived.OpenShut
import Derived.JoinedCond
import Derived.Test.YtbpnemeooenpmaaGreatH11
open List renaming length_map → aH, filter_cons → cV, map_map → dr, length_take → bW, foldl_cons → fI, mem_cons_of_mem → bz, length_singleton → bu, length → ai, take_add_one → cC, take_of_length_le → bA, foldl_append → qL, toList_toArray → de, length_cons → bh
open Nat renaming zero_le → aF, lt_of_lt_of_le → aG
open Go.Value renaming string → bB, tuple → aw
open Go.Fence renaming wide → eT
open Option.some renaming injEq → ay
open Go.DataW renaming TrodAll → uA
open Go.WideElems renaming rg → jW, rd → nU
open Function renaming comp_def → gV
open Go.Instr renaming findNow → gT, lookup → da, checkKey → fv, mapUpdate → aO
open Bool renaming and_eq_true → aW
open Option renaming getD_some → xn
open Int renaming mul_lt_mul_of_pos_right → oM
set_option linter.unusedVariables false
set_option linter.unusedSimpArgs false
namespace Go.Proofs.YtbpnemeooenpmaaGreat
open Go.Proofs.Tryz renaming prog → pg
open Go.aV Go.ChangeShapes Go.WideShapes Go.ChangeAt Go.RowKit
set_option maxRecDepth 100000
set_option maxHeartbeats 1000000
section
variable {P : Program}
def PR (P:Program) (ts:List TypeId):Bool:=ts.all fun t=>P.readableRec t&&decide (t<P.types.size)
theorem RE (hl:laidOutB P=true) {H:Type} {enc:TypeId×Value→H} {W W':World} (hb:Below W.heap.size W W'): ∀{ts:List TypeId} {vs:List Value} {ds:List (DataW H)} {ps:List MemPlace},PR P ts=true→(∀x∈ps,x.block<W.heap.size)→
  uA enc P W 0 (fun _=>true) true ts vs ds ps→uA enc P W' 0 (fun b=>decide (b<W.heap.size)) true ts vs ds ps
 |[],[],[],_,_,_,h=>h
 |t::ts,v::vs,d::ds,ps,hr,dy,⟨p,q,h1,h2,hps⟩=>by
  unfold PR at hr;simp only [List.all_cons,aW,decide_eq_true_eq] at hr;subst hps;exact⟨p,q,Below.trod hl hr.1.1 hr.1.2 h1 hb fun x hx=>dy x (List.mem_append_left _ hx),RE hl hb hr.2 (fun x hx=>dy x (List.mem_append_right _ hx)) h2,rfl⟩
 |[],[],_::_,_,_,_,h=>h.elim
 |[],_::_,_,_,_,_,h=>h.elim
 |_::_,[],_,_,_,_,h=>h.elim
 |_::_,_::_,[],_,_,_,h=>h.elim
theorem acX (hl:laidOutB P=true) {tb:TypeId} (hub:P.underlying tb=some .bool) {H:Type} {enc:TypeId×Value→H} {f:Func} {s:ChangeSpec} {W W':World} {args:Array Value} {ds:List (DataW H)} {before:List MemPlace} (hv:s.vars=[]) (hrt:f.resultTypes= #[tb]) (hc:PR P f.params.toList=true)
  (hs:(s.fn H (ds++[])).results=[.lit (.bool true)]∧(s.fn H (ds++[])).args=ds∧(s.fn H (ds++[])).vars=[])
  (hW:DataW.Whole enc P f.params.toList s.vars false W args.toList ds [] before) (hA:uA enc P W 0 (fun _=>true) true f.params.toList args.toList ds before) (hx:Ext W W'):
  s.post enc P f false true false false W args (.bool true) W':=by
 have hb:=hx.below;refine⟨ds,[],before,[],before,[],hW,?_,?_,?_,Below.frame hb _,fun h=>by cases h⟩
 ·rw [hrt,hs.1];exact trodAll_cons_mk (shut_bool hub _) trodAll_mk0
 ·rw [hs.2.1];exact RE hl hb hc (fun x hx=>hW.lt x hx) hA
 ·rw [hs.2.2,hv];rfl
end
theorem acY:ownKnob pg.godebug=none:=by kernel_rfl
theorem Ua:laidOutB pg=true:=by kernel_rfl
end Go.Proofs.YtbpnemeooenpmaaGreat
namespace Go.Proofs.YtbpnemeooenpmaaGreat
open Go.Proofs.Tryz renaming prog → pg
open Go.aV Go.RowKit Go.Maps Go.Sort Go.Shelf Go.Proofs
set_option maxRecDepth 100000
set_option maxHeartbeats 1000000
set_option linter.unusedVariables false
set_option linter.unusedSimpArgs false
abbrev wE:Int→Value:=fun z=>I z
theorem Ub {P:Program} {w:World} {X:XS} {b kt c:Nat} {es:List (gA Int)} (h:jO w X b wE es c) (hk:P.underlying kt=some (.int .i64)) (hs: ∀x∈es,-(2^63)≤x.1∧x.1<2^63) (hl:es.length≤2^40):
  ∃D0:DataW Unit,w.ownsMap P kt RT b es.length D0∧Maps.size D0=es.length∧(intKeys D0).Perm (es.map fun x=>x.1):=by
 have BX:(2:Nat)^40≤maxLen:=by decide
 have acO: ∀x∈es,keyOf P kt (wE x.1)=some (.int .i64 x.1):=fun x hx=>by
  unfold keyOf mapKey;rw [hk];have:=hs x hx;have h1:IntKind.i64.min= -(2^63):=by decide
  have h2:IntKind.i64.max=2^63-1:=by decide
  simp [wE,Lit.wf,h1];omega
 have qq: ∀x∈es,nU P kt RT (jh wE x)=some (.int .i64 x.1,.lit (.bool true)):=fun x hx=>by
  unfold nU jh RT;simp [acO x hx]
 have acP:(es.map (jh wE)).map (jW P kt RT)=es.map fun x=>((.int .i64 x.1:Lit),(.lit (.bool true):DataW Unit)):=by
  rw [dr];apply List.map_congr_left;intro x hx;simp only [Function.comp,jW,qq x hx,xn]
 refine⟨.map (((es.map (jh wE)).map (jW P kt RT)).foldr DataW.insert []),⟨_,c,h.2.1,⟨?_,⟨?_,?_,?_⟩,?_⟩,by simp,by simp⟩,?_,?_⟩
 ·simpa using Nat.le_trans hl BX
 ·intro x hx;simp only [de,List.mem_map] at hx;obtain⟨y,hy,rfl⟩:=hx;exact h.2.2.2.2 y hy
 ·have:=h.2.2.2.1;simpa [dr,gV,jh] using this
 ·have h1:=h.2.2.1;have e:((es.map (jh wE)).toArray.toList.map (·.key))=(es.map (·.1)).map wE:=by simp [dr,gV,jh]
  rw [e];exact List.Pairwise.map wE (fun a b s9 e=>s9 (by cases e;rfl)) h1
 ·intro x hx;simp only [de,List.mem_map] at hx;obtain⟨y,hy,rfl⟩:=hx;exact⟨_,qq y hy⟩
 ·show ai _=_
  rw [(s8 _).length_eq];simp
 ·show(List.map _ _).Perm _
  refine((s8 _).map _).trans ?_;rw [acP,dr];exact List.Perm.refl _
def mL (ks:List Int):List Int:=ks.mergeSort fun x y=>decide (x≤y)
theorem mj (ks:List Int):(mL ks).Perm ks:=List.mergeSort_perm _ _
theorem Uc (ks:List Int):(mL ks).Pairwise fun x y=>x≤y:=by
 have:=List.pairwise_mergeSort (le:=fun x y:Int=>decide (x≤y)) (fun a b c h1 h2=>by simp only [decide_eq_true_eq] at*;omega) (fun a b=>by simp only [Bool.or_eq_true,decide_eq_true_eq];omega) ks;exact this.imp fun h=>by simpa using h
theorem Oc: ∀{l l':List Int},l.Perm l'→l.Pairwise (fun a b=>a≤b)→l'.Pairwise (fun a b=>a≤b)→l=l'
 |[],l',hp,_,_=>(List.Perm.nil_eq hp)
 |a::l,[],hp,_,_=>absurd hp.length_eq (by simp)
 |a::l,b::l',hp,h1,h2=>by
  have Iu:=List.pairwise_cons.1 h1;have h2':=List.pairwise_cons.1 h2;have s9:a=b:=by
   have ha:a∈b::l':=hp.mem_iff.1 (by simp);have hb:b∈a::l:=hp.mem_iff.2 (by simp);rcases List.mem_cons.1 ha with e|ha
   ·exact e
   ·rcases List.mem_cons.1 hb with e|hb
    ·exact e.symm
    ·have:=Iu.1 b hb;have:=h2'.1 a ha;omega
  subst s9;rw [Oc (List.Perm.cons_inv hp) Iu.2 h2'.2]
theorem acZ {ks Yh:List Int} (h:ks.Perm Yh):mL ks=mL Yh:=Oc (((mj ks).trans h).trans (mj Yh).symm) (Uc _) (Uc _)
theorem ac0 (m:Nat):AnyZI.SortsIn pg Tryz.LK eT m:=
  ⟨fun cY off cap ss W hH hblk fL=>callsIn_wide.2 (AnyM.slices_Sort_int Tryz.afb cY off cap ss W hH hblk fL),
   fun p cap W=>callsIn_wide.2 (AnyM.slices_Sort_int_none Tryz.afb p cap W)⟩
theorem abl {g:FuncId} {lb:Array Value} {w:World} {X A:XS} {mb:Nat} {α:Type} {rd:World→XS→Value→α→Prop} {l:List (Int×α)} (h:dR w X A mb wE rd l) (eg:enters pg g=true)
  (hs: ∀x∈l,-(2^63)≤x.1∧x.1<2^63) (hl:l.length≤2^40)
  (hg: ∀wa,Kp X w wa→ ∀(nn:Nat) (D0:DataW Unit),wa.ownsMap pg 3 RT mb nn D0→SeqGives eT 2 pg g lb encZ (fun ss=>ss.Perm (intKeys D0)) (Maps.size D0) wa):
  Ct pg 154 #[.func (.func g) #[] lb] w X nX fun v wa w'=>Own w' (made wa w') wa.heap.size 3 1 v ((mL (l.map (·.1))).map I1):=by
 intro wa hk;obtain⟨es,c,h1,h2⟩:=h;have Bl:=h2.keys;have hlen:es.length=l.length:=by have:=congrArg ai Bl;simpa using this
 obtain⟨D0,si,fL,NY⟩:=Ub (P:=pg) (h1.kp hk) (kt:=3) kQ (fun x hx=>by
  have:x.1∈l.map (·.1):=by rw [←Bl];exact List.mem_map.2 ⟨x,hx,rfl⟩
  obtain⟨y,hy,e⟩:=List.mem_map.1 this;rw [←e];exact hs y hy) zQ
 have BX:(2:Nat)^40≤maxLen:=by decide
 have hS:=callsIn_wide.1 (AnyZI.sorted_in Tryz.afE eT 5 trivial trivial trivial trivial rfl zQ (ac0 _) (fun args w=>kJ kQ args w) g lb trivial (fun args w=>kJ eg args w) _ _ zQ zQ wa (hg wa hk _ D0 si));refine hS.mono ?_;rintro e w' ⟨v,ss,rfl,hp,bJ,agT,hb⟩;have hx:Ext wa w':=⟨hb.os,hb.tape,hb.output,hb.size,fun k af _=>hb.block k af⟩;refine⟨v,rfl,hx,?_⟩;have e1:ss.mergeSort (fun x y=>decide (x≤y))=mL (l.map (·.1)):=by
  refine acZ (hp.trans (NY.trans ?_));rw [Bl]
 have e2:((ss.mergeSort (fun x y=>decide (x≤y))).map encZ)=((mL (l.map (·.1))).map I1).flatten:=by
  rw [e1];have e3: ∀q:List Int,q.map encZ=(q.map I1).flatten:=fun q=>by
   induction q with
   |nil=>rfl
   |cons a q ih=>simp only [List.map_cons,List.flatten_cons,←ih];rfl
  exact e3 _
 have oG:ss.length=((mL (l.map (·.1))).map I1).length:=by
  rw [aH,(mj _).length_eq,aH,←hlen];have:=hp.length_eq;rw [this,NY.length_eq,aH]
 refine⟨fun r hr=>by obtain⟨x,_,rfl⟩:=List.mem_map.1 hr;rfl,?_,fun q hq=>⟨?_,?_⟩⟩
 ·rw [←oG,←e2];exact bJ
 ·exact(bJ.lt _ hq).1
 ·exact(bJ.lt _ hq).2
end Go.Proofs.YtbpnemeooenpmaaGreat
namespace Go.Proofs.YtbpnemeooenpmaaGreat
open Go.Proofs.Tryz renaming prog → pg
open Go Go.aV Ieee
def fcl:Datum→Int
 | .infinity true=> -1
 | .infinity false=>1
 |_=>0
def fvl (b:Int):Datum→Int
 | .number s m i=>signed s m (i-b).toNat
 |_=>0
def EF:Datum→Int
 | .number _ _ i=>i
 |_=>0
theorem RF (s:Bool) (m u k:Nat):signed s m (u+k)=signed s m u*(2^k:Nat):=by
 unfold signed;simp only [Nat.shiftLeft_eq,Nat.pow_add];have e:(m*(2^u*2^k):Nat)=m*2^u*2^k:=by rw [Nat.mul_assoc]
 rw [e];split
 ·rw [Int.neg_mul,←Int.natCast_mul]
 ·rw [←Int.natCast_mul]
theorem abm (x y:Int) (k:Nat):compare (x*(2^k:Nat)) (y*(2^k:Nat))=compare x y:=by
 have hp:(0:Int)<((2^k:Nat):Int):=by
  have:0<2^k:=Nat.two_pow_pos k;omega
 rcases Int.lt_trichotomy x y with h|h|h
 ·have:=oM h hp;rw [show compare x y= .lt from by simp [compare,compareOfLessAndEq,h],show compare (x*((2^k:Nat):Int)) (y*((2^k:Nat):Int))= .lt from by simp only [compare,compareOfLessAndEq];rw [if_pos this]]
 ·subst h;simp [compare,compareOfLessAndEq]
 ·have:=oM h hp;rw [show compare x y= .gt from by simp only [compare,compareOfLessAndEq];rw [if_neg (by omega),if_neg (by omega)],show compare (x*((2^k:Nat):Int)) (y*((2^k:Nat):Int))= .gt from by simp only [compare,compareOfLessAndEq];rw [if_neg (by omega),if_neg (by omega)]]
theorem MG (b:Int) (x y:Datum) (hx:x.isNaN=false) (hy:y.isNaN=false) (bx:b≤EF x) (by':b≤EF y):
  x.order y=some (if fcl x<fcl y then .lt else if fcl y<fcl x then .gt else compare (fvl b x) (fvl b y)):=by
 cases x with
 |nan=>simp [Datum.isNaN] at hx
 |infinity s=>cases y with
  |nan=>simp [Datum.isNaN] at hy
  |infinity t=>cases s<;>cases t<;>rfl
  |number t n j=>cases s<;>rfl
 |number s m i=>cases y with
  |nan=>simp [Datum.isNaN] at hy
  |infinity t=>cases t<;>rfl
  |number t n j=>
   have bi:b≤i:=bx;have bj:b≤j:=by';have e1:(i-b).toNat=(i-min i j).toNat+(min i j-b).toNat:=by omega
   have e2:(j-b).toNat=(j-min i j).toNat+(min i j-b).toNat:=by omega
   show some (compare (signed s m (i-min i j).toNat) (signed t n (j-min i j).toNat))=some (compare (signed s m (i-b).toNat) (signed t n (j-b).toNat))
   rw [e1,e2,RF,RF,abm]
def fk (b:Int) (d:Datum):Int×Int:=(fcl d,fvl b d)
def kle (a b:Int×Int):Prop:=a.1<b.1∨a.1=b.1∧a.2<b.2
theorem ag1 {x y:Int} :compare x y= .lt↔x<y:=by
 simp only [compare,compareOfLessAndEq];split
 ·simp [*]
 ·split<;>simp<;>omega
theorem ag2 {x y:Int} :compare x y= .eq↔x=y:=by
 simp only [compare,compareOfLessAndEq];split
 ·simp;omega
 ·split<;>simp [*]
theorem rI {b:Int} {x y:Datum} (hx:x.isNaN=false) (hy:y.isNaN=false) (bx:b≤EF x) (by':b≤EF y):x.order y=some .lt↔kle (fk b x) (fk b y):=by
 rw [MG b x y hx hy bx by'];unfold kle fk;simp only [ay];split
 ·simp [*]
 ·split
  ·simp;omega
  ·rw [ag1];constructor
   ·intro h;right;exact⟨by omega,h⟩
   ·rintro(h|⟨_,h⟩)
    ·omega
    ·exact h
theorem vZ {b:Int} {x y:Datum} (hx:x.isNaN=false) (hy:y.isNaN=false) (bx:b≤EF x) (by':b≤EF y):x.order y=some .eq↔fk b x=fk b y:=by
 rw [MG b x y hx hy bx by'];unfold fk;simp only [ay,Prod.mk.injEq];split
 ·simp;omega
 ·split
  ·simp;omega
  ·rw [ag2];constructor
   ·intro h;exact⟨by omega,h⟩
   ·exact fun h=>h.2
theorem td {x y:Datum} {o:Ordering} (h:x.order y=some o):x.isNaN=false∧y.isNaN=false:=by
 cases x<;>cases y<;>first|exact⟨rfl,rfl⟩|simp [Datum.order] at h
abbrev fd (a:Nat):Datum:=FloatKind.f64.format.read a
theorem Od {a b:Nat} :j9 a b=true↔(fd a).order (fd b)=some .lt:=by unfold j9 Format.order;simp
theorem Tp {a b:Nat} :jI a b=true↔(fd a).order (fd b)=some .eq:=by unfold jI Format.order;simp
theorem three (x y z:Datum): ∃b:Int,b≤EF x∧b≤EF y∧b≤EF z:=⟨min (EF x) (min (EF y) (EF z)),by omega,by omega,by omega⟩
theorem zG {a b c:Nat} (h:j9 a b=true) (k:j9 b c=true):j9 a c=true:=by
 rw [Od] at*;obtain⟨p,p1,p2,p3⟩:=three (fd a) (fd b) (fd c);have n1:=td h;have n2:=td k;rw [rI n1.1 n1.2 p1 p2] at h;rw [rI n2.1 n2.2 p2 p3] at k;rw [rI n1.1 n2.2 p1 p3];unfold kle at*;omega
theorem KK {a b c:Nat} (h:j9 a b=true) (k:jI b c=true):j9 a c=true:=by
 rw [Od] at*;rw [Tp] at k;obtain⟨p,p1,p2,p3⟩:=three (fd a) (fd b) (fd c);have n1:=td h;have n2:=td k;rw [rI n1.1 n1.2 p1 p2] at h;rw [vZ n2.1 n2.2 p2 p3] at k;rw [rI n1.1 n2.2 p1 p3,←k];exact h
theorem KL {a b c:Nat} (h:jI a b=true) (k:j9 b c=true):j9 a c=true:=by
 rw [Od] at*;rw [Tp] at h;obtain⟨p,p1,p2,p3⟩:=three (fd a) (fd b) (fd c);have n1:=td h;have n2:=td k;rw [vZ n1.1 n1.2 p1 p2] at h;rw [rI n2.1 n2.2 p2 p3] at k;rw [rI n1.1 n2.2 p1 p3,h];exact k
theorem wF {a b:Nat} (h:jI a b=true):jI b a=true:=by
 rw [Tp] at*;obtain⟨p,p1,p2,_⟩:=three (fd a) (fd b) (fd b);have n1:=td h;rw [vZ n1.1 n1.2 p1 p2] at h;rw [vZ n1.2 n1.1 p2 p1];exact h.symm
theorem abn {a b c:Nat} (h:jI a b=true) (k:jI b c=true):jI a c=true:=by
 rw [Tp] at*;obtain⟨p,p1,p2,p3⟩:=three (fd a) (fd b) (fd c);have n1:=td h;have n2:=td k;rw [vZ n1.1 n1.2 p1 p2] at h;rw [vZ n2.1 n2.2 p2 p3] at k;rw [vZ n1.1 n2.2 p1 p3];exact h.trans k
theorem xp (a:Nat):j9 a a=false:=by
 cases h:j9 a a with
 |false=>rfl
 |true=>
  rw [Od] at h;have n1:=td h;rw [rI (b:=EF (fd a)) n1.1 n1.2 (Int.le_refl _) (Int.le_refl _)] at h;unfold kle at h;omega
theorem W8 {a b:Nat} (h:j9 a b=true):jI a b=false:=by
 cases k:jI a b with
 |false=>rfl
 |true=>
  have:=KK h (wF k);rw [xp] at this;cases this
theorem afJ {a b:Nat} (h:BZ a b=true):j9 b a=true:=by
 have h':(fd a).order (fd b)=some .gt:=by unfold BZ Format.order at h;simpa using h
 have n1:=td h';rw [Od];obtain⟨p,p1,p2,_⟩:=three (fd a) (fd b) (fd b);rw [rI n1.2 n1.1 p2 p1];rw [MG p _ _ n1.1 n1.2 p1 p2] at h';simp only [ay] at h';unfold kle fk;split at h'
 ·cases h'
 ·split at h'
  ·left;assumption
  ·right;refine⟨by omega,?_⟩;simp only [compare,compareOfLessAndEq] at h';split at h'
   ·cases h'
   ·split at h'
    ·cases h'
    ·show fvl p (fd b)<fvl p (fd a);omega
end Go.Proofs.YtbpnemeooenpmaaGreat
namespace Go.Proofs.YtbpnemeooenpmaaGreat
open Go.Proofs.Tryz renaming prog → pg
open Go.aV
set_option maxRecDepth 100000
set_option maxHeartbeats 1000000
set_option linter.unusedVariables false
set_option linter.unusedSimpArgs false
attribute [local irreducible] un jn aC aS ld1 dY st1 dt cD kK dC lQ uJ sO fH e7 ae aB aK eW eV eU eC eF gE az fin aP aE aD vS xd gO gW ry uK sP xe xf xg gB gR rz uL sQ xh xi
theorem ac1 {P:Program} {X:XS} {w:World} {t:TypeId} {k:Nat} {v:Value} {z:Int} {i:Nat} {rows:List (List Value)} {N:Value→Prop} (h:Sl w X k v rows) (hz:z=i) (hi:i≤rows.length) (ht:P.underlying t=some (.slice (P.elem t))) (hs:(P.info? (P.elem t)).map (·.size)=some k)
  (n: ∀v',Sl w X k v' (rows.take i)→N v'):ae P X w (Instr.sliceAt t v none (some (.int .i64 z)) none) N:=by
 obtain⟨h1,h2,base,cap,rfl,hc,hb,hlc,lD⟩:=h;refine aV.Oe hz zQ ht (by cases hq:P.info? (P.elem t)<;>simp [hq] at hs⊢) (n _ ?_);have hl:(rows.take i).length=i:=by rw [bW];omega
 refine⟨fun r hr=>h1 r (List.mem_of_mem_take hr),by omega,base,cap,by rw [hl],fun du=>?_,fun AK=>?_,by omega,lD⟩
 ·obtain⟨b,o,rfl,jx⟩:=hc (by rintro rfl;simp at du);refine⟨b,o,rfl,?_⟩;rw [aV.nA i h1];obtain⟨hx,c,ty,fr,eY,AL⟩:=jx;refine⟨hx,c,ty,fr,eY,fun q u hu=>?_⟩;have hq:=(List.getElem?_eq_some_iff.1 hu).1;rw [bW] at hq;rw [List.getElem?_take_of_lt zQ] at hu;exact AL _ _ hu
 ·have:=hb AK;omega
def js (a:Nat) (s:Nat×Int) (r:dq):Nat×Int:=if jI r.lo a then(r.hi,s.2+1)else s
def B0 (l:List dq) (a:Nat):Nat×Int:=l.foldl (js a) (0,0)
def xq (l:List dq):Nat→Nat→Int→Int
 |0,_,_=>99
 |n+1,a,u=>if j9 a Da then(if(B0 l a).2=1 then xq l n (B0 l a).1 (u+1)else 14)else if u=l.length then 0 else 14
def B1:List dq→List dq→Int
 |_,[]=>0
 |b,r::t=>if r.may then(if b.any (fun o=>decide (o.id=r.id))then 9 else B1 (b++[r]) t)else 1
def qP (l:List dq):Int:=if l.length=0 then 8 else if 12<l.length then 3 else if B1 [] l≠0 then B1 [] l else xq l (l.length+1) 0 0
theorem Db (a:Nat): ∀(l:List dq) (s:Nat×Int),s.2≤(l.foldl (js a) s).2∧(l.foldl (js a) s).2≤s.2+l.length
 |[],s=>by simp
 |r::l,s=>by
  have h:=Db a l (js a s r);have h1:s.2≤(js a s r).2∧(js a s r).2≤s.2+1:=by unfold js;split<;>simp<;>omega
  rw [fI,bh];omega
theorem LO (a:Nat): ∀(l:List dq) (s:Nat×Int),(l.foldl (js a) s).2=s.2→l.foldl (js a) s=s∧ ∀r∈l,jI r.lo a=false
 |[],s,_=>by simp
 |r::l,s,h=>by
  rw [fI] at h;have hle:=Db a l (js a s r);by_cases hr:jI r.lo a=true
  ·have:js a s r=(r.hi,s.2+1):=by unfold js;rw [if_pos hr]
   rw [this] at hle h;simp only at hle;omega
  ·have e:js a s r=s:=by unfold js;rw [if_neg hr]
   rw [e] at h;have:=LO a l s h;rw [fI,e];exact⟨this.1,fun x hx=>by
    rcases List.mem_cons.1 hx with rfl|hx
    ·simpa using hr
    ·exact this.2 x hx⟩
theorem FR (a:Nat): ∀(l:List dq) (s:Nat×Int),(l.foldl (js a) s).2=s.2+1→ ∃r∈l,jI r.lo a=true∧(l.foldl (js a) s).1=r.hi
 |[],s,h=>by simp at h;omega
 |r::l,s,h=>by
  rw [fI] at h⊢;by_cases hr:jI r.lo a=true
  ·have e:js a s r=(r.hi,s.2+1):=by unfold js;rw [if_pos hr]
   rw [e] at h⊢;have:=LO a l (r.hi,s.2+1) h;exact⟨r,by simp,hr,by rw [this.1]⟩
  ·have e:js a s r=s:=by unfold js;rw [if_neg hr]
   rw [e] at h⊢;obtain⟨q,hq,h1,h2⟩:=FR a l s h;exact⟨q,bz _ hq,h1,h2⟩
def later (l:List dq) (a:Nat):Nat:=(l.filter fun r=>!j9 r.lo a).length
theorem filter_lt {α:Type} {p q:α→Bool} : ∀{l:List α},(∀x∈l,q x=true→p x=true)→(∃x∈l,p x=true∧q x=false)→(l.filter q).length<(l.filter p).length
 |[],_,h=>by obtain⟨x,hx,_⟩:=h;cases hx
 |a::l,h,h2=>by
  have hle: ∀{l:List α},(∀x∈l,q x=true→p x=true)→(l.filter q).length≤(l.filter p).length:=fun {l} h=>by
   induction l with
   |nil=>simp
   |cons b l ih=>
    have:=ih fun x hx=>h x (bz _ hx);have hb:=h b (by simp);by_cases hq:q b=true
    ·simp [cV,hq,hb hq];exact this
    ·by_cases hp:p b=true
     ·simp [cV,hq,hp];omega
     ·simp [cV,hq,hp];exact this
  have hl: ∀x∈l,q x=true→p x=true:=fun x hx=>h x (bz _ hx);obtain⟨x,hx,h3,h4⟩:=h2;rcases List.mem_cons.1 hx with rfl|hx
  ·have:=hle hl;simp [cV,h3,h4];omega
  ·have ih:=filter_lt hl ⟨x,hx,h3,h4⟩;have hb:=h a (by simp);by_cases hq:q a=true
   ·simp [cV,hq,hb hq];exact ih
   ·by_cases hp:p a=true
    ·simp [cV,hq,hp];omega
    ·simp [cV,hq,hp];exact ih
theorem ac2 {l:List dq} {a:Nat} (hm: ∀r∈l,r.may=true) (h:(B0 l a).2=1):later l (B0 l a).1<later l a:=by
 obtain⟨r,hr,h1,h2⟩:=FR a l (0,0) h;have h2:(B0 l a).1=r.hi:=h2;have h3:j9 r.lo r.hi=true:=by have:=hm r hr;unfold dq.may at this;simp only [aW] at this;exact this.2
 have h4:j9 a r.hi=true:=KL (wF h1) h3;rw [h2];refine filter_lt (fun x hx hq=>?_) ⟨r,hr,?_,by rw [h3];rfl⟩
 ·cases hc:j9 x.lo a with
  |false=>rfl
  |true=>rw [zG hc h4] at hq;cases hq
 ·cases hc:j9 r.lo a with
  |false=>rfl
  |true=>rw [W8 hc] at h1;cases h1
theorem MH: ∀{l b:List dq},B1 b l=0→(∀r∈l,r.may=true)∧(∀r∈l,∀o∈b,o.id≠r.id)∧l.Pairwise fun x y=>x.id≠y.id
 |[],b,_=>by simp
 |r::t,b,h=>by
  unfold B1 at h;by_cases hm:r.may=true
  ·rw [if_pos hm] at h;by_cases ha:(b.any fun o=>decide (o.id=r.id))=true
   ·rw [if_pos ha] at h;omega
   ·rw [if_neg ha] at h;have ih:=MH h;have ha': ∀o∈b,o.id≠r.id:=fun o ho e=>ha (List.any_eq_true.2 ⟨o,ho,by simpa using e⟩);refine⟨fun x hx=>?_,fun x hx o ho=>?_,List.pairwise_cons.2 ⟨fun x hx=>ih.2.1 x hx r (by simp),ih.2.2⟩⟩
    ·rcases List.mem_cons.1 hx with rfl|hx
     ·exact hm
     ·exact ih.1 x hx
    ·rcases List.mem_cons.1 hx with rfl|hx
     ·exact ha' o ho
     ·exact ih.2.1 x hx o (by simp [ho])
  ·rw [if_neg hm] at h;omega
section
variable {w : World} {X : XS}
theorem Sv {a:Value} {l:List dq} (ha:Sl w X 4 a (l.map dq.l)):Ct pg 65 #[a] w X nX fun v _ _=>v=I (qP l):=by
 intro w0 hk;replace ha:=ha.mv hk.dD;have jT:=ha.gy;apply PS;unfold EG;have hs:=aj.init w0;repeat' first|refine aJ ?_;intros|refine dM ?_ ?_<;>intros|((first|(with_reducible refine av hs ?_)|(with_reducible refine av (bS.trans hs) ?_));intro wa hk;(first|(unfold qP;rw [if_pos zQ])|(unfold qP;rw [if_neg zQ,if_pos zQ])))
 refine fN (fun n a b w X=> ∃i:Nat,a=I i∧n=l.length-i∧i≤l.length∧aj (aR w0) w0 X w∧B1 [] l=B1 (l.take i) (l.drop i)) l.length ⟨0,rfl,rfl,aF _,hs,rfl⟩ ?_;rintro n a b w X ⟨i,rfl,rfl,hi,hs,hw⟩;rcases ew (l) i with⟨dy,x,hx,hd⟩|⟨dV,hd⟩
 ·rw [hd,B1] at hw;by_cases hm:x.may=true
  ·rw [if_pos hm] at hw;repeat' first|refine bD ?_;intros|((with_reducible refine dJ (sc _) ?_ hs.has ?_ ?_);(· kernel_rfl);all_goals (intro _ w X ao;replace hs:=hs.trans ao))|(exfalso;simp_all;done)
   refine ac1 (i:=i) (rows:=l.map dq.l) (ha.since hs) rfl (by rw [aH];omega) kQ kQ fun v1 zH=>?_;rw [←List.map_take] at zH;have RG:(l.take i).length=i:=by rw [bW];omega
   repeat' first|refine aJ ?_;intros
   refine fR (fun n a w1 X1=> ∃j:Nat,a=I (j:Nat)∧n=(l.take i).length-j∧j≤(l.take i).length∧aj X w X1 w1∧((l.take i).any fun o=>decide (o.id=x.id))=(((l.take i).drop j).any fun o=>decide (o.id=x.id))) (l.take i).length ⟨0,rfl,rfl,aF _,aj.ct hs.has,by simp⟩ ?_;rintro n a w1 X1 ⟨j,rfl,rfl,hj,bU,rA⟩;replace zH:=zH.since bU;replace hs:=hs.trans bU;rcases ew (l.take i) j with⟨ac3,y,hy,nR⟩|⟨MI,nR⟩
   ·rw [nR,List.any_cons] at rA;by_cases NR:y.id=x.id
    ·repeat' first|refine bD ?_;intros|((first|(with_reducible refine av hs ?_)|(with_reducible refine av (bS.trans hs) ?_));intro wa hk;(unfold qP;rw [if_neg zQ,if_neg zQ,hw,rA,NR];simp))
    ·repeat' first|refine bD ?_;intros|((with_reducible refine fh ((l.take i).length-(j+1)) ?_ ?_);omega;exact⟨j+1,by simp,rfl,by omega,bU,by rw [rA];simp [NR]⟩)
   ·rw [nR] at rA;simp only [List.any_nil] at rA;rw [if_neg (by rw [rA];simp)] at hw;repeat' first|refine bD ?_;intros|((with_reducible refine fJ ((l).length-(i+1)) ?_ ?_);omega;exact⟨i+1,by simp,rfl,by omega,hs,by rw [hw,cC,hx];rfl⟩)
  ·rw [if_neg hm] at hw;repeat' first|refine bD ?_;intros|((with_reducible refine dJ (sc _) ?_ hs.has ?_ ?_);(· kernel_rfl);all_goals (intro _ w X ao;replace hs:=hs.trans ao))|(exfalso;simp_all;done)|((first|(with_reducible refine av hs ?_)|(with_reducible refine av (bS.trans hs) ?_));intro wa hk;(unfold qP;rw [if_neg zQ,if_neg zQ,hw];rfl))
 ·rw [hd,bA dV,B1] at hw;have akv:=(MH hw).1;have hC:qP l=xq l (l.length+1) 0 0:=by unfold qP;rw [if_neg zQ,if_neg zQ,if_neg zQ]
  repeat' first|refine bD ?_;intros
  refine Of (fun n a b c d e w X=> ∃(u:Int) (rB:Nat),a=I u∧b= .float .f64 rB∧later l rB<n∧0≤u∧u+n≤l.length+1∧aj (aR w0) w0 X w∧qP l=xq l n rB u) (l.length+1) ⟨0,0,rfl,rfl,?_,by omega,by omega,hs,hC⟩ ?_
  ·have:later l 0≤l.length:=List.length_filter_le _ _;omega
  rintro n a b c d e w X ⟨u,a0,rfl,rfl,kB,hu0,hu1,hs,ug⟩;obtain⟨k,rfl⟩: ∃j,n=j+1:=⟨n-1,by omega⟩;rw [xq] at ug;have AK:=Db a0 l (0,0);by_cases RG:j9 a0 Da=true
  ·rw [if_pos RG] at ug;repeat' first|refine aJ ?_;intros|refine dM ?_ ?_<;>intros|(exfalso;simp_all [Da];done)
   refine B2 (fun n a b c w X=> ∃i:Nat,a=I i∧b=I ((l.take i).foldl (js a0) (0,0)).2∧c= .float .f64 ((l.take i).foldl (js a0) (0,0)).1∧n=l.length-i∧i≤l.length∧aj (aR w0) w0 X w) l.length ⟨0,rfl,rfl,rfl,rfl,aF _,hs⟩ ?_;rintro n a b c w X ⟨i,rfl,rfl,rfl,rfl,hi,hs⟩;have rS:=Db a0 (l.take i) (0,0);have hli:(l.take i).length=i:=by rw [bW];omega
   rw [hli] at rS;rcases ew (l) i with⟨dy,x,hx,hd⟩|⟨dV,hd⟩
   ·have ed:(l.take (i+1)).foldl (js a0) (0,0)=js a0 ((l.take i).foldl (js a0) (0,0)) x:=by rw [cC,hx,qL];rfl
    generalize (l.take i).foldl (js a0) (0,0)=s at ed rS⊢;by_cases hf:jI x.lo a0=true
    ·rw [show js a0 s x=(x.hi,s.2+1)by unfold js;rw [if_pos hf]] at ed;repeat' first|refine bD ?_;intros|refine dM ?_ ?_<;>intros|with_reducible apply dx|(exfalso;simp_all;done)|((with_reducible refine B3 ((l).length-(i+1)) ?_ ?_);omega;exact⟨i+1,by simp,by rw [ed],by rw [ed],rfl,by omega,hs⟩)
    ·rw [show js a0 s x=s by unfold js;rw [if_neg hf]] at ed;repeat' first|refine bD ?_;intros|refine dM ?_ ?_<;>intros|with_reducible apply dx|(exfalso;simp_all;done)|((with_reducible refine B3 ((l).length-(i+1)) ?_ ?_);omega;exact⟨i+1,by simp,by rw [ed],by rw [ed],rfl,by omega,hs⟩)
   ·rw [bA dV];change _∧_≤_ at AK;change qP l=if(List.foldl (js a0) (0,0) l).2=1 then xq l k (List.foldl (js a0) (0,0) l).1 (u+1)else 14 at ug
    by_cases wG:(l.foldl (js a0) (0,0)).2=1
    ·have dy:=ac2 akv (a:=a0) wG;rw [if_pos wG] at ug;unfold B0 at dy;repeat' first|refine bD ?_;intros|(with_reducible refine Ud k ?_ ?_);omega;exact⟨u+1,_,rfl,rfl,by omega,by omega,by omega,hs,ug⟩
    ·rw [if_neg wG] at ug;repeat' first|refine bD ?_;intros|((first|(with_reducible refine av hs ?_)|(with_reducible refine av (bS.trans hs) ?_));intro wa hk;(rw [ug]))
  ·rw [if_neg RG] at ug;repeat' first|refine aJ ?_;intros|refine dM ?_ ?_<;>intros|(exfalso;exact RG (by assumption))|((first|(with_reducible refine av hs ?_)|(with_reducible refine av (bS.trans hs) ?_));intro wa hk;(rw [ug];first|(rw [if_pos (by assumption)])|(rw [if_neg (by assumption)])))
end
theorem MJ {P:Program} {kt:TypeId} (h:P.underlying kt=some (.int .i64)) (e:Bool) (n:Nat) (k:Int) (w:World):(fv e (n+1) kt (I k)).run P w= .ok () w:=by simp [fv,run_underlying h]
theorem afK {P:Program} {kt:TypeId} (h:P.underlying kt=some (.int .i64)):sR P kt (fun z:Int=>I z) where
 aC e k w:=MJ h e 9999 k w
 find k l w:=by
  have: ∀(l:List (Go.aV.gA Int)) (i:Nat),gT (.int .i64) (I k) (l.map (jh fun z=>I z)) i=some (oH k l i):=by
   intro l
   induction l with
   |nil=>intro i;rfl
   |cons x r ih=>
    intro i;by_cases hk:k=x.1
    ·simp [gT,jh,Instr.sameNow,oH,hk]
    ·have hb:(k==x.1)=false:=by simpa using hk
     simp [gT,jh,Instr.sameNow,oH,hk,hb,ih]
  simp [Instr.findKey,run_underlying h,this]
 same k:=by simp [Instr.sameBits]
theorem wH:sR pg 3 (fun z:Int=>I z):=afK kQ
def FU:World→XS→Value→dq→Prop:=fun _ _ v x=>v=x.v
theorem MK:mU FU:=fun _ _ _ _ _ _ h _=>h
abbrev gJ:=List (Int×dq)
structure gN (w:World) (X:XS) (db mb:Nat) (ds:gJ):Prop where
 row:a7 w X db [.map (some mb)] 164
 map:dR w X nX mb (fun z:Int=>I z) FU ds
section
variable {w w' : World} {X X' D A : XS} {db mb : Nat} {ds AJ : gJ}
theorem gN.mv (h:gN w X db mb ds) (v:Mv X w X' w'):gN w' X' db mb ds:=⟨h.row.mv v,h.map.mv MK v fun _ h=>h.elim⟩
theorem gN.ne (h:gN w X db mb ds):db≠mb:=fun e=>by
 obtain⟨es,c,h1,_⟩:=h.map;have h2:=h1.2.1;rw [←e,h.row.2] at h2;simp at h2
theorem gN.put (h:gN w D db mb ds) (hX: ∀k,D k→X k) (c:ez (· =mb) X w X' w') (hm:dR w' X' nX mb (fun z:Int=>I z) FU AJ):gN w' D db mb AJ:=
 ⟨⟨h.row.1,(c.block _ (hX _ h.row.1) h.ne).trans h.row.2⟩,by obtain⟨es,c,h1,h2⟩:=hm;exact⟨es,c,⟨h.map.x.1,h1.2⟩,h2⟩⟩
def eH (ds:gJ) (r:dq):gJ:=if r.may then(match getM r.id ds with|some o=>if o.gx≥r.gx then ds else dS r.id r ds|none=>dS r.id r ds)else ds
theorem W9 {a:Value} {l:List dq} (h:gN w D db mb ds) (hD:FX D X w) (ha:Sl w A 4 a (l.map dq.l)) (hA: ∀k,A k→X k∧k≠mb):
  Ct pg 66 #[ptr db 0,a] w X (· =mb) fun v _ w'=>(∃n,v=I n)∧gN w' D db mb (l.foldl eH ds):=by
 intro w0 hk;have hF:FX (· =mb) X w:=fun k af=>by subst af;exact hD _ h.map.x.1
 have hT:=hF.ft hk;replace h:=h.mv (hD.mv hk);have LP:=hD.kp hk;have hao:Sl w0 (out (· =mb) w0) 4 a (l.map dq.l):=ha.mv fun k af hl=>⟨⟨aG hl hk.size,(hA k af).2⟩,hk.block k (hA k af).1⟩;have jT:=hao.gy;have ha:=hao.mv hT.s.mv;apply ML;unfold B4;have hs:=hT.s;repeat' first|refine aJ ?_;intros
 refine fN (fun n a b w X=> ∃(i:Nat) (c:Int),a=I i∧b=I c∧0≤c∧c≤i∧n=l.length-i∧i≤l.length∧Ft w0 (· =mb) w X (· =mb)∧FX D X w∧gN w D db mb ((l.take i).foldl eH ds)) l.length ⟨0,0,rfl,rfl,by omega,by omega,rfl,aF _,hT,LP,h⟩ ?_;clear hs hT h ha;rintro n _ _ w X ⟨i,c,rfl,rfl,qH,Og,rfl,hi,hT,Oh,h⟩;have ha:=hao.mv hT.s.mv;have bJ:=h.row.mono fun k af=>(Oh k af).1;have hs:=hT.s;rcases ew (l) i with⟨dy,x,hx,hd⟩|⟨dV,hd⟩
 ·have ed:(l.take (i+1)).foldl eH ds=eH ((l.take i).foldl eH ds) x:=by rw [cC,hx,qL];rfl
  generalize (l.take i).foldl eH ds=s at ed h;have nB: ∀{w':World} {X':XS} (c':Int),0≤c'→c'≤c+1→Ft w0 (· =mb) w' X' (· =mb)→FX D X' w'→gN w' D db mb (eH s x)→
    gR (J2 fun n a b w X=> ∃(i:Nat) (c:Int),a=I i∧b=I c∧0≤c∧c≤i∧n=l.length-i∧i≤l.length∧Ft w0 (· =mb) w X (· =mb)∧FX D X w∧gN w D db mb ((l.take i).foldl eH ds)) (l.length-i) (I ((i:Int)+1)) (I c') w' X':=
   fun c' q0 q1 q2 q3 q4=>fJ (l.length-(i+1)) zQ ⟨i+1,c',by simp,rfl,q0,by omega,rfl,by omega,q2,q3,by rw [ed];exact q4⟩
  have Ue: ∀{w1:World} {X1:XS} {K:Value→World→XS→Prop},Ft w0 (· =mb) w1 X1 (· =mb)→FX D X1 w1→gN w1 D db mb s→eH s x=dS x.id x s→
    (∀w2 X2,Ft w0 (· =mb) w2 X2 (· =mb)→FX D X2 w2→gN w2 D db mb (eH s x)→K undef w2 X2)→
    eU pg (xt (· =mb) w0 fun v w'=>(fun v _ w'=>(∃n,v=I n)∧gN w' D db mb (l.foldl eH ds)) v w0 w') X1 w1 true (aO 162 (.map (some mb)) (I x.id) x.v) K:=fun q1 q2 q3 q4 k=>by
   refine te (kt:=3) (et:=38) (a:=x) (q3.mv (Mv.sub fun k af=>(q2 k af).1)).map MK rfl (fun _ hk=>hk.elim) wH kQ q1.s.has fun w2 X2 c2 ir=>?_;rw [q4] at k;exact k w2 X2 (q1.fM c2 (fun k af=>af) fun k af=>.inl af) (fun k af=>⟨c2.sub k (q2 k af).1,c2.has k (c2.sub k (q2 k af).1)⟩) (q3.put (fun k af=>(q2 k af).1) c2 ir)
  repeat' first|refine bD ?_;intros|with_reducible apply dx
  refine FV (kt:=3) (et:=38) (.agg #[I 0,I 0,.float .f64 0,.float .f64 0]) (h.mv (Mv.sub fun k af=>(Oh k af).1)).map wH kQ kQ (fun v a hg hv=>?_) (fun hg=>?_)
  ·simp only [FU] at hv;subst hv;repeat' first|refine aJ ?_;intros
   refine ee (sc x) kQ hs.has fun w1 X1 ao=>?_;have dU:=hT.since ao;have yA:FX D X1 w1:=fun k af=>⟨ao.sub k (Oh k af).1,aG (Oh k af).2 ao.kp.size⟩;have h1:=h.mv (ao.fZ fun k af=>(Oh k af).1);have ml:=h1.row.mono fun k af=>(yA k af).1;clear hs bJ;have hs:=dU.s;by_cases hm:x.may=true
   ·rw [hm];by_cases dV:a.gx≥x.gx
    ·repeat' first|refine bD ?_;intros|(exact nB c qH zQ dU yA (by unfold eH;rw [if_pos hm,hg];simp only;rw [if_pos dV];exact h1))
    ·repeat' first|refine bD ?_;intros
     refine Ue dU yA h1 (by unfold eH;rw [if_pos hm,hg];simp only;rw [if_neg dV]) fun w2 X2 cW IB h2=>?_;repeat' first|refine aJ ?_;intros|(exact nB (c+1) zQ zQ cW IB h2)
   ·rw [show x.may=false by simpa using hm];repeat' first|refine aJ ?_;intros|(exact nB c qH zQ dU yA (by unfold eH;rw [if_neg hm];exact h1))
  ·repeat' first|refine aJ ?_;intros
   refine ee (sc x) kQ hs.has fun w1 X1 ao=>?_;have dU:=hT.since ao;have yA:FX D X1 w1:=fun k af=>⟨ao.sub k (Oh k af).1,aG (Oh k af).2 ao.kp.size⟩;have h1:=h.mv (ao.fZ fun k af=>(Oh k af).1);have ml:=h1.row.mono fun k af=>(yA k af).1;clear hs bJ;have hs:=dU.s;by_cases hm:x.may=true
   ·rw [hm];repeat' first|refine aJ ?_;intros
    refine Ue dU yA h1 (by unfold eH;rw [if_pos hm,hg]) fun w2 X2 cW IB h2=>?_;repeat' first|refine aJ ?_;intros|(exact nB (c+1) zQ zQ cW IB h2)
   ·rw [show x.may=false by simpa using hm];repeat' first|refine aJ ?_;intros|(exact nB c qH zQ dU yA (by unfold eH;rw [if_neg hm];exact h1))
 ·repeat' first|refine bD ?_;intros
  rw [bA dV] at h;exact hT.fin fun wa bk=>⟨⟨c,rfl⟩,h.mv (bk.fi fun k af=>(Oh k af).1)⟩
theorem abo {a:Value} {l:List dq} (ha:Sl w X 4 a (l.map dq.l)):
  Ct pg 19 #[a] w X nX fun v wa w'=>if qP l≠0 then v= .tuple #[.pointer none,I (qP l)] else∃db mb D,v= .tuple #[ptr db 0,I 0]∧(∀k,D k→made wa w' k)∧gN w' D db mb (l.foldl eH []):=by
 intro w0 hk;replace ha:=ha.mv hk.dD;have hF:FX nX X w:=fun k af=>af.elim;have hT:=hF.ft hk;have hs:=aj.init w0;apply Zh;unfold Oi;refine gC (Sv ha) kQ hs.has fun w1 X1 ao=>?_;replace hT:=hT.since ao;replace hs:=hs.trans ao;replace ha:=ha.since ao;by_cases hc:qP l≠0
 ·repeat' first|refine bD ?_;intros
  exact hT.fin fun wa bk=>by simp only [if_pos hc]
 ·repeat' first|refine bD ?_;intros
  refine nC (kv:=fun k:Int=>I k) FU nX hT.s.has fun mb w2 X2 hmb ME ir=>?_;have cW:=hT.since ME;clear hs;repeat' first|refine aJ ?_;intros
  refine nY cW.s.has fun db w3 X3 RH ea bJ=>?_;have dE:=cW.since ea;have kN:=ir.mv MK ea.mv (fun _ h=>h.elim) (A':=nX);have AM:=ir.x.2;have h3:gN w3 (fun k=>k=db∨k=mb) db mb []:=⟨⟨.inl rfl,bJ.2⟩,by obtain⟨es,c,h1,h2⟩:=kN;exact⟨es,c,⟨.inr rfl,h1.2⟩,h2⟩⟩;have hz:=ao.kp.size;have CW:=ME.kp.size;have hD3:FX (fun k=>k=db∨k=mb) X3 w3:=fun k af=>by
   rcases af with e|e<;>subst e
   ·exact⟨bJ.1,bJ.lt⟩
   ·exact⟨kN.x.1,kN.x.2⟩
  have nm:Ft w0 nX w3 X3 (fun k=>k=mb):=dE.more fun k e=>by subst e;exact .inr ⟨kN.x.1,by omega⟩
  have ha3:Sl w3 X1 4 a (l.map dq.l):=ha.mv fun k af _=>⟨af,(ME.trans ea).kp.block k af⟩;refine nm.call (W9 (A:=X1) h3 hD3 ha3 fun k af=>⟨ea.sub k (ME.sub k af),fun e=>by have:=hT.s.has k af;omega⟩) kQ (fun _ h=>h) fun v mu w4 X4 hq qg lI fm c4=>?_;obtain⟨_,h4⟩:=hq;have hz4:=c4.size;have hs:=fm.s
  skip
  exact fm.fin fun wa bk=>by
   simp only [if_neg hc];exact⟨db,mb,_,rfl,fun k af=>by have:=bk.size;have:=bJ.lt;have:=kN.x.2;rcases af with e|e<;>subst e<;>exact⟨by omega,by omega⟩,h4.mv (bk.fi fun k af=>c4.sub k (hD3 k af).1)⟩
def dq.tf (r:dq) (x:Nat):Bool:=(BZ x r.lo||jI x r.lo)&&j9 x r.hi
def uM (ds:gJ) (x:Nat):Nat→Option dq
 |0=>none
 |n+1=>match getM ((n+1:Nat):Int) ds with
  |some r=>if dq.tf r x then some r else uM ds x n
  |none=>uM ds x n
def iX (ds:gJ) (k:BA):Option dq:=if gn k then uM ds (placeOf k) 12 else none
theorem Xa {k:BA} (h:gN w X db mb ds) (hk:k.size≤2^62):
  Ct pg 153 #[ptr db 0,.string k] w X nX fun v _ _=>v= .tuple #[((iX ds k).getD .zero).v,B (iX ds k).isSome]:=by
 intro w0 kB;replace h:=h.mv kB.dD;have bJ:=h.row;apply MM;unfold B5;have hs:=aj.init w0;by_cases hg:gn k=true
 ·have hR:iX ds k=uM ds (placeOf k) 12:=by unfold iX;rw [if_pos hg]
  rw [hR];clear hR;generalize akw:uM ds (placeOf k) 12=R12;repeat' first|refine aJ ?_;intros|((with_reducible refine ee (Bn _ (by first|assumption|omega)) ?_ hs.has ?_);(· kernel_rfl);intro w X ao;replace hs:=hs.trans ao)|((with_reducible refine dJ (jd _) ?_ hs.has ?_ ?_);(· kernel_rfl);all_goals (intro _ w X ao;replace hs:=hs.trans ao))|(exfalso;simp_all;done)
  refine fN (fun n a b w X=> ∃j:Nat,a=I (j:Nat)∧b=dq.zero.v∧n=j∧j≤12∧aj (aR w0) w0 X w∧R12=uM ds (placeOf k) j) 12 ⟨12,rfl,rfl,rfl,by omega,hs,akw.symm⟩ ?_;clear hs;rintro n _ _ w X ⟨j,rfl,rfl,rfl,hj,hs,hw⟩;cases n with
  |zero=>
   repeat' first|refine bD ?_;intros|((first|(with_reducible refine av hs ?_)|(with_reducible refine av (bS.trans hs) ?_));intro wa hk;(rw [hw];rfl))
  |succ j=>
   rw [uM] at hw;repeat' first|refine bD ?_;intros
   refine FV (kt:=3) (et:=38) dq.zero.v (h.mv hs.mv).map wH kQ kQ (fun v r hg hv=>?_) (fun hg=>?_)
   ·simp only [FU] at hv;subst hv;rw [hg] at hw;simp only at hw;change R12=if((BZ (placeOf k) r.lo||jI (placeOf k) r.lo)&&j9 (placeOf k) r.hi)=true then some r else uM ds (placeOf k) j at hw
    by_cases fP:((BZ (placeOf k) r.lo||jI (placeOf k) r.lo)&&j9 (placeOf k) r.hi)=true
    ·rw [if_pos fP] at hw;repeat' first|refine aJ ?_;intros|with_reducible apply dx|((with_reducible refine dJ (xu _ _) ?_ hs.has ?_ ?_);(· kernel_rfl);all_goals (intro _ w X ao;replace hs:=hs.trans ao))|(exfalso;simp_all;done)|((first|(with_reducible refine av hs ?_)|(with_reducible refine av (bS.trans hs) ?_));intro wa hk;(rw [hw];rfl))
    ·rw [if_neg fP] at hw;repeat' first|refine aJ ?_;intros|with_reducible apply dx|((with_reducible refine dJ (xu _ _) ?_ hs.has ?_ ?_);(· kernel_rfl);all_goals (intro _ w X ao;replace hs:=hs.trans ao))|(exfalso;simp_all;done)|(with_reducible refine fJ j ?_ ?_);omega;exact⟨j,by congr 1;omega,rfl,rfl,by omega,hs,hw⟩
   ·rw [hg] at hw;repeat' first|refine aJ ?_;intros|with_reducible apply dx|(with_reducible refine fJ j ?_ ?_);omega;exact⟨j,by congr 1;omega,rfl,rfl,by omega,hs,hw⟩
 ·have hR:iX ds k=none:=by unfold iX;rw [if_neg hg]
  rw [hR];repeat' first|refine aJ ?_;intros|((with_reducible refine ee (Bn _ (by first|assumption|omega)) ?_ hs.has ?_);(· kernel_rfl);intro w X ao;replace hs:=hs.trans ao)|((with_reducible refine dJ (jd _) ?_ hs.has ?_ ?_);(· kernel_rfl);all_goals (intro _ w X ao;replace hs:=hs.trans ao))|(exfalso;simp_all;done)|((first|(with_reducible refine av hs ?_)|(with_reducible refine av (bS.trans hs) ?_));intro wa hk;rfl)
end
end Go.Proofs.YtbpnemeooenpmaaGreat
namespace Go.Proofs.YtbpnemeooenpmaaGreat
open Go.Proofs.Tryz renaming prog → pg
open Go.aV Go.Maps Go.Shelf
set_option maxRecDepth 100000
set_option maxHeartbeats 1000000
set_option linter.unusedVariables false
set_option linter.unusedSimpArgs false
attribute [local irreducible] un jn aC aS ld1 dY st1 dt cD kK dC lQ uJ sO fH e7 ae aB aK eW eV eU eC eF gE az fin aP aE aD vS xd gO gW ry uK sP xe xf xg gB gR rz uL sQ xh xi
theorem afL {w:World} {X:XS} {mb:Nat} :Ct pg 155 #[.map (some mb)] w X nX fun v wa w'=> ∃bx,v= .func (.func 214) #[] #[ptr bx 0]∧a7 w' (made wa w') bx [.map (some mb)] 290:=by
 intro w0 hk;apply qj;unfold jJ;have hs:=aj.init w0;refine ta rfl hs.has fun bx w1 X1 gh ao bJ=>?_;repeat' first|refine aJ ?_;intros
 exact av ao fun wa bk=>⟨bx,rfl,⟨gh,(bJ.kp bk).lt⟩,(bJ.kp bk).2⟩
theorem abp {w:World} {X A:XS} {mb bx:Nat} {α:Type} {rd:World→XS→Value→α→Prop} {l:List (Int×α)} (h:dR w X A mb wE rd l) (hb:a7 w X bx [.map (some mb)] 290)
  (hs: ∀x∈l,-(2^63)≤x.1∧x.1<2^63) (hl:l.length≤2^40):
  Ct pg 154 #[.func (.func 214) #[] #[ptr bx 0]] w X nX fun v wa w'=>Own w' (made wa w') wa.heap.size 3 1 v ((mL (l.map (·.1))).map I1):=
 abl h kQ hs hl fun wa hk nn D0 si=>
  AnyZI.keys_gives (ρ:=Tryz.Rv) { Tryz.ajj with } eT _ trivial rfl zQ bx mb nn D0 wa (hb.kp hk).lt (by have:=(hb.kp hk).2;simp [World.cell?,this]) si
abbrev GV:=List BA×Option Nat
abbrev GM:=List (Int×GV)
theorem tg {w:World} {X Y:XS} {lo e k:Nat} {v:Value} {rows:List (List Value)} (h:Own w X lo e k v rows) (hs: ∀g,v.ownBlock=some g→Y g):Own w Y lo e k v rows:=⟨h.1,h.2.1,hs⟩
theorem tX {w w':World} {X Y:XS} {lo e k:Nat} {v:Value} {rows:List (List Value)} (h:Own w X lo e k v rows) (hm: ∀g,v.ownBlock=some g→Y g∧w'.heap[g]? =w.heap[g]?):Own w' Y lo e k v rows:=
 (tg h (Y:=fun g=>v.ownBlock=some g) fun g hg=>hg).mv fun g hg _=>hm g hg
theorem Uf {κ α:Type} [DecidableEq κ] {k:κ} {a:α} {l:List (κ×α)} :(k,a)∈dS k a l:=ka za
theorem Oj {κ α:Type} [DecidableEq κ] {k:κ} {a:α} : ∀{l:List (κ×α)} {y:κ×α},y∈l→y.1≠k→y∈dS k a l
 |x::l,y,h,hy=>by
  unfold dS;split
  ·rename_i hx;rcases List.mem_cons.1 h with rfl|h
   ·exact absurd hx hy
   ·exact bz _ h
  ·rcases List.mem_cons.1 h with rfl|h
   ·exact List.mem_cons_self
   ·exact bz _ (Oj h hy)
theorem zI {κ α:Type} [DecidableEq κ] {k:κ} {a:α} : ∀l:List (κ×α),(dS k a l).length≤l.length+1
 |[]=>by simp [dS]
 |x::l=>by
  have:=zI (k:=k) (a:=a) l;unfold dS;split<;>simp [*]<;>omega
def IC (lo:Nat) (w:World) (X:XS) (v:Value) (x:GV):Prop:=Own w X lo 9 1 v (x.1.map S1)∧v.ownBlock=x.2
theorem uN {lo:Nat} :mU (IC lo):=fun _ _ _ _ _ _ h m=>⟨h.1.mv m,h.2⟩
def rT (gm:GM):XS:=fun g=> ∃e∈gm,e.2.2=some g
def Ug (gm:GM):Prop:= ∀e∈gm,∀e'∈gm,e.1≠e'.1→ ∀g,e.2.2=some g→e'.2.2≠some g
abbrev oR:GV:=([],none)
theorem FW {gm:GM} {k:Int} {g:Nat} (h:((getM k gm).getD oR).2=some g): ∃x,(k,x)∈gm∧x=(getM k gm).getD oR:=by
 cases hg:getM k gm with
 |none=>rw [hg] at h;cases h
 |some x=>exact⟨x,ka hg,rfl⟩
section
variable {w w' : World} {X X' D A : XS} {db mb lo : Nat} {ds AJ : gJ} {gm : GM}
theorem Uh {k:Int} {N:Value→Prop} (h:dR w X A mb wE (IC lo) gm) (n: ∀v,IC lo w A v ((getM k gm).getD oR)→N v):
  ae pg X w (da 290 (.map (some mb)) (I k) false) N:=by
 refine th (kt:=3) (et:=31) (kv:=wE) (.slice none 0 0) h wH kQ kQ (fun v a hg hv=>n v ?_) (fun hg=>n (.slice none 0 0) ?_)
 ·rw [hg];exact hv
 ·rw [hg];exact⟨Own.nil _ _ _ _ _,rfl⟩
theorem ag3 {k:Int} {N:Value→Prop} (h:gN w X db mb ds) (n:N ((getM k ds).getD .zero).v):ae pg X w (da 162 (.map (some mb)) (I k) false) N:=by
 refine th (kt:=3) (et:=38) (kv:=wE) dq.zero.v h.map wH kQ kQ (fun v a hg hv=>?_) (fun hg=>?_)
 ·simp only [FU] at hv;subst hv;rw [hg] at n;exact n
 ·rw [hg] at n;exact n
theorem Ug.put {k:Int} {x:GV} {sz:Nat} (hn:(gm.map (·.1)).Nodup) (h:Ug gm) (dy: ∀g,rT gm g→g<sz) (hx: ∀g,x.2=some g→((getM k gm).getD oR).2=some g∨sz≤g):
  Ug (dS k x gm)∧ ∀g,rT (dS k x gm) g→rT gm g∨x.2=some g:=by
 have key: ∀e'∈gm,e'.1≠k→ ∀g,x.2=some g→e'.2.2≠some g:=fun e' wI du g hg jg=>by
  rcases hx g hg with h1|h1
  ·obtain⟨y,hy,e⟩:=FW h1;exact h (k,y) hy e' wI (fun e=>du e.symm) g (by rw [e];exact h1) jg
  ·have:=dy g ⟨e',wI,jg⟩;omega
 refine⟨fun e he e' wI du g hg=>?_,fun g ⟨e,he,hg⟩=>?_⟩
 ·rcases jt hn he with rfl|⟨h1,h2⟩
  ·rcases jt hn wI with rfl|⟨h3,h4⟩
   ·exact absurd rfl du
   ·exact key e' h3 h4 g hg
  ·rcases jt hn wI with rfl|⟨h3,h4⟩
   ·exact fun jg=>key e h1 h2 g jg hg
   ·exact h e h1 e' h3 du g hg
 ·rcases jt hn he with rfl|⟨h1,h2⟩
  ·exact .inr hg
  ·exact .inl ⟨e,h1,hg⟩
end
def gp (ds:gJ):List (Int×List BA)→List BA→List (Int×List BA)×Int
 |m,[]=>(m,0)
 |m,k::r=>if gn k then(match iX ds k with
  |none=>(m,8)
  |some g=>gp ds (if((getM g.id m).getD []).any (fun x=>decide (k=x))then m else dS g.id (((getM g.id m).getD [])++[k]) m) r)else(m,10)
structure ke where
 lE:dq
 keys:List BA
def ke.rd (w:World) (X:XS) (l:List Value) (g:ke):Prop:= ∃v,l=g.lE.l++[v]∧Sl w X 1 v (g.keys.map S1)
theorem ke.mv:Dc ke.rd:=fun ⟨v,h,h1⟩ m=>⟨v,h,h1.mv m⟩
def jX (ds:gJ) (m:List (Int×List BA)):List ke:=(mL (m.map (·.1))).map fun id=>⟨(getM id ds).getD .zero,(getM id m).getD []⟩
def uO (gm:GM):List (Int×List BA):=gm.map fun e=>(e.1,e.2.1)
theorem Ol (k:Int) (gm:GM):(getM k (uO gm)).getD []=((getM k gm).getD oR).1:=by
 rw [uO,Ui (fun x:GV=>x.1)];cases getM k gm<;>rfl
theorem Zi (k:Int) (x:GV) (gm:GM):uO (dS k x gm)=dS k x.1 (uO gm):=MN (fun x:GV=>x.1) k x gm
theorem Xb (gm:GM):(uO gm).map (·.1)=gm.map (·.1):=by simp [uO,dr,gV]
theorem D6 {ds:gJ} {x:Nat} : ∀{n:Nat} {r:dq},uM ds x n=some r→ ∃j:Nat,1≤j∧j≤n∧getM (j:Int) ds=some r∧dq.tf r x=true
 |0,r,h=>by cases h
 |n+1,r,h=>by
  rw [uM] at h;cases hg:getM ((n+1:Nat):Int) ds with
  |none=>
   rw [hg] at h;obtain⟨j,h1,h2,h3⟩:=D6 h;exact⟨j,h1,by omega,h3⟩
  |some q=>
   rw [hg] at h;simp only at h;by_cases hq:dq.tf q x=true
   ·rw [if_pos hq] at h;cases h;exact⟨n+1,by omega,by omega,hg,hq⟩
   ·rw [if_neg hq] at h;obtain⟨j,h1,h2,h3⟩:=D6 h;exact⟨j,h1,by omega,h3⟩
theorem D7 {ds:gJ} {k:BA} {r:dq} (h:iX ds k=some r): ∃j:Nat,1≤j∧j≤12∧getM (j:Int) ds=some r∧dq.tf r (placeOf k)=true:=by
 unfold iX at h;split at h
 ·exact D6 h
 ·cases h
section
variable {w w' : World} {X X' D A : XS} {db mb lo : Nat} {ds AJ : gJ} {gm : GM}
theorem LQ {a:Value} {keys:List BA} (h:gN w X db mb ds) (hW: ∀(i:Int) (r:dq),getM i ds=some r→r.id=i) (ha:Sl w X 1 a (keys.map S1)) (hl:keys.length≤2^30) (fL: ∀k∈keys,k.size≤2^62):
  Ct pg 87 #[ptr db 0,a] w X nX fun v wa w'=>if(gp ds [] keys).2≠0 then v= .tuple #[.slice none 0 0,I (gp ds [] keys).2] else∃vl,v= .tuple #[vl,I 0]∧en w' (made wa w') 5 vl ke.rd (jX ds (gp ds [] keys).1):=by
 intro w0 hk;replace h:=h.mv hk.dD;replace ha:=ha.mv hk.dD;have jT:=ha.gy;generalize hR:gp ds [] keys=R;apply MO;unfold B6;have hs:=aj.init w0;refine nC (kv:=wE) (IC w0.heap.size) nX hs.has fun gb w1 X1 hgb ao oL=>?_;have Yl:dR w1 X1 (rT []) gb wE (IC w0.heap.size) []:=oL.mv uN (Mv.sub fun _ h=>h) fun k h=>h.elim;replace hs:=hs.trans ao;have nD:=ha.mv hs.mv;repeat' first|refine aJ ?_;intros
 refine fR (fun n a w X=> ∃(i:Nat) (gm:GM),a=I i∧n=keys.length-i∧i≤keys.length∧aj (aR w0) w0 X w∧dR w X (rT gm) gb wE (IC w0.heap.size) gm∧(∀g,rT gm g→X g∧w0.heap.size≤g∧g≠gb)∧Ug gm∧
  (∀e∈gm,1≤e.1∧e.1≤12∧e.2.1.length≤i)∧gm.length≤i∧R=gp ds (uO gm) (keys.drop i)) keys.length ⟨0,[],rfl,rfl,aF _,hs,Yl,fun g ⟨e,he,_⟩=>absurd he (by simp),fun e he=>absurd he (by simp),fun e he=>absurd he (by simp),Nat.le_refl _,hR.symm⟩ ?_
 clear hs ao oL Yl nD hR;rintro n _ w X ⟨i,gm,rfl,rfl,hi,hs,hm,EH,Zj,hlen,fe,hw⟩;have nD:=ha.mv hs.mv;rcases ew (keys) i with⟨dy,k,hx,hd⟩|⟨dV,hd⟩
 ·rw [hd,gp] at hw;have akx:=fL k (List.mem_of_getElem? hx);repeat' first|refine bD ?_;intros|with_reducible apply dx
  refine ee (jd k) kQ hs.has fun w1' X1' ao=>?_;replace hm:=hm.mv uN ao.mv (ao.fZ fun g hg=>(EH g hg).1);replace EH: ∀g,rT gm g→X1' g∧w0.heap.size≤g∧g≠gb:=fun g hg=>⟨ao.sub g (EH g hg).1,(EH g hg).2⟩;replace hs:=hs.trans ao;clear ao nD;by_cases hg:gn k=true
  ·rw [if_pos hg] at hw;rw [hg];repeat' first|refine aJ ?_;intros
   refine gC (Xa (h.mv hs.mv) akx) kQ hs.has fun w2 X2 bU=>?_;cases hr:iX ds k with
   |none=>
    rw [hr] at hw;simp only at hw;replace hs:=hs.trans bU;simp only [Option.getD_none,Option.isSome_none];repeat' first|refine aJ ?_;intros|((first|(with_reducible refine av hs ?_)|(with_reducible refine av (bS.trans hs) ?_));intro wa hk;(rw [hw];simp))
   |some r=>
    rw [hr] at hw;simp only at hw;simp only [xn,Option.isSome_some];obtain⟨j,hj1,hj2,hj3,hj4⟩:=D7 hr;have EI:1≤r.id∧r.id≤12:=by have:=hW _ _ hj3;omega
    rw [Ol] at hw;have ir:=hm.mv uN bU.mv (bU.fZ fun g hg=>(EH g hg).1);have Uj: ∀g,rT gm g→X2 g∧w0.heap.size≤g∧g≠gb:=fun g hg=>⟨bU.sub g (EH g hg).1,(EH g hg).2⟩;clear hm EH;replace hs:=hs.trans bU;clear bU;repeat' first|refine aJ ?_;intros
    refine Uh ir fun v hv=>?_;have ID:(((getM r.id gm).getD oR).1).length≤i:=by
     cases Hl:getM r.id gm with
     |none=>simp
     |some x=>exact(hlen _ (ka Hl)).2.2
    have IE:=hv.1.mono fun g hg=>(Uj g hg).1;refine gC (wc IE.sl) kQ hs.has fun w3 X3 ea=>?_;have kN:=ir.mv uN ea.mv (ea.fZ fun g hg=>(Uj g hg).1);have my: ∀g,rT gm g→X3 g∧w0.heap.size≤g∧g≠gb:=fun g hg=>⟨ea.sub g (Uj g hg).1,(Uj g hg).2⟩;clear ir Uj hv IE;replace hs:=hs.trans ea;clear ea;by_cases hc:(((getM r.id gm).getD oR).1.any fun x=>decide (k=x))=true
    ·rw [if_pos hc] at hw;rw [hc];repeat' first|refine aJ ?_;intros|((with_reducible refine fh ((keys).length-(i+1)) ?_ ?_);omega;exact⟨i+1,gm,by simp,rfl,by omega,hs,kN,my,Zj,fun e he=>by have:=hlen e he;omega,by omega,hw⟩)
    ·rw [if_neg hc] at hw;rw [Bool.eq_false_iff.2 hc];repeat' first|refine aJ ?_;intros
     refine Uh kN fun v hv=>?_;have IE:=hv.1.mono fun g hg=>(my g hg).1;have PT: ∀g,rT gm g→g<w3.heap.size:=fun g hg=>hs.has g (my g hg).1;have Zk:=hs;have Hh: ∀{Uk:World} {X3':XS} {s:Value},aj X3 w3 X3' Uk→Sl Uk X3' 1 s [[.string k]]→
       eV pg (xt nX w0 fun v w'=>if R.snd≠0 then v=aw #[Value.slice none 0 0,I R.snd] else∃vl,v=aw #[vl,I 0]∧en w' (made w0 w') 5 vl ke.rd (jX ds R.fst)) X3' Uk true (e7 31 9 1 16 31 v s) fun x48 aky akz=>
        eU pg (xt nX w0 fun v w'=>if R.snd≠0 then v=aw #[Value.slice none 0 0,I R.snd] else∃vl,v=aw #[vl,I 0]∧en w' (made w0 w') 5 vl ke.rd (jX ds R.fst)) akz aky true (aO 290 (.map (some gb)) (I r.id) x48) fun x ag4 ag5=>
         ae pg ag5 ag4 (binOp .add 3 (I i) (I 1)) fun x49=>gB (J1 fun n a w X=> ∃(i:Nat) (gm:GM),a=I i∧n=keys.length-i∧i≤keys.length∧aj (aR w0) w0 X w∧dR w X (rT gm) gb wE (IC w0.heap.size) gm∧(∀g,rT gm g→X g∧w0.heap.size≤g∧g≠gb)∧Ug gm∧
          (∀e∈gm,1≤e.1∧e.1≤12∧e.2.1.length≤i)∧gm.length≤i∧R=gp ds (uO gm) (keys.drop i)) (keys.length-i) x49 ag4 ag5:=fun {Uk} {X3'} {s} EJ wD=>by
      have akA:=kN.mv uN EJ.mv (EJ.fZ fun g hg=>(my g hg).1);have Om:IC w0.heap.size Uk (rT gm) v ((getM r.id gm).getD oR):=uN _ _ _ _ _ _ hv (EJ.fZ fun g hg=>(my g hg).1);have ajm: ∀g,rT gm g→X3' g∧w0.heap.size≤g∧g≠gb:=fun g hg=>⟨EJ.sub g (my g hg).1,(my g hg).2⟩;have ajn: ∀g,rT gm g→g<Uk.heap.size:=fun g hg=>aG (PT g hg) EJ.kp.size;replace IE:=IE.since EJ;have afe:=hs.trans EJ;clear kN hv my PT hs;have kN:=akA;have hv:=Om;have my:=ajm;have PT:=ajn;have hs:=afe;refine qQ (bytes:=16) (X0:=aR w0) IE hs (fun _ h=>h) kQ wD (by simp [aV.one]) (by simp only [aH,bu];omega) (by simp only [aH,bu];omega) fun v4 w4 X4 fq B7 EK MP=>?_;have hx4: ∀g,v4.ownBlock=some g→((getM r.id gm).getD oR).2=some g∨Uk.heap.size≤g:=fun g hg=>by
       rcases MP with e|⟨g',e,dV⟩
       ·left;rw [←hv.2,←e,hg]
       ·right;rw [e] at hg;cases hg;exact dV
      have C6:=Zj.put (k:=r.id) (x:=((((getM r.id gm).getD oR).1++[k]),v4.ownBlock)) kN.nodup PT hx4;have hblk: ∀g,cY v g→rT gm g:=fun g hg=>by
       have hg:v.ownBlock=some g:=hg;rw [hv.2] at hg;obtain⟨y,hy,e⟩:=FW hg;exact⟨_,hy,by rw [e];exact hg⟩
      have hva:IC w0.heap.size w4 (fun g=>v4.ownBlock=some g) v4 ((((getM r.id gm).getD oR).1++[k]),v4.ownBlock):=⟨Go.Proofs.YtbpnemeooenpmaaGreat.tg (by simpa using B7) fun g hg=>hg,rfl⟩;have BX:Zl w4 X4 (rT (dS r.id ((((getM r.id gm).getD oR).1++[k]),v4.ownBlock) gm)) gb wE (IC w0.heap.size) r.id gm:=dR.toX kN (fun g hg _=>by
        have hg:g=gb:=hg;subst hg;exact⟨EK.sub _ kN.x.1,EK.block _ kN.x.1 fun h=>(my _ (hblk _ h)).2.2 rfl⟩) fun y u hy du qq=>⟨tX qq.1 fun g hg=>⟨⟨y,Oj hy du,qq.2.symm.trans hg⟩,EK.block g (my g ⟨y,hy,qq.2.symm.trans hg⟩).1 fun h=>by
       have h:v.ownBlock=some g:=h;rw [hv.2] at h;obtain⟨q,hq,e⟩:=FW h;exact Zj _ hq y hy (fun e'=>du e'.symm) g (by rw [e];exact h) (qq.2.symm.trans hg)⟩,qq.2⟩
      have ag6:IC w0.heap.size w4 (rT (dS r.id ((((getM r.id gm).getD oR).1++[k]),v4.ownBlock) gm)) v4 ((((getM r.id gm).getD oR).1++[k]),v4.ownBlock):=⟨hva.1.mono fun g hg=>⟨_,Uf,hg⟩,rfl⟩;have Zm: ∀g,rT (dS r.id ((((getM r.id gm).getD oR).1++[k]),v4.ownBlock) gm) g→X4 g∧w0.heap.size≤g∧g≠gb:=fun g hg=>by
       rcases C6.2 g hg with h1|h1
       ·exact⟨EK.sub g (my g h1).1,(my g h1).2⟩
       ·have h1:v4.ownBlock=some g:=h1;refine⟨B7.2.2 g h1,(B7.ge h1).1,fun e=>?_⟩;rcases hx4 g h1 with h2|h2
        ·obtain⟨y,hy,e'⟩:=FW h2;exact(my g ⟨_,hy,by rw [e'];exact h2⟩).2.2 e
        ·have:=kN.x.2;omega
      refine abq (k:=r.id) (kv:=wE) (kt:=3) (et:=31) BX uN ag6 (fun g hg=>⟨(Zm g hg).1,(Zm g hg).2.2⟩) wH kQ fq.has fun w5 X5 rU B8=>?_;have ti:aj (aR w0) w0 X5 w5:=fq.fM rU fun g hg e=>by have:g<w0.heap.size:=hg;omega
      have akB: ∀g,rT (dS r.id ((((getM r.id gm).getD oR).1++[k]),v4.ownBlock) gm) g→X5 g∧w0.heap.size≤g∧g≠gb:=fun g hg=>⟨rU.sub g (Zm g hg).1,(Zm g hg).2⟩;have ajo: ∀e∈dS r.id ((((getM r.id gm).getD oR).1++[k]),v4.ownBlock) gm,1≤e.1∧e.1≤12∧e.2.1.length≤i+1:=fun e he=>by
       rcases jt kN.nodup he with rfl|⟨h1,_⟩
       ·exact⟨EI.1,EI.2,by simp only [List.length_append,bu];omega⟩
       ·have:=hlen e h1;omega
      have amJ:=zI (k:=r.id) (a:=((((getM r.id gm).getD oR).1++[k]),v4.ownBlock)) gm;have hw5:R=gp ds (uO (dS r.id ((((getM r.id gm).getD oR).1++[k]),v4.ownBlock) gm)) (keys.drop (i+1)):=by rw [Zi];exact hw
      clear hs Zk afe hv IE hva ag6 BX kN my PT B7 fq;have hs:=ti;repeat' first|refine aJ ?_;intros|((with_reducible refine fh ((keys).length-(i+1)) ?_ ?_);omega;exact⟨i+1,_,by simp,rfl,by omega,ti,B8,akB,C6.1,ajo,by omega,hw5⟩)
     clear kN my PT Zk;repeat' first|(exact Hh (ao.less fun _ h=>h) ho.sl)|(with_reducible apply IF);(case hX=>exact hs.has);(case he=>kernel_rfl);(case ho=>first|rfl|assumption);(case hk=>rfl);intro acc w X ao ho|(refine And.intro ?_ ?_)
  ·rw [if_neg hg] at hw;rw [show gn k=false by simpa using hg];repeat' first|refine aJ ?_;intros|((first|(with_reducible refine av hs ?_)|(with_reducible refine av (bS.trans hs) ?_));intro wa hk;(rw [hw];simp))
 ·rw [hd,gp] at hw;rw [hw];repeat' first|refine bD ?_;intros
  refine dp afL kQ hs.has ?_;rintro _ wa w2 X2 ⟨bx,rfl,hb⟩ hle fP bU;have ir:=hm.mv uN bU.mv (bU.fZ fun g hg=>(EH g hg).1);have AM:=bU.kp.size;have IG:=hs.trans bU;refine dp (abp ir (hb.mono fP) (fun e he=>by have:=hlen e he;omega) (by have:ai gm≤i:=fe;omega)) kQ IG.has ?_;rintro vs wb w3 X3 ho nZ mz ea;have kN:=ir.mv uN ea.mv (ea.fZ fun g hg=>bU.sub g (EH g hg).1);have my: ∀g,rT gm g→X3 g∧w0.heap.size≤g:=fun g hg=>⟨ea.sub g (bU.sub g (EH g hg).1),(EH g hg).2.1⟩;have Ym:=IG.trans ea;have EL:Own w3 X3 w0.heap.size 3 1 vs ((mL (gm.map (·.1))).map I1):=ho.up mz (by have:=IG.kp.size;omega);have hls:(mL (gm.map (·.1))).length=gm.length:=by rw [(mj _).length_eq,aH]
  rw [show jX ds (uO gm,(0:Int)).1=(mL (gm.map (·.1))).map fun id=>(⟨(getM id ds).getD .zero,((getM id gm).getD oR).1⟩:ke)by simp only [jX,Xb,Ol]];generalize mL (gm.map (·.1))=ids at EL hls⊢;clear hs bU ea IG hm ir ho hb EH nD;have hs:=Ym;have wD:=EL.sl;have akC:ai gm≤i:=fe;repeat' first|refine aJ ?_;intros
  have hlN:ids.length≤2^30:=by omega
  clear dV hd hw hlen fe Zj hi akC;have amK: ∀g,vs.ownBlock=some g→X3 g∧w0.heap.size≤g:=fun g hg=>⟨EL.2.2 g hg,(EL.ge hg).1⟩;refine fN (fun n a b w X=> ∃(j:Nat) (rows:List (List Value)),a=I j∧n=ids.length-j∧j≤ids.length∧aj (aR w0) w0 X w∧Own w X w0.heap.size 120 5 b rows∧rows.length=j∧(∀g,X3 g→X g∧w.heap[g]? =w3.heap[g]?)∧(∀g,b.ownBlock=some g→ ¬X3 g)∧
   ∀(q:Nat) (r:List Value),rows[q]? =some r→ ∃id v,ids[q]? =some id∧r=((getM id ds).getD .zero).l++[v]∧Sl w (rT gm) 1 v (((getM id gm).getD oR).1.map S1)) ids.length
   ⟨0,[],rfl,rfl,aF _,hs,Own.nil _ _ _ _ _,rfl,fun g hg=>⟨hg,rfl⟩,nofun,fun q r hr=>?_⟩ ?_
  ·cases hr
  have ea:=hs;clear hs;rintro n _ b w X ⟨j,rows,rfl,rfl,hj,hs,tj,B9,yB,kH,zv⟩;have ag7: ∀{Y:XS},(∀g,Y g→X3 g)→Mv Y w3 X w:=fun hY g hg _=>yB g (hY g hg);have akD:=EL.sl.mv (ag7 fun g hg=>hg);have ml:=h.row.mv hs.mv;rcases ew ids j with⟨dy,id,hx,hd⟩|⟨dV,hd⟩
  ·repeat' first|refine bD ?_;intros
   refine ag3 (h.mv hs.mv) ?_;refine Uh (kN.mv uN (ag7 fun g hg=>hg) fun g hg _=>⟨hg,(yB g (my g hg).1).2⟩) fun v hv=>?_;obtain⟨vb,vn,vc,rfl⟩:=hv.1.sl.form;have ov:aV.one (.slice vb vn vc)=true:=rfl;repeat' first|refine aJ ?_;intros|(with_reducible apply FY);(case hX=>exact hs.has);(case he=>kernel_rfl);(case hk=>rfl);intro acc w X ao ho;obtain⟨_,_,_,rfl⟩:=ho.sl.form;replace hs:=hs.trans ao
   refine qQ (bytes:=56) (X0:=aR w0) (tj.since ao) hs (fun _ h=>h) kQ ho.sl (fun r hr u hu=>?_) (by simp only [bu];omega) (by simp only [bu];omega) fun v5 w5 X5 ti jU rU uB=>?_
   ·rw [List.mem_singleton] at hr;subst hr;simp only [List.mem_cons,List.not_mem_nil,or_false] at hu;rcases hu with rfl|rfl|rfl|rfl|rfl<;>first|rfl|exact ov
   have Zn: ∀g,X3 g→X5 g∧w5.heap[g]? =w3.heap[g]? :=fun g hg=>⟨rU.sub g (ao.sub g (yB g hg).1),(rU.block g (ao.sub g (yB g hg).1) fun e=>kH g e hg).trans ((ao.kp.block g (yB g hg).1).trans (yB g hg).2)⟩;have ac4: ∀g,v5.ownBlock=some g→ ¬X3 g:=fun g hg hx3=>by
    rcases uB with e|⟨g',e,dV⟩
    ·exact kH g (e▸hg) hx3
    ·rw [e] at hg;cases hg;have:=ao.has g (ao.sub g (yB g hx3).1);omega
   have Hm: ∀(q:Nat) (r:List Value),(rows++[((getM id ds).getD .zero).l++[.slice vb vn vc]])[q]? =some r→ ∃id v,ids[q]? =some id∧r=((getM id ds).getD .zero).l++[v]∧Sl w5 (rT gm) 1 v (((getM id gm).getD oR).1.map S1):=fun q r hr=>by
    have B8: ∀{u:Value} {rs:List (List Value)},Sl w3 (rT gm) 1 u rs→Sl w5 (rT gm) 1 u rs:=fun h=>h.mv fun g hg _=>⟨hg,(Zn g (my g hg).1).2⟩;rcases Nat.lt_trichotomy q rows.length with hq|hq|hq
    ·rw [List.getElem?_append_left hq] at hr;obtain⟨id',v',e1,e2,e3⟩:=zv q r hr;exact⟨id',v',e1,e2,e3.mv fun g hg _=>⟨hg,(Zn g (my g hg).1).2.trans (yB g (my g hg).1).2.symm⟩⟩
    ·subst hq;rw [List.getElem?_append_right (Nat.le_refl _)] at hr;simp only [Nat.sub_self,List.getElem?_cons_zero,ay] at hr;exact⟨id,_,by rw [B9];exact hx,hr.symm,hv.1.sl.mv fun g hg _=>⟨hg,(Zn g (my g hg).1).2.trans (yB g (my g hg).1).2.symm⟩⟩
    ·rw [List.getElem?_eq_none (by simp;omega)] at hr;cases hr
   replace hs:=ti;repeat' first|refine aJ ?_;intros|((with_reducible refine fJ (ids.length-(j+1)) ?_ ?_);omega;exact⟨j+1,_,by simp,rfl,by omega,ti,jU,by simp;omega,Zn,ac4,Hm⟩)
  ·repeat' first|refine bD ?_;intros
   refine av hs fun C7 bk=>?_;simp only [ne_eq,not_true_eq_false,if_false];refine⟨b,rfl,rows,(tj.kp bk).tight.sl,by rw [aH];omega,fun q r g hr hg=>?_⟩;obtain⟨id,v,e1,e2,e3⟩:=zv q r hr;rw [List.getElem?_map,e1] at hg;cases hg;exact⟨v,e2,e3.mv fun g hg _=>⟨⟨(my g hg).2,aG (hs.has g (yB g (my g hg).1).1) bk.size⟩,bk.block g (yB g (my g hg).1).1⟩⟩
end
structure fw where
 code:Int
 key:BA
 val:fS
abbrev fw.l (o:fw):List Value:=[I o.code,.string o.key,I o.val.kind,.float .f64 o.val.num,.string o.val.text]
def D8 (c:Int):Int:=if c<1∨15<c then 0 else if c=4 then 2 else if c≤3 then 1 else 0
def sk (c:Int):Int:=if c<1∨15<c then 0 else if c=1∨c=3∨c=4 then 0 else if c=2∨c=13∨c=14 then 1 else 2
def Ao (c:Int):Int:=if c<1∨15<c then 0 else if c=2∨c=3∨c=13 then 0 else if c=14∨c=15 then 2 else 1
def ac5 (c:Int):BA:=if c=1 then⟨#[103,101,116]⟩else if c=2 then⟨#[112,117,116]⟩else if c=3 then⟨#[100,114,111,112]⟩else if c=4 then⟨#[112,117,115,104]⟩else if c=5 then⟨#[97,100,100]⟩else if c=6 then⟨#[115,117,98]⟩else if c=7 then⟨#[109,117,108]⟩else if c=8 then⟨#[100,105,118]⟩
 else if c=9 then⟨#[109,105,110]⟩else if c=10 then⟨#[109,97,120]⟩else if c=11 then⟨#[108,101,115,115]⟩else if c=12 then⟨#[115,97,109,101]⟩else if c=13 then⟨#[110,101,101,100]⟩else if c=14 then⟨#[100,117,112]⟩else if c=15 then⟨#[115,119,97,112]⟩else⟨#[]⟩
abbrev Tq (c:Int):List Value:=[.string (ac5 c),I (D8 c),I (sk c),I (Ao c)]
abbrev abr:List Value:=[.string ⟨#[]⟩,I 0,I 0,I 0,.string ⟨#[103,101,116]⟩,I 1,I 0,I 1,.string ⟨#[112,117,116]⟩,I 1,I 1,I 0,.string ⟨#[100,114,111,112]⟩,I 1,I 0,I 0,.string ⟨#[112,117,115,104]⟩,I 2,I 0,I 1,
 .string ⟨#[97,100,100]⟩,I 0,I 2,I 1,.string ⟨#[115,117,98]⟩,I 0,I 2,I 1,.string ⟨#[109,117,108]⟩,I 0,I 2,I 1,.string ⟨#[100,105,118]⟩,I 0,I 2,I 1,.string ⟨#[109,105,110]⟩,I 0,I 2,I 1,.string ⟨#[109,97,120]⟩,I 0,I 2,I 1,
 .string ⟨#[108,101,115,115]⟩,I 0,I 2,I 1,.string ⟨#[115,97,109,101]⟩,I 0,I 2,I 1,.string ⟨#[110,101,101,100]⟩,I 0,I 1,I 0,.string ⟨#[100,117,112]⟩,I 0,I 1,I 2,.string ⟨#[115,119,97,112]⟩,I 0,I 2,I 2]
theorem IH:Pure pg 94 #[] (.agg abr.toArray):=by
 intro w0;apply Sw;unfold Hn;have hs:=aj.init w0;repeat' first|refine aJ ?_;intros|(with_reducible refine eD hs ?_);rfl
theorem ac7 (c:Int) (h:1≤c∧c≤15) (wa:World):(sO 217 16 124 (.agg abr.toArray) (I c)).run pg wa= .ok (.agg (Tq c).toArray) wa:=by
 have h:c=1∨c=2∨c=3∨c=4∨c=5∨c=6∨c=7∨c=8∨c=9∨c=10∨c=11∨c=12∨c=13∨c=14∨c=15:=by omega
 rcases h with rfl|rfl|rfl|rfl|rfl|rfl|rfl|rfl|rfl|rfl|rfl|rfl|rfl|rfl|rfl<;>(show _=_;kernel_rfl)
theorem abt (c:Int):Pure pg 38 #[I c] (.tuple #[.agg (Tq c).toArray,B (decide (1≤c∧c≤15))]):=by
 intro w0;by_cases hc:1≤c∧c≤15
 ·rw [decide_eq_true hc];apply On;unfold FZ;have hs:=aj.init w0;repeat' first|refine aJ ?_;intros|refine dM ?_ ?_<;>intros|(with_reducible refine ee IH ?_ hs.has ?_);(· kernel_rfl);intro w X ao;replace hs:=hs.trans ao|(exfalso;omega)|(with_reducible refine eD hs ?_);rfl|(refine cf (ac7 c hc) ?_)
 ·have hz:Tq c=[.string ⟨#[]⟩,I 0,I 0,I 0]:=by
   have h1:D8 c=0:=by unfold D8;rw [if_pos zQ]
   have h2:sk c=0:=by unfold sk;rw [if_pos zQ]
   have h3:Ao c=0:=by unfold Ao;rw [if_pos zQ]
   have h4:ac5 c=⟨#[]⟩:=by
    unfold ac5;repeat rw [if_neg zQ]
   simp only [Tq,h1,h2,h3,h4]
  rw [decide_eq_false hc,hz];apply On;unfold FZ;have hs:=aj.init w0;repeat' first|refine aJ ?_;intros|refine dM ?_ ?_<;>intros|(with_reducible refine ee IH ?_ hs.has ?_);(· kernel_rfl);intro w X ao;replace hs:=hs.trans ao|(exfalso;omega)|(with_reducible refine eD hs ?_);rfl
def zJ (o:fw) (n:Int):Bool:=
 if(n=1∧gn o.key=false)∨(n≠1∧o.key≠⟨#[]⟩)then false else if n=2 then o.val.may else decide (o.val.kind=0∧o.val.text=⟨#[]⟩∧o.val.num=0)
theorem Xc (o:fw) (n:Int):Pure pg 39 #[.agg o.l.toArray,I n] (B (zJ o n)):=by
 intro w0;apply Ul;unfold II;have hs:=aj.init w0;repeat' first|refine aJ ?_;intros|refine dM ?_ ?_<;>intros|with_reducible apply dx|((with_reducible refine dJ (jd _) ?_ hs.has ?_ ?_);(· kernel_rfl);all_goals (intro _ w X ao;replace hs:=hs.trans ao))|((with_reducible refine dJ (kE _) ?_ hs.has ?_ ?_);(· kernel_rfl);all_goals (intro _ w X ao;replace hs:=hs.trans ao))|(with_reducible refine eD hs ?_);(simp_all [zJ])|((with_reducible refine Ca (zc _) hs.has ?_);intro w X ao;replace hs:=hs.trans ao)
theorem afM {w:World} {X:XS} {mb:Nat} :Ct pg 98 #[.map (some mb)] w X nX fun v wa w'=> ∃bx,v= .func (.func 165) #[] #[ptr bx 0]∧a7 w' (made wa w') bx [.map (some mb)] 222:=by
 intro w0 hk;apply sm;unfold lR;have hs:=aj.init w0;refine ta rfl hs.has fun bx w1 X1 gh ao bJ=>?_;repeat' first|refine aJ ?_;intros
 exact av ao fun wa bk=>⟨bx,rfl,⟨gh,(bJ.kp bk).lt⟩,(bJ.kp bk).2⟩
theorem abu {w:World} {X A:XS} {mb bx:Nat} {α:Type} {rd:World→XS→Value→α→Prop} {l:List (ByteArray×α)} (h:dR w X A mb bB rd l) (hb:a7 w X bx [.map (some mb)] 222)
  (hs: ∀x∈l,x.1.size≤2^40) (hl:l.length≤2^40):
  Ct pg 47 #[.func (.func 165) #[] #[ptr bx 0]] w X nX fun v wa w'=>Own w' (made wa w') wa.heap.size 9 1 v ((gu (l.map (·.1))).map S1):=
 MD h kQ hs hl fun wa hk nn D0 si=>
  AnyZ.keys_gives (ρ:=Tryz.Ru) { Tryz.aji with } eT _ trivial rfl zQ bx mb nn D0 wa (hb.kp hk).lt (by have:=(hb.kp hk).2;simp [World.cell?,this]) si
def Um:World→XS→Value→Int→Prop:=fun _ _ v x=>v=I x
theorem Un:mU Um:=fun _ _ _ _ _ _ h _=>h
def iS (a b:Int) (t:List (BA×Int)) (o:fw):List (BA×Int):=if(o.code=a∨o.code=b)∧gn o.key=true then dS o.key ((getM o.key t).getD 0+1) t else t
def dW (a b:Int) (p:List fw):List BA:=gu ((p.foldl (iS a b) []).map (·.1))
theorem Cb {a b:Int} : ∀(p:List fw) (t:List (BA×Int)) (n:Nat),(t.map (·.1)).Nodup→(∀x∈t,0≤x.2∧x.2≤n∧x.1.size≤24)→t.length≤n→
  ((p.foldl (iS a b) t).map (·.1)).Nodup∧(∀x∈p.foldl (iS a b) t,0≤x.2∧x.2≤(n+p.length:Nat)∧x.1.size≤24)∧(p.foldl (iS a b) t).length≤n+p.length
 |[],t,n,h1,h2,h3=>⟨h1,fun x hx=>h2 x hx,h3⟩
 |o::p,t,n,h1,h2,h3=>by
  have ed:((iS a b t o).map (·.1)).Nodup∧(∀x∈iS a b t o,0≤x.2∧x.2≤(n+1:Nat)∧x.1.size≤24)∧(iS a b t o).length≤n+1:=by
   unfold iS;split
   ·rename_i hc;have hg:o.key.size≤24:=by have:=hc.2;unfold gn at this;simp at this;omega
    refine⟨F8 h1,fun x hx=>?_,?_⟩
    ·rcases jt h1 hx with rfl|⟨hx,_⟩
     ·have:0≤(getM o.key t).getD 0∧(getM o.key t).getD 0≤n:=by
       cases hgt:getM o.key t with
       |none=>simp
       |some y=>have:=h2 _ (ka hgt);exact⟨this.1,this.2.1⟩
      exact⟨by simp only;omega,by simp only;omega,hg⟩
     ·have:=h2 x hx;exact⟨this.1,by omega,this.2.2⟩
    ·have hlp:(dS o.key ((getM o.key t).getD 0+1) t).length=((dS o.key ((getM o.key t).getD 0+1) t).map (·.1)).length:=by simp
     rw [hlp,zK];split<;>simp<;>omega
   ·exact⟨h1,fun x hx=>by have:=h2 x hx;exact⟨this.1,by omega,this.2.2⟩,by omega⟩
  have:=Cb (a:=a) (b:=b) p _ (n+1) ed.1 ed.2.1 ed.2.2;rw [fI,bh];exact⟨this.1,fun x hx=>by have:=this.2.1 x hx;exact⟨this.1,by omega,this.2.2⟩,by omega⟩
theorem ag8 {w:World} {X:XS} {mb:Nat} {t:List (BA×Int)} {k:BA} {N:Value→Prop} (h:dR w X nX mb (fun k:BA=>bB k) Um t) (n:N (I ((getM k t).getD 0))):ae pg X w (da 222 (.map (some mb)) (.string k) false) N:=by
 refine th (kt:=9) (et:=3) (kv:=fun k:BA=>bB k) (I 0) h zd kQ kQ (fun v a hg hv=>?_) (fun hg=>?_)
 ·simp only [Um] at hv;subst hv;rw [hg] at n;exact n
 ·rw [hg] at n;exact n
section
variable {w : World} {X : XS}
theorem IJ {a:Value} {p:List fw} {ca cb:Int} (ha:Sl w X 5 a (p.map fw.l)) (hl:p.length≤2^30):
  Ct pg 41 #[a,I ca,I cb] w X nX fun v wa w'=>Own w' (made wa w') wa.heap.size 9 1 v ((dW ca cb p).map S1):=by
 intro w0 hk;replace ha:=ha.mv hk.dD;have jT:=ha.gy;apply Sx;unfold Ho;have hs:=aj.init w0;refine nC (kv:=fun k:BA=>bB k) Um nX hs.has fun mb w1 X1 hmb ao oL=>?_;replace hs:=hs.trans ao;have nD:=ha.mv hs.mv;repeat' first|refine aJ ?_;intros
 refine fR (fun n a w X=> ∃i:Nat,a=I i∧n=p.length-i∧i≤p.length∧aj (aR w0) w0 X w∧dR w X nX mb (fun k:BA=>bB k) Um ((p.take i).foldl (iS ca cb) [])) p.length ⟨0,rfl,rfl,aF _,hs,oL⟩ ?_;clear hs ao oL nD;rintro n _ w X ⟨i,rfl,rfl,hi,hs,hm⟩;have nD:=ha.mv hs.mv;have mg:=Cb (a:=ca) (b:=cb) (p.take i) [] 0 (by simp) (by simp) (by simp);have hli:(p.take i).length=i:=by rw [bW];omega
 rw [hli] at mg;rcases ew (p) i with⟨dy,o,hx,hd⟩|⟨dV,hd⟩
 ·have ed:(p.take (i+1)).foldl (iS ca cb) []=iS ca cb ((p.take i).foldl (iS ca cb) []) o:=by rw [cC,hx,qL];rfl
  generalize (p.take i).foldl (iS ca cb) []=t at ed hm mg;have aff: ∀{w X},aj (aR w0) w0 X w→dR w X nX mb (fun k:BA=>bB k) Um t→iS ca cb t o=t→gB (J1 fun n a w X=> ∃i:Nat,a=I i∧n=p.length-i∧i≤p.length∧aj (aR w0) w0 X w∧dR w X nX mb (fun k:BA=>bB k) Um ((p.take i).foldl (iS ca cb) [])) (p.length-i) (I ((i:Int)+1)) w X:=
   fun q1 q2 q3=>fh (p.length-(i+1)) zQ ⟨i+1,by simp,rfl,by omega,q1,by rw [ed,q3];exact q2⟩
  by_cases hc:o.code=ca∨o.code=cb
  ·repeat' first|refine bD ?_;intros|refine dM ?_ ?_<;>intros|with_reducible apply dx
   all_goals
    refine ee (jd o.key) kQ hs.has fun w2 X2 bU=>?_;have ir:=hm.mv Un bU.mv (fun _ h=>h.elim) (A':=nX);have ea:=hs.trans bU;by_cases hg:gn o.key=true
    ·rw [hg];have hN:iS ca cb t o=dS o.key ((getM o.key t).getD 0+1) t:=by unfold iS;rw [if_pos ⟨hc,hg⟩]
     have hn0:0≤(getM o.key t).getD 0∧(getM o.key t).getD 0≤i:=by
      cases hgt:getM o.key t with
      |none=>simp
      |some y=>have:=mg.2.1 _ (ka hgt);exact⟨this.1,by have:=this.2.1;simp at this⊢;omega⟩
     repeat' first|refine aJ ?_;intros
     refine ag8 ir ?_;repeat' first|refine aJ ?_;intros
     refine te (kv:=fun k:BA=>bB k) (k:=o.key) (a:=(getM o.key t).getD 0+1) (kt:=9) (et:=3) ir Un rfl (fun _ h=>h.elim) zd kQ ea.has fun w4 X4 c4 EM=>?_;have fq:aj (aR w0) w0 X4 w4:=ea.fM c4 fun g hg e=>by have:g<w0.heap.size:=hg;omega
     repeat' first|refine aJ ?_;intros|((with_reducible refine fh ((p).length-(i+1)) ?_ ?_);omega;exact⟨i+1,by simp,rfl,by omega,fq,by rw [ed,hN];exact EM⟩)
    ·rw [Bool.eq_false_iff.2 hg];have hN:iS ca cb t o=t:=by unfold iS;rw [if_neg (fun h=>hg h.2)]
     repeat' first|refine aJ ?_;intros|(exact aff ea ir hN)
  ·have hN:iS ca cb t o=t:=by unfold iS;rw [if_neg (fun h=>hc h.1)]
   repeat' first|refine bD ?_;intros|with_reducible apply dx|(exact aff hs hm hN)
 ·rw [bA dV] at hm mg;repeat' first|refine bD ?_;intros
  refine dp afM kQ hs.has ?_;rintro _ wa w2 X2 ⟨bx,rfl,hb⟩ hle fP bU;have ir:=hm.mv Un bU.mv (fun _ h=>h.elim) (A':=nX);have IG:=hs.trans bU;refine dp (abu ir (hb.mono fP) (fun e he=>by have:=mg.2.1 e he;omega) zQ) kQ IG.has ?_;rintro vs wb w3 X3 ho nZ mz ea;have hz:=IG.kp.size;have EL:Own w3 X3 w0.heap.size 9 1 vs ((gu ((p.foldl (iS ca cb) []).map (·.1))).map S1):=ho.up mz zQ;exact av (IG.trans ea) fun C7 bk=>(EL.kp bk).tight
theorem tp {a:Value} {p:List fw} (ha:Sl w X 5 a (p.map fw.l)) (hl:p.length≤2^30):
  Ct pg 10 #[a] w X nX fun v wa w'=>Own w' (made wa w') wa.heap.size 9 1 v ((dW 1 1 p).map S1):=by
 intro w0 hk;replace ha:=ha.mv hk.dD;have hs:=aj.init w0;apply Sy;unfold Hp;refine dp (IJ ha hl) kQ hs.has ?_;rintro v wa w1 X1 ho hle fP ao;exact av (hs.trans ao) fun C7 bk=>((ho.up fP hle).kp bk).tight
theorem Uo {a:Value} {p:List fw} (ha:Sl w X 5 a (p.map fw.l)) (hl:p.length≤2^30):
  Ct pg 40 #[a] w X nX fun v wa w'=>Own w' (made wa w') wa.heap.size 9 1 v ((dW 2 3 p).map S1):=by
 intro w0 hk;replace ha:=ha.mv hk.dD;have hs:=aj.init w0;apply Sz;unfold Hq;refine dp (IJ ha hl) kQ hs.has ?_;rintro v wa w1 X1 ho hle fP ao;exact av (hs.trans ao) fun C7 bk=>((ho.up fP hle).kp bk).tight
def uC:List fw→Int→Int
 |[],_=>0
 |o::r,h=>if¬(1≤o.code∧o.code≤15)then 7 else if zJ o (D8 o.code)=false then 4 else if h<sk o.code then 5 else if h+(Ao o.code-sk o.code)>16 then 2 else uC r (h+(Ao o.code-sk o.code))
def iM (p:List fw):Int:=if 40<p.length then 3 else if uC p 0≠0 then uC p 0 else if 16<(dW 1 1 p).length∨16<(dW 2 3 p).length then 3 else 0
theorem Zo (c:Int):0≤sk c∧sk c≤2∧0≤Ao c∧Ao c≤2:=by
 unfold sk Ao;split
 ·simp
 ·constructor
  ·split;simp;split<;>simp
  ·constructor
   ·split;simp;split<;>simp
   ·split;simp;split<;>simp
theorem Cc {a:Value} {p:List fw} (ha:Sl w X 5 a (p.map fw.l)):Ct pg 9 #[a] w X nX fun v _ _=>v=I (iM p):=by
 intro w0 hk;replace ha:=ha.mv hk.dD;have jT:=ha.gy;apply SA;unfold Hr;have hs:=aj.init w0;by_cases hl:40<p.length
 ·repeat' first|refine bD ?_;intros|((first|(with_reducible refine av hs ?_)|(with_reducible refine av (bS.trans hs) ?_));intro wa hk;(unfold iM;rw [if_pos hl]))
 ·repeat' first|refine bD ?_;intros
  refine fN (fun n a b w X=> ∃(i:Nat) (h:Int),a=I i∧b=I h∧0≤h∧h≤16∧n=p.length-i∧i≤p.length∧aj (aR w0) w0 X w∧uC p 0=uC (p.drop i) h) p.length ⟨0,0,rfl,rfl,by omega,by omega,rfl,aF _,hs,rfl⟩ ?_;clear hs;rintro n _ _ w X ⟨i,h,rfl,rfl,h0,h1,rfl,hi,hs,hw⟩;have nD:=ha.mv hs.mv;rcases ew (p) i with⟨dy,o,hx,hd⟩|⟨dV,hd⟩
  ·rw [hd,uC] at hw;have hb:=Zo o.code;repeat' first|refine bD ?_;intros
   refine ee (abt o.code) kQ hs.has fun w1 X1 ao=>?_;replace hs:=hs.trans ao;clear nD ao;by_cases hc:1≤o.code∧o.code≤15
   ·rw [if_neg (fun h=>h hc)] at hw;rw [decide_eq_true hc];repeat' first|refine aJ ?_;intros|refine dM ?_ ?_<;>intros|((with_reducible refine dJ (Xc _ _) ?_ hs.has ?_ ?_);(· kernel_rfl);all_goals (intro _ w X ao;replace hs:=hs.trans ao))|((with_reducible refine fJ ((p).length-(i+1)) ?_ ?_);omega;exact⟨i+1,_,by simp,rfl,by omega,by omega,rfl,by omega,hs,by simp_all⟩)|((first|(with_reducible refine av hs ?_)|(with_reducible refine av (bS.trans hs) ?_));intro wa hk;(unfold iM;rw [if_neg hl];simp_all))
    done
   ·rw [if_pos hc] at hw;rw [decide_eq_false hc];repeat' first|refine aJ ?_;intros|((first|(with_reducible refine av hs ?_)|(with_reducible refine av (bS.trans hs) ?_));intro wa hk;(unfold iM;rw [if_neg hl,hw];rfl))
  ·rw [hd,uC] at hw;repeat' first|refine bD ?_;intros
   refine dp (tp nD zQ) kQ hs.has ?_;rintro v1 wa w1 X1 uf hle fP ao;have ha2:=nD.since ao;have akD:=(uf.mono fP).sl;have bU:=hs.trans ao;clear hs ao nD;by_cases hr:16<(dW 1 1 p).length
   ·have hc:iM p=3:=by unfold iM;rw [if_neg hl,if_neg zQ,if_pos (.inl hr)]
    have hs:=bU;repeat' first|refine bD ?_;intros|with_reducible apply dx|((first|(with_reducible refine av hs ?_)|(with_reducible refine av (bS.trans hs) ?_));intro wa hk;(rw [hc]))
    done
   ·have hs:=bU;repeat' first|refine bD ?_;intros|with_reducible apply dx
    refine dp (Uo ha2 zQ) kQ bU.has ?_;rintro v3 wb w3 X3 ho3 nZ mz ea;have ac8:=(ho3.mono mz).sl;replace hs:=bU.trans ea;by_cases hn:16<(dW 2 3 p).length
    ·have hc:iM p=3:=by unfold iM;rw [if_neg hl,if_neg zQ,if_pos (.inr hn)]
     repeat' first|refine bD ?_;intros|((first|(with_reducible refine av hs ?_)|(with_reducible refine av (bS.trans hs) ?_));intro wa hk;(rw [hc]))
    ·have hc:iM p=0:=by unfold iM;rw [if_neg hl,if_neg zQ,if_neg (fun h=>h.elim hr hn)]
     repeat' first|refine bD ?_;intros|((first|(with_reducible refine av hs ?_)|(with_reducible refine av (bS.trans hs) ?_));intro wa hk;(rw [hc]))
end
end Go.Proofs.YtbpnemeooenpmaaGreat
