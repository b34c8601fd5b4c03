/-
 Part 13 of the proof: what the last text leans on.
-/
import Derived.Test.YtbpnemeooenpmaaGreatChecked
import Derived.OpenShut
import Derived.JoinedCond
import Derived.Test.YtbpnemeooenpmaaGreatH12
open List renaming length_map → aI, filter_cons → cW, map_map → dt, length_take → bU, foldl_cons → gT, mem_cons_of_mem → bA, length_singleton → bz, length → aj, take_add_one → cn, take_of_length_le → bq, foldl_append → qT, toList_toArray → dg, length_cons → ba
open Nat renaming zero_le → aG, lt_of_lt_of_le → aH
open Go.Value renaming string → bB, tuple → aq
open Go.Fence renaming wide → eT
open Option.some renaming injEq → az
open Go.DataW renaming TrodAll → uC
open Go.WideElems renaming rg → jY, rd → nV
open Function renaming comp_def → gY
open Go.Instr renaming findNow → gV, lookup → dc, checkKey → fv, mapUpdate → aP
open Bool renaming and_eq_true → aW
open Option renaming getD_some → xq
open Int renaming mul_lt_mul_of_pos_right → oN
set_option linter.unusedVariables false
set_option linter.unusedSimpArgs false
namespace Go.Proofs.YtbpnemeooenpmaaGreat
open Go.Proofs.Tryz renaming prog → pg
open Go.aR Go.ChangeShapes Go.WideShapes Go.ChangeAt Go.RowKit
set_option maxRecDepth 100000
set_option maxHeartbeats 1000000
section
variable {P : Program}
def PY (P:Program) (ts:List TypeId):Bool:=ts.all fun t=>P.readableRec t&&decide (t<P.types.size)
theorem RM (hl:laidOutB P=true) {H:Type} {enc:TypeId×Value→H} {W W':World} (hb:Below W.heap.size W W'): ∀{ts:List TypeId} {vs:List Value} {ds:List (DataW H)} {ps:List MemPlace},PY P ts=true→(∀x∈ps,x.block<W.heap.size)→
  uC enc P W 0 (fun _=>true) true ts vs ds ps→uC enc P W' 0 (fun b=>decide (b<W.heap.size)) true ts vs ds ps
 |[],[],[],_,_,_,h=>h
 |t::ts,v::vs,d::ds,ps,hr,dz,⟨p,q,h1,h2,hps⟩=>by
  unfold PY at hr;simp only [List.all_cons,aW,decide_eq_true_eq] at hr;subst hps;exact⟨p,q,Below.trod hl hr.1.1 hr.1.2 h1 hb fun x hx=>dz x (List.mem_append_left _ hx),RM hl hb hr.2 (fun x hx=>dz x (List.mem_append_right _ hx)) h2,rfl⟩
 |[],[],_::_,_,_,_,h=>h.elim
 |[],_::_,_,_,_,_,h=>h.elim
 |_::_,[],_,_,_,_,h=>h.elim
 |_::_,_::_,[],_,_,_,h=>h.elim
theorem ac7 (hl:laidOutB P=true) {tb:TypeId} (hub:P.underlying tb=some .bool) {H:Type} {enc:TypeId×Value→H} {f:Func} {s:ChangeSpec} {W W':World} {args:Array Value} {ds:List (DataW H)} {before:List MemPlace} (hv:s.vars=[]) (hrt:f.resultTypes= #[tb]) (hc:PY P f.params.toList=true)
  (hs:(s.fn H (ds++[])).results=[.lit (.bool true)]∧(s.fn H (ds++[])).args=ds∧(s.fn H (ds++[])).vars=[])
  (hW:DataW.Whole enc P f.params.toList s.vars false W args.toList ds [] before) (hA:uC enc P W 0 (fun _=>true) true f.params.toList args.toList ds before) (hx:Ext W W'):
  s.post enc P f false true false false W args (.bool true) W':=by
 have hb:=hx.below;refine⟨ds,[],before,[],before,[],hW,?_,?_,?_,Below.frame hb _,fun h=>by cases h⟩
 ·rw [hrt,hs.1];exact trodAll_cons_mk (shut_bool hub _) trodAll_mk0
 ·rw [hs.2.1];exact RM hl hb hc (fun x hx=>hW.lt x hx) hA
 ·rw [hs.2.2,hv];rfl
end
theorem ac8:ownKnob pg.godebug=none:=by kernel_rfl
theorem Uj:laidOutB pg=true:=by kernel_rfl
end Go.Proofs.YtbpnemeooenpmaaGreat
namespace Go.Proofs.YtbpnemeooenpmaaGreat
open Go.Proofs.Tryz renaming prog → pg
open Go.aR Go.RowKit Go.Maps Go.Sort Go.Shelf Go.Proofs
set_option maxRecDepth 100000
set_option maxHeartbeats 1000000
set_option linter.unusedVariables false
set_option linter.unusedSimpArgs false
abbrev wF:Int→Value:=fun z=>I z
theorem Uk {P:Program} {w:World} {X:XS} {b kt c:Nat} {es:List (gB Int)} (h:jQ w X b wF es c) (hk:P.underlying kt=some (.int .i64)) (hs: ∀x∈es,-(2^63)≤x.1∧x.1<2^63) (hl:es.length≤2^40):
  ∃D0:DataW Unit,w.ownsMap P kt RT b es.length D0∧Maps.size D0=es.length∧(intKeys D0).Perm (es.map fun x=>x.1):=by
 have BX:(2:Nat)^40≤maxLen:=by decide
 have acX: ∀x∈es,keyOf P kt (wF x.1)=some (.int .i64 x.1):=fun x hx=>by
  unfold keyOf mapKey;rw [hk];have:=hs x hx;have h1:IntKind.i64.min= -(2^63):=by decide
  have h2:IntKind.i64.max=2^63-1:=by decide
  simp [wF,Lit.wf,h1];omega
 have qs: ∀x∈es,nV P kt RT (jj wF x)=some (.int .i64 x.1,.lit (.bool true)):=fun x hx=>by
  unfold nV jj RT;simp [acX x hx]
 have acY:(es.map (jj wF)).map (jY P kt RT)=es.map fun x=>((.int .i64 x.1:Lit),(.lit (.bool true):DataW Unit)):=by
  rw [dt];apply List.map_congr_left;intro x hx;simp only [Function.comp,jY,qs x hx,xq]
 refine⟨.map (((es.map (jj wF)).map (jY P kt RT)).foldr DataW.insert []),⟨_,c,h.2.1,⟨?_,⟨?_,?_,?_⟩,?_⟩,by simp,by simp⟩,?_,?_⟩
 ·simpa using Nat.le_trans hl BX
 ·intro x hx;simp only [dg,List.mem_map] at hx;obtain⟨y,hy,rfl⟩:=hx;exact h.2.2.2.2 y hy
 ·have:=h.2.2.2.1;simpa [dt,gY,jj] using this
 ·have h1:=h.2.2.1;have e:((es.map (jj wF)).toArray.toList.map (·.key))=(es.map (·.1)).map wF:=by simp [dt,gY,jj]
  rw [e];exact List.Pairwise.map wF (fun a b ta e=>ta (by cases e;rfl)) h1
 ·intro x hx;simp only [dg,List.mem_map] at hx;obtain⟨y,hy,rfl⟩:=hx;exact⟨_,qs y hy⟩
 ·show aj _=_
  rw [(s9 _).length_eq];simp
 ·show(List.map _ _).Perm _
  refine((s9 _).map _).trans ?_;rw [acY,dt];exact List.Perm.refl _
def mM (ks:List Int):List Int:=ks.mergeSort fun x y=>decide (x≤y)
theorem ml (ks:List Int):(mM ks).Perm ks:=List.mergeSort_perm _ _
theorem Ul (ks:List Int):(mM ks).Pairwise fun x y=>x≤y:=by
 have:=List.pairwise_mergeSort (le:=fun x y:Int=>decide (x≤y)) (fun a b c h1 h2=>by simp only [decide_eq_true_eq] at*;omega) (fun a b=>by simp only [Bool.or_eq_true,decide_eq_true_eq];omega) ks;exact this.imp fun h=>by simpa using h
theorem Oi: ∀{l l':List Int},l.Perm l'→l.Pairwise (fun a b=>a≤b)→l'.Pairwise (fun a b=>a≤b)→l=l'
 |[],l',hp,_,_=>(List.Perm.nil_eq hp)
 |a::l,[],hp,_,_=>absurd hp.length_eq (by simp)
 |a::l,b::l',hp,h1,h2=>by
  have Iy:=List.pairwise_cons.1 h1;have h2':=List.pairwise_cons.1 h2;have ta:a=b:=by
   have ha:a∈b::l':=hp.mem_iff.1 (by simp);have hb:b∈a::l:=hp.mem_iff.2 (by simp);rcases List.mem_cons.1 ha with e|ha
   ·exact e
   ·rcases List.mem_cons.1 hb with e|hb
    ·exact e.symm
    ·have:=Iy.1 b hb;have:=h2'.1 a ha;omega
  subst ta;rw [Oi (List.Perm.cons_inv hp) Iy.2 h2'.2]
theorem ac9 {ks Yq:List Int} (h:ks.Perm Yq):mM ks=mM Yq:=Oi (((ml ks).trans h).trans (ml Yq).symm) (Ul _) (Ul _)
theorem ada (m:Nat):AnyZI.SortsIn pg Tryz.LP eT m:=
  ⟨fun cZ off cap ss W hH hblk fK=>callsIn_wide.2 (AnyM.slices_Sort_int Tryz.afi cZ off cap ss W hH hblk fK),
   fun p cap W=>callsIn_wide.2 (AnyM.slices_Sort_int_none Tryz.afi p cap W)⟩
theorem aby {g:FuncId} {lb:Array Value} {w:World} {X A:XS} {mb:Nat} {α:Type} {rd:World→XS→Value→α→Prop} {l:List (Int×α)} (h:dS w X A mb wF rd l) (eg:enters pg g=true)
  (hs: ∀x∈l,-(2^63)≤x.1∧x.1<2^63) (hl:l.length≤2^40)
  (hg: ∀wa,Kp X w wa→ ∀(nn:Nat) (D0:DataW Unit),wa.ownsMap pg 3 RT mb nn D0→SeqGives eT 2 pg g lb encZ (fun ss=>ss.Perm (intKeys D0)) (Maps.size D0) wa):
  Ct pg 154 #[.func (.func g) #[] lb] w X nX fun v wa w'=>Own w' (made wa w') wa.heap.size 3 1 v ((mM (l.map (·.1))).map I1):=by
 intro wa hk;obtain⟨es,c,h1,h2⟩:=h;have Bn:=h2.keys;have hlen:es.length=l.length:=by have:=congrArg aj Bn;simpa using this
 obtain⟨D0,sj,fK,Oc⟩:=Uk (P:=pg) (h1.kp hk) (kt:=3) kQ (fun x hx=>by
  have:x.1∈l.map (·.1):=by rw [←Bn];exact List.mem_map.2 ⟨x,hx,rfl⟩
  obtain⟨y,hy,e⟩:=List.mem_map.1 this;rw [←e];exact hs y hy) zQ
 have BX:(2:Nat)^40≤maxLen:=by decide
 have hS:=callsIn_wide.1 (AnyZI.sorted_in Tryz.afN eT 5 trivial trivial trivial trivial rfl zQ (ada _) (fun args w=>kM kQ args w) g lb trivial (fun args w=>kM eg args w) _ _ zQ zQ wa (hg wa hk _ D0 sj));refine hS.mono ?_;rintro e w' ⟨v,ss,rfl,hp,bJ,agY,hb⟩;have hx:Ext wa w':=⟨hb.os,hb.tape,hb.output,hb.size,fun k af _=>hb.block k af⟩;refine⟨v,rfl,hx,?_⟩;have e1:ss.mergeSort (fun x y=>decide (x≤y))=mM (l.map (·.1)):=by
  refine ac9 (hp.trans (Oc.trans ?_));rw [Bn]
 have e2:((ss.mergeSort (fun x y=>decide (x≤y))).map encZ)=((mM (l.map (·.1))).map I1).flatten:=by
  rw [e1];have e3: ∀q:List Int,q.map encZ=(q.map I1).flatten:=fun q=>by
   induction q with
   |nil=>rfl
   |cons a q ih=>simp only [List.map_cons,List.flatten_cons,←ih];rfl
  exact e3 _
 have oH:ss.length=((mM (l.map (·.1))).map I1).length:=by
  rw [aI,(ml _).length_eq,aI,←hlen];have:=hp.length_eq;rw [this,Oc.length_eq,aI]
 refine⟨fun r hr=>by obtain⟨x,_,rfl⟩:=List.mem_map.1 hr;rfl,?_,fun q hq=>⟨?_,?_⟩⟩
 ·rw [←oH,←e2];exact bJ
 ·exact(bJ.lt _ hq).1
 ·exact(bJ.lt _ hq).2
end Go.Proofs.YtbpnemeooenpmaaGreat
namespace Go.Proofs.YtbpnemeooenpmaaGreat
open Go.Proofs.Tryz renaming prog → pg
open Go Go.aR Ieee
def fcl:Datum→Int
 | .infinity true=> -1
 | .infinity false=>1
 |_=>0
def fvl (b:Int):Datum→Int
 | .number s m i=>signed s m (i-b).toNat
 |_=>0
def EH:Datum→Int
 | .number _ _ i=>i
 |_=>0
theorem RN (s:Bool) (m u k:Nat):signed s m (u+k)=signed s m u*(2^k:Nat):=by
 unfold signed;simp only [Nat.shiftLeft_eq,Nat.pow_add];have e:(m*(2^u*2^k):Nat)=m*2^u*2^k:=by rw [Nat.mul_assoc]
 rw [e];split
 ·rw [Int.neg_mul,←Int.natCast_mul]
 ·rw [←Int.natCast_mul]
theorem abz (x y:Int) (k:Nat):compare (x*(2^k:Nat)) (y*(2^k:Nat))=compare x y:=by
 have hp:(0:Int)<((2^k:Nat):Int):=by
  have:0<2^k:=Nat.two_pow_pos k;omega
 rcases Int.lt_trichotomy x y with h|h|h
 ·have:=oN h hp;rw [show compare x y= .lt from by simp [compare,compareOfLessAndEq,h],show compare (x*((2^k:Nat):Int)) (y*((2^k:Nat):Int))= .lt from by simp only [compare,compareOfLessAndEq];rw [if_pos this]]
 ·subst h;simp [compare,compareOfLessAndEq]
 ·have:=oN h hp;rw [show compare x y= .gt from by simp only [compare,compareOfLessAndEq];rw [if_neg (by omega),if_neg (by omega)],show compare (x*((2^k:Nat):Int)) (y*((2^k:Nat):Int))= .gt from by simp only [compare,compareOfLessAndEq];rw [if_neg (by omega),if_neg (by omega)]]
theorem ML (b:Int) (x y:Datum) (hx:x.isNaN=false) (hy:y.isNaN=false) (bx:b≤EH x) (by':b≤EH y):
  x.order y=some (if fcl x<fcl y then .lt else if fcl y<fcl x then .gt else compare (fvl b x) (fvl b y)):=by
 cases x with
 |nan=>simp [Datum.isNaN] at hx
 |infinity s=>cases y with
  |nan=>simp [Datum.isNaN] at hy
  |infinity t=>cases s<;>cases t<;>rfl
  |number t n j=>cases s<;>rfl
 |number s m i=>cases y with
  |nan=>simp [Datum.isNaN] at hy
  |infinity t=>cases t<;>rfl
  |number t n j=>
   have bi:b≤i:=bx;have bj:b≤j:=by';have e1:(i-b).toNat=(i-min i j).toNat+(min i j-b).toNat:=by omega
   have e2:(j-b).toNat=(j-min i j).toNat+(min i j-b).toNat:=by omega
   show some (compare (signed s m (i-min i j).toNat) (signed t n (j-min i j).toNat))=some (compare (signed s m (i-b).toNat) (signed t n (j-b).toNat))
   rw [e1,e2,RN,RN,abz]
def fk (b:Int) (d:Datum):Int×Int:=(fcl d,fvl b d)
def kle (a b:Int×Int):Prop:=a.1<b.1∨a.1=b.1∧a.2<b.2
theorem ag6 {x y:Int} :compare x y= .lt↔x<y:=by
 simp only [compare,compareOfLessAndEq];split
 ·simp [*]
 ·split<;>simp<;>omega
theorem ag7 {x y:Int} :compare x y= .eq↔x=y:=by
 simp only [compare,compareOfLessAndEq];split
 ·simp;omega
 ·split<;>simp [*]
theorem rJ {b:Int} {x y:Datum} (hx:x.isNaN=false) (hy:y.isNaN=false) (bx:b≤EH x) (by':b≤EH y):x.order y=some .lt↔kle (fk b x) (fk b y):=by
 rw [ML b x y hx hy bx by'];unfold kle fk;simp only [az];split
 ·simp [*]
 ·split
  ·simp;omega
  ·rw [ag6];constructor
   ·intro h;right;exact⟨by omega,h⟩
   ·rintro(h|⟨_,h⟩)
    ·omega
    ·exact h
theorem wc {b:Int} {x y:Datum} (hx:x.isNaN=false) (hy:y.isNaN=false) (bx:b≤EH x) (by':b≤EH y):x.order y=some .eq↔fk b x=fk b y:=by
 rw [ML b x y hx hy bx by'];unfold fk;simp only [az,Prod.mk.injEq];split
 ·simp;omega
 ·split
  ·simp;omega
  ·rw [ag7];constructor
   ·intro h;exact⟨by omega,h⟩
   ·exact fun h=>h.2
theorem te {x y:Datum} {o:Ordering} (h:x.order y=some o):x.isNaN=false∧y.isNaN=false:=by
 cases x<;>cases y<;>first|exact⟨rfl,rfl⟩|simp [Datum.order] at h
abbrev fd (a:Nat):Datum:=FloatKind.f64.format.read a
theorem Oj {a b:Nat} :kg a b=true↔(fd a).order (fd b)=some .lt:=by unfold kg Format.order;simp
theorem Tv {a b:Nat} :jK a b=true↔(fd a).order (fd b)=some .eq:=by unfold jK Format.order;simp
theorem three (x y z:Datum): ∃b:Int,b≤EH x∧b≤EH y∧b≤EH z:=⟨min (EH x) (min (EH y) (EH z)),by omega,by omega,by omega⟩
theorem zJ {a b c:Nat} (h:kg a b=true) (k:kg b c=true):kg a c=true:=by
 rw [Oj] at*;obtain⟨p,p1,p2,p3⟩:=three (fd a) (fd b) (fd c);have n1:=te h;have n2:=te k;rw [rJ n1.1 n1.2 p1 p2] at h;rw [rJ n2.1 n2.2 p2 p3] at k;rw [rJ n1.1 n2.2 p1 p3];unfold kle at*;omega
theorem KQ {a b c:Nat} (h:kg a b=true) (k:jK b c=true):kg a c=true:=by
 rw [Oj] at*;rw [Tv] at k;obtain⟨p,p1,p2,p3⟩:=three (fd a) (fd b) (fd c);have n1:=te h;have n2:=te k;rw [rJ n1.1 n1.2 p1 p2] at h;rw [wc n2.1 n2.2 p2 p3] at k;rw [rJ n1.1 n2.2 p1 p3,←k];exact h
theorem KR {a b c:Nat} (h:jK a b=true) (k:kg b c=true):kg a c=true:=by
 rw [Oj] at*;rw [Tv] at h;obtain⟨p,p1,p2,p3⟩:=three (fd a) (fd b) (fd c);have n1:=te h;have n2:=te k;rw [wc n1.1 n1.2 p1 p2] at h;rw [rJ n2.1 n2.2 p2 p3] at k;rw [rJ n1.1 n2.2 p1 p3,h];exact k
theorem wG {a b:Nat} (h:jK a b=true):jK b a=true:=by
 rw [Tv] at*;obtain⟨p,p1,p2,_⟩:=three (fd a) (fd b) (fd b);have n1:=te h;rw [wc n1.1 n1.2 p1 p2] at h;rw [wc n1.2 n1.1 p2 p1];exact h.symm
theorem abA {a b c:Nat} (h:jK a b=true) (k:jK b c=true):jK a c=true:=by
 rw [Tv] at*;obtain⟨p,p1,p2,p3⟩:=three (fd a) (fd b) (fd c);have n1:=te h;have n2:=te k;rw [wc n1.1 n1.2 p1 p2] at h;rw [wc n2.1 n2.2 p2 p3] at k;rw [wc n1.1 n2.2 p1 p3];exact h.trans k
theorem xt (a:Nat):kg a a=false:=by
 cases h:kg a a with
 |false=>rfl
 |true=>
  rw [Oj] at h;have n1:=te h;rw [rJ (b:=EH (fd a)) n1.1 n1.2 (Int.le_refl _) (Int.le_refl _)] at h;unfold kle at h;omega
theorem Xg {a b:Nat} (h:kg a b=true):jK a b=false:=by
 cases k:jK a b with
 |false=>rfl
 |true=>
  have:=KQ h (wG k);rw [xt] at this;cases this
theorem afS {a b:Nat} (h:BZ a b=true):kg b a=true:=by
 have h':(fd a).order (fd b)=some .gt:=by unfold BZ Format.order at h;simpa using h
 have n1:=te h';rw [Oj];obtain⟨p,p1,p2,_⟩:=three (fd a) (fd b) (fd b);rw [rJ n1.2 n1.1 p2 p1];rw [ML p _ _ n1.1 n1.2 p1 p2] at h';simp only [az] at h';unfold kle fk;split at h'
 ·cases h'
 ·split at h'
  ·left;assumption
  ·right;refine⟨by omega,?_⟩;simp only [compare,compareOfLessAndEq] at h';split at h'
   ·cases h'
   ·split at h'
    ·cases h'
    ·show fvl p (fd b)<fvl p (fd a);omega
end Go.Proofs.YtbpnemeooenpmaaGreat
namespace Go.Proofs.YtbpnemeooenpmaaGreat
open Go.Proofs.Tryz renaming prog → pg
open Go.aR
set_option maxRecDepth 100000
set_option maxHeartbeats 1000000
set_option linter.unusedVariables false
set_option linter.unusedSimpArgs false
attribute [local irreducible] un jn aB aS ld1 dY st1 dr cB kN dw lR uK sP fC e6 ae aC aJ eW eV eU eC eF gE ay fin aQ aF aE vS xh gG gS qK uL sQ xi xj xk gz gP qL uM sR xl xm
theorem adb {P:Program} {X:XS} {w:World} {t:TypeId} {k:Nat} {v:Value} {z:Int} {i:Nat} {rows:List (List Value)} {N:Value→Prop} (h:Sl w X k v rows) (hz:z=i) (hi:i≤rows.length) (ht:P.underlying t=some (.slice (P.elem t))) (hs:(P.info? (P.elem t)).map (·.size)=some k)
  (n: ∀v',Sl w X k v' (rows.take i)→N v'):ae P X w (Instr.sliceAt t v none (some (.int .i64 z)) none) N:=by
 obtain⟨h1,h2,base,cap,rfl,hc,hb,hlc,lG⟩:=h;refine aR.Ol hz zQ ht (by cases hq:P.info? (P.elem t)<;>simp [hq] at hs⊢) (n _ ?_);have hl:(rows.take i).length=i:=by rw [bU];omega
 refine⟨fun r hr=>h1 r (List.mem_of_mem_take hr),by omega,base,cap,by rw [hl],fun du=>?_,fun AL=>?_,by omega,lG⟩
 ·obtain⟨b,o,rfl,jz⟩:=hc (by rintro rfl;simp at du);refine⟨b,o,rfl,?_⟩;rw [aR.nC i h1];obtain⟨hx,c,ty,fr,eY,AM⟩:=jz;refine⟨hx,c,ty,fr,eY,fun q u hu=>?_⟩;have hq:=(List.getElem?_eq_some_iff.1 hu).1;rw [bU] at hq;rw [List.getElem?_take_of_lt zQ] at hu;exact AM _ _ hu
 ·have:=hb AL;omega
def ju (a:Nat) (s:Nat×Int) (r:dq):Nat×Int:=if jK r.lo a then(r.hi,s.2+1)else s
def B0 (l:List dq) (a:Nat):Nat×Int:=l.foldl (ju a) (0,0)
def xu (l:List dq):Nat→Nat→Int→Int
 |0,_,_=>99
 |n+1,a,u=>if kg a Db then(if(B0 l a).2=1 then xu l n (B0 l a).1 (u+1)else 14)else if u=l.length then 0 else 14
def B1:List dq→List dq→Int
 |_,[]=>0
 |b,r::t=>if r.may then(if b.any (fun o=>decide (o.id=r.id))then 9 else B1 (b++[r]) t)else 1
def qU (l:List dq):Int:=if l.length=0 then 8 else if 12<l.length then 3 else if B1 [] l≠0 then B1 [] l else xu l (l.length+1) 0 0
theorem Dc (a:Nat): ∀(l:List dq) (s:Nat×Int),s.2≤(l.foldl (ju a) s).2∧(l.foldl (ju a) s).2≤s.2+l.length
 |[],s=>by simp
 |r::l,s=>by
  have h:=Dc a l (ju a s r);have h1:s.2≤(ju a s r).2∧(ju a s r).2≤s.2+1:=by unfold ju;split<;>simp<;>omega
  rw [gT,ba];omega
theorem LS (a:Nat): ∀(l:List dq) (s:Nat×Int),(l.foldl (ju a) s).2=s.2→l.foldl (ju a) s=s∧ ∀r∈l,jK r.lo a=false
 |[],s,_=>by simp
 |r::l,s,h=>by
  rw [gT] at h;have hle:=Dc a l (ju a s r);by_cases hr:jK r.lo a=true
  ·have:ju a s r=(r.hi,s.2+1):=by unfold ju;rw [if_pos hr]
   rw [this] at hle h;simp only at hle;omega
  ·have e:ju a s r=s:=by unfold ju;rw [if_neg hr]
   rw [e] at h;have:=LS a l s h;rw [gT,e];exact⟨this.1,fun x hx=>by
    rcases List.mem_cons.1 hx with rfl|hx
    ·simpa using hr
    ·exact this.2 x hx⟩
theorem FV (a:Nat): ∀(l:List dq) (s:Nat×Int),(l.foldl (ju a) s).2=s.2+1→ ∃r∈l,jK r.lo a=true∧(l.foldl (ju a) s).1=r.hi
 |[],s,h=>by simp at h;omega
 |r::l,s,h=>by
  rw [gT] at h⊢;by_cases hr:jK r.lo a=true
  ·have e:ju a s r=(r.hi,s.2+1):=by unfold ju;rw [if_pos hr]
   rw [e] at h⊢;have:=LS a l (r.hi,s.2+1) h;exact⟨r,by simp,hr,by rw [this.1]⟩
  ·have e:ju a s r=s:=by unfold ju;rw [if_neg hr]
   rw [e] at h⊢;obtain⟨q,hq,h1,h2⟩:=FV a l s h;exact⟨q,bA _ hq,h1,h2⟩
def later (l:List dq) (a:Nat):Nat:=(l.filter fun r=>!kg r.lo a).length
theorem filter_lt {α:Type} {p q:α→Bool} : ∀{l:List α},(∀x∈l,q x=true→p x=true)→(∃x∈l,p x=true∧q x=false)→(l.filter q).length<(l.filter p).length
 |[],_,h=>by obtain⟨x,hx,_⟩:=h;cases hx
 |a::l,h,h2=>by
  have hle: ∀{l:List α},(∀x∈l,q x=true→p x=true)→(l.filter q).length≤(l.filter p).length:=fun {l} h=>by
   induction l with
   |nil=>simp
   |cons b l ih=>
    have:=ih fun x hx=>h x (bA _ hx);have hb:=h b (by simp);by_cases hq:q b=true
    ·simp [cW,hq,hb hq];exact this
    ·by_cases hp:p b=true
     ·simp [cW,hq,hp];omega
     ·simp [cW,hq,hp];exact this
  have hl: ∀x∈l,q x=true→p x=true:=fun x hx=>h x (bA _ hx);obtain⟨x,hx,h3,h4⟩:=h2;rcases List.mem_cons.1 hx with rfl|hx
  ·have:=hle hl;simp [cW,h3,h4];omega
  ·have ih:=filter_lt hl ⟨x,hx,h3,h4⟩;have hb:=h a (by simp);by_cases hq:q a=true
   ·simp [cW,hq,hb hq];exact ih
   ·by_cases hp:p a=true
    ·simp [cW,hq,hp];omega
    ·simp [cW,hq,hp];exact ih
theorem ade {l:List dq} {a:Nat} (hm: ∀r∈l,r.may=true) (h:(B0 l a).2=1):later l (B0 l a).1<later l a:=by
 obtain⟨r,hr,h1,h2⟩:=FV a l (0,0) h;have h2:(B0 l a).1=r.hi:=h2;have h3:kg r.lo r.hi=true:=by have:=hm r hr;unfold dq.may at this;simp only [aW] at this;exact this.2
 have h4:kg a r.hi=true:=KR (wG h1) h3;rw [h2];refine filter_lt (fun x hx hq=>?_) ⟨r,hr,?_,by rw [h3];rfl⟩
 ·cases hc:kg x.lo a with
  |false=>rfl
  |true=>rw [zJ hc h4] at hq;cases hq
 ·cases hc:kg r.lo a with
  |false=>rfl
  |true=>rw [Xg hc] at h1;cases h1
theorem MM: ∀{l b:List dq},B1 b l=0→(∀r∈l,r.may=true)∧(∀r∈l,∀o∈b,o.id≠r.id)∧l.Pairwise fun x y=>x.id≠y.id
 |[],b,_=>by simp
 |r::t,b,h=>by
  unfold B1 at h;by_cases hm:r.may=true
  ·rw [if_pos hm] at h;by_cases ha:(b.any fun o=>decide (o.id=r.id))=true
   ·rw [if_pos ha] at h;omega
   ·rw [if_neg ha] at h;have ih:=MM h;have ha': ∀o∈b,o.id≠r.id:=fun o ho e=>ha (List.any_eq_true.2 ⟨o,ho,by simpa using e⟩);refine⟨fun x hx=>?_,fun x hx o ho=>?_,List.pairwise_cons.2 ⟨fun x hx=>ih.2.1 x hx r (by simp),ih.2.2⟩⟩
    ·rcases List.mem_cons.1 hx with rfl|hx
     ·exact hm
     ·exact ih.1 x hx
    ·rcases List.mem_cons.1 hx with rfl|hx
     ·exact ha' o ho
     ·exact ih.2.1 x hx o (by simp [ho])
  ·rw [if_neg hm] at h;omega
section
variable {w : World} {X : XS}
theorem SB {a:Value} {l:List dq} (ha:Sl w X 4 a (l.map dq.l)):Ct pg 65 #[a] w X nX fun v _ _=>v=I (qU l):=by
 intro w0 hk;replace ha:=ha.mv hk.dD;have jV:=ha.gy;apply PZ;unfold EI;have hs:=ak.init w0;repeat' first|refine aL ?_;intros|refine dM ?_ ?_<;>intros|((first|(with_reducible refine aw hs ?_)|(with_reducible refine aw (bR.trans hs) ?_));intro wa hk;(first|(unfold qU;rw [if_pos zQ])|(unfold qU;rw [if_neg zQ,if_pos zQ])))
 refine fM (fun n a b w X=> ∃i:Nat,a=I i∧n=l.length-i∧i≤l.length∧ak (aV w0) w0 X w∧B1 [] l=B1 (l.take i) (l.drop i)) l.length ⟨0,rfl,rfl,aG _,hs,rfl⟩ ?_;rintro n a b w X ⟨i,rfl,rfl,hi,hs,hw⟩;rcases ew (l) i with⟨dz,x,hx,hd⟩|⟨dV,hd⟩
 ·rw [hd,B1] at hw;by_cases hm:x.may=true
  ·rw [if_pos hm] at hw;repeat' first|refine bD ?_;intros|((with_reducible refine dJ (sd _) ?_ hs.has ?_ ?_);(· kernel_rfl);all_goals (intro _ w X au;replace hs:=hs.trans au))|(exfalso;simp_all;done)
   refine adb (i:=i) (rows:=l.map dq.l) (ha.since hs) rfl (by rw [aI];omega) kQ kQ fun v1 zK=>?_;rw [←List.map_take] at zK;have RO:(l.take i).length=i:=by rw [bU];omega
   repeat' first|refine aL ?_;intros
   refine fQ (fun n a w1 X1=> ∃j:Nat,a=I (j:Nat)∧n=(l.take i).length-j∧j≤(l.take i).length∧ak X w X1 w1∧((l.take i).any fun o=>decide (o.id=x.id))=(((l.take i).drop j).any fun o=>decide (o.id=x.id))) (l.take i).length ⟨0,rfl,rfl,aG _,ak.ct hs.has,by simp⟩ ?_;rintro n a w1 X1 ⟨j,rfl,rfl,hj,bT,rB⟩;replace zK:=zK.since bT;replace hs:=hs.trans bT;rcases ew (l.take i) j with⟨adf,y,hy,nS⟩|⟨MN,nS⟩
   ·rw [nS,List.any_cons] at rB;by_cases NW:y.id=x.id
    ·repeat' first|refine bD ?_;intros|((first|(with_reducible refine aw hs ?_)|(with_reducible refine aw (bR.trans hs) ?_));intro wa hk;(unfold qU;rw [if_neg zQ,if_neg zQ,hw,rB,NW];simp))
    ·repeat' first|refine bD ?_;intros|((with_reducible refine fh ((l.take i).length-(j+1)) ?_ ?_);omega;exact⟨j+1,by simp,rfl,by omega,bT,by rw [rB];simp [NW]⟩)
   ·rw [nS] at rB;simp only [List.any_nil] at rB;rw [if_neg (by rw [rB];simp)] at hw;repeat' first|refine bD ?_;intros|((with_reducible refine fI ((l).length-(i+1)) ?_ ?_);omega;exact⟨i+1,by simp,rfl,by omega,hs,by rw [hw,cn,hx];rfl⟩)
  ·rw [if_neg hm] at hw;repeat' first|refine bD ?_;intros|((with_reducible refine dJ (sd _) ?_ hs.has ?_ ?_);(· kernel_rfl);all_goals (intro _ w X au;replace hs:=hs.trans au))|(exfalso;simp_all;done)|((first|(with_reducible refine aw hs ?_)|(with_reducible refine aw (bR.trans hs) ?_));intro wa hk;(unfold qU;rw [if_neg zQ,if_neg zQ,hw];rfl))
 ·rw [hd,bq dV,B1] at hw;have akw:=(MM hw).1;have hC:qU l=xu l (l.length+1) 0 0:=by unfold qU;rw [if_neg zQ,if_neg zQ,if_neg zQ]
  repeat' first|refine bD ?_;intros
  refine Om (fun n a b c d e w X=> ∃(u:Int) (rC:Nat),a=I u∧b= .float .f64 rC∧later l rC<n∧0≤u∧u+n≤l.length+1∧ak (aV w0) w0 X w∧qU l=xu l n rC u) (l.length+1) ⟨0,0,rfl,rfl,?_,by omega,by omega,hs,hC⟩ ?_
  ·have:later l 0≤l.length:=List.length_filter_le _ _;omega
  rintro n a b c d e w X ⟨u,a0,rfl,rfl,kE,hu0,hu1,hs,ui⟩;obtain⟨k,rfl⟩: ∃j,n=j+1:=⟨n-1,by omega⟩;rw [xu] at ui;have AL:=Dc a0 l (0,0);by_cases RO:kg a0 Db=true
  ·rw [if_pos RO] at ui;repeat' first|refine aL ?_;intros|refine dM ?_ ?_<;>intros|(exfalso;simp_all [Db];done)
   refine B2 (fun n a b c w X=> ∃i:Nat,a=I i∧b=I ((l.take i).foldl (ju a0) (0,0)).2∧c= .float .f64 ((l.take i).foldl (ju a0) (0,0)).1∧n=l.length-i∧i≤l.length∧ak (aV w0) w0 X w) l.length ⟨0,rfl,rfl,rfl,rfl,aG _,hs⟩ ?_;rintro n a b c w X ⟨i,rfl,rfl,rfl,rfl,hi,hs⟩;have rT:=Dc a0 (l.take i) (0,0);have hli:(l.take i).length=i:=by rw [bU];omega
   rw [hli] at rT;rcases ew (l) i with⟨dz,x,hx,hd⟩|⟨dV,hd⟩
   ·have ed:(l.take (i+1)).foldl (ju a0) (0,0)=ju a0 ((l.take i).foldl (ju a0) (0,0)) x:=by rw [cn,hx,qT];rfl
    generalize (l.take i).foldl (ju a0) (0,0)=s at ed rT⊢;by_cases hf:jK x.lo a0=true
    ·rw [show ju a0 s x=(x.hi,s.2+1)by unfold ju;rw [if_pos hf]] at ed;repeat' first|refine bD ?_;intros|refine dM ?_ ?_<;>intros|with_reducible apply dy|(exfalso;simp_all;done)|((with_reducible refine B3 ((l).length-(i+1)) ?_ ?_);omega;exact⟨i+1,by simp,by rw [ed],by rw [ed],rfl,by omega,hs⟩)
    ·rw [show ju a0 s x=s by unfold ju;rw [if_neg hf]] at ed;repeat' first|refine bD ?_;intros|refine dM ?_ ?_<;>intros|with_reducible apply dy|(exfalso;simp_all;done)|((with_reducible refine B3 ((l).length-(i+1)) ?_ ?_);omega;exact⟨i+1,by simp,by rw [ed],by rw [ed],rfl,by omega,hs⟩)
   ·rw [bq dV];change _∧_≤_ at AL;change qU l=if(List.foldl (ju a0) (0,0) l).2=1 then xu l k (List.foldl (ju a0) (0,0) l).1 (u+1)else 14 at ui
    by_cases wH:(l.foldl (ju a0) (0,0)).2=1
    ·have dz:=ade akw (a:=a0) wH;rw [if_pos wH] at ui;unfold B0 at dz;repeat' first|refine bD ?_;intros|(with_reducible refine Um k ?_ ?_);omega;exact⟨u+1,_,rfl,rfl,by omega,by omega,by omega,hs,ui⟩
    ·rw [if_neg wH] at ui;repeat' first|refine bD ?_;intros|((first|(with_reducible refine aw hs ?_)|(with_reducible refine aw (bR.trans hs) ?_));intro wa hk;(rw [ui]))
  ·rw [if_neg RO] at ui;repeat' first|refine aL ?_;intros|refine dM ?_ ?_<;>intros|(exfalso;exact RO (by assumption))|((first|(with_reducible refine aw hs ?_)|(with_reducible refine aw (bR.trans hs) ?_));intro wa hk;(rw [ui];first|(rw [if_pos (by assumption)])|(rw [if_neg (by assumption)])))
end
theorem MO {P:Program} {kt:TypeId} (h:P.underlying kt=some (.int .i64)) (e:Bool) (n:Nat) (k:Int) (w:World):(fv e (n+1) kt (I k)).run P w= .ok () w:=by simp [fv,run_underlying h]
theorem afT {P:Program} {kt:TypeId} (h:P.underlying kt=some (.int .i64)):sS P kt (fun z:Int=>I z) where
 aB e k w:=MO h e 9999 k w
 find k l w:=by
  have: ∀(l:List (Go.aR.gB Int)) (i:Nat),gV (.int .i64) (I k) (l.map (jj fun z=>I z)) i=some (oI k l i):=by
   intro l
   induction l with
   |nil=>intro i;rfl
   |cons x r ih=>
    intro i;by_cases hk:k=x.1
    ·simp [gV,jj,Instr.sameNow,oI,hk]
    ·have hb:(k==x.1)=false:=by simpa using hk
     simp [gV,jj,Instr.sameNow,oI,hk,hb,ih]
  simp [Instr.findKey,run_underlying h,this]
 same k:=by simp [Instr.sameBits]
theorem wI:sS pg 3 (fun z:Int=>I z):=afT kQ
def FW:World→XS→Value→dq→Prop:=fun _ _ v x=>v=x.v
theorem MP:mV FW:=fun _ _ _ _ _ _ h _=>h
abbrev gK:=List (Int×dq)
structure gO (w:World) (X:XS) (db mb:Nat) (ds:gK):Prop where
 row:a7 w X db [.map (some mb)] 164
 map:dS w X nX mb (fun z:Int=>I z) FW ds
section
variable {w w' : World} {X X' D A : XS} {db mb : Nat} {ds AK : gK}
theorem gO.mv (h:gO w X db mb ds) (v:Mv X w X' w'):gO w' X' db mb ds:=⟨h.row.mv v,h.map.mv MP v fun _ h=>h.elim⟩
theorem gO.ne (h:gO w X db mb ds):db≠mb:=fun e=>by
 obtain⟨es,c,h1,_⟩:=h.map;have h2:=h1.2.1;rw [←e,h.row.2] at h2;simp at h2
theorem gO.put (h:gO w D db mb ds) (hX: ∀k,D k→X k) (c:ez (· =mb) X w X' w') (hm:dS w' X' nX mb (fun z:Int=>I z) FW AK):gO w' D db mb AK:=
 ⟨⟨h.row.1,(c.block _ (hX _ h.row.1) h.ne).trans h.row.2⟩,by obtain⟨es,c,h1,h2⟩:=hm;exact⟨es,c,⟨h.map.x.1,h1.2⟩,h2⟩⟩
def eH (ds:gK) (r:dq):gK:=if r.may then(match getM r.id ds with|some o=>if o.gx≥r.gx then ds else dR r.id r ds|none=>dR r.id r ds)else ds
theorem Xh {a:Value} {l:List dq} (h:gO w D db mb ds) (hD:FX D X w) (ha:Sl w A 4 a (l.map dq.l)) (hA: ∀k,A k→X k∧k≠mb):
  Ct pg 66 #[ptr db 0,a] w X (· =mb) fun v _ w'=>(∃n,v=I n)∧gO w' D db mb (l.foldl eH ds):=by
 intro w0 hk;have hF:FX (· =mb) X w:=fun k af=>by subst af;exact hD _ h.map.x.1
 have hT:=hF.ft hk;replace h:=h.mv (hD.mv hk);have LU:=hD.kp hk;have hao:Sl w0 (out (· =mb) w0) 4 a (l.map dq.l):=ha.mv fun k af hl=>⟨⟨aH hl hk.size,(hA k af).2⟩,hk.block k (hA k af).1⟩;have jV:=hao.gy;have ha:=hao.mv hT.s.mv;apply MQ;unfold B4;have hs:=hT.s;repeat' first|refine aL ?_;intros
 refine fM (fun n a b w X=> ∃(i:Nat) (c:Int),a=I i∧b=I c∧0≤c∧c≤i∧n=l.length-i∧i≤l.length∧Ft w0 (· =mb) w X (· =mb)∧FX D X w∧gO w D db mb ((l.take i).foldl eH ds)) l.length ⟨0,0,rfl,rfl,by omega,by omega,rfl,aG _,hT,LU,h⟩ ?_;clear hs hT h ha;rintro n _ _ w X ⟨i,c,rfl,rfl,qI,On,rfl,hi,hT,Oo,h⟩;have ha:=hao.mv hT.s.mv;have bJ:=h.row.mono fun k af=>(Oo k af).1;have hs:=hT.s;rcases ew (l) i with⟨dz,x,hx,hd⟩|⟨dV,hd⟩
 ·have ed:(l.take (i+1)).foldl eH ds=eH ((l.take i).foldl eH ds) x:=by rw [cn,hx,qT];rfl
  generalize (l.take i).foldl eH ds=s at ed h;have nB: ∀{w':World} {X':XS} (c':Int),0≤c'→c'≤c+1→Ft w0 (· =mb) w' X' (· =mb)→FX D X' w'→gO w' D db mb (eH s x)→
    gP (J2 fun n a b w X=> ∃(i:Nat) (c:Int),a=I i∧b=I c∧0≤c∧c≤i∧n=l.length-i∧i≤l.length∧Ft w0 (· =mb) w X (· =mb)∧FX D X w∧gO w D db mb ((l.take i).foldl eH ds)) (l.length-i) (I ((i:Int)+1)) (I c') w' X':=
   fun c' q0 q1 q2 q3 q4=>fI (l.length-(i+1)) zQ ⟨i+1,c',by simp,rfl,q0,by omega,rfl,by omega,q2,q3,by rw [ed];exact q4⟩
  have Un: ∀{w1:World} {X1:XS} {K:Value→World→XS→Prop},Ft w0 (· =mb) w1 X1 (· =mb)→FX D X1 w1→gO w1 D db mb s→eH s x=dR x.id x s→
    (∀w2 X2,Ft w0 (· =mb) w2 X2 (· =mb)→FX D X2 w2→gO w2 D db mb (eH s x)→K undef w2 X2)→
    eU pg (xv (· =mb) w0 fun v w'=>(fun v _ w'=>(∃n,v=I n)∧gO w' D db mb (l.foldl eH ds)) v w0 w') X1 w1 true (aP 162 (.map (some mb)) (I x.id) x.v) K:=fun q1 q2 q3 q4 k=>by
   refine tf (kt:=3) (et:=38) (a:=x) (q3.mv (Mv.sub fun k af=>(q2 k af).1)).map MP rfl (fun _ hk=>hk.elim) wI kQ q1.s.has fun w2 X2 c2 iv=>?_;rw [q4] at k;exact k w2 X2 (q1.fL c2 (fun k af=>af) fun k af=>.inl af) (fun k af=>⟨c2.sub k (q2 k af).1,c2.has k (c2.sub k (q2 k af).1)⟩) (q3.put (fun k af=>(q2 k af).1) c2 iv)
  repeat' first|refine bD ?_;intros|with_reducible apply dy
  refine FY (kt:=3) (et:=38) (.agg #[I 0,I 0,.float .f64 0,.float .f64 0]) (h.mv (Mv.sub fun k af=>(Oo k af).1)).map wI kQ kQ (fun v a hg hv=>?_) (fun hg=>?_)
  ·simp only [FW] at hv;subst hv;repeat' first|refine aL ?_;intros
   refine ee (sd x) kQ hs.has fun w1 X1 au=>?_;have dU:=hT.since au;have yC:FX D X1 w1:=fun k af=>⟨au.sub k (Oo k af).1,aH (Oo k af).2 au.kp.size⟩;have h1:=h.mv (au.fZ fun k af=>(Oo k af).1);have mm:=h1.row.mono fun k af=>(yC k af).1;clear hs bJ;have hs:=dU.s;by_cases hm:x.may=true
   ·rw [hm];by_cases dV:a.gx≥x.gx
    ·repeat' first|refine bD ?_;intros|(exact nB c qI zQ dU yC (by unfold eH;rw [if_pos hm,hg];simp only;rw [if_pos dV];exact h1))
    ·repeat' first|refine bD ?_;intros
     refine Un dU yC h1 (by unfold eH;rw [if_pos hm,hg];simp only;rw [if_neg dV]) fun w2 X2 cX IG h2=>?_;repeat' first|refine aL ?_;intros|(exact nB (c+1) zQ zQ cX IG h2)
   ·rw [show x.may=false by simpa using hm];repeat' first|refine aL ?_;intros|(exact nB c qI zQ dU yC (by unfold eH;rw [if_neg hm];exact h1))
  ·repeat' first|refine aL ?_;intros
   refine ee (sd x) kQ hs.has fun w1 X1 au=>?_;have dU:=hT.since au;have yC:FX D X1 w1:=fun k af=>⟨au.sub k (Oo k af).1,aH (Oo k af).2 au.kp.size⟩;have h1:=h.mv (au.fZ fun k af=>(Oo k af).1);have mm:=h1.row.mono fun k af=>(yC k af).1;clear hs bJ;have hs:=dU.s;by_cases hm:x.may=true
   ·rw [hm];repeat' first|refine aL ?_;intros
    refine Un dU yC h1 (by unfold eH;rw [if_pos hm,hg]) fun w2 X2 cX IG h2=>?_;repeat' first|refine aL ?_;intros|(exact nB (c+1) zQ zQ cX IG h2)
   ·rw [show x.may=false by simpa using hm];repeat' first|refine aL ?_;intros|(exact nB c qI zQ dU yC (by unfold eH;rw [if_neg hm];exact h1))
 ·repeat' first|refine bD ?_;intros
  rw [bq dV] at h;exact hT.fin fun wa bk=>⟨⟨c,rfl⟩,h.mv (bk.fi fun k af=>(Oo k af).1)⟩
theorem abB {a:Value} {l:List dq} (ha:Sl w X 4 a (l.map dq.l)):
  Ct pg 19 #[a] w X nX fun v wa w'=>if qU l≠0 then v= .tuple #[.pointer none,I (qU l)] else∃db mb D,v= .tuple #[ptr db 0,I 0]∧(∀k,D k→made wa w' k)∧gO w' D db mb (l.foldl eH []):=by
 intro w0 hk;replace ha:=ha.mv hk.dD;have hF:FX nX X w:=fun k af=>af.elim;have hT:=hF.ft hk;have hs:=ak.init w0;apply Zp;unfold Oq;refine gC (SB ha) kQ hs.has fun w1 X1 au=>?_;replace hT:=hT.since au;replace hs:=hs.trans au;replace ha:=ha.since au;by_cases hc:qU l≠0
 ·repeat' first|refine bD ?_;intros
  exact hT.fin fun wa bk=>by simp only [if_pos hc]
 ·repeat' first|refine bD ?_;intros
  refine nD (kv:=fun k:Int=>I k) FW nX hT.s.has fun mb w2 X2 hmb MJ iv=>?_;have cX:=hT.since MJ;clear hs;repeat' first|refine aL ?_;intros
  refine nZ cX.s.has fun db w3 X3 RQ ea bJ=>?_;have dE:=cX.since ea;have kR:=iv.mv MP ea.mv (fun _ h=>h.elim) (A':=nX);have AN:=iv.x.2;have h3:gO w3 (fun k=>k=db∨k=mb) db mb []:=⟨⟨.inl rfl,bJ.2⟩,by obtain⟨es,c,h1,h2⟩:=kR;exact⟨es,c,⟨.inr rfl,h1.2⟩,h2⟩⟩;have hz:=au.kp.size;have CW:=MJ.kp.size;have hD3:FX (fun k=>k=db∨k=mb) X3 w3:=fun k af=>by
   rcases af with e|e<;>subst e
   ·exact⟨bJ.1,bJ.lt⟩
   ·exact⟨kR.x.1,kR.x.2⟩
  have np:Ft w0 nX w3 X3 (fun k=>k=mb):=dE.more fun k e=>by subst e;exact .inr ⟨kR.x.1,by omega⟩
  have ha3:Sl w3 X1 4 a (l.map dq.l):=ha.mv fun k af _=>⟨af,(MJ.trans ea).kp.block k af⟩;refine np.call (Xh (A:=X1) h3 hD3 ha3 fun k af=>⟨ea.sub k (MJ.sub k af),fun e=>by have:=hT.s.has k af;omega⟩) kQ (fun _ h=>h) fun v mw w4 X4 hq qh lL fm c4=>?_;obtain⟨_,h4⟩:=hq;have hz4:=c4.size;have hs:=fm.s
  skip
  exact fm.fin fun wa bk=>by
   simp only [if_neg hc];exact⟨db,mb,_,rfl,fun k af=>by have:=bk.size;have:=bJ.lt;have:=kR.x.2;rcases af with e|e<;>subst e<;>exact⟨by omega,by omega⟩,h4.mv (bk.fi fun k af=>c4.sub k (hD3 k af).1)⟩
def dq.tg (r:dq) (x:Nat):Bool:=(BZ x r.lo||jK x r.lo)&&kg x r.hi
def uN (ds:gK) (x:Nat):Nat→Option dq
 |0=>none
 |n+1=>match getM ((n+1:Nat):Int) ds with
  |some r=>if dq.tg r x then some r else uN ds x n
  |none=>uN ds x n
def iY (ds:gK) (k:BA):Option dq:=if gn k then uN ds (placeOf k) 12 else none
theorem Xi {k:BA} (h:gO w X db mb ds) (hk:k.size≤2^62):
  Ct pg 153 #[ptr db 0,.string k] w X nX fun v _ _=>v= .tuple #[((iY ds k).getD .zero).v,B (iY ds k).isSome]:=by
 intro w0 kE;replace h:=h.mv kE.dD;have bJ:=h.row;apply MR;unfold B5;have hs:=ak.init w0;by_cases hg:gn k=true
 ·have hR:iY ds k=uN ds (placeOf k) 12:=by unfold iY;rw [if_pos hg]
  rw [hR];clear hR;generalize akx:uN ds (placeOf k) 12=R12;repeat' first|refine aL ?_;intros|((with_reducible refine ee (Bo _ (by first|assumption|omega)) ?_ hs.has ?_);(· kernel_rfl);intro w X au;replace hs:=hs.trans au)|((with_reducible refine dJ (jf _) ?_ hs.has ?_ ?_);(· kernel_rfl);all_goals (intro _ w X au;replace hs:=hs.trans au))|(exfalso;simp_all;done)
  refine fM (fun n a b w X=> ∃j:Nat,a=I (j:Nat)∧b=dq.zero.v∧n=j∧j≤12∧ak (aV w0) w0 X w∧R12=uN ds (placeOf k) j) 12 ⟨12,rfl,rfl,rfl,by omega,hs,akx.symm⟩ ?_;clear hs;rintro n _ _ w X ⟨j,rfl,rfl,rfl,hj,hs,hw⟩;cases n with
  |zero=>
   repeat' first|refine bD ?_;intros|((first|(with_reducible refine aw hs ?_)|(with_reducible refine aw (bR.trans hs) ?_));intro wa hk;(rw [hw];rfl))
  |succ j=>
   rw [uN] at hw;repeat' first|refine bD ?_;intros
   refine FY (kt:=3) (et:=38) dq.zero.v (h.mv hs.mv).map wI kQ kQ (fun v r hg hv=>?_) (fun hg=>?_)
   ·simp only [FW] at hv;subst hv;rw [hg] at hw;simp only at hw;change R12=if((BZ (placeOf k) r.lo||jK (placeOf k) r.lo)&&kg (placeOf k) r.hi)=true then some r else uN ds (placeOf k) j at hw
    by_cases fO:((BZ (placeOf k) r.lo||jK (placeOf k) r.lo)&&kg (placeOf k) r.hi)=true
    ·rw [if_pos fO] at hw;repeat' first|refine aL ?_;intros|with_reducible apply dy|((with_reducible refine dJ (xw _ _) ?_ hs.has ?_ ?_);(· kernel_rfl);all_goals (intro _ w X au;replace hs:=hs.trans au))|(exfalso;simp_all;done)|((first|(with_reducible refine aw hs ?_)|(with_reducible refine aw (bR.trans hs) ?_));intro wa hk;(rw [hw];rfl))
    ·rw [if_neg fO] at hw;repeat' first|refine aL ?_;intros|with_reducible apply dy|((with_reducible refine dJ (xw _ _) ?_ hs.has ?_ ?_);(· kernel_rfl);all_goals (intro _ w X au;replace hs:=hs.trans au))|(exfalso;simp_all;done)|(with_reducible refine fI j ?_ ?_);omega;exact⟨j,by congr 1;omega,rfl,rfl,by omega,hs,hw⟩
   ·rw [hg] at hw;repeat' first|refine aL ?_;intros|with_reducible apply dy|(with_reducible refine fI j ?_ ?_);omega;exact⟨j,by congr 1;omega,rfl,rfl,by omega,hs,hw⟩
 ·have hR:iY ds k=none:=by unfold iY;rw [if_neg hg]
  rw [hR];repeat' first|refine aL ?_;intros|((with_reducible refine ee (Bo _ (by first|assumption|omega)) ?_ hs.has ?_);(· kernel_rfl);intro w X au;replace hs:=hs.trans au)|((with_reducible refine dJ (jf _) ?_ hs.has ?_ ?_);(· kernel_rfl);all_goals (intro _ w X au;replace hs:=hs.trans au))|(exfalso;simp_all;done)|((first|(with_reducible refine aw hs ?_)|(with_reducible refine aw (bR.trans hs) ?_));intro wa hk;rfl)
end
end Go.Proofs.YtbpnemeooenpmaaGreat
namespace Go.Proofs.YtbpnemeooenpmaaGreat
open Go.Proofs.Tryz renaming prog → pg
open Go.aR Go.Maps Go.Shelf
set_option maxRecDepth 100000
set_option maxHeartbeats 1000000
set_option linter.unusedVariables false
set_option linter.unusedSimpArgs false
attribute [local irreducible] un jn aB aS ld1 dY st1 dr cB kN dw lR uK sP fC e6 ae aC aJ eW eV eU eC eF gE ay fin aQ aF aE vS xh gG gS qK uL sQ xi xj xk gz gP qL uM sR xl xm
theorem afU {w:World} {X:XS} {mb:Nat} :Ct pg 155 #[.map (some mb)] w X nX fun v wa w'=> ∃bx,v= .func (.func 214) #[] #[ptr bx 0]∧a7 w' (made wa w') bx [.map (some mb)] 290:=by
 intro w0 hk;apply qk;unfold jL;have hs:=ak.init w0;refine td rfl hs.has fun bx w1 X1 gh au bJ=>?_;repeat' first|refine aL ?_;intros
 exact aw au fun wa bk=>⟨bx,rfl,⟨gh,(bJ.kp bk).lt⟩,(bJ.kp bk).2⟩
theorem abC {w:World} {X A:XS} {mb bx:Nat} {α:Type} {rd:World→XS→Value→α→Prop} {l:List (Int×α)} (h:dS w X A mb wF rd l) (hb:a7 w X bx [.map (some mb)] 290)
  (hs: ∀x∈l,-(2^63)≤x.1∧x.1<2^63) (hl:l.length≤2^40):
  Ct pg 154 #[.func (.func 214) #[] #[ptr bx 0]] w X nX fun v wa w'=>Own w' (made wa w') wa.heap.size 3 1 v ((mM (l.map (·.1))).map I1):=
 aby h kQ hs hl fun wa hk nn D0 sj=>
  AnyZI.keys_gives (ρ:=Tryz.RE) { Tryz.ajm with } eT _ trivial rfl zQ bx mb nn D0 wa (hb.kp hk).lt (by have:=(hb.kp hk).2;simp [World.cell?,this]) sj
abbrev GV:=List BA×Option Nat
abbrev GM:=List (Int×GV)
theorem th {w:World} {X Y:XS} {lo e k:Nat} {v:Value} {rows:List (List Value)} (h:Own w X lo e k v rows) (hs: ∀g,v.ownBlock=some g→Y g):Own w Y lo e k v rows:=⟨h.1,h.2.1,hs⟩
theorem tY {w w':World} {X Y:XS} {lo e k:Nat} {v:Value} {rows:List (List Value)} (h:Own w X lo e k v rows) (hm: ∀g,v.ownBlock=some g→Y g∧w'.heap[g]? =w.heap[g]?):Own w' Y lo e k v rows:=
 (th h (Y:=fun g=>v.ownBlock=some g) fun g hg=>hg).mv fun g hg _=>hm g hg
theorem Uo {κ α:Type} [DecidableEq κ] {k:κ} {a:α} {l:List (κ×α)} :(k,a)∈dR k a l:=kh zd
theorem Ot {κ α:Type} [DecidableEq κ] {k:κ} {a:α} : ∀{l:List (κ×α)} {y:κ×α},y∈l→y.1≠k→y∈dR k a l
 |x::l,y,h,hy=>by
  unfold dR;split
  ·rename_i hx;rcases List.mem_cons.1 h with rfl|h
   ·exact absurd hx hy
   ·exact bA _ h
  ·rcases List.mem_cons.1 h with rfl|h
   ·exact List.mem_cons_self
   ·exact bA _ (Ot h hy)
theorem zL {κ α:Type} [DecidableEq κ] {k:κ} {a:α} : ∀l:List (κ×α),(dR k a l).length≤l.length+1
 |[]=>by simp [dR]
 |x::l=>by
  have:=zL (k:=k) (a:=a) l;unfold dR;split<;>simp [*]<;>omega
def IH (lo:Nat) (w:World) (X:XS) (v:Value) (x:GV):Prop:=Own w X lo 9 1 v (x.1.map S1)∧v.ownBlock=x.2
theorem uO {lo:Nat} :mV (IH lo):=fun _ _ _ _ _ _ h m=>⟨h.1.mv m,h.2⟩
def rU (gm:GM):XS:=fun g=> ∃e∈gm,e.2.2=some g
def Up (gm:GM):Prop:= ∀e∈gm,∀e'∈gm,e.1≠e'.1→ ∀g,e.2.2=some g→e'.2.2≠some g
abbrev oS:GV:=([],none)
theorem FZ {gm:GM} {k:Int} {g:Nat} (h:((getM k gm).getD oS).2=some g): ∃x,(k,x)∈gm∧x=(getM k gm).getD oS:=by
 cases hg:getM k gm with
 |none=>rw [hg] at h;cases h
 |some x=>exact⟨x,kh hg,rfl⟩
section
variable {w w' : World} {X X' D A : XS} {db mb lo : Nat} {ds AK : gK} {gm : GM}
theorem Uq {k:Int} {N:Value→Prop} (h:dS w X A mb wF (IH lo) gm) (n: ∀v,IH lo w A v ((getM k gm).getD oS)→N v):
  ae pg X w (dc 290 (.map (some mb)) (I k) false) N:=by
 refine ti (kt:=3) (et:=31) (kv:=wF) (.slice none 0 0) h wI kQ kQ (fun v a hg hv=>n v ?_) (fun hg=>n (.slice none 0 0) ?_)
 ·rw [hg];exact hv
 ·rw [hg];exact⟨Own.nil _ _ _ _ _,rfl⟩
theorem ag8 {k:Int} {N:Value→Prop} (h:gO w X db mb ds) (n:N ((getM k ds).getD .zero).v):ae pg X w (dc 162 (.map (some mb)) (I k) false) N:=by
 refine ti (kt:=3) (et:=38) (kv:=wF) dq.zero.v h.map wI kQ kQ (fun v a hg hv=>?_) (fun hg=>?_)
 ·simp only [FW] at hv;subst hv;rw [hg] at n;exact n
 ·rw [hg] at n;exact n
theorem Up.put {k:Int} {x:GV} {sz:Nat} (hn:(gm.map (·.1)).Nodup) (h:Up gm) (dz: ∀g,rU gm g→g<sz) (hx: ∀g,x.2=some g→((getM k gm).getD oS).2=some g∨sz≤g):
  Up (dR k x gm)∧ ∀g,rU (dR k x gm) g→rU gm g∨x.2=some g:=by
 have key: ∀e'∈gm,e'.1≠k→ ∀g,x.2=some g→e'.2.2≠some g:=fun e' wJ du g hg ji=>by
  rcases hx g hg with h1|h1
  ·obtain⟨y,hy,e⟩:=FZ h1;exact h (k,y) hy e' wJ (fun e=>du e.symm) g (by rw [e];exact h1) ji
  ·have:=dz g ⟨e',wJ,ji⟩;omega
 refine⟨fun e he e' wJ du g hg=>?_,fun g ⟨e,he,hg⟩=>?_⟩
 ·rcases jv hn he with rfl|⟨h1,h2⟩
  ·rcases jv hn wJ with rfl|⟨h3,h4⟩
   ·exact absurd rfl du
   ·exact key e' h3 h4 g hg
  ·rcases jv hn wJ with rfl|⟨h3,h4⟩
   ·exact fun ji=>key e h1 h2 g ji hg
   ·exact h e h1 e' h3 du g hg
 ·rcases jv hn he with rfl|⟨h1,h2⟩
  ·exact .inr hg
  ·exact .inl ⟨e,h1,hg⟩
end
def gp (ds:gK):List (Int×List BA)→List BA→List (Int×List BA)×Int
 |m,[]=>(m,0)
 |m,k::r=>if gn k then(match iY ds k with
  |none=>(m,8)
  |some g=>gp ds (if((getM g.id m).getD []).any (fun x=>decide (k=x))then m else dR g.id (((getM g.id m).getD [])++[k]) m) r)else(m,10)
structure ki where
 lH:dq
 keys:List BA
def ki.rd (w:World) (X:XS) (l:List Value) (g:ki):Prop:= ∃v,l=g.lH.l++[v]∧Sl w X 1 v (g.keys.map S1)
theorem ki.mv:Dd ki.rd:=fun ⟨v,h,h1⟩ m=>⟨v,h,h1.mv m⟩
def jZ (ds:gK) (m:List (Int×List BA)):List ki:=(mM (m.map (·.1))).map fun id=>⟨(getM id ds).getD .zero,(getM id m).getD []⟩
def uP (gm:GM):List (Int×List BA):=gm.map fun e=>(e.1,e.2.1)
theorem Ou (k:Int) (gm:GM):(getM k (uP gm)).getD []=((getM k gm).getD oS).1:=by
 rw [uP,Ur (fun x:GV=>x.1)];cases getM k gm<;>rfl
theorem Zq (k:Int) (x:GV) (gm:GM):uP (dR k x gm)=dR k x.1 (uP gm):=MS (fun x:GV=>x.1) k x gm
theorem Xj (gm:GM):(uP gm).map (·.1)=gm.map (·.1):=by simp [uP,dt,gY]
theorem D8 {ds:gK} {x:Nat} : ∀{n:Nat} {r:dq},uN ds x n=some r→ ∃j:Nat,1≤j∧j≤n∧getM (j:Int) ds=some r∧dq.tg r x=true
 |0,r,h=>by cases h
 |n+1,r,h=>by
  rw [uN] at h;cases hg:getM ((n+1:Nat):Int) ds with
  |none=>
   rw [hg] at h;obtain⟨j,h1,h2,h3⟩:=D8 h;exact⟨j,h1,by omega,h3⟩
  |some q=>
   rw [hg] at h;simp only at h;by_cases hq:dq.tg q x=true
   ·rw [if_pos hq] at h;cases h;exact⟨n+1,by omega,by omega,hg,hq⟩
   ·rw [if_neg hq] at h;obtain⟨j,h1,h2,h3⟩:=D8 h;exact⟨j,h1,by omega,h3⟩
theorem D9 {ds:gK} {k:BA} {r:dq} (h:iY ds k=some r): ∃j:Nat,1≤j∧j≤12∧getM (j:Int) ds=some r∧dq.tg r (placeOf k)=true:=by
 unfold iY at h;split at h
 ·exact D8 h
 ·cases h
section
variable {w w' : World} {X X' D A : XS} {db mb lo : Nat} {ds AK : gK} {gm : GM}
theorem LV {a:Value} {keys:List BA} (h:gO w X db mb ds) (hW: ∀(i:Int) (r:dq),getM i ds=some r→r.id=i) (ha:Sl w X 1 a (keys.map S1)) (hl:keys.length≤2^30) (fK: ∀k∈keys,k.size≤2^62):
  Ct pg 87 #[ptr db 0,a] w X nX fun v wa w'=>if(gp ds [] keys).2≠0 then v= .tuple #[.slice none 0 0,I (gp ds [] keys).2] else∃vl,v= .tuple #[vl,I 0]∧en w' (made wa w') 5 vl ki.rd (jZ ds (gp ds [] keys).1):=by
 intro w0 hk;replace h:=h.mv hk.dD;replace ha:=ha.mv hk.dD;have jV:=ha.gy;generalize hR:gp ds [] keys=R;apply MT;unfold B6;have hs:=ak.init w0;refine nD (kv:=wF) (IH w0.heap.size) nX hs.has fun gb w1 X1 hgb au oM=>?_;have Yu:dS w1 X1 (rU []) gb wF (IH w0.heap.size) []:=oM.mv uO (Mv.sub fun _ h=>h) fun k h=>h.elim;replace hs:=hs.trans au;have nE:=ha.mv hs.mv;repeat' first|refine aL ?_;intros
 refine fQ (fun n a w X=> ∃(i:Nat) (gm:GM),a=I i∧n=keys.length-i∧i≤keys.length∧ak (aV w0) w0 X w∧dS w X (rU gm) gb wF (IH w0.heap.size) gm∧(∀g,rU gm g→X g∧w0.heap.size≤g∧g≠gb)∧Up gm∧
  (∀e∈gm,1≤e.1∧e.1≤12∧e.2.1.length≤i)∧gm.length≤i∧R=gp ds (uP gm) (keys.drop i)) keys.length ⟨0,[],rfl,rfl,aG _,hs,Yu,fun g ⟨e,he,_⟩=>absurd he (by simp),fun e he=>absurd he (by simp),fun e he=>absurd he (by simp),Nat.le_refl _,hR.symm⟩ ?_
 clear hs au oM Yu nE hR;rintro n _ w X ⟨i,gm,rfl,rfl,hi,hs,hm,EJ,Zr,hlen,fe,hw⟩;have nE:=ha.mv hs.mv;rcases ew (keys) i with⟨dz,k,hx,hd⟩|⟨dV,hd⟩
 ·rw [hd,gp] at hw;have aky:=fK k (List.mem_of_getElem? hx);repeat' first|refine bD ?_;intros|with_reducible apply dy
  refine ee (jf k) kQ hs.has fun w1' X1' au=>?_;replace hm:=hm.mv uO au.mv (au.fZ fun g hg=>(EJ g hg).1);replace EJ: ∀g,rU gm g→X1' g∧w0.heap.size≤g∧g≠gb:=fun g hg=>⟨au.sub g (EJ g hg).1,(EJ g hg).2⟩;replace hs:=hs.trans au;clear au nE;by_cases hg:gn k=true
  ·rw [if_pos hg] at hw;rw [hg];repeat' first|refine aL ?_;intros
   refine gC (Xi (h.mv hs.mv) aky) kQ hs.has fun w2 X2 bT=>?_;cases hr:iY ds k with
   |none=>
    rw [hr] at hw;simp only at hw;replace hs:=hs.trans bT;simp only [Option.getD_none,Option.isSome_none];repeat' first|refine aL ?_;intros|((first|(with_reducible refine aw hs ?_)|(with_reducible refine aw (bR.trans hs) ?_));intro wa hk;(rw [hw];simp))
   |some r=>
    rw [hr] at hw;simp only at hw;simp only [xq,Option.isSome_some];obtain⟨j,hj1,hj2,hj3,hj4⟩:=D9 hr;have EK:1≤r.id∧r.id≤12:=by have:=hW _ _ hj3;omega
    rw [Ou] at hw;have iv:=hm.mv uO bT.mv (bT.fZ fun g hg=>(EJ g hg).1);have Us: ∀g,rU gm g→X2 g∧w0.heap.size≤g∧g≠gb:=fun g hg=>⟨bT.sub g (EJ g hg).1,(EJ g hg).2⟩;clear hm EJ;replace hs:=hs.trans bT;clear bT;repeat' first|refine aL ?_;intros
    refine Uq iv fun v hv=>?_;have II:(((getM r.id gm).getD oS).1).length≤i:=by
     cases Hn:getM r.id gm with
     |none=>simp
     |some x=>exact(hlen _ (kh Hn)).2.2
    have IJ:=hv.1.mono fun g hg=>(Us g hg).1;refine gC (we IJ.sl) kQ hs.has fun w3 X3 ea=>?_;have kR:=iv.mv uO ea.mv (ea.fZ fun g hg=>(Us g hg).1);have mz: ∀g,rU gm g→X3 g∧w0.heap.size≤g∧g≠gb:=fun g hg=>⟨ea.sub g (Us g hg).1,(Us g hg).2⟩;clear iv Us hv IJ;replace hs:=hs.trans ea;clear ea;by_cases hc:(((getM r.id gm).getD oS).1.any fun x=>decide (k=x))=true
    ·rw [if_pos hc] at hw;rw [hc];repeat' first|refine aL ?_;intros|((with_reducible refine fh ((keys).length-(i+1)) ?_ ?_);omega;exact⟨i+1,gm,by simp,rfl,by omega,hs,kR,mz,Zr,fun e he=>by have:=hlen e he;omega,by omega,hw⟩)
    ·rw [if_neg hc] at hw;rw [Bool.eq_false_iff.2 hc];repeat' first|refine aL ?_;intros
     refine Uq kR fun v hv=>?_;have IJ:=hv.1.mono fun g hg=>(mz g hg).1;have P0: ∀g,rU gm g→g<w3.heap.size:=fun g hg=>hs.has g (mz g hg).1;have Zs:=hs;have Hj: ∀{Ut:World} {X3':XS} {s:Value},ak X3 w3 X3' Ut→Sl Ut X3' 1 s [[.string k]]→
       eV pg (xv nX w0 fun v w'=>if R.snd≠0 then v=aq #[Value.slice none 0 0,I R.snd] else∃vl,v=aq #[vl,I 0]∧en w' (made w0 w') 5 vl ki.rd (jZ ds R.fst)) X3' Ut true (e6 31 9 1 16 31 v s) fun x48 akz akA=>
        eU pg (xv nX w0 fun v w'=>if R.snd≠0 then v=aq #[Value.slice none 0 0,I R.snd] else∃vl,v=aq #[vl,I 0]∧en w' (made w0 w') 5 vl ki.rd (jZ ds R.fst)) akA akz true (aP 290 (.map (some gb)) (I r.id) x48) fun x ag9 aha=>
         ae pg aha ag9 (binOp .add 3 (I i) (I 1)) fun x49=>gz (J1 fun n a w X=> ∃(i:Nat) (gm:GM),a=I i∧n=keys.length-i∧i≤keys.length∧ak (aV w0) w0 X w∧dS w X (rU gm) gb wF (IH w0.heap.size) gm∧(∀g,rU gm g→X g∧w0.heap.size≤g∧g≠gb)∧Up gm∧
          (∀e∈gm,1≤e.1∧e.1≤12∧e.2.1.length≤i)∧gm.length≤i∧R=gp ds (uP gm) (keys.drop i)) (keys.length-i) x49 ag9 aha:=fun {Ut} {X3'} {s} EL wE=>by
      have akB:=kR.mv uO EL.mv (EL.fZ fun g hg=>(mz g hg).1);have Ov:IH w0.heap.size Ut (rU gm) v ((getM r.id gm).getD oS):=uO _ _ _ _ _ _ hv (EL.fZ fun g hg=>(mz g hg).1);have ajp: ∀g,rU gm g→X3' g∧w0.heap.size≤g∧g≠gb:=fun g hg=>⟨EL.sub g (mz g hg).1,(mz g hg).2⟩;have ajq: ∀g,rU gm g→g<Ut.heap.size:=fun g hg=>aH (P0 g hg) EL.kp.size;replace IJ:=IJ.since EL;have afl:=hs.trans EL;clear kR hv mz P0 hs;have kR:=akB;have hv:=Ov;have mz:=ajp;have P0:=ajq;have hs:=afl;refine qV (bytes:=16) (X0:=aV w0) IJ hs (fun _ h=>h) kQ wE (by simp [aR.one]) (by simp only [aI,bz];omega) (by simp only [aI,bz];omega) fun v4 w4 X4 fq B7 EM MU=>?_;have hx4: ∀g,v4.ownBlock=some g→((getM r.id gm).getD oS).2=some g∨Ut.heap.size≤g:=fun g hg=>by
       rcases MU with e|⟨g',e,dV⟩
       ·left;rw [←hv.2,←e,hg]
       ·right;rw [e] at hg;cases hg;exact dV
      have C6:=Zr.put (k:=r.id) (x:=((((getM r.id gm).getD oS).1++[k]),v4.ownBlock)) kR.nodup P0 hx4;have hblk: ∀g,cZ v g→rU gm g:=fun g hg=>by
       have hg:v.ownBlock=some g:=hg;rw [hv.2] at hg;obtain⟨y,hy,e⟩:=FZ hg;exact⟨_,hy,by rw [e];exact hg⟩
      have hva:IH w0.heap.size w4 (fun g=>v4.ownBlock=some g) v4 ((((getM r.id gm).getD oS).1++[k]),v4.ownBlock):=⟨Go.Proofs.YtbpnemeooenpmaaGreat.th (by simpa using B7) fun g hg=>hg,rfl⟩;have BX:Zt w4 X4 (rU (dR r.id ((((getM r.id gm).getD oS).1++[k]),v4.ownBlock) gm)) gb wF (IH w0.heap.size) r.id gm:=dS.toX kR (fun g hg _=>by
        have hg:g=gb:=hg;subst hg;exact⟨EM.sub _ kR.x.1,EM.block _ kR.x.1 fun h=>(mz _ (hblk _ h)).2.2 rfl⟩) fun y u hy du qs=>⟨tY qs.1 fun g hg=>⟨⟨y,Ot hy du,qs.2.symm.trans hg⟩,EM.block g (mz g ⟨y,hy,qs.2.symm.trans hg⟩).1 fun h=>by
       have h:v.ownBlock=some g:=h;rw [hv.2] at h;obtain⟨q,hq,e⟩:=FZ h;exact Zr _ hq y hy (fun e'=>du e'.symm) g (by rw [e];exact h) (qs.2.symm.trans hg)⟩,qs.2⟩
      have ahb:IH w0.heap.size w4 (rU (dR r.id ((((getM r.id gm).getD oS).1++[k]),v4.ownBlock) gm)) v4 ((((getM r.id gm).getD oS).1++[k]),v4.ownBlock):=⟨hva.1.mono fun g hg=>⟨_,Uo,hg⟩,rfl⟩;have Zu: ∀g,rU (dR r.id ((((getM r.id gm).getD oS).1++[k]),v4.ownBlock) gm) g→X4 g∧w0.heap.size≤g∧g≠gb:=fun g hg=>by
       rcases C6.2 g hg with h1|h1
       ·exact⟨EM.sub g (mz g h1).1,(mz g h1).2⟩
       ·have h1:v4.ownBlock=some g:=h1;refine⟨B7.2.2 g h1,(B7.ge h1).1,fun e=>?_⟩;rcases hx4 g h1 with h2|h2
        ·obtain⟨y,hy,e'⟩:=FZ h2;exact(mz g ⟨_,hy,by rw [e'];exact h2⟩).2.2 e
        ·have:=kR.x.2;omega
      refine abD (k:=r.id) (kv:=wF) (kt:=3) (et:=31) BX uO ahb (fun g hg=>⟨(Zu g hg).1,(Zu g hg).2.2⟩) wI kQ fq.has fun w5 X5 rV B8=>?_;have tj:ak (aV w0) w0 X5 w5:=fq.fL rV fun g hg e=>by have:g<w0.heap.size:=hg;omega
      have akC: ∀g,rU (dR r.id ((((getM r.id gm).getD oS).1++[k]),v4.ownBlock) gm) g→X5 g∧w0.heap.size≤g∧g≠gb:=fun g hg=>⟨rV.sub g (Zu g hg).1,(Zu g hg).2⟩;have ajr: ∀e∈dR r.id ((((getM r.id gm).getD oS).1++[k]),v4.ownBlock) gm,1≤e.1∧e.1≤12∧e.2.1.length≤i+1:=fun e he=>by
       rcases jv kR.nodup he with rfl|⟨h1,_⟩
       ·exact⟨EK.1,EK.2,by simp only [List.length_append,bz];omega⟩
       ·have:=hlen e h1;omega
      have amL:=zL (k:=r.id) (a:=((((getM r.id gm).getD oS).1++[k]),v4.ownBlock)) gm;have hw5:R=gp ds (uP (dR r.id ((((getM r.id gm).getD oS).1++[k]),v4.ownBlock) gm)) (keys.drop (i+1)):=by rw [Zq];exact hw
      clear hs Zs afl hv IJ hva ahb BX kR mz P0 B7 fq;have hs:=tj;repeat' first|refine aL ?_;intros|((with_reducible refine fh ((keys).length-(i+1)) ?_ ?_);omega;exact⟨i+1,_,by simp,rfl,by omega,tj,B8,akC,C6.1,ajr,by omega,hw5⟩)
     clear kR mz P0 Zs;repeat' first|(exact Hj (au.less fun _ h=>h) ho.sl)|(with_reducible apply IK);(case hX=>exact hs.has);(case he=>kernel_rfl);(case ho=>first|rfl|assumption);(case hk=>rfl);intro acc w X au ho|(refine And.intro ?_ ?_)
  ·rw [if_neg hg] at hw;rw [show gn k=false by simpa using hg];repeat' first|refine aL ?_;intros|((first|(with_reducible refine aw hs ?_)|(with_reducible refine aw (bR.trans hs) ?_));intro wa hk;(rw [hw];simp))
 ·rw [hd,gp] at hw;rw [hw];repeat' first|refine bD ?_;intros
  refine dp afU kQ hs.has ?_;rintro _ wa w2 X2 ⟨bx,rfl,hb⟩ hle fO bT;have iv:=hm.mv uO bT.mv (bT.fZ fun g hg=>(EJ g hg).1);have AN:=bT.kp.size;have IL:=hs.trans bT;refine dp (abC iv (hb.mono fO) (fun e he=>by have:=hlen e he;omega) (by have:aj gm≤i:=fe;omega)) kQ IL.has ?_;rintro vs wb w3 X3 ho ob mA ea;have kR:=iv.mv uO ea.mv (ea.fZ fun g hg=>bT.sub g (EJ g hg).1);have mz: ∀g,rU gm g→X3 g∧w0.heap.size≤g:=fun g hg=>⟨ea.sub g (bT.sub g (EJ g hg).1),(EJ g hg).2.1⟩;have Yv:=IL.trans ea;have EN:Own w3 X3 w0.heap.size 3 1 vs ((mM (gm.map (·.1))).map I1):=ho.up mA (by have:=IL.kp.size;omega);have hls:(mM (gm.map (·.1))).length=gm.length:=by rw [(ml _).length_eq,aI]
  rw [show jZ ds (uP gm,(0:Int)).1=(mM (gm.map (·.1))).map fun id=>(⟨(getM id ds).getD .zero,((getM id gm).getD oS).1⟩:ki)by simp only [jZ,Xj,Ou]];generalize mM (gm.map (·.1))=ids at EN hls⊢;clear hs bT ea IL hm iv ho hb EJ nE;have hs:=Yv;have wE:=EN.sl;have akD:aj gm≤i:=fe;repeat' first|refine aL ?_;intros
  have hlN:ids.length≤2^30:=by omega
  clear dV hd hw hlen fe Zr hi akD;have amM: ∀g,vs.ownBlock=some g→X3 g∧w0.heap.size≤g:=fun g hg=>⟨EN.2.2 g hg,(EN.ge hg).1⟩;refine fM (fun n a b w X=> ∃(j:Nat) (rows:List (List Value)),a=I j∧n=ids.length-j∧j≤ids.length∧ak (aV w0) w0 X w∧Own w X w0.heap.size 120 5 b rows∧rows.length=j∧(∀g,X3 g→X g∧w.heap[g]? =w3.heap[g]?)∧(∀g,b.ownBlock=some g→ ¬X3 g)∧
   ∀(q:Nat) (r:List Value),rows[q]? =some r→ ∃id v,ids[q]? =some id∧r=((getM id ds).getD .zero).l++[v]∧Sl w (rU gm) 1 v (((getM id gm).getD oS).1.map S1)) ids.length
   ⟨0,[],rfl,rfl,aG _,hs,Own.nil _ _ _ _ _,rfl,fun g hg=>⟨hg,rfl⟩,nofun,fun q r hr=>?_⟩ ?_
  ·cases hr
  have ea:=hs;clear hs;rintro n _ b w X ⟨j,rows,rfl,rfl,hj,hs,tp,B9,yD,kK,zx⟩;have ahc: ∀{Y:XS},(∀g,Y g→X3 g)→Mv Y w3 X w:=fun hY g hg _=>yD g (hY g hg);have akE:=EN.sl.mv (ahc fun g hg=>hg);have mm:=h.row.mv hs.mv;rcases ew ids j with⟨dz,id,hx,hd⟩|⟨dV,hd⟩
  ·repeat' first|refine bD ?_;intros
   refine ag8 (h.mv hs.mv) ?_;refine Uq (kR.mv uO (ahc fun g hg=>hg) fun g hg _=>⟨hg,(yD g (mz g hg).1).2⟩) fun v hv=>?_;obtain⟨vb,vn,vc,rfl⟩:=hv.1.sl.form;have ov:aR.one (.slice vb vn vc)=true:=rfl;repeat' first|refine aL ?_;intros|(with_reducible apply F8);(case hX=>exact hs.has);(case he=>kernel_rfl);(case hk=>rfl);intro acc w X au ho;obtain⟨_,_,_,rfl⟩:=ho.sl.form;replace hs:=hs.trans au
   refine qV (bytes:=56) (X0:=aV w0) (tp.since au) hs (fun _ h=>h) kQ ho.sl (fun r hr u hu=>?_) (by simp only [bz];omega) (by simp only [bz];omega) fun v5 w5 X5 tj jW rV uD=>?_
   ·rw [List.mem_singleton] at hr;subst hr;simp only [List.mem_cons,List.not_mem_nil,or_false] at hu;rcases hu with rfl|rfl|rfl|rfl|rfl<;>first|rfl|exact ov
   have Zv: ∀g,X3 g→X5 g∧w5.heap[g]? =w3.heap[g]? :=fun g hg=>⟨rV.sub g (au.sub g (yD g hg).1),(rV.block g (au.sub g (yD g hg).1) fun e=>kK g e hg).trans ((au.kp.block g (yD g hg).1).trans (yD g hg).2)⟩;have adg: ∀g,v5.ownBlock=some g→ ¬X3 g:=fun g hg hx3=>by
    rcases uD with e|⟨g',e,dV⟩
    ·exact kK g (e▸hg) hx3
    ·rw [e] at hg;cases hg;have:=au.has g (au.sub g (yD g hx3).1);omega
   have Ho: ∀(q:Nat) (r:List Value),(rows++[((getM id ds).getD .zero).l++[.slice vb vn vc]])[q]? =some r→ ∃id v,ids[q]? =some id∧r=((getM id ds).getD .zero).l++[v]∧Sl w5 (rU gm) 1 v (((getM id gm).getD oS).1.map S1):=fun q r hr=>by
    have B8: ∀{u:Value} {rs:List (List Value)},Sl w3 (rU gm) 1 u rs→Sl w5 (rU gm) 1 u rs:=fun h=>h.mv fun g hg _=>⟨hg,(Zv g (mz g hg).1).2⟩;rcases Nat.lt_trichotomy q rows.length with hq|hq|hq
    ·rw [List.getElem?_append_left hq] at hr;obtain⟨id',v',e1,e2,e3⟩:=zx q r hr;exact⟨id',v',e1,e2,e3.mv fun g hg _=>⟨hg,(Zv g (mz g hg).1).2.trans (yD g (mz g hg).1).2.symm⟩⟩
    ·subst hq;rw [List.getElem?_append_right (Nat.le_refl _)] at hr;simp only [Nat.sub_self,List.getElem?_cons_zero,az] at hr;exact⟨id,_,by rw [B9];exact hx,hr.symm,hv.1.sl.mv fun g hg _=>⟨hg,(Zv g (mz g hg).1).2.trans (yD g (mz g hg).1).2.symm⟩⟩
    ·rw [List.getElem?_eq_none (by simp;omega)] at hr;cases hr
   replace hs:=tj;repeat' first|refine aL ?_;intros|((with_reducible refine fI (ids.length-(j+1)) ?_ ?_);omega;exact⟨j+1,_,by simp,rfl,by omega,tj,jW,by simp;omega,Zv,adg,Ho⟩)
  ·repeat' first|refine bD ?_;intros
   refine aw hs fun C8 bk=>?_;simp only [ne_eq,not_true_eq_false,if_false];refine⟨b,rfl,rows,(tp.kp bk).tight.sl,by rw [aI];omega,fun q r g hr hg=>?_⟩;obtain⟨id,v,e1,e2,e3⟩:=zx q r hr;rw [List.getElem?_map,e1] at hg;cases hg;exact⟨v,e2,e3.mv fun g hg _=>⟨⟨(mz g hg).2,aH (hs.has g (yD g (mz g hg).1).1) bk.size⟩,bk.block g (yD g (mz g hg).1).1⟩⟩
end
structure fw where
 code:Int
 key:BA
 val:fR
abbrev fw.l (o:fw):List Value:=[I o.code,.string o.key,I o.val.kind,.float .f64 o.val.num,.string o.val.text]
def Ea (c:Int):Int:=if c<1∨15<c then 0 else if c=4 then 2 else if c≤3 then 1 else 0
def sm (c:Int):Int:=if c<1∨15<c then 0 else if c=1∨c=3∨c=4 then 0 else if c=2∨c=13∨c=14 then 1 else 2
def Ap (c:Int):Int:=if c<1∨15<c then 0 else if c=2∨c=3∨c=13 then 0 else if c=14∨c=15 then 2 else 1
def adh (c:Int):BA:=if c=1 then⟨#[103,101,116]⟩else if c=2 then⟨#[112,117,116]⟩else if c=3 then⟨#[100,114,111,112]⟩else if c=4 then⟨#[112,117,115,104]⟩else if c=5 then⟨#[97,100,100]⟩else if c=6 then⟨#[115,117,98]⟩else if c=7 then⟨#[109,117,108]⟩else if c=8 then⟨#[100,105,118]⟩
 else if c=9 then⟨#[109,105,110]⟩else if c=10 then⟨#[109,97,120]⟩else if c=11 then⟨#[108,101,115,115]⟩else if c=12 then⟨#[115,97,109,101]⟩else if c=13 then⟨#[110,101,101,100]⟩else if c=14 then⟨#[100,117,112]⟩else if c=15 then⟨#[115,119,97,112]⟩else⟨#[]⟩
abbrev Tw (c:Int):List Value:=[.string (adh c),I (Ea c),I (sm c),I (Ap c)]
abbrev abE:List Value:=[.string ⟨#[]⟩,I 0,I 0,I 0,.string ⟨#[103,101,116]⟩,I 1,I 0,I 1,.string ⟨#[112,117,116]⟩,I 1,I 1,I 0,.string ⟨#[100,114,111,112]⟩,I 1,I 0,I 0,.string ⟨#[112,117,115,104]⟩,I 2,I 0,I 1,
 .string ⟨#[97,100,100]⟩,I 0,I 2,I 1,.string ⟨#[115,117,98]⟩,I 0,I 2,I 1,.string ⟨#[109,117,108]⟩,I 0,I 2,I 1,.string ⟨#[100,105,118]⟩,I 0,I 2,I 1,.string ⟨#[109,105,110]⟩,I 0,I 2,I 1,.string ⟨#[109,97,120]⟩,I 0,I 2,I 1,
 .string ⟨#[108,101,115,115]⟩,I 0,I 2,I 1,.string ⟨#[115,97,109,101]⟩,I 0,I 2,I 1,.string ⟨#[110,101,101,100]⟩,I 0,I 1,I 0,.string ⟨#[100,117,112]⟩,I 0,I 1,I 2,.string ⟨#[115,119,97,112]⟩,I 0,I 2,I 2]
theorem IM:Pure pg 94 #[] (.agg abE.toArray):=by
 intro w0;apply SC;unfold Hp;have hs:=ak.init w0;repeat' first|refine aL ?_;intros|(with_reducible refine eD hs ?_);rfl
theorem adi (c:Int) (h:1≤c∧c≤15) (wa:World):(sP 217 16 124 (.agg abE.toArray) (I c)).run pg wa= .ok (.agg (Tw c).toArray) wa:=by
 have h:c=1∨c=2∨c=3∨c=4∨c=5∨c=6∨c=7∨c=8∨c=9∨c=10∨c=11∨c=12∨c=13∨c=14∨c=15:=by omega
 rcases h with rfl|rfl|rfl|rfl|rfl|rfl|rfl|rfl|rfl|rfl|rfl|rfl|rfl|rfl|rfl<;>(show _=_;kernel_rfl)
theorem abF (c:Int):Pure pg 38 #[I c] (.tuple #[.agg (Tw c).toArray,B (decide (1≤c∧c≤15))]):=by
 intro w0;by_cases hc:1≤c∧c≤15
 ·rw [decide_eq_true hc];apply Ox;unfold F9;have hs:=ak.init w0;repeat' first|refine aL ?_;intros|refine dM ?_ ?_<;>intros|(with_reducible refine ee IM ?_ hs.has ?_);(· kernel_rfl);intro w X au;replace hs:=hs.trans au|(exfalso;omega)|(with_reducible refine eD hs ?_);rfl|(refine cd (adi c hc) ?_)
 ·have hz:Tw c=[.string ⟨#[]⟩,I 0,I 0,I 0]:=by
   have h1:Ea c=0:=by unfold Ea;rw [if_pos zQ]
   have h2:sm c=0:=by unfold sm;rw [if_pos zQ]
   have h3:Ap c=0:=by unfold Ap;rw [if_pos zQ]
   have h4:adh c=⟨#[]⟩:=by
    unfold adh;repeat rw [if_neg zQ]
   simp only [Tw,h1,h2,h3,h4]
  rw [decide_eq_false hc,hz];apply Ox;unfold F9;have hs:=ak.init w0;repeat' first|refine aL ?_;intros|refine dM ?_ ?_<;>intros|(with_reducible refine ee IM ?_ hs.has ?_);(· kernel_rfl);intro w X au;replace hs:=hs.trans au|(exfalso;omega)|(with_reducible refine eD hs ?_);rfl
def zM (o:fw) (n:Int):Bool:=
 if(n=1∧gn o.key=false)∨(n≠1∧o.key≠⟨#[]⟩)then false else if n=2 then o.val.may else decide (o.val.kind=0∧o.val.text=⟨#[]⟩∧o.val.num=0)
theorem Xk (o:fw) (n:Int):Pure pg 39 #[.agg o.l.toArray,I n] (B (zM o n)):=by
 intro w0;apply Uu;unfold IN;have hs:=ak.init w0;repeat' first|refine aL ?_;intros|refine dM ?_ ?_<;>intros|with_reducible apply dy|((with_reducible refine dJ (jf _) ?_ hs.has ?_ ?_);(· kernel_rfl);all_goals (intro _ w X au;replace hs:=hs.trans au))|((with_reducible refine dJ (kH _) ?_ hs.has ?_ ?_);(· kernel_rfl);all_goals (intro _ w X au;replace hs:=hs.trans au))|(with_reducible refine eD hs ?_);(simp_all [zM])|((with_reducible refine Ca (ze _) hs.has ?_);intro w X au;replace hs:=hs.trans au)
theorem afV {w:World} {X:XS} {mb:Nat} :Ct pg 98 #[.map (some mb)] w X nX fun v wa w'=> ∃bx,v= .func (.func 165) #[] #[ptr bx 0]∧a7 w' (made wa w') bx [.map (some mb)] 222:=by
 intro w0 hk;apply sn;unfold lS;have hs:=ak.init w0;refine td rfl hs.has fun bx w1 X1 gh au bJ=>?_;repeat' first|refine aL ?_;intros
 exact aw au fun wa bk=>⟨bx,rfl,⟨gh,(bJ.kp bk).lt⟩,(bJ.kp bk).2⟩
theorem abG {w:World} {X A:XS} {mb bx:Nat} {α:Type} {rd:World→XS→Value→α→Prop} {l:List (ByteArray×α)} (h:dS w X A mb bB rd l) (hb:a7 w X bx [.map (some mb)] 222)
  (hs: ∀x∈l,x.1.size≤2^40) (hl:l.length≤2^40):
  Ct pg 47 #[.func (.func 165) #[] #[ptr bx 0]] w X nX fun v wa w'=>Own w' (made wa w') wa.heap.size 9 1 v ((gu (l.map (·.1))).map S1):=
 MI h kQ hs hl fun wa hk nn D0 sj=>
  AnyZ.keys_gives (ρ:=Tryz.RD) { Tryz.ajl with } eT _ trivial rfl zQ bx mb nn D0 wa (hb.kp hk).lt (by have:=(hb.kp hk).2;simp [World.cell?,this]) sj
def Uv:World→XS→Value→Int→Prop:=fun _ _ v x=>v=I x
theorem Uw:mV Uv:=fun _ _ _ _ _ _ h _=>h
def iT (a b:Int) (t:List (BA×Int)) (o:fw):List (BA×Int):=if(o.code=a∨o.code=b)∧gn o.key=true then dR o.key ((getM o.key t).getD 0+1) t else t
def dW (a b:Int) (p:List fw):List BA:=gu ((p.foldl (iT a b) []).map (·.1))
theorem Cb {a b:Int} : ∀(p:List fw) (t:List (BA×Int)) (n:Nat),(t.map (·.1)).Nodup→(∀x∈t,0≤x.2∧x.2≤n∧x.1.size≤24)→t.length≤n→
  ((p.foldl (iT a b) t).map (·.1)).Nodup∧(∀x∈p.foldl (iT a b) t,0≤x.2∧x.2≤(n+p.length:Nat)∧x.1.size≤24)∧(p.foldl (iT a b) t).length≤n+p.length
 |[],t,n,h1,h2,h3=>⟨h1,fun x hx=>h2 x hx,h3⟩
 |o::p,t,n,h1,h2,h3=>by
  have ed:((iT a b t o).map (·.1)).Nodup∧(∀x∈iT a b t o,0≤x.2∧x.2≤(n+1:Nat)∧x.1.size≤24)∧(iT a b t o).length≤n+1:=by
   unfold iT;split
   ·rename_i hc;have hg:o.key.size≤24:=by have:=hc.2;unfold gn at this;simp at this;omega
    refine⟨Ga h1,fun x hx=>?_,?_⟩
    ·rcases jv h1 hx with rfl|⟨hx,_⟩
     ·have:0≤(getM o.key t).getD 0∧(getM o.key t).getD 0≤n:=by
       cases hgt:getM o.key t with
       |none=>simp
       |some y=>have:=h2 _ (kh hgt);exact⟨this.1,this.2.1⟩
      exact⟨by simp only;omega,by simp only;omega,hg⟩
     ·have:=h2 x hx;exact⟨this.1,by omega,this.2.2⟩
    ·have hlp:(dR o.key ((getM o.key t).getD 0+1) t).length=((dR o.key ((getM o.key t).getD 0+1) t).map (·.1)).length:=by simp
     rw [hlp,zF];split<;>simp<;>omega
   ·exact⟨h1,fun x hx=>by have:=h2 x hx;exact⟨this.1,by omega,this.2.2⟩,by omega⟩
  have:=Cb (a:=a) (b:=b) p _ (n+1) ed.1 ed.2.1 ed.2.2;rw [gT,ba];exact⟨this.1,fun x hx=>by have:=this.2.1 x hx;exact⟨this.1,by omega,this.2.2⟩,by omega⟩
theorem ahd {w:World} {X:XS} {mb:Nat} {t:List (BA×Int)} {k:BA} {N:Value→Prop} (h:dS w X nX mb (fun k:BA=>bB k) Uv t) (n:N (I ((getM k t).getD 0))):ae pg X w (dc 222 (.map (some mb)) (.string k) false) N:=by
 refine ti (kt:=9) (et:=3) (kv:=fun k:BA=>bB k) (I 0) h zf kQ kQ (fun v a hg hv=>?_) (fun hg=>?_)
 ·simp only [Uv] at hv;subst hv;rw [hg] at n;exact n
 ·rw [hg] at n;exact n
section
variable {w : World} {X : XS}
theorem IP {a:Value} {p:List fw} {ca cb:Int} (ha:Sl w X 5 a (p.map fw.l)) (hl:p.length≤2^30):
  Ct pg 41 #[a,I ca,I cb] w X nX fun v wa w'=>Own w' (made wa w') wa.heap.size 9 1 v ((dW ca cb p).map S1):=by
 intro w0 hk;replace ha:=ha.mv hk.dD;have jV:=ha.gy;apply SD;unfold Hq;have hs:=ak.init w0;refine nD (kv:=fun k:BA=>bB k) Uv nX hs.has fun mb w1 X1 hmb au oM=>?_;replace hs:=hs.trans au;have nE:=ha.mv hs.mv;repeat' first|refine aL ?_;intros
 refine fQ (fun n a w X=> ∃i:Nat,a=I i∧n=p.length-i∧i≤p.length∧ak (aV w0) w0 X w∧dS w X nX mb (fun k:BA=>bB k) Uv ((p.take i).foldl (iT ca cb) [])) p.length ⟨0,rfl,rfl,aG _,hs,oM⟩ ?_;clear hs au oM nE;rintro n _ w X ⟨i,rfl,rfl,hi,hs,hm⟩;have nE:=ha.mv hs.mv;have mh:=Cb (a:=ca) (b:=cb) (p.take i) [] 0 (by simp) (by simp) (by simp);have hli:(p.take i).length=i:=by rw [bU];omega
 rw [hli] at mh;rcases ew (p) i with⟨dz,o,hx,hd⟩|⟨dV,hd⟩
 ·have ed:(p.take (i+1)).foldl (iT ca cb) []=iT ca cb ((p.take i).foldl (iT ca cb) []) o:=by rw [cn,hx,qT];rfl
  generalize (p.take i).foldl (iT ca cb) []=t at ed hm mh;have afm: ∀{w X},ak (aV w0) w0 X w→dS w X nX mb (fun k:BA=>bB k) Uv t→iT ca cb t o=t→gz (J1 fun n a w X=> ∃i:Nat,a=I i∧n=p.length-i∧i≤p.length∧ak (aV w0) w0 X w∧dS w X nX mb (fun k:BA=>bB k) Uv ((p.take i).foldl (iT ca cb) [])) (p.length-i) (I ((i:Int)+1)) w X:=
   fun q1 q2 q3=>fh (p.length-(i+1)) zQ ⟨i+1,by simp,rfl,by omega,q1,by rw [ed,q3];exact q2⟩
  by_cases hc:o.code=ca∨o.code=cb
  ·repeat' first|refine bD ?_;intros|refine dM ?_ ?_<;>intros|with_reducible apply dy
   all_goals
    refine ee (jf o.key) kQ hs.has fun w2 X2 bT=>?_;have iv:=hm.mv Uw bT.mv (fun _ h=>h.elim) (A':=nX);have ea:=hs.trans bT;by_cases hg:gn o.key=true
    ·rw [hg];have hN:iT ca cb t o=dR o.key ((getM o.key t).getD 0+1) t:=by unfold iT;rw [if_pos ⟨hc,hg⟩]
     have hn0:0≤(getM o.key t).getD 0∧(getM o.key t).getD 0≤i:=by
      cases hgt:getM o.key t with
      |none=>simp
      |some y=>have:=mh.2.1 _ (kh hgt);exact⟨this.1,by have:=this.2.1;simp at this⊢;omega⟩
     repeat' first|refine aL ?_;intros
     refine ahd iv ?_;repeat' first|refine aL ?_;intros
     refine tf (kv:=fun k:BA=>bB k) (k:=o.key) (a:=(getM o.key t).getD 0+1) (kt:=9) (et:=3) iv Uw rfl (fun _ h=>h.elim) zf kQ ea.has fun w4 X4 c4 EO=>?_;have fq:ak (aV w0) w0 X4 w4:=ea.fL c4 fun g hg e=>by have:g<w0.heap.size:=hg;omega
     repeat' first|refine aL ?_;intros|((with_reducible refine fh ((p).length-(i+1)) ?_ ?_);omega;exact⟨i+1,by simp,rfl,by omega,fq,by rw [ed,hN];exact EO⟩)
    ·rw [Bool.eq_false_iff.2 hg];have hN:iT ca cb t o=t:=by unfold iT;rw [if_neg (fun h=>hg h.2)]
     repeat' first|refine aL ?_;intros|(exact afm ea iv hN)
  ·have hN:iT ca cb t o=t:=by unfold iT;rw [if_neg (fun h=>hc h.1)]
   repeat' first|refine bD ?_;intros|with_reducible apply dy|(exact afm hs hm hN)
 ·rw [bq dV] at hm mh;repeat' first|refine bD ?_;intros
  refine dp afV kQ hs.has ?_;rintro _ wa w2 X2 ⟨bx,rfl,hb⟩ hle fO bT;have iv:=hm.mv Uw bT.mv (fun _ h=>h.elim) (A':=nX);have IL:=hs.trans bT;refine dp (abG iv (hb.mono fO) (fun e he=>by have:=mh.2.1 e he;omega) zQ) kQ IL.has ?_;rintro vs wb w3 X3 ho ob mA ea;have hz:=IL.kp.size;have EN:Own w3 X3 w0.heap.size 9 1 vs ((gu ((p.foldl (iT ca cb) []).map (·.1))).map S1):=ho.up mA zQ;exact aw (IL.trans ea) fun C8 bk=>(EN.kp bk).tight
theorem tq {a:Value} {p:List fw} (ha:Sl w X 5 a (p.map fw.l)) (hl:p.length≤2^30):
  Ct pg 10 #[a] w X nX fun v wa w'=>Own w' (made wa w') wa.heap.size 9 1 v ((dW 1 1 p).map S1):=by
 intro w0 hk;replace ha:=ha.mv hk.dD;have hs:=ak.init w0;apply SE;unfold Hr;refine dp (IP ha hl) kQ hs.has ?_;rintro v wa w1 X1 ho hle fO au;exact aw (hs.trans au) fun C8 bk=>((ho.up fO hle).kp bk).tight
theorem Ux {a:Value} {p:List fw} (ha:Sl w X 5 a (p.map fw.l)) (hl:p.length≤2^30):
  Ct pg 40 #[a] w X nX fun v wa w'=>Own w' (made wa w') wa.heap.size 9 1 v ((dW 2 3 p).map S1):=by
 intro w0 hk;replace ha:=ha.mv hk.dD;have hs:=ak.init w0;apply SF;unfold Hs;refine dp (IP ha hl) kQ hs.has ?_;rintro v wa w1 X1 ho hle fO au;exact aw (hs.trans au) fun C8 bk=>((ho.up fO hle).kp bk).tight
def uE:List fw→Int→Int
 |[],_=>0
 |o::r,h=>if¬(1≤o.code∧o.code≤15)then 7 else if zM o (Ea o.code)=false then 4 else if h<sm o.code then 5 else if h+(Ap o.code-sm o.code)>16 then 2 else uE r (h+(Ap o.code-sm o.code))
def iN (p:List fw):Int:=if 40<p.length then 3 else if uE p 0≠0 then uE p 0 else if 16<(dW 1 1 p).length∨16<(dW 2 3 p).length then 3 else 0
theorem Zw (c:Int):0≤sm c∧sm c≤2∧0≤Ap c∧Ap c≤2:=by
 unfold sm Ap;split
 ·simp
 ·constructor
  ·split;simp;split<;>simp
  ·constructor
   ·split;simp;split<;>simp
   ·split;simp;split<;>simp
theorem Cc {a:Value} {p:List fw} (ha:Sl w X 5 a (p.map fw.l)):Ct pg 9 #[a] w X nX fun v _ _=>v=I (iN p):=by
 intro w0 hk;replace ha:=ha.mv hk.dD;have jV:=ha.gy;apply SG;unfold Ht;have hs:=ak.init w0;by_cases hl:40<p.length
 ·repeat' first|refine bD ?_;intros|((first|(with_reducible refine aw hs ?_)|(with_reducible refine aw (bR.trans hs) ?_));intro wa hk;(unfold iN;rw [if_pos hl]))
 ·repeat' first|refine bD ?_;intros
  refine fM (fun n a b w X=> ∃(i:Nat) (h:Int),a=I i∧b=I h∧0≤h∧h≤16∧n=p.length-i∧i≤p.length∧ak (aV w0) w0 X w∧uE p 0=uE (p.drop i) h) p.length ⟨0,0,rfl,rfl,by omega,by omega,rfl,aG _,hs,rfl⟩ ?_;clear hs;rintro n _ _ w X ⟨i,h,rfl,rfl,h0,h1,rfl,hi,hs,hw⟩;have nE:=ha.mv hs.mv;rcases ew (p) i with⟨dz,o,hx,hd⟩|⟨dV,hd⟩
  ·rw [hd,uE] at hw;have hb:=Zw o.code;repeat' first|refine bD ?_;intros
   refine ee (abF o.code) kQ hs.has fun w1 X1 au=>?_;replace hs:=hs.trans au;clear nE au;by_cases hc:1≤o.code∧o.code≤15
   ·rw [if_neg (fun h=>h hc)] at hw;rw [decide_eq_true hc];repeat' first|refine aL ?_;intros|refine dM ?_ ?_<;>intros|((with_reducible refine dJ (Xk _ _) ?_ hs.has ?_ ?_);(· kernel_rfl);all_goals (intro _ w X au;replace hs:=hs.trans au))|((with_reducible refine fI ((p).length-(i+1)) ?_ ?_);omega;exact⟨i+1,_,by simp,rfl,by omega,by omega,rfl,by omega,hs,by simp_all⟩)|((first|(with_reducible refine aw hs ?_)|(with_reducible refine aw (bR.trans hs) ?_));intro wa hk;(unfold iN;rw [if_neg hl];simp_all))
    done
   ·rw [if_pos hc] at hw;rw [decide_eq_false hc];repeat' first|refine aL ?_;intros|((first|(with_reducible refine aw hs ?_)|(with_reducible refine aw (bR.trans hs) ?_));intro wa hk;(unfold iN;rw [if_neg hl,hw];rfl))
  ·rw [hd,uE] at hw;repeat' first|refine bD ?_;intros
   refine dp (tq nE zQ) kQ hs.has ?_;rintro v1 wa w1 X1 uh hle fO au;have ha2:=nE.since au;have akE:=(uh.mono fO).sl;have bT:=hs.trans au;clear hs au nE;by_cases hr:16<(dW 1 1 p).length
   ·have hc:iN p=3:=by unfold iN;rw [if_neg hl,if_neg zQ,if_pos (.inl hr)]
    have hs:=bT;repeat' first|refine bD ?_;intros|with_reducible apply dy|((first|(with_reducible refine aw hs ?_)|(with_reducible refine aw (bR.trans hs) ?_));intro wa hk;(rw [hc]))
    done
   ·have hs:=bT;repeat' first|refine bD ?_;intros|with_reducible apply dy
    refine dp (Ux ha2 zQ) kQ bT.has ?_;rintro v3 wb w3 X3 ho3 ob mA ea;have adj:=(ho3.mono mA).sl;replace hs:=bT.trans ea;by_cases hn:16<(dW 2 3 p).length
    ·have hc:iN p=3:=by unfold iN;rw [if_neg hl,if_neg zQ,if_pos (.inr hn)]
     repeat' first|refine bD ?_;intros|((first|(with_reducible refine aw hs ?_)|(with_reducible refine aw (bR.trans hs) ?_));intro wa hk;(rw [hc]))
    ·have hc:iN p=0:=by unfold iN;rw [if_neg hl,if_neg zQ,if_neg (fun h=>h.elim hr hn)]
     repeat' first|refine bD ?_;intros|((first|(with_reducible refine aw hs ?_)|(with_reducible refine aw (bR.trans hs) ?_));intro wa hk;(rw [hc]))
end
end Go.Proofs.YtbpnemeooenpmaaGreat
