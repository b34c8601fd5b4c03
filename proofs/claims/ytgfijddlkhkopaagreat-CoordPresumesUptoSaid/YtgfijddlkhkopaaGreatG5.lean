/- Part 5 of the proof. -/
import Derived.Test.YtgfijddlkhkopaaGreatRows
import Derived.WalkKit
import Derived.ProofKit
import Derived.Deep.Slices
import Derived.Carry
import Derived.Test.YtgfijddlkhkopaaGreatChecked
import Derived.OpenShut
import Derived.JoinedCond
import Derived.Test.YtgfijddlkhkopaaGreatG4
set_option linter.all false
open Nat renaming le_trans → ad, zero_le → aq, lt_of_lt_of_le → aw, mod_eq_of_lt → fq, div_lt_iff_lt_mul → xF
open BitVec renaming ofInt → aF
open List renaming append_assoc → ak, map_cons → aZ, range → dw, find?_cons → fM, mem_of_getElem? → ax, length_append → aa, sum_cons → qI, all_cons → iY, getElem?_eq_getElem → aS, drop_zero → tD, length_map → af, take_add_one → cn, nil_append → cB, length_cons → aM, take_of_length_le → aB, any_cons → zG, map_append → az, getElem?_cons_zero → jY, drop_of_length_le → ko, foldl_cons → iA, length_take → aD, length_nil → bF, pairwise_cons → Ac
open Go.Value renaming string → aP
open Go.DataW renaming trod → rH, TrodAll → zH, trod_int → DS
open Bool renaming and_eq_true → aC
open Option.some renaming injEq → aj
open Ieee.Datum renaming quotient → zn
open List.cons renaming injEq → oR
open Int renaming fdiv_eq_ediv_of_nonneg → tE
namespace Go.Proofs.YtgfijddlkhkopaaGreat
open Go.Proofs.Tryz renaming prog → pg
open Go.aJ
set_option maxRecDepth 100000
set_option maxHeartbeats 4000000
theorem VE {α:Type} [Inhabited α] {enc:α->List Value} {k:Nat} (hk: ∀x,(enc x).length=k) (h0:0<k): ∀(l:List α) (t:Nat),t<l.length*k->((l.map enc).flatten)[t]? =some ((enc l[t/k]!)[t % k]!)
 |[],t,h=>by simp at h
 |x::l,t,h=>by
  rw[aZ,List.flatten_cons];by_cases ht:t<k
  ·rw[List.getElem?_append_left gQ,Nat.div_eq_of_lt ht,fq ht];simp_all
  ·obtain⟨s,rfl⟩: ∃s,t=s+k:=⟨t-k,by omega⟩;rw[List.getElem?_append_right gQ,hk,Nat.add_sub_cancel,Nat.add_div_right _ h0,Nat.add_mod_right];have hs:s<l.length*k:=by rw[aM,Nat.succ_mul] at h;omega
   rw[VE hk h0 l s hs];simp
class Wt (α:Type) where
 wt:α->Nat
 pos: ∀a,1<=wt a
instance:Wt Int:=⟨λ_=>1,λ_=>Nat.le_refl _⟩
def aav (n:Nat):Nat:=if n<18446744073709551616 then 1 else 1073741824
theorem ajI (n:Nat):1<=aav n:=by unfold aav;grind
instance:Wt Nat:=⟨aav,ajI⟩
instance:Wt Bool:=⟨λ_=>1,λ_=>Nat.le_refl _⟩
instance:Wt BA:=⟨λs=>s.size+1,λ_=>by omega⟩
instance {α:Type} [Wt α]:Wt (List α):=⟨λl=>(l.map Wt.wt).sum+1,λ_=>by omega⟩
theorem agD {α:Type} [Wt α]: ∀l:List α,l.length<=(l.map Wt.wt).sum
 |[]=>by simp
 |x::l=>by have:=agD l;have:=Wt.pos x;simp;omega
theorem FW {α:Type} [Wt α] {x:α} : ∀{l:List α},x∈l->Wt.wt x<=(l.map Wt.wt).sum
 |y::l,h=>by
  rcases List.mem_cons.1 h with rfl|h
  ·simp
  ·have:=FW h;simp;omega
def nF {α:Type} [Wt α] (t:TypeId) (rd:World->XS->List Value->α->Prop):Prop:=
 ∀(H:Type) (enc:TypeId×Value->H) (W:World) (fuel:Nat) (cs:List Value) (x:DataW H×List MemPlace),rH enc pg W 0 (λ_=>true) true fuel t cs=some x-> ∃a,rd W (bN W) cs a/\Wt.wt a<=Rows.uptoBulk x.1
variable {H : Type}
theorem CV (d:DataW H):1<=Rows.uptoBulk d:=by
 cases d with
 |lit l=>cases l<;>simp[Rows.uptoBulk]
 |nil=>simp[Rows.uptoBulk]
 |ptr d=>simp[Rows.uptoBulk]
 |slice elems spare=>simp[Rows.uptoBulk]
 |agg parts=>simp[Rows.uptoBulk]
 |iface t d=>simp[Rows.uptoBulk]
 |map entries=>simp[Rows.uptoBulk]
 |held h=>simp[Rows.uptoBulk]
abbrev rdI:World->XS->List Value->Int->Prop:=λ_ _ cs n=>cs=[I n]
abbrev aoz:World->XS->List Value->Nat->Prop:=λ_ _ cs n=>cs=[.float .f64 n]
abbrev rdB:World->XS->List Value->Bool->Prop:=λ_ _ cs n=>cs=[B n]
abbrev rdS:World->XS->List Value->BA->Prop:=λ_ _ cs n=>cs=[.string n]
abbrev Iu {α:Type} (k:Nat) (rd:World->XS->List Value->α->Prop):World->XS->List Value->List α->Prop:=λw X cs xs=> ∃v,cs=[v]/\fh w X k v rd xs
variable {t : TypeId}
theorem agC (ht:pg.underlying t=some (.int .i64)):nF t rdI:=λH enc W fuel cs x h=>by
 obtain⟨n,rfl,rfl,_⟩:=DS ht h;exact⟨n,rfl,CV _⟩
theorem ajJ (ht:pg.underlying t=some (.float .f64)):nF t aoz:=λH enc W fuel cs x h=>by
 cases fuel with
 |zero=>simp[rH] at h
 |succ n=>
  unfold rH at h;rw[ht] at h;split at h<;>simp_all
  obtain⟨⟨h1,h2⟩,h3⟩:=h;rename_i kk _ b he;subst he;have hb:b<18446744073709551616:=by simpa [Lit.wf] using h2
  show aav b<=_
  unfold aav;rw[if_pos hb];exact CV _
theorem alU (ht:pg.underlying t=some .bool):nF t rdB:=λH enc W fuel cs x h=>by
 obtain⟨n,rfl,rfl⟩:=DataW.trod_bool ht h;exact⟨n,rfl,CV _⟩
theorem aoA (ht:pg.underlying t=some .string):nF t rdS:=λH enc W fuel cs x h=>by
 obtain⟨s,rfl,rfl,_⟩:=DataW.trod_string ht h;refine⟨s,rfl,?_⟩
 show s.size+1<=s.data.toList.length+1
 simp_all
theorem ag3 {α:Type} [Wt α] (f:Nat->α) (D:Nat->DataW H): ∀l:List Nat,(∀i∈l,Wt.wt (f i)<=Rows.uptoBulk (D i))->((l.map f).map Wt.wt).sum<=Rows.uptoBulkAll (l.map D)
 |[],_=>by simp
 |i::l,h=>by
  have h1:=ag3 f D l λj hj=>h j (List.mem_cons_of_mem _ hj);have h2:=h i sQ;simp only[aZ,qI,Rows.uptoBulkAll];omega
variable {cs : List Value} {W : World}
theorem VF {a:Addr} {k:Nat} (h:W.cells? 0 a k=some cs):cs.length=k/\ ∀j v,cs[j]? =some v->W.cell? (a.add j)=some v:=by
 unfold World.cells? at h;rw[if_pos (aq _)] at h;have key: ∀(l:List Nat) (cs:List Value),(l.mapM (m:=Option) λi=>W.cell? (a.add i))=some cs->cs.length=l.length/\ ∀(j:Nat) (v:Value),cs[j]? =some v-> ∃i:Nat,l[j]? =some i/\W.cell? (a.add i)=some v:=by
  intro l
  induction l with
  |nil=>grind
  |cons i l ih=>
   intro cs h;simp only[List.mapM_cons,Option.bind_eq_bind,Option.bind_eq_some_iff,Option.pure_def,aj] at h;obtain⟨v,hv,vs,Vi,rfl⟩:=h;obtain⟨h1,h2⟩:=ih vs Vi;refine⟨by simp[h1],λj u hj=>?_⟩;cases j with
   |zero=>simp only[jY,aj] at hj;subst hj;exact⟨i,rfl,hv⟩
   |succ j=>simpa using h2 j u aQ
 obtain⟨h1,h2⟩:=key _ _ h;refine⟨by grind,λj v hj=>?_⟩;obtain⟨i,hi,hc⟩:=h2 j v hj;have:i=j:=by
  rw[List.getElem?_range (by simpa using (List.getElem?_eq_some_iff.1 hi).1)] at hi;simpa using hi.symm
 grind
theorem aaw (b o n:Nat):(⟨b,o,none⟩:Addr).add n=⟨b,o+n,none⟩:=by grind [Addr.add]
variable {e : Nat}
theorem qm {α:Type} [Wt α] {t k:Nat} {rd:World->XS->List Value->α->Prop} (ht:pg.underlying t=some (.slice e)) (hk:pg.cellsOf e=k) (h0:0<k) (he:nF e rd):nF t (Iu k rd):=λH enc W fuel cs x h=>by
 rcases Go.Deep.open_slice ht h with⟨rfl,rfl⟩|⟨a,len,cap,m,n,D,Pl,rfl,_,Yw,iH,hm,rfl,Mg⟩
 ·exact⟨[],⟨_,rfl,fh.nil _ _ _⟩,CV _⟩
 ·rw[hk] at Mg;have Us:m=cap:=by simpa using hm
  have SS: ∀i,i<len-> ∃(p:List Value×α),W.cells? 0 (a.add (i*k)) k=some p.1/\rd W (bN W) p.1 p.2/\Wt.wt p.2<=Rows.uptoBulk (D i):=λi hi=>by
   obtain⟨oh,h1,h2⟩:=Mg i zQ;obtain⟨b,h3,h4⟩:=he H enc W n oh _ h2;exact⟨⟨oh,b⟩,h1,h3,h4⟩
  by_cases hl0:len=0
  ·subst hl0;refine⟨[],⟨_,rfl,[],⟨by simp,by simp,some a,cap,rfl,by simp,by simp,by simp,ad iH dQ⟩,rfl,by simp⟩,CV _⟩
  obtain⟨p0,_⟩:=SS 0 zQ;have:Inhabited (List Value×α):=⟨p0⟩;obtain⟨f,hf⟩:=Go.Deep.choose_lt SS
  let row:Nat->List Value:=λi=>if i<len then(f i).1 else List.replicate k undef
  have br: ∀i,(row i).length=k:=λi=>by
   show(if i<len then(f i).1 else List.replicate k undef).length=k
   split
   ·exact(VF (hf i zQ).1).1
   ·simp
  have Ew: ∀i,i<len->row i=(f i).1:=λi hi=>if_pos hi;obtain⟨b,o,xh,c,ty,fr,hb,hc⟩: ∃b o,a=⟨b,o,none⟩/\ ∃c ty fr,W.heap[b]? =some (.cells c ty fr)/\ ∀i,i<len-> ∀j v,(row i)[j]? =some v->c[o+(i*k+j)]? =some v:=by
   obtain⟨b,o,sp⟩:=a;have h1: ∀i,i<len-> ∀j v,(row i)[j]? =some v->W.cell? (((⟨b,o,sp⟩:Addr).add (i*k)).add j)=some v:=λi hi j v hj=>by
    rw[Ew i hi] at hj;exact(VF (hf i hi).1).2 j v hj
   have hj: ∃v,(row 0)[0]? =some v:=⟨_,aS (by rw[br];exact h0)⟩;obtain⟨v,hv⟩:=hj;have h2:=h1 0 zQ 0 v hv;rw[Nat.zero_mul] at h2;change W.cell? ⟨b,o,sp⟩=some v at h2;unfold World.cell? at h2;split at h2
   ·rename_i c ty fr hb;have E6:sp=none:=by
     cases sp with
     |none=>rfl
     |some s=>simp at h2
    subst E6;refine⟨b,o,rfl,c,ty,fr,hb,λi hi j v hj=>?_⟩;have h3:=h1 i hi j v hj;rw[aaw,aaw] at h3;unfold World.cell? at h3;rw[hb] at h3;simpa [Nat.add_assoc] using h3
   ·cases h2
  subst xh;have cx:b<W.heap.size:=(Array.getElem?_eq_some_iff.1 hb).1;refine⟨(dw len).map λi=>(f i).2,⟨_,rfl,(dw len).map row,⟨?_,?_,some ⟨b,o,none⟩,cap,?_,λ_=>⟨b,o,rfl,cx,c,ty,fr,hb,λj v hj=>?_⟩,by simp,by simpa using Yw,ad iH dQ⟩,by simp,?_⟩,?_⟩
  ·intro r hr;obtain⟨i,_,rfl⟩:=List.mem_map.1 hr;exact br i
  ·have:cap<=2^63-1:=ad iH dQ;simp;omega
  ·simp
  ·have Ij:j<len*k:=by
    have h1:=(List.getElem?_eq_some_iff.1 hj).1;rw[lS (k:=k) (by intro r hr;obtain⟨i,_,rfl⟩:=List.mem_map.1 hr;exact br i)] at h1;simpa using h1
   have h2:=VE br h0 (dw len) j (by simpa using Ij);rw[hj] at h2;have hd:j/k<len:=by rw[xF h0];exact Ij
   have at7:j % k<k:=Nat.mod_lt _ h0;have hr:(dw len)[j/k]! =j/k:=by simp[hd]
   rw[hr] at h2;have hv:(row (j/k))[j % k]? =some v:=by
    rw[aS (by rw[br];omega)];rw[getElem!_pos (row (j/k)) (j % k) (by rw[br];omega)] at h2;exact h2.symm
   have:=hc (j/k) hd (j % k) v hv;rw[Nat.mul_comm,Nat.div_add_mod] at this;omega
  ·intro i r x hr hx;simp only[List.getElem?_map,Option.map_eq_some_iff] at hr hx;obtain⟨i1,h1,rfl⟩:=hr;obtain⟨i2,h2,rfl⟩:=hx;rw[h1] at h2;cases h2;have Rg:i1<len:=List.mem_range.1 (ax h1);rw[Ew i1 Rg];exact(hf i1 Rg).2.1
  ·have:=ag3 (λi=>(f i).2) D (dw len) λi hi=>(hf i (List.mem_range.1 hi)).2.2
   show((((dw len).map λi=>(f i).2).map Wt.wt).sum+1)<=_
   simp only[Rows.uptoBulk];omega
variable {v : Value} {X : XS} {w : World}
theorem _root_.Go.aJ.fh.xx {α:Type} {k:Nat} {enc:α->List Value} {xs:List α} (h:fh w X k v (λ_ _ l x=>l=enc x) xs):Sl w X k v (xs.map enc):=by
 obtain⟨rows,h1,h2,h3⟩:=h;have:rows=xs.map enc:=by
  apply List.ext_getElem gQ;intro i hi hj;have hx:i<xs.length:=by simpa using hj
  have:=h3 i rows[i] xs[i] (aS hi) (aS hx);simpa using this
 grind
def afk (P:Program):List Field->Nat->Bool
 |[],_=>true
 |f::l,o=>f.offset==o&&afk P l (o+P.cellsOf f.type)
def aax (P:Program) (t:TypeId) (Z5:List TypeId):Bool:=match P.underlying t with
 |some (.struct fs)=>fs.toList.map (·.type)==Z5&&afk P fs.toList 0&&P.cellsOf t==(Z5.map P.cellsOf).sum
 |_=>false
def aay {H:Type} (enc:TypeId×Value->H) (W:World) (n:Nat):List TypeId->List Value->List (DataW H)->Prop
 |[],cs,ds=>cs=[]/\ds=[]
 |t::ts,cs,ds=> ∃c1 c2 d ps Pb,cs=c1++c2/\ds=d::Pb/\rH enc pg W 0 (λ_=>true) true n t c1=some (d,ps)/\aay enc W n ts c2 Pb
theorem ac5 {enc:TypeId×Value->H} {n:Nat} : ∀(l:List Field) (xs:List (DataW H×List MemPlace)) (o:Nat),afk pg l o=true->cs.length=o+((l.map (·.type)).map pg.cellsOf).sum->
  xs.length=l.length->(∀(i:Nat) (f:Field),l[i]? =some f->rH enc pg W 0 (λ_=>true) true n f.type ((cs.drop f.offset).take (pg.cellsOf f.type))=xs[i]?)->aay enc W n (l.map (·.type)) (cs.drop o) (xs.map (·.1))
 |[],[],o,_,hl,_,_=>⟨ko gQ,rfl⟩
 |[],x::xs,o,_,_,hx,_=>by simp at hx
 |f::l,[],o,_,_,hx,_=>by simp at hx
 |f::l,x::xs,o,ho,hl,hx,h=>by
  simp only[afk,aC,beq_iff_eq] at ho;obtain⟨vu,jV⟩:=ho;have h0:=h 0 f rfl;simp only[jY] at h0;refine⟨(cs.drop o).take (pg.cellsOf f.type),cs.drop (o+pg.cellsOf f.type),x.1,x.2,xs.map (·.1),?_,rfl,?_,?_⟩
  ·rw[<-List.drop_drop,List.take_append_drop]
  ·grind
  ·refine ac5 l xs _ jV ?_ gQ λi g hg=>?_
   ·grind
   ·have:=h (i+1) g aQ;assumption
theorem jw (Z5:List TypeId) (kz:aax pg t Z5=true) {enc:TypeId×Value->H} {fuel:Nat} {x:DataW H×List MemPlace}
  (h:rH enc pg W 0 (λ_=>true) true fuel t cs=some x): ∃n ds,x.1= .agg ds/\aay enc W n Z5 cs ds:=by
 unfold aax at kz;split at kz
 ·rename_i fs OZ;simp only[aC,beq_iff_eq] at kz;obtain⟨⟨rfl,h2⟩,h3⟩:=kz;obtain⟨xs,n,_,rfl,hl,hx,hf⟩:=DataW.trod_struct OZ h;refine⟨n,_,rfl,?_⟩;have:=ac5 (cs:=cs) (enc:=enc) (W:=W) (n:=n) fs.toList xs 0 h2 zQ zQ λi f hi=>hf i f gQ;assumption
 ·cases kz
theorem bL {α:Type} [Wt α] {ts:List TypeId} {rd:World->XS->List Value->α->Prop} (hr:nF t rd) {enc:TypeId×Value->H} {n:Nat} {ds:List (DataW H)} (h:aay enc W n (t::ts) cs ds):
  ∃c1 c2 d Pb a,cs=c1++c2/\ds=d::Pb/\rd W (bN W) c1 a/\Wt.wt a<=Rows.uptoBulk d/\aay enc W n ts c2 Pb:=by
 obtain⟨c1,c2,d,ps,Pb,rfl,rfl,h1,h2⟩:=h;obtain⟨a,h3,h4⟩:=hr H enc W n c1 _ h1;exact⟨c1,c2,d,Pb,a,rfl,rfl,h3,h4,h2⟩
instance:Wt bX:=⟨λx=>4,λ_=>by omega⟩
def Qk (n:Int):Prop:= -9223372036854775808<=n/\n<9223372036854775808
instance (n:Int):Decidable (Qk n):=by unfold Qk;infer_instance
def ZL (x:bu):Nat:=if Qk x.dU/\Qk x.aN/\Qk x.sq then 4 else 1073741824
theorem Tu (x:bu):4<=ZL x:=by unfold ZL;grind
instance:Wt bu:=⟨ZL,λx=>ad dQ (Tu x)⟩
abbrev ase:World->XS->List Value->Int->Prop:=λ_ _ cs n=>cs=[I n]/\Qk n
theorem NA:nF 3 ase:=λH enc W fuel cs x h=>by
 have ht:pg.underlying 3=some (.int .i64):=by kernel_rfl
 obtain⟨n,e,e2,hw⟩:=DS ht h;subst e;refine⟨n,⟨rfl,?_⟩,CV _⟩;simp only[Lit.wf,aC,decide_eq_true_eq] at hw;have h1:IntKind.i64.min= -9223372036854775808:=by kernel_rfl
 have h2:IntKind.i64.max=9223372036854775807:=by kernel_rfl
 grind [Qk]
abbrev alV:World->XS->List Value->bX->Prop:=λ_ _ cs x=>cs=x.l
abbrev aqc:World->XS->List Value->bu->Prop:=λ_ _ cs x=>cs=x.l
def nW:nF 3 rdI:=agC kQ
def JE:nF 46 aoz:=ajJ kQ
def acQ:nF 4 rdB:=alU kQ
def FV:nF 9 rdS:=aoA kQ
theorem vT:nF 39 alV:=λH enc W fuel cs x h=>by
 obtain⟨n,ds,hx,hf⟩:=jw [3,3,3] kQ h;obtain⟨_,_,_,_,a1,rfl,rfl,rfl,w1,hf⟩:=bL nW hf;obtain⟨_,_,_,_,a2,rfl,rfl,rfl,w2,hf⟩:=bL nW hf;obtain⟨_,_,_,_,a3,rfl,rfl,rfl,w3,rfl,rfl⟩:=bL nW hf;refine⟨⟨a1,a2,a3⟩,rfl,?_⟩;rw[hx];simp only[Rows.uptoBulk,Rows.uptoBulkAll,Wt.wt] at*;omega
theorem ZE:nF 34 aqc:=λH enc W fuel cs x h=>by
 obtain⟨n,ds,hx,hf⟩:=jw [3,3,3] kQ h;obtain⟨_,_,_,_,a1,rfl,rfl,⟨rfl,q1⟩,w1,hf⟩:=bL NA hf;obtain⟨_,_,_,_,a2,rfl,rfl,⟨rfl,q2⟩,w2,hf⟩:=bL NA hf;obtain⟨_,_,_,_,a3,rfl,rfl,⟨rfl,q3⟩,w3,rfl,rfl⟩:=bL NA hf;refine⟨⟨a1,a2,a3⟩,rfl,?_⟩;have e:Wt.wt (⟨a1,a2,a3⟩:bu)=4:=if_pos ⟨q1,q2,q3⟩;rw[hx,e];simp only[Rows.uptoBulk,Rows.uptoBulkAll,Wt.wt] at*;omega
instance:Wt gK:=⟨λx=>Wt.wt x.kind+Wt.wt x.num+Wt.wt x.text+1,λ_=>by omega⟩
theorem Mu:nF 97 (λ_ _ cs (x:gK)=>cs=x.l):=λH enc W fuel cs x h=>by
 obtain⟨n,ds,hx,hf⟩:=jw [3,46,9] kQ h;obtain⟨_,_,_,_,a0,rfl,rfl,rfl,w0,hf⟩:=bL nW hf;obtain⟨_,_,_,_,a1,rfl,rfl,rfl,w1,hf⟩:=bL JE hf;obtain⟨_,_,_,_,a2,rfl,rfl,rfl,w2,rfl,rfl⟩:=bL FV hf;refine⟨⟨a0,a1,a2⟩,rfl,?_⟩;rw[hx];simp only[Rows.uptoBulk,Rows.uptoBulkAll,Wt.wt] at*;omega
instance:Wt KV:=⟨λx=>Wt.wt x.key+Wt.wt x.val+1,λ_=>by omega⟩
theorem aqd:nF 178 (λ_ _ cs (x:KV)=>cs=x.l):=λH enc W fuel cs x h=>by
 obtain⟨n,ds,hx,hf⟩:=jw [9,97] kQ h;obtain⟨_,_,_,_,a0,rfl,rfl,rfl,w0,hf⟩:=bL FV hf;obtain⟨_,_,_,_,a1,rfl,rfl,rfl,w1,rfl,rfl⟩:=bL Mu hf;refine⟨⟨a0,a1⟩,rfl,?_⟩;rw[hx];simp only[Rows.uptoBulk,Rows.uptoBulkAll,Wt.wt] at*;omega
def ZF:nF 42 (Iu 4 (λ_ _ cs (x:KV)=>cs=x.l)):=qm kQ kQ dQ aqd
theorem aoB:nF 211 (λ_ _ cs (x:KV)=>cs=x.l):=λH enc W fuel cs x h=>by
 obtain⟨n,ds,hx,hf⟩:=jw [9,97] kQ h;obtain⟨_,_,_,_,a0,rfl,rfl,rfl,w0,hf⟩:=bL FV hf;obtain⟨_,_,_,_,a1,rfl,rfl,rfl,w1,rfl,rfl⟩:=bL Mu hf;refine⟨⟨a0,a1⟩,rfl,?_⟩;rw[hx];simp only[Rows.uptoBulk,Rows.uptoBulkAll,Wt.wt] at*;omega
def alW:nF 71 (Iu 4 (λ_ _ cs (x:KV)=>cs=x.l)):=qm kQ kQ dQ aoB
instance:Wt pJ:=⟨λx=>Wt.wt x.aV+Wt.wt x.val+1,λ_=>by omega⟩
theorem aoC:nF 304 (λ_ _ cs (x:pJ)=>cs=x.l):=λH enc W fuel cs x h=>by
 obtain⟨n,ds,hx,hf⟩:=jw [39,97] kQ h;obtain⟨_,_,_,_,a0,rfl,rfl,rfl,w0,hf⟩:=bL vT hf;obtain⟨_,_,_,_,a1,rfl,rfl,rfl,w1,rfl,rfl⟩:=bL Mu hf;refine⟨⟨a0,a1⟩,rfl,?_⟩;rw[hx];simp only[Rows.uptoBulk,Rows.uptoBulkAll,Wt.wt] at*;omega
def aeI:nF 40 (Iu 1 rdS):=qm kQ kQ dQ FV
def alX:nF 300 (Iu 6 (λ_ _ cs (x:pJ)=>cs=x.l)):=qm kQ kQ dQ aoC
def aeJ:nF 43 (Iu 1 rdI):=qm kQ kQ dQ nW
instance:Wt kF:=⟨λx=>Wt.wt x.key+Wt.wt x.mS+1,λ_=>by omega⟩
theorem alY:nF 302 kF.rd:=λH enc W fuel cs x h=>by
 obtain⟨n,ds,hx,hf⟩:=jw [9,300] kQ h;obtain⟨_,_,_,_,a0,rfl,rfl,rfl,w0,hf⟩:=bL FV hf;obtain⟨_,_,_,_,a1,rfl,rfl,⟨v1,rfl,r1⟩,w1,rfl,rfl⟩:=bL alX hf;refine⟨⟨a0,a1⟩,⟨v1,rfl,r1.xx⟩,?_⟩;rw[hx];simp only[Rows.uptoBulk,Rows.uptoBulkAll,Wt.wt] at*;omega
def ajK:nF 49 (Iu 2 kF.rd):=qm kQ kQ dQ alY
instance:Wt gv:=⟨λx=>Wt.wt x.aH+Wt.wt x.aV+Wt.wt x.reads+Wt.wt x.writes+1,λ_=>by omega⟩
theorem alZ:nF 306 gv.rd:=λH enc W fuel cs x h=>by
 obtain⟨n,ds,hx,hf⟩:=jw [34,39,40,42] kQ h;obtain⟨_,_,_,_,a0,rfl,rfl,rfl,w0,hf⟩:=bL ZE hf;obtain⟨_,_,_,_,a1,rfl,rfl,rfl,w1,hf⟩:=bL vT hf;obtain⟨_,_,_,_,a2,rfl,rfl,⟨v2,rfl,r2⟩,w2,hf⟩:=bL aeI hf;obtain⟨_,_,_,_,a3,rfl,rfl,⟨v3,rfl,r3⟩,w3,rfl,rfl⟩:=bL ZF hf;refine⟨⟨a0,a1,a2,a3⟩,⟨v2,v3,rfl,r2.xx,r3.xx⟩,?_⟩;rw[hx];simp only[Rows.uptoBulk,Rows.uptoBulkAll,Wt.wt] at*;omega
def ajL:nF 50 (Iu 8 gv.rd):=qm kQ kQ dQ alZ
instance:Wt eY:=⟨λx=>Wt.wt x.id+Wt.wt x.iF+Wt.wt x.lo+Wt.wt x.hi+1,λ_=>by omega⟩
theorem agB:nF 48 (λ_ _ cs (x:eY)=>cs=x.l):=λH enc W fuel cs x h=>by
 obtain⟨n,ds,hx,hf⟩:=jw [3,3,46,46] kQ h;obtain⟨_,_,_,_,a0,rfl,rfl,rfl,w0,hf⟩:=bL nW hf;obtain⟨_,_,_,_,a1,rfl,rfl,rfl,w1,hf⟩:=bL nW hf;obtain⟨_,_,_,_,a2,rfl,rfl,rfl,w2,hf⟩:=bL JE hf;obtain⟨_,_,_,_,a3,rfl,rfl,rfl,w3,rfl,rfl⟩:=bL JE hf;refine⟨⟨a0,a1,a2,a3⟩,rfl,?_⟩;rw[hx];simp only[Rows.uptoBulk,Rows.uptoBulkAll,Wt.wt] at*;omega
instance:Wt State:=⟨λx=>Wt.wt x.range+Wt.wt x.floor+Wt.wt x.closed+Wt.wt x.iG+Wt.wt x.ib+1,λ_=>by omega⟩
theorem ZG:nF 52 State.rd:=λH enc W fuel cs x h=>by
 obtain⟨n,ds,hx,hf⟩:=jw [48,39,39,49,50] kQ h;obtain⟨_,_,_,_,a0,rfl,rfl,rfl,w0,hf⟩:=bL agB hf;obtain⟨_,_,_,_,a1,rfl,rfl,rfl,w1,hf⟩:=bL vT hf;obtain⟨_,_,_,_,a2,rfl,rfl,rfl,w2,hf⟩:=bL vT hf;obtain⟨_,_,_,_,a3,rfl,rfl,⟨v3,rfl,r3⟩,w3,hf⟩:=bL ajK hf;obtain⟨_,_,_,_,a4,rfl,rfl,⟨v4,rfl,r4⟩,w4,rfl,rfl⟩:=bL ajL hf;refine⟨⟨a0,a1,a2,a3,a4⟩,⟨v3,v4,rfl,r3,r4⟩,?_⟩;rw[hx];simp only[Rows.uptoBulk,Rows.uptoBulkAll,Wt.wt] at*;omega
instance:Wt Rec:=⟨λx=>Wt.wt x.kind+Wt.wt x.aH+Wt.wt x.aV+Wt.wt x.prev+Wt.wt x.jK+Wt.wt x.n+Wt.wt x.su+Wt.wt x.reads+Wt.wt x.writes+Wt.wt x.parts+Wt.wt x.xu+Wt.wt x.state+1,λ_=>by omega⟩
theorem ant:nF 73 Rec.rd:=λH enc W fuel cs x h=>by
 obtain⟨n,ds,hx,hf⟩:=jw [3,34,39,39,4,3,46,40,42,43,71,52] kQ h;obtain⟨_,_,_,_,a0,rfl,rfl,rfl,w0,hf⟩:=bL nW hf;obtain⟨_,_,_,_,a1,rfl,rfl,rfl,w1,hf⟩:=bL ZE hf;obtain⟨_,_,_,_,a2,rfl,rfl,rfl,w2,hf⟩:=bL vT hf;obtain⟨_,_,_,_,a3,rfl,rfl,rfl,w3,hf⟩:=bL vT hf;obtain⟨_,_,_,_,a4,rfl,rfl,rfl,w4,hf⟩:=bL acQ hf;obtain⟨_,_,_,_,a5,rfl,rfl,rfl,w5,hf⟩:=bL nW hf;obtain⟨_,_,_,_,a6,rfl,rfl,rfl,w6,hf⟩:=bL JE hf;obtain⟨_,_,_,_,a7,rfl,rfl,⟨v7,rfl,r7⟩,w7,hf⟩:=bL aeI hf;obtain⟨_,_,_,_,a8,rfl,rfl,⟨v8,rfl,r8⟩,w8,hf⟩:=bL ZF hf;obtain⟨_,_,_,_,a9,rfl,rfl,⟨v9,rfl,r9⟩,w9,hf⟩:=bL aeJ hf;obtain⟨_,_,_,_,a10,rfl,rfl,⟨v10,rfl,r10⟩,wC,hf⟩:=bL alW hf;obtain⟨_,_,_,_,a11,rfl,rfl,⟨vh,vp,rfl,asf,asg⟩,w11,rfl,rfl⟩:=bL ZG hf;refine⟨⟨a0,a1,a2,a3,a4,a5,a6,a7,a8,a9,a10,a11⟩,⟨v7,v8,v9,v10,vh,vp,rfl,r7.xx,r8.xx,r9.xx,r10.xx,asf,asg⟩,?_⟩;rw[hx];simp only[Rows.uptoBulk,Rows.uptoBulkAll,Wt.wt] at*;omega
open Go.ChangeShapes Go.WideShapes Go.ChangeAt Go.RowKit
variable {P : Program} {W' : World} {args : Array Value}
def TX (P:Program) (ts:List TypeId):Bool:=ts.all λt=>P.readableRec t&&decide (t<P.types.size)
theorem VG (hl:laidOutB P=true) {enc:TypeId×Value->H} (hb:Below W.heap.size W W'): ∀{ts:List TypeId} {vs:List Value} {ds:List (DataW H)} {ps:List MemPlace},TX P ts=true->(∀x∈ps,x.block<W.heap.size)->
  zH enc P W 0 (λ_=>true) true ts vs ds ps->zH enc P W' 0 (λb=>decide (b<W.heap.size)) true ts vs ds ps
 |[],[],[],_,_,_,h=>h
 |t::ts,v::vs,d::ds,ps,hr,cx,⟨p,q,h1,h2,GS⟩=>by
  unfold TX at hr;simp only[iY,aC,decide_eq_true_eq] at hr;subst GS;exact⟨p,q,Below.trod hl hr.1.1 hr.1.2 h1 hb λx hx=>cx x (List.mem_append_left _ hx),VG hl hb hr.2 (λx hx=>cx x (List.mem_append_right _ hx)) h2,rfl⟩
 |[],[],_::_,_,_,_,h=>h.elim
 |[],_::_,_,_,_,_,h=>h.elim
 |_::_,[],_,_,_,_,h=>h.elim
 |_::_,_::_,[],_,_,_,h=>h.elim
theorem ai5 (hl:laidOutB P=true) {tb:TypeId} (hub:P.underlying tb=some .bool) {enc:TypeId×Value->H} {f:Func} {s:ChangeSpec} {ds:List (DataW H)} {before:List MemPlace} (hv:s.vars=[]) (hrt:f.resultTypes= #[tb]) (hc:TX P f.params.toList=true)
  (hs:(s.fn H (ds++[])).results=[.lit (.bool true)]/\(s.fn H (ds++[])).args=ds/\(s.fn H (ds++[])).vars=[])
  (hW:DataW.Whole enc P f.params.toList s.vars false W args.toList ds [] before) (hA:zH enc P W 0 (λ_=>true) true f.params.toList args.toList ds before) (hx:Ext W W'):
  s.post enc P f false true false false W args (.bool true) W':=by
 have hb:=hx.below;refine⟨ds,[],before,[],before,[],hW,?_,?_,?_,Below.frame hb _,λh=>by cases h⟩
 ·rw[hrt,hs.1];exact trodAll_cons_mk (shut_bool hub _) trodAll_mk0
 ·rw[hs.2.1];exact VG hl hb hc (λx hx=>hW.lt x hx) hA
 ·rw[hs.2.2,hv];rfl
theorem ai6:ownKnob pg.godebug=none:=by rfl
theorem ZR:laidOutB pg=true:=by kernel_rfl
def bound {l:List (DataW H)} (hk:Rows.uptoSmall H l=true):Rows.uptoBulkAll l<=1048576:=of_decide_eq_true hk
attribute [local irreducible] un jn jg iN ld1 tW st1 mG lN pB sH pT J6 Fc gR ru aX lW lP eW eV eU eC eF gE np fin ix cj eP vS OA J7 J9 Ka Kb Kc OB OC Kd OD Gz GA Ke Kf Kg OE OF Kh
def bX.cmp (a b:bX):Int:=
 let p:=if a.wall≠b.wall then(a.wall,b.wall)else if a.dx≠b.dx then(a.dx,b.dx)else(a.node,b.node)
 if p.1<p.2 then-1 else if p.1>p.2 then 1 else 0
def bu.less (a b:bu):Bool:=
 if a.dU≠b.dU then a.dU<b.dU else if a.aN≠b.aN then a.aN<b.aN else a.sq<b.sq
def bu.may (a:bu):Bool:=a.dU>=1&&a.dU<=2&&a.aN>=1&&a.sq>=1
def bX.may (a:bX):Bool:=a.wall>=0&&a.wall<=281474976710656&&a.dx>=0&&a.dx<=65535&&a.node>=0&&a.node<=63
def bX.later (a b:bX):bX:=if a.cmp b<0 then b else a
def bX.Iq (a:bX):Bool:=a.may&&!decide (a= .zero)
theorem wE (a b:bX):Pure pg 155 #[a.v,b.v] (I (a.cmp b)):=by
 intro w0;refine TL.1 λhs=>?_;repeat' first|refine ao ?_;intros|refine cP ?_ ?_<;>intros|with_reducible apply cJ|(with_reducible refine fG hs ?_);simp_all [bX.cmp]<;>omega
theorem Eb (a:bu):Pure pg 213 #[a.v] (B a.may):=by
 intro w0;refine TN.1 λhs=>?_;repeat' first|refine ao ?_;intros|refine cP ?_ ?_<;>intros|(with_reducible refine fG hs ?_);simp_all [bu.may]<;>omega
theorem pO (a:bX):Pure pg 140 #[a.v] (B a.may):=by
 intro w0;refine afj.1 λhs=>?_;repeat' first|refine ao ?_;intros|refine cP ?_ ?_<;>intros|(with_reducible refine fG hs ?_);simp_all [bX.may]<;>omega
theorem O3 (a b:bX):Pure pg 104 #[a.v,b.v] (a.later b).v:=by
 intro w0;refine aab.1 λhs=>?_;repeat' first|refine ao ?_;intros|refine cP ?_ ?_<;>intros|(refine pH (wE _ _) hs ?_;intro w X hs)|(with_reducible refine fG hs ?_);simp_all [bX.later]<;>grind
theorem Wx (n:Int):Pure pg 338 #[I n] (B (decide (n>=1)&&decide (n<=12))):=by
 intro w0;refine TT.1 λhs=>?_;repeat' first|refine ao ?_;intros|refine cP ?_ ?_<;>intros|(with_reducible refine fG hs ?_);simp_all<;>omega
theorem Ky (a:bX):Pure pg 339 #[a.v] (B a.Iq):=by
 intro w0;refine TU.1 λhs=>?_;repeat' first|refine ao ?_;intros|(with_reducible refine ag1 _ ?_ ?_ ?_);(· kernel_rfl);all_goals intros|(refine kn (pO _) hs ?_ ?_<;>intro _ w X hs)|(with_reducible refine fG hs ?_);simp_all [bX.Iq]
def bX.TY (c:Bool) (a:bX):Bool:=if c then a.Iq else decide (a= .zero)
theorem TZ (c:Bool) (a:bX):Pure pg 336 #[B c,a.v] (B (a.TY c)):=by
 intro w0;refine Su.1 λhs=>?_;repeat' first|refine ao ?_;intros|refine cP ?_ ?_<;>intros|(with_reducible refine Gf _ ?_ ?_ ?_);(· kernel_rfl);all_goals intros|(refine kn (Ky _) hs ?_ ?_<;>intro _ w X hs)|(with_reducible refine fG hs ?_);simp_all [bX.TY]
theorem AR (x:Nat) (wa:World):(callFunc 144 #[.float .f64 x]).run pg wa= .ok (.value (.int .u64 x)) wa:=by kernel_rfl
theorem Ix (a b:Nat):Pure pg 91 #[.float .f64 a,.float .f64 b] (B (decide (a=b))):=by
 intro w0;refine Sd.1 λhs=>?_;repeat' first|refine ao ?_;intros|refine cP ?_ ?_<;>intros|(with_reducible refine fG hs ?_);simp_all [Int.ofNat_inj]|((with_reducible refine DJ (AR _) hs.has ?_);intro w X ay;replace hs:=hs.trans ay)
theorem RY (a b:eY):Pure pg 73 #[a.v,b.v] (B (decide (a=b))):=by
 intro w0;refine Qb.1 λhs=>?_;repeat' first|refine ao ?_;intros|refine cP ?_ ?_<;>intros|with_reducible apply cJ|(refine kn (Ix _ _) hs ?_ ?_<;>intro _ w X hs)|(with_reducible refine fG hs ?_);simp_all [eY.ext_iff]
variable {a : Value}
theorem Ty {b:Value} {xs ys:List Int} (ha:Sl w X 1 a (xs.map I1)) (hb:Sl w X 1 b (ys.map I1)):
  Ct pg 21 #[a,b] w X nX λv _ _=>v=B (decide (xs=ys)):=by
  intro w0 hk;replace ha:=ha.mv hk.cd;replace hb:=hb.mv hk.cd;have kV:=ha.gN;refine Sa.1 λhs=>?_;repeat' first|refine ao ?_;intros|refine cP ?_ ?_<;>intros|(refine qr ?_;intro wa hk;(simp only[B,Value.bool.injEq];symm;rw[decide_eq_false_iff_not];rintro rfl;omega))
  have hlen:xs.length=ys.length:=by omega
  refine eI (λn a w X=> ∃i:Nat,a=I (i:Nat)/\n=(xs).length-i/\i<=(xs).length/\ai (bN w0) w0 X w/\(xs=ys↔xs.drop i=ys.drop i)) (xs).length ⟨0,rfl,rfl,aq _,hs,by simp⟩ ?_;rintro n a w X ⟨i,rfl,rfl,hi,hs,hw⟩;rcases dD (xs) i with⟨cx,x,hx,hd⟩|⟨dA,hd⟩
  ·obtain⟨y,hy,hdy⟩:=ac0 (xs:=ys) (i:=i) zQ;repeat' first|refine aL ?_;intros|refine cP ?_ ?_<;>intros|(refine qr ?_;intro wa hk;(simp_all [decide_true]))|((with_reducible refine dS ((xs).length-(i+1)) ?_ ?_);omega;exact⟨i+1,by simp,rfl,by omega,hs,by simp_all [decide_true]⟩)
  ·have hdy:=ko (l:=ys) (i:=i) zQ;repeat' first|refine aL ?_;intros|(refine qr ?_;intro wa hk;simp_all)
abbrev EF:Value->World->World->Prop:=λv _ _=> ∃n:Int,v=I n
theorem km (a b c:Int) (w:World) (X:XS):Ct pg 65 #[I a,I b,I c] w X nX EF:=by
 intro w0 hk;refine TE.1 λhs=>?_;repeat' first|refine ao ?_;intros|refine cP ?_ ?_<;>intros|(refine qr ?_;intro wa hk;exact⟨_,rfl⟩)|with_reducible apply od
variable {most : Int}
theorem vP {xs:List BA} (ha:Sl w X 1 a (xs.map S1)):
  Ct pg 66 #[a,I most] w X nX EF:=by
 intro w0 hk;replace ha:=ha.mv hk.cd;have kV:=ha.gN;refine IA.1 λhs=>?_;refine gO (λn a b w X=> ∃(i:Nat) (s:Int),a=I i/\b=I s/\n=(xs).length-i/\i<=(xs).length/\ai (bN w0) w0 X w) (xs).length ⟨0,_,rfl,rfl,rfl,aq _,hs⟩ ?_;rintro n a b w X ⟨i,s,rfl,rfl,rfl,hi,hs⟩;repeat' first|refine ao ?_;intros|refine cP ?_ ?_<;>intros|(refine qr ?_;intro wa hk;exact⟨_,rfl⟩)|(refine yp (km  _ _ _ _ _) hs ?_;intro n1 w X hs)|((with_reducible refine fZ ((xs).length-(i+1)) ?_ ?_);omega;exact⟨i+1,_,by simp,rfl,rfl,by omega,hs⟩)|with_reducible apply od
variable {xs : List KV}
theorem uF (ha:Sl w X 4 a (xs.map KV.l)):
  Ct pg 68 #[a,I most] w X nX EF:=by
 intro w0 hk;replace ha:=ha.mv hk.cd;have kV:=ha.gN;refine HG.1 λhs=>?_;refine gO (λn a b w X=> ∃(i:Nat) (s:Int),a=I i/\b=I s/\n=(xs).length-i/\i<=(xs).length/\ai (bN w0) w0 X w) (xs).length ⟨0,_,rfl,rfl,rfl,aq _,hs⟩ ?_;rintro n a b w X ⟨i,s,rfl,rfl,rfl,hi,hs⟩;repeat' first|refine ao ?_;intros|refine cP ?_ ?_<;>intros|(refine qr ?_;intro wa hk;exact⟨_,rfl⟩)|(refine yp (km  _ _ _ _ _) hs ?_;intro n1 w X hs)|((with_reducible refine fZ ((xs).length-(i+1)) ?_ ?_);omega;exact⟨i+1,_,by simp,rfl,rfl,by omega,hs⟩)|with_reducible apply od
theorem Gq {xs:List gv} (ha:qK w X a xs):
  Ct pg 117 #[a,I most] w X nX EF:=by
 intro w0 hk;replace ha:=ha.mv hk.cd;have kV:=ha.len;refine Ge.1 λhs=>?_;refine gO (λn a b w X=> ∃(i:Nat) (s:Int),a=I i/\b=I s/\n=(xs).length-i/\i<=(xs).length/\ai (bN w0) w0 X w) (xs).length ⟨0,_,rfl,rfl,rfl,aq _,hs⟩ ?_;rintro n a b w X ⟨i,s,rfl,rfl,rfl,hi,hs⟩;repeat' first|refine ao ?_;intros|refine cP ?_ ?_<;>intros|((with_reducible apply Xi);assumption;(try (case hz=>rfl));(case hr=>exact qR);(try (case hz=>omega));(case ht=>kernel_rfl);(case hs=>kernel_rfl);intros)|(refine qr ?_;intro wa hk;exact⟨_,rfl⟩)|(refine yp (km  _ _ _ _ _) hs ?_;intro n1 w X hs)|(refine yp (vP  qA) hs ?_;intro n1 w X hs)|(refine yp (uF  qA) hs ?_;intro n1 w X hs)|((with_reducible refine fZ ((xs).length-(i+1)) ?_ ?_);omega;exact⟨i+1,_,by simp,rfl,rfl,by omega,hs⟩)|with_reducible apply od
theorem Gg {xs:List kF} (ha:qL w X a xs):
  Ct pg 116 #[a,I most] w X nX EF:=by
 intro w0 hk;replace ha:=ha.mv hk.cd;have kV:=ha.len;refine EI.1 λhs=>?_;refine BE (λn a _ b w X=> ∃(i:Nat) (s:Int),a=I i/\b=I s/\n=xs.length-i/\i<=xs.length/\ai (bN w0) w0 X w) xs.length ⟨0,_,rfl,rfl,rfl,aq _,hs⟩ ?_;rintro n a a2 b w X ⟨i,s,rfl,rfl,rfl,hi,hs⟩;repeat' first|refine ao ?_;intros|refine cP ?_ ?_<;>intros|((with_reducible apply Sw);assumption;(try (case hz=>rfl));(case hr=>exact qR);(try (case hz=>omega));(case ht=>kernel_rfl);(case hs=>kernel_rfl);intros)|(refine qr ?_;intro wa hk;exact⟨_,rfl⟩)|(refine yp (km  _ _ _ _ _) hs ?_;intro n1 w X hs)|with_reducible apply od
 have cx:i<xs.length:=by omega
 obtain⟨x,hx,hd⟩:=ac0 cx;refine gO (λn a b w X=> ∃(k:Nat) (s:Int),a=I k/\b=I s/\n=x.mS.length-k/\k<=x.mS.length/\ai (bN w0) w0 X w) x.mS.length ⟨0,_,rfl,rfl,rfl,aq _,hs⟩ ?_;rintro n a b w X ⟨k,s,rfl,rfl,rfl,hk,hs⟩;repeat' first|refine ao ?_;intros|refine cP ?_ ?_<;>intros|((with_reducible apply Sw);assumption;(try (case hz=>rfl));(case hr=>exact qR);(try (case hz=>omega));(case ht=>kernel_rfl);(case hs=>kernel_rfl);intros)|(refine yp (km  _ _ _ _ _) hs ?_;intro n1 w X hs)|((with_reducible refine zU ((xs).length-(i+1)) ?_ ?_);omega;exact⟨i+1,_,by simp,rfl,rfl,by omega,hs⟩)|((with_reducible refine fZ (x.mS.length-(k+1)) ?_ ?_);omega;exact⟨k+1,_,by simp,rfl,rfl,by omega,hs⟩)|(have hl9:=Sl.gN ‹Sl w0 (bN w0) 6 _ (List.map pJ.l x.mS)›;(with_reducible apply akG);omega;omega)|with_reducible apply od
variable {vh vp : Value} {s : State}
theorem BU (ha:qL w X vh s.iG) (hb:qK w X vp s.ib):
  Ct pg 70 #[s.v vh vp,I most] w X nX EF:=by
 intro w0 hk;replace ha:=ha.mv hk.cd;replace hb:=hb.mv hk.cd;refine IB.1 λhs=>?_;repeat' first|(refine qr ?_;intro wa hk;exact⟨_,rfl⟩)|(refine yp (km  _ _ _ _ _) hs ?_;intro n1 w X hs)|(refine yp (Gg  qA) hs ?_;intro n1 w X hs)|(refine yp (Gq  qA) hs ?_;intro n1 w X hs)
variable {vd vq vr vw : Value} {r : Rec}
theorem Mn (ha:r.at w X vr vw vp vq vh vd):
  Ct pg 69 #[r.v vr vw vp vq vh vd,I most] w X nX EF:=by
 intro w0 hk;obtain⟨h1,h2,h3,h4,h5,h6⟩:=ha.mv hk.cd;have kV:=h4.gN;refine KS.1 λhs=>?_;repeat' first|refine ao ?_;intros|(refine yp (km  _ _ _ _ _) hs ?_;intro n1 w X hs)|(refine yp (vP  qA) hs ?_;intro n1 w X hs)|(refine yp (uF  qA) hs ?_;intro n1 w X hs)|with_reducible apply od
 refine gO (λn a b w X=> ∃(i:Nat) (s:Int),a=I i/\b=I s/\n=(r.xu).length-i/\i<=(r.xu).length/\ai (bN w0) w0 X w) (r.xu).length ⟨0,_,rfl,rfl,rfl,aq _,hs⟩ ?_;rintro n a b w X ⟨i,s,rfl,rfl,rfl,hi,hs⟩;repeat' first|refine ao ?_;intros|refine cP ?_ ?_<;>intros|(refine qr ?_;intro wa hk;exact⟨_,rfl⟩)|(refine yp (km  _ _ _ _ _) hs ?_;intro n1 w X hs)|(refine yp (BU  (s:=r.state) qA qA) hs ?_;intro n1 w X hs)|((with_reducible refine fZ ((r.xu).length-(i+1)) ?_ ?_);omega;exact⟨i+1,_,by simp,rfl,rfl,by omega,hs⟩)|with_reducible apply od
def iM (s:BA):Bool:=decide ((s.size:Int)>=1)&&decide ((s.size:Int)<=24)
theorem lz (s:BA):Pure pg 162 #[.string s] (B (iM s)):=by
 intro w0;refine aad.1 λhs=>?_;repeat' first|refine ao ?_;intros|refine cP ?_ ?_<;>intros|(with_reducible refine fG hs ?_);simp_all [iM]<;>omega
theorem JF (r:eY) (x:Nat):Pure pg 222 #[r.v,.float .f64 x] (B ((Kv x r.lo||pK x r.lo)&&qB x r.hi)):=by
 intro w0;refine abW.1 λhs=>?_;repeat' first|refine ao ?_;intros|refine cP ?_ ?_<;>intros|(with_reducible refine fG hs ?_);(simp_all<;>grind)
def canon (x:Nat):Nat:=if pK x x then x else 9221120237041090560
theorem rD (x:Nat):Pure pg 347 #[.float .f64 x] (.float .f64 (canon x)):=by
 intro w0;refine aas.1 λhs=>?_;repeat' first|refine ao ?_;intros|refine cP ?_ ?_<;>intros|(with_reducible refine fG hs ?_);simp_all [canon]|((with_reducible refine DJ (v:=.float .f64 9221120237041090560) ?_ hs.has ?_);(· intro wa;kernel_rfl);intro w X ay;replace hs:=hs.trans ay)
theorem EM (x:Nat):Pure pg 305 #[.float .f64 x] (.int .u64 (canon x)):=by
 intro w0;refine abZ.1 λhs=>?_;repeat' first|(refine pH (rD _) hs ?_;intro w X hs)|(with_reducible refine fG hs ?_);rfl|((with_reducible refine DJ (AR _) hs.has ?_);intro w X ay;replace hs:=hs.trans ay)
def land (a b:Int):Int:=IntKind.u64.wrap (aF IntKind.u64.bits a&&& aF IntKind.u64.bits b).toNat
def JG (a b:Int):Int:=IntKind.u64.wrap (aF IntKind.u64.bits a^^^aF IntKind.u64.bits b).toNat
def JH (a n:Int):Int:=a.fdiv (2^min n.toNat IntKind.u64.bits)
def aaz (a b:Int):Int:=IntKind.u64.wrap (a*b)
variable {b : Int} {N : Value -> Prop}
def ag4 {a:Int} (h:N (.int .u64 (land a b))):aX P X w (binOp .and t (.int .u64 a) (.int .u64 b)) N:=Nk h
def Sx {a:Int} (h:N (.int .u64 (JG a b))):aX P X w (binOp .xor t (.int .u64 a) (.int .u64 b)) N:=SY h
def MQ {a:Int} (hb: ¬b<0) (h:N (.int .u64 (JH a b))):aX P X w (binOp .shr t (.int .u64 a) (.int .u64 b)) N:=ET hb h
def aaA {a:Int} (h:N (.int .u64 (aaz a b))):aX P X w (binOp .mul t (.int .u64 a) (.int .u64 b)) N:=SU h
def cls (x:Nat):Int:=
 let b:Int:=canon x
 let e:=land (JH b 52) 2047
 let f:=land b 4503599627370495
 if e=2047/\f≠0 then 0 else
  let k:=if e=2047 then 8 else if e>0 then 7 else if f>0 then 6 else 5
  if land b 9223372036854775808≠0 then 9-k else k
theorem HM (x:Nat):Pure pg 307 #[.float .f64 x] (I (cls x)):=by
 intro w0;refine aaq.1 λhs=>?_;repeat' first|refine ao ?_;intros|refine cP ?_ ?_<;>intros|with_reducible apply cJ|(refine pH (EM _) hs ?_;intro w X hs)|(with_reducible refine fG hs ?_);(simp only[cls] at*;grind)|with_reducible apply ag4|(with_reducible apply MQ);omega
def G9:Nat:=4607182418800017408
def IC (x:Nat):Bool:=decide (cls x>=5)&&(qB x G9||pK x G9)
theorem Kz (x:Nat):Pure pg 252 #[.float .f64 x] (B (IC x)):=by
 intro w0;refine TO.1 λhs=>?_;repeat' first|refine ao ?_;intros|refine cP ?_ ?_<;>intros|(refine pH (HM _) hs ?_;intro w X hs)|(with_reducible refine fG hs ?_);(simp_all [IC,G9]<;>grind)
def EZ (x:Nat):Nat×Int:=if cls x=4 then(0,0)else if IC x then(x,0)else(0,1)
theorem Wy (x:Nat):Pure pg 337 #[.float .f64 x] (.tuple #[.float .f64 (EZ x).1,I (EZ x).2]):=by
 intro w0;refine TS.1 λhs=>?_;repeat' first|refine ao ?_;intros|refine cP ?_ ?_<;>intros|(refine kn (Kz _) hs ?_ ?_<;>intro _ w X hs)|(refine pH (HM _) hs ?_;intro w X hs)|(with_reducible refine fG hs ?_);(simp_all [EZ]<;>grind)
def eY.may (r:eY):Bool:=decide (r.id>=1)&&decide (r.id<=12)&&decide (r.iF>=0)&&IC r.lo&&IC r.hi&&qB r.lo r.hi
theorem wI (r:eY):Pure pg 177 #[r.v] (B r.may):=by
 intro w0;refine aaf.1 λhs=>?_;repeat' first|refine ao ?_;intros|refine cP ?_ ?_<;>intros|with_reducible apply cJ|(refine kn (Kz _) hs ?_ ?_<;>intro _ w X hs)|(with_reducible refine fG hs ?_);(simp_all [eY.may]<;>omega)
def gK.may (v:gK):Bool:=
 if v.kind=0 then decide (v.num=0)&&decide (v.text=⟨#[]⟩)
 else if v.kind=1 then decide (v.text=⟨#[]⟩)&&decide (v.num=canon v.num)
 else if v.kind=2 then decide (v.num=0)&&decide ((v.text.size:Int)<=64)
 else false
theorem mu (v:gK):Pure pg 229 #[v.v] (B v.may):=by
 intro w0;refine aak.1 λhs=>?_;repeat' first|refine ao ?_;intros|refine cP ?_ ?_<;>intros|with_reducible apply cJ|(refine pH (EM _) hs ?_;intro w X hs)|(with_reducible refine fG hs ?_);(simp_all [gK.may]<;>omega)|((with_reducible refine DJ (AR _) hs.has ?_);intro w X ay;replace hs:=hs.trans ay)
def Rq (h:Int) (b:UInt8):Int:=aaz (JG h (IntKind.u64.wrap b.toNat)) 1099511628211
def aoD (h:Int):Nat->Int
 |0=>h
 |1=>aaz (JG h (JH h 33)) 18397679294719823053
 |_=>let g:=aaz (JG h (JH h 33)) 18397679294719823053;aaz (JG g (JH g 33)) 14181476777654086739
def MR (s:BA):Int:=let h:=aoD (s.data.toList.foldl Rq 14695981039346656037) 2;JG h (JH h 33)
theorem aaB (s:BA) (ash:s.size<=2^62):Pure pg 294 #[.string s] (.int .u64 (MR s)):=by
 intro w0;have gf:=LQ s;refine Ws.1 λhs=>?_;repeat' refine ao ?_;intros
 refine gO (λn a b w X=> ∃(i:Nat) (h:Int),a=I i/\b= .int .u64 h/\n=s.data.toList.length-i/\i<=s.data.toList.length/\ai (bN w0) w0 X w/\
  s.data.toList.foldl Rq 14695981039346656037=(s.data.toList.drop i).foldl Rq h) s.data.toList.length ?_ ?_
 ·exact⟨0,14695981039346656037,rfl,rfl,rfl,aq _,hs,by rw[tD]⟩
 rintro n a b w X ⟨i,h,rfl,rfl,rfl,hi,hs,hw⟩;rcases dD s.data.toList i with⟨cx,x,hx,hd⟩|⟨dA,hd⟩
 ·repeat' first|refine aL ?_;intros|with_reducible (first|apply Sx|apply aaA)|((with_reducible refine fZ ((s.data.toList).length-(i+1)) ?_ ?_);omega;exact⟨i+1,_,by simp,rfl,rfl,by omega,hs,by rw[hw,hd,iA];rfl⟩)
 ·repeat' refine aL ?_;intros
  rw[hd] at hw;refine gO (λn a b w X=> ∃(i:Nat),a=I i/\b= .int .u64 (aoD h i)/\n=2-i/\i<=2/\ai (bN w0) w0 X w) 2 ⟨0,rfl,rfl,rfl,aq _,hs⟩ ?_;rintro n a b w X ⟨i,rfl,rfl,rfl,hi,hs⟩;obtain rfl|rfl|rfl:i=0\/i=1\/i=2:=by omega
  ·repeat' first|refine aL ?_;intros|(with_reducible apply Sx)|(with_reducible apply aaA)|(with_reducible apply MQ);omega|(with_reducible refine fZ 1 ?_ ?_);omega;exact⟨1,rfl,rfl,rfl,by omega,hs⟩
  ·repeat' first|refine aL ?_;intros|(with_reducible apply Sx)|(with_reducible apply aaA)|(with_reducible apply MQ);omega|(with_reducible refine fZ 0 ?_ ?_);omega;exact⟨2,rfl,rfl,rfl,by omega,hs⟩
  ·repeat' first|refine aL ?_;intros|(with_reducible refine fG hs ?_);(simp only[MR,hw];rfl)|(with_reducible apply Sx)|(with_reducible apply MQ);omega
theorem afl (n:Int): ∃r,floatBits .quo .f64 (floatOfInt .f64 n) 4845873199050653696=some r:=by
 have hn:(Ieee.double.read (floatOfInt .f64 n)).isNaN=false:=ZY _ _ _ _;have hd:Ieee.double.read 4845873199050653696= .number false 4503599627370496 1:=by kernel_rfl
 show∃r,((Ieee.double.read (floatOfInt .f64 n)).quotient _ (Ieee.double.read 4845873199050653696)).map _=some r
 rw[hd];cases hr:Ieee.double.read (floatOfInt .f64 n)with
 |number s m p=>simp[zn]
 |infinity s=>simp[zn]
 |nan s f=>rw[hr] at hn;simp[Ieee.Datum.isNaN] at hn
def placeOf (s:BA):Nat:=(floatBits .quo .f64 (floatOfInt .f64 (JH (MR s) 11)) 4845873199050653696).getD 0
theorem afm (s:BA):floatBits .quo .f64 (floatOfInt .f64 (JH (MR s) 11)) 4845873199050653696=some (placeOf s):=by
 obtain⟨r,hr⟩:=afl (JH (MR s) 11);rw[placeOf,hr];rfl
theorem JI (s:BA) (ash:s.size<=2^62):Pure pg 223 #[.string s] (.float .f64 (placeOf s)):=by
 intro w0;refine abX.1 λhs=>?_;repeat' first|refine ao ?_;intros|(refine pH (aaB _ (by first|assumption|omega)) hs ?_;intro w X hs)|(with_reducible refine fG hs ?_);rfl|(with_reducible apply MQ);omega|(with_reducible apply apU);(· exact afm s)
def rising (l:List BA):Bool:=chain iM z7 none l
def yX (l:List BA):Bool:=rising l&&decide ((l.length:Int)<=16)
theorem ab2 {xs:List BA} (ha:Sl w X 1 a (xs.map S1)):
  Ct pg 295 #[a] w X nX λv _ _=>v=B (yX xs):=by
 intro w0 hk;replace ha:=ha.mv hk.cd;have kV:=ha.gN;refine aap.1 λhs=>?_;repeat' refine ao ?_;intros
 refine eI (λn a w X=> ∃i:Nat,a=I (i:Nat)/\n=(xs).length-i/\i<=(xs).length/\ai (bN w0) w0 X w/\chain iM z7 none xs=chain iM z7 (uN xs i) (xs.drop i)) (xs).length ⟨0,rfl,rfl,aq _,hs,by simp[uN]⟩ ?_;rintro n a w X ⟨i,rfl,rfl,hi,hs,hw⟩;rcases dD (xs) i with⟨cx,x,hx,hd⟩|⟨dA,hd⟩
 ·rcases NI cx with⟨h0,hp⟩|⟨h0,y,hy,hp⟩<;>rw[hp,hd,chain] at hw<;>clear hd
  ·repeat' first|refine aL ?_;intros|(refine kn (lz _) hs ?_ ?_<;>intro _ w X hs)|(refine qr ?_;intro wa hk;simp_all [yX,rising,chain])|((with_reducible refine dS ((xs).length-(i+1)) ?_ ?_);omega;exact⟨i+1,by simp,rfl,by omega,hs,by rw[hw,rB hx];simp[*]⟩)
  ·repeat' first|refine aL ?_;intros|refine cP ?_ ?_<;>intros|(refine kn (lz _) hs ?_ ?_<;>intro _ w X hs)|(refine qr ?_;intro wa hk;simp_all [yX,rising,chain])|((with_reducible refine dS ((xs).length-(i+1)) ?_ ?_);omega;exact⟨i+1,by simp,rfl,by omega,hs,by rw[hw,rB hx];simp[*]⟩)
 ·repeat' first|refine aL ?_;intros|refine cP ?_ ?_<;>intros|(refine qr ?_;intro wa hk;simp_all [yX,rising,chain]<;>omega)
def MS (l:List KV):Bool:=yX (l.map (·.key))&&l.all (·.val.may)
theorem Ql (ha:Sl w X 4 a (xs.map KV.l)) (hb:xs.length<=2^40):
  Ct pg 296 #[a] w X nX λv wa w'=>Own w' (made wa w') wa.heap.size 9 1 v ((xs.map (·.key)).map S1):=by
 intro w0 hk;replace ha:=ha.mv hk.cd;have kV:=ha.gN;refine Oi.1 λhs=>?_;repeat' refine ao ?_;intros
 refine gO (λn a b w X=> ∃i:Nat,a=I i/\n=xs.length-i/\i<=xs.length/\ai (bN w0) w0 X w/\Own w X w0.heap.size 9 1 b (((xs.take i).map (·.key)).map S1)) xs.length ⟨0,rfl,rfl,aq _,hs,Own.nil _ _ _ _ _⟩ ?_;rintro n a b w X ⟨i,rfl,rfl,hi,hs,ho⟩;rcases dD (xs) i with⟨cx,x,hx,hd⟩|⟨dA,hd⟩
 ·repeat' first|refine aL ?_;intros|((with_reducible apply Nq);(case own=>first|assumption|exact Own.since aQ aQ);(case hs=>assumption);(case h0=>first|exact λ_ h=>h|exact gn.has);(case he=>kernel_rfl);(case hk=>rfl);(case ho=>first|rfl|assumption);(case hb=>(simp only[af,aD,aa,aM,bF];omega));(case hl=>(simp only[af,aD,aa,aM,bF];omega));intro acc w X ay ho hc dg;replace hs:=ay)|((with_reducible refine fZ ((xs).length-(i+1)) ?_ ?_);omega;exact⟨i+1,by simp,rfl,by omega,hs,by rw[cn,hx];simpa using ho⟩)
 ·repeat' first|refine aL ?_;intros|(refine qr ?_;intro wa hk;(rw[aB dA] at ho;exact(ho.kp hk).tight))
def gv.err (p:gv):Int:=
 if !p.aH.may then 4 else if !p.aV.may||decide (p.aV= .zero)then 17
 else if !yX p.reads||!yX (p.writes.map (·.key))then 4
 else if p.writes.all (·.val.may)then 0 else 4
variable {p : gv}
theorem zI (h1:Sl w X 1 vr (p.reads.map S1)) (h2:Sl w X 4 vw (p.writes.map KV.l)) (hb:p.writes.length<=2^40):
  Ct pg 224 #[p.v vr vw] w X nX λv _ _=>v=I p.err:=by
 intro w0 hk;replace h1:=h1.mv hk.cd;replace h2:=h2.mv hk.cd;refine MM.1 λhs=>?_;repeat' first|refine ao ?_;intros|(with_reducible refine Gf _ ?_ ?_ ?_);(· kernel_rfl);all_goals intros|with_reducible apply cJ|(refine kn (pO _) hs ?_ ?_<;>intro _ w X hs)|(refine kn (Eb _) hs ?_ ?_<;>intro _ w X hs)|(refine qr ?_;intro wa hk;simp_all [gv.err])|(refine qv (ab2  qA) hs ?_ ?_<;>intro _ w X hs)|(refine cA (Ql  qA qA) kQ hs.has ?_;rintro v1 wa w X vu hle gu ay;have gy:=ad hs.kp.size hle;replace hs:=hs.trans ay;replace vu:=vu.up gu gy)
 refine eI (λn a w X=> ∃i:Nat,a=I (i:Nat)/\n=(p.writes).length-i/\i<=(p.writes).length/\ai (bN w0) w0 X w/\p.writes.all (·.val.may)=(p.writes.drop i).all (·.val.may)) (p.writes).length ⟨0,rfl,rfl,aq _,hs,by simp⟩ ?_;rintro n a w X ⟨i,rfl,rfl,hi,hs,hw⟩;rcases dD (p.writes) i with⟨cx,x,hx,hd⟩|⟨dA,hd⟩
 ·repeat' first|refine aL ?_;intros|(refine kn (mu _) hs ?_ ?_<;>intro _ w X hs)|(refine qr ?_;intro wa hk;simp_all [gv.err])|((with_reducible refine dS ((p.writes).length-(i+1)) ?_ ?_);omega;exact⟨i+1,by simp,rfl,by omega,hs,by rw[hw,hd];simp[*]⟩)
 ·repeat' first|refine aL ?_;intros|(refine qr ?_;intro wa hk;simp_all [gv.err])
def yU (l:List Int):Bool:=chain (λn=>decide (n>=1)&&decide (n<=12)) (λa b=>decide (a<b)) none l&&decide (l≠[])
theorem MT {xs:List Int} (ha:Sl w X 1 a (xs.map I1)):
  Ct pg 218 #[a] w X nX λv _ _=>v=B (yU xs):=by
 intro w0 hk;replace ha:=ha.mv hk.cd;have kV:=ha.gN;refine Wm.1 λhs=>?_;repeat' refine ao ?_;intros
 refine eI (λn a w X=> ∃i:Nat,a=I (i:Nat)/\n=(xs).length-i/\i<=(xs).length/\ai (bN w0) w0 X w/\chain (λn=>decide (n>=1)&&decide (n<=12)) (λa b=>decide (a<b)) none xs=chain (λn=>decide (n>=1)&&decide (n<=12)) (λa b=>decide (a<b)) (uN xs i) (xs.drop i)) (xs).length ⟨0,rfl,rfl,aq _,hs,by simp[uN]⟩ ?_;rintro n a w X ⟨i,rfl,rfl,hi,hs,hw⟩;rcases dD (xs) i with⟨cx,x,hx,hd⟩|⟨dA,hd⟩
 ·rcases NI cx with⟨h0,hp⟩|⟨h0,y,hy,hp⟩<;>rw[hp,hd,chain] at hw<;>clear hd
  ·repeat' first|refine aL ?_;intros|refine cP ?_ ?_<;>intros|(refine qr ?_;intro wa hk;(simp_all [yU,chain]<;>omega))|((with_reducible refine dS ((xs).length-(i+1)) ?_ ?_);omega;exact⟨i+1,by simp,rfl,by omega,hs,by rw[hw,rB hx];simp_all<;>omega⟩)
  ·repeat' first|refine aL ?_;intros|refine cP ?_ ?_<;>intros|(refine qr ?_;intro wa hk;(simp_all [yU,chain]<;>omega))|((with_reducible refine dS ((xs).length-(i+1)) ?_ ?_);omega;exact⟨i+1,by simp,rfl,by omega,hs,by rw[hw,rB hx];simp_all<;>omega⟩)
 ·repeat' first|refine aL ?_;intros|refine cP ?_ ?_<;>intros|(refine qr ?_;intro wa hk;(simp_all [yU,chain]<;>grind))
def NO (l:List KV):Bool:=chain (λx=>iM x.key&&x.val.may&&decide (x.val.kind≠0)) (λa b=>z7 a.key b.key) none l
theorem aaC (ha:Sl w X 4 a (xs.map KV.l)):
  Ct pg 340 #[a] w X nX λv _ _=>v=B (NO xs):=by
 intro w0 hk;replace ha:=ha.mv hk.cd;have kV:=ha.gN;refine Wv.1 λhs=>?_;repeat' refine ao ?_;intros
 refine eI (λn a w X=> ∃i:Nat,a=I (i:Nat)/\n=(xs).length-i/\i<=(xs).length/\ai (bN w0) w0 X w/\NO xs=chain (λx=>iM x.key&&x.val.may&&decide (x.val.kind≠0)) (λa b=>z7 a.key b.key) (uN xs i) (xs.drop i)) (xs).length ⟨0,rfl,rfl,aq _,hs,by simp[uN,NO]⟩ ?_;rintro n a w X ⟨i,rfl,rfl,hi,hs,hw⟩;rcases dD (xs) i with⟨cx,x,hx,hd⟩|⟨dA,hd⟩
 ·rcases NI cx with⟨h0,hp⟩|⟨h0,y,hy,hp⟩<;>rw[hp,hd,chain] at hw<;>clear hd
  ·repeat' first|refine aL ?_;intros|refine cP ?_ ?_<;>intros|with_reducible apply cJ|(refine kn (lz _) hs ?_ ?_<;>intro _ w X hs)|(refine kn (mu _) hs ?_ ?_<;>intro _ w X hs)|(refine qr ?_;intro wa hk;(simp_all [chain]<;>omega))|((with_reducible refine dS ((xs).length-(i+1)) ?_ ?_);omega;exact⟨i+1,by simp,rfl,by omega,hs,by rw[hw,rB hx];simp_all<;>omega⟩)
  ·repeat' first|refine aL ?_;intros|refine cP ?_ ?_<;>intros|with_reducible apply cJ|(refine kn (lz _) hs ?_ ?_<;>intro _ w X hs)|(refine kn (mu _) hs ?_ ?_<;>intro _ w X hs)|(refine qr ?_;intro wa hk;(simp_all [chain]<;>omega))|((with_reducible refine dS ((xs).length-(i+1)) ?_ ?_);omega;exact⟨i+1,by simp,rfl,by omega,hs,by rw[hw,rB hx];simp_all<;>omega⟩)
 ·repeat' first|refine aL ?_;intros|(refine qr ?_;intro wa hk;(simp_all [chain]<;>grind))
abbrev eY.zero:eY:=⟨0,0,0,0⟩
abbrev State.zero:State:=⟨.zero,.zero,.zero,[],[]⟩
def State.isZero (s:State):Bool:=decide (s.range= .zero)&&decide (s.floor= .zero)&&decide (s.closed= .zero)&&decide (s.iG=[])&&decide (s.ib=[])
theorem Qm (h1:qL w X vh s.iG) (h2:qK w X vp s.ib):
  Ct pg 335 #[s.v vh vp] w X nX λv _ _=>v=B s.isZero:=by
 intro w0 hk;replace h1:=h1.mv hk.cd;replace h2:=h2.mv hk.cd;refine Oj.1 λhs=>?_;repeat' first|refine ao ?_;intros|refine cP ?_ ?_<;>intros|(with_reducible refine Gf _ ?_ ?_ ?_);(· kernel_rfl);all_goals intros|with_reducible apply cJ|(refine qr ?_;intro wa hk;(simp_all [State.isZero,eY.ext_iff]))|((with_reducible refine DJ (AR _) hs.has ?_);intro w X ay;replace hs:=hs.trans ay)
def Rec.isZero (r:Rec):Bool:=decide (r.aH= .zero)&&decide (r.aV= .zero)&&decide (r.prev= .zero)&&!r.jK&&decide (r.n=0)&&decide (r.su=0)&&
 decide (r.reads=[])&&decide (r.writes=[])&&decide (r.parts=[])&&decide (r.xu=[])&&r.state.isZero
theorem ab3 (h:r.at w X vr vw vp vq vh vd):
  Ct pg 277 #[r.v vr vw vp vq vh vd] w X nX λv _ _=>v=B r.isZero:=by
 intro w0 hk;obtain⟨h1,h2,h3,h4,h5,h6⟩:=h.mv hk.cd;refine aan.1 λhs=>?_;cases hc:r.jK<;>
 repeat' first|refine ao ?_;intros|refine cP ?_ ?_<;>intros|(with_reducible refine Gf _ ?_ ?_ ?_);(· kernel_rfl);all_goals intros|(with_reducible refine ag2 _ ?_ ?_ ?_);(· kernel_rfl);all_goals intros|with_reducible apply cJ|(refine qr ?_;intro wa hk;(simp_all [Rec.isZero]))|((with_reducible refine DJ (AR _) hs.has ?_);intro w X ay;replace hs:=hs.trans ay)|(refine qv (Qm  (s:=r.state) qA qA) hs ?_ ?_<;>intro _ w X hs)
def Rec.strip (r:Rec):Rec×Bool:=
 if r.kind=1 then({ r with state:=.zero },true)
 else if r.kind=2\/r.kind=7\/r.kind=8 then({ r with n:=0 },true)
 else if r.kind=3 then({ r with aH:=.zero,aV:=.zero,reads:=[],writes:=[],parts:=[] },true)
 else if r.kind=4 then({ r with aH:=.zero,jK:=false,aV:=.zero },true)
 else if r.kind=5 then({ r with aV:=.zero },true)
 else if r.kind=6 then({ r with su:=0,n:=0,aV:=.zero },true)
 else if r.kind=9 then({ r with aH:=.zero,aV:=.zero,parts:=[] },true)
 else if r.kind=10 then({ r with aH:=.zero },true)
 else if r.kind=11 then({ r with prev:=.zero,aV:=.zero,aH:=.zero,writes:=[] },true)
 else if r.kind=12 then({ r with aV:=.zero,xu:=[] },true)
 else(r,false)
theorem T2 (h:r.at w X vr vw vp vq vh vd):
  Ct pg 276 #[r.v vr vw vp vq vh vd] w X nX λv _ _=> ∃vr' iR Kr vq' vh' vd',v= .tuple #[r.strip.1.v vr' iR Kr vq' vh' vd',B r.strip.2]/\
   r.strip.1.at w X vr' iR Kr vq' vh' vd':=by
 intro w0 hk;obtain⟨h1,h2,h3,h4,h5,h6⟩:=h;have o1:=h1.one;have o2:=h2.one;have o3:=h3.one;have o4:=h4.one;have o5:=h5.one;have o6:=h6.one;refine Sr.1 λhs=>?_;have n2:Sl w X 4 (.slice none 0 0) (([]:List KV).map KV.l):=Sl.nil _ _ _;have n3:Sl w X 1 (.slice none 0 0) (([]:List Int).map I1):=Sl.nil _ _ _;have n4:qL w X (.slice none 0 0) []:=fh.nil _ _ _;have n5:qK w X (.slice none 0 0) []:=fh.nil _ _ _;repeat' first|refine ao ?_;intros|refine cP ?_ ?_<;>intros|with_reducible apply cJ
 all_goals
  refine bQ hs ?_;intro wa aK;unfold Rec.strip;repeat (first|rw[if_pos zQ]|rw[if_neg zQ])
  exact⟨_,_,_,_,_,_,rfl,by assumption,by assumption,by assumption,by assumption,by assumption,by assumption⟩
theorem KA {xs:List BA} (ha:Sl w X 1 a (xs.map S1)) (hb:xs.length<=2^40):
  Ct pg 87 #[a] w X nX λv wa w'=>Own w' (made wa w') wa.heap.size 9 1 v (xs.map S1):=by
  intro w0 hk;replace ha:=ha.mv hk.cd;refine AP.1 λhs=>?_;repeat' first|refine ao ?_;intros|refine cP ?_ ?_<;>intros|(refine Ro hs ?_;intro acc w X hs ho)|(refine qr ?_;intro wa hk;(first|(rename_i h1 h2;(first|(rw[h2])|skip);exact Own.nil _ _ _ _ _)|exact(ho.kp hk).tight))|((with_reducible apply qu);(case own=>assumption);(case hs=>assumption);(case h0=>exact λ_ h=>h);(case he=>kernel_rfl);(case src=>exact Sl.mv ha (ai.mv hs));(case h1=>simp[aJ.one]);(case hb=>simp;omega);(case hl=>simp;omega);intro acc w X ay ho hc dg;replace hs:=ay;rw[cB] at ho)
theorem ID (ha:Sl w X 4 a (xs.map KV.l)) (hb:xs.length<=2^40):
  Ct pg 89 #[a] w X nX λv wa w'=>Own w' (made wa w') wa.heap.size 178 4 v (xs.map KV.l):=by
  intro w0 hk;replace ha:=ha.mv hk.cd;refine wU.1 λhs=>?_;repeat' first|refine ao ?_;intros|refine cP ?_ ?_<;>intros|(refine Ro hs ?_;intro acc w X hs ho)|(refine qr ?_;intro wa hk;(first|(rename_i h1 h2;(first|(rw[h2])|skip);exact Own.nil _ _ _ _ _)|exact(ho.kp hk).tight))|((with_reducible apply qu);(case own=>assumption);(case hs=>assumption);(case h0=>exact λ_ h=>h);(case he=>kernel_rfl);(case src=>exact Sl.mv ha (ai.mv hs));(case h1=>simp[aJ.one]);(case hb=>simp;omega);(case hl=>simp;omega);intro acc w X ay ho hc dg;replace hs:=ay;rw[cB] at ho)
theorem Qn {xs:List pJ} (ha:Sl w X 6 a (xs.map pJ.l)) (hb:xs.length<=2^40):
  Ct pg 290 #[a] w X nX λv wa w'=>Own w' (made wa w') wa.heap.size 304 6 v (xs.map pJ.l):=by
  intro w0 hk;replace ha:=ha.mv hk.cd;refine uR.1 λhs=>?_;repeat' first|refine ao ?_;intros|refine cP ?_ ?_<;>intros|(refine Ro hs ?_;intro acc w X hs ho)|(refine qr ?_;intro wa hk;(first|(rename_i h1 h2;(first|(rw[h2])|skip);exact Own.nil _ _ _ _ _)|exact(ho.kp hk).tight))|((with_reducible apply qu);(case own=>assumption);(case hs=>assumption);(case h0=>exact λ_ h=>h);(case he=>kernel_rfl);(case src=>exact Sl.mv ha (ai.mv hs));(case h1=>simp[aJ.one]);(case hb=>simp;omega);(case hl=>simp;omega);intro acc w X ay ho hc dg;replace hs:=ay;rw[cB] at ho)
variable {k : BA}
theorem Wz {xs:List BA} (ha:Sl w X 1 a (xs.map S1)):
  Ct pg 171 #[a,.string k] w X nX λv _ _=>v=I (idxOf (λx=>decide (k=x)) xs):=by
 intro w0 hk;replace ha:=ha.mv hk.cd;have kV:=ha.gN;refine AQ.1 λhs=>?_;repeat' refine ao ?_;intros
 refine eI (λn a w X=> ∃i:Nat,a=I (i:Nat)/\n=(xs).length-i/\i<=(xs).length/\ai (bN w0) w0 X w/\(∀(j:Nat) x,j<i->xs[j]? =some x->decide (k=x)=false)) (xs).length ⟨0,rfl,rfl,aq _,hs,by simp⟩ ?_;rintro n a w X ⟨i,rfl,rfl,hi,hs,hw⟩;rcases dD (xs) i with⟨cx,x,hx,hd⟩|⟨dA,hd⟩
 ·repeat' first|refine aL ?_;intros|refine cP ?_ ?_<;>intros|(refine qr ?_;intro wa hk;(rw[CG hw hx (by simpa)]))|((with_reducible refine dS ((xs).length-(i+1)) ?_ ?_);omega;exact⟨i+1,by simp,rfl,by omega,hs,λj y hj hy=>by rcases Nat.lt_succ_iff_lt_or_eq.1 hj with h|h;exact hw j y h hy;subst h;rw[hx] at hy;cases hy;simpa⟩)
 ·repeat' first|refine aL ?_;intros|(refine qr ?_;intro wa hk;(rw[yS λj x hj hx=>hw j x zQ hx]))
theorem vJ {xs:List BA} (ha:Sl w X 1 a (xs.map S1)):
  Ct pg 115 #[a,.string k] w X nX λv _ _=>v=B (xs.any λx=>decide (k=x)):=by
 intro w0 hk;replace ha:=ha.mv hk.cd;refine yW.1 λhs=>?_;repeat' first|refine ao ?_;intros|refine cP ?_ ?_<;>intros|(refine qr ?_;intro wa hk;(rw[<-MD];simp[*]))|(refine VD (Wz  qA) hs ?_;intro w X hs)
variable {f : FuncId}
theorem MU {p:KV->Bool} (ha:Sl w X 4 a (xs.map KV.l)) (hX: ∀k,X k->k<w.heap.size) (hf:enters pg f=true)
  (hp: ∀x,Ct pg f ((.agg x.l.toArray)::cs).toArray w X nX λv _ _=>v=B (p x)):
  Ct pg 369 #[a,.func (.func f) #[] cs.toArray] w X nX λv _ _=>v=I (idxOf p xs):=by
 intro w0 hk;replace ha:=ha.mv hk.cd;replace hp:=λx=>((hp x).kp hk).bN λk hx=>aw (hX k hx) hk.size;have kV:=ha.gN;refine uT.1 λhs=>?_;repeat' refine ao ?_;intros
 refine eI (λn a w X=> ∃i:Nat,a=I (i:Nat)/\n=(xs).length-i/\i<=(xs).length/\ai (bN w0) w0 X w/\(∀(j:Nat) x,j<i->xs[j]? =some x->p x=false)) (xs).length ⟨0,rfl,rfl,aq _,hs,by simp⟩ ?_;rintro n a w X ⟨i,rfl,rfl,hi,hs,hw⟩;rcases dD (xs) i with⟨cx,x,hx,hd⟩|⟨dA,hd⟩
 ·repeat' first|refine aL ?_;intros|(refine qr ?_;intro wa hk;(rw[CG hw hx ‹_›]))|((with_reducible refine dS ((xs).length-(i+1)) ?_ ?_);omega;exact⟨i+1,by simp,rfl,by omega,hs,λj y hj hy=>by rcases Nat.lt_succ_iff_lt_or_eq.1 hj with h|h;exact hw j y h hy;subst h;rw[hx] at hy;cases hy;assumption⟩)|(refine H6 ((hp x).since hs) hf hs.has ?_ ?_<;>(intro _ w X ay;replace hs:=hs.trans ay))
 ·repeat' first|refine aL ?_;intros|(refine qr ?_;intro wa hk;(rw[yS λj x hj hx=>hw j x zQ hx]))
theorem IE {p:KV->Bool} (ha:Sl w X 4 a (xs.map KV.l)) (hX: ∀k,X k->k<w.heap.size) (hf:enters pg f=true)
  (hp: ∀x,Ct pg f ((.agg x.l.toArray)::cs).toArray w X nX λv _ _=>v=B (p x)):
  Ct pg 363 #[a,.func (.func f) #[] cs.toArray] w X nX λv _ _=>v=B (xs.any p):=by
 intro w0 hk;replace ha:=ha.mv hk.cd;replace hp:=λx=>((hp x).kp hk).bN λk hx=>aw (hX k hx) hk.size;refine tC.1 λhs=>?_;repeat' first|refine ao ?_;intros|refine cP ?_ ?_<;>intros|(refine qr ?_;intro wa hk;(rw[<-MD];simp[*]))|(refine VD (MU ha hs.has hf hp) hs ?_;intro w X hs)
def tle (a b:BA):Bool:=z7 a b||decide (a=b)
def CW:bX->List pJ->Bool
 |_,[]=>true
 |s,v::r=>v.aV.may&&decide (v.aV.cmp s>0)&&v.val.may&&CW v.aV r
def kF.ok (h:kF) (ahead:BA):Bool:=iM h.key&&!tle h.key ahead&&decide (h.mS≠[])&&CW .zero h.mS
theorem T4 {h:kF} {vv:Value} {ahead:BA} (ha:Sl w X 6 vv (h.mS.map pJ.l)):
  Ct pg 289 #[.agg (h.l vv).toArray,.string ahead] w X nX λv _ _=>v=B (h.ok ahead):=by
 intro w0 hk;replace ha:=ha.mv hk.cd;have kV:=ha.gN;refine Ss.1 λhs=>?_;repeat' first|refine ao ?_;intros|refine cP ?_ ?_<;>intros|(refine kn (lz _) hs ?_ ?_<;>intro _ w X hs)|(refine qr ?_;intro wa hk;(simp_all [kF.ok,tle]<;>grind))
 refine gO (λn a b w X=> ∃(i:Nat) (s:bX),a=I i/\b=s.v/\n=h.mS.length-i/\i<=h.mS.length/\ai (bN w0) w0 X w/\CW .zero h.mS=CW s (h.mS.drop i)) h.mS.length
  ⟨0,.zero,rfl,rfl,rfl,aq _,hs,by simp⟩ ?_
 rintro n a b w X ⟨i,s,rfl,rfl,rfl,hi,hs,hw⟩;have bU:h.mS≠[]:=by intro e;simp_all
 rcases dD (h.mS) i with⟨cx,x,hx,hd⟩|⟨dA,hd⟩
 ·rw[hd,CW] at hw;clear hd;repeat' first|refine aL ?_;intros|refine cP ?_ ?_<;>intros|with_reducible apply cJ|(refine kn (pO _) hs ?_ ?_<;>intro _ w X hs)|(refine pH (wE _ _) hs ?_;intro w X hs)|(refine kn (mu _) hs ?_ ?_<;>intro _ w X hs)|(refine qr ?_;intro wa hk;(simp_all [kF.ok,tle]<;>grind))|((with_reducible refine fZ ((h.mS).length-(i+1)) ?_ ?_);omega;exact⟨i+1,x.aV,by simp,rfl,rfl,by omega,hs,by simp_all⟩)
 ·repeat' first|refine aL ?_;intros|(refine qr ?_;intro wa hk;(simp_all [kF.ok,tle,CW]<;>grind))
def gv.has (p:gv) (k:BA):Bool:=p.writes.any λw=>decide (w.key=k)
variable {x : KV}
theorem Qo {b:Nat} (h:Cells w X b 0 [.string k]):
  Ct pg 364 #[.agg x.l.toArray,ptr b 0] w X nX λv _ _=>v=B (decide (x.key=k)):=by
 intro w0 hk;replace h:=h.mv hk.cd;refine Ol.1 λhs=>?_;repeat' first|refine ao ?_;intros|refine cP ?_ ?_<;>intros|(refine qr ?_;intro wa hk;simp_all)
theorem KB (hX: ∀k,X k->k<w.heap.size) (h2:Sl w X 4 vw (p.writes.map KV.l)):
  Ct pg 342 #[p.v vr vw,.string k] w X nX λv _ _=>v=B (p.has k):=by
 intro w0 hk;replace h2:=h2.mv hk.cd;refine TV.1 λhs=>?_;repeat' first|refine ao ?_;intros|(refine q1x hs ?_;intro bx w X fY ay gn hs br)|(refine qr ?_;intro wa hk;(simp[gv.has]))|(refine VD (IE (p:=λx=>decide (x.key=k)) (h2.mv (ai.mv (gn.trans hs))) hs.has kQ λx=>Qo (x:=x) (by first|exact br.cells)) hs ?_;intro w X hs)
theorem td:xA pg 34 (λk:bu=>k.v):=
 aje (n:=3) kQ (λk:bu=>[k.dU,k.aN,k.sq]) (λ_=>rfl) (λa b h=>by
  simp only[oR,and_true] at h;exact bu.ext h.1 h.2.1 h.2.2)
def yF:xA pg 9 (λs:BA=>aP s):=Jj kQ
def sc (w:World) (A:XS) (v:Value) (l:List pJ):Prop:=Sl w A 6 v (l.map pJ.l)
def qJ (w:World) (A:XS) (v:Value) (p:gv):Prop:= ∃vr vw,v=p.v vr vw/\Sl w A 1 vr (p.reads.map S1)/\Sl w A 4 vw (p.writes.map KV.l)
def sc.mv:qG sc:=λ_ _ _ _ _ _ h m=>Sl.mv h m
def qJ.mv:qG qJ:=λ_ _ _ _ _ _ ⟨vr,vw,h,h1,h2⟩ m=>⟨vr,vw,h,h1.mv m,h2.mv m⟩
structure iU (w:World) (X A:XS) (sb kb pb:Nat) (hm:List (BA×List pJ)) (pm:List (bu×gv)) (low:bX):Prop where
 box:aI w X sb [.map (some kb),.map (some pb),I low.wall,I low.dx,I low.node] 423
 keys:dL w X A kb (λs:BA=>aP s) sc hm
 ib:dL w X A pb (λk:bu=>k.v) qJ pm
 sub: ∀k,A k->X k
 off: ∀k,A k->k≠sb/\k≠kb/\k≠pb
variable {low : bX} {pm : List (bu × gv)} {hm : List (BA × List pJ)} {kb pb sb : Nat} {A Y : XS} {w' : World}
theorem iU.mv (h:iU w X A sb kb pb hm pm low)
  (hX: ∀k,X k->k<w.heap.size) (m:Mv X w Y w'):iU w' Y A sb kb pb hm pm low:=by
 have ma:Mv A w A w':=λk hk hl=>⟨hk,(m k (h.sub k hk) hl).2⟩;exact⟨h.box.mv m,h.keys.mv sc.mv m ma,h.ib.mv qJ.mv m ma,λk hk=>(m k (h.sub k hk) (hX k (h.sub k hk))).1,h.off⟩
variable {w0 : World}
theorem ajM {X0:XS} (h:dL w0 X0 A kb (λs:BA=>aP s) sc hm) (hA: ∀k,A k->X0 k) (m:Mv X0 w0 X w)
  (n: ∀v,Sl w0 X0 6 v (((getM k hm).getD []).map pJ.l)->N v):aX pg X w (Instr.lookup 420 (.map (some kb)) (.string k) false) N:=by
 have h':dL w X A kb (λs:BA=>aP s) sc hm:=h.mv sc.mv m λk hk hl=>⟨hk,(m k (hA k hk) hl).2⟩;obtain⟨es,c,h1,h2⟩:=h;refine mZ (et:=300) (A:=X) (rd:=λw X v l=>Sl w0 A 6 v (l.map pJ.l)) (l:=hm) (.slice none 0 0) ?_ yF kQ kQ (λv a hg hr=>?_) λhg=>?_
 ·exact⟨es,c,h1.mv m,by
   clear h1 h' n
   induction es generalizing hm with
   |nil=>cases hm<;>first|trivial|exact h2.elim
   |cons e es ih=>cases hm with
    |nil=>exact h2.elim
    |cons x l=>exact⟨h2.1,h2.2.1,ih h2.2.2⟩⟩
 ·exact n v (by rw[hg];exact Sl.mv hr (Mv.sub hA))
 ·exact n _ (by rw[hg];exact Sl.nil _ _ _)
def gv.EN (x q:gv):Bool:=x.writes.any (λw=>q.has w.key||q.reads.any λk=>decide (w.key=k))||x.reads.any λk=>q.has k
def Gh (l:List pJ) (gJ:bX) (all:Bool):gK×bX:=l.foldl (λs v=>if all||decide (v.aV.cmp gJ<=0)then(v.val,v.aV)else s) (.zero,.zero)
def IF (hm:List (BA×List pJ)) (k:BA):List pJ:=(getM k hm).getD []
abbrev afn (k:BA) (s:gK×bX):Value:=.agg #[.string k,I s.1.kind,.float .f64 s.1.num,.string s.1.text,I s.2.wall,I s.2.dx,I s.2.node]
theorem WB {gJ:bX} {all:Bool}
  (h:iU w X A sb kb pb hm pm low) (hX: ∀k,X k->k<w.heap.size):
  Ct pg 365 #[ptr sb 0,.string k,gJ.v,B all] w X nX λv _ _=>v=afn k (Gh (IF hm k) gJ all):=by
 intro w0 hk;replace h:=h.mv hX hk.cd;have fY:=h.box;refine JD.1 λhs=>?_;repeat' refine ao ?_;intros
 refine ajM h.keys h.sub (Mv.refl _ _) λvv hvv=>?_
 show aX _ _ _ _ _
 have Vi:IF hm k=(getM k hm).getD []:=rfl;rw[<-Vi] at hvv;generalize IF hm k=vs at hvv;have kV:=hvv.gN;repeat' refine ao ?_;intros
 refine gO (λn a b w X=> ∃(i:Nat) (s:gK×bX),a=I i/\b=afn k s/\n=vs.length-i/\i<=vs.length/\ai (bN w0) w0 X w/\
  Gh vs gJ all=(vs.drop i).foldl (λs v=>if all||decide (v.aV.cmp gJ<=0)then(v.val,v.aV)else s) s) vs.length ⟨0,(.zero,.zero),rfl,rfl,rfl,aq _,hs,by rw[tD];rfl⟩ ?_
 rintro n a b w X ⟨i,s,rfl,rfl,rfl,hi,hs,hw⟩;rcases dD (vs) i with⟨cx,x,hx,hd⟩|⟨dA,hd⟩
 ·rw[hd,iA] at hw;cases all
  ·repeat' first|refine aL ?_;intros|refine cP ?_ ?_<;>intros|with_reducible apply cJ|(refine pH (wE _ _) hs ?_;intro w X hs)|((with_reducible refine fZ ((vs).length-(i+1)) ?_ ?_);omega;exact⟨i+1,(x.val,x.aV),by simp,rfl,rfl,by omega,hs,by rw[hw];simp[*]⟩)|((with_reducible refine fZ ((vs).length-(i+1)) ?_ ?_);omega;exact⟨i+1,s,by simp,rfl,rfl,by omega,hs,by rw[hw];simp[*]⟩)
  ·repeat' first|refine aL ?_;intros|with_reducible apply cJ|((with_reducible refine fZ ((vs).length-(i+1)) ?_ ?_);omega;exact⟨i+1,(x.val,x.aV),by simp,rfl,rfl,by omega,hs,by rw[hw];simp[*]⟩)
 ·repeat' first|refine aL ?_;intros|(refine qr ?_;intro wa hk;(rw[hw,hd];rfl))
theorem WC
  (h:iU w X A sb kb pb hm pm low) (hX: ∀k,X k->k<w.heap.size):
  Ct pg 343 #[ptr sb 0,.string k] w X nX λv _ _=>v=afn k (Gh (IF hm k) .zero true):=by
 intro w0 hk;replace h:=h.mv hX hk.cd;refine JC.1 λhs=>?_;repeat' first|refine ao ?_;intros|(refine qr ?_;intro wa hk;rfl)|(refine VD (WB (gJ:=.zero) h hs.has) hs ?_;intro w X hs)
def MV (hm:List (BA×List pJ)) (x:gv):Bool:=x.writes.any λw=>decide ((Gh (IF hm w.key) .zero true).2.cmp x.aV>=0)
theorem afo {x:gv}
  (h:iU w X A sb kb pb hm pm low) (hX: ∀k,X k->k<w.heap.size) (h2:Sl w X 4 vw (x.writes.map KV.l)):
  Ct pg 292 #[ptr sb 0,x.v vr vw] w X nX λv _ _=>v=B (MV hm x):=by
 intro w0 hk;replace h:=h.mv hX hk.cd;replace h2:=h2.mv hk.cd;have kV:=h2.gN;refine Oh.1 λhs=>?_;repeat' refine ao ?_;intros
 refine eI (λn a w X=> ∃i:Nat,a=I (i:Nat)/\n=(x.writes).length-i/\i<=(x.writes).length/\ai (bN w0) w0 X w/\MV hm x=(x.writes.drop i).any (λw=>decide ((Gh (IF hm w.key) .zero true).2.cmp x.aV>=0))) (x.writes).length ⟨0,rfl,rfl,aq _,hs,by simp[MV]⟩ ?_;rintro n a w X ⟨i,rfl,rfl,hi,hs,hw⟩;rcases dD (x.writes) i with⟨cx,y,hy,hd⟩|⟨dA,hd⟩
 ·rw[hd,zG] at hw;repeat' first|refine aL ?_;intros|refine cP ?_ ?_<;>intros|(refine pH (wE _ _) hs ?_;intro w X hs)|(refine qr ?_;intro wa hk;simp_all)|((with_reducible refine dS ((x.writes).length-(i+1)) ?_ ?_);omega;exact⟨i+1,by simp,rfl,by omega,hs,by rw[hw];simp[*]⟩)|(refine VD (WC (h.mv (λ_ h=>h) (ai.mv hs)) hs.has) hs ?_;intro w X hs)
 ·repeat' first|refine aL ?_;intros|(refine qr ?_;intro wa hk;simp_all)
abbrev U1 (b:Nat):List Value:=[.int .u8 b]
def qh (u:Nat):List Nat:=if u<128 then [u] else(u % 128+128)::qh (u/128)
termination_by u
decreasing_by omega
def xX (n:Int):Nat:=if n<0 then 18446744073709551615-((n % 18446744073709551616).toNat*2 % 18446744073709551616)else(n % 18446744073709551616).toNat*2 % 18446744073709551616
def encI (n:Int):List Nat:=qh (xX n)
theorem aaD: ∀(k u:Nat),u<128^k->(qh u).length<=max k 1
 |0,u,h=>by grind [qh]
 |k+1,u,h=>by
  unfold qh;split
  ·simp_all
  ·have hk:1<=k:=by
    rcases k with _|k
    ·omega
    ·omega
   have h1:u/128<128^k:=by
    rw[xF dQ,<-Nat.pow_succ];exact h
   have:=aaD k (u/128) h1;simp_all
theorem af3 (n:Int):xX n<18446744073709551616:=by
 unfold xX;split<;>omega
theorem fy (n:Int):(encI n).length<=10:=by
 have:=aaD 10 (xX n) (aw (af3 n) dQ);assumption
def wP (s:BA):List Nat:=encI s.size++s.data.toList.map UInt8.toNat
def ag5 (u k:Nat):Nat:=u/256^k % 256
def HN (x:Nat):List Nat:=(dw 8).map (ag5 (canon x))
def JJ (v:gK):List Nat:=
 let v:=if v.may then v else gK.zero
 encI v.kind++(if v.kind=1 then HN v.num else if v.kind=2 then wP v.text else [])
def aeK (b:Bool):List Nat:=[if b then 1 else 0]
def lE (s:bX):List Nat:=encI s.wall++encI s.dx++encI s.node
def nR (t:bu):List Nat:=encI t.dU++encI t.aN++encI t.sq
def sB (x:KV):List Nat:=wP x.key++JJ x.val
def iW {α:Type} (f:α->List Nat) (l:List α):List Nat:=encI l.length++(l.map f).flatten
variable {g lo : Nat} {rows : List (List Value)}
theorem Own.tag {k:Nat} (h:Own w X lo e k v rows) (hg:v.ownBlock=some g): ∃cs:List Value,w.heap[g]? =some (.cells cs.toArray e (0,0)):=by
 rcases h.row with⟨rfl,_⟩|⟨b,cap,cs,rfl,_,hr,_⟩
 ·cases hg
 ·simp only[Value.ownBlock,aj] at hg;subst hg;exact⟨cs,hr.2⟩
theorem Own.eT {e' k:Nat} (h:Own w X lo e k v rows) (hr:aI w Y g cs e') (he:decide (e≠e')=true):v.ownBlock≠some g:=λhg=>by
 obtain⟨c,h1⟩:=Own.tag h hg;rw[hr.2] at h1
 grind
theorem wrap64 (n:Int):IntKind.u64.wrap n=n % 18446744073709551616:=by rfl
theorem No (n:Int):IntKind.u8.wrap n=n % 256:=by rfl
variable {u : Nat}
def Sy {src dst:TypeId} {k:IntKind} (hs:(P.underlying src).isSome=true) (hd:P.underlying dst=some (.int .u8)) (h:N (.int .u8 ((u % 256:Nat):Int))):aX P X w (pT .u8 src dst (.int k (u:Int))) N:=
 ae7 hs hd aQ
theorem aaE (u:Nat):IntKind.u8.wrap (u:Int)=((u % 256:Nat):Int):=by rfl
def aoE (h:N (.int .u64 ((u*2 % 18446744073709551616:Nat):Int))):aX P X w (binOp .shl t (.int .u64 (u:Int)) (.int .u64 1)) N:=
 SX zQ aQ
theorem aoF (h:N (.int .u64 ((u/128:Nat):Int))):aX P X w (binOp .shr t (.int .u64 (u:Int)) (.int .u64 7)) N:=
 ET zQ (by
  have e:((u:Int)).fdiv (2^min (7:Int).toNat IntKind.u64.bits)=((u/128:Nat):Int):=by
   show((u:Int)).fdiv 128=_
   rw[tE _ dQ];omega
  grind)
theorem aoG (h:N (.int .u64 ((u/256:Nat):Int))):aX P X w (binOp .shr t (.int .u64 (u:Int)) (.int .u64 8)) N:=
 ET zQ (by
  have e:((u:Int)).fdiv (2^min (8:Int).toNat IntKind.u64.bits)=((u/256:Nat):Int):=by
   show((u:Int)).fdiv 256=_
   rw[tE _ dQ];omega
  grind)
theorem aoH (hu:u<18446744073709551616) (h:N (.int .u64 ((18446744073709551615-u:Nat):Int))):aX P X w (Op.unary .xor (.int .u64 (u:Int))) N:=by
 refine bB (v:=.int .u64 ((18446744073709551615-u:Nat):Int)) (λwa=>?_) h;have key:(aF 64 18446744073709551615^^^aF 64 (u:Int)).toNat=18446744073709551615-u:=by
  have h1:aF 64 18446744073709551615=BitVec.allOnes 64:=by decide
  have h2:(aF 64 (u:Int))=BitVec.ofNat 64 u:=by simp
  rw[h1,h2,BitVec.allOnes_xor,BitVec.toNat_not,BitVec.toNat_ofNat,fq zQ]
 have e:IntKind.u64.wrap (aF IntKind.u64.bits IntKind.u64.max^^^aF IntKind.u64.bits (u:Int)).toNat=((18446744073709551615-u:Nat):Int):=by
  rw[wrap64]
  show((aF 64 18446744073709551615^^^aF 64 (u:Int)).toNat:Int) % 18446744073709551616=_
  rw[key];omega
 have hk:(Op.unary .xor (.int .u64 (u:Int))).run P wa= .ok (.int .u64 (IntKind.u64.wrap (aF IntKind.u64.bits IntKind.u64.max^^^aF IntKind.u64.bits (u:Int)).toNat)) wa:=by
  simp[Op.unary,Op.intBits,IntKind.signed]
 rw[hk,e]
theorem Rh {k:IntKind} {a:Int} (h:N (.int k (k.wrap (aF k.bits a|||aF k.bits b).toNat))):aX P X w (binOp .or t (.int k a) (.int k b)) N:=
 bB (λwa=>by simp[binOp,Op.intBits]) h
theorem aqe: ∀b:Nat,b<256->(aF 8 (b:Int)|||aF 8 128).toNat=b % 128+128:=by decide+kernel
theorem al0 {b:Nat} (hb:b<256) (h:N (.int .u8 ((b % 128+128:Nat):Int))):aX P X w (binOp .or t (.int .u8 (b:Int)) (.int .u8 128)) N:=
 Rh (by
  have e:IntKind.u8.wrap (aF IntKind.u8.bits (b:Int)|||aF IntKind.u8.bits 128).toNat=((b % 128+128:Nat):Int):=by
   rw[No];have:=aqe b hb
   show((aF 8 (b:Int)|||aF 8 128).toNat:Int) % 256=_
   rw[this];omega
  grind)
theorem aoI {n:Int} (h:N (.int .u64 (((n % 18446744073709551616).toNat*2 % 18446744073709551616:Nat):Int))):aX P X w (binOp .shl t (.int .u64 (IntKind.u64.wrap n)) (.int .u64 1)) N:=by
 have e:IntKind.u64.wrap n=((n % 18446744073709551616).toNat:Int):=by rw[wrap64];omega
 rw[e];exact aoE h
theorem aqf (h:N (.int .u8 ((u % 128+128:Nat):Int))):aX P X w (binOp .or t (.int .u8 (IntKind.u8.wrap (u:Int))) (.int .u8 128)) N:=by
 rw[aaE];exact al0 zQ (by simp_all)
structure Wr (w:World) (X:XS) (lo wb:Nat) (vb:Value) (bs:List Nat):Prop where
 box:aI w X wb [vb] 409
 ow:Own w X lo 5 1 vb (bs.map U1)
def Et (wb:Nat) (vb:Value):XS:=λk=>k=wb\/vb.ownBlock=some k
variable {bs : List Nat} {vb : Value} {wb : Nat}
def Wr.mv (h:Wr w X lo wb vb bs) (m:Mv X w Y w'):Wr w' Y lo wb vb bs:=⟨h.box.mv m,h.ow.mv m⟩
theorem Wr.ne (h:Wr w X lo wb vb bs):vb.ownBlock≠some wb:=Own.eT h.ow h.box (by rfl)
def oF (f:FuncId) (args:Array Value) (w:World) (X:XS) (lo wb:Nat) (vb:Value) (bs ds:List Nat):Prop:=
 Ct pg f args w X (Et wb vb) λv wa w'=>v= .tuple #[]/\ ∃MW,Wr w' (λk=>Et wb vb k\/made wa w' k) lo wb MW (bs++ds)
structure WS (w0:World) (tF:Value) (w:World) (X:XS) (lo wb:Nat) (vb:Value) (bs:List Nat):Prop where
 s:ai (out (Et wb tF) w0) w0 X w
 r:Wr w X lo wb vb bs
 v: ∀g,vb.ownBlock=some g->tF.ownBlock=some g\/w0.heap.size<=g
variable {tF : Value} {ds : List Nat} {R : Ending -> World -> Prop} {X' : XS}
section
variable {N : Value -> World -> XS -> Prop}
def WS.init (h:Wr w0 (bN w0) lo wb tF bs):WS w0 tF w0 (bN w0) lo wb tF bs:=⟨ai.out _ _,h,λg hg=>.inl hg⟩
def WS.since (h:WS w0 tF w X lo wb vb bs) (hs:ai X w X' w'):WS w0 tF w' X' lo wb vb bs:=⟨h.s.trans hs,h.r.mv hs.mv,h.v⟩
theorem WS.fin (h:WS w0 tF w X lo wb vb (bs++ds)):fin (vi (Et wb tF) w0 λv w'=>(λv wa w'=>v= .tuple #[]/\ ∃MW,Wr w' (λk=>Et wb tF k\/made wa w' k) lo wb MW (bs++ds)) v w0 w') X w (.tuple #[]):=by
 refine acZ h.s λwa hk=>⟨rfl,vb,⟨.inl (.inl rfl),(h.r.box.kp hk).2⟩,(h.r.ow.kp hk).1,(h.r.ow.kp hk).2.1,λg hg=>?_⟩;rcases h.v g hg with h1|h1
 ·exact .inl (.inr h1)
 ·exact .inr ⟨h1,((h.r.ow.kp hk).ge hg).2⟩
theorem WS.out (h:WS w0 tF w X lo wb vb bs) {k:Nat} (hk:Et wb vb k) (h0:out (Et wb tF) w0 k):False:=by
 rcases hk with hk|hk
 ·exact h0.2 (.inl hk)
 ·rcases h.v k hk with h1|h1
  ·exact h0.2 (.inr h1)
  ·have:=h0.1;omega
theorem WS.fu (hS:WS w0 tF w X lo wb vb bs) (hp:oF f args w X lo wb vb bs ds) (hf:enters pg f=true)
  (k: ∀MW w' X',WS w0 tF w' X' lo wb MW (bs++ds)->ee (Et wb vb) X w X' w'->N (.tuple #[]) w' X'):eC pg R X w true f args N:=by
 refine zq hp hf hS.s.has (λq hq=>?_) λv wa w' X' hq hle gu Em hc=>?_
 ·rcases hq with rfl|hq
  ·exact hS.r.box.1
  ·exact hS.r.ow.2.2 q hq
 ·obtain⟨rfl,MW,hW⟩:=hq;refine k MW w' X' ⟨hS.s.ea hc λq h0 hq=>hS.out hq h0,⟨⟨hc.sub _ hS.r.box.1,hW.box.2⟩,hW.ow.1,hW.ow.2.1,λg hg=>?_⟩,λg hg=>?_⟩ hc
  ·rcases hW.ow.2.2 g hg with h1|h1
   ·rcases h1 with rfl|h1
    ·exact hc.sub _ hS.r.box.1
    ·exact hc.sub g (hS.r.ow.2.2 g h1)
   grind
  ·rcases hW.ow.2.2 g hg with h1|h1
   ·rcases h1 with rfl|h1
    ·exact absurd hg hW.ne
    ·exact hS.v g h1
   ·right;have:=h1.1;have:=hS.s.kp.size;omega
theorem MX {b:Nat} (hS:WS w0 tF w X lo wb vb bs) (gy:lo<=w.heap.size) (hb:bs.length<=2^40)
  (k: ∀MW w' X',WS w0 tF w' X' lo wb MW (bs++[b])->N undef w' X'):
  eV pg R X w true (gR 151 5 1 1 #[(0,.int .u8 (b:Int))]) λs w1 X1=>eV pg R X1 w1 true (ru 151 5 1 1 151 vb s) λx w2 X2=>
   lW pg X2 w2 (cj (ptr wb 0)) λp=>aX pg X2 w2 (iN 409 0 0 1 p) λq=>eU pg R X2 w2 true (st1 151 1 q x) N:=by
 refine alS hS.r.ow hS.s.has gy kQ (row:=U1 b) rfl rfl rfl oQ oQ λv' w' X' hc ho dg=>?_;have bU: ∀q,cU vb q->q≠wb:=λq hq e=>hS.r.ne (by rw[<-e];exact hq);have fY:aI w' X' wb [vb] 409:=⟨hc.sub _ hS.r.box.1,by rw[hc.block _ hS.r.box.1 λhq=>bU _ hq rfl];exact hS.r.box.2⟩;have tn:=hS.s.ea hc λq h0 hq=>hS.out (.inr hq) h0;have GZ: ∀g,v'.ownBlock=some g->tF.ownBlock=some g\/w0.heap.size<=g:=λg hg=>by
  rcases dg with e|⟨g',e,dA⟩
  ·exact hS.v g (e▸hg)
  ·rw[e] at hg;cases hg;right;have:=hS.s.kp.size;omega
 with_reducible apply Jl
 have Vd:fieldInfo pg 409 0=some (0,1):=by kernel_rfl
 refine R5 (fY.cells) Vd rfl λo' wo _=>?_;subst wo;refine EH fY kQ sQ (by obtain⟨_,_,_,rfl⟩:=ho.sl.form;rfl) (by obtain⟨_,_,_,rfl⟩:=ho.sl.form;rfl) tn.has λw3 X3 uZ Ei=>?_;have ajN:v'.ownBlock≠some wb:=Own.eT ho fY (by rfl);refine k v' w3 X3 ⟨tn.ea uZ λq h0 hq=>h0.2 (.inl hq),⟨?_,?_⟩,GZ⟩
 ·have e:dr [vb] (0+0) v'.cells.toList=[v']:=by obtain⟨_,_,_,rfl⟩:=ho.sl.form;rfl
  grind
 ·rw[az];exact Own.ea ho uZ λg hg e=>ajN (by rw[hg,e])
end
theorem Qp:Ct pg 197 #[] w X nX λv wa w'=> ∃wb,v=ptr wb 0/\Wr w' (made wa w') wa.heap.size wb (.slice none 0 0) []:=by
 intro w0 hk;refine Oe.1 λhs=>?_;repeat' first|refine ao ?_;intros|(refine OQ hs ?_;intro bx w X fY ay gn hs br)
 refine bQ (gn.trans hs) λwa aK=>⟨bx,rfl,⟨⟨fY,(br.kp aK).lt⟩,(br.kp aK).2⟩,Own.nil _ _ _ _ _⟩
theorem pt {n:Int} (h:Wr w X lo wb vb bs) (hb:bs.length<=2^39) (gy:lo<=w.heap.size):oF 260 #[ptr wb 0,I n] w X lo wb vb bs (encI n):=by
 intro w0 hk;have de:lo<=w0.heap.size:=ad gy hk.size;have hS:=WS.init (h.mv hk.cd);refine MO.1 λ_=>?_;have hs:=hS.s;have Ax:=hS.r.box;repeat' first|refine ao ?_;intros|(with_reducible apply aoI)
 refine gZ (λk=>k (.int .u64 (xX n:Int))) ?_ ?_
 ·refine eI (λn' a w X=> ∃(u:Nat) (vE:Value) (bsi:List Nat),a= .int .u64 (u:Int)/\n'=u/\WS w0 vb w X lo wb vE bsi/\bsi++qh u=bs++encI n) (xX n) ⟨xX n,vb,bs,rfl,rfl,hS,rfl⟩ ?_;clear hs Ax hS;rintro u a w X ⟨_,vE,bsi,rfl,rfl,hS,xn⟩;have hs:=hS.s;have Ax:=hS.r.box;have hlen:bsi.length<=2^40:=by
   have h1:=congrArg List.length xn;have h2:=fy n;simp only[aa] at h1;omega
  have TB:lo<=w.heap.size:=ad de hs.kp.size;by_cases hu:u<128
  ·have he:qh u=[u]:=by rw[qh,if_pos hu]
   repeat' refine aL ?_;intros
   rw[aaE,show u % 256=u by omega];refine MX hS TB hlen λjf w2 X2 bm=>?_;rw[<-he,xn] at bm;exact bm.fin
  ·have he:qh u=(u % 128+128)::qh (u/128):=by rw[qh,if_neg hu]
   repeat' first|refine aL ?_;intros|(with_reducible apply aqf)
   refine MX hS TB hlen λjf w2 X2 bm=>?_;repeat' first|(with_reducible apply aoF)
   refine dS (u/128) zQ ⟨u/128,jf,_,rfl,rfl,bm,?_⟩
   grind
 ·intro K hK;repeat' first|refine ao ?_;intros|refine cP ?_ ?_<;>intros|(with_reducible apply aoH);omega
  ·have:xX n=18446744073709551615-((n % 18446744073709551616).toNat*2 % 18446744073709551616):=by unfold xX;rw[if_pos zQ]
   grind
  ·have:xX n=(n % 18446744073709551616).toNat*2 % 18446744073709551616:=by unfold xX;rw[if_neg zQ]
   simp_all
theorem ajO (s:BA):(zm s).map (λx=>[x])=(s.data.toList.map UInt8.toNat).map U1:=by
 unfold zm;simp
variable {v' : Value}
section
variable {N : Value -> World -> XS -> Prop}
theorem aoJ (hS:WS w0 tF w X lo wb vb bs) (hc:ee (cU vb) X w X' w') (ho:Own w' X' lo 5 1 v' (ds.map U1)) (dg:v'.ownBlock=vb.ownBlock\/ ∃g,v'.ownBlock=some g/\w.heap.size<=g)
  (k: ∀w' X',WS w0 tF w' X' lo wb v' ds->N undef w' X'):
  lW pg X' w' (cj (ptr wb 0)) λp=>aX pg X' w' (iN 409 0 0 1 p) λq=>eU pg R X' w' true (st1 151 1 q v') N:=by
 have bU: ∀q,cU vb q->q≠wb:=λq hq e=>hS.r.ne (by rw[<-e];exact hq);have fY:aI w' X' wb [vb] 409:=⟨hc.sub _ hS.r.box.1,by rw[hc.block _ hS.r.box.1 λhq=>bU _ hq rfl];exact hS.r.box.2⟩;have tn:=hS.s.ea hc λq h0 hq=>hS.out (.inr hq) h0;have GZ: ∀g,v'.ownBlock=some g->tF.ownBlock=some g\/w0.heap.size<=g:=λg hg=>by
  rcases dg with e|⟨g',e,dA⟩
  ·exact hS.v g (e▸hg)
  ·rw[e] at hg;cases hg;right;have:=hS.s.kp.size;omega
 with_reducible apply Jl
 have Vd:fieldInfo pg 409 0=some (0,1):=by kernel_rfl
 refine R5 (fY.cells) Vd rfl λo' wo _=>?_;subst wo;refine EH fY kQ sQ (by obtain⟨_,_,_,rfl⟩:=ho.sl.form;rfl) (by obtain⟨_,_,_,rfl⟩:=ho.sl.form;rfl) tn.has λw3 X3 uZ Ei=>?_;have ajN:v'.ownBlock≠some wb:=Own.eT ho fY kQ;refine k w3 X3 ⟨tn.ea uZ λq h0 hq=>h0.2 (.inl hq),⟨?_,?_⟩,GZ⟩
 ·have e:dr [vb] (0+0) v'.cells.toList=[v']:=by obtain⟨_,_,_,rfl⟩:=ho.sl.form;rfl
  rw[e] at Ei;exact Ei
 ·exact Own.ea ho uZ λg hg e=>ajN (by rw[hg,e])
end
theorem Pc {s:BA} (h:Wr w X lo wb vb bs) (hb:bs.length<=2^38) (gy:lo<=w.heap.size) (gn:s.size<=2^38):oF 328 #[ptr wb 0,.string s] w X lo wb vb bs (wP s):=by
 intro w0 hk;have de:lo<=w0.heap.size:=ad gy hk.size;have hS:=WS.init (h.mv hk.cd);refine K3.1 λ_=>?_;have hs:=hS.s;repeat' refine ao ?_;intros
 refine hS.fu (pt hS.r zQ de) kQ λjf w2 X2 bm qt=>?_;clear hs;have hs:=bm.s;have Ax:=bm.r.box;have Cb:=fy s.size;repeat' refine ao ?_;intros
 refine aot (bytes:=1) bm.r.ow hs.has (ad de hs.kp.size) kQ kQ oQ oQ λv' w3 X3 hc ho dg=>?_;rw[ajO,<-az] at ho;refine aoJ bm hc ho dg λw4 X4 hU=>?_;rw[ak] at hU;exact hU.fin
theorem MY {x:Nat} (h:Wr w X lo wb vb bs) (hb:bs.length<=2^39) (gy:lo<=w.heap.size):oF 273 #[ptr wb 0,.float .f64 x] w X lo wb vb bs (HN x):=by
 intro w0 hk;have de:lo<=w0.heap.size:=ad gy hk.size;have hS:=WS.init (h.mv hk.cd);refine Jy.1 λ_=>?_;have hs:=hS.s;repeat' first|((with_reducible refine rV (EM _) ?_ hs.has ?_);(· kernel_rfl);intro w X ay;replace hs:=hs.trans ay)
 refine gO (λn' a b w X=> ∃(i:Nat) (vE:Value),a=I i/\b= .int .u64 ((canon x/256^i:Nat):Int)/\n'=8-i/\i<=8/\WS w0 vb w X lo wb vE (bs++(dw i).map (ag5 (canon x)))) 8
  ⟨0,vb,rfl,by simp,rfl,by omega,by simpa using hS.since aQ⟩ ?_
 clear hs hS ay;rintro n' a b w X ⟨i,vE,rfl,rfl,rfl,hi,hS⟩;have hs:=hS.s;have Ax:=hS.r.box;have TB:lo<=w.heap.size:=ad de hs.kp.size;by_cases h8:i<8
 ·repeat' refine aL ?_;intros
  rw[aaE];refine MX hS TB oQ λjf w2 X2 bm=>?_;repeat' first|refine ao ?_;intros|(with_reducible apply aoG)
  refine fZ (8-(i+1)) zQ ⟨i+1,jf,by simp,?_,rfl,by omega,?_⟩
  ·rw[Nat.div_div_eq_div_mul,Nat.pow_succ]
  ·rw[List.range_succ,az,<-ak];exact bm
 ·obtain rfl:i=8:=by omega
  repeat' refine aL ?_;intros
  exact hS.fin
theorem aaF (h:Wr w X lo wb vb bs) (hb:bs.length<=2^40):Ct pg 198 #[ptr wb 0] w X nX λv wa w'=>Own w' (made wa w') wa.heap.size 5 1 v (bs.map U1):=by
 intro w0 hk;replace h:=h.mv hk.cd;have Ax:=h.box;refine Jv.1 λhs=>?_;repeat' first|refine ao ?_;intros|(refine Ro hs ?_;intro acc w X hs ho)|(refine qr ?_;intro wa hk;(exact(ho.kp hk).tight))|((with_reducible apply qu);(case own=>assumption);(case hs=>assumption);(case h0=>exact λ_ h=>h);(case he=>kernel_rfl);(case src=>exact Sl.mv h.ow.sl (ai.mv hs));(case h1=>simp[aJ.one]);(case hb=>simp;omega);(case hl=>simp;omega);intro acc w X ay ho hc dg;replace hs:=ay;rw[cB] at ho)
theorem ab4 {b:Bool} (h:Wr w X lo wb vb bs) (hb:bs.length<=2^39) (gy:lo<=w.heap.size):oF 271 #[ptr wb 0,B b] w X lo wb vb bs (aeK b):=by
 intro w0 hk;have de:lo<=w0.heap.size:=ad gy hk.size;have hS:=WS.init (h.mv hk.cd);refine K0.1 λ_=>?_;have hs:=hS.s;have Ax:=hS.r.box;cases b<;>
 repeat' refine ao ?_;intros
 ·refine MX (b:=0) hS de zQ λjf w2 X2 bm=>?_;exact bm.fin
 ·refine MX (b:=1) hS de zQ λjf w2 X2 bm=>?_;exact bm.fin
def uU (Z X:XS) (wb:Nat) (vb:Value):Prop:= ∀k,Z k->X k/\ ¬Et wb vb k
variable {Z : XS}
def WS.z (hS:WS w0 tF w X lo wb vb bs):uU (aJ.out (Et wb tF) w0) X wb vb:=λk h=>⟨hS.s.sub k h,λhf=>hS.out hf h⟩
def WS.at (hS:WS w0 tF w X lo wb vb bs):Mv (aJ.out (Et wb tF) w0) w0 (aJ.out (Et wb tF) w0) w:=λk hk _=>⟨hk,hS.s.kp.block k hk⟩
def uU.mv (h:uU Z X wb vb) (hk:Kp X w w0):Mv Z w (out (Et wb vb) w0) w0:=λk ah hl=>⟨⟨aw hl hk.size,(h k ah).2⟩,hk.block k (h k ah).1⟩
abbrev ly (wb:Nat):List Value:=[ptr wb 0,.pointer none]
theorem ab5 {v:gK} (h:Wr w X lo wb vb bs) (hb:bs.length<=2^37) (gy:lo<=w.heap.size):oF 333 #[ptr wb 0,v.v] w X lo wb vb bs (JJ v):=by
 intro w0 hk;have de:lo<=w0.heap.size:=ad gy hk.size;have hS:=WS.init (h.mv hk.cd);refine aar.1 λ_=>?_;refine gZ (λk=> ∀w X,ai (bN w0) w0 X w->k (if v.may then v else gK.zero).v w X) ?_ ?_
 ·intro w X hsX;generalize hu:(if v.may then v else gK.zero)=u;have hue:JJ v=encI u.kind++(if u.kind=1 then HN u.num else if u.kind=2 then wP u.text else []):=by unfold JJ;simp only[hu]
  have hut:u.kind=2->u.text.size<=64:=by
   intro h2;by_cases hm:v.may=true
   ·rw[if_pos hm] at hu;subst hu;unfold gK.may at hm;rw[if_neg zQ,if_neg zQ,if_pos h2] at hm;simp at hm;omega
   ·rw[if_neg hm] at hu;rw[<-hu] at h2;cases h2
  have mh:=hS.since hsX;replace hs:=mh.s;repeat' refine ao ?_;intros
  refine mh.fu (pt mh.r zQ (ad de hs.kp.size)) kQ λjf w2 X2 bm qt=>?_;have he:=fy u.kind;replace hs:=bm.s;repeat' refine ao ?_;intros
  refine gZ (λk=> ∀w X nk,WS w0 vb w X lo wb nk (bs++JJ v)->k w X) ?_ ?_
  ·intro w X nk bW;exact bW.fin
  ·intro K hK;rw[hue,<-ak] at hK;repeat' first|refine ao ?_;intros|refine cP ?_ ?_<;>intros
   ·refine bm.fu (MY bm.r oQ (ad de hs.kp.size)) kQ λnk w3 X3 bW uZ=>?_;replace hs:=bW.s
    skip
    rw[if_pos zQ] at hK;exact hK _ _ _ bW
   ·refine bm.fu (Pc bm.r oQ (ad de hs.kp.size) (by have:=hut zQ;omega)) kQ λnk w3 X3 bW uZ=>?_;replace hs:=bW.s
    skip
    rw[if_neg zQ,if_pos zQ] at hK;exact hK _ _ _ bW
   ·rw[if_neg zQ,if_neg zQ] at hK;rw[List.append_nil] at hK;exact hK _ _ _ bm
 ·intro K hK;have hs:=ai.init w0;cases hm:v.may<;>rw[hm] at hK
  ·repeat' first|refine ao ?_;intros|(refine kn (mu _) hs ?_ ?_<;>intro _ w X hs)
   all_goals first|exact hK _ _ hs|(exfalso;simp_all)
  ·repeat' first|refine ao ?_;intros|(refine kn (mu _) hs ?_ ?_<;>intro _ w X hs)
   all_goals first|exact hK _ _ hs|(exfalso;simp_all)
variable {cb xb xo : Nat}
theorem jR {n:Int} (h:Wr w X lo wb vb bs) (hc:Cells w Z cb 0 (ly wb)) (hx:Cells w Z xb xo [I n]) (hZ:uU Z X wb vb) (hb:bs.length<=2^38) (gy:lo<=w.heap.size):
  oF 183 #[ptr cb 0,ptr xb xo] w X lo wb vb bs (encI n):=by
 intro w0 hk;have de:lo<=w0.heap.size:=ad gy hk.size;replace hc:=hc.mv (hZ.mv hk);replace hx:=hx.mv (hZ.mv hk);have hS:=WS.init (h.mv hk.cd);refine Du.1 λ_=>?_;have hs:=hS.s;repeat' refine ao ?_;intros
 refine hS.fu (pt hS.r zQ de) kQ λjf w2 X2 bm qt=>?_
 skip
 exact bm.fin
theorem B6 {s:BA} (h:Wr w X lo wb vb bs) (hc:Cells w Z cb 0 (ly wb)) (hx:Cells w Z xb xo [.string s]) (hZ:uU Z X wb vb) (hb:bs.length<=2^38) (gy:lo<=w.heap.size) (gn:s.size<=2^38):
  oF 268 #[ptr cb 0,ptr xb xo] w X lo wb vb bs (wP s):=by
 intro w0 hk;have de:lo<=w0.heap.size:=ad gy hk.size;replace hc:=hc.mv (hZ.mv hk);replace hx:=hx.mv (hZ.mv hk);have hS:=WS.init (h.mv hk.cd);refine KZ.1 λ_=>?_;have hs:=hS.s;repeat' refine ao ?_;intros
 refine hS.fu (Pc hS.r zQ de gn) kQ λjf w2 X2 bm qt=>?_
 skip
 exact bm.fin
theorem kq {s:bX} (h:Wr w X lo wb vb bs) (hc:Cells w Z cb 0 (ly wb)) (hx:Cells w Z xb xo s.l) (hZ:uU Z X wb vb) (hb:bs.length<=2^37) (gy:lo<=w.heap.size):
  oF 189 #[ptr cb 0,ptr xb xo] w X lo wb vb bs (lE s):=by
 have e1:=fy s.wall;have e2:=fy s.dx;intro w0 hk;have de:lo<=w0.heap.size:=ad gy hk.size;replace hc:=hc.mv (hZ.mv hk);replace hx:=hx.mv (hZ.mv hk);have hS:=WS.init (h.mv hk.cd);refine BF.1 λ_=>?_;have hs:=hS.s;repeat' refine ao ?_;intros
 refine hS.fu (jR (hS.r) (hc.mv hS.at) (Cells.mv aQ hS.at) hS.z zQ de) kQ λjf w2 X2 bm qt=>?_;replace hs:=bm.s;repeat' refine ao ?_;intros
 refine bm.fu (jR (bm.r) (hc.mv bm.at) (Cells.mv aQ bm.at) bm.z oQ (ad de hs.kp.size)) kQ λnk w3 X3 bW uZ=>?_;replace hs:=bW.s;repeat' refine ao ?_;intros
 refine bW.fu (jR (bW.r) (hc.mv bW.at) (Cells.mv aQ bW.at) bW.z oQ (ad de hs.kp.size)) kQ λSz w4 X4 hU Fw=>?_;replace hs:=hU.s
 skip
 rw[ak,ak,<-ak (encI s.wall)] at hU;exact hU.fin
theorem Ad {s:bu} (h:Wr w X lo wb vb bs) (hc:Cells w Z cb 0 (ly wb)) (hx:Cells w Z xb xo s.l) (hZ:uU Z X wb vb) (hb:bs.length<=2^37) (gy:lo<=w.heap.size):
  oF 187 #[ptr cb 0,ptr xb xo] w X lo wb vb bs (nR s):=by
 have e1:=fy s.dU;have e2:=fy s.aN;intro w0 hk;have de:lo<=w0.heap.size:=ad gy hk.size;replace hc:=hc.mv (hZ.mv hk);replace hx:=hx.mv (hZ.mv hk);have hS:=WS.init (h.mv hk.cd);refine Dw.1 λ_=>?_;have hs:=hS.s;repeat' refine ao ?_;intros
 refine hS.fu (jR (hS.r) (hc.mv hS.at) (Cells.mv aQ hS.at) hS.z zQ de) kQ λjf w2 X2 bm qt=>?_;replace hs:=bm.s;repeat' refine ao ?_;intros
 refine bm.fu (jR (bm.r) (hc.mv bm.at) (Cells.mv aQ bm.at) bm.z oQ (ad de hs.kp.size)) kQ λnk w3 X3 bW uZ=>?_;replace hs:=bW.s;repeat' refine ao ?_;intros
 refine bW.fu (jR (bW.r) (hc.mv bW.at) (Cells.mv aQ bW.at) bW.z oQ (ad de hs.kp.size)) kQ λSz w4 X4 hU Fw=>?_;replace hs:=hU.s
 skip
 rw[ak,ak,<-ak (encI s.dU)] at hU;exact hU.fin
theorem AI (s:BA):(wP s).length=(encI s.size).length+s.size:=by
 unfold wP;rw[aa,af]
 congr 1
theorem ZK {v:gK} :(JJ v).length<=100:=by
 unfold JJ;generalize hu:(if v.may then v else gK.zero)=u;have h1:=fy u.kind;have hut:u.kind=2->u.text.size<=64:=by
  intro h2;by_cases hm:v.may=true
  ·rw[if_pos hm] at hu;subst hu;unfold gK.may at hm;rw[if_neg zQ,if_neg zQ,if_pos h2] at hm;simp at hm;omega
  ·rw[if_neg hm] at hu;rw[<-hu] at h2;cases h2
 dsimp only;rw[aa];by_cases k1:u.kind=1
 ·rw[if_pos k1];unfold HN;simp;omega
 ·rw[if_neg k1];by_cases k2:u.kind=2
  ·rw[if_pos k2];have h3:=hut k2;have h4:=fy u.text.size;rw[AI];omega
  ·rw[if_neg k2];simp;omega
theorem Ec {v:gK} (h:Wr w X lo wb vb bs) (hc:Cells w Z cb 0 (ly wb)) (hx:Cells w Z xb xo v.l) (hZ:uU Z X wb vb) (hb:bs.length<=2^37) (gy:lo<=w.heap.size):
  oF 275 #[ptr cb 0,ptr xb xo] w X lo wb vb bs (JJ v):=by
 intro w0 hk;have de:lo<=w0.heap.size:=ad gy hk.size;replace hc:=hc.mv (hZ.mv hk);replace hx:=hx.mv (hZ.mv hk);have hS:=WS.init (h.mv hk.cd);refine Jz.1 λ_=>?_;have hs:=hS.s;repeat' refine ao ?_;intros
 refine hS.fu (ab5 hS.r zQ de) kQ λjf w2 X2 bm qt=>?_
 skip
 exact bm.fin
theorem WD (h:Wr w X lo wb vb bs) (hc:Cells w Z cb 0 (ly wb)) (hx:Cells w Z xb xo x.l) (hZ:uU Z X wb vb) (hb:bs.length<=2^35) (gy:lo<=w.heap.size) (gn:x.key.size<=2^35):
  oF 192 #[ptr cb 0,ptr xb xo] w X lo wb vb bs (sB x):=by
 have e1:(wP x.key).length<=10+x.key.size:=by
  have:=fy x.key.size;rw[AI];omega
 intro w0 hk;have de:lo<=w0.heap.size:=ad gy hk.size;replace hc:=hc.mv (hZ.mv hk);replace hx:=hx.mv (hZ.mv hk);have hS:=WS.init (h.mv hk.cd);refine Ju.1 λ_=>?_;have hs:=hS.s;repeat' refine ao ?_;intros
 refine hS.fu (B6 hS.r (hc.mv hS.at) (Cells.mv aQ hS.at) hS.z zQ de zQ) kQ λjf w2 X2 bm qt=>?_;replace hs:=bm.s;repeat' refine ao ?_;intros
 refine bm.fu (Ec (v:=x.val) bm.r (hc.mv bm.at) (Cells.mv aQ bm.at) bm.z oQ (ad de hs.kp.size)) kQ λnk w3 X3 bW uZ=>?_;replace hs:=bW.s
 skip
 rw[ak] at bW;exact bW.fin
theorem aaG (h:Wr w X lo wb vb bs) (hc:Cells w Z cb 0 (ly wb)) (hx:Cells w Z xb xo x.l) (hZ:uU Z X wb vb) (hb:bs.length<=2^35) (gy:lo<=w.heap.size) (gn:x.key.size<=2^35):
  oF 194 #[ptr cb 0,ptr xb xo] w X lo wb vb bs (sB x):=by
 have e1:(wP x.key).length<=10+x.key.size:=by
  have:=fy x.key.size;rw[AI];omega
 intro w0 hk;have de:lo<=w0.heap.size:=ad gy hk.size;replace hc:=hc.mv (hZ.mv hk);replace hx:=hx.mv (hZ.mv hk);have hS:=WS.init (h.mv hk.cd);refine KW.1 λ_=>?_;have hs:=hS.s;repeat' refine ao ?_;intros
 refine hS.fu (B6 hS.r (hc.mv hS.at) (Cells.mv aQ hS.at) hS.z zQ de zQ) kQ λjf w2 X2 bm qt=>?_;replace hs:=bm.s;repeat' refine ao ?_;intros
 refine bm.fu (Ec (v:=x.val) bm.r (hc.mv bm.at) (Cells.mv aQ bm.at) bm.z oQ (ad de hs.kp.size)) kQ λnk w3 X3 bW uZ=>?_;replace hs:=bW.s
 skip
 rw[ak] at bW;exact bW.fin
theorem lY {α:Type} {f:α->List Nat} {xs:List α} {i:Nat} {x:α} (h:xs[i]? =some x):((xs.take (i+1)).map f).flatten=((xs.take i).map f).flatten++f x:=by
 rw[cn,h];simp
theorem vA (s:bX):(lE s).length<=30:=by
 have h1:=fy s.wall;have h2:=fy s.dx;have h3:=fy s.node;unfold lE;simp only[aa];omega
theorem DE (s:bu):(nR s).length<=30:=by
 have h1:=fy s.dU;have h2:=fy s.aN;have h3:=fy s.sq;unfold nR;simp only[aa];omega
theorem WE {x:gv}
  (h:iU w X A sb kb pb hm pm low) (hX: ∀k,X k->k<w.heap.size) (h1:Sl w X 1 vr (x.reads.map S1)) (h2:Sl w X 4 vw (x.writes.map KV.l)):
  Ct pg 291 #[ptr sb 0,x.v vr vw] w X nX λv _ _=>v=B (pm.any λq=>x.EN q.2):=by
 intro w0 hk;replace h:=h.mv hX hk.cd;replace h1:=h1.mv hk.cd;replace h2:=h2.mv hk.cd;have fY:=h.box;have Dv:=h1.gN;have xP:=h2.gN;refine JB.1 λhs=>?_;repeat' refine ao ?_;intros
 refine alO (kt:=34) (et:=306) h.ib qJ.mv h.sub kQ hs.has λr w X hr ay Ox=>?_;replace hs:=hs.trans ay;refine gO (λn _ _ w X=> ∃left,n=left.length/\ai (bN w0) w0 X w/\MC w X A r pb (λk:bu=>k.v) qJ pm left/\(pm.any λq=>x.EN q.2)=left.any λq=>x.EN q.2)
  pm.length ⟨pm,rfl,hs,Ox,rfl⟩ ?_
 rintro n a b w X ⟨left,rfl,hs,Ox,hw⟩;refine aop Ox qJ.mv (λk hk=>⟨hs.sub k (h.sub k hk),λe=>by have:k<w0.heap.size:=h.sub k hk;omega⟩) hs.has (λe0 w X ay=>?_) λkx q v mf w1 X1 hc jB asi he=>?_
 ·replace hs:=hs.trans ay;repeat' first|refine ao ?_;intros|(refine qr ?_;intro wa hk;(rw[hw,e0];rfl))
 ·have gn:=hs.ea hc λk hk e=>by have:k<w0.heap.size:=hk;omega
  obtain⟨ur,uw,rfl,q1,q2⟩:=jB;have hA1: ∀k,A k->X1 k:=λk hk=>gn.sub k (h.sub k hk);replace q1:=q1.mv (Mv.sub hA1);replace q2:=q2.mv (Mv.sub hA1);have o1:=q1.one;have o2:=q2.one;rw[agT _ Ox.nodup mf] at hw;replace hs:=ai.fK gn.has;repeat' refine ao ?_;intros
  refine alP hs.has he λw X ay=>?_;replace hs:=hs.trans ay;repeat' refine ao ?_;intros
  refine eI (λn a w X=> ∃i:Nat,a=I (i:Nat)/\n=x.writes.length-i/\i<=x.writes.length/\ai X1 w1 X w/\
   (x.writes.any (λw=>q.has w.key||q.reads.any λk=>decide (w.key=k))=(x.writes.drop i).any (λw=>q.has w.key||q.reads.any λk=>decide (w.key=k)))) x.writes.length
   ⟨0,rfl,rfl,aq _,hs,by simp⟩ ?_
  rintro n a w X ⟨i,rfl,rfl,hi,hs,sL⟩;rcases dD (x.writes) i with⟨cx,y,hy,hd⟩|⟨dA,hd⟩
  ·rw[hd,zG] at sL;repeat' first|refine aL ?_;intros|with_reducible apply cJ|(refine qr ?_;intro wa hk;(rw[hw];simp[gv.EN,sL, *]))|((with_reducible refine dS ((x.writes).length-(i+1)) ?_ ?_);omega;exact⟨i+1,by simp,rfl,by omega,hs,by rw[sL];simp[*]⟩)|(refine qv (KB  (p:=q) hs.has qA) hs ?_ ?_<;>intro _ w X hs)|(refine qv (vJ  qA) hs ?_ ?_<;>intro _ w X hs)
  ·rw[hd] at sL;repeat' refine aL ?_;intros
   refine eI (λn a w X=> ∃i:Nat,a=I (i:Nat)/\n=x.reads.length-i/\i<=x.reads.length/\ai X1 w1 X w/\
    (x.reads.any (λk=>q.has k)=(x.reads.drop i).any (λk=>q.has k))) x.reads.length
    ⟨0,rfl,rfl,aq _,hs,by simp⟩ ?_
   rintro n a w X ⟨j,rfl,rfl,hj,hs,wB⟩;rcases dD x.reads j with⟨cx,y,hy,sG⟩|⟨Fs,sG⟩
   ·rw[sG,zG] at wB;repeat' first|refine aL ?_;intros|(refine qr ?_;intro wa hk;(rw[hw];simp[gv.EN,wB, *]))|((with_reducible refine dS (x.reads.length-(j+1)) ?_ ?_);omega;exact⟨j+1,by simp,rfl,by omega,hs,by rw[wB];simp[*]⟩)|(refine qv (KB  (p:=q) hs.has qA) hs ?_ ?_<;>intro _ w X hs)
   ·rw[sG] at wB;repeat' refine aL ?_;intros
    refine fZ _ (alN mf) ⟨_,rfl,gn.trans hs,asi.mv qJ.mv (ai.mv hs) (ai.je hs hA1),?_⟩;rw[hw];have:x.EN q=false:=by unfold gv.EN;rw[sL,wB];rfl
    simp[this]
def gv.fresh (wa w':World) (v:Value) (p:gv):Prop:=
 ∃vr vw,v=p.v vr vw/\Own w' (made wa w') wa.heap.size 9 1 vr (p.reads.map S1)/\Own w' (made wa w') wa.heap.size 178 4 vw (p.writes.map KV.l)/\
  ∀g,vr.ownBlock=some g->vw.ownBlock≠some g
theorem aaH (h1:Sl w X 1 vr (p.reads.map S1)) (h2:Sl w X 4 vw (p.writes.map KV.l)) (lM:p.reads.length<=2^40) (uY:p.writes.length<=2^40):
  Ct pg 293 #[p.v vr vw] w X nX λv wa w'=>p.fresh wa w' v:=by
  intro w0 hk;replace h1:=h1.mv hk.cd;replace h2:=h2.mv hk.cd;refine Wq.1 λhs=>?_;refine cA (KA h1 lM) kQ hs.has ?_;rintro v1 wa w X vu qf nJ ay;replace hs:=hs.trans ay;have q1:=vu.sl.one;repeat' refine ao ?_;intros
  refine cA (ID (h2.mv (ai.mv hs)) uY) kQ hs.has ?_;rintro v2 wb w2 X2 jV lD kh bA;have hb:w0.heap.size<=wa.heap.size:=qf;have aoK:Own w X w0.heap.size 9 1 v1 (p.reads.map S1):=vu.up nJ hb;have asj:=aoK.since bA;have asl:w0.heap.size<=wb.heap.size:=ad hs.kp.size lD;have asm:Own w2 X2 w0.heap.size 178 4 v2 (p.writes.map KV.l):=jV.up kh asl;have q2:=jV.sl.one;replace hs:=hs.trans bA;repeat' first|refine ao ?_;intros|(refine qr ?_;intro wa hk;(exact⟨v1,v2,rfl,(asj.kp hk).tight,(asm.kp hk).tight,λg Zr xN=>by have:=(aoK.ge Zr).2;have:=(jV.ge xN).1;omega⟩))
def Cs (X:XS) (a b c:Nat):XS:=λk=>X k/\k≠a/\k≠b/\k≠c
theorem afp:Ct pg 288 #[] w X nX λv wa w'=>
  ∃sb kb pb,v=ptr sb 0/\iU w' (made wa w') (Cs (made wa w') sb kb pb) sb kb pb [] [] .zero/\sb≠kb/\sb≠pb/\kb≠pb:=by
 intro w0 hk;refine abY.1 λhs=>?_;refine rA (kv:=λs:BA=>aP s) sc nX hs.has λkb w1 X1 pF ay qy=>?_;refine rA (kv:=λk:bu=>k.v) qJ nX ay.has λpb w2 X2 Il bA rC=>?_;have asn:=qy.x;have aso:=rC.x;have asp:=qy.mv sc.mv (ai.mv bA) (Y:=X2) (A':=nX) (λ_ h=>h.elim);replace hs:=(hs.trans ay).trans bA;repeat' first|refine ao ?_;intros|(refine OQ hs ?_;intro bx w X fY ay gn hs br)
 refine bQ (gn.trans hs) ?_;intro wa hk;have rq:=(br.kp hk).lt;have aoL:=ay.kp.trans (hk.less ay.sub);have asq:made w0 wa kb:=⟨pF,by omega⟩;have asr:made w0 wa pb:=⟨by omega,by omega⟩;exact⟨bx,kb,pb,rfl,⟨br.own.mv (Mv.one hk br.1 ⟨by omega,rq⟩),asp.own.mv sc.mv (Mv.one aoL (bA.sub _ asn.1) asq) (λ_ h=>h.elim),
  rC.own.mv qJ.mv (Mv.one aoL aso.1 asr) (λ_ h=>h.elim),λk hk=>hk.1,λk hk=>hk.2⟩,by omega,by omega,by omega⟩
def DT:BA->List kF->Bool
 |_,[]=>true
 |a,h::r=>h.ok a&&DT h.key r
def yG (l:List kF):List (BA×List pJ):=l.foldl (λm h=>cI h.key h.mS m) []
def SA (hm:List (BA×List pJ)):List (bu×gv)->List gv->Int
 |_,[]=>0
 |pm,p::r=>if p.err≠0 then p.err else if(getM p.aH pm).isSome then 9 else if pm.any (λq=>p.EN q.2)then 18 else if MV hm p then 20
  else SA hm (cI p.aH p pm) r
def E2 (hl:List kF) (pl:List gv):Int:=if DT ⟨#[]⟩ hl then SA (yG hl) [] pl else 4
def iU.grow {A':XS} (h:iU w X A sb kb pb hm pm low)
  (hA: ∀k,A k->A' k) (hs: ∀k,A' k->X k/\k≠sb/\k≠kb/\k≠pb):iU w X A' sb kb pb hm pm low:=
 ⟨h.box,h.keys.mv sc.mv (Mv.refl _ _) (Mv.sub hA),h.ib.mv qJ.mv (Mv.refl _ _) (Mv.sub hA),λk hk=>(hs k hk).1,λk hk=>(hs k hk).2⟩
def iU.to (h:iU w X (Cs X sb kb pb) sb kb pb hm pm low)
  (hs:ai X w Y w') (hX: ∀k,X k->k<w.heap.size):iU w' Y (Cs Y sb kb pb) sb kb pb hm pm low:=
 (h.mv hX (ai.mv hs)).grow (λk hk=>⟨hs.sub k hk.1,hk.2⟩) λk hk=>hk
def XL (lo:Nat) (X:XS):XS:=λk=>X k/\lo<=k
def iU.toL (h:iU w X (Cs (XL lo X) sb kb pb) sb kb pb hm pm low)
  (hs:ai X w Y w') (hX: ∀k,X k->k<w.heap.size):iU w' Y (Cs (XL lo Y) sb kb pb) sb kb pb hm pm low:=
 (h.mv hX (ai.mv hs)).grow (λk hk=>⟨⟨hs.sub k hk.1.1,hk.1.2⟩,hk.2⟩) λk hk=>⟨hk.1.1,hk.2⟩
variable {wa : World}
theorem iU.fin (h:iU w X (Cs (XL w0.heap.size X) sb kb pb) sb kb pb hm pm low)
  (hk:Kp X w wa) (h1:w0.heap.size<=sb) (h2:w0.heap.size<=kb) (h3:w0.heap.size<=pb):iU wa (made w0 wa) (Cs (made w0 wa) sb kb pb) sb kb pb hm pm low:=by
 have hz:=hk.size;have ma:Mv (Cs (XL w0.heap.size X) sb kb pb) w (Cs (made w0 wa) sb kb pb) wa:=λk ah hl=>⟨⟨⟨ah.1.2,by omega⟩,ah.2⟩,hk.block k ah.1.1⟩;have l1:=h.box.lt;have l2:=h.keys.x.2;have l3:=h.ib.x.2;exact⟨h.box.own.mv (Mv.one hk h.box.1 ⟨h1,by omega⟩),h.keys.own.mv sc.mv (Mv.one hk h.keys.x.1 ⟨h2,by omega⟩) ma,h.ib.own.mv qJ.mv (Mv.one hk h.ib.x.1 ⟨h3,by omega⟩) ma,λk hk=>hk.1,λk hk=>hk.2⟩
def T5 (l:List gv):List (bu×gv):=l.foldl (λm p=>cI p.aH p m) []
def L4 (l:List gv):Prop:= ∀p∈l,p.reads.length<=2^40/\p.writes.length<=2^40
def L3 (l:List kF):Prop:= ∀h∈l,h.mS.length<=2^40
variable {pl : List gv} {hl : List kF}
theorem aaI (h1:qL w X vh hl) (h2:qK w X vp pl) (lM:L3 hl) (uY:L4 pl):
  Ct pg 220 #[vh,vp] w X nX λv wa w'=> ∃(u:Value) (n:Int),v= .tuple #[u,I n]/\n=E2 hl pl/\
   (n=0-> ∃sb kb pb,u=ptr sb 0/\sb≠kb/\sb≠pb/\kb≠pb/\iU w' (made wa w') (Cs (made wa w') sb kb pb) sb kb pb (yG hl) (T5 pl) .zero):=by
 intro w0 hk;replace h1:=h1.mv hk.cd;replace h2:=h2.mv hk.cd;have Dv:=h1.len;have xP:=h2.len;refine aaj.1 λhs=>?_;refine cA afp kQ hs.has ?_;rintro v wa w X ⟨sb,kb,pb,rfl,fO,ne1,ne2,ne3⟩ hle gu ay;have Uo:w0.heap.size<=sb:=ad hle fO.box.1.1;have pF:w0.heap.size<=kb:=ad hle fO.keys.x.1.1;have Il:w0.heap.size<=pb:=ad hle fO.ib.x.1.1;replace hs:=hs.trans ay;have ass:iU w X (Cs (XL w0.heap.size X) sb kb pb) sb kb pb [] [] .zero:=(fO.mv (λk hk=>hk.2) (Mv.sub gu)).grow (λk hk=>⟨⟨gu k hk.1,ad hle hk.1.1⟩,hk.2⟩) λk hk=>⟨hk.1.1,hk.2⟩;clear fO;repeat' refine ao ?_;intros
 refine gO (λn a b w X=> ∃(i:Nat) (s:BA),a=I i/\b= .string s/\n=hl.length-i/\i<=hl.length/\ai (bN w0) w0 X w/\
  iU w X (Cs (XL w0.heap.size X) sb kb pb) sb kb pb (yG (hl.take i)) [] .zero/\DT ⟨#[]⟩ hl=DT s (hl.drop i)) hl.length
  ⟨0,⟨#[]⟩,rfl,rfl,rfl,aq _,hs,ass,by rw[tD]⟩ ?_
 rintro n a b w X ⟨i,s,rfl,rfl,rfl,hi,gn,fO,hw⟩;have hs:=ai.fK gn.has;rcases dD (hl) i with⟨cx,x,hx,hd⟩|⟨dA,hd⟩
 ·rw[hd,DT] at hw;have Kw:=lM x (ax hx);have fY:=fO.box;repeat' first|refine aL ?_;intros|((with_reducible apply Sw);assumption;(try (case hz=>rfl));(case hr=>exact qR);(try (case hz=>omega));(case ht=>kernel_rfl);(case hs=>kernel_rfl);intros)|(refine qv (T4 (h:=x) (ahead:=s) (by first|assumption|exact Sl.mv aQ (ai.mv (gn.trans hs)))) hs ?_ ?_<;>intro _ w X hs)|(first|(with_reducible refine bQ (gn.trans hs) ?_);intro wa hk;exact⟨_,_,rfl,by rw[E2,hw];simp[*],λe=>absurd e dQ⟩)
  have hvv:= ‹Sl w0 (bN w0) 6 _ (x.mS.map pJ.l)›;have kz:= ‹x.ok s=true›;refine cA (Qn (hvv.mv (ai.mv (gn.trans hs))) Kw) kQ hs.has ?_;rintro v1 wa w2 X2 vu qf nJ bA;have YV:=hs.kp.size;have Qq:=fO.toL (hs.trans bA) gn.has;have lq:Sl w2 (Cs (XL w0.heap.size X2) sb kb pb) 6 v1 (x.mS.map pJ.l):=vu.sl.mv (Mv.sub λk hk=>⟨⟨nJ k hk,by have:w0.heap.size<=_:=ad gn.kp.size hs.kp.size;have:=hk.1;omega⟩,by
   have q1:=gn.has sb fO.box.1;have q2:=gn.has kb fO.keys.x.1;have q3:=gn.has pb fO.ib.x.1;have:=hk.1;refine⟨?_,?_,?_⟩<;>omega⟩)
  replace hs:=hs.trans bA;repeat' refine ao ?_;intros
  refine vK (kv:=λs:BA=>aP s) (k:=x.key) (et:=300) Qq.keys sc.mv lq (λk hk=>⟨hk.1.1,hk.2.2.1⟩) yF kQ hs.has λw3 X3 hc qx=>?_;have dm:=(gn.trans hs).ea hc λk hk e=>by have:k<w0.heap.size:=hk;omega
  have ajP:iU w3 X3 (Cs (XL w0.heap.size X3) sb kb pb) sb kb pb (yG (hl.take (i+1))) [] .zero:=by
   have fY:=Qq.box;have zg:=Qq.ib;have e:yG (hl.take (i+1))=cI x.key x.mS (yG (hl.take i)):=by
    rw[cn,hx];simp[yG]
   rw[e];have mo: ∀b,X2 b->b≠kb->Mv (λk=>k=b) w2 X3 w3:=λb hb bU k ah _=>by subst ah;exact⟨hc.sub _ hb,hc.block _ hb bU⟩
   exact⟨fY.own.mv (mo _ fY.1 ne1),qx.mv sc.mv (Mv.refl _ _) (Mv.sub λk hk=>⟨⟨hc.sub k hk.1.1,hk.1.2⟩,hk.2⟩),
    zg.own.mv qJ.mv (mo _ zg.x.1 ne3.symm) (λk hk _=>⟨⟨⟨hc.sub k hk.1.1,hk.1.2⟩,hk.2⟩,hc.block k hk.1.1 hk.2.2.1⟩),λk hk=>hk.1.1,λk hk=>hk.2⟩
  replace hs:=dm;repeat' first|refine ao ?_;intros|((with_reducible refine fZ ((hl).length-(i+1)) ?_ ?_);omega;exact⟨i+1,x.key,by simp,rfl,rfl,by omega,hs,ajP,by rw[hw,kz];rfl⟩)
 ·have hlen:hl.take i=hl:=aB dA;rw[hd] at hw;rw[hlen] at fO;repeat' refine aL ?_;intros
  refine eI (λn a w X=> ∃(i:Nat) (pm:List (bu×gv)),a=I i/\n=pl.length-i/\i<=pl.length/\ai (bN w0) w0 X w/\
   iU w X (Cs (XL w0.heap.size X) sb kb pb) sb kb pb (yG hl) pm .zero/\pm=T5 (pl.take i)/\E2 hl pl=SA (yG hl) pm (pl.drop i)) pl.length
   ⟨0,[],rfl,rfl,aq _,gn,fO,rfl,by rw[tD,E2,hw];rfl⟩ ?_
  rintro n a w X ⟨j,pm,rfl,rfl,hj,gn,fO,zg,sL⟩;have hs:=ai.fK gn.has;rcases dD pl j with⟨Tf,x,hx,sG⟩|⟨Fs,sG⟩
  ·rw[sG,SA] at sL;have Kw:=uY x (ax hx);have fY:=fO.box;repeat' first|refine aL ?_;intros|((with_reducible apply Xi);assumption;(try (case hz=>rfl));(case hr=>exact qR);(try (case hz=>omega));(case ht=>kernel_rfl);(case hs=>kernel_rfl);intros)|(refine VD (zI (p:=x) (by first|assumption|exact Sl.mv aQ (ai.mv (gn.trans hs))) (by first|assumption|exact Sl.mv aQ (ai.mv (gn.trans hs))) Kw.2) hs ?_;intro w X hs)
   refine Ga (kv:=λk:bu=>k.v) (k:=x.aH) (kt:=34) (et:=306) (.agg #[I 0,I 0,I 0,I 0,I 0,I 0,.slice none 0 0,.slice none 0 0]) (fO.mv gn.has (ai.mv hs)).ib td kQ kQ (λv q hg jB=>?_) λhg=>?_
   ·obtain⟨ur,uw,rfl,q1,q2⟩:=jB;have o1:=q1.one;have o2:=q2.one;repeat' first|refine ao ?_;intros|refine cP ?_ ?_<;>intros|(first|(with_reducible refine bQ (gn.trans hs) ?_);intro wa hk;exact⟨_,_,rfl,by clear zg;rw[sL];simp[*],λe=>absurd e (by first|decide|assumption)⟩)
   ·repeat' first|refine ao ?_;intros|refine cP ?_ ?_<;>intros|(first|(with_reducible refine bQ (gn.trans hs) ?_);intro wa hk;exact⟨_,_,rfl,by clear zg;rw[sL];simp[*],λe=>absurd e (by first|decide|assumption)⟩)|(refine qv (WE (x:=x) (fO.mv gn.has (ai.mv hs)) hs.has (by first|assumption|exact Sl.mv aQ (ai.mv (gn.trans hs))) (by first|assumption|exact Sl.mv aQ (ai.mv (gn.trans hs)))) hs ?_ ?_<;>intro _ w X hs)|(refine qv (afo (x:=x) (fO.mv gn.has (ai.mv hs)) hs.has (by first|assumption|exact Sl.mv aQ (ai.mv (gn.trans hs)))) hs ?_ ?_<;>intro _ w X hs)
    have he:x.err=0:= ‹x.err=0›;have ast:(pm.any λq=>x.EN q.snd)=false:= ‹_›;have asu:MV (yG hl) x=false:= ‹_›;refine cA (aaH (p:=x) (by first|exact Sl.mv aQ (ai.mv (gn.trans hs))) (by first|exact Sl.mv aQ (ai.mv (gn.trans hs))) Kw.1 Kw.2) kQ hs.has ?_;rintro v1 wa w2 X2 ⟨ur,uw,rfl,vu,jV,-⟩ qf nJ bA;have YV:=hs.kp.size;have Qq:=fO.toL (hs.trans bA) gn.has;have gq: ∀k,made wa w2 k->Cs (XL w0.heap.size X2) sb kb pb k:=λk hk=>⟨⟨nJ k hk,by have:w0.heap.size<=_:=ad gn.kp.size hs.kp.size;have:=hk.1;omega⟩,by
     have q1:=gn.has sb fO.box.1;have q2:=gn.has kb fO.keys.x.1;have q3:=gn.has pb fO.ib.x.1;have:=hk.1;refine⟨?_,?_,?_⟩<;>omega⟩
    have lq:qJ w2 (Cs (XL w0.heap.size X2) sb kb pb) (x.v ur uw) x:=⟨ur,uw,rfl,vu.sl.mv (Mv.sub gq),jV.sl.mv (Mv.sub gq)⟩;replace hs:=hs.trans bA;refine vK (kv:=λk:bu=>k.v) (k:=x.aH) (et:=306) Qq.ib qJ.mv lq (λk hk=>⟨hk.1.1,hk.2.2.2⟩) td kQ hs.has λw3 X3 hc qx=>?_;have dm:=(gn.trans hs).ea hc λk hk e=>by have:k<w0.heap.size:=hk;omega
    have ajP:iU w3 X3 (Cs (XL w0.heap.size X3) sb kb pb) sb kb pb (yG hl) (cI x.aH x pm) .zero:=by
     have fY:=Qq.box;have hkm:=Qq.keys;have mo: ∀b,X2 b->b≠pb->Mv (λk=>k=b) w2 X3 w3:=λb hb bU k ah _=>by subst ah;exact⟨hc.sub _ hb,hc.block _ hb bU⟩
     exact⟨fY.own.mv (mo _ fY.1 ne2),hkm.own.mv sc.mv (mo _ hkm.x.1 ne3) (λk hk _=>⟨⟨⟨hc.sub k hk.1.1,hk.1.2⟩,hk.2⟩,hc.block k hk.1.1 hk.2.2.2⟩),
      qx.mv qJ.mv (Mv.refl _ _) (Mv.sub λk hk=>⟨⟨hc.sub k hk.1.1,hk.1.2⟩,hk.2⟩),λk hk=>hk.1.1,λk hk=>hk.2⟩
    replace hs:=dm;repeat' first|refine ao ?_;intros|((with_reducible refine dS (pl.length-(j+1)) ?_ ?_);omega;exact⟨j+1,_,by simp,rfl,by omega,hs,ajP,by rw[cn,hx,zg];simp[T5],by rw[sL];simp[he,hg,ast,asu]⟩)
  ·rw[sG] at sL;repeat' first|refine aL ?_;intros|(first|(with_reducible refine bQ (gn.trans hs) ?_);intro wa hk;exact⟨_,_,rfl,by rw[sL];rfl,λ_=>⟨sb,kb,pb,rfl,ne1,ne2,ne3,by rw[aB Fs] at zg;rw[<-zg];exact fO.fin hk Uo pF Il⟩⟩)
def ab7 (h1:qL w X vh hl) (h2:qK w X vp pl) (lM:L3 hl) (uY:L4 pl):
  Ct pg 220 #[vh,vp] w X nX λv _ _=> ∃u:Value,v= .tuple #[u,I (E2 hl pl)]:=
 (aaI h1 h2 lM uY).mono λ_ _ _ _ ⟨u,_,h,e,_⟩=>⟨u,e▸h⟩
def aek (l:List kF):Prop:= ∀h∈l,h.key.size<=2^40
def ael (l:List gv):Prop:= ∀p∈l,(∀k∈p.reads,k.size<=2^40)/\ ∀x∈p.writes,x.key.size<=2^40
structure State.small (s:State):Prop where
 h:L3 s.iG
 p:L4 s.ib
 hk:aek s.iG
 pk:ael s.ib
structure Rec.small (r:Rec):Prop where
 reads:r.reads.length<=2^40
 writes:r.writes.length<=2^40
 rk: ∀k∈r.reads,k.size<=2^40
 wk: ∀x∈r.writes,x.key.size<=2^40
 state:r.state.small
def eY.has (r:eY) (x:Nat):Bool:=(Kv x r.lo||pK x r.lo)&&qB x r.hi
def eY.key (r:eY) (k:BA):Bool:=r.has (placeOf k)
def State.inside (s:State):Bool:=s.iG.all (λh=>s.range.key h.key)&&s.ib.all λp=>p.reads.all s.range.key&&p.writes.all λx=>s.range.key x.key
def State.may (s:State):Bool:=s.range.may&&s.floor.may&&s.closed.may&&decide (E2 s.iG s.ib=0)&&s.inside
theorem MZ {b:Nat} (h:Cells w X b 0 (s.l vh vp)) (ah:k.size<=2^62):
  Ct pg 221 #[.string k,ptr b 0] w X nX λv _ _=>v=B (s.range.key k):=by
 intro w0 hk;replace h:=h.mv hk.cd;refine KY.1 λhs=>?_;repeat' first|refine ao ?_;intros|(refine kn (JF _ _) hs ?_ ?_<;>intro _ w X hs)|(refine pH (JI _ (by first|assumption|omega)) hs ?_;intro w X hs)|(refine qr ?_;intro wa hk;(simp[eY.key,eY.has, *]))
theorem Ha (h1:qL w X vh s.iG) (h2:qK w X vp s.ib) (ml:s.small):
  Ct pg 151 #[s.v vh vp] w X nX λv _ _=>v=B s.may:=by
 intro w0 hk;replace h1:=h1.mv hk.cd;replace h2:=h2.mv hk.cd;have Dv:=h1.len;have xP:=h2.len;refine Qf.1 λhs=>?_;repeat' first|refine ao ?_;intros|refine cP ?_ ?_<;>intros|(refine OQ hs ?_;intro bx w X fY ay gn hs br)|with_reducible apply cJ|(refine kn (pO _) hs ?_ ?_<;>intro _ w X hs)|(refine kn (wI _) hs ?_ ?_<;>intro _ w X hs)|(refine qr ?_;intro wa hk;(simp[State.may, *]))|(refine cA ((ab7 (hl:=s.iG) (pl:=s.ib))  qA qA ml.h ml.p) kQ hs.has ?_;rintro _ wa w X ⟨u,rfl⟩ hle gu ay;have gy:=ad hs.kp.size hle;replace hs:=hs.trans ay)
 have GG: ∀k:BA,k.size<=2^40-> ∀w X,ai _ _ X w->Ct pg 221 #[.string k,ptr bx 0] w X nX λv _ _=>v=B (s.range.key k):=λk hk w X hs=>MZ (br.since hs).cells zQ;have afq:s.may=s.inside:=by simp[State.may, *]
 refine eI (λn a w X=> ∃i:Nat,a=I (i:Nat)/\n=s.iG.length-i/\i<=s.iG.length/\ai _ _ X w/\
  (s.iG.all (λh=>s.range.key h.key))=((s.iG.drop i).all λh=>s.range.key h.key)) s.iG.length ⟨0,rfl,rfl,aq _,hs,by simp⟩ ?_
 rintro n a w X ⟨i,rfl,rfl,hi,hs,hw⟩;rcases dD (s.iG) i with⟨cx,x,hx,hd⟩|⟨dA,hd⟩
 ·rw[hd,iY] at hw;have hkx:=ml.hk x (ax hx);repeat' first|refine aL ?_;intros|((with_reducible apply Sw);assumption;(try (case hz=>rfl));(case hr=>exact qR);(try (case hz=>omega));(case ht=>kernel_rfl);(case hs=>kernel_rfl);intros)|(refine qr ?_;intro wa hk;(simp[afq,State.inside,hw, *]))|(refine qv (GG x.key hkx _ _ hs) hs ?_ ?_<;>intro _ w X hs)|((with_reducible refine dS ((s.iG).length-(i+1)) ?_ ?_);omega;exact⟨i+1,by simp,rfl,by omega,hs,by rw[hw];simp[*]⟩)
 ·rw[hd] at hw;repeat' refine aL ?_;intros
  refine BE (λn a _ _ w X=> ∃i:Nat,a=I (i:Nat)/\n=s.ib.length-i/\i<=s.ib.length/\ai _ _ X w/\
   (s.ib.all λp=>p.reads.all s.range.key&&p.writes.all λx=>s.range.key x.key)=((s.ib.drop i).all λp=>p.reads.all s.range.key&&p.writes.all λx=>s.range.key x.key)) s.ib.length ⟨0,rfl,rfl,aq _,hs,by simp⟩ ?_
  rintro n a a2 a3 w X ⟨j,rfl,rfl,hj,hs,sL⟩;rcases dD s.ib j with⟨cx,p,hp,sG⟩|⟨Fs,sG⟩
  ·rw[sG,iY] at sL;obtain⟨rr,jI⟩:=ml.pk p (ax hp);repeat' first|refine aL ?_;intros|((with_reducible apply Xi);assumption;(try (case hz=>rfl));(case hr=>exact qR);(try (case hz=>omega));(case ht=>kernel_rfl);(case hs=>kernel_rfl);intros)
   have hl3:=Sl.gN ‹Sl w0 (bN w0) 1 _ (p.reads.map S1)›;have QU:=Sl.gN ‹Sl w0 (bN w0) 4 _ (p.writes.map KV.l)›;refine eI (λn a w X=> ∃i:Nat,a=I (i:Nat)/\n=p.reads.length-i/\i<=p.reads.length/\ai _ _ X w/\p.reads.all s.range.key=(p.reads.drop i).all s.range.key) p.reads.length ⟨0,rfl,rfl,aq _,hs,by simp⟩ ?_;rintro n a w X ⟨k,rfl,rfl,hk3,hs,wB⟩;rcases dD p.reads k with⟨at8,y,hy,hd3⟩|⟨at9,hd3⟩
   ·rw[hd3,iY] at wB;have hky:=rr y (ax hy);repeat' first|refine aL ?_;intros|(refine qr ?_;intro wa hk;(simp[afq,State.inside,sL,wB, *]))|(refine qv (GG y hky _ _ hs) hs ?_ ?_<;>intro _ w X hs)|((with_reducible refine dS (p.reads.length-(k+1)) ?_ ?_);omega;exact⟨k+1,by simp,rfl,by omega,hs,by rw[wB];simp[*]⟩)
   ·rw[hd3] at wB;repeat' refine aL ?_;intros
    refine eI (λn a w X=> ∃i:Nat,a=I (i:Nat)/\n=p.writes.length-i/\i<=p.writes.length/\ai _ _ X w/\(p.writes.all λx=>s.range.key x.key)=(p.writes.drop i).all λx=>s.range.key x.key) p.writes.length ⟨0,rfl,rfl,aq _,hs,by simp⟩ ?_;rintro n a w X ⟨m,rfl,rfl,hm,hs,Gy⟩;rcases dD p.writes m with⟨aua,y,hy,hd4⟩|⟨aub,hd4⟩
    ·rw[hd4,iY] at Gy;have hky:=jI y (ax hy);repeat' first|refine aL ?_;intros|(refine qr ?_;intro wa hk;(simp[afq,State.inside,sL,wB,Gy, *]))|(refine qv (GG y.key hky _ _ hs) hs ?_ ?_<;>intro _ w X hs)|((with_reducible refine dS (p.writes.length-(m+1)) ?_ ?_);omega;exact⟨m+1,by simp,rfl,by omega,hs,by rw[Gy];simp[*]⟩)
    ·rw[hd4] at Gy;repeat' first|refine aL ?_;intros|((with_reducible refine zU (s.ib.length-(j+1)) ?_ ?_);omega;exact⟨j+1,by simp,rfl,by omega,hs,by rw[sL,wB,Gy];simp⟩)
  ·rw[sG] at sL;repeat' first|refine aL ?_;intros|(refine qr ?_;intro wa hk;(rw[afq,State.inside,hw,sL];rfl))
def NP (prev st:bX) (t:bu) (l:List KV):Bool:=prev.may&&decide (prev.cmp st<0)&&decide (l≠[])&&decide (gv.err ⟨t,st,[],l⟩=0)
theorem M3 {prev st:bX} {t:bu} {l:List KV} (h:Sl w X 4 a (l.map KV.l)) (hb:l.length<=2^40):
  Ct pg 152 #[prev.v,st.v,t.v,a] w X nX λv _ _=>v=B (NP prev st t l):=by
 intro w0 hk;replace h:=h.mv hk.cd;obtain⟨b1,n1,c1,rfl⟩:=h.form;refine Wj.1 λhs=>?_;repeat' first|refine ao ?_;intros|refine cP ?_ ?_<;>intros|with_reducible apply cJ|(refine kn (pO _) hs ?_ ?_<;>intro _ w X hs)|(refine pH (wE _ _) hs ?_;intro w X hs)|(refine qr ?_;intro wa hk;(simp_all [NP]<;>omega))|(refine VD (zI  (p:=⟨t,st,[],l⟩) (Sl.nil _ _ _) qA hb) hs ?_;intro w X hs)
def ac7 (x:Nat):Bool:=decide ((EZ x).2=0)&&Kv (EZ x).1 0&&qB (EZ x).1 G9
def wJ (n:Int):Bool:=decide (n>=1)&&decide (n<=12)
def Rec.ql (r:Rec):Bool:=
 if r.kind=1 then r.state.may
 else if r.kind=2 then decide (r.n>=0)&&decide (r.n<=281474976710656)
 else if r.kind=3 then decide (gv.err ⟨r.aH,r.aV,r.reads,r.writes⟩=0)&&yU r.parts
 else if r.kind=4 then r.aH.may&&r.aV.TY r.jK
 else if r.kind=5 then r.aV.may
 else if r.kind=6 then ac7 r.su&&wJ r.n&&r.aV.may
 else if r.kind=7 then wJ r.n
 else if r.kind=8 then decide (r.n>=1)
 else if r.kind=9 then r.aH.may&&r.aV.Iq&&yU r.parts
 else if r.kind=10 then r.aH.may
 else if r.kind=11 then NP r.prev r.aV r.aH r.writes
 else r.aV.may&&NO r.xu
theorem WG (h:r.at w X vr vw vp vq vh vd) (ml:r.small):
  Ct pg 278 #[r.v vr vw vp vq vh vd] w X nX λv _ _=>v=B r.ql:=by
 intro w0 hk;obtain⟨h1,h2,h3,h4,h5,h6⟩:=h.mv hk.cd;obtain⟨b1,n1,c1,rfl⟩:=h1.form;obtain⟨b2,n2,c2,rfl⟩:=h2.form;refine TP.1 λhs=>?_;repeat' first|refine ao ?_;intros|refine cP ?_ ?_<;>intros|with_reducible apply cJ|(refine kn (pO _) hs ?_ ?_<;>intro _ w X hs)|(refine kn (Eb _) hs ?_ ?_<;>intro _ w X hs)|(refine kn (TZ _ _) hs ?_ ?_<;>intro _ w X hs)|(refine pH (Wy _) hs ?_;intro w X hs)|(refine kn (Wx _) hs ?_ ?_<;>intro _ w X hs)|(refine kn (Ky _) hs ?_ ?_<;>intro _ w X hs)|(refine qv (Ha  (s:=r.state) qA qA ml.state) hs ?_ ?_<;>intro _ w X hs)|(refine VD (zI  (p:=⟨r.aH,r.aV,r.reads,r.writes⟩) qA qA ml.writes) hs ?_;intro w X hs)|(refine qv (MT  qA) hs ?_ ?_<;>intro _ w X hs)|(refine qv (aaC  qA) hs ?_ ?_<;>intro _ w X hs)|(refine qv ((M3 (l:=r.writes))  qA ml.writes) hs ?_ ?_<;>intro _ w X hs)
 all_goals
  (with_reducible refine bQ hs ?_)
  intro wa aK;unfold Rec.ql;repeat (first|rw[if_pos zQ]|rw[if_neg zQ])
  simp_all [ac7,wJ,G9]<;>omega
def Rec.err (r:Rec):Int:=if !r.strip.2 then 7 else if !r.strip.1.isZero||!r.ql then 4 else 0
theorem afr (h:r.at w X vr vw vp vq vh vd) (ml:r.small):
  Ct pg 196 #[r.v vr vw vp vq vh vd] w X nX λv _ _=>v=I r.err:=by
 intro w0 hk;have h:=h.mv hk.cd;refine abU.1 λhs=>?_;refine cA (T2 h) kQ hs.has ?_;rintro v wa w X ⟨vr',iR,Kr,vq',vh',vd',rfl,dg⟩ hle gu ay;replace hs:=hs.trans ay;have q1:=dg.1.one;have q2:=dg.2.1.one;have q3:=dg.2.2.1.one;have q4:=dg.2.2.2.1.one;have q5:=dg.2.2.2.2.1.one;have q6:=dg.2.2.2.2.2.one;cases hb:r.strip.2<;>
 repeat' first|refine ao ?_;intros|with_reducible apply cJ|(refine qr ?_;intro wa hk;(simp[Rec.err, *]))|(refine qv (ab3  (r:=r.strip.1) qA) hs ?_ ?_<;>intro _ w X hs)|(refine qv ((WG (r:=r))  (h.mv (ai.mv hs)) ml) hs ?_ ?_<;>intro _ w X hs)
section
variable {κ : Type} [DecidableEq κ] {α β : Type}
theorem aaJ (f:α->β) (k:κ) (l:List (κ×α)):getM k (l.map λx=>(x.1,f x.2))=(getM k l).map f:=by
 induction l with
 |nil=>rfl
 |cons x l ih=>
  simp only[getM,aZ,fM] at ih⊢
  grind
theorem Qr (f:α->β) (k:κ) (a:α) (l:List (κ×α)):(cI k a l).map (λx=>(x.1,f x.2))=cI k (f a) (l.map λx=>(x.1,f x.2)):=by
 induction l with
 |nil=>rfl
 |cons x l ih=>
  simp only[cI,aZ] at ih⊢
  grind
theorem ajQ (f:α->β) (k:κ) (l:List (κ×α)):(ji k l).map (λx=>(x.1,f x.2))=ji k (l.map λx=>(x.1,f x.2)):=by
 unfold ji;rw[List.filter_map];rfl
theorem ajR (f:α->β) (k:κ) (a:α) {l:List (κ×α)} (h: ∀x∈l,x.1=k->f x.2=f a) (hk:(getM k l).isSome=true):(cI k a l).map (λx=>(x.1,f x.2))=l.map λx=>(x.1,f x.2):=by
 induction l with
 |nil=>cases hk
 |cons x l ih=>
  simp only[cI];by_cases hx:x.1=k
  ·grind
  ·simp only[hx,if_false,aZ];rw[ih (λy hy=>h y (by simp[hy])) (by simpa [getM,fM,hx] using hk)]
theorem yf (k:κ) (a:α) (l:List (κ×α)):(cI k a l).map (·.1)=if(getM k l).isSome then l.map (·.1)else l.map (·.1)++[k]:=by
 induction l with
 |nil=>rfl
 |cons x l ih=>
  simp only[cI];by_cases hx:x.1=k
  ·simp[hx,getM]
  ·have e:getM k (x::l)=getM k l:=by simp[getM,fM,hx]
   grind
theorem getM_none {k:κ} {l:List (κ×α)} :getM k l=none↔k ∉ l.map (·.1):=by
 induction l with
 |nil=>simp[getM]
 |cons x l ih=>
  by_cases hx:x.1=k
  ·simp[getM,hx]
  ·have e:getM k (x::l)=getM k l:=by simp[getM,fM,hx]
   grind
theorem QY {k:κ} {a:α} {l:List (κ×α)} (h:(l.map (·.1)).Nodup):((cI k a l).map (·.1)).Nodup:=by
 rw[yf];split
 ·exact h
 ·rename_i hn;have mE:getM k l=none:=by cases hg:getM k l with|none=>rfl|some a=>grind
  rw[List.nodup_append];refine⟨h,by simp,λa ha b hb e=>?_⟩;simp only[List.mem_singleton] at hb;subst hb;subst e;exact getM_none.1 mE ha
theorem ku {k:κ} {a:α} {l:List (κ×α)} :getM k (cI k a l)=some a:=by
 induction l with
 |nil=>simp[cI,getM]
 |cons x l ih=>
  simp only[cI];by_cases hx:x.1=k
  ·simp[hx,getM]
  ·rw[if_neg hx];grind [getM]
theorem nL {k j:κ} {a:α} {l:List (κ×α)} (hj:j≠k):getM j (cI k a l)=getM j l:=by
 induction l with
 |nil=>simp[cI,getM,Ne.symm hj]
 |cons x l ih=>
  simp only[cI];by_cases hx:x.1=k
  ·rw[if_pos hx];simp[getM,fM,Ne.symm hj,hx]
  ·rw[if_neg hx]
   grind [getM]
theorem uG {k:κ} {l:List (κ×α)} :getM k (ji k l)=none:=by
 rw[getM_none];intro h;obtain⟨x,hx,e⟩:=List.mem_map.1 h;have:=(List.mem_filter.1 hx).2
 grind
theorem FJ {k j:κ} {l:List (κ×α)} (hj:j≠k):getM j (ji k l)=getM j l:=by
 induction l with
 |nil=>rfl
 |cons x l ih=>
  unfold ji at ih⊢;by_cases hx:x.1=k
  ·rw[List.filter_cons_of_neg (by simp[hx]),ih];simp[getM,fM,hx,Ne.symm hj]
  ·rw[List.filter_cons_of_pos gQ];by_cases hxj:x.1=j
   ·simp[getM,hxj]
   ·simpa [getM,fM,hxj] using ih
theorem VH {R:κ×α->κ×α->Prop} {k:κ} {a:α} {l:List (κ×α)} (hn:(l.map (·.1)).Nodup) (hp:l.Pairwise R) (h: ∀y∈l,y.1≠k->R (k,a) y/\R y (k,a)):(cI k a l).Pairwise R:=by
 induction l with
 |nil=>simp[cI]
 |cons x l ih=>
  have mE:=List.nodup_cons.1 hn;have hp':=List.pairwise_cons.1 hp;simp only[cI];by_cases hx:x.1=k
  ·rw[if_pos hx,Ac];refine⟨λy hy=>(h y (by simp[hy]) λe=>mE.1 (List.mem_map.2 ⟨y,hy,e.trans hx.symm⟩)).1,hp'.2⟩
  ·rw[if_neg hx,Ac];refine⟨λy hy=>?_,ih mE.2 hp'.2 λy hy=>h y (by simp[hy])⟩;rcases mK mE.2 hy with rfl|⟨hy,_⟩
   ·exact(h x sQ hx).2
   ·exact hp'.1 y hy
def ux (f:α->Nat) (l:List (κ×α)):Nat:=(l.map λx=>f x.2).sum
theorem XZ {f:α->Nat} {k:κ} {a b:α} {l:List (κ×α)} (h:getM k l=some b):ux f (cI k a l)+f b=ux f l+f a:=by
 induction l with
 |nil=>cases h
 |cons x l ih=>
  simp only[cI];by_cases hx:x.1=k
  ·have:x.2=b:=by simpa [getM,hx] using h
   rw[if_pos hx];simp only[ux,aZ,qI,this];omega
  ·rw[if_neg hx];have:=ih (by grind [getM]);simp only[ux,aZ,qI] at this⊢;omega
theorem XY {f:α->Nat} {k:κ} {a:α} {l:List (κ×α)} (h:getM k l=none):ux f (cI k a l)=ux f l+f a:=by
 induction l with
 |nil=>simp[cI,ux]
 |cons x l ih=>
  simp only[cI];by_cases hx:x.1=k
  ·simp[getM,hx] at h
  ·rw[if_neg hx];have:=ih (by simpa [getM,fM,hx] using h);simp only[ux,aZ,qI] at this⊢;omega
theorem ajS {f:α->Nat} {k:κ} {b:α} {l:List (κ×α)} (h:getM k l=some b):f b<=ux f l:=by
 induction l with
 |nil=>cases h
 |cons x l ih=>
  by_cases hx:x.1=k
  ·have:x.2=b:=by simpa [getM,hx] using h
   grind [ux]
  ·have:=ih (by grind [getM]);simp only[ux,aZ,qI] at this⊢;omega
end
structure DM where
 fs:List (ByteArray×(List Nat×Nat))
 wr:Int
 ar:Nat
 dn:Bool
def DM.sz (m:DM):Nat:=ux (λx=>x.1.length) m.fs
def DM.get (m:DM) (n:ByteArray):Option (List Nat×Nat):=getM n m.fs
def DM.put (m:DM) (n:ByteArray) (bs:List Nat) (s:Nat):DM:= { m with fs:=cI n (bs,s) m.fs }
def DM.del (m:DM) (n:ByteArray):DM:= { m with fs:=ji n m.fs }
def DM.tick (m:DM):DM:=if m.ar=1 then { m with ar:=0,dn:=true } else { m with ar:=m.ar-1,wr:=IntKind.i64.wrap (m.wr+1) }
def DM.write (m:DM) (e:Nat) (f:DM->DM):DM×Nat:=if m.dn then(m,12)else if e≠0 then(m,e)else if m.tick.dn then(m.tick,12)else(f m.tick,0)
def wA (n:ByteArray):Bool:=decide (1<=n.size/\n.size<=20)
def DM.create (m:DM) (n:ByteArray):DM×Nat:=m.write (if¬wA n then 10 else if(m.get n).isSome then 9 else if 64<=m.fs.length then 3 else 0) λm=>m.put n [] 0
def DM.append (m:DM) (n:ByteArray) (b:List Nat):DM×Nat:=
 if m.dn then(m,12)else match m.get n with
 |none=>(m,8)
 |some (bs,s)=>if 4194304-m.sz<b.length then(m,11)else(m.tick.put n (bs++b) s,if m.tick.dn then 12 else 0)
def DM.kr (n:ByteArray) (m:DM):DM:=match m.get n with
 |none=>m
 |some x=>m.put n x.1 x.1.length
def DM.sync (m:DM) (n:ByteArray):DM×Nat:=m.write (if(m.get n).isSome then 0 else 8) (DM.kr n)
theorem DM.A9 (m:DM):m.tick.fs=m.fs:=by unfold DM.tick;grind
theorem DM.qj (m:DM) (n:ByteArray):m.tick.get n=m.get n:=by unfold DM.get;rw[m.A9]
theorem DM.yR (m:DM):m.tick.sz=m.sz:=by unfold DM.sz;rw[m.A9]
variable {s' : Nat} {n : ByteArray} {m : DM}
theorem DM.LL {b:List Nat} {s:Nat} (h:m.get n=some (b,s)):(m.put n bs s').sz+b.length=m.sz+bs.length:=XZ (f:=λx:List Nat×Nat=>x.1.length) h
theorem DM.Th (h:m.get n=none):(m.put n bs s').sz=m.sz+bs.length:=XY (f:=λx:List Nat×Nat=>x.1.length) h
theorem DM.Fy (m:DM) (n:ByteArray):(m.kr n).sz=m.sz:=by
 unfold DM.kr;split
 ·rfl
 grind [DM.LL]
def DM.CD {b:List Nat} {s:Nat} (h:m.get n=some (b,s)):b.length<=m.sz:=ajS (f:=λx:List Nat×Nat=>x.1.length) h
structure nr where
 b:Nat
 v:Value
 bs:List Nat
 safe:Nat
def nr.er (f:nr):List Nat×Nat:=(f.bs,f.safe)
def Pd:World->XS->Value->nr->Prop:=λ_ _ v f=>v=ptr f.b 0
def mj:qG Pd:=λ_ _ _ _ _ _ h _=>h
def apart (x y:ByteArray×nr):Prop:=x.2.b≠y.2.b/\ ∀g,x.2.v.ownBlock=some g->y.2.v.ownBlock≠some g
structure oq (w:World) (F:XS) (db mb:Nat) (l:List (ByteArray×nr)) (m:DM) (z:Nat):Prop where
 fs:m.fs=l.map λx=>(x.1,x.2.er)
 box:aI w F db [.map (some mb),I z,I m.wr,I m.ar,B m.dn] 111
 map:dL w F nX mb aP Pd l
 row: ∀x∈l,aI w F x.2.b [x.2.v,I x.2.safe] 153
 ow: ∀x∈l,Ow w F 5 1 x.2.v (x.2.bs.map U1)
 ap:l.Pairwise apart
 ar:m.ar<2^63
 safe: ∀x∈l,x.2.safe<=x.2.bs.length
def Dk (w:World) (F:XS) (db:Nat) (m:DM):Prop:= ∃mb l,oq w F db mb l m m.sz/\m.sz<=4194304
variable {F G : XS}
section
variable {F' : XS} {db mb z z' : Nat} {l : List (ByteArray × nr)} {m' : DM} {f : nr}
def oq.mv (h:oq w F db mb l m z) (v:Mv F w F' w'):oq w' F' db mb l m z:=
 ⟨h.fs,h.box.mv v,h.map.mv mj v (λ_ h=>h.elim),λx hx=>(h.row x hx).mv v,λx hx=>(h.ow x hx).mv v,h.ap,h.ar,h.safe⟩
def Dk.mv (h:Dk w F db m) (v:Mv F w F' w'):Dk w' F' db m:=let⟨mb,l,h,hz⟩:=h;⟨mb,l,h.mv v,hz⟩
def Dk.mono (h:Dk w F db m) (hs: ∀k,F k->F' k):Dk w F' db m:=h.mv (Mv.sub hs)
theorem oq.get (h:oq w F db mb l m z) (n:ByteArray):m.get n=(getM n l).map nr.er:=by
 unfold DM.get;rw[h.fs];exact aaJ nr.er n l
theorem oq.nodup (h:oq w F db mb l m z):(l.map (·.1)).Nodup:=h.map.nodup
theorem oq.len (h:oq w F db mb l m z):m.fs.length=l.length:=by rw[h.fs,af]
theorem oq.aoM (h:oq w F db mb l m z) (hX: ∀k,F k->X k) (c:ee (· =db) X w X' w') (hr:aI w' X' db [.map (some mb),I z',I m'.wr,I m'.ar,B m'.dn] 111) (OZ:m'.fs=m.fs) (har:m'.ar<2^63):oq w' F db mb l m' z':=by
 have mv: ∀{A:XS},(∀k,A k->F k/\k≠db)->Mv A w F w':=λhA k hk _=>⟨(hA k hk).1,c.block k (hX k (hA k hk).1) (hA k hk).2⟩;refine⟨OZ.trans h.fs,⟨h.box.1,hr.2⟩,?_,λx hx=>?_,λx hx=>?_,h.ap,har,h.safe⟩
 ·exact h.map.own.mv mj (mv λk hk=>by subst hk;exact⟨h.map.x.1,h.map.eT h.box⟩) λ_ h=>h.elim
 ·exact(h.row x hx).own.mv (mv λk hk=>by subst hk;exact⟨(h.row x hx).1,(h.row x hx).eT h.box (by rfl)⟩)
 ·exact(h.ow x hx).tight.mv (mv λk hk=>⟨((h.ow x hx).bo hk).1,λe=>(h.ow x hx).eT h.box (by rfl) (e▸hk)⟩)
theorem aqg {α:Type} {R:α->α->Prop} (hs: ∀a b,R a b->R b a) {l:List α} (h:l.Pairwise R) {x y:α} (hx:x∈l) (hy:y∈l) (bU:x≠y):R x y:=by
 induction l with
 |nil=>cases hx
 |cons a l ih=>
  have h':=List.pairwise_cons.1 h
  grind
theorem JK: ∀a b:ByteArray×nr,apart a b->apart b a:=λa b h=>⟨Ne.symm h.1,λg hg rJ=>h.2 g rJ hg⟩
theorem oq.OT (h:oq w F db mb l m z) (hn:getM n l=some f) {y:ByteArray×nr} (hy:y∈l) (bU:y.1≠n):apart (n,f) y:=
 aqg JK h.ap (gL hn) hy λe=>bU (by rw[<-e])
theorem nZ.ids: ∀{es:List (jy ByteArray)} {l l':List (ByteArray×nr)},nZ w A Pd es l->l'.map (λx=>(x.1,x.2.b))=l.map (λx=>(x.1,x.2.b))->nZ w A Pd es l'
 |[],[],[],_,_=>trivial
 |[],[],_::_,_,h=>by cases h
 |e::es,x::l,[],_,h=>by cases h
 |e::es,x::l,y::l',⟨h1,h2,h3⟩,h=>by
  simp only[aZ,oR,Prod.mk.injEq] at h;exact⟨h1.trans h.1.1.symm,by grind [Pd],nZ.ids h3 h.2⟩
 |[],_::_,_,h,_=>h.elim
 |_::_,[],_,h,_=>h.elim
theorem oq.jT (h:oq w F db mb l m z) (hX: ∀k,F k->X k/\k<w.heap.size) (c:ee G X w X' w') (hn:getM n l=some f) (hG: ∀k,G k->k=f.b\/f.v.ownBlock=some k) (hFF: ∀k,F k->F' k)
 {bs':List Nat} (hr:aI w' F' f.b [v',I s'] 153) (ho:Ow w' F' 5 1 v' (bs'.map U1)) (dg:v'.ownBlock=f.v.ownBlock\/ ∃g,v'.ownBlock=some g/\w.heap.size<=g) (hs:s'<=bs'.length):
    oq w' F' db mb (cI n ⟨f.b,v',bs',s'⟩ l) (m.put n bs' s') z:=by
  have hf:=gL hn;have rf:=h.row _ hf;have of:=h.ow _ hf;have mv: ∀{A:XS},(∀k,A k->F k/\k≠f.b/\f.v.ownBlock≠some k)->Mv A w F' w':=λhA k hk _=>by
    obtain⟨a1,a2,a3⟩:=hA k hk;exact⟨hFF k a1,c.block k (hX k a1).1 λhg=>(hG k hg).elim a2 a3⟩
  refine⟨?_,?_,?_,λx hx=>?_,λx hx=>?_,?_,h.ar,λx hx=>?_⟩
  · show cI n (bs',s') m.fs=_
    rw[h.fs,Qr nr.er];rfl
  · exact h.box.own.mv (mv λk hk=>by subst hk;exact⟨h.box.1,(rf.eT h.box (by rfl)).symm,of.eT h.box (by rfl)⟩)
  · obtain⟨es,c',h1,h2⟩:=h.map.own.mv mj (mv λk hk=>by subst hk;exact⟨h.map.x.1,h.map.eT rf,h.map.ajy of⟩) (A':=nX) λ_ h=>h.elim
    refine⟨es,c',h1,nZ.ids h2 (ajR nr.b n ⟨f.b,v',bs',s'⟩ (λx hx e=>?_) (by rw[hn];rfl))⟩;have:getM n l=some x.2:=wH h.nodup gQ
    grind
  · rcases mK h.nodup hx with rfl|⟨hx,bU⟩
    · exact hr
    · have ha:=h.OT hn hx bU
      exact(h.row x hx).own.mv (mv λk hk=>by subst hk;exact⟨(h.row x hx).1,ha.1.symm,of.eT (h.row x hx) (by rfl)⟩)
  · rcases mK h.nodup hx with rfl|⟨hx,bU⟩
    · exact ho
    · have ha:=h.OT hn hx bU
      exact(h.ow x hx).tight.mv (mv λk hk=>⟨((h.ow x hx).bo hk).1,λe=>(h.ow x hx).eT rf (by rfl) (e▸hk),λe=>ha.2 k e hk⟩)
  · refine VH h.nodup h.ap λy hy bU=>?_
    have ha:=h.OT hn hy bU;have key:apart (n,⟨f.b,v',bs',s'⟩) y:=⟨ha.1,λg hg rJ=>by
      rcases dg with e|⟨g',e,dA⟩
      · exact ha.2 g (e▸hg) rJ
      · have:=(hX g ((h.ow y hy).bo rJ).1).2
        grind⟩
    exact⟨key,JK _ _ key⟩
  · rcases mK h.nodup hx with rfl|⟨hx,bU⟩
    · exact hs
    · exact h.safe x hx
theorem oq.new (h:oq w F db mb l m z) (hX: ∀k,F k->X k/\k<w.heap.size) (c:ee G X w X' w') (hn:getM n l=none) (hG: ∀k,G k->k=mb) (hFF: ∀k,F k->F' k) {b:Nat} (hb:w.heap.size<=b)
  (hm:dL w' F' nX mb aP Pd (cI n ⟨b,.slice none 0 0,[],0⟩ l)) (hr:aI w' F' b [.slice none 0 0,I (0:Nat)] 153):
  oq w' F' db mb (cI n ⟨b,.slice none 0 0,[],0⟩ l) (m.put n [] 0) z:=by
 have mv: ∀{A:XS},(∀k,A k->F k/\k≠mb)->Mv A w F' w':=λhA k hk _=>by
  obtain⟨a1,a2⟩:=hA k hk;exact⟨hFF k a1,c.block k (hX k a1).1 λhg=>a2 (hG k hg)⟩
 refine⟨?_,?_,hm,λx hx=>?_,λx hx=>?_,?_,h.ar,λx hx=>?_⟩
 ·show cI n ([],0) m.fs=_
  rw[h.fs,Qr nr.er];rfl
 ·exact h.box.own.mv (mv λk hk=>by subst hk;exact⟨h.box.1,(h.map.eT h.box).symm⟩)
 ·rcases mK h.nodup hx with rfl|⟨hx,bU⟩
  ·exact hr
  ·exact(h.row x hx).own.mv (mv λk hk=>by subst hk;exact⟨(h.row x hx).1,(h.map.eT (h.row x hx)).symm⟩)
 ·rcases mK h.nodup hx with rfl|⟨hx,bU⟩
  ·exact Ow.nil _ _ _ _
  ·exact(h.ow x hx).tight.mv (mv λk hk=>⟨((h.ow x hx).bo hk).1,λe=>h.map.ajy (h.ow x hx) (e▸hk)⟩)
 ·refine VH h.nodup h.ap λy hy bU=>?_;have key:apart (n,⟨b,.slice none 0 0,[],0⟩) y:=⟨λe=>by
   have:=(hX _ (h.row y hy).1).2
   grind,λg hg=>by cases hg⟩
  grind [JK]
 ·rcases mK h.nodup hx with rfl|⟨hx,bU⟩
  ·grind
  ·exact h.safe x hx
theorem oq.less (h:oq w F db mb l m z) (hX: ∀k,F k->X k) (c:ee (· =mb) X w X' w') (hm:dL w' X' nX mb aP Pd (ji n l)):oq w' F db mb (ji n l) (m.del n) z:=by
 have mv: ∀{A:XS},(∀k,A k->F k/\k≠mb)->Mv A w F w':=λhA k hk _=>⟨(hA k hk).1,c.block k (hX k (hA k hk).1) (hA k hk).2⟩;have rK: ∀x∈ji n l,x∈l:=λx hx=>(List.mem_filter.1 hx).1;refine⟨?_,?_,?_,λx hx=>?_,λx hx=>?_,h.ap.filter _,h.ar,λx hx=>h.safe x (rK x hx)⟩
 ·show ji n m.fs=_
  rw[h.fs,ajQ nr.er]
 ·exact h.box.own.mv (mv λk hk=>by subst hk;exact⟨h.box.1,(h.map.eT h.box).symm⟩)
 ·obtain⟨es,c',h1,h2⟩:=hm;exact⟨es,c',⟨h.map.x.1,h1.2⟩,h2⟩
 ·exact(h.row x (rK x hx)).own.mv (mv λk hk=>by subst hk;exact⟨(h.row x (rK x hx)).1,(h.map.eT (h.row x (rK x hx))).symm⟩)
 ·exact(h.ow x (rK x hx)).tight.mv (mv λk hk=>⟨((h.ow x (rK x hx)).bo hk).1,λe=>h.map.ajy (h.ow x (rK x hx)) (e▸hk)⟩)
end
def FX (F X:XS) (w:World):Prop:= ∀k,F k->X k/\k<w.heap.size
theorem FX.kp (h:FX F X w) (hk:Kp X w wa):FX F (bN wa) wa:=λk ah=>⟨aw (h k ah).2 hk.size,aw (h k ah).2 hk.size⟩
def FX.mv (h:FX F X w) (hk:Kp X w wa):Mv F w F wa:=λk ah _=>⟨ah,hk.block k (h k ah).1⟩
def FX.ft (h:FX F X w) (hk:Kp X w wa):Ft wa F wa (bN wa) F:=Ft.init λk ah=>(h.kp hk k ah).1
def _root_.Go.aJ.Ft.fx {F0:XS} (h:Ft w0 F0 w X F) (hG: ∀k,G k->F k):FX G X w:=λk hk=>⟨h.bo k (hG k hk),h.s.has k (h.bo k (hG k hk))⟩
end Go.Proofs.YtgfijddlkhkopaaGreat