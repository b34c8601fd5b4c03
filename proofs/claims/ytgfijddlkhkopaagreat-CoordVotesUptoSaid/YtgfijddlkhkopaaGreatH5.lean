/- Part 5 of the proof. -/
import Derived.Test.YtgfijddlkhkopaaGreatRows
import Derived.WalkKit
import Derived.ProofKit
import Derived.Deep.Slices
import Derived.Carry
import Derived.Test.YtgfijddlkhkopaaGreatChecked
import Derived.OpenShut
import Derived.JoinedCond
import Derived.Test.YtgfijddlkhkopaaGreatH4
set_option linter.all false
open Nat renaming le_trans → ad, zero_le → ak, lt_of_lt_of_le → aw, mod_eq_of_lt → fz, div_lt_iff_lt_mul → xC
open BitVec renaming ofInt → aF
open List renaming append_assoc → ao, map_cons → bh, range → dy, find?_cons → fO, mem_of_getElem? → av, length_append → aa, sum_cons → qX, all_cons → iZ, getElem?_eq_getElem → aS, drop_zero → tC, length_map → af, take_add_one → bW, nil_append → bp, length_cons → aJ, take_of_length_le → az, any_cons → zo, map_append → aC, getElem?_cons_zero → j5, drop_of_length_le → kz, foldl_cons → fN, length_take → aD, length_nil → bL, pairwise_cons → mu
open Go.Value renaming string → aP
open Go.DataW renaming trod → rT, TrodAll → zp, trod_int → Dx
open Bool renaming and_eq_true → aA
open Option.some renaming injEq → aj
open Ieee.Datum renaming quotient → zd
open List.cons renaming injEq → B8
open Int renaming fdiv_eq_ediv_of_nonneg → tD
namespace Go.Proofs.YtgfijddlkhkopaaGreat
open Go.Proofs.Tryz renaming prog → pg
open Go.aK
set_option maxRecDepth 100000
set_option maxHeartbeats 4000000
theorem UW {α:Type} [Inhabited α] {enc:α->List Value} {k:Nat} (hk: ∀x,(enc x).length=k) (h0:0<k): ∀(l:List α) (t:Nat),t<l.length*k->((l.map enc).flatten)[t]? =some ((enc l[t/k]!)[t % k]!)
 |[],t,h=>by simp at h
 |x::l,t,h=>by
  rw[bh,List.flatten_cons];by_cases ht:t<k
  ·rw[List.getElem?_append_left gQ,Nat.div_eq_of_lt ht,fz ht];simp_all
  ·obtain⟨s,rfl⟩: ∃s,t=s+k:=⟨t-k,by omega⟩;rw[List.getElem?_append_right gQ,hk,Nat.add_sub_cancel,Nat.add_div_right _ h0,Nat.add_mod_right];have hs:s<l.length*k:=by rw[aJ,Nat.succ_mul] at h;omega
   rw[UW hk h0 l s hs];simp
class Wt (α:Type) where
 wt:α->Nat
 pos: ∀a,1<=wt a
instance:Wt Int:=⟨λ_=>1,λ_=>Nat.le_refl _⟩
def ZP (n:Nat):Nat:=if n<18446744073709551616 then 1 else 1073741824
theorem aiY (n:Nat):1<=ZP n:=by unfold ZP;grind
instance:Wt Nat:=⟨ZP,aiY⟩
instance:Wt Bool:=⟨λ_=>1,λ_=>Nat.le_refl _⟩
instance:Wt BA:=⟨λs=>s.size+1,λ_=>by omega⟩
instance {α:Type} [Wt α]:Wt (List α):=⟨λl=>(l.map Wt.wt).sum+1,λ_=>by omega⟩
theorem af2 {α:Type} [Wt α]: ∀l:List α,l.length<=(l.map Wt.wt).sum
 |[]=>by simp
 |x::l=>by have:=af2 l;have:=Wt.pos x;simp;omega
theorem FC {α:Type} [Wt α] {x:α} : ∀{l:List α},x∈l->Wt.wt x<=(l.map Wt.wt).sum
 |y::l,h=>by
  rcases List.mem_cons.1 h with rfl|h
  ·simp
  ·have:=FC h;simp;omega
def nN {α:Type} [Wt α] (t:TypeId) (rd:World->XS->List Value->α->Prop):Prop:=
 ∀(H:Type) (enc:TypeId×Value->H) (W:World) (fuel:Nat) (cs:List Value) (x:DataW H×List MemPlace),rT enc pg W 0 (λ_=>true) true fuel t cs=some x-> ∃a,rd W (bP W) cs a/\Wt.wt a<=Rows.uptoBulk x.1
variable {H : Type}
theorem Cy (d:DataW H):1<=Rows.uptoBulk d:=by
 cases d with
 |lit l=>cases l<;>simp[Rows.uptoBulk]
 |nil=>simp[Rows.uptoBulk]
 |ptr d=>simp[Rows.uptoBulk]
 |slice elems spare=>simp[Rows.uptoBulk]
 |agg parts=>simp[Rows.uptoBulk]
 |iface t d=>simp[Rows.uptoBulk]
 |map entries=>simp[Rows.uptoBulk]
 |held h=>simp[Rows.uptoBulk]
abbrev rdI:World->XS->List Value->Int->Prop:=λ_ _ cs n=>cs=[I n]
abbrev anB:World->XS->List Value->Nat->Prop:=λ_ _ cs n=>cs=[.float .f64 n]
abbrev rdB:World->XS->List Value->Bool->Prop:=λ_ _ cs n=>cs=[B n]
abbrev rdS:World->XS->List Value->BA->Prop:=λ_ _ cs n=>cs=[.string n]
abbrev Ie {α:Type} (k:Nat) (rd:World->XS->List Value->α->Prop):World->XS->List Value->List α->Prop:=λw X cs xs=> ∃v,cs=[v]/\eY w X k v rd xs
variable {t : TypeId}
theorem af1 (ht:pg.underlying t=some (.int .i64)):nN t rdI:=λH enc W fuel cs x h=>by
 obtain⟨n,rfl,rfl,_⟩:=Dx ht h;exact⟨n,rfl,Cy _⟩
theorem aiZ (ht:pg.underlying t=some (.float .f64)):nN t anB:=λH enc W fuel cs x h=>by
 cases fuel with
 |zero=>simp[rT] at h
 |succ n=>
  unfold rT at h;rw[ht] at h;split at h<;>simp_all
  obtain⟨⟨h1,h2⟩,h3⟩:=h;rename_i kk _ b he;subst he;have hb:b<18446744073709551616:=by simpa [Lit.wf] using h2
  show ZP b<=_
  unfold ZP;rw[if_pos hb];exact Cy _
theorem ak4 (ht:pg.underlying t=some .bool):nN t rdB:=λH enc W fuel cs x h=>by
 obtain⟨n,rfl,rfl⟩:=DataW.trod_bool ht h;exact⟨n,rfl,Cy _⟩
theorem anC (ht:pg.underlying t=some .string):nN t rdS:=λH enc W fuel cs x h=>by
 obtain⟨s,rfl,rfl,_⟩:=DataW.trod_string ht h;refine⟨s,rfl,?_⟩
 show s.size+1<=s.data.toList.length+1
 simp_all
theorem agt {α:Type} [Wt α] (f:Nat->α) (D:Nat->DataW H): ∀l:List Nat,(∀i∈l,Wt.wt (f i)<=Rows.uptoBulk (D i))->((l.map f).map Wt.wt).sum<=Rows.uptoBulkAll (l.map D)
 |[],_=>by simp
 |i::l,h=>by
  have h1:=agt f D l λj hj=>h j (List.mem_cons_of_mem _ hj);have h2:=h i sQ;simp only[bh,qX,Rows.uptoBulkAll];omega
variable {cs : List Value} {W : World}
theorem UX {a:Addr} {k:Nat} (h:W.cells? 0 a k=some cs):cs.length=k/\ ∀j v,cs[j]? =some v->W.cell? (a.add j)=some v:=by
 unfold World.cells? at h;rw[if_pos (ak _)] at h;have key: ∀(l:List Nat) (cs:List Value),(l.mapM (m:=Option) λi=>W.cell? (a.add i))=some cs->cs.length=l.length/\ ∀(j:Nat) (v:Value),cs[j]? =some v-> ∃i:Nat,l[j]? =some i/\W.cell? (a.add i)=some v:=by
  intro l
  induction l with
  |nil=>grind
  |cons i l ih=>
   intro cs h;simp only[List.mapM_cons,Option.bind_eq_bind,Option.bind_eq_some_iff,Option.pure_def,aj] at h;obtain⟨v,hv,vs,UG,rfl⟩:=h;obtain⟨h1,h2⟩:=ih vs UG;refine⟨by simp[h1],λj u hj=>?_⟩;cases j with
   |zero=>simp only[j5,aj] at hj;subst hj;exact⟨i,rfl,hv⟩
   |succ j=>simpa using h2 j u aQ
 obtain⟨h1,h2⟩:=key _ _ h;refine⟨by grind,λj v hj=>?_⟩;obtain⟨i,hi,hc⟩:=h2 j v hj;have:i=j:=by
  rw[List.getElem?_range (by simpa using (List.getElem?_eq_some_iff.1 hi).1)] at hi;simpa using hi.symm
 grind
theorem ZQ (b o n:Nat):(⟨b,o,none⟩:Addr).add n=⟨b,o+n,none⟩:=by grind [Addr.add]
variable {e : Nat}
theorem qG {α:Type} [Wt α] {t k:Nat} {rd:World->XS->List Value->α->Prop} (ht:pg.underlying t=some (.slice e)) (hk:pg.cellsOf e=k) (h0:0<k) (he:nN e rd):nN t (Ie k rd):=λH enc W fuel cs x h=>by
 rcases Go.Deep.open_slice ht h with⟨rfl,rfl⟩|⟨a,len,cap,m,n,D,Pl,rfl,_,hlc,iq,hm,rfl,Fs⟩
 ·exact⟨[],⟨_,rfl,eY.nil _ _ _⟩,Cy _⟩
 ·rw[hk] at Fs;have KZ:m=cap:=by simpa using hm
  have Sf: ∀i,i<len-> ∃(p:List Value×α),W.cells? 0 (a.add (i*k)) k=some p.1/\rd W (bP W) p.1 p.2/\Wt.wt p.2<=Rows.uptoBulk (D i):=λi hi=>by
   obtain⟨qh,h1,h2⟩:=Fs i zQ;obtain⟨b,h3,h4⟩:=he H enc W n qh _ h2;exact⟨⟨qh,b⟩,h1,h3,h4⟩
  by_cases hl0:len=0
  ·subst hl0;refine⟨[],⟨_,rfl,[],⟨by simp,by simp,some a,cap,rfl,by simp,by simp,by simp,ad iq dQ⟩,rfl,by simp⟩,Cy _⟩
  obtain⟨p0,_⟩:=Sf 0 zQ;have:Inhabited (List Value×α):=⟨p0⟩;obtain⟨f,hf⟩:=Go.Deep.choose_lt Sf
  let row:Nat->List Value:=λi=>if i<len then(f i).1 else List.replicate k undef
  have bt: ∀i,(row i).length=k:=λi=>by
   show(if i<len then(f i).1 else List.replicate k undef).length=k
   split
   ·exact(UX (hf i zQ).1).1
   ·simp
  have Ec: ∀i,i<len->row i=(f i).1:=λi hi=>if_pos hi;obtain⟨b,o,xg,c,ty,fr,hb,hc⟩: ∃b o,a=⟨b,o,none⟩/\ ∃c ty fr,W.heap[b]? =some (.cells c ty fr)/\ ∀i,i<len-> ∀j v,(row i)[j]? =some v->c[o+(i*k+j)]? =some v:=by
   obtain⟨b,o,sp⟩:=a;have h1: ∀i,i<len-> ∀j v,(row i)[j]? =some v->W.cell? (((⟨b,o,sp⟩:Addr).add (i*k)).add j)=some v:=λi hi j v hj=>by
    rw[Ec i hi] at hj;exact(UX (hf i hi).1).2 j v hj
   have hj: ∃v,(row 0)[0]? =some v:=⟨_,aS (by rw[bt];exact h0)⟩;obtain⟨v,hv⟩:=hj;have h2:=h1 0 zQ 0 v hv;rw[Nat.zero_mul] at h2;change W.cell? ⟨b,o,sp⟩=some v at h2;unfold World.cell? at h2;split at h2
   ·rename_i c ty fr hb;have EK:sp=none:=by
     cases sp with
     |none=>rfl
     |some s=>simp at h2
    subst EK;refine⟨b,o,rfl,c,ty,fr,hb,λi hi j v hj=>?_⟩;have h3:=h1 i hi j v hj;rw[ZQ,ZQ] at h3;unfold World.cell? at h3;rw[hb] at h3;simpa [Nat.add_assoc] using h3
   ·cases h2
  subst xg;have cI:b<W.heap.size:=(Array.getElem?_eq_some_iff.1 hb).1;refine⟨(dy len).map λi=>(f i).2,⟨_,rfl,(dy len).map row,⟨?_,?_,some ⟨b,o,none⟩,cap,?_,λ_=>⟨b,o,rfl,cI,c,ty,fr,hb,λj v hj=>?_⟩,by simp,by simpa using hlc,ad iq dQ⟩,by simp,?_⟩,?_⟩
  ·intro r hr;obtain⟨i,_,rfl⟩:=List.mem_map.1 hr;exact bt i
  ·have:cap<=2^63-1:=ad iq dQ;simp;omega
  ·simp
  ·have D4:j<len*k:=by
    have h1:=(List.getElem?_eq_some_iff.1 hj).1;rw[kK (k:=k) (by intro r hr;obtain⟨i,_,rfl⟩:=List.mem_map.1 hr;exact bt i)] at h1;simpa using h1
   have h2:=UW bt h0 (dy len) j (by simpa using D4);rw[hj] at h2;have hd:j/k<len:=by rw[xC h0];exact D4
   have asX:j % k<k:=Nat.mod_lt _ h0;have hr:(dy len)[j/k]! =j/k:=by simp[hd]
   rw[hr] at h2;have hv:(row (j/k))[j % k]? =some v:=by
    rw[aS (by rw[bt];omega)];rw[getElem!_pos (row (j/k)) (j % k) (by rw[bt];omega)] at h2;exact h2.symm
   have:=hc (j/k) hd (j % k) v hv;rw[Nat.mul_comm,Nat.div_add_mod] at this;omega
  ·intro i r x hr hx;simp only[List.getElem?_map,Option.map_eq_some_iff] at hr hx;obtain⟨i1,h1,rfl⟩:=hr;obtain⟨i2,h2,rfl⟩:=hx;rw[h1] at h2;cases h2;have QJ:i1<len:=List.mem_range.1 (av h1);rw[Ec i1 QJ];exact(hf i1 QJ).2.1
  ·have:=agt (λi=>(f i).2) D (dy len) λi hi=>(hf i (List.mem_range.1 hi)).2.2
   show((((dy len).map λi=>(f i).2).map Wt.wt).sum+1)<=_
   simp only[Rows.uptoBulk];omega
variable {v : Value} {X : XS} {w : World}
theorem _root_.Go.aK.eY.xt {α:Type} {k:Nat} {enc:α->List Value} {xs:List α} (h:eY w X k v (λ_ _ l x=>l=enc x) xs):Sl w X k v (xs.map enc):=by
 obtain⟨rows,h1,h2,h3⟩:=h;have:rows=xs.map enc:=by
  apply List.ext_getElem gQ;intro i hi hj;have hx:i<xs.length:=by simpa using hj
  have:=h3 i rows[i] xs[i] (aS hi) (aS hx);simpa using this
 grind
def aeL (P:Program):List Field->Nat->Bool
 |[],_=>true
 |f::l,o=>f.offset==o&&aeL P l (o+P.cellsOf f.type)
def ZR (P:Program) (t:TypeId) (Zo:List TypeId):Bool:=match P.underlying t with
 |some (.struct fs)=>fs.toList.map (·.type)==Zo&&aeL P fs.toList 0&&P.cellsOf t==(Zo.map P.cellsOf).sum
 |_=>false
def ZS {H:Type} (enc:TypeId×Value->H) (W:World) (n:Nat):List TypeId->List Value->List (DataW H)->Prop
 |[],cs,ds=>cs=[]/\ds=[]
 |t::ts,cs,ds=> ∃c1 c2 d ps ON,cs=c1++c2/\ds=d::ON/\rT enc pg W 0 (λ_=>true) true n t c1=some (d,ps)/\ZS enc W n ts c2 ON
theorem acs {enc:TypeId×Value->H} {n:Nat} : ∀(l:List Field) (xs:List (DataW H×List MemPlace)) (o:Nat),aeL pg l o=true->cs.length=o+((l.map (·.type)).map pg.cellsOf).sum->
  xs.length=l.length->(∀(i:Nat) (f:Field),l[i]? =some f->rT enc pg W 0 (λ_=>true) true n f.type ((cs.drop f.offset).take (pg.cellsOf f.type))=xs[i]?)->ZS enc W n (l.map (·.type)) (cs.drop o) (xs.map (·.1))
 |[],[],o,_,hl,_,_=>⟨kz gQ,rfl⟩
 |[],x::xs,o,_,_,hx,_=>by simp at hx
 |f::l,[],o,_,_,hx,_=>by simp at hx
 |f::l,x::xs,o,ho,hl,hx,h=>by
  simp only[aeL,aA,beq_iff_eq] at ho;obtain⟨vz,kF⟩:=ho;have h0:=h 0 f rfl;simp only[j5] at h0;refine⟨(cs.drop o).take (pg.cellsOf f.type),cs.drop (o+pg.cellsOf f.type),x.1,x.2,xs.map (·.1),?_,rfl,?_,?_⟩
  ·rw[<-List.drop_drop,List.take_append_drop]
  ·grind
  ·refine acs l xs _ kF ?_ gQ λi g hg=>?_
   ·grind
   ·have:=h (i+1) g aQ;assumption
theorem jw (Zo:List TypeId) (lT:ZR pg t Zo=true) {enc:TypeId×Value->H} {fuel:Nat} {x:DataW H×List MemPlace}
  (h:rT enc pg W 0 (λ_=>true) true fuel t cs=some x): ∃n ds,x.1= .agg ds/\ZS enc W n Zo cs ds:=by
 unfold ZR at lT;split at lT
 ·rename_i fs OC;simp only[aA,beq_iff_eq] at lT;obtain⟨⟨rfl,h2⟩,h3⟩:=lT;obtain⟨xs,n,_,rfl,hl,hx,hf⟩:=DataW.trod_struct OC h;refine⟨n,_,rfl,?_⟩;have:=acs (cs:=cs) (enc:=enc) (W:=W) (n:=n) fs.toList xs 0 h2 zQ zQ λi f hi=>hf i f gQ;assumption
 ·cases lT
theorem bT {α:Type} [Wt α] {ts:List TypeId} {rd:World->XS->List Value->α->Prop} (hr:nN t rd) {enc:TypeId×Value->H} {n:Nat} {ds:List (DataW H)} (h:ZS enc W n (t::ts) cs ds):
  ∃c1 c2 d ON a,cs=c1++c2/\ds=d::ON/\rd W (bP W) c1 a/\Wt.wt a<=Rows.uptoBulk d/\ZS enc W n ts c2 ON:=by
 obtain⟨c1,c2,d,ps,ON,rfl,rfl,h1,h2⟩:=h;obtain⟨a,h3,h4⟩:=hr H enc W n c1 _ h1;exact⟨c1,c2,d,ON,a,rfl,rfl,h3,h4,h2⟩
instance:Wt cn:=⟨λx=>4,λ_=>by omega⟩
def PQ (n:Int):Prop:= -9223372036854775808<=n/\n<9223372036854775808
instance (n:Int):Decidable (PQ n):=by unfold PQ;infer_instance
def Y3 (x:bX):Nat:=if PQ x.dW/\PQ x.aR/\PQ x.sq then 4 else 1073741824
theorem SR (x:bX):4<=Y3 x:=by unfold Y3;grind
instance:Wt bX:=⟨Y3,λx=>ad dQ (SR x)⟩
abbrev aq9:World->XS->List Value->Int->Prop:=λ_ _ cs n=>cs=[I n]/\PQ n
theorem Ng:nN 3 aq9:=λH enc W fuel cs x h=>by
 have ht:pg.underlying 3=some (.int .i64):=by kernel_rfl
 obtain⟨n,e,e2,hw⟩:=Dx ht h;subst e;refine⟨n,⟨rfl,?_⟩,Cy _⟩;simp only[Lit.wf,aA,decide_eq_true_eq] at hw;have h1:IntKind.i64.min= -9223372036854775808:=by kernel_rfl
 have h2:IntKind.i64.max=9223372036854775807:=by kernel_rfl
 grind [PQ]
abbrev ak5:World->XS->List Value->cn->Prop:=λ_ _ cs x=>cs=x.l
abbrev apd:World->XS->List Value->bX->Prop:=λ_ _ cs x=>cs=x.l
def oA:nN 3 rdI:=af1 kQ
def Jn:nN 46 anB:=aiZ kQ
def acf:nN 4 rdB:=ak4 kQ
def FB:nN 9 rdS:=anC kQ
theorem vP:nN 39 ak5:=λH enc W fuel cs x h=>by
 obtain⟨n,ds,hx,hf⟩:=jw [3,3,3] kQ h;obtain⟨_,_,_,_,a1,rfl,rfl,rfl,w1,hf⟩:=bT oA hf;obtain⟨_,_,_,_,a2,rfl,rfl,rfl,w2,hf⟩:=bT oA hf;obtain⟨_,_,_,_,a3,rfl,rfl,rfl,w3,rfl,rfl⟩:=bT oA hf;refine⟨⟨a1,a2,a3⟩,rfl,?_⟩;rw[hx];simp only[Rows.uptoBulk,Rows.uptoBulkAll,Wt.wt] at*;omega
theorem YT:nN 34 apd:=λH enc W fuel cs x h=>by
 obtain⟨n,ds,hx,hf⟩:=jw [3,3,3] kQ h;obtain⟨_,_,_,_,a1,rfl,rfl,⟨rfl,q1⟩,w1,hf⟩:=bT Ng hf;obtain⟨_,_,_,_,a2,rfl,rfl,⟨rfl,q2⟩,w2,hf⟩:=bT Ng hf;obtain⟨_,_,_,_,a3,rfl,rfl,⟨rfl,q3⟩,w3,rfl,rfl⟩:=bT Ng hf;refine⟨⟨a1,a2,a3⟩,rfl,?_⟩;have e:Wt.wt (⟨a1,a2,a3⟩:bX)=4:=if_pos ⟨q1,q2,q3⟩;rw[hx,e];simp only[Rows.uptoBulk,Rows.uptoBulkAll,Wt.wt] at*;omega
instance:Wt gO:=⟨λx=>Wt.wt x.kind+Wt.wt x.num+Wt.wt x.text+1,λ_=>by omega⟩
theorem Ma:nN 97 (λ_ _ cs (x:gO)=>cs=x.l):=λH enc W fuel cs x h=>by
 obtain⟨n,ds,hx,hf⟩:=jw [3,46,9] kQ h;obtain⟨_,_,_,_,a0,rfl,rfl,rfl,w0,hf⟩:=bT oA hf;obtain⟨_,_,_,_,a1,rfl,rfl,rfl,w1,hf⟩:=bT Jn hf;obtain⟨_,_,_,_,a2,rfl,rfl,rfl,w2,rfl,rfl⟩:=bT FB hf;refine⟨⟨a0,a1,a2⟩,rfl,?_⟩;rw[hx];simp only[Rows.uptoBulk,Rows.uptoBulkAll,Wt.wt] at*;omega
instance:Wt KV:=⟨λx=>Wt.wt x.key+Wt.wt x.val+1,λ_=>by omega⟩
theorem ape:nN 178 (λ_ _ cs (x:KV)=>cs=x.l):=λH enc W fuel cs x h=>by
 obtain⟨n,ds,hx,hf⟩:=jw [9,97] kQ h;obtain⟨_,_,_,_,a0,rfl,rfl,rfl,w0,hf⟩:=bT FB hf;obtain⟨_,_,_,_,a1,rfl,rfl,rfl,w1,rfl,rfl⟩:=bT Ma hf;refine⟨⟨a0,a1⟩,rfl,?_⟩;rw[hx];simp only[Rows.uptoBulk,Rows.uptoBulkAll,Wt.wt] at*;omega
def YU:nN 42 (Ie 4 (λ_ _ cs (x:KV)=>cs=x.l)):=qG kQ kQ dQ ape
theorem anD:nN 211 (λ_ _ cs (x:KV)=>cs=x.l):=λH enc W fuel cs x h=>by
 obtain⟨n,ds,hx,hf⟩:=jw [9,97] kQ h;obtain⟨_,_,_,_,a0,rfl,rfl,rfl,w0,hf⟩:=bT FB hf;obtain⟨_,_,_,_,a1,rfl,rfl,rfl,w1,rfl,rfl⟩:=bT Ma hf;refine⟨⟨a0,a1⟩,rfl,?_⟩;rw[hx];simp only[Rows.uptoBulk,Rows.uptoBulkAll,Wt.wt] at*;omega
def ak6:nN 71 (Ie 4 (λ_ _ cs (x:KV)=>cs=x.l)):=qG kQ kQ dQ anD
instance:Wt pW:=⟨λx=>Wt.wt x.aU+Wt.wt x.val+1,λ_=>by omega⟩
theorem anE:nN 304 (λ_ _ cs (x:pW)=>cs=x.l):=λH enc W fuel cs x h=>by
 obtain⟨n,ds,hx,hf⟩:=jw [39,97] kQ h;obtain⟨_,_,_,_,a0,rfl,rfl,rfl,w0,hf⟩:=bT vP hf;obtain⟨_,_,_,_,a1,rfl,rfl,rfl,w1,rfl,rfl⟩:=bT Ma hf;refine⟨⟨a0,a1⟩,rfl,?_⟩;rw[hx];simp only[Rows.uptoBulk,Rows.uptoBulkAll,Wt.wt] at*;omega
def aec:nN 40 (Ie 1 rdS):=qG kQ kQ dQ FB
def ak7:nN 300 (Ie 6 (λ_ _ cs (x:pW)=>cs=x.l)):=qG kQ kQ dQ anE
def aed:nN 43 (Ie 1 rdI):=qG kQ kQ dQ oA
instance:Wt kM:=⟨λx=>Wt.wt x.key+Wt.wt x.nh+1,λ_=>by omega⟩
theorem ak8:nN 302 kM.rd:=λH enc W fuel cs x h=>by
 obtain⟨n,ds,hx,hf⟩:=jw [9,300] kQ h;obtain⟨_,_,_,_,a0,rfl,rfl,rfl,w0,hf⟩:=bT FB hf;obtain⟨_,_,_,_,a1,rfl,rfl,⟨v1,rfl,r1⟩,w1,rfl,rfl⟩:=bT ak7 hf;refine⟨⟨a0,a1⟩,⟨v1,rfl,r1.xt⟩,?_⟩;rw[hx];simp only[Rows.uptoBulk,Rows.uptoBulkAll,Wt.wt] at*;omega
def ai0:nN 49 (Ie 2 kM.rd):=qG kQ kQ dQ ak8
instance:Wt gy:=⟨λx=>Wt.wt x.aG+Wt.wt x.aU+Wt.wt x.reads+Wt.wt x.writes+1,λ_=>by omega⟩
theorem ak9:nN 306 gy.rd:=λH enc W fuel cs x h=>by
 obtain⟨n,ds,hx,hf⟩:=jw [34,39,40,42] kQ h;obtain⟨_,_,_,_,a0,rfl,rfl,rfl,w0,hf⟩:=bT YT hf;obtain⟨_,_,_,_,a1,rfl,rfl,rfl,w1,hf⟩:=bT vP hf;obtain⟨_,_,_,_,a2,rfl,rfl,⟨v2,rfl,r2⟩,w2,hf⟩:=bT aec hf;obtain⟨_,_,_,_,a3,rfl,rfl,⟨v3,rfl,r3⟩,w3,rfl,rfl⟩:=bT YU hf;refine⟨⟨a0,a1,a2,a3⟩,⟨v2,v3,rfl,r2.xt,r3.xt⟩,?_⟩;rw[hx];simp only[Rows.uptoBulk,Rows.uptoBulkAll,Wt.wt] at*;omega
def ai1:nN 50 (Ie 8 gy.rd):=qG kQ kQ dQ ak9
instance:Wt fe:=⟨λx=>Wt.wt x.id+Wt.wt x.iE+Wt.wt x.lo+Wt.wt x.hi+1,λ_=>by omega⟩
theorem af0:nN 48 (λ_ _ cs (x:fe)=>cs=x.l):=λH enc W fuel cs x h=>by
 obtain⟨n,ds,hx,hf⟩:=jw [3,3,46,46] kQ h;obtain⟨_,_,_,_,a0,rfl,rfl,rfl,w0,hf⟩:=bT oA hf;obtain⟨_,_,_,_,a1,rfl,rfl,rfl,w1,hf⟩:=bT oA hf;obtain⟨_,_,_,_,a2,rfl,rfl,rfl,w2,hf⟩:=bT Jn hf;obtain⟨_,_,_,_,a3,rfl,rfl,rfl,w3,rfl,rfl⟩:=bT Jn hf;refine⟨⟨a0,a1,a2,a3⟩,rfl,?_⟩;rw[hx];simp only[Rows.uptoBulk,Rows.uptoBulkAll,Wt.wt] at*;omega
instance:Wt State:=⟨λx=>Wt.wt x.range+Wt.wt x.floor+Wt.wt x.closed+Wt.wt x.iA+Wt.wt x.ia+1,λ_=>by omega⟩
theorem YV:nN 52 State.rd:=λH enc W fuel cs x h=>by
 obtain⟨n,ds,hx,hf⟩:=jw [48,39,39,49,50] kQ h;obtain⟨_,_,_,_,a0,rfl,rfl,rfl,w0,hf⟩:=bT af0 hf;obtain⟨_,_,_,_,a1,rfl,rfl,rfl,w1,hf⟩:=bT vP hf;obtain⟨_,_,_,_,a2,rfl,rfl,rfl,w2,hf⟩:=bT vP hf;obtain⟨_,_,_,_,a3,rfl,rfl,⟨v3,rfl,r3⟩,w3,hf⟩:=bT ai0 hf;obtain⟨_,_,_,_,a4,rfl,rfl,⟨v4,rfl,r4⟩,w4,rfl,rfl⟩:=bT ai1 hf;refine⟨⟨a0,a1,a2,a3,a4⟩,⟨v3,v4,rfl,r3,r4⟩,?_⟩;rw[hx];simp only[Rows.uptoBulk,Rows.uptoBulkAll,Wt.wt] at*;omega
instance:Wt Rec:=⟨λx=>Wt.wt x.kind+Wt.wt x.aG+Wt.wt x.aU+Wt.wt x.prev+Wt.wt x.jM+Wt.wt x.n+Wt.wt x.uf+Wt.wt x.reads+Wt.wt x.writes+Wt.wt x.parts+Wt.wt x.xp+Wt.wt x.state+1,λ_=>by omega⟩
theorem amA:nN 73 Rec.rd:=λH enc W fuel cs x h=>by
 obtain⟨n,ds,hx,hf⟩:=jw [3,34,39,39,4,3,46,40,42,43,71,52] kQ h;obtain⟨_,_,_,_,a0,rfl,rfl,rfl,w0,hf⟩:=bT oA hf;obtain⟨_,_,_,_,a1,rfl,rfl,rfl,w1,hf⟩:=bT YT hf;obtain⟨_,_,_,_,a2,rfl,rfl,rfl,w2,hf⟩:=bT vP hf;obtain⟨_,_,_,_,a3,rfl,rfl,rfl,w3,hf⟩:=bT vP hf;obtain⟨_,_,_,_,a4,rfl,rfl,rfl,w4,hf⟩:=bT acf hf;obtain⟨_,_,_,_,a5,rfl,rfl,rfl,w5,hf⟩:=bT oA hf;obtain⟨_,_,_,_,a6,rfl,rfl,rfl,w6,hf⟩:=bT Jn hf;obtain⟨_,_,_,_,a7,rfl,rfl,⟨v7,rfl,r7⟩,w7,hf⟩:=bT aec hf;obtain⟨_,_,_,_,a8,rfl,rfl,⟨v8,rfl,r8⟩,w8,hf⟩:=bT YU hf;obtain⟨_,_,_,_,a9,rfl,rfl,⟨v9,rfl,r9⟩,w9,hf⟩:=bT aed hf;obtain⟨_,_,_,_,a10,rfl,rfl,⟨v10,rfl,r10⟩,GA,hf⟩:=bT ak6 hf;obtain⟨_,_,_,_,a11,rfl,rfl,⟨vh,vp,rfl,ara,arb⟩,Ri,rfl,rfl⟩:=bT YV hf;refine⟨⟨a0,a1,a2,a3,a4,a5,a6,a7,a8,a9,a10,a11⟩,⟨v7,v8,v9,v10,vh,vp,rfl,r7.xt,r8.xt,r9.xt,r10.xt,ara,arb⟩,?_⟩;rw[hx];simp only[Rows.uptoBulk,Rows.uptoBulkAll,Wt.wt] at*;omega
open Go.ChangeShapes Go.WideShapes Go.ChangeAt Go.RowKit
variable {P : Program} {W' : World} {args : Array Value}
def Tl (P:Program) (ts:List TypeId):Bool:=ts.all λt=>P.readableRec t&&decide (t<P.types.size)
theorem UY (hl:laidOutB P=true) {enc:TypeId×Value->H} (hb:Below W.heap.size W W'): ∀{ts:List TypeId} {vs:List Value} {ds:List (DataW H)} {ps:List MemPlace},Tl P ts=true->(∀x∈ps,x.block<W.heap.size)->
  zp enc P W 0 (λ_=>true) true ts vs ds ps->zp enc P W' 0 (λb=>decide (b<W.heap.size)) true ts vs ds ps
 |[],[],[],_,_,_,h=>h
 |t::ts,v::vs,d::ds,ps,hr,cI,⟨p,q,h1,h2,GC⟩=>by
  unfold Tl at hr;simp only[iZ,aA,decide_eq_true_eq] at hr;subst GC;exact⟨p,q,Below.trod hl hr.1.1 hr.1.2 h1 hb λx hx=>cI x (List.mem_append_left _ hx),UY hl hb hr.2 (λx hx=>cI x (List.mem_append_right _ hx)) h2,rfl⟩
 |[],[],_::_,_,_,_,h=>h.elim
 |[],_::_,_,_,_,_,h=>h.elim
 |_::_,[],_,_,_,_,h=>h.elim
 |_::_,_::_,[],_,_,_,h=>h.elim
theorem air (hl:laidOutB P=true) {tb:TypeId} (hub:P.underlying tb=some .bool) {enc:TypeId×Value->H} {f:Func} {s:ChangeSpec} {ds:List (DataW H)} {before:List MemPlace} (hv:s.vars=[]) (hrt:f.resultTypes= #[tb]) (hc:Tl P f.params.toList=true)
  (hs:(s.fn H (ds++[])).results=[.lit (.bool true)]/\(s.fn H (ds++[])).args=ds/\(s.fn H (ds++[])).vars=[])
  (hW:DataW.Whole enc P f.params.toList s.vars false W args.toList ds [] before) (hA:zp enc P W 0 (λ_=>true) true f.params.toList args.toList ds before) (hx:Ext W W'):
  s.post enc P f false true false false W args (.bool true) W':=by
 have hb:=hx.below;refine⟨ds,[],before,[],before,[],hW,?_,?_,?_,Below.frame hb _,λh=>by cases h⟩
 ·rw[hrt,hs.1];exact trodAll_cons_mk (shut_bool hub _) trodAll_mk0
 ·rw[hs.2.1];exact UY hl hb hc (λx hx=>hW.lt x hx) hA
 ·rw[hs.2.2,hv];rfl
theorem ais:ownKnob pg.godebug=none:=by rfl
theorem Zd:laidOutB pg=true:=by kernel_rfl
def bound {l:List (DataW H)} (hk:Rows.uptoSmall H l=true):Rows.uptoBulkAll l<=1048576:=of_decide_eq_true hk
attribute [local irreducible] un jn jh ji ld1 jt st1 nW mP pN sR qj JG ET gT rY aY nU nV eW eV eU eC eF gE nB fin jl bC dF vS N9 JH JI HP JJ JK Oa Ob JL Oc Gi Gj JM JN JO Od Oe JP
def cn.cmp (a b:cn):Int:=
 let p:=if a.wall≠b.wall then(a.wall,b.wall)else if a.dA≠b.dA then(a.dA,b.dA)else(a.node,b.node)
 if p.1<p.2 then-1 else if p.1>p.2 then 1 else 0
def bX.less (a b:bX):Bool:=
 if a.dW≠b.dW then a.dW<b.dW else if a.aR≠b.aR then a.aR<b.aR else a.sq<b.sq
def bX.may (a:bX):Bool:=a.dW>=1&&a.dW<=2&&a.aR>=1&&a.sq>=1
def cn.may (a:cn):Bool:=a.wall>=0&&a.wall<=281474976710656&&a.dA>=0&&a.dA<=65535&&a.node>=0&&a.node<=63
def cn.later (a b:cn):cn:=if a.cmp b<0 then b else a
def cn.Ia (a:cn):Bool:=a.may&&!decide (a= .zero)
theorem wF (a b:cn):Pure pg 155 #[a.v,b.v] (I (a.cmp b)):=by
 intro w0;refine S9.1 λhs=>?_;repeat' first|refine aq ?_;intros|refine dg ?_ ?_<;>intros|with_reducible apply cK|(with_reducible refine fE hs ?_);simp_all [cn.cmp]<;>omega
theorem DO (a:bX):Pure pg 213 #[a.v] (B a.may):=by
 intro w0;refine Tb.1 λhs=>?_;repeat' first|refine aq ?_;intros|refine dg ?_ ?_<;>intros|(with_reducible refine fE hs ?_);simp_all [bX.may]<;>omega
theorem qa (a:cn):Pure pg 140 #[a.v] (B a.may):=by
 intro w0;refine aeK.1 λhs=>?_;repeat' first|refine aq ?_;intros|refine dg ?_ ?_<;>intros|(with_reducible refine fE hs ?_);simp_all [cn.may]<;>omega
theorem OE (a b:cn):Pure pg 104 #[a.v,b.v] (a.later b).v:=by
 intro w0;refine Zu.1 λhs=>?_;repeat' first|refine aq ?_;intros|refine dg ?_ ?_<;>intros|(refine pt (wF _ _) hs ?_;intro w X hs)|(with_reducible refine fE hs ?_);simp_all [cn.later]<;>grind
theorem VN (n:Int):Pure pg 338 #[I n] (B (decide (n>=1)&&decide (n<=12))):=by
 intro w0;refine Th.1 λhs=>?_;repeat' first|refine aq ?_;intros|refine dg ?_ ?_<;>intros|(with_reducible refine fE hs ?_);simp_all<;>omega
theorem J9 (a:cn):Pure pg 339 #[a.v] (B a.Ia):=by
 intro w0;refine Ti.1 λhs=>?_;repeat' first|refine aq ?_;intros|(with_reducible refine agr _ ?_ ?_ ?_);(· kernel_rfl);all_goals intros|(refine kG (qa _) hs ?_ ?_<;>intro _ w X hs)|(with_reducible refine fE hs ?_);simp_all [cn.Ia]
def cn.Tm (c:Bool) (a:cn):Bool:=if c then a.Ia else decide (a= .zero)
theorem Tn (c:Bool) (a:cn):Pure pg 336 #[B c,a.v] (B (a.Tm c)):=by
 intro w0;refine RN.1 λhs=>?_;repeat' first|refine aq ?_;intros|refine dg ?_ ?_<;>intros|(with_reducible refine FO _ ?_ ?_ ?_);(· kernel_rfl);all_goals intros|(refine kG (J9 _) hs ?_ ?_<;>intro _ w X hs)|(with_reducible refine fE hs ?_);simp_all [cn.Tm]
theorem Cz (x:Nat) (wa:World):(callFunc 144 #[.float .f64 x]).run pg wa= .ok (.value (.int .u64 x)) wa:=by kernel_rfl
variable {a : Value}
theorem SV {b:Value} {xs ys:List Int} (ha:Sl w X 1 a (xs.map I1)) (hb:Sl w X 1 b (ys.map I1)):
  Ct pg 21 #[a,b] w X nX λv _ _=>v=B (decide (xs=ys)):=by
  intro w0 hk;replace ha:=ha.mv hk.cE;replace hb:=hb.mv hk.cE;have lh:=ha.gV;refine Rx.1 λhs=>?_;repeat' first|refine aq ?_;intros|refine dg ?_ ?_<;>intros|(refine qr ?_;intro wa hk;(simp only[B,Value.bool.injEq];symm;rw[decide_eq_false_iff_not];rintro rfl;omega))
  have hlen:xs.length=ys.length:=by omega
  refine fY (λn a w X=> ∃i:Nat,a=I (i:Nat)/\n=(xs).length-i/\i<=(xs).length/\ai (bP w0) w0 X w/\(xs=ys↔xs.drop i=ys.drop i)) (xs).length ⟨0,rfl,rfl,ak _,hs,by simp⟩ ?_;rintro n a w X ⟨i,rfl,rfl,hi,hs,hw⟩;rcases dB (xs) i with⟨cI,x,hx,hd⟩|⟨dC,hd⟩
  ·obtain⟨y,hy,hdy⟩:=acn (xs:=ys) (i:=i) zQ;repeat' first|refine aI ?_;intros|refine dg ?_ ?_<;>intros|(refine qr ?_;intro wa hk;(simp_all [decide_true]))|((with_reducible refine ey ((xs).length-(i+1)) ?_ ?_);omega;exact⟨i+1,by simp,rfl,by omega,hs,by simp_all [decide_true]⟩)
  ·have hdy:=kz (l:=ys) (i:=i) zQ;repeat' first|refine aI ?_;intros|(refine qr ?_;intro wa hk;simp_all)
abbrev El:Value->World->World->Prop:=λv _ _=> ∃n:Int,v=I n
theorem ky (a b c:Int) (w:World) (X:XS):Ct pg 65 #[I a,I b,I c] w X nX El:=by
 intro w0 hk;refine S4.1 λhs=>?_;repeat' first|refine aq ?_;intros|refine dg ?_ ?_<;>intros|(refine qr ?_;intro wa hk;exact⟨_,rfl⟩)|with_reducible apply oG
variable {most : Int}
theorem vO {xs:List BA} (ha:Sl w X 1 a (xs.map S1)):
  Ct pg 66 #[a,I most] w X nX El:=by
 intro w0 hk;replace ha:=ha.mv hk.cE;have lh:=ha.gV;refine Ii.1 λhs=>?_;refine gM (λn a b w X=> ∃(i:Nat) (s:Int),a=I i/\b=I s/\n=(xs).length-i/\i<=(xs).length/\ai (bP w0) w0 X w) (xs).length ⟨0,_,rfl,rfl,rfl,ak _,hs⟩ ?_;rintro n a b w X ⟨i,s,rfl,rfl,rfl,hi,hs⟩;repeat' first|refine aq ?_;intros|refine dg ?_ ?_<;>intros|(refine qr ?_;intro wa hk;exact⟨_,rfl⟩)|(refine yi (ky  _ _ _ _ _) hs ?_;intro n1 w X hs)|((with_reducible refine fG ((xs).length-(i+1)) ?_ ?_);omega;exact⟨i+1,_,by simp,rfl,rfl,by omega,hs⟩)|with_reducible apply oG
variable {xs : List KV}
theorem uK (ha:Sl w X 4 a (xs.map KV.l)):
  Ct pg 68 #[a,I most] w X nX El:=by
 intro w0 hk;replace ha:=ha.mv hk.cE;have lh:=ha.gV;refine Hr.1 λhs=>?_;refine gM (λn a b w X=> ∃(i:Nat) (s:Int),a=I i/\b=I s/\n=(xs).length-i/\i<=(xs).length/\ai (bP w0) w0 X w) (xs).length ⟨0,_,rfl,rfl,rfl,ak _,hs⟩ ?_;rintro n a b w X ⟨i,s,rfl,rfl,rfl,hi,hs⟩;repeat' first|refine aq ?_;intros|refine dg ?_ ?_<;>intros|(refine qr ?_;intro wa hk;exact⟨_,rfl⟩)|(refine yi (ky  _ _ _ _ _) hs ?_;intro n1 w X hs)|((with_reducible refine fG ((xs).length-(i+1)) ?_ ?_);omega;exact⟨i+1,_,by simp,rfl,rfl,by omega,hs⟩)|with_reducible apply oG
theorem F9 {xs:List gy} (ha:qZ w X a xs):
  Ct pg 117 #[a,I most] w X nX El:=by
 intro w0 hk;replace ha:=ha.mv hk.cE;have lh:=ha.len;refine FN.1 λhs=>?_;refine gM (λn a b w X=> ∃(i:Nat) (s:Int),a=I i/\b=I s/\n=(xs).length-i/\i<=(xs).length/\ai (bP w0) w0 X w) (xs).length ⟨0,_,rfl,rfl,rfl,ak _,hs⟩ ?_;rintro n a b w X ⟨i,s,rfl,rfl,rfl,hi,hs⟩;repeat' first|refine aq ?_;intros|refine dg ?_ ?_<;>intros|((with_reducible apply Wv);assumption;(try (case hz=>rfl));(case hr=>exact qR);(try (case hz=>omega));(case ht=>kernel_rfl);(case hs=>kernel_rfl);intros)|(refine qr ?_;intro wa hk;exact⟨_,rfl⟩)|(refine yi (ky  _ _ _ _ _) hs ?_;intro n1 w X hs)|(refine yi (vO  qA) hs ?_;intro n1 w X hs)|(refine yi (uK  qA) hs ?_;intro n1 w X hs)|((with_reducible refine fG ((xs).length-(i+1)) ?_ ?_);omega;exact⟨i+1,_,by simp,rfl,rfl,by omega,hs⟩)|with_reducible apply oG
theorem FP {xs:List kM} (ha:ri w X a xs):
  Ct pg 116 #[a,I most] w X nX El:=by
 intro w0 hk;replace ha:=ha.mv hk.cE;have lh:=ha.len;refine En.1 λhs=>?_;refine Bc (λn a _ b w X=> ∃(i:Nat) (s:Int),a=I i/\b=I s/\n=xs.length-i/\i<=xs.length/\ai (bP w0) w0 X w) xs.length ⟨0,_,rfl,rfl,rfl,ak _,hs⟩ ?_;rintro n a a2 b w X ⟨i,s,rfl,rfl,rfl,hi,hs⟩;repeat' first|refine aq ?_;intros|refine dg ?_ ?_<;>intros|((with_reducible apply RQ);assumption;(try (case hz=>rfl));(case hr=>exact qR);(try (case hz=>omega));(case ht=>kernel_rfl);(case hs=>kernel_rfl);intros)|(refine qr ?_;intro wa hk;exact⟨_,rfl⟩)|(refine yi (ky  _ _ _ _ _) hs ?_;intro n1 w X hs)|with_reducible apply oG
 have cI:i<xs.length:=by omega
 obtain⟨x,hx,hd⟩:=acn cI;refine gM (λn a b w X=> ∃(k:Nat) (s:Int),a=I k/\b=I s/\n=x.nh.length-k/\k<=x.nh.length/\ai (bP w0) w0 X w) x.nh.length ⟨0,_,rfl,rfl,rfl,ak _,hs⟩ ?_;rintro n a b w X ⟨k,s,rfl,rfl,rfl,hk,hs⟩;repeat' first|refine aq ?_;intros|refine dg ?_ ?_<;>intros|((with_reducible apply RQ);assumption;(try (case hz=>rfl));(case hr=>exact qR);(try (case hz=>omega));(case ht=>kernel_rfl);(case hs=>kernel_rfl);intros)|(refine yi (ky  _ _ _ _ _) hs ?_;intro n1 w X hs)|((with_reducible refine xV ((xs).length-(i+1)) ?_ ?_);omega;exact⟨i+1,_,by simp,rfl,rfl,by omega,hs⟩)|((with_reducible refine fG (x.nh.length-(k+1)) ?_ ?_);omega;exact⟨k+1,_,by simp,rfl,rfl,by omega,hs⟩)|(have hl9:=Sl.gV ‹Sl w0 (bP w0) 6 _ (List.map pW.l x.nh)›;(with_reducible apply ajU);omega;omega)|with_reducible apply oG
variable {vh vp : Value} {s : State}
theorem Bw (ha:ri w X vh s.iA) (hb:qZ w X vp s.ia):
  Ct pg 70 #[s.v vh vp,I most] w X nX El:=by
 intro w0 hk;replace ha:=ha.mv hk.cE;replace hb:=hb.mv hk.cE;refine Ij.1 λhs=>?_;repeat' first|(refine qr ?_;intro wa hk;exact⟨_,rfl⟩)|(refine yi (ky  _ _ _ _ _) hs ?_;intro n1 w X hs)|(refine yi (FP  qA) hs ?_;intro n1 w X hs)|(refine yi (F9  qA) hs ?_;intro n1 w X hs)
variable {vd vq vr vw : Value} {r : Rec}
theorem L3 (ha:r.at w X vr vw vp vq vh vd):
  Ct pg 69 #[r.v vr vw vp vq vh vd,I most] w X nX El:=by
 intro w0 hk;obtain⟨h1,h2,h3,h4,h5,h6⟩:=ha.mv hk.cE;have lh:=h4.gV;refine Ku.1 λhs=>?_;repeat' first|refine aq ?_;intros|(refine yi (ky  _ _ _ _ _) hs ?_;intro n1 w X hs)|(refine yi (vO  qA) hs ?_;intro n1 w X hs)|(refine yi (uK  qA) hs ?_;intro n1 w X hs)|with_reducible apply oG
 refine gM (λn a b w X=> ∃(i:Nat) (s:Int),a=I i/\b=I s/\n=(r.xp).length-i/\i<=(r.xp).length/\ai (bP w0) w0 X w) (r.xp).length ⟨0,_,rfl,rfl,rfl,ak _,hs⟩ ?_;rintro n a b w X ⟨i,s,rfl,rfl,rfl,hi,hs⟩;repeat' first|refine aq ?_;intros|refine dg ?_ ?_<;>intros|(refine qr ?_;intro wa hk;exact⟨_,rfl⟩)|(refine yi (ky  _ _ _ _ _) hs ?_;intro n1 w X hs)|(refine yi (Bw  (s:=r.state) qA qA) hs ?_;intro n1 w X hs)|((with_reducible refine fG ((r.xp).length-(i+1)) ?_ ?_);omega;exact⟨i+1,_,by simp,rfl,rfl,by omega,hs⟩)|with_reducible apply oG
def iN (s:BA):Bool:=decide ((s.size:Int)>=1)&&decide ((s.size:Int)<=24)
theorem lD (s:BA):Pure pg 162 #[.string s] (B (iN s)):=by
 intro w0;refine Zw.1 λhs=>?_;repeat' first|refine aq ?_;intros|refine dg ?_ ?_<;>intros|(with_reducible refine fE hs ?_);simp_all [iN]<;>omega
theorem Jo (r:fe) (x:Nat):Pure pg 222 #[r.v,.float .f64 x] (B ((J6 x r.lo||pY x r.lo)&&qT x r.hi)):=by
 intro w0;refine abl.1 λhs=>?_;repeat' first|refine aq ?_;intros|refine dg ?_ ?_<;>intros|(with_reducible refine fE hs ?_);(simp_all<;>grind)
def canon (x:Nat):Nat:=if pY x x then x else 9221120237041090560
theorem rP (x:Nat):Pure pg 347 #[.float .f64 x] (.float .f64 (canon x)):=by
 intro w0;refine ZM.1 λhs=>?_;repeat' first|refine aq ?_;intros|refine dg ?_ ?_<;>intros|(with_reducible refine fE hs ?_);simp_all [canon]|((with_reducible refine FG (v:=.float .f64 9221120237041090560) ?_ hs.has ?_);(· intro wa;kernel_rfl);intro w X aB;replace hs:=hs.trans aB)
theorem Es (x:Nat):Pure pg 305 #[.float .f64 x] (.int .u64 (canon x)):=by
 intro w0;refine abo.1 λhs=>?_;repeat' first|(refine pt (rP _) hs ?_;intro w X hs)|(with_reducible refine fE hs ?_);rfl|((with_reducible refine FG (Cz _) hs.has ?_);intro w X aB;replace hs:=hs.trans aB)
def land (a b:Int):Int:=IntKind.u64.wrap (aF IntKind.u64.bits a&&& aF IntKind.u64.bits b).toNat
def Jp (a b:Int):Int:=IntKind.u64.wrap (aF IntKind.u64.bits a^^^aF IntKind.u64.bits b).toNat
def Jq (a n:Int):Int:=a.fdiv (2^min n.toNat IntKind.u64.bits)
def ZT (a b:Int):Int:=IntKind.u64.wrap (a*b)
variable {b : Int} {N : Value -> Prop}
def agu {a:Int} (h:N (.int .u64 (land a b))):aY P X w (binOp .and t (.int .u64 a) (.int .u64 b)) N:=MX h
def RR {a:Int} (h:N (.int .u64 (Jp a b))):aY P X w (binOp .xor t (.int .u64 a) (.int .u64 b)) N:=Si h
def Mx {a:Int} (hb: ¬b<0) (h:N (.int .u64 (Jq a b))):aY P X w (binOp .shr t (.int .u64 a) (.int .u64 b)) N:=Ez hb h
def ZU {a:Int} (h:N (.int .u64 (ZT a b))):aY P X w (binOp .mul t (.int .u64 a) (.int .u64 b)) N:=Sg h
def cls (x:Nat):Int:=
 let b:Int:=canon x
 let e:=land (Jq b 52) 2047
 let f:=land b 4503599627370495
 if e=2047/\f≠0 then 0 else
  let k:=if e=2047 then 8 else if e>0 then 7 else if f>0 then 6 else 5
  if land b 9223372036854775808≠0 then 9-k else k
theorem Hy (x:Nat):Pure pg 307 #[.float .f64 x] (I (cls x)):=by
 intro w0;refine ZK.1 λhs=>?_;repeat' first|refine aq ?_;intros|refine dg ?_ ?_<;>intros|with_reducible apply cK|(refine pt (Es _) hs ?_;intro w X hs)|(with_reducible refine fE hs ?_);(simp only[cls] at*;grind)|with_reducible apply agu|(with_reducible apply Mx);omega
def GQ:Nat:=4607182418800017408
def Ik (x:Nat):Bool:=decide (cls x>=5)&&(qT x GQ||pY x GQ)
theorem Ka (x:Nat):Pure pg 252 #[.float .f64 x] (B (Ik x)):=by
 intro w0;refine Tc.1 λhs=>?_;repeat' first|refine aq ?_;intros|refine dg ?_ ?_<;>intros|(refine pt (Hy _) hs ?_;intro w X hs)|(with_reducible refine fE hs ?_);(simp_all [Ik,GQ]<;>grind)
def ED (x:Nat):Nat×Int:=if cls x=4 then(0,0)else if Ik x then(x,0)else(0,1)
theorem VO (x:Nat):Pure pg 337 #[.float .f64 x] (.tuple #[.float .f64 (ED x).1,I (ED x).2]):=by
 intro w0;refine Tg.1 λhs=>?_;repeat' first|refine aq ?_;intros|refine dg ?_ ?_<;>intros|(refine kG (Ka _) hs ?_ ?_<;>intro _ w X hs)|(refine pt (Hy _) hs ?_;intro w X hs)|(with_reducible refine fE hs ?_);(simp_all [ED]<;>grind)
def fe.may (r:fe):Bool:=decide (r.id>=1)&&decide (r.id<=12)&&decide (r.iE>=0)&&Ik r.lo&&Ik r.hi&&qT r.lo r.hi
theorem wJ (r:fe):Pure pg 177 #[r.v] (B r.may):=by
 intro w0;refine Zy.1 λhs=>?_;repeat' first|refine aq ?_;intros|refine dg ?_ ?_<;>intros|with_reducible apply cK|(refine kG (Ka _) hs ?_ ?_<;>intro _ w X hs)|(with_reducible refine fE hs ?_);(simp_all [fe.may]<;>omega)
def gO.may (v:gO):Bool:=
 if v.kind=0 then decide (v.num=0)&&decide (v.text=⟨#[]⟩)
 else if v.kind=1 then decide (v.text=⟨#[]⟩)&&decide (v.num=canon v.num)
 else if v.kind=2 then decide (v.num=0)&&decide ((v.text.size:Int)<=64)
 else false
theorem mA (v:gO):Pure pg 229 #[v.v] (B v.may):=by
 intro w0;refine ZE.1 λhs=>?_;repeat' first|refine aq ?_;intros|refine dg ?_ ?_<;>intros|with_reducible apply cK|(refine pt (Es _) hs ?_;intro w X hs)|(with_reducible refine fE hs ?_);(simp_all [gO.may]<;>omega)|((with_reducible refine FG (Cz _) hs.has ?_);intro w X aB;replace hs:=hs.trans aB)
def QT (h:Int) (b:UInt8):Int:=ZT (Jp h (IntKind.u64.wrap b.toNat)) 1099511628211
def anF (h:Int):Nat->Int
 |0=>h
 |1=>ZT (Jp h (Jq h 33)) 18397679294719823053
 |_=>let g:=ZT (Jp h (Jq h 33)) 18397679294719823053;ZT (Jp g (Jq g 33)) 14181476777654086739
def My (s:BA):Int:=let h:=anF (s.data.toList.foldl QT 14695981039346656037) 2;Jp h (Jq h 33)
theorem ZV (s:BA) (arc:s.size<=2^62):Pure pg 294 #[.string s] (.int .u64 (My s)):=by
 intro w0;have gh:=Lr s;refine VJ.1 λhs=>?_;repeat' refine aq ?_;intros
 refine gM (λn a b w X=> ∃(i:Nat) (h:Int),a=I i/\b= .int .u64 h/\n=s.data.toList.length-i/\i<=s.data.toList.length/\ai (bP w0) w0 X w/\
  s.data.toList.foldl QT 14695981039346656037=(s.data.toList.drop i).foldl QT h) s.data.toList.length ?_ ?_
 ·exact⟨0,14695981039346656037,rfl,rfl,rfl,ak _,hs,by rw[tC]⟩
 rintro n a b w X ⟨i,h,rfl,rfl,rfl,hi,hs,hw⟩;rcases dB s.data.toList i with⟨cI,x,hx,hd⟩|⟨dC,hd⟩
 ·repeat' first|refine aI ?_;intros|with_reducible (first|apply RR|apply ZU)|((with_reducible refine fG ((s.data.toList).length-(i+1)) ?_ ?_);omega;exact⟨i+1,_,by simp,rfl,rfl,by omega,hs,by rw[hw,hd,fN];rfl⟩)
 ·repeat' refine aI ?_;intros
  rw[hd] at hw;refine gM (λn a b w X=> ∃(i:Nat),a=I i/\b= .int .u64 (anF h i)/\n=2-i/\i<=2/\ai (bP w0) w0 X w) 2 ⟨0,rfl,rfl,rfl,ak _,hs⟩ ?_;rintro n a b w X ⟨i,rfl,rfl,rfl,hi,hs⟩;obtain rfl|rfl|rfl:i=0\/i=1\/i=2:=by omega
  ·repeat' first|refine aI ?_;intros|(with_reducible apply RR)|(with_reducible apply ZU)|(with_reducible apply Mx);omega|(with_reducible refine fG 1 ?_ ?_);omega;exact⟨1,rfl,rfl,rfl,by omega,hs⟩
  ·repeat' first|refine aI ?_;intros|(with_reducible apply RR)|(with_reducible apply ZU)|(with_reducible apply Mx);omega|(with_reducible refine fG 0 ?_ ?_);omega;exact⟨2,rfl,rfl,rfl,by omega,hs⟩
  ·repeat' first|refine aI ?_;intros|(with_reducible refine fE hs ?_);(simp only[My,hw];rfl)|(with_reducible apply RR)|(with_reducible apply Mx);omega
theorem aeM (n:Int): ∃r,floatBits .quo .f64 (floatOfInt .f64 n) 4845873199050653696=some r:=by
 have hn:(Ieee.double.read (floatOfInt .f64 n)).isNaN=false:=Zj _ _ _ _;have hd:Ieee.double.read 4845873199050653696= .number false 4503599627370496 1:=by kernel_rfl
 show∃r,((Ieee.double.read (floatOfInt .f64 n)).quotient _ (Ieee.double.read 4845873199050653696)).map _=some r
 rw[hd];cases hr:Ieee.double.read (floatOfInt .f64 n)with
 |number s m p=>simp[zd]
 |infinity s=>simp[zd]
 |nan s f=>rw[hr] at hn;simp[Ieee.Datum.isNaN] at hn
def placeOf (s:BA):Nat:=(floatBits .quo .f64 (floatOfInt .f64 (Jq (My s) 11)) 4845873199050653696).getD 0
theorem aeN (s:BA):floatBits .quo .f64 (floatOfInt .f64 (Jq (My s) 11)) 4845873199050653696=some (placeOf s):=by
 obtain⟨r,hr⟩:=aeM (Jq (My s) 11);rw[placeOf,hr];rfl
theorem Jr (s:BA) (arc:s.size<=2^62):Pure pg 223 #[.string s] (.float .f64 (placeOf s)):=by
 intro w0;refine abm.1 λhs=>?_;repeat' first|refine aq ?_;intros|(refine pt (ZV _ (by first|assumption|omega)) hs ?_;intro w X hs)|(with_reducible refine fE hs ?_);rfl|(with_reducible apply Mx);omega|(with_reducible apply aoW);(· exact aeN s)
def rising (l:List BA):Bool:=chain iN zK none l
def yN (l:List BA):Bool:=rising l&&decide ((l.length:Int)<=16)
theorem abr {xs:List BA} (ha:Sl w X 1 a (xs.map S1)):
  Ct pg 295 #[a] w X nX λv _ _=>v=B (yN xs):=by
 intro w0 hk;replace ha:=ha.mv hk.cE;have lh:=ha.gV;refine ZJ.1 λhs=>?_;repeat' refine aq ?_;intros
 refine fY (λn a w X=> ∃i:Nat,a=I (i:Nat)/\n=(xs).length-i/\i<=(xs).length/\ai (bP w0) w0 X w/\chain iN zK none xs=chain iN zK (uR xs i) (xs.drop i)) (xs).length ⟨0,rfl,rfl,ak _,hs,by simp[uR]⟩ ?_;rintro n a w X ⟨i,rfl,rfl,hi,hs,hw⟩;rcases dB (xs) i with⟨cI,x,hx,hd⟩|⟨dC,hd⟩
 ·rcases Nk cI with⟨h0,hp⟩|⟨h0,y,hy,hp⟩<;>rw[hp,hd,chain] at hw<;>clear hd
  ·repeat' first|refine aI ?_;intros|(refine kG (lD _) hs ?_ ?_<;>intro _ w X hs)|(refine qr ?_;intro wa hk;simp_all [yN,rising,chain])|((with_reducible refine ey ((xs).length-(i+1)) ?_ ?_);omega;exact⟨i+1,by simp,rfl,by omega,hs,by rw[hw,rN hx];simp[*]⟩)
  ·repeat' first|refine aI ?_;intros|refine dg ?_ ?_<;>intros|(refine kG (lD _) hs ?_ ?_<;>intro _ w X hs)|(refine qr ?_;intro wa hk;simp_all [yN,rising,chain])|((with_reducible refine ey ((xs).length-(i+1)) ?_ ?_);omega;exact⟨i+1,by simp,rfl,by omega,hs,by rw[hw,rN hx];simp[*]⟩)
 ·repeat' first|refine aI ?_;intros|refine dg ?_ ?_<;>intros|(refine qr ?_;intro wa hk;simp_all [yN,rising,chain]<;>omega)
def Mz (l:List KV):Bool:=yN (l.map (·.key))&&l.all (·.val.may)
theorem PR (ha:Sl w X 4 a (xs.map KV.l)) (hb:xs.length<=2^40):
  Ct pg 296 #[a] w X nX λv wa w'=>Own w' (made wa w') wa.heap.size 9 1 v ((xs.map (·.key)).map S1):=by
 intro w0 hk;replace ha:=ha.mv hk.cE;have lh:=ha.gV;refine NO.1 λhs=>?_;repeat' refine aq ?_;intros
 refine gM (λn a b w X=> ∃i:Nat,a=I i/\n=xs.length-i/\i<=xs.length/\ai (bP w0) w0 X w/\Own w X w0.heap.size 9 1 b (((xs.take i).map (·.key)).map S1)) xs.length ⟨0,rfl,rfl,ak _,hs,Own.nil _ _ _ _ _⟩ ?_;rintro n a b w X ⟨i,rfl,rfl,hi,hs,ho⟩;rcases dB (xs) i with⟨cI,x,hx,hd⟩|⟨dC,hd⟩
 ·repeat' first|refine aI ?_;intros|((with_reducible apply M6);(case own=>first|assumption|exact Own.since aQ aQ);(case hs=>assumption);(case h0=>first|exact λ_ h=>h|exact gw.has);(case he=>kernel_rfl);(case hk=>rfl);(case ho=>first|rfl|assumption);(case hb=>(simp only[af,aD,aa,aJ,bL];omega));(case hl=>(simp only[af,aD,aa,aJ,bL];omega));intro acc w X aB ho hc dc;replace hs:=aB)|((with_reducible refine fG ((xs).length-(i+1)) ?_ ?_);omega;exact⟨i+1,by simp,rfl,by omega,hs,by rw[bW,hx];simpa using ho⟩)
 ·repeat' first|refine aI ?_;intros|(refine qr ?_;intro wa hk;(rw[az dC] at ho;exact(ho.kp hk).tight))
def gy.err (p:gy):Int:=
 if !p.aG.may then 4 else if !p.aU.may||decide (p.aU= .zero)then 17
 else if !yN p.reads||!yN (p.writes.map (·.key))then 4
 else if p.writes.all (·.val.may)then 0 else 4
variable {p : gy}
theorem zq (h1:Sl w X 1 vr (p.reads.map S1)) (h2:Sl w X 4 vw (p.writes.map KV.l)) (hb:p.writes.length<=2^40):
  Ct pg 224 #[p.v vr vw] w X nX λv _ _=>v=I p.err:=by
 intro w0 hk;replace h1:=h1.mv hk.cE;replace h2:=h2.mv hk.cE;refine Ms.1 λhs=>?_;repeat' first|refine aq ?_;intros|(with_reducible refine FO _ ?_ ?_ ?_);(· kernel_rfl);all_goals intros|with_reducible apply cK|(refine kG (qa _) hs ?_ ?_<;>intro _ w X hs)|(refine kG (DO _) hs ?_ ?_<;>intro _ w X hs)|(refine qr ?_;intro wa hk;simp_all [gy.err])|(refine qL (abr  qA) hs ?_ ?_<;>intro _ w X hs)|(refine cM (PR  qA qA) kQ hs.has ?_;rintro v1 wa w X vz hle gC aB;have gr:=ad hs.kp.size hle;replace hs:=hs.trans aB;replace vz:=vz.up gC gr)
 refine fY (λn a w X=> ∃i:Nat,a=I (i:Nat)/\n=(p.writes).length-i/\i<=(p.writes).length/\ai (bP w0) w0 X w/\p.writes.all (·.val.may)=(p.writes.drop i).all (·.val.may)) (p.writes).length ⟨0,rfl,rfl,ak _,hs,by simp⟩ ?_;rintro n a w X ⟨i,rfl,rfl,hi,hs,hw⟩;rcases dB (p.writes) i with⟨cI,x,hx,hd⟩|⟨dC,hd⟩
 ·repeat' first|refine aI ?_;intros|(refine kG (mA _) hs ?_ ?_<;>intro _ w X hs)|(refine qr ?_;intro wa hk;simp_all [gy.err])|((with_reducible refine ey ((p.writes).length-(i+1)) ?_ ?_);omega;exact⟨i+1,by simp,rfl,by omega,hs,by rw[hw,hd];simp[*]⟩)
 ·repeat' first|refine aI ?_;intros|(refine qr ?_;intro wa hk;simp_all [gy.err])
def yK (l:List Int):Bool:=chain (λn=>decide (n>=1)&&decide (n<=12)) (λa b=>decide (a<b)) none l&&decide (l≠[])
theorem MA {xs:List Int} (ha:Sl w X 1 a (xs.map I1)):
  Ct pg 218 #[a] w X nX λv _ _=>v=B (yK xs):=by
 intro w0 hk;replace ha:=ha.mv hk.cE;have lh:=ha.gV;refine VD.1 λhs=>?_;repeat' refine aq ?_;intros
 refine fY (λn a w X=> ∃i:Nat,a=I (i:Nat)/\n=(xs).length-i/\i<=(xs).length/\ai (bP w0) w0 X w/\chain (λn=>decide (n>=1)&&decide (n<=12)) (λa b=>decide (a<b)) none xs=chain (λn=>decide (n>=1)&&decide (n<=12)) (λa b=>decide (a<b)) (uR xs i) (xs.drop i)) (xs).length ⟨0,rfl,rfl,ak _,hs,by simp[uR]⟩ ?_;rintro n a w X ⟨i,rfl,rfl,hi,hs,hw⟩;rcases dB (xs) i with⟨cI,x,hx,hd⟩|⟨dC,hd⟩
 ·rcases Nk cI with⟨h0,hp⟩|⟨h0,y,hy,hp⟩<;>rw[hp,hd,chain] at hw<;>clear hd
  ·repeat' first|refine aI ?_;intros|refine dg ?_ ?_<;>intros|(refine qr ?_;intro wa hk;(simp_all [yK,chain]<;>omega))|((with_reducible refine ey ((xs).length-(i+1)) ?_ ?_);omega;exact⟨i+1,by simp,rfl,by omega,hs,by rw[hw,rN hx];simp_all<;>omega⟩)
  ·repeat' first|refine aI ?_;intros|refine dg ?_ ?_<;>intros|(refine qr ?_;intro wa hk;(simp_all [yK,chain]<;>omega))|((with_reducible refine ey ((xs).length-(i+1)) ?_ ?_);omega;exact⟨i+1,by simp,rfl,by omega,hs,by rw[hw,rN hx];simp_all<;>omega⟩)
 ·repeat' first|refine aI ?_;intros|refine dg ?_ ?_<;>intros|(refine qr ?_;intro wa hk;(simp_all [yK,chain]<;>grind))
def Nq (l:List KV):Bool:=chain (λx=>iN x.key&&x.val.may&&decide (x.val.kind≠0)) (λa b=>zK a.key b.key) none l
theorem ZW (ha:Sl w X 4 a (xs.map KV.l)):
  Ct pg 340 #[a] w X nX λv _ _=>v=B (Nq xs):=by
 intro w0 hk;replace ha:=ha.mv hk.cE;have lh:=ha.gV;refine VL.1 λhs=>?_;repeat' refine aq ?_;intros
 refine fY (λn a w X=> ∃i:Nat,a=I (i:Nat)/\n=(xs).length-i/\i<=(xs).length/\ai (bP w0) w0 X w/\Nq xs=chain (λx=>iN x.key&&x.val.may&&decide (x.val.kind≠0)) (λa b=>zK a.key b.key) (uR xs i) (xs.drop i)) (xs).length ⟨0,rfl,rfl,ak _,hs,by simp[uR,Nq]⟩ ?_;rintro n a w X ⟨i,rfl,rfl,hi,hs,hw⟩;rcases dB (xs) i with⟨cI,x,hx,hd⟩|⟨dC,hd⟩
 ·rcases Nk cI with⟨h0,hp⟩|⟨h0,y,hy,hp⟩<;>rw[hp,hd,chain] at hw<;>clear hd
  ·repeat' first|refine aI ?_;intros|refine dg ?_ ?_<;>intros|with_reducible apply cK|(refine kG (lD _) hs ?_ ?_<;>intro _ w X hs)|(refine kG (mA _) hs ?_ ?_<;>intro _ w X hs)|(refine qr ?_;intro wa hk;(simp_all [chain]<;>omega))|((with_reducible refine ey ((xs).length-(i+1)) ?_ ?_);omega;exact⟨i+1,by simp,rfl,by omega,hs,by rw[hw,rN hx];simp_all<;>omega⟩)
  ·repeat' first|refine aI ?_;intros|refine dg ?_ ?_<;>intros|with_reducible apply cK|(refine kG (lD _) hs ?_ ?_<;>intro _ w X hs)|(refine kG (mA _) hs ?_ ?_<;>intro _ w X hs)|(refine qr ?_;intro wa hk;(simp_all [chain]<;>omega))|((with_reducible refine ey ((xs).length-(i+1)) ?_ ?_);omega;exact⟨i+1,by simp,rfl,by omega,hs,by rw[hw,rN hx];simp_all<;>omega⟩)
 ·repeat' first|refine aI ?_;intros|(refine qr ?_;intro wa hk;(simp_all [chain]<;>grind))
abbrev fe.zero:fe:=⟨0,0,0,0⟩
abbrev State.zero:State:=⟨.zero,.zero,.zero,[],[]⟩
def State.isZero (s:State):Bool:=decide (s.range= .zero)&&decide (s.floor= .zero)&&decide (s.closed= .zero)&&decide (s.iA=[])&&decide (s.ia=[])
theorem PS (h1:ri w X vh s.iA) (h2:qZ w X vp s.ia):
  Ct pg 335 #[s.v vh vp] w X nX λv _ _=>v=B s.isZero:=by
 intro w0 hk;replace h1:=h1.mv hk.cE;replace h2:=h2.mv hk.cE;refine NP.1 λhs=>?_;repeat' first|refine aq ?_;intros|refine dg ?_ ?_<;>intros|(with_reducible refine FO _ ?_ ?_ ?_);(· kernel_rfl);all_goals intros|with_reducible apply cK|(refine qr ?_;intro wa hk;(simp_all [State.isZero,fe.ext_iff]))|((with_reducible refine FG (Cz _) hs.has ?_);intro w X aB;replace hs:=hs.trans aB)
def Rec.isZero (r:Rec):Bool:=decide (r.aG= .zero)&&decide (r.aU= .zero)&&decide (r.prev= .zero)&&!r.jM&&decide (r.n=0)&&decide (r.uf=0)&&
 decide (r.reads=[])&&decide (r.writes=[])&&decide (r.parts=[])&&decide (r.xp=[])&&r.state.isZero
theorem abt (h:r.at w X vr vw vp vq vh vd):
  Ct pg 277 #[r.v vr vw vp vq vh vd] w X nX λv _ _=>v=B r.isZero:=by
 intro w0 hk;obtain⟨h1,h2,h3,h4,h5,h6⟩:=h.mv hk.cE;refine ZH.1 λhs=>?_;cases hc:r.jM<;>
 repeat' first|refine aq ?_;intros|refine dg ?_ ?_<;>intros|(with_reducible refine FO _ ?_ ?_ ?_);(· kernel_rfl);all_goals intros|(with_reducible refine ags _ ?_ ?_ ?_);(· kernel_rfl);all_goals intros|with_reducible apply cK|(refine qr ?_;intro wa hk;(simp_all [Rec.isZero]))|((with_reducible refine FG (Cz _) hs.has ?_);intro w X aB;replace hs:=hs.trans aB)|(refine qL (PS  (s:=r.state) qA qA) hs ?_ ?_<;>intro _ w X hs)
def Rec.strip (r:Rec):Rec×Bool:=
 if r.kind=1 then({ r with state:=.zero },true)
 else if r.kind=2\/r.kind=7\/r.kind=8 then({ r with n:=0 },true)
 else if r.kind=3 then({ r with aG:=.zero,aU:=.zero,reads:=[],writes:=[],parts:=[] },true)
 else if r.kind=4 then({ r with aG:=.zero,jM:=false,aU:=.zero },true)
 else if r.kind=5 then({ r with aU:=.zero },true)
 else if r.kind=6 then({ r with uf:=0,n:=0,aU:=.zero },true)
 else if r.kind=9 then({ r with aG:=.zero,aU:=.zero,parts:=[] },true)
 else if r.kind=10 then({ r with aG:=.zero },true)
 else if r.kind=11 then({ r with prev:=.zero,aU:=.zero,aG:=.zero,writes:=[] },true)
 else if r.kind=12 then({ r with aU:=.zero,xp:=[] },true)
 else(r,false)
theorem To (h:r.at w X vr vw vp vq vh vd):
  Ct pg 276 #[r.v vr vw vp vq vh vd] w X nX λv _ _=> ∃ZX gX JZ vq' ZY ZZ,v= .tuple #[r.strip.1.v ZX gX JZ vq' ZY ZZ,B r.strip.2]/\
   r.strip.1.at w X ZX gX JZ vq' ZY ZZ:=by
 intro w0 hk;obtain⟨h1,h2,h3,h4,h5,h6⟩:=h;have o1:=h1.one;have o2:=h2.one;have o3:=h3.one;have o4:=h4.one;have o5:=h5.one;have o6:=h6.one;refine RL.1 λhs=>?_;have n2:Sl w X 4 (.slice none 0 0) (([]:List KV).map KV.l):=Sl.nil _ _ _;have n3:Sl w X 1 (.slice none 0 0) (([]:List Int).map I1):=Sl.nil _ _ _;have n4:ri w X (.slice none 0 0) []:=eY.nil _ _ _;have n5:qZ w X (.slice none 0 0) []:=eY.nil _ _ _;repeat' first|refine aq ?_;intros|refine dg ?_ ?_<;>intros|with_reducible apply cK
 all_goals
  refine cH hs ?_;intro wa aL;unfold Rec.strip;repeat (first|rw[if_pos zQ]|rw[if_neg zQ])
  exact⟨_,_,_,_,_,_,rfl,by assumption,by assumption,by assumption,by assumption,by assumption,by assumption⟩
theorem Kb {xs:List BA} (ha:Sl w X 1 a (xs.map S1)) (hb:xs.length<=2^40):
  Ct pg 87 #[a] w X nX λv wa w'=>Own w' (made wa w') wa.heap.size 9 1 v (xs.map S1):=by
  intro w0 hk;replace ha:=ha.mv hk.cE;refine Am.1 λhs=>?_;repeat' first|refine aq ?_;intros|refine dg ?_ ?_<;>intros|(refine QR hs ?_;intro acc w X hs ho)|(refine qr ?_;intro wa hk;(first|(rename_i h1 h2;(first|(rw[h2])|skip);exact Own.nil _ _ _ _ _)|exact(ho.kp hk).tight))|((with_reducible apply qK);(case own=>assumption);(case hs=>assumption);(case h0=>exact λ_ h=>h);(case he=>kernel_rfl);(case src=>exact Sl.mv ha (ai.mv hs));(case h1=>simp[aK.one]);(case hb=>simp;omega);(case hl=>simp;omega);intro acc w X aB ho hc dc;replace hs:=aB;rw[bp] at ho)
theorem Il (ha:Sl w X 4 a (xs.map KV.l)) (hb:xs.length<=2^40):
  Ct pg 89 #[a] w X nX λv wa w'=>Own w' (made wa w') wa.heap.size 178 4 v (xs.map KV.l):=by
  intro w0 hk;replace ha:=ha.mv hk.cE;refine wT.1 λhs=>?_;repeat' first|refine aq ?_;intros|refine dg ?_ ?_<;>intros|(refine QR hs ?_;intro acc w X hs ho)|(refine qr ?_;intro wa hk;(first|(rename_i h1 h2;(first|(rw[h2])|skip);exact Own.nil _ _ _ _ _)|exact(ho.kp hk).tight))|((with_reducible apply qK);(case own=>assumption);(case hs=>assumption);(case h0=>exact λ_ h=>h);(case he=>kernel_rfl);(case src=>exact Sl.mv ha (ai.mv hs));(case h1=>simp[aK.one]);(case hb=>simp;omega);(case hl=>simp;omega);intro acc w X aB ho hc dc;replace hs:=aB;rw[bp] at ho)
theorem PT {xs:List pW} (ha:Sl w X 6 a (xs.map pW.l)) (hb:xs.length<=2^40):
  Ct pg 290 #[a] w X nX λv wa w'=>Own w' (made wa w') wa.heap.size 304 6 v (xs.map pW.l):=by
  intro w0 hk;replace ha:=ha.mv hk.cE;refine uV.1 λhs=>?_;repeat' first|refine aq ?_;intros|refine dg ?_ ?_<;>intros|(refine QR hs ?_;intro acc w X hs ho)|(refine qr ?_;intro wa hk;(first|(rename_i h1 h2;(first|(rw[h2])|skip);exact Own.nil _ _ _ _ _)|exact(ho.kp hk).tight))|((with_reducible apply qK);(case own=>assumption);(case hs=>assumption);(case h0=>exact λ_ h=>h);(case he=>kernel_rfl);(case src=>exact Sl.mv ha (ai.mv hs));(case h1=>simp[aK.one]);(case hb=>simp;omega);(case hl=>simp;omega);intro acc w X aB ho hc dc;replace hs:=aB;rw[bp] at ho)
variable {k : BA}
theorem VP {xs:List BA} (ha:Sl w X 1 a (xs.map S1)):
  Ct pg 171 #[a,.string k] w X nX λv _ _=>v=I (idxOf (λx=>decide (k=x)) xs):=by
 intro w0 hk;replace ha:=ha.mv hk.cE;have lh:=ha.gV;refine An.1 λhs=>?_;repeat' refine aq ?_;intros
 refine fY (λn a w X=> ∃i:Nat,a=I (i:Nat)/\n=(xs).length-i/\i<=(xs).length/\ai (bP w0) w0 X w/\(∀(j:Nat) x,j<i->xs[j]? =some x->decide (k=x)=false)) (xs).length ⟨0,rfl,rfl,ak _,hs,by simp⟩ ?_;rintro n a w X ⟨i,rfl,rfl,hi,hs,hw⟩;rcases dB (xs) i with⟨cI,x,hx,hd⟩|⟨dC,hd⟩
 ·repeat' first|refine aI ?_;intros|refine dg ?_ ?_<;>intros|(refine qr ?_;intro wa hk;(rw[Cn hw hx (by simpa)]))|((with_reducible refine ey ((xs).length-(i+1)) ?_ ?_);omega;exact⟨i+1,by simp,rfl,by omega,hs,λj y hj hy=>by rcases Nat.lt_succ_iff_lt_or_eq.1 hj with h|h;exact hw j y h hy;subst h;rw[hx] at hy;cases hy;simpa⟩)
 ·repeat' first|refine aI ?_;intros|(refine qr ?_;intro wa hk;(rw[yI λj x hj hx=>hw j x zQ hx]))
theorem vI {xs:List BA} (ha:Sl w X 1 a (xs.map S1)):
  Ct pg 115 #[a,.string k] w X nX λv _ _=>v=B (xs.any λx=>decide (k=x)):=by
 intro w0 hk;replace ha:=ha.mv hk.cE;refine yM.1 λhs=>?_;repeat' first|refine aq ?_;intros|refine dg ?_ ?_<;>intros|(refine qr ?_;intro wa hk;(rw[<-Mj];simp[*]))|(refine UU (VP  qA) hs ?_;intro w X hs)
variable {f : FuncId}
theorem MB {p:KV->Bool} (ha:Sl w X 4 a (xs.map KV.l)) (hX: ∀k,X k->k<w.heap.size) (hf:enters pg f=true)
  (hp: ∀x,Ct pg f ((.agg x.l.toArray)::cs).toArray w X nX λv _ _=>v=B (p x)):
  Ct pg 369 #[a,.func (.func f) #[] cs.toArray] w X nX λv _ _=>v=I (idxOf p xs):=by
 intro w0 hk;replace ha:=ha.mv hk.cE;replace hp:=λx=>((hp x).kp hk).bP λk hx=>aw (hX k hx) hk.size;have lh:=ha.gV;refine uW.1 λhs=>?_;repeat' refine aq ?_;intros
 refine fY (λn a w X=> ∃i:Nat,a=I (i:Nat)/\n=(xs).length-i/\i<=(xs).length/\ai (bP w0) w0 X w/\(∀(j:Nat) x,j<i->xs[j]? =some x->p x=false)) (xs).length ⟨0,rfl,rfl,ak _,hs,by simp⟩ ?_;rintro n a w X ⟨i,rfl,rfl,hi,hs,hw⟩;rcases dB (xs) i with⟨cI,x,hx,hd⟩|⟨dC,hd⟩
 ·repeat' first|refine aI ?_;intros|(refine qr ?_;intro wa hk;(rw[Cn hw hx ‹_›]))|((with_reducible refine ey ((xs).length-(i+1)) ?_ ?_);omega;exact⟨i+1,by simp,rfl,by omega,hs,λj y hj hy=>by rcases Nat.lt_succ_iff_lt_or_eq.1 hj with h|h;exact hw j y h hy;subst h;rw[hx] at hy;cases hy;assumption⟩)|(refine HS ((hp x).since hs) hf hs.has ?_ ?_<;>(intro _ w X aB;replace hs:=hs.trans aB))
 ·repeat' first|refine aI ?_;intros|(refine qr ?_;intro wa hk;(rw[yI λj x hj hx=>hw j x zQ hx]))
theorem Im {p:KV->Bool} (ha:Sl w X 4 a (xs.map KV.l)) (hX: ∀k,X k->k<w.heap.size) (hf:enters pg f=true)
  (hp: ∀x,Ct pg f ((.agg x.l.toArray)::cs).toArray w X nX λv _ _=>v=B (p x)):
  Ct pg 363 #[a,.func (.func f) #[] cs.toArray] w X nX λv _ _=>v=B (xs.any p):=by
 intro w0 hk;replace ha:=ha.mv hk.cE;replace hp:=λx=>((hp x).kp hk).bP λk hx=>aw (hX k hx) hk.size;refine tB.1 λhs=>?_;repeat' first|refine aq ?_;intros|refine dg ?_ ?_<;>intros|(refine qr ?_;intro wa hk;(rw[<-Mj];simp[*]))|(refine UU (MB ha hs.has hf hp) hs ?_;intro w X hs)
def tle (a b:BA):Bool:=zK a b||decide (a=b)
def CA:cn->List pW->Bool
 |_,[]=>true
 |s,v::r=>v.aU.may&&decide (v.aU.cmp s>0)&&v.val.may&&CA v.aU r
def kM.ok (h:kM) (ahead:BA):Bool:=iN h.key&&!tle h.key ahead&&decide (h.nh≠[])&&CA .zero h.nh
theorem Tp {h:kM} {vv:Value} {ahead:BA} (ha:Sl w X 6 vv (h.nh.map pW.l)):
  Ct pg 289 #[.agg (h.l vv).toArray,.string ahead] w X nX λv _ _=>v=B (h.ok ahead):=by
 intro w0 hk;replace ha:=ha.mv hk.cE;have lh:=ha.gV;refine RM.1 λhs=>?_;repeat' first|refine aq ?_;intros|refine dg ?_ ?_<;>intros|(refine kG (lD _) hs ?_ ?_<;>intro _ w X hs)|(refine qr ?_;intro wa hk;(simp_all [kM.ok,tle]<;>grind))
 refine gM (λn a b w X=> ∃(i:Nat) (s:cn),a=I i/\b=s.v/\n=h.nh.length-i/\i<=h.nh.length/\ai (bP w0) w0 X w/\CA .zero h.nh=CA s (h.nh.drop i)) h.nh.length
  ⟨0,.zero,rfl,rfl,rfl,ak _,hs,by simp⟩ ?_
 rintro n a b w X ⟨i,s,rfl,rfl,rfl,hi,hs,hw⟩;have cu:h.nh≠[]:=by intro e;simp_all
 rcases dB (h.nh) i with⟨cI,x,hx,hd⟩|⟨dC,hd⟩
 ·rw[hd,CA] at hw;clear hd;repeat' first|refine aI ?_;intros|refine dg ?_ ?_<;>intros|with_reducible apply cK|(refine kG (qa _) hs ?_ ?_<;>intro _ w X hs)|(refine pt (wF _ _) hs ?_;intro w X hs)|(refine kG (mA _) hs ?_ ?_<;>intro _ w X hs)|(refine qr ?_;intro wa hk;(simp_all [kM.ok,tle]<;>grind))|((with_reducible refine fG ((h.nh).length-(i+1)) ?_ ?_);omega;exact⟨i+1,x.aU,by simp,rfl,rfl,by omega,hs,by simp_all⟩)
 ·repeat' first|refine aI ?_;intros|(refine qr ?_;intro wa hk;(simp_all [kM.ok,tle,CA]<;>grind))
def gy.has (p:gy) (k:BA):Bool:=p.writes.any λw=>decide (w.key=k)
variable {x : KV}
theorem PU {b:Nat} (h:Cells w X b 0 [.string k]):
  Ct pg 364 #[.agg x.l.toArray,ptr b 0] w X nX λv _ _=>v=B (decide (x.key=k)):=by
 intro w0 hk;replace h:=h.mv hk.cE;refine NR.1 λhs=>?_;repeat' first|refine aq ?_;intros|refine dg ?_ ?_<;>intros|(refine qr ?_;intro wa hk;simp_all)
theorem Kc (hX: ∀k,X k->k<w.heap.size) (h2:Sl w X 4 vw (p.writes.map KV.l)):
  Ct pg 342 #[p.v vr vw,.string k] w X nX λv _ _=>v=B (p.has k):=by
 intro w0 hk;replace h2:=h2.mv hk.cE;refine Tj.1 λhs=>?_;repeat' first|refine aq ?_;intros|(refine q1x hs ?_;intro bx w X gn aB gw hs bt)|(refine qr ?_;intro wa hk;(simp[gy.has]))|(refine UU (Im (p:=λx=>decide (x.key=k)) (h2.mv (ai.mv (gw.trans hs))) hs.has kQ λx=>PU (x:=x) (by first|exact bt.cells)) hs ?_;intro w X hs)
theorem tf:xw pg 34 (λk:bX=>k.v):=
 aiB (n:=3) kQ (λk:bX=>[k.dW,k.aR,k.sq]) (λ_=>rfl) (λa b h=>by
  simp only[B8,and_true] at h;exact bX.ext h.1 h.2.1 h.2.2)
def yt:xw pg 9 (λs:BA=>aP s):=I2 kQ
def sB (w:World) (A:XS) (v:Value) (l:List pW):Prop:=Sl w A 6 v (l.map pW.l)
def qY (w:World) (A:XS) (v:Value) (p:gy):Prop:= ∃vr vw,v=p.v vr vw/\Sl w A 1 vr (p.reads.map S1)/\Sl w A 4 vw (p.writes.map KV.l)
def sB.mv:qV sB:=λ_ _ _ _ _ _ h m=>Sl.mv h m
def qY.mv:qV qY:=λ_ _ _ _ _ _ ⟨vr,vw,h,h1,h2⟩ m=>⟨vr,vw,h,h1.mv m,h2.mv m⟩
structure iW (w:World) (X A:XS) (sb kb pb:Nat) (hm:List (BA×List pW)) (pm:List (bX×gy)) (low:cn):Prop where
 box:aH w X sb [.map (some kb),.map (some pb),I low.wall,I low.dA,I low.node] 423
 keys:dS w X A kb (λs:BA=>aP s) sB hm
 ia:dS w X A pb (λk:bX=>k.v) qY pm
 sub: ∀k,A k->X k
 off: ∀k,A k->k≠sb/\k≠kb/\k≠pb
variable {low : cn} {pm : List (bX × gy)} {hm : List (BA × List pW)} {kb pb sb : Nat} {A Y : XS} {w' : World}
theorem iW.mv (h:iW w X A sb kb pb hm pm low)
  (hX: ∀k,X k->k<w.heap.size) (m:Mv X w Y w'):iW w' Y A sb kb pb hm pm low:=by
 have ma:Mv A w A w':=λk hk hl=>⟨hk,(m k (h.sub k hk) hl).2⟩;exact⟨h.box.mv m,h.keys.mv sB.mv m ma,h.ia.mv qY.mv m ma,λk hk=>(m k (h.sub k hk) (hX k (h.sub k hk))).1,h.off⟩
variable {w0 : World}
theorem ai2 {X0:XS} (h:dS w0 X0 A kb (λs:BA=>aP s) sB hm) (hA: ∀k,A k->X0 k) (m:Mv X0 w0 X w)
  (n: ∀v,Sl w0 X0 6 v (((getM k hm).getD []).map pW.l)->N v):aY pg X w (Instr.lookup 420 (.map (some kb)) (.string k) false) N:=by
 have h':dS w X A kb (λs:BA=>aP s) sB hm:=h.mv sB.mv m λk hk hl=>⟨hk,(m k (hA k hk) hl).2⟩;obtain⟨es,c,h1,h2⟩:=h;refine nr (et:=300) (A:=X) (rd:=λw X v l=>Sl w0 A 6 v (l.map pW.l)) (l:=hm) (.slice none 0 0) ?_ yt kQ kQ (λv a hg hr=>?_) λhg=>?_
 ·exact⟨es,c,h1.mv m,by
   clear h1 h' n
   induction es generalizing hm with
   |nil=>cases hm<;>first|trivial|exact h2.elim
   |cons e es ih=>cases hm with
    |nil=>exact h2.elim
    |cons x l=>exact⟨h2.1,h2.2.1,ih h2.2.2⟩⟩
 ·exact n v (by rw[hg];exact Sl.mv hr (Mv.sub hA))
 ·exact n _ (by rw[hg];exact Sl.nil _ _ _)
def gy.Et (x q:gy):Bool:=x.writes.any (λw=>q.has w.key||q.reads.any λk=>decide (w.key=k))||x.reads.any λk=>q.has k
def FQ (l:List pW) (gL:cn) (all:Bool):gO×cn:=l.foldl (λs v=>if all||decide (v.aU.cmp gL<=0)then(v.val,v.aU)else s) (.zero,.zero)
def Io (hm:List (BA×List pW)) (k:BA):List pW:=(getM k hm).getD []
abbrev aeO (k:BA) (s:gO×cn):Value:=.agg #[.string k,I s.1.kind,.float .f64 s.1.num,.string s.1.text,I s.2.wall,I s.2.dA,I s.2.node]
theorem VQ {gL:cn} {all:Bool}
  (h:iW w X A sb kb pb hm pm low) (hX: ∀k,X k->k<w.heap.size):
  Ct pg 365 #[ptr sb 0,.string k,gL.v,B all] w X nX λv _ _=>v=aeO k (FQ (Io hm k) gL all):=by
 intro w0 hk;replace h:=h.mv hX hk.cE;have gn:=h.box;refine Jm.1 λhs=>?_;repeat' refine aq ?_;intros
 refine ai2 h.keys h.sub (Mv.refl _ _) λvv hvv=>?_
 show aY _ _ _ _ _
 have UG:Io hm k=(getM k hm).getD []:=rfl;rw[<-UG] at hvv;generalize Io hm k=vs at hvv;have lh:=hvv.gV;repeat' refine aq ?_;intros
 refine gM (λn a b w X=> ∃(i:Nat) (s:gO×cn),a=I i/\b=aeO k s/\n=vs.length-i/\i<=vs.length/\ai (bP w0) w0 X w/\
  FQ vs gL all=(vs.drop i).foldl (λs v=>if all||decide (v.aU.cmp gL<=0)then(v.val,v.aU)else s) s) vs.length ⟨0,(.zero,.zero),rfl,rfl,rfl,ak _,hs,by rw[tC];rfl⟩ ?_
 rintro n a b w X ⟨i,s,rfl,rfl,rfl,hi,hs,hw⟩;rcases dB (vs) i with⟨cI,x,hx,hd⟩|⟨dC,hd⟩
 ·rw[hd,fN] at hw;cases all
  ·repeat' first|refine aI ?_;intros|refine dg ?_ ?_<;>intros|with_reducible apply cK|(refine pt (wF _ _) hs ?_;intro w X hs)|((with_reducible refine fG ((vs).length-(i+1)) ?_ ?_);omega;exact⟨i+1,(x.val,x.aU),by simp,rfl,rfl,by omega,hs,by rw[hw];simp[*]⟩)|((with_reducible refine fG ((vs).length-(i+1)) ?_ ?_);omega;exact⟨i+1,s,by simp,rfl,rfl,by omega,hs,by rw[hw];simp[*]⟩)
  ·repeat' first|refine aI ?_;intros|with_reducible apply cK|((with_reducible refine fG ((vs).length-(i+1)) ?_ ?_);omega;exact⟨i+1,(x.val,x.aU),by simp,rfl,rfl,by omega,hs,by rw[hw];simp[*]⟩)
 ·repeat' first|refine aI ?_;intros|(refine qr ?_;intro wa hk;(rw[hw,hd];rfl))
theorem VR
  (h:iW w X A sb kb pb hm pm low) (hX: ∀k,X k->k<w.heap.size):
  Ct pg 343 #[ptr sb 0,.string k] w X nX λv _ _=>v=aeO k (FQ (Io hm k) .zero true):=by
 intro w0 hk;replace h:=h.mv hX hk.cE;refine Jl.1 λhs=>?_;repeat' first|refine aq ?_;intros|(refine qr ?_;intro wa hk;rfl)|(refine UU (VQ (gL:=.zero) h hs.has) hs ?_;intro w X hs)
def MC (hm:List (BA×List pW)) (x:gy):Bool:=x.writes.any λw=>decide ((FQ (Io hm w.key) .zero true).2.cmp x.aU>=0)
theorem aeP {x:gy}
  (h:iW w X A sb kb pb hm pm low) (hX: ∀k,X k->k<w.heap.size) (h2:Sl w X 4 vw (x.writes.map KV.l)):
  Ct pg 292 #[ptr sb 0,x.v vr vw] w X nX λv _ _=>v=B (MC hm x):=by
 intro w0 hk;replace h:=h.mv hX hk.cE;replace h2:=h2.mv hk.cE;have lh:=h2.gV;refine NN.1 λhs=>?_;repeat' refine aq ?_;intros
 refine fY (λn a w X=> ∃i:Nat,a=I (i:Nat)/\n=(x.writes).length-i/\i<=(x.writes).length/\ai (bP w0) w0 X w/\MC hm x=(x.writes.drop i).any (λw=>decide ((FQ (Io hm w.key) .zero true).2.cmp x.aU>=0))) (x.writes).length ⟨0,rfl,rfl,ak _,hs,by simp[MC]⟩ ?_;rintro n a w X ⟨i,rfl,rfl,hi,hs,hw⟩;rcases dB (x.writes) i with⟨cI,y,hy,hd⟩|⟨dC,hd⟩
 ·rw[hd,zo] at hw;repeat' first|refine aI ?_;intros|refine dg ?_ ?_<;>intros|(refine pt (wF _ _) hs ?_;intro w X hs)|(refine qr ?_;intro wa hk;simp_all)|((with_reducible refine ey ((x.writes).length-(i+1)) ?_ ?_);omega;exact⟨i+1,by simp,rfl,by omega,hs,by rw[hw];simp[*]⟩)|(refine UU (VR (h.mv (λ_ h=>h) (ai.mv hs)) hs.has) hs ?_;intro w X hs)
 ·repeat' first|refine aI ?_;intros|(refine qr ?_;intro wa hk;simp_all)
abbrev U1 (b:Nat):List Value:=[.int .u8 b]
def qx (u:Nat):List Nat:=if u<128 then [u] else(u % 128+128)::qx (u/128)
termination_by u
decreasing_by omega
def xU (n:Int):Nat:=if n<0 then 18446744073709551615-((n % 18446744073709551616).toNat*2 % 18446744073709551616)else(n % 18446744073709551616).toNat*2 % 18446744073709551616
def encI (n:Int):List Nat:=qx (xU n)
theorem Z2: ∀(k u:Nat),u<128^k->(qx u).length<=max k 1
 |0,u,h=>by grind [qx]
 |k+1,u,h=>by
  unfold qx;split
  ·simp_all
  ·have hk:1<=k:=by
    rcases k with _|k
    ·omega
    ·omega
   have h1:u/128<128^k:=by
    rw[xC dQ,<-Nat.pow_succ];exact h
   have:=Z2 k (u/128) h1;simp_all
theorem afu (n:Int):xU n<18446744073709551616:=by
 unfold xU;split<;>omega
theorem fD (n:Int):(encI n).length<=10:=by
 have:=Z2 10 (xU n) (aw (afu n) dQ);assumption
def wR (s:BA):List Nat:=encI s.size++s.data.toList.map UInt8.toNat
def agv (u k:Nat):Nat:=u/256^k % 256
def Hz (x:Nat):List Nat:=(dy 8).map (agv (canon x))
def Js (v:gO):List Nat:=
 let v:=if v.may then v else gO.zero
 encI v.kind++(if v.kind=1 then Hz v.num else if v.kind=2 then wR v.text else [])
def aee (b:Bool):List Nat:=[if b then 1 else 0]
def lL (s:cn):List Nat:=encI s.wall++encI s.dA++encI s.node
def oq (t:bX):List Nat:=encI t.dW++encI t.aR++encI t.sq
def sL (x:KV):List Nat:=wR x.key++Js x.val
def iY {α:Type} (f:α->List Nat) (l:List α):List Nat:=encI l.length++(l.map f).flatten
variable {g lo : Nat} {rows : List (List Value)}
theorem Own.tag {k:Nat} (h:Own w X lo e k v rows) (hg:v.ownBlock=some g): ∃cs:List Value,w.heap[g]? =some (.cells cs.toArray e (0,0)):=by
 rcases h.row with⟨rfl,_⟩|⟨b,cap,cs,rfl,_,hr,_⟩
 ·cases hg
 ·simp only[Value.ownBlock,aj] at hg;subst hg;exact⟨cs,hr.2⟩
theorem Own.eT {e' k:Nat} (h:Own w X lo e k v rows) (hr:aH w Y g cs e') (he:decide (e≠e')=true):v.ownBlock≠some g:=λhg=>by
 obtain⟨c,h1⟩:=Own.tag h hg;rw[hr.2] at h1
 grind
theorem wrap64 (n:Int):IntKind.u64.wrap n=n % 18446744073709551616:=by rfl
theorem M4 (n:Int):IntKind.u8.wrap n=n % 256:=by rfl
variable {u : Nat}
def RU {src dst:TypeId} {k:IntKind} (hs:(P.underlying src).isSome=true) (hd:P.underlying dst=some (.int .u8)) (h:N (.int .u8 ((u % 256:Nat):Int))):aY P X w (qj .u8 src dst (.int k (u:Int))) N:=
 aey hs hd aQ
theorem Z3 (u:Nat):IntKind.u8.wrap (u:Int)=((u % 256:Nat):Int):=by rfl
def anG (h:N (.int .u64 ((u*2 % 18446744073709551616:Nat):Int))):aY P X w (binOp .shl t (.int .u64 (u:Int)) (.int .u64 1)) N:=
 Sh zQ aQ
theorem anH (h:N (.int .u64 ((u/128:Nat):Int))):aY P X w (binOp .shr t (.int .u64 (u:Int)) (.int .u64 7)) N:=
 Ez zQ (by
  have e:((u:Int)).fdiv (2^min (7:Int).toNat IntKind.u64.bits)=((u/128:Nat):Int):=by
   show((u:Int)).fdiv 128=_
   rw[tD _ dQ];omega
  grind)
theorem anI (h:N (.int .u64 ((u/256:Nat):Int))):aY P X w (binOp .shr t (.int .u64 (u:Int)) (.int .u64 8)) N:=
 Ez zQ (by
  have e:((u:Int)).fdiv (2^min (8:Int).toNat IntKind.u64.bits)=((u/256:Nat):Int):=by
   show((u:Int)).fdiv 256=_
   rw[tD _ dQ];omega
  grind)
theorem anJ (hu:u<18446744073709551616) (h:N (.int .u64 ((18446744073709551615-u:Nat):Int))):aY P X w (Op.unary .xor (.int .u64 (u:Int))) N:=by
 refine bK (v:=.int .u64 ((18446744073709551615-u:Nat):Int)) (λwa=>?_) h;have key:(aF 64 18446744073709551615^^^aF 64 (u:Int)).toNat=18446744073709551615-u:=by
  have h1:aF 64 18446744073709551615=BitVec.allOnes 64:=by decide
  have h2:(aF 64 (u:Int))=BitVec.ofNat 64 u:=by simp
  rw[h1,h2,BitVec.allOnes_xor,BitVec.toNat_not,BitVec.toNat_ofNat,fz zQ]
 have e:IntKind.u64.wrap (aF IntKind.u64.bits IntKind.u64.max^^^aF IntKind.u64.bits (u:Int)).toNat=((18446744073709551615-u:Nat):Int):=by
  rw[wrap64]
  show((aF 64 18446744073709551615^^^aF 64 (u:Int)).toNat:Int) % 18446744073709551616=_
  rw[key];omega
 have hk:(Op.unary .xor (.int .u64 (u:Int))).run P wa= .ok (.int .u64 (IntKind.u64.wrap (aF IntKind.u64.bits IntKind.u64.max^^^aF IntKind.u64.bits (u:Int)).toNat)) wa:=by
  simp[Op.unary,Op.intBits,IntKind.signed]
 rw[hk,e]
theorem QK {k:IntKind} {a:Int} (h:N (.int k (k.wrap (aF k.bits a|||aF k.bits b).toNat))):aY P X w (binOp .or t (.int k a) (.int k b)) N:=
 bK (λwa=>by simp[binOp,Op.intBits]) h
theorem apf: ∀b:Nat,b<256->(aF 8 (b:Int)|||aF 8 128).toNat=b % 128+128:=by decide+kernel
theorem ala {b:Nat} (hb:b<256) (h:N (.int .u8 ((b % 128+128:Nat):Int))):aY P X w (binOp .or t (.int .u8 (b:Int)) (.int .u8 128)) N:=
 QK (by
  have e:IntKind.u8.wrap (aF IntKind.u8.bits (b:Int)|||aF IntKind.u8.bits 128).toNat=((b % 128+128:Nat):Int):=by
   rw[M4];have:=apf b hb
   show((aF 8 (b:Int)|||aF 8 128).toNat:Int) % 256=_
   rw[this];omega
  grind)
theorem anK {n:Int} (h:N (.int .u64 (((n % 18446744073709551616).toNat*2 % 18446744073709551616:Nat):Int))):aY P X w (binOp .shl t (.int .u64 (IntKind.u64.wrap n)) (.int .u64 1)) N:=by
 have e:IntKind.u64.wrap n=((n % 18446744073709551616).toNat:Int):=by rw[wrap64];omega
 rw[e];exact anG h
theorem apg (h:N (.int .u8 ((u % 128+128:Nat):Int))):aY P X w (binOp .or t (.int .u8 (IntKind.u8.wrap (u:Int))) (.int .u8 128)) N:=by
 rw[Z3];exact ala zQ (by simp_all)
structure Wr (w:World) (X:XS) (lo wb:Nat) (vb:Value) (bs:List Nat):Prop where
 box:aH w X wb [vb] 409
 ow:Own w X lo 5 1 vb (bs.map U1)
def D9 (wb:Nat) (vb:Value):XS:=λk=>k=wb\/vb.ownBlock=some k
variable {bs : List Nat} {vb : Value} {wb : Nat}
def Wr.mv (h:Wr w X lo wb vb bs) (m:Mv X w Y w'):Wr w' Y lo wb vb bs:=⟨h.box.mv m,h.ow.mv m⟩
theorem Wr.ne (h:Wr w X lo wb vb bs):vb.ownBlock≠some wb:=Own.eT h.ow h.box (by rfl)
def oS (f:FuncId) (args:Array Value) (w:World) (X:XS) (lo wb:Nat) (vb:Value) (bs ds:List Nat):Prop:=
 Ct pg f args w X (D9 wb vb) λv wa w'=>v= .tuple #[]/\ ∃MD,Wr w' (λk=>D9 wb vb k\/made wa w' k) lo wb MD (bs++ds)
structure WS (w0:World) (tE:Value) (w:World) (X:XS) (lo wb:Nat) (vb:Value) (bs:List Nat):Prop where
 s:ai (out (D9 wb tE) w0) w0 X w
 r:Wr w X lo wb vb bs
 v: ∀g,vb.ownBlock=some g->tE.ownBlock=some g\/w0.heap.size<=g
variable {tE : Value} {ds : List Nat} {R : Ending -> World -> Prop} {X' : XS}
section
variable {N : Value -> World -> XS -> Prop}
def WS.init (h:Wr w0 (bP w0) lo wb tE bs):WS w0 tE w0 (bP w0) lo wb tE bs:=⟨ai.out _ _,h,λg hg=>.inl hg⟩
def WS.since (h:WS w0 tE w X lo wb vb bs) (hs:ai X w X' w'):WS w0 tE w' X' lo wb vb bs:=⟨h.s.trans hs,h.r.mv hs.mv,h.v⟩
theorem WS.fin (h:WS w0 tE w X lo wb vb (bs++ds)):fin (vy (D9 wb tE) w0 λv w'=>(λv wa w'=>v= .tuple #[]/\ ∃MD,Wr w' (λk=>D9 wb tE k\/made wa w' k) lo wb MD (bs++ds)) v w0 w') X w (.tuple #[]):=by
 refine acm h.s λwa hk=>⟨rfl,vb,⟨.inl (.inl rfl),(h.r.box.kp hk).2⟩,(h.r.ow.kp hk).1,(h.r.ow.kp hk).2.1,λg hg=>?_⟩;rcases h.v g hg with h1|h1
 ·exact .inl (.inr h1)
 ·exact .inr ⟨h1,((h.r.ow.kp hk).ge hg).2⟩
theorem WS.out (h:WS w0 tE w X lo wb vb bs) {k:Nat} (hk:D9 wb vb k) (h0:out (D9 wb tE) w0 k):False:=by
 rcases hk with hk|hk
 ·exact h0.2 (.inl hk)
 ·rcases h.v k hk with h1|h1
  ·exact h0.2 (.inr h1)
  ·have:=h0.1;omega
theorem WS.fA (hS:WS w0 tE w X lo wb vb bs) (hp:oS f args w X lo wb vb bs ds) (hf:enters pg f=true)
  (k: ∀MD w' X',WS w0 tE w' X' lo wb MD (bs++ds)->dY (D9 wb vb) X w X' w'->N (.tuple #[]) w' X'):eC pg R X w true f args N:=by
 refine xQ hp hf hS.s.has (λq hq=>?_) λv wa w' X' hq hle gC DZ hc=>?_
 ·rcases hq with rfl|hq
  ·exact hS.r.box.1
  ·exact hS.r.ow.2.2 q hq
 ·obtain⟨rfl,MD,hW⟩:=hq;refine k MD w' X' ⟨hS.s.dT hc λq h0 hq=>hS.out hq h0,⟨⟨hc.sub _ hS.r.box.1,hW.box.2⟩,hW.ow.1,hW.ow.2.1,λg hg=>?_⟩,λg hg=>?_⟩ hc
  ·rcases hW.ow.2.2 g hg with h1|h1
   ·rcases h1 with rfl|h1
    ·exact hc.sub _ hS.r.box.1
    ·exact hc.sub g (hS.r.ow.2.2 g h1)
   grind
  ·rcases hW.ow.2.2 g hg with h1|h1
   ·rcases h1 with rfl|h1
    ·exact absurd hg hW.ne
    ·exact hS.v g h1
   ·right;have:=h1.1;have:=hS.s.kp.size;omega
theorem ME {b:Nat} (hS:WS w0 tE w X lo wb vb bs) (gr:lo<=w.heap.size) (hb:bs.length<=2^40)
  (k: ∀MD w' X',WS w0 tE w' X' lo wb MD (bs++[b])->N undef w' X'):
  eV pg R X w true (gT 151 5 1 1 #[(0,.int .u8 (b:Int))]) λs w1 X1=>eV pg R X1 w1 true (rY 151 5 1 1 151 vb s) λx w2 X2=>
   nU pg X2 w2 (bC (ptr wb 0)) λp=>aY pg X2 w2 (ji 409 0 0 1 p) λq=>eU pg R X2 w2 true (st1 151 1 q x) N:=by
 refine ak2 hS.r.ow hS.s.has gr kQ (row:=U1 b) rfl rfl rfl oQ oQ λv' w' X' hc ho dc=>?_;have cu: ∀q,fv vb q->q≠wb:=λq hq e=>hS.r.ne (by rw[<-e];exact hq);have gn:aH w' X' wb [vb] 409:=⟨hc.sub _ hS.r.box.1,by rw[hc.block _ hS.r.box.1 λhq=>cu _ hq rfl];exact hS.r.box.2⟩;have tp:=hS.s.dT hc λq h0 hq=>hS.out (.inr hq) h0;have AH: ∀g,v'.ownBlock=some g->tE.ownBlock=some g\/w0.heap.size<=g:=λg hg=>by
  rcases dc with e|⟨g',e,dC⟩
  ·exact hS.v g (e▸hg)
  ·rw[e] at hg;cases hg;right;have:=hS.s.kp.size;omega
 with_reducible apply I4
 have UB:fieldInfo pg 409 0=some (0,1):=by kernel_rfl
 refine Rs (gn.cells) UB rfl λo' wj _=>?_;subst wj;refine CV gn kQ sQ (by obtain⟨_,_,_,rfl⟩:=ho.sl.form;rfl) (by obtain⟨_,_,_,rfl⟩:=ho.sl.form;rfl) tp.has λw3 X3 vu DW=>?_;have ai3:v'.ownBlock≠some wb:=Own.eT ho gn (by rfl);refine k v' w3 X3 ⟨tp.dT vu λq h0 hq=>h0.2 (.inl hq),⟨?_,?_⟩,AH⟩
 ·have e:bM [vb] (0+0) v'.cells.toList=[v']:=by obtain⟨_,_,_,rfl⟩:=ho.sl.form;rfl
  grind
 ·rw[aC];exact Own.dT ho vu λg hg e=>ai3 (by rw[hg,e])
end
theorem PV:Ct pg 197 #[] w X nX λv wa w'=> ∃wb,v=ptr wb 0/\Wr w' (made wa w') wa.heap.size wb (.slice none 0 0) []:=by
 intro w0 hk;refine NK.1 λhs=>?_;repeat' first|refine aq ?_;intros|(refine Oq hs ?_;intro bx w X gn aB gw hs bt)
 refine cH (gw.trans hs) λwa aL=>⟨bx,rfl,⟨⟨gn,(bt.kp aL).lt⟩,(bt.kp aL).2⟩,Own.nil _ _ _ _ _⟩
theorem pK {n:Int} (h:Wr w X lo wb vb bs) (hb:bs.length<=2^39) (gr:lo<=w.heap.size):oS 260 #[ptr wb 0,I n] w X lo wb vb bs (encI n):=by
 intro w0 hk;have dp:lo<=w0.heap.size:=ad gr hk.size;have hS:=WS.init (h.mv hk.cE);refine Mu.1 λ_=>?_;have hs:=hS.s;have xJ:=hS.r.box;repeat' first|refine aq ?_;intros|(with_reducible apply anK)
 refine ib (λk=>k (.int .u64 (xU n:Int))) ?_ ?_
 ·refine fY (λn' a w X=> ∃(u:Nat) (vD:Value) (bsi:List Nat),a= .int .u64 (u:Int)/\n'=u/\WS w0 vb w X lo wb vD bsi/\bsi++qx u=bs++encI n) (xU n) ⟨xU n,vb,bs,rfl,rfl,hS,rfl⟩ ?_;clear hs xJ hS;rintro u a w X ⟨_,vD,bsi,rfl,rfl,hS,wA⟩;have hs:=hS.s;have xJ:=hS.r.box;have hlen:bsi.length<=2^40:=by
   have h1:=congrArg List.length wA;have h2:=fD n;simp only[aa] at h1;omega
  have SZ:lo<=w.heap.size:=ad dp hs.kp.size;by_cases hu:u<128
  ·have he:qx u=[u]:=by rw[qx,if_pos hu]
   repeat' refine aI ?_;intros
   rw[Z3,show u % 256=u by omega];refine ME hS SZ hlen λjk w2 X2 bf=>?_;rw[<-he,wA] at bf;exact bf.fin
  ·have he:qx u=(u % 128+128)::qx (u/128):=by rw[qx,if_neg hu]
   repeat' first|refine aI ?_;intros|(with_reducible apply apg)
   refine ME hS SZ hlen λjk w2 X2 bf=>?_;repeat' first|(with_reducible apply anH)
   refine ey (u/128) zQ ⟨u/128,jk,_,rfl,rfl,bf,?_⟩
   grind
 ·intro K hK;repeat' first|refine aq ?_;intros|refine dg ?_ ?_<;>intros|(with_reducible apply anJ);omega
  ·have:xU n=18446744073709551615-((n % 18446744073709551616).toNat*2 % 18446744073709551616):=by unfold xU;rw[if_pos zQ]
   grind
  ·have:xU n=(n % 18446744073709551616).toNat*2 % 18446744073709551616:=by unfold xU;rw[if_neg zQ]
   simp_all
theorem ai4 (s:BA):(zc s).map (λx=>[x])=(s.data.toList.map UInt8.toNat).map U1:=by
 unfold zc;simp
variable {v' : Value}
section
variable {N : Value -> World -> XS -> Prop}
theorem anM (hS:WS w0 tE w X lo wb vb bs) (hc:dY (fv vb) X w X' w') (ho:Own w' X' lo 5 1 v' (ds.map U1)) (dc:v'.ownBlock=vb.ownBlock\/ ∃g,v'.ownBlock=some g/\w.heap.size<=g)
  (k: ∀w' X',WS w0 tE w' X' lo wb v' ds->N undef w' X'):
  nU pg X' w' (bC (ptr wb 0)) λp=>aY pg X' w' (ji 409 0 0 1 p) λq=>eU pg R X' w' true (st1 151 1 q v') N:=by
 have cu: ∀q,fv vb q->q≠wb:=λq hq e=>hS.r.ne (by rw[<-e];exact hq);have gn:aH w' X' wb [vb] 409:=⟨hc.sub _ hS.r.box.1,by rw[hc.block _ hS.r.box.1 λhq=>cu _ hq rfl];exact hS.r.box.2⟩;have tp:=hS.s.dT hc λq h0 hq=>hS.out (.inr hq) h0;have AH: ∀g,v'.ownBlock=some g->tE.ownBlock=some g\/w0.heap.size<=g:=λg hg=>by
  rcases dc with e|⟨g',e,dC⟩
  ·exact hS.v g (e▸hg)
  ·rw[e] at hg;cases hg;right;have:=hS.s.kp.size;omega
 with_reducible apply I4
 have UB:fieldInfo pg 409 0=some (0,1):=by kernel_rfl
 refine Rs (gn.cells) UB rfl λo' wj _=>?_;subst wj;refine CV gn kQ sQ (by obtain⟨_,_,_,rfl⟩:=ho.sl.form;rfl) (by obtain⟨_,_,_,rfl⟩:=ho.sl.form;rfl) tp.has λw3 X3 vu DW=>?_;have ai3:v'.ownBlock≠some wb:=Own.eT ho gn kQ;refine k w3 X3 ⟨tp.dT vu λq h0 hq=>h0.2 (.inl hq),⟨?_,?_⟩,AH⟩
 ·have e:bM [vb] (0+0) v'.cells.toList=[v']:=by obtain⟨_,_,_,rfl⟩:=ho.sl.form;rfl
  rw[e] at DW;exact DW
 ·exact Own.dT ho vu λg hg e=>ai3 (by rw[hg,e])
end
theorem OO {s:BA} (h:Wr w X lo wb vb bs) (hb:bs.length<=2^38) (gr:lo<=w.heap.size) (gw:s.size<=2^38):oS 328 #[ptr wb 0,.string s] w X lo wb vb bs (wR s):=by
 intro w0 hk;have dp:lo<=w0.heap.size:=ad gr hk.size;have hS:=WS.init (h.mv hk.cE);refine KD.1 λ_=>?_;have hs:=hS.s;repeat' refine aq ?_;intros
 refine hS.fA (pK hS.r zQ dp) kQ λjk w2 X2 bf qJ=>?_;clear hs;have hs:=bf.s;have xJ:=bf.r.box;have BQ:=fD s.size;repeat' refine aq ?_;intros
 refine anu (bytes:=1) bf.r.ow hs.has (ad dp hs.kp.size) kQ kQ oQ oQ λv' w3 X3 hc ho dc=>?_;rw[ai4,<-aC] at ho;refine anM bf hc ho dc λw4 X4 ig=>?_;rw[ao] at ig;exact ig.fin
theorem MF {x:Nat} (h:Wr w X lo wb vb bs) (hb:bs.length<=2^39) (gr:lo<=w.heap.size):oS 273 #[ptr wb 0,.float .f64 x] w X lo wb vb bs (Hz x):=by
 intro w0 hk;have dp:lo<=w0.heap.size:=ad gr hk.size;have hS:=WS.init (h.mv hk.cE);refine Jh.1 λ_=>?_;have hs:=hS.s;repeat' first|((with_reducible refine sk (Es _) ?_ hs.has ?_);(· kernel_rfl);intro w X aB;replace hs:=hs.trans aB)
 refine gM (λn' a b w X=> ∃(i:Nat) (vD:Value),a=I i/\b= .int .u64 ((canon x/256^i:Nat):Int)/\n'=8-i/\i<=8/\WS w0 vb w X lo wb vD (bs++(dy i).map (agv (canon x)))) 8
  ⟨0,vb,rfl,by simp,rfl,by omega,by simpa using hS.since aQ⟩ ?_
 clear hs hS aB;rintro n' a b w X ⟨i,vD,rfl,rfl,rfl,hi,hS⟩;have hs:=hS.s;have xJ:=hS.r.box;have SZ:lo<=w.heap.size:=ad dp hs.kp.size;by_cases h8:i<8
 ·repeat' refine aI ?_;intros
  rw[Z3];refine ME hS SZ oQ λjk w2 X2 bf=>?_;repeat' first|refine aq ?_;intros|(with_reducible apply anI)
  refine fG (8-(i+1)) zQ ⟨i+1,jk,by simp,?_,rfl,by omega,?_⟩
  ·rw[Nat.div_div_eq_div_mul,Nat.pow_succ]
  ·rw[List.range_succ,aC,<-ao];exact bf
 ·obtain rfl:i=8:=by omega
  repeat' refine aI ?_;intros
  exact hS.fin
theorem Z4 (h:Wr w X lo wb vb bs) (hb:bs.length<=2^40):Ct pg 198 #[ptr wb 0] w X nX λv wa w'=>Own w' (made wa w') wa.heap.size 5 1 v (bs.map U1):=by
 intro w0 hk;replace h:=h.mv hk.cE;have xJ:=h.box;refine Je.1 λhs=>?_;repeat' first|refine aq ?_;intros|(refine QR hs ?_;intro acc w X hs ho)|(refine qr ?_;intro wa hk;(exact(ho.kp hk).tight))|((with_reducible apply qK);(case own=>assumption);(case hs=>assumption);(case h0=>exact λ_ h=>h);(case he=>kernel_rfl);(case src=>exact Sl.mv h.ow.sl (ai.mv hs));(case h1=>simp[aK.one]);(case hb=>simp;omega);(case hl=>simp;omega);intro acc w X aB ho hc dc;replace hs:=aB;rw[bp] at ho)
theorem abu {b:Bool} (h:Wr w X lo wb vb bs) (hb:bs.length<=2^39) (gr:lo<=w.heap.size):oS 271 #[ptr wb 0,B b] w X lo wb vb bs (aee b):=by
 intro w0 hk;have dp:lo<=w0.heap.size:=ad gr hk.size;have hS:=WS.init (h.mv hk.cE);refine KC.1 λ_=>?_;have hs:=hS.s;have xJ:=hS.r.box;cases b<;>
 repeat' refine aq ?_;intros
 ·refine ME (b:=0) hS dp zQ λjk w2 X2 bf=>?_;exact bf.fin
 ·refine ME (b:=1) hS dp zQ λjk w2 X2 bf=>?_;exact bf.fin
def uX (Z X:XS) (wb:Nat) (vb:Value):Prop:= ∀k,Z k->X k/\ ¬D9 wb vb k
variable {Z : XS}
theorem WS.z (hS:WS w0 tE w X lo wb vb bs):uX (aK.out (D9 wb tE) w0) X wb vb:=λk h=>⟨hS.s.sub k h,λhf=>hS.out hf h⟩
def WS.at (hS:WS w0 tE w X lo wb vb bs):Mv (aK.out (D9 wb tE) w0) w0 (aK.out (D9 wb tE) w0) w:=λk hk _=>⟨hk,hS.s.kp.block k hk⟩
def uX.mv (h:uX Z X wb vb) (hk:Kp X w w0):Mv Z w (out (D9 wb vb) w0) w0:=λk ah hl=>⟨⟨aw hl hk.size,(h k ah).2⟩,hk.block k (h k ah).1⟩
abbrev lC (wb:Nat):List Value:=[ptr wb 0,.pointer none]
theorem abv {v:gO} (h:Wr w X lo wb vb bs) (hb:bs.length<=2^37) (gr:lo<=w.heap.size):oS 333 #[ptr wb 0,v.v] w X lo wb vb bs (Js v):=by
 intro w0 hk;have dp:lo<=w0.heap.size:=ad gr hk.size;have hS:=WS.init (h.mv hk.cE);refine ZL.1 λ_=>?_;refine ib (λk=> ∀w X,ai (bP w0) w0 X w->k (if v.may then v else gO.zero).v w X) ?_ ?_
 ·intro w X hsX;generalize hu:(if v.may then v else gO.zero)=u;have hue:Js v=encI u.kind++(if u.kind=1 then Hz u.num else if u.kind=2 then wR u.text else []):=by unfold Js;simp only[hu]
  have hut:u.kind=2->u.text.size<=64:=by
   intro h2;by_cases hm:v.may=true
   ·rw[if_pos hm] at hu;subst hu;unfold gO.may at hm;rw[if_neg zQ,if_neg zQ,if_pos h2] at hm;simp at hm;omega
   ·rw[if_neg hm] at hu;rw[<-hu] at h2;cases h2
  have mn:=hS.since hsX;replace hs:=mn.s;repeat' refine aq ?_;intros
  refine mn.fA (pK mn.r zQ (ad dp hs.kp.size)) kQ λjk w2 X2 bf qJ=>?_;have he:=fD u.kind;replace hs:=bf.s;repeat' refine aq ?_;intros
  refine ib (λk=> ∀w X nA,WS w0 vb w X lo wb nA (bs++Js v)->k w X) ?_ ?_
  ·intro w X nA cx;exact cx.fin
  ·intro K hK;rw[hue,<-ao] at hK;repeat' first|refine aq ?_;intros|refine dg ?_ ?_<;>intros
   ·refine bf.fA (MF bf.r oQ (ad dp hs.kp.size)) kQ λnA w3 X3 cx vu=>?_;replace hs:=cx.s
    skip
    rw[if_pos zQ] at hK;exact hK _ _ _ cx
   ·refine bf.fA (OO bf.r oQ (ad dp hs.kp.size) (by have:=hut zQ;omega)) kQ λnA w3 X3 cx vu=>?_;replace hs:=cx.s
    skip
    rw[if_neg zQ,if_pos zQ] at hK;exact hK _ _ _ cx
   ·rw[if_neg zQ,if_neg zQ] at hK;rw[List.append_nil] at hK;exact hK _ _ _ bf
 ·intro K hK;have hs:=ai.init w0;cases hm:v.may<;>rw[hm] at hK
  ·repeat' first|refine aq ?_;intros|(refine kG (mA _) hs ?_ ?_<;>intro _ w X hs)
   all_goals first|exact hK _ _ hs|(exfalso;simp_all)
  ·repeat' first|refine aq ?_;intros|(refine kG (mA _) hs ?_ ?_<;>intro _ w X hs)
   all_goals first|exact hK _ _ hs|(exfalso;simp_all)
variable {cb xb xo : Nat}
theorem jU {n:Int} (h:Wr w X lo wb vb bs) (hc:Cells w Z cb 0 (lC wb)) (hx:Cells w Z xb xo [I n]) (hZ:uX Z X wb vb) (hb:bs.length<=2^38) (gr:lo<=w.heap.size):
  oS 183 #[ptr cb 0,ptr xb xo] w X lo wb vb bs (encI n):=by
 intro w0 hk;have dp:lo<=w0.heap.size:=ad gr hk.size;replace hc:=hc.mv (hZ.mv hk);replace hx:=hx.mv (hZ.mv hk);have hS:=WS.init (h.mv hk.cE);refine Da.1 λ_=>?_;have hs:=hS.s;repeat' refine aq ?_;intros
 refine hS.fA (pK hS.r zQ dp) kQ λjk w2 X2 bf qJ=>?_
 skip
 exact bf.fin
theorem BL {s:BA} (h:Wr w X lo wb vb bs) (hc:Cells w Z cb 0 (lC wb)) (hx:Cells w Z xb xo [.string s]) (hZ:uX Z X wb vb) (hb:bs.length<=2^38) (gr:lo<=w.heap.size) (gw:s.size<=2^38):
  oS 268 #[ptr cb 0,ptr xb xo] w X lo wb vb bs (wR s):=by
 intro w0 hk;have dp:lo<=w0.heap.size:=ad gr hk.size;replace hc:=hc.mv (hZ.mv hk);replace hx:=hx.mv (hZ.mv hk);have hS:=WS.init (h.mv hk.cE);refine KB.1 λ_=>?_;have hs:=hS.s;repeat' refine aq ?_;intros
 refine hS.fA (OO hS.r zQ dp gw) kQ λjk w2 X2 bf qJ=>?_
 skip
 exact bf.fin
theorem kC {s:cn} (h:Wr w X lo wb vb bs) (hc:Cells w Z cb 0 (lC wb)) (hx:Cells w Z xb xo s.l) (hZ:uX Z X wb vb) (hb:bs.length<=2^37) (gr:lo<=w.heap.size):
  oS 189 #[ptr cb 0,ptr xb xo] w X lo wb vb bs (lL s):=by
 have e1:=fD s.wall;have e2:=fD s.dA;intro w0 hk;have dp:lo<=w0.heap.size:=ad gr hk.size;replace hc:=hc.mv (hZ.mv hk);replace hx:=hx.mv (hZ.mv hk);have hS:=WS.init (h.mv hk.cE);refine Bd.1 λ_=>?_;have hs:=hS.s;repeat' refine aq ?_;intros
 refine hS.fA (jU (hS.r) (hc.mv hS.at) (Cells.mv aQ hS.at) hS.z zQ dp) kQ λjk w2 X2 bf qJ=>?_;replace hs:=bf.s;repeat' refine aq ?_;intros
 refine bf.fA (jU (bf.r) (hc.mv bf.at) (Cells.mv aQ bf.at) bf.z oQ (ad dp hs.kp.size)) kQ λnA w3 X3 cx vu=>?_;replace hs:=cx.s;repeat' refine aq ?_;intros
 refine cx.fA (jU (cx.r) (hc.mv cx.at) (Cells.mv aQ cx.at) cx.z oQ (ad dp hs.kp.size)) kQ λRV w4 X4 ig Fe=>?_;replace hs:=ig.s
 skip
 rw[ao,ao,<-ao (encI s.wall)] at ig;exact ig.fin
theorem zN {s:bX} (h:Wr w X lo wb vb bs) (hc:Cells w Z cb 0 (lC wb)) (hx:Cells w Z xb xo s.l) (hZ:uX Z X wb vb) (hb:bs.length<=2^37) (gr:lo<=w.heap.size):
  oS 187 #[ptr cb 0,ptr xb xo] w X lo wb vb bs (oq s):=by
 have e1:=fD s.dW;have e2:=fD s.aR;intro w0 hk;have dp:lo<=w0.heap.size:=ad gr hk.size;replace hc:=hc.mv (hZ.mv hk);replace hx:=hx.mv (hZ.mv hk);have hS:=WS.init (h.mv hk.cE);refine Db.1 λ_=>?_;have hs:=hS.s;repeat' refine aq ?_;intros
 refine hS.fA (jU (hS.r) (hc.mv hS.at) (Cells.mv aQ hS.at) hS.z zQ dp) kQ λjk w2 X2 bf qJ=>?_;replace hs:=bf.s;repeat' refine aq ?_;intros
 refine bf.fA (jU (bf.r) (hc.mv bf.at) (Cells.mv aQ bf.at) bf.z oQ (ad dp hs.kp.size)) kQ λnA w3 X3 cx vu=>?_;replace hs:=cx.s;repeat' refine aq ?_;intros
 refine cx.fA (jU (cx.r) (hc.mv cx.at) (Cells.mv aQ cx.at) cx.z oQ (ad dp hs.kp.size)) kQ λRV w4 X4 ig Fe=>?_;replace hs:=ig.s
 skip
 rw[ao,ao,<-ao (encI s.dW)] at ig;exact ig.fin
theorem Ag (s:BA):(wR s).length=(encI s.size).length+s.size:=by
 unfold wR;rw[aa,af]
 congr 1
theorem YZ {v:gO} :(Js v).length<=100:=by
 unfold Js;generalize hu:(if v.may then v else gO.zero)=u;have h1:=fD u.kind;have hut:u.kind=2->u.text.size<=64:=by
  intro h2;by_cases hm:v.may=true
  ·rw[if_pos hm] at hu;subst hu;unfold gO.may at hm;rw[if_neg zQ,if_neg zQ,if_pos h2] at hm;simp at hm;omega
  ·rw[if_neg hm] at hu;rw[<-hu] at h2;cases h2
 dsimp only;rw[aa];by_cases k1:u.kind=1
 ·rw[if_pos k1];unfold Hz;simp;omega
 ·rw[if_neg k1];by_cases k2:u.kind=2
  ·rw[if_pos k2];have h3:=hut k2;have h4:=fD u.text.size;rw[Ag];omega
  ·rw[if_neg k2];simp;omega
theorem DP {v:gO} (h:Wr w X lo wb vb bs) (hc:Cells w Z cb 0 (lC wb)) (hx:Cells w Z xb xo v.l) (hZ:uX Z X wb vb) (hb:bs.length<=2^37) (gr:lo<=w.heap.size):
  oS 275 #[ptr cb 0,ptr xb xo] w X lo wb vb bs (Js v):=by
 intro w0 hk;have dp:lo<=w0.heap.size:=ad gr hk.size;replace hc:=hc.mv (hZ.mv hk);replace hx:=hx.mv (hZ.mv hk);have hS:=WS.init (h.mv hk.cE);refine Ji.1 λ_=>?_;have hs:=hS.s;repeat' refine aq ?_;intros
 refine hS.fA (abv hS.r zQ dp) kQ λjk w2 X2 bf qJ=>?_
 skip
 exact bf.fin
theorem VS (h:Wr w X lo wb vb bs) (hc:Cells w Z cb 0 (lC wb)) (hx:Cells w Z xb xo x.l) (hZ:uX Z X wb vb) (hb:bs.length<=2^35) (gr:lo<=w.heap.size) (gw:x.key.size<=2^35):
  oS 192 #[ptr cb 0,ptr xb xo] w X lo wb vb bs (sL x):=by
 have e1:(wR x.key).length<=10+x.key.size:=by
  have:=fD x.key.size;rw[Ag];omega
 intro w0 hk;have dp:lo<=w0.heap.size:=ad gr hk.size;replace hc:=hc.mv (hZ.mv hk);replace hx:=hx.mv (hZ.mv hk);have hS:=WS.init (h.mv hk.cE);refine Jd.1 λ_=>?_;have hs:=hS.s;repeat' refine aq ?_;intros
 refine hS.fA (BL hS.r (hc.mv hS.at) (Cells.mv aQ hS.at) hS.z zQ dp zQ) kQ λjk w2 X2 bf qJ=>?_;replace hs:=bf.s;repeat' refine aq ?_;intros
 refine bf.fA (DP (v:=x.val) bf.r (hc.mv bf.at) (Cells.mv aQ bf.at) bf.z oQ (ad dp hs.kp.size)) kQ λnA w3 X3 cx vu=>?_;replace hs:=cx.s
 skip
 rw[ao] at cx;exact cx.fin
theorem Z5 (h:Wr w X lo wb vb bs) (hc:Cells w Z cb 0 (lC wb)) (hx:Cells w Z xb xo x.l) (hZ:uX Z X wb vb) (hb:bs.length<=2^35) (gr:lo<=w.heap.size) (gw:x.key.size<=2^35):
  oS 194 #[ptr cb 0,ptr xb xo] w X lo wb vb bs (sL x):=by
 have e1:(wR x.key).length<=10+x.key.size:=by
  have:=fD x.key.size;rw[Ag];omega
 intro w0 hk;have dp:lo<=w0.heap.size:=ad gr hk.size;replace hc:=hc.mv (hZ.mv hk);replace hx:=hx.mv (hZ.mv hk);have hS:=WS.init (h.mv hk.cE);refine Ky.1 λ_=>?_;have hs:=hS.s;repeat' refine aq ?_;intros
 refine hS.fA (BL hS.r (hc.mv hS.at) (Cells.mv aQ hS.at) hS.z zQ dp zQ) kQ λjk w2 X2 bf qJ=>?_;replace hs:=bf.s;repeat' refine aq ?_;intros
 refine bf.fA (DP (v:=x.val) bf.r (hc.mv bf.at) (Cells.mv aQ bf.at) bf.z oQ (ad dp hs.kp.size)) kQ λnA w3 X3 cx vu=>?_;replace hs:=cx.s
 skip
 rw[ao] at cx;exact cx.fin
theorem mf {α:Type} {f:α->List Nat} {xs:List α} {i:Nat} {x:α} (h:xs[i]? =some x):((xs.take (i+1)).map f).flatten=((xs.take i).map f).flatten++f x:=by
 rw[bW,h];simp
theorem vB (s:cn):(lL s).length<=30:=by
 have h1:=fD s.wall;have h2:=fD s.dA;have h3:=fD s.node;unfold lL;simp only[aa];omega
theorem Dl (s:bX):(oq s).length<=30:=by
 have h1:=fD s.dW;have h2:=fD s.aR;have h3:=fD s.sq;unfold oq;simp only[aa];omega
theorem VU {x:gy}
  (h:iW w X A sb kb pb hm pm low) (hX: ∀k,X k->k<w.heap.size) (h1:Sl w X 1 vr (x.reads.map S1)) (h2:Sl w X 4 vw (x.writes.map KV.l)):
  Ct pg 291 #[ptr sb 0,x.v vr vw] w X nX λv _ _=>v=B (pm.any λq=>x.Et q.2):=by
 intro w0 hk;replace h:=h.mv hX hk.cE;replace h1:=h1.mv hk.cE;replace h2:=h2.mv hk.cE;have gn:=h.box;have yV:=h1.gV;have wo:=h2.gV;refine Jk.1 λhs=>?_;repeat' refine aq ?_;intros
 refine akX (kt:=34) (et:=306) h.ia qY.mv h.sub kQ hs.has λr w X hr aB N1=>?_;replace hs:=hs.trans aB;refine gM (λn _ _ w X=> ∃left,n=left.length/\ai (bP w0) w0 X w/\Mi w X A r pb (λk:bX=>k.v) qY pm left/\(pm.any λq=>x.Et q.2)=left.any λq=>x.Et q.2)
  pm.length ⟨pm,rfl,hs,N1,rfl⟩ ?_
 rintro n a b w X ⟨left,rfl,hs,N1,hw⟩;refine anp N1 qY.mv (λk hk=>⟨hs.sub k (h.sub k hk),λe=>by have:k<w0.heap.size:=h.sub k hk;omega⟩) hs.has (λe0 w X aB=>?_) λkx q v lJ w1 X1 hc jE ard he=>?_
 ·replace hs:=hs.trans aB;repeat' first|refine aq ?_;intros|(refine qr ?_;intro wa hk;(rw[hw,e0];rfl))
 ·have gw:=hs.dT hc λk hk e=>by have:k<w0.heap.size:=hk;omega
  obtain⟨ur,uw,rfl,q1,q2⟩:=jE;have hA1: ∀k,A k->X1 k:=λk hk=>gw.sub k (h.sub k hk);replace q1:=q1.mv (Mv.sub hA1);replace q2:=q2.mv (Mv.sub hA1);have o1:=q1.one;have o2:=q2.one;rw[agj _ N1.nodup lJ] at hw;replace hs:=ai.fL gw.has;repeat' refine aq ?_;intros
  refine akY hs.has he λw X aB=>?_;replace hs:=hs.trans aB;repeat' refine aq ?_;intros
  refine fY (λn a w X=> ∃i:Nat,a=I (i:Nat)/\n=x.writes.length-i/\i<=x.writes.length/\ai X1 w1 X w/\
   (x.writes.any (λw=>q.has w.key||q.reads.any λk=>decide (w.key=k))=(x.writes.drop i).any (λw=>q.has w.key||q.reads.any λk=>decide (w.key=k)))) x.writes.length
   ⟨0,rfl,rfl,ak _,hs,by simp⟩ ?_
  rintro n a w X ⟨i,rfl,rfl,hi,hs,vE⟩;rcases dB (x.writes) i with⟨cI,y,hy,hd⟩|⟨dC,hd⟩
  ·rw[hd,zo] at vE;repeat' first|refine aI ?_;intros|with_reducible apply cK|(refine qr ?_;intro wa hk;(rw[hw];simp[gy.Et,vE, *]))|((with_reducible refine ey ((x.writes).length-(i+1)) ?_ ?_);omega;exact⟨i+1,by simp,rfl,by omega,hs,by rw[vE];simp[*]⟩)|(refine qL (Kc  (p:=q) hs.has qA) hs ?_ ?_<;>intro _ w X hs)|(refine qL (vI  qA) hs ?_ ?_<;>intro _ w X hs)
  ·rw[hd] at vE;repeat' refine aI ?_;intros
   refine fY (λn a w X=> ∃i:Nat,a=I (i:Nat)/\n=x.reads.length-i/\i<=x.reads.length/\ai X1 w1 X w/\
    (x.reads.any (λk=>q.has k)=(x.reads.drop i).any (λk=>q.has k))) x.reads.length
    ⟨0,rfl,rfl,ak _,hs,by simp⟩ ?_
   rintro n a w X ⟨j,rfl,rfl,hj,hs,wE⟩;rcases dB x.reads j with⟨cI,y,hy,rH⟩|⟨DH,rH⟩
   ·rw[rH,zo] at wE;repeat' first|refine aI ?_;intros|(refine qr ?_;intro wa hk;(rw[hw];simp[gy.Et,wE, *]))|((with_reducible refine ey (x.reads.length-(j+1)) ?_ ?_);omega;exact⟨j+1,by simp,rfl,by omega,hs,by rw[wE];simp[*]⟩)|(refine qL (Kc  (p:=q) hs.has qA) hs ?_ ?_<;>intro _ w X hs)
   ·rw[rH] at wE;repeat' refine aI ?_;intros
    refine fG _ (akW lJ) ⟨_,rfl,gw.trans hs,ard.mv qY.mv (ai.mv hs) (ai.jj hs hA1),?_⟩;rw[hw];have:x.Et q=false:=by unfold gy.Et;rw[vE,wE];rfl
    simp[this]
def gy.fresh (wa w':World) (v:Value) (p:gy):Prop:=
 ∃vr vw,v=p.v vr vw/\Own w' (made wa w') wa.heap.size 9 1 vr (p.reads.map S1)/\Own w' (made wa w') wa.heap.size 178 4 vw (p.writes.map KV.l)/\
  ∀g,vr.ownBlock=some g->vw.ownBlock≠some g
theorem Z6 (h1:Sl w X 1 vr (p.reads.map S1)) (h2:Sl w X 4 vw (p.writes.map KV.l)) (mc:p.reads.length<=2^40) (xh:p.writes.length<=2^40):
  Ct pg 293 #[p.v vr vw] w X nX λv wa w'=>p.fresh wa w' v:=by
  intro w0 hk;replace h1:=h1.mv hk.cE;replace h2:=h2.mv hk.cE;refine VH.1 λhs=>?_;refine cM (Kb h1 mc) kQ hs.has ?_;rintro v1 wa w X vz qw nY aB;replace hs:=hs.trans aB;have q1:=vz.sl.one;repeat' refine aq ?_;intros
  refine cM (Il (h2.mv (ai.mv hs)) xh) kQ hs.has ?_;rintro v2 wb w2 X2 kF lK ko bH;have hb:w0.heap.size<=wa.heap.size:=qw;have anN:Own w X w0.heap.size 9 1 v1 (p.reads.map S1):=vz.up nY hb;have are:=anN.since bH;have arf:w0.heap.size<=wb.heap.size:=ad hs.kp.size lK;have arh:Own w2 X2 w0.heap.size 178 4 v2 (p.writes.map KV.l):=kF.up ko arf;have q2:=kF.sl.one;replace hs:=hs.trans bH;repeat' first|refine aq ?_;intros|(refine qr ?_;intro wa hk;(exact⟨v1,v2,rfl,(are.kp hk).tight,(arh.kp hk).tight,λg YG vj=>by have:=(anN.ge YG).2;have:=(kF.ge vj).1;omega⟩))
def B9 (X:XS) (a b c:Nat):XS:=λk=>X k/\k≠a/\k≠b/\k≠c
theorem aeQ:Ct pg 288 #[] w X nX λv wa w'=>
  ∃sb kb pb,v=ptr sb 0/\iW w' (made wa w') (B9 (made wa w') sb kb pb) sb kb pb [] [] .zero/\sb≠kb/\sb≠pb/\kb≠pb:=by
 intro w0 hk;refine abn.1 λhs=>?_;refine rL (kv:=λs:BA=>aP s) sB nX hs.has λkb w1 X1 pS aB pV=>?_;refine rL (kv:=λk:bX=>k.v) qY nX aB.has λpb w2 X2 H5 bH rO=>?_;have ari:=pV.x;have arj:=rO.x;have ark:=pV.mv sB.mv (ai.mv bH) (Y:=X2) (A':=nX) (λ_ h=>h.elim);replace hs:=(hs.trans aB).trans bH;repeat' first|refine aq ?_;intros|(refine Oq hs ?_;intro bx w X gn aB gw hs bt)
 refine cH (gw.trans hs) ?_;intro wa hk;have pM:=(bt.kp hk).lt;have anO:=aB.kp.trans (hk.less aB.sub);have arl:made w0 wa kb:=⟨pS,by omega⟩;have arn:made w0 wa pb:=⟨by omega,by omega⟩;exact⟨bx,kb,pb,rfl,⟨bt.own.mv (Mv.one hk bt.1 ⟨by omega,pM⟩),ark.own.mv sB.mv (Mv.one anO (bH.sub _ ari.1) arl) (λ_ h=>h.elim),
  rO.own.mv qY.mv (Mv.one anO arj.1 arn) (λ_ h=>h.elim),λk hk=>hk.1,λk hk=>hk.2⟩,by omega,by omega,by omega⟩
def Dy:BA->List kM->Bool
 |_,[]=>true
 |a,h::r=>h.ok a&&Dy h.key r
def yu (l:List kM):List (BA×List pW):=l.foldl (λm h=>cU h.key h.nh m) []
def RW (hm:List (BA×List pW)):List (bX×gy)->List gy->Int
 |_,[]=>0
 |pm,p::r=>if p.err≠0 then p.err else if(getM p.aG pm).isSome then 9 else if pm.any (λq=>p.Et q.2)then 18 else if MC hm p then 20
  else RW hm (cU p.aG p pm) r
def EE (hl:List kM) (pl:List gy):Int:=if Dy ⟨#[]⟩ hl then RW (yu hl) [] pl else 4
def iW.grow {A':XS} (h:iW w X A sb kb pb hm pm low)
  (hA: ∀k,A k->A' k) (hs: ∀k,A' k->X k/\k≠sb/\k≠kb/\k≠pb):iW w X A' sb kb pb hm pm low:=
 ⟨h.box,h.keys.mv sB.mv (Mv.refl _ _) (Mv.sub hA),h.ia.mv qY.mv (Mv.refl _ _) (Mv.sub hA),λk hk=>(hs k hk).1,λk hk=>(hs k hk).2⟩
def iW.to (h:iW w X (B9 X sb kb pb) sb kb pb hm pm low)
  (hs:ai X w Y w') (hX: ∀k,X k->k<w.heap.size):iW w' Y (B9 Y sb kb pb) sb kb pb hm pm low:=
 (h.mv hX (ai.mv hs)).grow (λk hk=>⟨hs.sub k hk.1,hk.2⟩) λk hk=>hk
def XL (lo:Nat) (X:XS):XS:=λk=>X k/\lo<=k
def iW.toL (h:iW w X (B9 (XL lo X) sb kb pb) sb kb pb hm pm low)
  (hs:ai X w Y w') (hX: ∀k,X k->k<w.heap.size):iW w' Y (B9 (XL lo Y) sb kb pb) sb kb pb hm pm low:=
 (h.mv hX (ai.mv hs)).grow (λk hk=>⟨⟨hs.sub k hk.1.1,hk.1.2⟩,hk.2⟩) λk hk=>⟨hk.1.1,hk.2⟩
variable {wa : World}
theorem iW.fin (h:iW w X (B9 (XL w0.heap.size X) sb kb pb) sb kb pb hm pm low)
  (hk:Kp X w wa) (h1:w0.heap.size<=sb) (h2:w0.heap.size<=kb) (h3:w0.heap.size<=pb):iW wa (made w0 wa) (B9 (made w0 wa) sb kb pb) sb kb pb hm pm low:=by
 have hz:=hk.size;have ma:Mv (B9 (XL w0.heap.size X) sb kb pb) w (B9 (made w0 wa) sb kb pb) wa:=λk ah hl=>⟨⟨⟨ah.1.2,by omega⟩,ah.2⟩,hk.block k ah.1.1⟩;have l1:=h.box.lt;have l2:=h.keys.x.2;have l3:=h.ia.x.2;exact⟨h.box.own.mv (Mv.one hk h.box.1 ⟨h1,by omega⟩),h.keys.own.mv sB.mv (Mv.one hk h.keys.x.1 ⟨h2,by omega⟩) ma,h.ia.own.mv qY.mv (Mv.one hk h.ia.x.1 ⟨h3,by omega⟩) ma,λk hk=>hk.1,λk hk=>hk.2⟩
def Tq (l:List gy):List (bX×gy):=l.foldl (λm p=>cU p.aG p m) []
def LA (l:List gy):Prop:= ∀p∈l,p.reads.length<=2^40/\p.writes.length<=2^40
def Lz (l:List kM):Prop:= ∀h∈l,h.nh.length<=2^40
variable {pl : List gy} {hl : List kM}
theorem Z7 (h1:ri w X vh hl) (h2:qZ w X vp pl) (mc:Lz hl) (xh:LA pl):
  Ct pg 220 #[vh,vp] w X nX λv wa w'=> ∃(u:Value) (n:Int),v= .tuple #[u,I n]/\n=EE hl pl/\
   (n=0-> ∃sb kb pb,u=ptr sb 0/\sb≠kb/\sb≠pb/\kb≠pb/\iW w' (made wa w') (B9 (made wa w') sb kb pb) sb kb pb (yu hl) (Tq pl) .zero):=by
 intro w0 hk;replace h1:=h1.mv hk.cE;replace h2:=h2.mv hk.cE;have yV:=h1.len;have wo:=h2.len;refine ZD.1 λhs=>?_;refine cM aeQ kQ hs.has ?_;rintro v wa w X ⟨sb,kb,pb,rfl,fQ,ne1,ne2,ne3⟩ hle gC aB;have TN:w0.heap.size<=sb:=ad hle fQ.box.1.1;have pS:w0.heap.size<=kb:=ad hle fQ.keys.x.1.1;have H5:w0.heap.size<=pb:=ad hle fQ.ia.x.1.1;replace hs:=hs.trans aB;have aro:iW w X (B9 (XL w0.heap.size X) sb kb pb) sb kb pb [] [] .zero:=(fQ.mv (λk hk=>hk.2) (Mv.sub gC)).grow (λk hk=>⟨⟨gC k hk.1,ad hle hk.1.1⟩,hk.2⟩) λk hk=>⟨hk.1.1,hk.2⟩;clear fQ;repeat' refine aq ?_;intros
 refine gM (λn a b w X=> ∃(i:Nat) (s:BA),a=I i/\b= .string s/\n=hl.length-i/\i<=hl.length/\ai (bP w0) w0 X w/\
  iW w X (B9 (XL w0.heap.size X) sb kb pb) sb kb pb (yu (hl.take i)) [] .zero/\Dy ⟨#[]⟩ hl=Dy s (hl.drop i)) hl.length
  ⟨0,⟨#[]⟩,rfl,rfl,rfl,ak _,hs,aro,by rw[tC]⟩ ?_
 rintro n a b w X ⟨i,s,rfl,rfl,rfl,hi,gw,fQ,hw⟩;have hs:=ai.fL gw.has;rcases dB (hl) i with⟨cI,x,hx,hd⟩|⟨dC,hd⟩
 ·rw[hd,Dy] at hw;have J7:=mc x (av hx);have gn:=fQ.box;repeat' first|refine aI ?_;intros|((with_reducible apply RQ);assumption;(try (case hz=>rfl));(case hr=>exact qR);(try (case hz=>omega));(case ht=>kernel_rfl);(case hs=>kernel_rfl);intros)|(refine qL (Tp (h:=x) (ahead:=s) (by first|assumption|exact Sl.mv aQ (ai.mv (gw.trans hs)))) hs ?_ ?_<;>intro _ w X hs)|(first|(with_reducible refine cH (gw.trans hs) ?_);intro wa hk;exact⟨_,_,rfl,by rw[EE,hw];simp[*],λe=>absurd e dQ⟩)
  have hvv:= ‹Sl w0 (bP w0) 6 _ (x.nh.map pW.l)›;have lT:= ‹x.ok s=true›;refine cM (PT (hvv.mv (ai.mv (gw.trans hs))) J7) kQ hs.has ?_;rintro v1 wa w2 X2 vz qw nY bH;have Yb:=hs.kp.size;have PW:=fQ.toL (hs.trans bH) gw.has;have kV:Sl w2 (B9 (XL w0.heap.size X2) sb kb pb) 6 v1 (x.nh.map pW.l):=vz.sl.mv (Mv.sub λk hk=>⟨⟨nY k hk,by have:w0.heap.size<=_:=ad gw.kp.size hs.kp.size;have:=hk.1;omega⟩,by
   have q1:=gw.has sb fQ.box.1;have q2:=gw.has kb fQ.keys.x.1;have q3:=gw.has pb fQ.ia.x.1;have:=hk.1;refine⟨?_,?_,?_⟩<;>omega⟩)
  replace hs:=hs.trans bH;repeat' refine aq ?_;intros
  refine vJ (kv:=λs:BA=>aP s) (k:=x.key) (et:=300) PW.keys sB.mv kV (λk hk=>⟨hk.1.1,hk.2.2.1⟩) yt kQ hs.has λw3 X3 hc qS=>?_;have dt:=(gw.trans hs).dT hc λk hk e=>by have:k<w0.heap.size:=hk;omega
  have ai5:iW w3 X3 (B9 (XL w0.heap.size X3) sb kb pb) sb kb pb (yu (hl.take (i+1))) [] .zero:=by
   have gn:=PW.box;have AA:=PW.ia;have e:yu (hl.take (i+1))=cU x.key x.nh (yu (hl.take i)):=by
    rw[bW,hx];simp[yu]
   rw[e];have mo: ∀b,X2 b->b≠kb->Mv (λk=>k=b) w2 X3 w3:=λb hb cu k ah _=>by subst ah;exact⟨hc.sub _ hb,hc.block _ hb cu⟩
   exact⟨gn.own.mv (mo _ gn.1 ne1),qS.mv sB.mv (Mv.refl _ _) (Mv.sub λk hk=>⟨⟨hc.sub k hk.1.1,hk.1.2⟩,hk.2⟩),
    AA.own.mv qY.mv (mo _ AA.x.1 ne3.symm) (λk hk _=>⟨⟨⟨hc.sub k hk.1.1,hk.1.2⟩,hk.2⟩,hc.block k hk.1.1 hk.2.2.1⟩),λk hk=>hk.1.1,λk hk=>hk.2⟩
  replace hs:=dt;repeat' first|refine aq ?_;intros|((with_reducible refine fG ((hl).length-(i+1)) ?_ ?_);omega;exact⟨i+1,x.key,by simp,rfl,rfl,by omega,hs,ai5,by rw[hw,lT];rfl⟩)
 ·have hlen:hl.take i=hl:=az dC;rw[hd] at hw;rw[hlen] at fQ;repeat' refine aI ?_;intros
  refine fY (λn a w X=> ∃(i:Nat) (pm:List (bX×gy)),a=I i/\n=pl.length-i/\i<=pl.length/\ai (bP w0) w0 X w/\
   iW w X (B9 (XL w0.heap.size X) sb kb pb) sb kb pb (yu hl) pm .zero/\pm=Tq (pl.take i)/\EE hl pl=RW (yu hl) pm (pl.drop i)) pl.length
   ⟨0,[],rfl,rfl,ak _,gw,fQ,rfl,by rw[tC,EE,hw];rfl⟩ ?_
  rintro n a w X ⟨j,pm,rfl,rfl,hj,gw,fQ,AA,vE⟩;have hs:=ai.fL gw.has;rcases dB pl j with⟨Pf,x,hx,rH⟩|⟨DH,rH⟩
  ·rw[rH,RW] at vE;have J7:=xh x (av hx);have gn:=fQ.box;repeat' first|refine aI ?_;intros|((with_reducible apply Wv);assumption;(try (case hz=>rfl));(case hr=>exact qR);(try (case hz=>omega));(case ht=>kernel_rfl);(case hs=>kernel_rfl);intros)|(refine UU (zq (p:=x) (by first|assumption|exact Sl.mv aQ (ai.mv (gw.trans hs))) (by first|assumption|exact Sl.mv aQ (ai.mv (gw.trans hs))) J7.2) hs ?_;intro w X hs)
   refine FJ (kv:=λk:bX=>k.v) (k:=x.aG) (kt:=34) (et:=306) (.agg #[I 0,I 0,I 0,I 0,I 0,I 0,.slice none 0 0,.slice none 0 0]) (fQ.mv gw.has (ai.mv hs)).ia tf kQ kQ (λv q hg jE=>?_) λhg=>?_
   ·obtain⟨ur,uw,rfl,q1,q2⟩:=jE;have o1:=q1.one;have o2:=q2.one;repeat' first|refine aq ?_;intros|refine dg ?_ ?_<;>intros|(first|(with_reducible refine cH (gw.trans hs) ?_);intro wa hk;exact⟨_,_,rfl,by clear AA;rw[vE];simp[*],λe=>absurd e (by first|decide|assumption)⟩)
   ·repeat' first|refine aq ?_;intros|refine dg ?_ ?_<;>intros|(first|(with_reducible refine cH (gw.trans hs) ?_);intro wa hk;exact⟨_,_,rfl,by clear AA;rw[vE];simp[*],λe=>absurd e (by first|decide|assumption)⟩)|(refine qL (VU (x:=x) (fQ.mv gw.has (ai.mv hs)) hs.has (by first|assumption|exact Sl.mv aQ (ai.mv (gw.trans hs))) (by first|assumption|exact Sl.mv aQ (ai.mv (gw.trans hs)))) hs ?_ ?_<;>intro _ w X hs)|(refine qL (aeP (x:=x) (fQ.mv gw.has (ai.mv hs)) hs.has (by first|assumption|exact Sl.mv aQ (ai.mv (gw.trans hs)))) hs ?_ ?_<;>intro _ w X hs)
    have he:x.err=0:= ‹x.err=0›;have arp:(pm.any λq=>x.Et q.snd)=false:= ‹_›;have arq:MC (yu hl) x=false:= ‹_›;refine cM (Z6 (p:=x) (by first|exact Sl.mv aQ (ai.mv (gw.trans hs))) (by first|exact Sl.mv aQ (ai.mv (gw.trans hs))) J7.1 J7.2) kQ hs.has ?_;rintro v1 wa w2 X2 ⟨ur,uw,rfl,vz,kF,-⟩ qw nY bH;have Yb:=hs.kp.size;have PW:=fQ.toL (hs.trans bH) gw.has;have ic: ∀k,made wa w2 k->B9 (XL w0.heap.size X2) sb kb pb k:=λk hk=>⟨⟨nY k hk,by have:w0.heap.size<=_:=ad gw.kp.size hs.kp.size;have:=hk.1;omega⟩,by
     have q1:=gw.has sb fQ.box.1;have q2:=gw.has kb fQ.keys.x.1;have q3:=gw.has pb fQ.ia.x.1;have:=hk.1;refine⟨?_,?_,?_⟩<;>omega⟩
    have kV:qY w2 (B9 (XL w0.heap.size X2) sb kb pb) (x.v ur uw) x:=⟨ur,uw,rfl,vz.sl.mv (Mv.sub ic),kF.sl.mv (Mv.sub ic)⟩;replace hs:=hs.trans bH;refine vJ (kv:=λk:bX=>k.v) (k:=x.aG) (et:=306) PW.ia qY.mv kV (λk hk=>⟨hk.1.1,hk.2.2.2⟩) tf kQ hs.has λw3 X3 hc qS=>?_;have dt:=(gw.trans hs).dT hc λk hk e=>by have:k<w0.heap.size:=hk;omega
    have ai5:iW w3 X3 (B9 (XL w0.heap.size X3) sb kb pb) sb kb pb (yu hl) (cU x.aG x pm) .zero:=by
     have gn:=PW.box;have hkm:=PW.keys;have mo: ∀b,X2 b->b≠pb->Mv (λk=>k=b) w2 X3 w3:=λb hb cu k ah _=>by subst ah;exact⟨hc.sub _ hb,hc.block _ hb cu⟩
     exact⟨gn.own.mv (mo _ gn.1 ne2),hkm.own.mv sB.mv (mo _ hkm.x.1 ne3) (λk hk _=>⟨⟨⟨hc.sub k hk.1.1,hk.1.2⟩,hk.2⟩,hc.block k hk.1.1 hk.2.2.2⟩),
      qS.mv qY.mv (Mv.refl _ _) (Mv.sub λk hk=>⟨⟨hc.sub k hk.1.1,hk.1.2⟩,hk.2⟩),λk hk=>hk.1.1,λk hk=>hk.2⟩
    replace hs:=dt;repeat' first|refine aq ?_;intros|((with_reducible refine ey (pl.length-(j+1)) ?_ ?_);omega;exact⟨j+1,_,by simp,rfl,by omega,hs,ai5,by rw[bW,hx,AA];simp[Tq],by rw[vE];simp[he,hg,arp,arq]⟩)
  ·rw[rH] at vE;repeat' first|refine aI ?_;intros|(first|(with_reducible refine cH (gw.trans hs) ?_);intro wa hk;exact⟨_,_,rfl,by rw[vE];rfl,λ_=>⟨sb,kb,pb,rfl,ne1,ne2,ne3,by rw[az DH] at AA;rw[<-AA];exact fQ.fin hk TN pS H5⟩⟩)
def abw (h1:ri w X vh hl) (h2:qZ w X vp pl) (mc:Lz hl) (xh:LA pl):
  Ct pg 220 #[vh,vp] w X nX λv _ _=> ∃u:Value,v= .tuple #[u,I (EE hl pl)]:=
 (Z7 h1 h2 mc xh).mono λ_ _ _ _ ⟨u,_,h,e,_⟩=>⟨u,e▸h⟩
def adL (l:List kM):Prop:= ∀h∈l,h.key.size<=2^40
def adM (l:List gy):Prop:= ∀p∈l,(∀k∈p.reads,k.size<=2^40)/\ ∀x∈p.writes,x.key.size<=2^40
structure State.small (s:State):Prop where
 h:Lz s.iA
 p:LA s.ia
 hk:adL s.iA
 pk:adM s.ia
structure Rec.small (r:Rec):Prop where
 reads:r.reads.length<=2^40
 writes:r.writes.length<=2^40
 rk: ∀k∈r.reads,k.size<=2^40
 wk: ∀x∈r.writes,x.key.size<=2^40
 state:r.state.small
def fe.has (r:fe) (x:Nat):Bool:=(J6 x r.lo||pY x r.lo)&&qT x r.hi
def fe.key (r:fe) (k:BA):Bool:=r.has (placeOf k)
def State.inside (s:State):Bool:=s.iA.all (λh=>s.range.key h.key)&&s.ia.all λp=>p.reads.all s.range.key&&p.writes.all λx=>s.range.key x.key
def State.may (s:State):Bool:=s.range.may&&s.floor.may&&s.closed.may&&decide (EE s.iA s.ia=0)&&s.inside
theorem MG {b:Nat} (h:Cells w X b 0 (s.l vh vp)) (ah:k.size<=2^62):
  Ct pg 221 #[.string k,ptr b 0] w X nX λv _ _=>v=B (s.range.key k):=by
 intro w0 hk;replace h:=h.mv hk.cE;refine KA.1 λhs=>?_;repeat' first|refine aq ?_;intros|(refine kG (Jo _ _) hs ?_ ?_<;>intro _ w X hs)|(refine pt (Jr _ (by first|assumption|omega)) hs ?_;intro w X hs)|(refine qr ?_;intro wa hk;(simp[fe.key,fe.has, *]))
theorem GR (h1:ri w X vh s.iA) (h2:qZ w X vp s.ia) (lW:s.small):
  Ct pg 151 #[s.v vh vp] w X nX λv _ _=>v=B s.may:=by
 intro w0 hk;replace h1:=h1.mv hk.cE;replace h2:=h2.mv hk.cE;have yV:=h1.len;have wo:=h2.len;refine PK.1 λhs=>?_;repeat' first|refine aq ?_;intros|refine dg ?_ ?_<;>intros|(refine Oq hs ?_;intro bx w X gn aB gw hs bt)|with_reducible apply cK|(refine kG (qa _) hs ?_ ?_<;>intro _ w X hs)|(refine kG (wJ _) hs ?_ ?_<;>intro _ w X hs)|(refine qr ?_;intro wa hk;(simp[State.may, *]))|(refine cM ((abw (hl:=s.iA) (pl:=s.ia))  qA qA lW.h lW.p) kQ hs.has ?_;rintro _ wa w X ⟨u,rfl⟩ hle gC aB;have gr:=ad hs.kp.size hle;replace hs:=hs.trans aB)
 have Gq: ∀k:BA,k.size<=2^40-> ∀w X,ai _ _ X w->Ct pg 221 #[.string k,ptr bx 0] w X nX λv _ _=>v=B (s.range.key k):=λk hk w X hs=>MG (bt.since hs).cells zQ;have aeR:s.may=s.inside:=by simp[State.may, *]
 refine fY (λn a w X=> ∃i:Nat,a=I (i:Nat)/\n=s.iA.length-i/\i<=s.iA.length/\ai _ _ X w/\
  (s.iA.all (λh=>s.range.key h.key))=((s.iA.drop i).all λh=>s.range.key h.key)) s.iA.length ⟨0,rfl,rfl,ak _,hs,by simp⟩ ?_
 rintro n a w X ⟨i,rfl,rfl,hi,hs,hw⟩;rcases dB (s.iA) i with⟨cI,x,hx,hd⟩|⟨dC,hd⟩
 ·rw[hd,iZ] at hw;have hkx:=lW.hk x (av hx);repeat' first|refine aI ?_;intros|((with_reducible apply RQ);assumption;(try (case hz=>rfl));(case hr=>exact qR);(try (case hz=>omega));(case ht=>kernel_rfl);(case hs=>kernel_rfl);intros)|(refine qr ?_;intro wa hk;(simp[aeR,State.inside,hw, *]))|(refine qL (Gq x.key hkx _ _ hs) hs ?_ ?_<;>intro _ w X hs)|((with_reducible refine ey ((s.iA).length-(i+1)) ?_ ?_);omega;exact⟨i+1,by simp,rfl,by omega,hs,by rw[hw];simp[*]⟩)
 ·rw[hd] at hw;repeat' refine aI ?_;intros
  refine Bc (λn a _ _ w X=> ∃i:Nat,a=I (i:Nat)/\n=s.ia.length-i/\i<=s.ia.length/\ai _ _ X w/\
   (s.ia.all λp=>p.reads.all s.range.key&&p.writes.all λx=>s.range.key x.key)=((s.ia.drop i).all λp=>p.reads.all s.range.key&&p.writes.all λx=>s.range.key x.key)) s.ia.length ⟨0,rfl,rfl,ak _,hs,by simp⟩ ?_
  rintro n a a2 a3 w X ⟨j,rfl,rfl,hj,hs,vE⟩;rcases dB s.ia j with⟨cI,p,hp,rH⟩|⟨DH,rH⟩
  ·rw[rH,iZ] at vE;obtain⟨rI,jJ⟩:=lW.pk p (av hp);repeat' first|refine aI ?_;intros|((with_reducible apply Wv);assumption;(try (case hz=>rfl));(case hr=>exact qR);(try (case hz=>omega));(case ht=>kernel_rfl);(case hs=>kernel_rfl);intros)
   have hl3:=Sl.gV ‹Sl w0 (bP w0) 1 _ (p.reads.map S1)›;have Qo:=Sl.gV ‹Sl w0 (bP w0) 4 _ (p.writes.map KV.l)›;refine fY (λn a w X=> ∃i:Nat,a=I (i:Nat)/\n=p.reads.length-i/\i<=p.reads.length/\ai _ _ X w/\p.reads.all s.range.key=(p.reads.drop i).all s.range.key) p.reads.length ⟨0,rfl,rfl,ak _,hs,by simp⟩ ?_;rintro n a w X ⟨k,rfl,rfl,Y5,hs,wE⟩;rcases dB p.reads k with⟨aqS,y,hy,hd3⟩|⟨aqT,hd3⟩
   ·rw[hd3,iZ] at wE;have hky:=rI y (av hy);repeat' first|refine aI ?_;intros|(refine qr ?_;intro wa hk;(simp[aeR,State.inside,vE,wE, *]))|(refine qL (Gq y hky _ _ hs) hs ?_ ?_<;>intro _ w X hs)|((with_reducible refine ey (p.reads.length-(k+1)) ?_ ?_);omega;exact⟨k+1,by simp,rfl,by omega,hs,by rw[wE];simp[*]⟩)
   ·rw[hd3] at wE;repeat' refine aI ?_;intros
    refine fY (λn a w X=> ∃i:Nat,a=I (i:Nat)/\n=p.writes.length-i/\i<=p.writes.length/\ai _ _ X w/\(p.writes.all λx=>s.range.key x.key)=(p.writes.drop i).all λx=>s.range.key x.key) p.writes.length ⟨0,rfl,rfl,ak _,hs,by simp⟩ ?_;rintro n a w X ⟨m,rfl,rfl,hm,hs,Gh⟩;rcases dB p.writes m with⟨asY,y,hy,hd4⟩|⟨asZ,hd4⟩
    ·rw[hd4,iZ] at Gh;have hky:=jJ y (av hy);repeat' first|refine aI ?_;intros|(refine qr ?_;intro wa hk;(simp[aeR,State.inside,vE,wE,Gh, *]))|(refine qL (Gq y.key hky _ _ hs) hs ?_ ?_<;>intro _ w X hs)|((with_reducible refine ey (p.writes.length-(m+1)) ?_ ?_);omega;exact⟨m+1,by simp,rfl,by omega,hs,by rw[Gh];simp[*]⟩)
    ·rw[hd4] at Gh;repeat' first|refine aI ?_;intros|((with_reducible refine xV (s.ia.length-(j+1)) ?_ ?_);omega;exact⟨j+1,by simp,rfl,by omega,hs,by rw[vE,wE,Gh];simp⟩)
  ·rw[rH] at vE;repeat' first|refine aI ?_;intros|(refine qr ?_;intro wa hk;(rw[aeR,State.inside,hw,vE];rfl))
def Nr (prev st:cn) (t:bX) (l:List KV):Bool:=prev.may&&decide (prev.cmp st<0)&&decide (l≠[])&&decide (gy.err ⟨t,st,[],l⟩=0)
theorem MH {prev st:cn} {t:bX} {l:List KV} (h:Sl w X 4 a (l.map KV.l)) (hb:l.length<=2^40):
  Ct pg 152 #[prev.v,st.v,t.v,a] w X nX λv _ _=>v=B (Nr prev st t l):=by
 intro w0 hk;replace h:=h.mv hk.cE;obtain⟨b1,n1,c1,rfl⟩:=h.form;refine VA.1 λhs=>?_;repeat' first|refine aq ?_;intros|refine dg ?_ ?_<;>intros|with_reducible apply cK|(refine kG (qa _) hs ?_ ?_<;>intro _ w X hs)|(refine pt (wF _ _) hs ?_;intro w X hs)|(refine qr ?_;intro wa hk;(simp_all [Nr]<;>omega))|(refine UU (zq  (p:=⟨t,st,[],l⟩) (Sl.nil _ _ _) qA hb) hs ?_;intro w X hs)
def acu (x:Nat):Bool:=decide ((ED x).2=0)&&J6 (ED x).1 0&&qT (ED x).1 GQ
def wK (n:Int):Bool:=decide (n>=1)&&decide (n<=12)
def Rec.qD (r:Rec):Bool:=
 if r.kind=1 then r.state.may
 else if r.kind=2 then decide (r.n>=0)&&decide (r.n<=281474976710656)
 else if r.kind=3 then decide (gy.err ⟨r.aG,r.aU,r.reads,r.writes⟩=0)&&yK r.parts
 else if r.kind=4 then r.aG.may&&r.aU.Tm r.jM
 else if r.kind=5 then r.aU.may
 else if r.kind=6 then acu r.uf&&wK r.n&&r.aU.may
 else if r.kind=7 then wK r.n
 else if r.kind=8 then decide (r.n>=1)
 else if r.kind=9 then r.aG.may&&r.aU.Ia&&yK r.parts
 else if r.kind=10 then r.aG.may
 else if r.kind=11 then Nr r.prev r.aU r.aG r.writes
 else r.aU.may&&Nq r.xp
theorem VV (h:r.at w X vr vw vp vq vh vd) (lW:r.small):
  Ct pg 278 #[r.v vr vw vp vq vh vd] w X nX λv _ _=>v=B r.qD:=by
 intro w0 hk;obtain⟨h1,h2,h3,h4,h5,h6⟩:=h.mv hk.cE;obtain⟨b1,n1,c1,rfl⟩:=h1.form;obtain⟨b2,n2,c2,rfl⟩:=h2.form;refine Td.1 λhs=>?_;repeat' first|refine aq ?_;intros|refine dg ?_ ?_<;>intros|with_reducible apply cK|(refine kG (qa _) hs ?_ ?_<;>intro _ w X hs)|(refine kG (DO _) hs ?_ ?_<;>intro _ w X hs)|(refine kG (Tn _ _) hs ?_ ?_<;>intro _ w X hs)|(refine pt (VO _) hs ?_;intro w X hs)|(refine kG (VN _) hs ?_ ?_<;>intro _ w X hs)|(refine kG (J9 _) hs ?_ ?_<;>intro _ w X hs)|(refine qL (GR  (s:=r.state) qA qA lW.state) hs ?_ ?_<;>intro _ w X hs)|(refine UU (zq  (p:=⟨r.aG,r.aU,r.reads,r.writes⟩) qA qA lW.writes) hs ?_;intro w X hs)|(refine qL (MA  qA) hs ?_ ?_<;>intro _ w X hs)|(refine qL (ZW  qA) hs ?_ ?_<;>intro _ w X hs)|(refine qL ((MH (l:=r.writes))  qA lW.writes) hs ?_ ?_<;>intro _ w X hs)
 all_goals
  (with_reducible refine cH hs ?_)
  intro wa aL;unfold Rec.qD;repeat (first|rw[if_pos zQ]|rw[if_neg zQ])
  simp_all [acu,wK,GQ]<;>omega
def Rec.err (r:Rec):Int:=if !r.strip.2 then 7 else if !r.strip.1.isZero||!r.qD then 4 else 0
theorem aeS (h:r.at w X vr vw vp vq vh vd) (lW:r.small):
  Ct pg 196 #[r.v vr vw vp vq vh vd] w X nX λv _ _=>v=I r.err:=by
 intro w0 hk;have h:=h.mv hk.cE;refine abj.1 λhs=>?_;refine cM (To h) kQ hs.has ?_;rintro v wa w X ⟨ZX,gX,JZ,vq',ZY,ZZ,rfl,dc⟩ hle gC aB;replace hs:=hs.trans aB;have q1:=dc.1.one;have q2:=dc.2.1.one;have q3:=dc.2.2.1.one;have q4:=dc.2.2.2.1.one;have q5:=dc.2.2.2.2.1.one;have q6:=dc.2.2.2.2.2.one;cases hb:r.strip.2<;>
 repeat' first|refine aq ?_;intros|with_reducible apply cK|(refine qr ?_;intro wa hk;(simp[Rec.err, *]))|(refine qL (abt  (r:=r.strip.1) qA) hs ?_ ?_<;>intro _ w X hs)|(refine qL ((VV (r:=r))  (h.mv (ai.mv hs)) lW) hs ?_ ?_<;>intro _ w X hs)
section
variable {κ : Type} [DecidableEq κ] {α β : Type}
theorem Z8 (f:α->β) (k:κ) (l:List (κ×α)):getM k (l.map λx=>(x.1,f x.2))=(getM k l).map f:=by
 induction l with
 |nil=>rfl
 |cons x l ih=>
  simp only[getM,bh,fO] at ih⊢
  grind
theorem PX (f:α->β) (k:κ) (a:α) (l:List (κ×α)):(cU k a l).map (λx=>(x.1,f x.2))=cU k (f a) (l.map λx=>(x.1,f x.2)):=by
 induction l with
 |nil=>rfl
 |cons x l ih=>
  simp only[cU,bh] at ih⊢
  grind
theorem ai6 (f:α->β) (k:κ) (l:List (κ×α)):(kq k l).map (λx=>(x.1,f x.2))=kq k (l.map λx=>(x.1,f x.2)):=by
 unfold kq;rw[List.filter_map];rfl
theorem ai7 (f:α->β) (k:κ) (a:α) {l:List (κ×α)} (h: ∀x∈l,x.1=k->f x.2=f a) (hk:(getM k l).isSome=true):(cU k a l).map (λx=>(x.1,f x.2))=l.map λx=>(x.1,f x.2):=by
 induction l with
 |nil=>cases hk
 |cons x l ih=>
  simp only[cU];by_cases hx:x.1=k
  ·grind
  ·simp only[hx,if_false,bh];rw[ih (λy hy=>h y (by simp[hy])) (by simpa [getM,fO,hx] using hk)]
theorem yd (k:κ) (a:α) (l:List (κ×α)):(cU k a l).map (·.1)=if(getM k l).isSome then l.map (·.1)else l.map (·.1)++[k]:=by
 induction l with
 |nil=>rfl
 |cons x l ih=>
  simp only[cU];by_cases hx:x.1=k
  ·simp[hx,getM]
  ·have e:getM k (x::l)=getM k l:=by simp[getM,fO,hx]
   grind
theorem getM_none {k:κ} {l:List (κ×α)} :getM k l=none↔k ∉ l.map (·.1):=by
 induction l with
 |nil=>simp[getM]
 |cons x l ih=>
  by_cases hx:x.1=k
  ·simp[getM,hx]
  ·have e:getM k (x::l)=getM k l:=by simp[getM,fO,hx]
   grind
theorem Qs {k:κ} {a:α} {l:List (κ×α)} (h:(l.map (·.1)).Nodup):((cU k a l).map (·.1)).Nodup:=by
 rw[yd];split
 ·exact h
 ·rename_i hn;have mL:getM k l=none:=by cases hg:getM k l with|none=>rfl|some a=>grind
  rw[List.nodup_append];refine⟨h,by simp,λa ha b hb e=>?_⟩;simp only[List.mem_singleton] at hb;subst hb;subst e;exact getM_none.1 mL ha
theorem jK {k:κ} {a:α} {l:List (κ×α)} :getM k (cU k a l)=some a:=by
 induction l with
 |nil=>simp[cU,getM]
 |cons x l ih=>
  simp only[cU];by_cases hx:x.1=k
  ·simp[hx,getM]
  ·rw[if_neg hx];grind [getM]
theorem pO {k j:κ} {a:α} {l:List (κ×α)} (hj:j≠k):getM j (cU k a l)=getM j l:=by
 induction l with
 |nil=>simp[cU,getM,Ne.symm hj]
 |cons x l ih=>
  simp only[cU];by_cases hx:x.1=k
  ·rw[if_pos hx];simp[getM,fO,Ne.symm hj,hx]
  ·rw[if_neg hx]
   grind [getM]
theorem Tr {k:κ} {l:List (κ×α)} :getM k (kq k l)=none:=by
 rw[getM_none];intro h;obtain⟨x,hx,e⟩:=List.mem_map.1 h;have:=(List.mem_filter.1 hx).2
 grind
theorem LP {k j:κ} {l:List (κ×α)} (hj:j≠k):getM j (kq k l)=getM j l:=by
 induction l with
 |nil=>rfl
 |cons x l ih=>
  unfold kq at ih⊢;by_cases hx:x.1=k
  ·rw[List.filter_cons_of_neg (by simp[hx]),ih];simp[getM,fO,hx,Ne.symm hj]
  ·rw[List.filter_cons_of_pos gQ];by_cases hxj:x.1=j
   ·simp[getM,hxj]
   ·simpa [getM,fO,hxj] using ih
theorem UZ {R:κ×α->κ×α->Prop} {k:κ} {a:α} {l:List (κ×α)} (hn:(l.map (·.1)).Nodup) (hp:l.Pairwise R) (h: ∀y∈l,y.1≠k->R (k,a) y/\R y (k,a)):(cU k a l).Pairwise R:=by
 induction l with
 |nil=>simp[cU]
 |cons x l ih=>
  have mL:=List.nodup_cons.1 hn;have hp':=List.pairwise_cons.1 hp;simp only[cU];by_cases hx:x.1=k
  ·rw[if_pos hx,mu];refine⟨λy hy=>(h y (by simp[hy]) λe=>mL.1 (List.mem_map.2 ⟨y,hy,e.trans hx.symm⟩)).1,hp'.2⟩
  ·rw[if_neg hx,mu];refine⟨λy hy=>?_,ih mL.2 hp'.2 λy hy=>h y (by simp[hy])⟩;rcases mV mL.2 hy with rfl|⟨hy,_⟩
   ·exact(h x sQ hx).2
   ·exact hp'.1 y hy
def uz (f:α->Nat) (l:List (κ×α)):Nat:=(l.map λx=>f x.2).sum
theorem Xi {f:α->Nat} {k:κ} {a b:α} {l:List (κ×α)} (h:getM k l=some b):uz f (cU k a l)+f b=uz f l+f a:=by
 induction l with
 |nil=>cases h
 |cons x l ih=>
  simp only[cU];by_cases hx:x.1=k
  ·have:x.2=b:=by simpa [getM,hx] using h
   rw[if_pos hx];simp only[uz,bh,qX,this];omega
  ·rw[if_neg hx];have:=ih (by grind [getM]);simp only[uz,bh,qX] at this⊢;omega
theorem Xh {f:α->Nat} {k:κ} {a:α} {l:List (κ×α)} (h:getM k l=none):uz f (cU k a l)=uz f l+f a:=by
 induction l with
 |nil=>simp[cU,uz]
 |cons x l ih=>
  simp only[cU];by_cases hx:x.1=k
  ·simp[getM,hx] at h
  ·rw[if_neg hx];have:=ih (by simpa [getM,fO,hx] using h);simp only[uz,bh,qX] at this⊢;omega
theorem ai8 {f:α->Nat} {k:κ} {b:α} {l:List (κ×α)} (h:getM k l=some b):f b<=uz f l:=by
 induction l with
 |nil=>cases h
 |cons x l ih=>
  by_cases hx:x.1=k
  ·have:x.2=b:=by simpa [getM,hx] using h
   grind [uz]
  ·have:=ih (by grind [getM]);simp only[uz,bh,qX] at this⊢;omega
end
structure DM where
 fs:List (ByteArray×(List Nat×Nat))
 wr:Int
 ar:Nat
 dn:Bool
def DM.sz (m:DM):Nat:=uz (λx=>x.1.length) m.fs
def DM.get (m:DM) (n:ByteArray):Option (List Nat×Nat):=getM n m.fs
def DM.put (m:DM) (n:ByteArray) (bs:List Nat) (s:Nat):DM:= { m with fs:=cU n (bs,s) m.fs }
def DM.del (m:DM) (n:ByteArray):DM:= { m with fs:=kq n m.fs }
def DM.tick (m:DM):DM:=if m.ar=1 then { m with ar:=0,dn:=true } else { m with ar:=m.ar-1,wr:=IntKind.i64.wrap (m.wr+1) }
def DM.write (m:DM) (e:Nat) (f:DM->DM):DM×Nat:=if m.dn then(m,12)else if e≠0 then(m,e)else if m.tick.dn then(m.tick,12)else(f m.tick,0)
def wC (n:ByteArray):Bool:=decide (1<=n.size/\n.size<=20)
def DM.create (m:DM) (n:ByteArray):DM×Nat:=m.write (if¬wC n then 10 else if(m.get n).isSome then 9 else if 64<=m.fs.length then 3 else 0) λm=>m.put n [] 0
def DM.append (m:DM) (n:ByteArray) (b:List Nat):DM×Nat:=
 if m.dn then(m,12)else match m.get n with
 |none=>(m,8)
 |some (bs,s)=>if 4194304-m.sz<b.length then(m,11)else(m.tick.put n (bs++b) s,if m.tick.dn then 12 else 0)
def DM.kD (n:ByteArray) (m:DM):DM:=match m.get n with
 |none=>m
 |some x=>m.put n x.1 x.1.length
def DM.sync (m:DM) (n:ByteArray):DM×Nat:=m.write (if(m.get n).isSome then 0 else 8) (DM.kD n)
theorem DM.AE (m:DM):m.tick.fs=m.fs:=by unfold DM.tick;grind
theorem DM.qz (m:DM) (n:ByteArray):m.tick.get n=m.get n:=by unfold DM.get;rw[m.AE]
theorem DM.yH (m:DM):m.tick.sz=m.sz:=by unfold DM.sz;rw[m.AE]
variable {s' : Nat} {n : ByteArray} {m : DM}
theorem DM.Lo {b:List Nat} {s:Nat} (h:m.get n=some (b,s)):(m.put n bs s').sz+b.length=m.sz+bs.length:=Xi (f:=λx:List Nat×Nat=>x.1.length) h
theorem DM.SB (h:m.get n=none):(m.put n bs s').sz=m.sz+bs.length:=Xh (f:=λx:List Nat×Nat=>x.1.length) h
theorem DM.Fg (m:DM) (n:ByteArray):(m.kD n).sz=m.sz:=by
 unfold DM.kD;split
 ·rfl
 grind [DM.Lo]
def DM.Ck {b:List Nat} {s:Nat} (h:m.get n=some (b,s)):b.length<=m.sz:=ai8 (f:=λx:List Nat×Nat=>x.1.length) h
structure nD where
 b:Nat
 v:Value
 bs:List Nat
 safe:Nat
def nD.er (f:nD):List Nat×Nat:=(f.bs,f.safe)
def OP:World->XS->Value->nD->Prop:=λ_ _ v f=>v=ptr f.b 0
def mr:qV OP:=λ_ _ _ _ _ _ h _=>h
def apart (x y:ByteArray×nD):Prop:=x.2.b≠y.2.b/\ ∀g,x.2.v.ownBlock=some g->y.2.v.ownBlock≠some g
structure oJ (w:World) (F:XS) (db mb:Nat) (l:List (ByteArray×nD)) (m:DM) (z:Nat):Prop where
 fs:m.fs=l.map λx=>(x.1,x.2.er)
 box:aH w F db [.map (some mb),I z,I m.wr,I m.ar,B m.dn] 111
 map:dS w F nX mb aP OP l
 row: ∀x∈l,aH w F x.2.b [x.2.v,I x.2.safe] 153
 ow: ∀x∈l,Ow w F 5 1 x.2.v (x.2.bs.map U1)
 ap:l.Pairwise apart
 ar:m.ar<2^63
 safe: ∀x∈l,x.2.safe<=x.2.bs.length
def Dk (w:World) (F:XS) (db:Nat) (m:DM):Prop:= ∃mb l,oJ w F db mb l m m.sz/\m.sz<=4194304
variable {F G : XS}
section
variable {F' : XS} {db mb z z' : Nat} {l : List (ByteArray × nD)} {m' : DM} {f : nD}
def oJ.mv (h:oJ w F db mb l m z) (v:Mv F w F' w'):oJ w' F' db mb l m z:=
 ⟨h.fs,h.box.mv v,h.map.mv mr v (λ_ h=>h.elim),λx hx=>(h.row x hx).mv v,λx hx=>(h.ow x hx).mv v,h.ap,h.ar,h.safe⟩
def Dk.mv (h:Dk w F db m) (v:Mv F w F' w'):Dk w' F' db m:=let⟨mb,l,h,hz⟩:=h;⟨mb,l,h.mv v,hz⟩
def Dk.mono (h:Dk w F db m) (hs: ∀k,F k->F' k):Dk w F' db m:=h.mv (Mv.sub hs)
theorem oJ.get (h:oJ w F db mb l m z) (n:ByteArray):m.get n=(getM n l).map nD.er:=by
 unfold DM.get;rw[h.fs];exact Z8 nD.er n l
theorem oJ.nodup (h:oJ w F db mb l m z):(l.map (·.1)).Nodup:=h.map.nodup
theorem oJ.len (h:oJ w F db mb l m z):m.fs.length=l.length:=by rw[h.fs,af]
theorem oJ.anP (h:oJ w F db mb l m z) (hX: ∀k,F k->X k) (c:dY (· =db) X w X' w') (hr:aH w' X' db [.map (some mb),I z',I m'.wr,I m'.ar,B m'.dn] 111) (OC:m'.fs=m.fs) (har:m'.ar<2^63):oJ w' F db mb l m' z':=by
 have mv: ∀{A:XS},(∀k,A k->F k/\k≠db)->Mv A w F w':=λhA k hk _=>⟨(hA k hk).1,c.block k (hX k (hA k hk).1) (hA k hk).2⟩;refine⟨OC.trans h.fs,⟨h.box.1,hr.2⟩,?_,λx hx=>?_,λx hx=>?_,h.ap,har,h.safe⟩
 ·exact h.map.own.mv mr (mv λk hk=>by subst hk;exact⟨h.map.x.1,h.map.eT h.box⟩) λ_ h=>h.elim
 ·exact(h.row x hx).own.mv (mv λk hk=>by subst hk;exact⟨(h.row x hx).1,(h.row x hx).eT h.box (by rfl)⟩)
 ·exact(h.ow x hx).tight.mv (mv λk hk=>⟨((h.ow x hx).bg hk).1,λe=>(h.ow x hx).eT h.box (by rfl) (e▸hk)⟩)
theorem aph {α:Type} {R:α->α->Prop} (hs: ∀a b,R a b->R b a) {l:List α} (h:l.Pairwise R) {x y:α} (hx:x∈l) (hy:y∈l) (cu:x≠y):R x y:=by
 induction l with
 |nil=>cases hx
 |cons a l ih=>
  have h':=List.pairwise_cons.1 h
  grind
theorem Jt: ∀a b:ByteArray×nD,apart a b->apart b a:=λa b h=>⟨Ne.symm h.1,λg hg mN=>h.2 g mN hg⟩
theorem oJ.Ov (h:oJ w F db mb l m z) (hn:getM n l=some f) {y:ByteArray×nD} (hy:y∈l) (cu:y.1≠n):apart (n,f) y:=
 aph Jt h.ap (gS hn) hy λe=>cu (by rw[<-e])
theorem oE.ids: ∀{es:List (jy ByteArray)} {l l':List (ByteArray×nD)},oE w A OP es l->l'.map (λx=>(x.1,x.2.b))=l.map (λx=>(x.1,x.2.b))->oE w A OP es l'
 |[],[],[],_,_=>trivial
 |[],[],_::_,_,h=>by cases h
 |e::es,x::l,[],_,h=>by cases h
 |e::es,x::l,y::l',⟨h1,h2,h3⟩,h=>by
  simp only[bh,B8,Prod.mk.injEq] at h;exact⟨h1.trans h.1.1.symm,by grind [OP],oE.ids h3 h.2⟩
 |[],_::_,_,h,_=>h.elim
 |_::_,[],_,h,_=>h.elim
theorem oJ.jX (h:oJ w F db mb l m z) (hX: ∀k,F k->X k/\k<w.heap.size) (c:dY G X w X' w') (hn:getM n l=some f) (hG: ∀k,G k->k=f.b\/f.v.ownBlock=some k) (Z9: ∀k,F k->F' k)
 {bs':List Nat} (hr:aH w' F' f.b [v',I s'] 153) (ho:Ow w' F' 5 1 v' (bs'.map U1)) (dc:v'.ownBlock=f.v.ownBlock\/ ∃g,v'.ownBlock=some g/\w.heap.size<=g) (hs:s'<=bs'.length):
    oJ w' F' db mb (cU n ⟨f.b,v',bs',s'⟩ l) (m.put n bs' s') z:=by
  have hf:=gS hn;have rf:=h.row _ hf;have of:=h.ow _ hf;have mv: ∀{A:XS},(∀k,A k->F k/\k≠f.b/\f.v.ownBlock≠some k)->Mv A w F' w':=λhA k hk _=>by
    obtain⟨a1,a2,a3⟩:=hA k hk;exact⟨Z9 k a1,c.block k (hX k a1).1 λhg=>(hG k hg).elim a2 a3⟩
  refine⟨?_,?_,?_,λx hx=>?_,λx hx=>?_,?_,h.ar,λx hx=>?_⟩
  · show cU n (bs',s') m.fs=_
    rw[h.fs,PX nD.er];rfl
  · exact h.box.own.mv (mv λk hk=>by subst hk;exact⟨h.box.1,(rf.eT h.box (by rfl)).symm,of.eT h.box (by rfl)⟩)
  · obtain⟨es,c',h1,h2⟩:=h.map.own.mv mr (mv λk hk=>by subst hk;exact⟨h.map.x.1,h.map.eT rf,h.map.aiO of⟩) (A':=nX) λ_ h=>h.elim
    refine⟨es,c',h1,oE.ids h2 (ai7 nD.b n ⟨f.b,v',bs',s'⟩ (λx hx e=>?_) (by rw[hn];rfl))⟩;have:getM n l=some x.2:=wI h.nodup gQ
    grind
  · rcases mV h.nodup hx with rfl|⟨hx,cu⟩
    · exact hr
    · have ha:=h.Ov hn hx cu
      exact(h.row x hx).own.mv (mv λk hk=>by subst hk;exact⟨(h.row x hx).1,ha.1.symm,of.eT (h.row x hx) (by rfl)⟩)
  · rcases mV h.nodup hx with rfl|⟨hx,cu⟩
    · exact ho
    · have ha:=h.Ov hn hx cu
      exact(h.ow x hx).tight.mv (mv λk hk=>⟨((h.ow x hx).bg hk).1,λe=>(h.ow x hx).eT rf (by rfl) (e▸hk),λe=>ha.2 k e hk⟩)
  · refine UZ h.nodup h.ap λy hy cu=>?_
    have ha:=h.Ov hn hy cu;have key:apart (n,⟨f.b,v',bs',s'⟩) y:=⟨ha.1,λg hg mN=>by
      rcases dc with e|⟨g',e,dC⟩
      · exact ha.2 g (e▸hg) mN
      · have:=(hX g ((h.ow y hy).bg mN).1).2
        grind⟩
    exact⟨key,Jt _ _ key⟩
  · rcases mV h.nodup hx with rfl|⟨hx,cu⟩
    · exact hs
    · exact h.safe x hx
theorem oJ.new (h:oJ w F db mb l m z) (hX: ∀k,F k->X k/\k<w.heap.size) (c:dY G X w X' w') (hn:getM n l=none) (hG: ∀k,G k->k=mb) (Z9: ∀k,F k->F' k) {b:Nat} (hb:w.heap.size<=b)
  (hm:dS w' F' nX mb aP OP (cU n ⟨b,.slice none 0 0,[],0⟩ l)) (hr:aH w' F' b [.slice none 0 0,I (0:Nat)] 153):
  oJ w' F' db mb (cU n ⟨b,.slice none 0 0,[],0⟩ l) (m.put n [] 0) z:=by
 have mv: ∀{A:XS},(∀k,A k->F k/\k≠mb)->Mv A w F' w':=λhA k hk _=>by
  obtain⟨a1,a2⟩:=hA k hk;exact⟨Z9 k a1,c.block k (hX k a1).1 λhg=>a2 (hG k hg)⟩
 refine⟨?_,?_,hm,λx hx=>?_,λx hx=>?_,?_,h.ar,λx hx=>?_⟩
 ·show cU n ([],0) m.fs=_
  rw[h.fs,PX nD.er];rfl
 ·exact h.box.own.mv (mv λk hk=>by subst hk;exact⟨h.box.1,(h.map.eT h.box).symm⟩)
 ·rcases mV h.nodup hx with rfl|⟨hx,cu⟩
  ·exact hr
  ·exact(h.row x hx).own.mv (mv λk hk=>by subst hk;exact⟨(h.row x hx).1,(h.map.eT (h.row x hx)).symm⟩)
 ·rcases mV h.nodup hx with rfl|⟨hx,cu⟩
  ·exact Ow.nil _ _ _ _
  ·exact(h.ow x hx).tight.mv (mv λk hk=>⟨((h.ow x hx).bg hk).1,λe=>h.map.aiO (h.ow x hx) (e▸hk)⟩)
 ·refine UZ h.nodup h.ap λy hy cu=>?_;have key:apart (n,⟨b,.slice none 0 0,[],0⟩) y:=⟨λe=>by
   have:=(hX _ (h.row y hy).1).2
   grind,λg hg=>by cases hg⟩
  grind [Jt]
 ·rcases mV h.nodup hx with rfl|⟨hx,cu⟩
  ·grind
  ·exact h.safe x hx
theorem oJ.less (h:oJ w F db mb l m z) (hX: ∀k,F k->X k) (c:dY (· =mb) X w X' w') (hm:dS w' X' nX mb aP OP (kq n l)):oJ w' F db mb (kq n l) (m.del n) z:=by
 have mv: ∀{A:XS},(∀k,A k->F k/\k≠mb)->Mv A w F w':=λhA k hk _=>⟨(hA k hk).1,c.block k (hX k (hA k hk).1) (hA k hk).2⟩;have qv: ∀x∈kq n l,x∈l:=λx hx=>(List.mem_filter.1 hx).1;refine⟨?_,?_,?_,λx hx=>?_,λx hx=>?_,h.ap.filter _,h.ar,λx hx=>h.safe x (qv x hx)⟩
 ·show kq n m.fs=_
  rw[h.fs,ai6 nD.er]
 ·exact h.box.own.mv (mv λk hk=>by subst hk;exact⟨h.box.1,(h.map.eT h.box).symm⟩)
 ·obtain⟨es,c',h1,h2⟩:=hm;exact⟨es,c',⟨h.map.x.1,h1.2⟩,h2⟩
 ·exact(h.row x (qv x hx)).own.mv (mv λk hk=>by subst hk;exact⟨(h.row x (qv x hx)).1,(h.map.eT (h.row x (qv x hx))).symm⟩)
 ·exact(h.ow x (qv x hx)).tight.mv (mv λk hk=>⟨((h.ow x (qv x hx)).bg hk).1,λe=>h.map.aiO (h.ow x (qv x hx)) (e▸hk)⟩)
end
def FX (F X:XS) (w:World):Prop:= ∀k,F k->X k/\k<w.heap.size
theorem FX.kp (h:FX F X w) (hk:Kp X w wa):FX F (bP wa) wa:=λk ah=>⟨aw (h k ah).2 hk.size,aw (h k ah).2 hk.size⟩
def FX.mv (h:FX F X w) (hk:Kp X w wa):Mv F w F wa:=λk ah _=>⟨ah,hk.block k (h k ah).1⟩
def FX.ft (h:FX F X w) (hk:Kp X w wa):Ft wa F wa (bP wa) F:=Ft.init λk ah=>(h.kp hk k ah).1
def _root_.Go.aK.Ft.fx {F0:XS} (h:Ft w0 F0 w X F) (hG: ∀k,G k->F k):FX G X w:=λk hk=>⟨h.bg k (hG k hk),h.s.has k (h.bg k (hG k hk))⟩
end Go.Proofs.YtgfijddlkhkopaaGreat