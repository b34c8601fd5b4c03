/-
 Part 5 of the proof: what the last text leans on.
-/
import Derived.Test.YtgfijddlkhkopaaGreatRows
import Derived.WalkKit
import Derived.ProofKit
import Derived.Deep.Slices
import Derived.Carry
import Derived.Test.YtgfijddlkhkopaaGreatH4
open Go.DataW renaming trod → rO, trod_int → Dy
open List renaming range → dD, getElem?_eq_getElem → aU, getElem?_cons_zero → j6
open Nat renaming le_trans → ad
open Bool renaming and_eq_true → aD
open Option.some renaming injEq → ah
namespace Go.Proofs.YtgfijddlkhkopaaGreat
open Go.Proofs.Tryz renaming prog → pg
open Go.aG
set_option maxRecDepth 100000
set_option maxHeartbeats 4000000
set_option linter.unusedVariables false
set_option linter.unusedSimpArgs false
variable {k : Nat}
theorem UQ {α:Type} [Inhabited α] {enc:α->List Value} (hk: ∀x,(enc x).length=k) (h0:0<k): ∀(l:List α) (t:Nat),t<l.length*k->((l.map enc).flatten)[t]? =some ((enc l[t/k]!)[t % k]!)
 |[],t,h=>by simp at h
 |x::l,t,h=>by
  rw[List.map_cons,List.flatten_cons];by_cases ht:t<k
  ·rw[List.getElem?_append_left gQ,Nat.div_eq_of_lt ht,Nat.mod_eq_of_lt ht];simp_all
  ·obtain⟨s,rfl⟩: ∃s,t=s+k:=⟨t-k,by omega⟩;rw[List.getElem?_append_right gQ,hk,Nat.add_sub_cancel,Nat.add_div_right _ h0,Nat.add_mod_right];have hs:s<l.length*k:=by rw[List.length_cons,Nat.succ_mul] at h;omega
   rw[UQ hk h0 l s hs];simp
class Wt (α:Type) where
 wt:α->Nat
 pos: ∀a,1<=wt a
instance:Wt Int:=⟨λ_=>1,λ_=>Nat.le_refl _⟩
def ZN (n:Nat):Nat:=if n<18446744073709551616 then 1 else 1073741824
theorem aiA (n:Nat):1<=ZN n:=by unfold ZN;grind
instance:Wt Nat:=⟨ZN,aiA⟩
instance:Wt Bool:=⟨λ_=>1,λ_=>Nat.le_refl _⟩
instance:Wt BA:=⟨λs=>s.size+1,λ_=>by omega⟩
instance {α:Type} [Wt α]:Wt (List α):=⟨λl=>(l.map Wt.wt).sum+1,λ_=>by omega⟩
theorem afW {α:Type} [Wt α]: ∀l:List α,l.length<=(l.map Wt.wt).sum
 |[]=>by simp
 |x::l=>by have:=afW l;have:=Wt.pos x;simp;omega
theorem FI {α:Type} [Wt α] {x:α} : ∀{l:List α},x∈l->Wt.wt x<=(l.map Wt.wt).sum
 |y::l,h=>by
  rcases List.mem_cons.1 h with rfl|h
  ·simp
  ·have:=FI h;simp;omega
def nL {α:Type} [Wt α] (t:TypeId) (rd:World->XS->List Value->α->Prop):Prop:=
 ∀(H:Type) (enc:TypeId×Value->H) (W:World) (fuel:Nat) (cs:List Value) (x:DataW H×List MemPlace),rO enc pg W 0 (λ_=>true) true fuel t cs=some x-> ∃a,rd W (bV W) cs a/\Wt.wt a<=Rows.uptoBulk x.1
variable {H : Type}
theorem Cz (d:DataW H):1<=Rows.uptoBulk d:=by
 cases d with
 |lit l=>cases l<;>simp[Rows.uptoBulk]
 |nil=>simp[Rows.uptoBulk]
 |ptr d=>simp[Rows.uptoBulk]
 |slice elems spare=>simp[Rows.uptoBulk]
 |agg parts=>simp[Rows.uptoBulk]
 |iface t d=>simp[Rows.uptoBulk]
 |map entries=>simp[Rows.uptoBulk]
 |held h=>simp[Rows.uptoBulk]
abbrev rdI:World->XS->List Value->Int->Prop:=λ_ _ cs n=>cs=[I n]
abbrev anc:World->XS->List Value->Nat->Prop:=λ_ _ cs n=>cs=[.float .f64 n]
abbrev rdB:World->XS->List Value->Bool->Prop:=λ_ _ cs n=>cs=[B n]
abbrev rdS:World->XS->List Value->BA->Prop:=λ_ _ cs n=>cs=[.string n]
abbrev Iw {α:Type} (k:Nat) (rd:World->XS->List Value->α->Prop):World->XS->List Value->List α->Prop:=λw X cs xs=> ∃v,cs=[v]/\eQ w X k v rd xs
variable {t : TypeId}
theorem afV (ht:pg.underlying t=some (.int .i64)):nL t rdI:=λH enc W fuel cs x h=>by
 obtain⟨n,rfl,rfl,_⟩:=Dy ht h;exact⟨n,rfl,Cz _⟩
theorem aiB (ht:pg.underlying t=some (.float .f64)):nL t anc:=λH enc W fuel cs x h=>by
 cases fuel with
 |zero=>simp[rO] at h
 |succ n=>
  unfold rO at h;rw[ht] at h;split at h<;>simp_all
  obtain⟨⟨h1,h2⟩,h3⟩:=h;rename_i kk _ b he;subst he;have hb:b<18446744073709551616:=by simpa [Lit.wf] using h2
  show ZN b<=_
  unfold ZN;rw[if_pos hb];exact Cz _
theorem akK (ht:pg.underlying t=some .bool):nL t rdB:=λH enc W fuel cs x h=>by
 obtain⟨n,rfl,rfl⟩:=DataW.trod_bool ht h;exact⟨n,rfl,Cz _⟩
theorem ane (ht:pg.underlying t=some .string):nL t rdS:=λH enc W fuel cs x h=>by
 obtain⟨s,rfl,rfl,_⟩:=DataW.trod_string ht h;refine⟨s,rfl,?_⟩
 show s.size+1<=s.data.toList.length+1
 simp_all
theorem agc {α:Type} [Wt α] (f:Nat->α) (D:Nat->DataW H): ∀l:List Nat,(∀i∈l,Wt.wt (f i)<=Rows.uptoBulk (D i))->((l.map f).map Wt.wt).sum<=Rows.uptoBulkAll (l.map D)
 |[],_=>by simp
 |i::l,h=>by
  have h1:=agc f D l λj hj=>h j (List.mem_cons_of_mem _ hj);have h2:=h i sQ;simp only[List.map_cons,List.sum_cons,Rows.uptoBulkAll];omega
variable {cs : List Value} {W : World}
theorem UR {a:Addr} (h:W.cells? 0 a k=some cs):cs.length=k/\ ∀j v,cs[j]? =some v->W.cell? (a.add j)=some v:=by
 unfold World.cells? at h;rw[if_pos (Nat.zero_le _)] at h;have key: ∀(l:List Nat) (cs:List Value),(l.mapM (m:=Option) λi=>W.cell? (a.add i))=some cs->cs.length=l.length/\ ∀(j:Nat) (v:Value),cs[j]? =some v-> ∃i:Nat,l[j]? =some i/\W.cell? (a.add i)=some v:=by
  intro l
  induction l with
  |nil=>grind
  |cons i l ih=>
   intro cs h;simp only[List.mapM_cons,Option.bind_eq_bind,Option.bind_eq_some_iff,Option.pure_def,ah] at h;obtain⟨v,hv,vs,UC,rfl⟩:=h;obtain⟨h1,h2⟩:=ih vs UC;refine⟨by simp[h1],λj u hj=>?_⟩;cases j with
   |zero=>simp only[j6,ah] at hj;subst hj;exact⟨i,rfl,hv⟩
   |succ j=>simpa using h2 j u aQ
 obtain⟨h1,h2⟩:=key _ _ h;refine⟨by grind,λj v hj=>?_⟩;obtain⟨i,hi,hc⟩:=h2 j v hj;have:i=j:=by
  rw[List.getElem?_range (by simpa using (List.getElem?_eq_some_iff.1 hi).1)] at hi;simpa using hi.symm
 grind
theorem ZO (b o n:Nat):(⟨b,o,none⟩:Addr).add n=⟨b,o+n,none⟩:=by grind [Addr.add]
theorem qI {α:Type} [Wt α] {t e:Nat} {rd:World->XS->List Value->α->Prop} (ht:pg.underlying t=some (.slice e)) (hk:pg.cellsOf e=k) (h0:0<k) (he:nL e rd):nL t (Iw k rd):=λH enc W fuel cs x h=>by
 rcases Go.Deep.open_slice ht h with⟨rfl,rfl⟩|⟨a,len,cap,m,n,D,Pl,rfl,_,hlc,iF,hm,rfl,Ma⟩
 ·exact⟨[],⟨_,rfl,eQ.nil _ _ _⟩,Cz _⟩
 ·rw[hk] at Ma;have TQ:m=cap:=by simpa using hm
  have acb: ∀i,i<len-> ∃(p:List Value×α),W.cells? 0 (a.add (i*k)) k=some p.1/\rd W (bV W) p.1 p.2/\Wt.wt p.2<=Rows.uptoBulk (D i):=λi hi=>by
   obtain⟨qe,h1,h2⟩:=Ma i zQ;obtain⟨b,h3,h4⟩:=he H enc W n qe _ h2;exact⟨⟨qe,b⟩,h1,h3,h4⟩
  by_cases hl0:len=0
  ·subst hl0;refine⟨[],⟨_,rfl,[],⟨by simp,by simp,some a,cap,rfl,by simp,by simp,by simp,ad iF dQ⟩,rfl,by simp⟩,Cz _⟩
  obtain⟨p0,_⟩:=acb 0 zQ;have:Inhabited (List Value×α):=⟨p0⟩;obtain⟨f,hf⟩:=Go.Deep.choose_lt acb
  let row:Nat->List Value:=λi=>if i<len then(f i).1 else List.replicate k undef
  have bo: ∀i,(row i).length=k:=λi=>by
   show(if i<len then(f i).1 else List.replicate k undef).length=k
   split
   ·exact(UR (hf i zQ).1).1
   ·simp
  have Em: ∀i,i<len->row i=(f i).1:=λi hi=>if_pos hi;obtain⟨b,o,wX,c,ty,fr,hb,hc⟩: ∃b o,a=⟨b,o,none⟩/\ ∃c ty fr,W.heap[b]? =some (.cells c ty fr)/\ ∀i,i<len-> ∀j v,(row i)[j]? =some v->c[o+(i*k+j)]? =some v:=by
   obtain⟨b,o,sp⟩:=a;have h1: ∀i,i<len-> ∀j v,(row i)[j]? =some v->W.cell? (((⟨b,o,sp⟩:Addr).add (i*k)).add j)=some v:=λi hi j v hj=>by
    rw[Em i hi] at hj;exact(UR (hf i hi).1).2 j v hj
   have hj: ∃v,(row 0)[0]? =some v:=⟨_,aU (by rw[bo];exact h0)⟩;obtain⟨v,hv⟩:=hj;have h2:=h1 0 zQ 0 v hv;rw[Nat.zero_mul] at h2;change W.cell? ⟨b,o,sp⟩=some v at h2;unfold World.cell? at h2;split at h2
   ·rename_i c ty fr hb;have Gm:sp=none:=by
     cases sp with
     |none=>rfl
     |some s=>simp at h2
    subst Gm;refine⟨b,o,rfl,c,ty,fr,hb,λi hi j v hj=>?_⟩;have h3:=h1 i hi j v hj;rw[ZO,ZO] at h3;unfold World.cell? at h3;rw[hb] at h3;simpa [Nat.add_assoc] using h3
   ·cases h2
  subst wX;have cC:b<W.heap.size:=(Array.getElem?_eq_some_iff.1 hb).1;refine⟨(dD len).map λi=>(f i).2,⟨_,rfl,(dD len).map row,⟨?_,?_,some ⟨b,o,none⟩,cap,?_,λ_=>⟨b,o,rfl,cC,c,ty,fr,hb,λj v hj=>?_⟩,by simp,by simpa using hlc,ad iF dQ⟩,by simp,?_⟩,?_⟩
  ·intro r hr;obtain⟨i,_,rfl⟩:=List.mem_map.1 hr;exact bo i
  ·have:cap<=2^63-1:=ad iF dQ;simp;omega
  ·simp
  ·have Ec:j<len*k:=by
    have h1:=(List.getElem?_eq_some_iff.1 hj).1;rw[lU (k:=k) (by intro r hr;obtain⟨i,_,rfl⟩:=List.mem_map.1 hr;exact bo i)] at h1;simpa using h1
   have h2:=UQ bo h0 (dD len) j (by simpa using Ec);rw[hj] at h2;have hd:j/k<len:=by rw[Nat.div_lt_iff_lt_mul h0];exact Ec
   have asn:j % k<k:=Nat.mod_lt _ h0;have hr:(dD len)[j/k]! =j/k:=by simp[hd]
   rw[hr] at h2;have hv:(row (j/k))[j % k]? =some v:=by
    rw[aU (by rw[bo];omega)];rw[getElem!_pos (row (j/k)) (j % k) (by rw[bo];omega)] at h2;exact h2.symm
   have:=hc (j/k) hd (j % k) v hv;rw[Nat.mul_comm,Nat.div_add_mod] at this;omega
  ·intro i r x hr hx;simp only[List.getElem?_map,Option.map_eq_some_iff] at hr hx;obtain⟨i1,h1,rfl⟩:=hr;obtain⟨i2,h2,rfl⟩:=hx;rw[h1] at h2;cases h2;have Ql:i1<len:=List.mem_range.1 (List.mem_of_getElem? h1);rw[Em i1 Ql];exact(hf i1 Ql).2.1
  ·have:=agc (λi=>(f i).2) D (dD len) λi hi=>(hf i (List.mem_range.1 hi)).2.2
   show((((dD len).map λi=>(f i).2).map Wt.wt).sum+1)<=_
   simp only[Rows.uptoBulk];omega
theorem _root_.Go.aG.eQ.xg {α:Type} {w:World} {X:XS} {v:Value} {enc:α->List Value} {xs:List α} (h:eQ w X k v (λ_ _ l x=>l=enc x) xs):Sl w X k v (xs.map enc):=by
 obtain⟨rows,h1,h2,h3⟩:=h;have:rows=xs.map enc:=by
  apply List.ext_getElem gQ;intro i hi hj;have hx:i<xs.length:=by simpa using hj
  have:=h3 i rows[i] xs[i] (aU hi) (aU hx);simpa using this
 grind
def aeu (P:Program):List Field->Nat->Bool
 |[],_=>true
 |f::l,o=>f.offset==o&&aeu P l (o+P.cellsOf f.type)
def ZP (P:Program) (t:TypeId) (UN:List TypeId):Bool:=match P.underlying t with
 |some (.struct fs)=>fs.toList.map (·.type)==UN&&aeu P fs.toList 0&&P.cellsOf t==(UN.map P.cellsOf).sum
 |_=>false
def ZQ {H:Type} (enc:TypeId×Value->H) (W:World) (n:Nat):List TypeId->List Value->List (DataW H)->Prop
 |[],cs,ds=>cs=[]/\ds=[]
 |t::ts,cs,ds=> ∃c1 c2 d ps OT,cs=c1++c2/\ds=d::OT/\rO enc pg W 0 (λ_=>true) true n t c1=some (d,ps)/\ZQ enc W n ts c2 OT
variable {n : Nat}
theorem ab2 {enc:TypeId×Value->H} : ∀(l:List Field) (xs:List (DataW H×List MemPlace)) (o:Nat),aeu pg l o=true->cs.length=o+((l.map (·.type)).map pg.cellsOf).sum->
  xs.length=l.length->(∀(i:Nat) (f:Field),l[i]? =some f->rO enc pg W 0 (λ_=>true) true n f.type ((cs.drop f.offset).take (pg.cellsOf f.type))=xs[i]?)->ZQ enc W n (l.map (·.type)) (cs.drop o) (xs.map (·.1))
 |[],[],o,_,hl,_,_=>⟨List.drop_of_length_le gQ,rfl⟩
 |[],x::xs,o,_,_,hx,_=>by simp at hx
 |f::l,[],o,_,_,hx,_=>by simp at hx
 |f::l,x::xs,o,ho,hl,hx,h=>by
  simp only[aeu,aD,beq_iff_eq] at ho;obtain⟨uT,lv⟩:=ho;have h0:=h 0 f rfl;simp only[j6] at h0;refine⟨(cs.drop o).take (pg.cellsOf f.type),cs.drop (o+pg.cellsOf f.type),x.1,x.2,xs.map (·.1),?_,rfl,?_,?_⟩
  ·rw[<-List.drop_drop,List.take_append_drop]
  ·grind
  ·refine ab2 l xs _ lv ?_ gQ λi g hg=>?_
   ·grind
   ·have:=h (i+1) g aQ;assumption
theorem jt (UN:List TypeId) (nk:ZP pg t UN=true) {enc:TypeId×Value->H} {fuel:Nat} {x:DataW H×List MemPlace}
  (h:rO enc pg W 0 (λ_=>true) true fuel t cs=some x): ∃n ds,x.1= .agg ds/\ZQ enc W n UN cs ds:=by
 unfold ZP at nk;split at nk
 ·rename_i fs OJ;simp only[aD,beq_iff_eq] at nk;obtain⟨⟨rfl,h2⟩,h3⟩:=nk;obtain⟨xs,n,_,rfl,hl,hx,hf⟩:=DataW.trod_struct OJ h;refine⟨n,_,rfl,?_⟩;have:=ab2 (cs:=cs) (enc:=enc) (W:=W) (n:=n) fs.toList xs 0 h2 zQ zQ λi f hi=>hf i f gQ;assumption
 ·cases nk
theorem bI {α:Type} [Wt α] {ts:List TypeId} {rd:World->XS->List Value->α->Prop} (hr:nL t rd) {enc:TypeId×Value->H} {ds:List (DataW H)} (h:ZQ enc W n (t::ts) cs ds):
  ∃c1 c2 d OT a,cs=c1++c2/\ds=d::OT/\rd W (bV W) c1 a/\Wt.wt a<=Rows.uptoBulk d/\ZQ enc W n ts c2 OT:=by
 obtain⟨c1,c2,d,ps,OT,rfl,rfl,h1,h2⟩:=h;obtain⟨a,h3,h4⟩:=hr H enc W n c1 _ h1;exact⟨c1,c2,d,OT,a,rfl,rfl,h3,h4,h2⟩
instance:Wt bN:=⟨λx=>4,λ_=>by omega⟩
def PQ (n:Int):Prop:= -9223372036854775808<=n/\n<9223372036854775808
instance (n:Int):Decidable (PQ n):=by unfold PQ;infer_instance
def Y9 (x:bH):Nat:=if PQ x.dX/\PQ x.ba/\PQ x.sq then 4 else 1073741824
theorem SQ (x:bH):4<=Y9 x:=by unfold Y9;grind
instance:Wt bH:=⟨Y9,λx=>ad dQ (SQ x)⟩
abbrev aqM:World->XS->List Value->Int->Prop:=λ_ _ cs n=>cs=[I n]/\PQ n
theorem Nt:nL 3 aqM:=λH enc W fuel cs x h=>by
 have ht:pg.underlying 3=some (.int .i64):=by kernel_rfl
 obtain⟨n,e,e2,hw⟩:=Dy ht h;subst e;refine⟨n,⟨rfl,?_⟩,Cz _⟩;simp only[Lit.wf,aD,decide_eq_true_eq] at hw;have h1:IntKind.i64.min= -9223372036854775808:=by kernel_rfl
 have h2:IntKind.i64.max=9223372036854775807:=by kernel_rfl
 grind [PQ]
abbrev akL:World->XS->List Value->bN->Prop:=λ_ _ cs x=>cs=x.l
abbrev aoP:World->XS->List Value->bH->Prop:=λ_ _ cs x=>cs=x.l
theorem oA:nL 3 rdI:=afV kQ
theorem JA:nL 46 anc:=aiB kQ
theorem abV:nL 4 rdB:=akK kQ
theorem FH:nL 9 rdS:=ane kQ
theorem vI:nL 39 akL:=λH enc W fuel cs x h=>by
 obtain⟨n,ds,hx,hf⟩:=jt [3,3,3] kQ h;obtain⟨_,_,_,_,a1,rfl,rfl,rfl,w1,hf⟩:=bI oA hf;obtain⟨_,_,_,_,a2,rfl,rfl,rfl,w2,hf⟩:=bI oA hf;obtain⟨_,_,_,_,a3,rfl,rfl,rfl,w3,rfl,rfl⟩:=bI oA hf;refine⟨⟨a1,a2,a3⟩,rfl,?_⟩;rw[hx];simp only[Rows.uptoBulk,Rows.uptoBulkAll,Wt.wt] at*;omega
theorem Y1:nL 34 aoP:=λH enc W fuel cs x h=>by
 obtain⟨n,ds,hx,hf⟩:=jt [3,3,3] kQ h;obtain⟨_,_,_,_,a1,rfl,rfl,⟨rfl,q1⟩,w1,hf⟩:=bI Nt hf;obtain⟨_,_,_,_,a2,rfl,rfl,⟨rfl,q2⟩,w2,hf⟩:=bI Nt hf;obtain⟨_,_,_,_,a3,rfl,rfl,⟨rfl,q3⟩,w3,rfl,rfl⟩:=bI Nt hf;refine⟨⟨a1,a2,a3⟩,rfl,?_⟩;have e:Wt.wt (⟨a1,a2,a3⟩:bH)=4:=if_pos ⟨q1,q2,q3⟩;rw[hx,e];simp only[Rows.uptoBulk,Rows.uptoBulkAll,Wt.wt] at*;omega
instance:Wt gJ:=⟨λx=>Wt.wt x.kind+Wt.wt x.num+Wt.wt x.text+1,λ_=>by omega⟩
theorem Mr:nL 97 (λ_ _ cs (x:gJ)=>cs=x.l):=λH enc W fuel cs x h=>by
 obtain⟨n,ds,hx,hf⟩:=jt [3,46,9] kQ h;obtain⟨_,_,_,_,a0,rfl,rfl,rfl,w0,hf⟩:=bI oA hf;obtain⟨_,_,_,_,a1,rfl,rfl,rfl,w1,hf⟩:=bI JA hf;obtain⟨_,_,_,_,a2,rfl,rfl,rfl,w2,rfl,rfl⟩:=bI FH hf;refine⟨⟨a0,a1,a2⟩,rfl,?_⟩;rw[hx];simp only[Rows.uptoBulk,Rows.uptoBulkAll,Wt.wt] at*;omega
instance:Wt KV:=⟨λx=>Wt.wt x.key+Wt.wt x.val+1,λ_=>by omega⟩
theorem aoQ:nL 178 (λ_ _ cs (x:KV)=>cs=x.l):=λH enc W fuel cs x h=>by
 obtain⟨n,ds,hx,hf⟩:=jt [9,97] kQ h;obtain⟨_,_,_,_,a0,rfl,rfl,rfl,w0,hf⟩:=bI FH hf;obtain⟨_,_,_,_,a1,rfl,rfl,rfl,w1,rfl,rfl⟩:=bI Mr hf;refine⟨⟨a0,a1⟩,rfl,?_⟩;rw[hx];simp only[Rows.uptoBulk,Rows.uptoBulkAll,Wt.wt] at*;omega
theorem Y2:nL 42 (Iw 4 (λ_ _ cs (x:KV)=>cs=x.l)):=qI kQ kQ dQ aoQ
theorem anf:nL 211 (λ_ _ cs (x:KV)=>cs=x.l):=λH enc W fuel cs x h=>by
 obtain⟨n,ds,hx,hf⟩:=jt [9,97] kQ h;obtain⟨_,_,_,_,a0,rfl,rfl,rfl,w0,hf⟩:=bI FH hf;obtain⟨_,_,_,_,a1,rfl,rfl,rfl,w1,rfl,rfl⟩:=bI Mr hf;refine⟨⟨a0,a1⟩,rfl,?_⟩;rw[hx];simp only[Rows.uptoBulk,Rows.uptoBulkAll,Wt.wt] at*;omega
theorem akM:nL 71 (Iw 4 (λ_ _ cs (x:KV)=>cs=x.l)):=qI kQ kQ dQ anf
instance:Wt pQ:=⟨λx=>Wt.wt x.aV+Wt.wt x.val+1,λ_=>by omega⟩
theorem ang:nL 304 (λ_ _ cs (x:pQ)=>cs=x.l):=λH enc W fuel cs x h=>by
 obtain⟨n,ds,hx,hf⟩:=jt [39,97] kQ h;obtain⟨_,_,_,_,a0,rfl,rfl,rfl,w0,hf⟩:=bI vI hf;obtain⟨_,_,_,_,a1,rfl,rfl,rfl,w1,rfl,rfl⟩:=bI Mr hf;refine⟨⟨a0,a1⟩,rfl,?_⟩;rw[hx];simp only[Rows.uptoBulk,Rows.uptoBulkAll,Wt.wt] at*;omega
theorem adZ:nL 40 (Iw 1 rdS):=qI kQ kQ dQ FH
theorem akN:nL 300 (Iw 6 (λ_ _ cs (x:pQ)=>cs=x.l)):=qI kQ kQ dQ ang
theorem ad0:nL 43 (Iw 1 rdI):=qI kQ kQ dQ oA
instance:Wt kJ:=⟨λx=>Wt.wt x.key+Wt.wt x.mZ+1,λ_=>by omega⟩
theorem akO:nL 302 kJ.rd:=λH enc W fuel cs x h=>by
 obtain⟨n,ds,hx,hf⟩:=jt [9,300] kQ h;obtain⟨_,_,_,_,a0,rfl,rfl,rfl,w0,hf⟩:=bI FH hf;obtain⟨_,_,_,_,a1,rfl,rfl,⟨v1,rfl,r1⟩,w1,rfl,rfl⟩:=bI akN hf;refine⟨⟨a0,a1⟩,⟨v1,rfl,r1.xg⟩,?_⟩;rw[hx];simp only[Rows.uptoBulk,Rows.uptoBulkAll,Wt.wt] at*;omega
theorem aiC:nL 49 (Iw 2 kJ.rd):=qI kQ kQ dQ akO
instance:Wt gr:=⟨λx=>Wt.wt x.aR+Wt.wt x.aV+Wt.wt x.reads+Wt.wt x.writes+1,λ_=>by omega⟩
theorem akP:nL 306 gr.rd:=λH enc W fuel cs x h=>by
 obtain⟨n,ds,hx,hf⟩:=jt [34,39,40,42] kQ h;obtain⟨_,_,_,_,a0,rfl,rfl,rfl,w0,hf⟩:=bI Y1 hf;obtain⟨_,_,_,_,a1,rfl,rfl,rfl,w1,hf⟩:=bI vI hf;obtain⟨_,_,_,_,a2,rfl,rfl,⟨v2,rfl,r2⟩,w2,hf⟩:=bI adZ hf;obtain⟨_,_,_,_,a3,rfl,rfl,⟨v3,rfl,r3⟩,w3,rfl,rfl⟩:=bI Y2 hf;refine⟨⟨a0,a1,a2,a3⟩,⟨v2,v3,rfl,r2.xg,r3.xg⟩,?_⟩;rw[hx];simp only[Rows.uptoBulk,Rows.uptoBulkAll,Wt.wt] at*;omega
theorem aiD:nL 50 (Iw 8 gr.rd):=qI kQ kQ dQ akP
instance:Wt eI:=⟨λx=>Wt.wt x.id+Wt.wt x.iC+Wt.wt x.lo+Wt.wt x.hi+1,λ_=>by omega⟩
theorem afU:nL 48 (λ_ _ cs (x:eI)=>cs=x.l):=λH enc W fuel cs x h=>by
 obtain⟨n,ds,hx,hf⟩:=jt [3,3,46,46] kQ h;obtain⟨_,_,_,_,a0,rfl,rfl,rfl,w0,hf⟩:=bI oA hf;obtain⟨_,_,_,_,a1,rfl,rfl,rfl,w1,hf⟩:=bI oA hf;obtain⟨_,_,_,_,a2,rfl,rfl,rfl,w2,hf⟩:=bI JA hf;obtain⟨_,_,_,_,a3,rfl,rfl,rfl,w3,rfl,rfl⟩:=bI JA hf;refine⟨⟨a0,a1,a2,a3⟩,rfl,?_⟩;rw[hx];simp only[Rows.uptoBulk,Rows.uptoBulkAll,Wt.wt] at*;omega
instance:Wt State:=⟨λx=>Wt.wt x.range+Wt.wt x.floor+Wt.wt x.closed+Wt.wt x.iD+Wt.wt x.hU+1,λ_=>by omega⟩
theorem Y3:nL 52 State.rd:=λH enc W fuel cs x h=>by
 obtain⟨n,ds,hx,hf⟩:=jt [48,39,39,49,50] kQ h;obtain⟨_,_,_,_,a0,rfl,rfl,rfl,w0,hf⟩:=bI afU hf;obtain⟨_,_,_,_,a1,rfl,rfl,rfl,w1,hf⟩:=bI vI hf;obtain⟨_,_,_,_,a2,rfl,rfl,rfl,w2,hf⟩:=bI vI hf;obtain⟨_,_,_,_,a3,rfl,rfl,⟨v3,rfl,r3⟩,w3,hf⟩:=bI aiC hf;obtain⟨_,_,_,_,a4,rfl,rfl,⟨v4,rfl,r4⟩,w4,rfl,rfl⟩:=bI aiD hf;refine⟨⟨a0,a1,a2,a3,a4⟩,⟨v3,v4,rfl,r3,r4⟩,?_⟩;rw[hx];simp only[Rows.uptoBulk,Rows.uptoBulkAll,Wt.wt] at*;omega
instance:Wt Rec:=⟨λx=>Wt.wt x.kind+Wt.wt x.aR+Wt.wt x.aV+Wt.wt x.prev+Wt.wt x.jJ+Wt.wt x.n+Wt.wt x.tZ+Wt.wt x.reads+Wt.wt x.writes+Wt.wt x.parts+Wt.wt x.xd+Wt.wt x.state+1,λ_=>by omega⟩
theorem aml:nL 73 Rec.rd:=λH enc W fuel cs x h=>by
 obtain⟨n,ds,hx,hf⟩:=jt [3,34,39,39,4,3,46,40,42,43,71,52] kQ h;obtain⟨_,_,_,_,a0,rfl,rfl,rfl,w0,hf⟩:=bI oA hf;obtain⟨_,_,_,_,a1,rfl,rfl,rfl,w1,hf⟩:=bI Y1 hf;obtain⟨_,_,_,_,a2,rfl,rfl,rfl,w2,hf⟩:=bI vI hf;obtain⟨_,_,_,_,a3,rfl,rfl,rfl,w3,hf⟩:=bI vI hf;obtain⟨_,_,_,_,a4,rfl,rfl,rfl,w4,hf⟩:=bI abV hf;obtain⟨_,_,_,_,a5,rfl,rfl,rfl,w5,hf⟩:=bI oA hf;obtain⟨_,_,_,_,a6,rfl,rfl,rfl,w6,hf⟩:=bI JA hf;obtain⟨_,_,_,_,a7,rfl,rfl,⟨v7,rfl,r7⟩,w7,hf⟩:=bI adZ hf;obtain⟨_,_,_,_,a8,rfl,rfl,⟨v8,rfl,r8⟩,w8,hf⟩:=bI Y2 hf;obtain⟨_,_,_,_,a9,rfl,rfl,⟨v9,rfl,r9⟩,w9,hf⟩:=bI ad0 hf;obtain⟨_,_,_,_,a10,rfl,rfl,⟨v10,rfl,r10⟩,OM,hf⟩:=bI akM hf;obtain⟨_,_,_,_,a11,rfl,rfl,⟨vh,vp,rfl,aqN,aqO⟩,w11,rfl,rfl⟩:=bI Y3 hf;refine⟨⟨a0,a1,a2,a3,a4,a5,a6,a7,a8,a9,a10,a11⟩,⟨v7,v8,v9,v10,vh,vp,rfl,r7.xg,r8.xg,r9.xg,r10.xg,aqN,aqO⟩,?_⟩;rw[hx];simp only[Rows.uptoBulk,Rows.uptoBulkAll,Wt.wt] at*;omega
end Go.Proofs.YtgfijddlkhkopaaGreat