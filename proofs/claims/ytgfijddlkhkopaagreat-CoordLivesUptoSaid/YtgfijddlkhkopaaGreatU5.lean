/- Part 5 of the proof. -/
import Derived.Test.YtgfijddlkhkopaaGreatRows
import Derived.WalkKit
import Derived.ProofKit
import Derived.Deep.Slices
import Derived.Carry
import Derived.Test.YtgfijddlkhkopaaGreatChecked
import Derived.OpenShut
import Derived.JoinedCond
import Derived.Test.YtgfijddlkhkopaaGreatU4
set_option linter.all false
open Nat renaming le_trans → ad, zero_le → aq, lt_of_lt_of_le → av, mod_eq_of_lt → fu, div_lt_iff_lt_mul → xg
open BitVec renaming ofInt → aC
open List renaming append_assoc → ao, map_cons → bm, range → dx, find?_cons → fM, mem_of_getElem? → aA, length_append → aa, sum_cons → qu, all_cons → iV, getElem?_eq_getElem → aS, drop_zero → te, length_map → ah, take_add_one → cj, nil_append → cC, length_cons → aK, take_of_length_le → az, any_cons → yW, map_append → aD, getElem?_cons_zero → jU, drop_of_length_le → ki, foldl_cons → ix, length_take → aB, length_nil → br, pairwise_cons → zu
open Go.Value renaming string → aO
open Go.DataW renaming trod → rr, TrodAll → yX, trod_int → Db
open Bool renaming and_eq_true → aF
open Option.some renaming injEq → aj
open Ieee.Datum renaming quotient → yM
open List.cons renaming injEq → BR
open Int renaming fdiv_eq_ediv_of_nonneg → tg
namespace Go.Proofs.YtgfijddlkhkopaaGreat
open Go.Proofs.Tryz renaming prog → pg
open Go.aL
set_option maxRecDepth 100000
set_option maxHeartbeats 4000000
theorem U2 {α:Type} [Inhabited α] {enc:α->List Value} {k:Nat} (hk: ∀x,(enc x).length=k) (h0:0<k): ∀(l:List α) (t:Nat),t<l.length*k->((l.map enc).flatten)[t]? =some ((enc l[t/k]!)[t % k]!)
 |[],t,h=>by simp at h
 |x::l,t,h=>by
  rw[bm,List.flatten_cons];by_cases ht:t<k
  ·rw[List.getElem?_append_left gQ,Nat.div_eq_of_lt ht,fu ht];simp_all
  ·obtain⟨s,rfl⟩: ∃s,t=s+k:=⟨t-k,by omega⟩;rw[List.getElem?_append_right gQ,hk,Nat.add_sub_cancel,Nat.add_div_right _ h0,Nat.add_mod_right];have hs:s<l.length*k:=by rw[aK,Nat.succ_mul] at h;omega
   rw[U2 hk h0 l s hs];simp
class Wt (α:Type) where
 wt:α->Nat
 pos: ∀a,1<=wt a
instance:Wt Int:=⟨λ_=>1,λ_=>Nat.le_refl _⟩
def ZL (n:Nat):Nat:=if n<18446744073709551616 then 1 else 1073741824
theorem aiU (n:Nat):1<=ZL n:=by unfold ZL;grind
instance:Wt Nat:=⟨ZL,aiU⟩
instance:Wt Bool:=⟨λ_=>1,λ_=>Nat.le_refl _⟩
instance:Wt BA:=⟨λs=>s.size+1,λ_=>by omega⟩
instance {α:Type} [Wt α]:Wt (List α):=⟨λl=>(l.map Wt.wt).sum+1,λ_=>by omega⟩
theorem afZ {α:Type} [Wt α]: ∀l:List α,l.length<=(l.map Wt.wt).sum
 |[]=>by simp
 |x::l=>by have:=afZ l;have:=Wt.pos x;simp;omega
theorem Fc {α:Type} [Wt α] {x:α} : ∀{l:List α},x∈l->Wt.wt x<=(l.map Wt.wt).sum
 |y::l,h=>by
  rcases List.mem_cons.1 h with rfl|h
  ·simp
  ·have:=Fc h;simp;omega
def ni {α:Type} [Wt α] (t:TypeId) (rd:World->XS->List Value->α->Prop):Prop:=
 ∀(H:Type) (enc:TypeId×Value->H) (W:World) (fuel:Nat) (cs:List Value) (x:DataW H×List MemPlace),rr enc pg W 0 (λ_=>true) true fuel t cs=some x-> ∃a,rd W (bK W) cs a/\Wt.wt a<=Rows.uptoBulk x.1
variable {H : Type}
theorem Ce (d:DataW H):1<=Rows.uptoBulk d:=by
 cases d with
 |lit l=>cases l<;>simp[Rows.uptoBulk]
 |nil=>simp[Rows.uptoBulk]
 |ptr d=>simp[Rows.uptoBulk]
 |slice elems spare=>simp[Rows.uptoBulk]
 |agg parts=>simp[Rows.uptoBulk]
 |iface t d=>simp[Rows.uptoBulk]
 |map entries=>simp[Rows.uptoBulk]
 |held h=>simp[Rows.uptoBulk]
abbrev rdI:World->XS->List Value->Int->Prop:=λ_ _ cs n=>cs=[I n]
abbrev anN:World->XS->List Value->Nat->Prop:=λ_ _ cs n=>cs=[.float .f64 n]
abbrev rdB:World->XS->List Value->Bool->Prop:=λ_ _ cs n=>cs=[B n]
abbrev rdS:World->XS->List Value->BA->Prop:=λ_ _ cs n=>cs=[.string n]
abbrev HO {α:Type} (k:Nat) (rd:World->XS->List Value->α->Prop):World->XS->List Value->List α->Prop:=λw X cs xs=> ∃v,cs=[v]/\fg w X k v rd xs
variable {t : TypeId}
theorem afY (ht:pg.underlying t=some (.int .i64)):ni t rdI:=λH enc W fuel cs x h=>by
 obtain⟨n,rfl,rfl,_⟩:=Db ht h;exact⟨n,rfl,Ce _⟩
theorem aiV (ht:pg.underlying t=some (.float .f64)):ni t anN:=λH enc W fuel cs x h=>by
 cases fuel with
 |zero=>simp[rr] at h
 |succ n=>
  unfold rr at h;rw[ht] at h;split at h<;>simp_all
  obtain⟨⟨h1,h2⟩,h3⟩:=h;rename_i kk _ b he;subst he;have hb:b<18446744073709551616:=by simpa [Lit.wf] using h2
  show ZL b<=_
  unfold ZL;rw[if_pos hb];exact Ce _
theorem ala (ht:pg.underlying t=some .bool):ni t rdB:=λH enc W fuel cs x h=>by
 obtain⟨n,rfl,rfl⟩:=DataW.trod_bool ht h;exact⟨n,rfl,Ce _⟩
theorem anO (ht:pg.underlying t=some .string):ni t rdS:=λH enc W fuel cs x h=>by
 obtain⟨s,rfl,rfl,_⟩:=DataW.trod_string ht h;refine⟨s,rfl,?_⟩
 show s.size+1<=s.data.toList.length+1
 simp_all
theorem ago {α:Type} [Wt α] (f:Nat->α) (D:Nat->DataW H): ∀l:List Nat,(∀i∈l,Wt.wt (f i)<=Rows.uptoBulk (D i))->((l.map f).map Wt.wt).sum<=Rows.uptoBulkAll (l.map D)
 |[],_=>by simp
 |i::l,h=>by
  have h1:=ago f D l λj hj=>h j (List.mem_cons_of_mem _ hj);have h2:=h i sQ;simp only[bm,qu,Rows.uptoBulkAll];omega
variable {cs : List Value} {W : World}
theorem U3 {a:Addr} {k:Nat} (h:W.cells? 0 a k=some cs):cs.length=k/\ ∀j v,cs[j]? =some v->W.cell? (a.add j)=some v:=by
 unfold World.cells? at h;rw[if_pos (aq _)] at h;have key: ∀(l:List Nat) (cs:List Value),(l.mapM (m:=Option) λi=>W.cell? (a.add i))=some cs->cs.length=l.length/\ ∀(j:Nat) (v:Value),cs[j]? =some v-> ∃i:Nat,l[j]? =some i/\W.cell? (a.add i)=some v:=by
  intro l
  induction l with
  |nil=>grind
  |cons i l ih=>
   intro cs h;simp only[List.mapM_cons,Option.bind_eq_bind,Option.bind_eq_some_iff,Option.pure_def,aj] at h;obtain⟨v,hv,vs,UI,rfl⟩:=h;obtain⟨h1,h2⟩:=ih vs UI;refine⟨by simp[h1],λj u hj=>?_⟩;cases j with
   |zero=>simp only[jU,aj] at hj;subst hj;exact⟨i,rfl,hv⟩
   |succ j=>simpa using h2 j u aQ
 obtain⟨h1,h2⟩:=key _ _ h;refine⟨by grind,λj v hj=>?_⟩;obtain⟨i,hi,hc⟩:=h2 j v hj;have:i=j:=by
  rw[List.getElem?_range (by simpa using (List.getElem?_eq_some_iff.1 hi).1)] at hi;simpa using hi.symm
 grind
theorem ZM (b o n:Nat):(⟨b,o,none⟩:Addr).add n=⟨b,o+n,none⟩:=by grind [Addr.add]
variable {e : Nat}
theorem qa {α:Type} [Wt α] {t k:Nat} {rd:World->XS->List Value->α->Prop} (ht:pg.underlying t=some (.slice e)) (hk:pg.cellsOf e=k) (h0:0<k) (he:ni e rd):ni t (HO k rd):=λH enc W fuel cs x h=>by
 rcases Go.Deep.open_slice ht h with⟨rfl,rfl⟩|⟨a,len,cap,m,n,D,Pl,rfl,_,XD,iC,hm,rfl,Ly⟩
 ·exact⟨[],⟨_,rfl,fg.nil _ _ _⟩,Ce _⟩
 ·rw[hk] at Ly;have TV:m=cap:=by simpa using hm
  have Se: ∀i,i<len-> ∃(p:List Value×α),W.cells? 0 (a.add (i*k)) k=some p.1/\rd W (bK W) p.1 p.2/\Wt.wt p.2<=Rows.uptoBulk (D i):=λi hi=>by
   obtain⟨pE,h1,h2⟩:=Ly i zQ;obtain⟨b,h3,h4⟩:=he H enc W n pE _ h2;exact⟨⟨pE,b⟩,h1,h3,h4⟩
  by_cases hl0:len=0
  ·subst hl0;refine⟨[],⟨_,rfl,[],⟨by simp,by simp,some a,cap,rfl,by simp,by simp,by simp,ad iC dQ⟩,rfl,by simp⟩,Ce _⟩
  obtain⟨p0,_⟩:=Se 0 zQ;have:Inhabited (List Value×α):=⟨p0⟩;obtain⟨f,hf⟩:=Go.Deep.choose_lt Se
  let row:Nat->List Value:=λi=>if i<len then(f i).1 else List.replicate k undef
  have bw: ∀i,(row i).length=k:=λi=>by
   show(if i<len then(f i).1 else List.replicate k undef).length=k
   split
   ·exact(U3 (hf i zQ).1).1
   ·simp
  have DS: ∀i,i<len->row i=(f i).1:=λi hi=>if_pos hi;obtain⟨b,o,wI,c,ty,fr,hb,hc⟩: ∃b o,a=⟨b,o,none⟩/\ ∃c ty fr,W.heap[b]? =some (.cells c ty fr)/\ ∀i,i<len-> ∀j v,(row i)[j]? =some v->c[o+(i*k+j)]? =some v:=by
   obtain⟨b,o,sp⟩:=a;have h1: ∀i,i<len-> ∀j v,(row i)[j]? =some v->W.cell? (((⟨b,o,sp⟩:Addr).add (i*k)).add j)=some v:=λi hi j v hj=>by
    rw[DS i hi] at hj;exact(U3 (hf i hi).1).2 j v hj
   have hj: ∃v,(row 0)[0]? =some v:=⟨_,aS (by rw[bw];exact h0)⟩;obtain⟨v,hv⟩:=hj;have h2:=h1 0 zQ 0 v hv;rw[Nat.zero_mul] at h2;change W.cell? ⟨b,o,sp⟩=some v at h2;unfold World.cell? at h2;split at h2
   ·rename_i c ty fr hb;have Eo:sp=none:=by
     cases sp with
     |none=>rfl
     |some s=>simp at h2
    subst Eo;refine⟨b,o,rfl,c,ty,fr,hb,λi hi j v hj=>?_⟩;have h3:=h1 i hi j v hj;rw[ZM,ZM] at h3;unfold World.cell? at h3;rw[hb] at h3;simpa [Nat.add_assoc] using h3
   ·cases h2
  subst wI;have cB:b<W.heap.size:=(Array.getElem?_eq_some_iff.1 hb).1;refine⟨(dx len).map λi=>(f i).2,⟨_,rfl,(dx len).map row,⟨?_,?_,some ⟨b,o,none⟩,cap,?_,λ_=>⟨b,o,rfl,cB,c,ty,fr,hb,λj v hj=>?_⟩,by simp,by simpa using XD,ad iC dQ⟩,by simp,?_⟩,?_⟩
  ·intro r hr;obtain⟨i,_,rfl⟩:=List.mem_map.1 hr;exact bw i
  ·have:cap<=2^63-1:=ad iC dQ;simp;omega
  ·simp
  ·have HE:j<len*k:=by
    have h1:=(List.getElem?_eq_some_iff.1 hj).1;rw[lG (k:=k) (by intro r hr;obtain⟨i,_,rfl⟩:=List.mem_map.1 hr;exact bw i)] at h1;simpa using h1
   have h2:=U2 bw h0 (dx len) j (by simpa using HE);rw[hj] at h2;have hd:j/k<len:=by rw[xg h0];exact HE
   have atk:j % k<k:=Nat.mod_lt _ h0;have hr:(dx len)[j/k]! =j/k:=by simp[hd]
   rw[hr] at h2;have hv:(row (j/k))[j % k]? =some v:=by
    rw[aS (by rw[bw];omega)];rw[getElem!_pos (row (j/k)) (j % k) (by rw[bw];omega)] at h2;exact h2.symm
   have:=hc (j/k) hd (j % k) v hv;rw[Nat.mul_comm,Nat.div_add_mod] at this;omega
  ·intro i r x hr hx;simp only[List.getElem?_map,Option.map_eq_some_iff] at hr hx;obtain⟨i1,h1,rfl⟩:=hr;obtain⟨i2,h2,rfl⟩:=hx;rw[h1] at h2;cases h2;have Qy:i1<len:=List.mem_range.1 (aA h1);rw[DS i1 Qy];exact(hf i1 Qy).2.1
  ·have:=ago (λi=>(f i).2) D (dx len) λi hi=>(hf i (List.mem_range.1 hi)).2.2
   show((((dx len).map λi=>(f i).2).map Wt.wt).sum+1)<=_
   simp only[Rows.uptoBulk];omega
variable {v : Value} {X : XS} {w : World}
theorem _root_.Go.aL.fg.wW {α:Type} {k:Nat} {enc:α->List Value} {xs:List α} (h:fg w X k v (λ_ _ l x=>l=enc x) xs):Sl w X k v (xs.map enc):=by
 obtain⟨rows,h1,h2,h3⟩:=h;have:rows=xs.map enc:=by
  apply List.ext_getElem gQ;intro i hi hj;have hx:i<xs.length:=by simpa using hj
  have:=h3 i rows[i] xs[i] (aS hi) (aS hx);simpa using this
 grind
def aeI (P:Program):List Field->Nat->Bool
 |[],_=>true
 |f::l,o=>f.offset==o&&aeI P l (o+P.cellsOf f.type)
def ZN (P:Program) (t:TypeId) (Zk:List TypeId):Bool:=match P.underlying t with
 |some (.struct fs)=>fs.toList.map (·.type)==Zk&&aeI P fs.toList 0&&P.cellsOf t==(Zk.map P.cellsOf).sum
 |_=>false
def ZO {H:Type} (enc:TypeId×Value->H) (W:World) (n:Nat):List TypeId->List Value->List (DataW H)->Prop
 |[],cs,ds=>cs=[]/\ds=[]
 |t::ts,cs,ds=> ∃c1 c2 d ps OA,cs=c1++c2/\ds=d::OA/\rr enc pg W 0 (λ_=>true) true n t c1=some (d,ps)/\ZO enc W n ts c2 OA
theorem aco {enc:TypeId×Value->H} {n:Nat} : ∀(l:List Field) (xs:List (DataW H×List MemPlace)) (o:Nat),aeI pg l o=true->cs.length=o+((l.map (·.type)).map pg.cellsOf).sum->
  xs.length=l.length->(∀(i:Nat) (f:Field),l[i]? =some f->rr enc pg W 0 (λ_=>true) true n f.type ((cs.drop f.offset).take (pg.cellsOf f.type))=xs[i]?)->ZO enc W n (l.map (·.type)) (cs.drop o) (xs.map (·.1))
 |[],[],o,_,hl,_,_=>⟨ki gQ,rfl⟩
 |[],x::xs,o,_,_,hx,_=>by simp at hx
 |f::l,[],o,_,_,hx,_=>by simp at hx
 |f::l,x::xs,o,ho,hl,hx,h=>by
  simp only[aeI,aF,beq_iff_eq] at ho;obtain⟨uH,kq⟩:=ho;have h0:=h 0 f rfl;simp only[jU] at h0;refine⟨(cs.drop o).take (pg.cellsOf f.type),cs.drop (o+pg.cellsOf f.type),x.1,x.2,xs.map (·.1),?_,rfl,?_,?_⟩
  ·rw[<-List.drop_drop,List.take_append_drop]
  ·grind
  ·refine aco l xs _ kq ?_ gQ λi g hg=>?_
   ·grind
   ·have:=h (i+1) g aQ;assumption
theorem jo (Zk:List TypeId) (lh:ZN pg t Zk=true) {enc:TypeId×Value->H} {fuel:Nat} {x:DataW H×List MemPlace}
  (h:rr enc pg W 0 (λ_=>true) true fuel t cs=some x): ∃n ds,x.1= .agg ds/\ZO enc W n Zk cs ds:=by
 unfold ZN at lh;split at lh
 ·rename_i fs Om;simp only[aF,beq_iff_eq] at lh;obtain⟨⟨rfl,h2⟩,h3⟩:=lh;obtain⟨xs,n,_,rfl,hl,hx,hf⟩:=DataW.trod_struct Om h;refine⟨n,_,rfl,?_⟩;have:=aco (cs:=cs) (enc:=enc) (W:=W) (n:=n) fs.toList xs 0 h2 zQ zQ λi f hi=>hf i f gQ;assumption
 ·cases lh
theorem bL {α:Type} [Wt α] {ts:List TypeId} {rd:World->XS->List Value->α->Prop} (hr:ni t rd) {enc:TypeId×Value->H} {n:Nat} {ds:List (DataW H)} (h:ZO enc W n (t::ts) cs ds):
  ∃c1 c2 d OA a,cs=c1++c2/\ds=d::OA/\rd W (bK W) c1 a/\Wt.wt a<=Rows.uptoBulk d/\ZO enc W n ts c2 OA:=by
 obtain⟨c1,c2,d,ps,OA,rfl,rfl,h1,h2⟩:=h;obtain⟨a,h3,h4⟩:=hr H enc W n c1 _ h1;exact⟨c1,c2,d,OA,a,rfl,rfl,h3,h4,h2⟩
instance:Wt cn:=⟨λx=>4,λ_=>by omega⟩
def PG (n:Int):Prop:= -9223372036854775808<=n/\n<9223372036854775808
instance (n:Int):Decidable (PG n):=by unfold PG;infer_instance
def YY (x:bE):Nat:=if PG x.ep/\PG x.aR/\PG x.sq then 4 else 1073741824
theorem SS (x:bE):4<=YY x:=by unfold YY;grind
instance:Wt bE:=⟨YY,λx=>ad dQ (SS x)⟩
abbrev arn:World->XS->List Value->Int->Prop:=λ_ _ cs n=>cs=[I n]/\PG n
theorem MW:ni 3 arn:=λH enc W fuel cs x h=>by
 have ht:pg.underlying 3=some (.int .i64):=by kernel_rfl
 obtain⟨n,e,e2,hw⟩:=Db ht h;subst e;refine⟨n,⟨rfl,?_⟩,Ce _⟩;simp only[Lit.wf,aF,decide_eq_true_eq] at hw;have h1:IntKind.i64.min= -9223372036854775808:=by kernel_rfl
 have h2:IntKind.i64.max=9223372036854775807:=by kernel_rfl
 grind [PG]
abbrev alb:World->XS->List Value->cn->Prop:=λ_ _ cs x=>cs=x.l
abbrev apu:World->XS->List Value->bE->Prop:=λ_ _ cs x=>cs=x.l
def nD:ni 3 rdI:=afY kQ
def I4:ni 46 anN:=aiV kQ
def ab9:ni 4 rdB:=ala kQ
def Fb:ni 9 rdS:=anO kQ
theorem uZ:ni 39 alb:=λH enc W fuel cs x h=>by
 obtain⟨n,ds,hx,hf⟩:=jo [3,3,3] kQ h;obtain⟨_,_,_,_,a1,rfl,rfl,rfl,w1,hf⟩:=bL nD hf;obtain⟨_,_,_,_,a2,rfl,rfl,rfl,w2,hf⟩:=bL nD hf;obtain⟨_,_,_,_,a3,rfl,rfl,rfl,w3,rfl,rfl⟩:=bL nD hf;refine⟨⟨a1,a2,a3⟩,rfl,?_⟩;rw[hx];simp only[Rows.uptoBulk,Rows.uptoBulkAll,Wt.wt] at*;omega
theorem YR:ni 34 apu:=λH enc W fuel cs x h=>by
 obtain⟨n,ds,hx,hf⟩:=jo [3,3,3] kQ h;obtain⟨_,_,_,_,a1,rfl,rfl,⟨rfl,q1⟩,w1,hf⟩:=bL MW hf;obtain⟨_,_,_,_,a2,rfl,rfl,⟨rfl,q2⟩,w2,hf⟩:=bL MW hf;obtain⟨_,_,_,_,a3,rfl,rfl,⟨rfl,q3⟩,w3,rfl,rfl⟩:=bL MW hf;refine⟨⟨a1,a2,a3⟩,rfl,?_⟩;have e:Wt.wt (⟨a1,a2,a3⟩:bE)=4:=if_pos ⟨q1,q2,q3⟩;rw[hx,e];simp only[Rows.uptoBulk,Rows.uptoBulkAll,Wt.wt] at*;omega
instance:Wt gL:=⟨λx=>Wt.wt x.kind+Wt.wt x.num+Wt.wt x.text+1,λ_=>by omega⟩
theorem LQ:ni 97 (λ_ _ cs (x:gL)=>cs=x.l):=λH enc W fuel cs x h=>by
 obtain⟨n,ds,hx,hf⟩:=jo [3,46,9] kQ h;obtain⟨_,_,_,_,a0,rfl,rfl,rfl,w0,hf⟩:=bL nD hf;obtain⟨_,_,_,_,a1,rfl,rfl,rfl,w1,hf⟩:=bL I4 hf;obtain⟨_,_,_,_,a2,rfl,rfl,rfl,w2,rfl,rfl⟩:=bL Fb hf;refine⟨⟨a0,a1,a2⟩,rfl,?_⟩;rw[hx];simp only[Rows.uptoBulk,Rows.uptoBulkAll,Wt.wt] at*;omega
instance:Wt KV:=⟨λx=>Wt.wt x.key+Wt.wt x.val+1,λ_=>by omega⟩
theorem apv:ni 178 (λ_ _ cs (x:KV)=>cs=x.l):=λH enc W fuel cs x h=>by
 obtain⟨n,ds,hx,hf⟩:=jo [9,97] kQ h;obtain⟨_,_,_,_,a0,rfl,rfl,rfl,w0,hf⟩:=bL Fb hf;obtain⟨_,_,_,_,a1,rfl,rfl,rfl,w1,rfl,rfl⟩:=bL LQ hf;refine⟨⟨a0,a1⟩,rfl,?_⟩;rw[hx];simp only[Rows.uptoBulk,Rows.uptoBulkAll,Wt.wt] at*;omega
def YS:ni 42 (HO 4 (λ_ _ cs (x:KV)=>cs=x.l)):=qa kQ kQ dQ apv
theorem anP:ni 211 (λ_ _ cs (x:KV)=>cs=x.l):=λH enc W fuel cs x h=>by
 obtain⟨n,ds,hx,hf⟩:=jo [9,97] kQ h;obtain⟨_,_,_,_,a0,rfl,rfl,rfl,w0,hf⟩:=bL Fb hf;obtain⟨_,_,_,_,a1,rfl,rfl,rfl,w1,rfl,rfl⟩:=bL LQ hf;refine⟨⟨a0,a1⟩,rfl,?_⟩;rw[hx];simp only[Rows.uptoBulk,Rows.uptoBulkAll,Wt.wt] at*;omega
def alc:ni 71 (HO 4 (λ_ _ cs (x:KV)=>cs=x.l)):=qa kQ kQ dQ anP
instance:Wt pt:=⟨λx=>Wt.wt x.aV+Wt.wt x.val+1,λ_=>by omega⟩
theorem anQ:ni 304 (λ_ _ cs (x:pt)=>cs=x.l):=λH enc W fuel cs x h=>by
 obtain⟨n,ds,hx,hf⟩:=jo [39,97] kQ h;obtain⟨_,_,_,_,a0,rfl,rfl,rfl,w0,hf⟩:=bL uZ hf;obtain⟨_,_,_,_,a1,rfl,rfl,rfl,w1,rfl,rfl⟩:=bL LQ hf;refine⟨⟨a0,a1⟩,rfl,?_⟩;rw[hx];simp only[Rows.uptoBulk,Rows.uptoBulkAll,Wt.wt] at*;omega
def ad6:ni 40 (HO 1 rdS):=qa kQ kQ dQ Fb
def ald:ni 300 (HO 6 (λ_ _ cs (x:pt)=>cs=x.l)):=qa kQ kQ dQ anQ
def ad7:ni 43 (HO 1 rdI):=qa kQ kQ dQ nD
instance:Wt kz:=⟨λx=>Wt.wt x.key+Wt.wt x.mE+1,λ_=>by omega⟩
theorem ale:ni 302 kz.rd:=λH enc W fuel cs x h=>by
 obtain⟨n,ds,hx,hf⟩:=jo [9,300] kQ h;obtain⟨_,_,_,_,a0,rfl,rfl,rfl,w0,hf⟩:=bL Fb hf;obtain⟨_,_,_,_,a1,rfl,rfl,⟨v1,rfl,r1⟩,w1,rfl,rfl⟩:=bL ald hf;refine⟨⟨a0,a1⟩,⟨v1,rfl,r1.wW⟩,?_⟩;rw[hx];simp only[Rows.uptoBulk,Rows.uptoBulkAll,Wt.wt] at*;omega
def aiW:ni 49 (HO 2 kz.rd):=qa kQ kQ dQ ale
instance:Wt gw:=⟨λx=>Wt.wt x.aM+Wt.wt x.aV+Wt.wt x.reads+Wt.wt x.writes+1,λ_=>by omega⟩
theorem alf:ni 306 gw.rd:=λH enc W fuel cs x h=>by
 obtain⟨n,ds,hx,hf⟩:=jo [34,39,40,42] kQ h;obtain⟨_,_,_,_,a0,rfl,rfl,rfl,w0,hf⟩:=bL YR hf;obtain⟨_,_,_,_,a1,rfl,rfl,rfl,w1,hf⟩:=bL uZ hf;obtain⟨_,_,_,_,a2,rfl,rfl,⟨v2,rfl,r2⟩,w2,hf⟩:=bL ad6 hf;obtain⟨_,_,_,_,a3,rfl,rfl,⟨v3,rfl,r3⟩,w3,rfl,rfl⟩:=bL YS hf;refine⟨⟨a0,a1,a2,a3⟩,⟨v2,v3,rfl,r2.wW,r3.wW⟩,?_⟩;rw[hx];simp only[Rows.uptoBulk,Rows.uptoBulkAll,Wt.wt] at*;omega
def aiX:ni 50 (HO 8 gw.rd):=qa kQ kQ dQ alf
instance:Wt eI:=⟨λx=>Wt.wt x.id+Wt.wt x.iB+Wt.wt x.lo+Wt.wt x.hi+1,λ_=>by omega⟩
theorem afX:ni 48 (λ_ _ cs (x:eI)=>cs=x.l):=λH enc W fuel cs x h=>by
 obtain⟨n,ds,hx,hf⟩:=jo [3,3,46,46] kQ h;obtain⟨_,_,_,_,a0,rfl,rfl,rfl,w0,hf⟩:=bL nD hf;obtain⟨_,_,_,_,a1,rfl,rfl,rfl,w1,hf⟩:=bL nD hf;obtain⟨_,_,_,_,a2,rfl,rfl,rfl,w2,hf⟩:=bL I4 hf;obtain⟨_,_,_,_,a3,rfl,rfl,rfl,w3,rfl,rfl⟩:=bL I4 hf;refine⟨⟨a0,a1,a2,a3⟩,rfl,?_⟩;rw[hx];simp only[Rows.uptoBulk,Rows.uptoBulkAll,Wt.wt] at*;omega
instance:Wt State:=⟨λx=>Wt.wt x.range+Wt.wt x.floor+Wt.wt x.closed+Wt.wt x.iu+Wt.wt x.gY+1,λ_=>by omega⟩
theorem YT:ni 52 State.rd:=λH enc W fuel cs x h=>by
 obtain⟨n,ds,hx,hf⟩:=jo [48,39,39,49,50] kQ h;obtain⟨_,_,_,_,a0,rfl,rfl,rfl,w0,hf⟩:=bL afX hf;obtain⟨_,_,_,_,a1,rfl,rfl,rfl,w1,hf⟩:=bL uZ hf;obtain⟨_,_,_,_,a2,rfl,rfl,rfl,w2,hf⟩:=bL uZ hf;obtain⟨_,_,_,_,a3,rfl,rfl,⟨v3,rfl,r3⟩,w3,hf⟩:=bL aiW hf;obtain⟨_,_,_,_,a4,rfl,rfl,⟨v4,rfl,r4⟩,w4,rfl,rfl⟩:=bL aiX hf;refine⟨⟨a0,a1,a2,a3,a4⟩,⟨v3,v4,rfl,r3,r4⟩,?_⟩;rw[hx];simp only[Rows.uptoBulk,Rows.uptoBulkAll,Wt.wt] at*;omega
instance:Wt Rec:=⟨λx=>Wt.wt x.kind+Wt.wt x.aM+Wt.wt x.aV+Wt.wt x.prev+Wt.wt x.jG+Wt.wt x.n+Wt.wt x.rW+Wt.wt x.reads+Wt.wt x.writes+Wt.wt x.parts+Wt.wt x.wR+Wt.wt x.state+1,λ_=>by omega⟩
theorem amM:ni 73 Rec.rd:=λH enc W fuel cs x h=>by
 obtain⟨n,ds,hx,hf⟩:=jo [3,34,39,39,4,3,46,40,42,43,71,52] kQ h;obtain⟨_,_,_,_,a0,rfl,rfl,rfl,w0,hf⟩:=bL nD hf;obtain⟨_,_,_,_,a1,rfl,rfl,rfl,w1,hf⟩:=bL YR hf;obtain⟨_,_,_,_,a2,rfl,rfl,rfl,w2,hf⟩:=bL uZ hf;obtain⟨_,_,_,_,a3,rfl,rfl,rfl,w3,hf⟩:=bL uZ hf;obtain⟨_,_,_,_,a4,rfl,rfl,rfl,w4,hf⟩:=bL ab9 hf;obtain⟨_,_,_,_,a5,rfl,rfl,rfl,w5,hf⟩:=bL nD hf;obtain⟨_,_,_,_,a6,rfl,rfl,rfl,w6,hf⟩:=bL I4 hf;obtain⟨_,_,_,_,a7,rfl,rfl,⟨v7,rfl,r7⟩,w7,hf⟩:=bL ad6 hf;obtain⟨_,_,_,_,a8,rfl,rfl,⟨v8,rfl,r8⟩,w8,hf⟩:=bL YS hf;obtain⟨_,_,_,_,a9,rfl,rfl,⟨v9,rfl,r9⟩,w9,hf⟩:=bL ad7 hf;obtain⟨_,_,_,_,a10,rfl,rfl,⟨v10,rfl,r10⟩,JG,hf⟩:=bL alc hf;obtain⟨_,_,_,_,a11,rfl,rfl,⟨vh,vp,rfl,aro,arp⟩,w11,rfl,rfl⟩:=bL YT hf;refine⟨⟨a0,a1,a2,a3,a4,a5,a6,a7,a8,a9,a10,a11⟩,⟨v7,v8,v9,v10,vh,vp,rfl,r7.wW,r8.wW,r9.wW,r10.wW,aro,arp⟩,?_⟩;rw[hx];simp only[Rows.uptoBulk,Rows.uptoBulkAll,Wt.wt] at*;omega
open Go.ChangeShapes Go.WideShapes Go.ChangeAt Go.RowKit
variable {P : Program} {W' : World} {args : Array Value}
def Tp (P:Program) (ts:List TypeId):Bool:=ts.all λt=>P.readableRec t&&decide (t<P.types.size)
theorem U5 (hl:laidOutB P=true) {enc:TypeId×Value->H} (hb:Below W.heap.size W W'): ∀{ts:List TypeId} {vs:List Value} {ds:List (DataW H)} {ps:List MemPlace},Tp P ts=true->(∀x∈ps,x.block<W.heap.size)->
  yX enc P W 0 (λ_=>true) true ts vs ds ps->yX enc P W' 0 (λb=>decide (b<W.heap.size)) true ts vs ds ps
 |[],[],[],_,_,_,h=>h
 |t::ts,v::vs,d::ds,ps,hr,cB,⟨p,q,h1,h2,Gh⟩=>by
  unfold Tp at hr;simp only[iV,aF,decide_eq_true_eq] at hr;subst Gh;exact⟨p,q,Below.trod hl hr.1.1 hr.1.2 h1 hb λx hx=>cB x (List.mem_append_left _ hx),U5 hl hb hr.2 (λx hx=>cB x (List.mem_append_right _ hx)) h2,rfl⟩
 |[],[],_::_,_,_,_,h=>h.elim
 |[],_::_,_,_,_,_,h=>h.elim
 |_::_,[],_,_,_,_,h=>h.elim
 |_::_,_::_,[],_,_,_,h=>h.elim
theorem aim (hl:laidOutB P=true) {tb:TypeId} (hub:P.underlying tb=some .bool) {enc:TypeId×Value->H} {f:Func} {s:ChangeSpec} {ds:List (DataW H)} {before:List MemPlace} (hv:s.vars=[]) (hrt:f.resultTypes= #[tb]) (hc:Tp P f.params.toList=true)
  (hs:(s.fn H (ds++[])).results=[.lit (.bool true)]/\(s.fn H (ds++[])).args=ds/\(s.fn H (ds++[])).vars=[])
  (hW:DataW.Whole enc P f.params.toList s.vars false W args.toList ds [] before) (hA:yX enc P W 0 (λ_=>true) true f.params.toList args.toList ds before) (hx:Ext W W'):
  s.post enc P f false true false false W args (.bool true) W':=by
 have hb:=hx.below;refine⟨ds,[],before,[],before,[],hW,?_,?_,?_,Below.frame hb _,λh=>by cases h⟩
 ·rw[hrt,hs.1];exact trodAll_cons_mk (shut_bool hub _) trodAll_mk0
 ·rw[hs.2.1];exact U5 hl hb hc (λx hx=>hW.lt x hx) hA
 ·rw[hs.2.2,hv];rfl
theorem ain:ownKnob pg.godebug=none:=by rfl
theorem Y8:laidOutB pg=true:=by kernel_rfl
def bound {l:List (DataW H)} (hk:Rows.uptoSmall H l=true):Rows.uptoBulkAll l<=1048576:=of_decide_eq_true hk
attribute [local irreducible] un jn jk iA ld1 su st1 kT kU oY rE pH Jp Ew gR gu aX lR lS eW eV eU eC eF gE mR fin iE bu dG vS NO Jq Jr Js Jt Ju NP NR NS NT FN FO Jv Jw Jx NU NV NW
def cn.cmp (a b:cn):Int:=
 let p:=if a.wall≠b.wall then(a.wall,b.wall)else if a.dy≠b.dy then(a.dy,b.dy)else(a.node,b.node)
 if p.1<p.2 then-1 else if p.1>p.2 then 1 else 0
def bE.less (a b:bE):Bool:=
 if a.ep≠b.ep then a.ep<b.ep else if a.aR≠b.aR then a.aR<b.aR else a.sq<b.sq
def bE.may (a:bE):Bool:=a.ep>=1&&a.ep<=2&&a.aR>=1&&a.sq>=1
def cn.may (a:cn):Bool:=a.wall>=0&&a.wall<=281474976710656&&a.dy>=0&&a.dy<=65535&&a.node>=0&&a.node<=63
def cn.later (a b:cn):cn:=if a.cmp b<0 then b else a
def cn.HK (a:cn):Bool:=a.may&&!decide (a= .zero)
theorem vO (a b:cn):Pure pg 155 #[a.v,b.v] (I (a.cmp b)):=by
 intro w0;refine Td.1 λhs=>?_;repeat' first|refine ak ?_;intros|refine cQ ?_ ?_<;>intros|with_reducible apply cD|(with_reducible refine fK hs ?_);simp_all [cn.cmp]<;>omega
theorem Dw (a:bE):Pure pg 213 #[a.v] (B a.may):=by
 intro w0;refine Tf.1 λhs=>?_;repeat' first|refine ak ?_;intros|refine cQ ?_ ?_<;>intros|(with_reducible refine fK hs ?_);simp_all [bE.may]<;>omega
theorem pA (a:cn):Pure pg 140 #[a.v] (B a.may):=by
 intro w0;refine aeH.1 λhs=>?_;repeat' first|refine ak ?_;intros|refine cQ ?_ ?_<;>intros|(with_reducible refine fK hs ?_);simp_all [cn.may]<;>omega
theorem Oo (a b:cn):Pure pg 104 #[a.v,b.v] (a.later b).v:=by
 intro w0;refine Zq.1 λhs=>?_;repeat' first|refine ak ?_;intros|refine cQ ?_ ?_<;>intros|(refine ph (vO _ _) hs ?_;intro w X hs)|(with_reducible refine fK hs ?_);simp_all [cn.later]<;>grind
theorem VR (n:Int):Pure pg 338 #[I n] (B (decide (n>=1)&&decide (n<=12))):=by
 intro w0;refine Tl.1 λhs=>?_;repeat' first|refine ak ?_;intros|refine cQ ?_ ?_<;>intros|(with_reducible refine fK hs ?_);simp_all<;>omega
theorem JM (a:cn):Pure pg 339 #[a.v] (B a.HK):=by
 intro w0;refine Tm.1 λhs=>?_;repeat' first|refine ak ?_;intros|(with_reducible refine agm _ ?_ ?_ ?_);(· kernel_rfl);all_goals intros|(refine kh (pA _) hs ?_ ?_<;>intro _ w X hs)|(with_reducible refine fK hs ?_);simp_all [cn.HK]
def cn.Tq (c:Bool) (a:cn):Bool:=if c then a.HK else decide (a= .zero)
theorem Tr (c:Bool) (a:cn):Pure pg 336 #[B c,a.v] (B (a.Tq c)):=by
 intro w0;refine RM.1 λhs=>?_;repeat' first|refine ak ?_;intros|refine cQ ?_ ?_<;>intros|(with_reducible refine Fq _ ?_ ?_ ?_);(· kernel_rfl);all_goals intros|(refine kh (JM _) hs ?_ ?_<;>intro _ w X hs)|(with_reducible refine fK hs ?_);simp_all [cn.Tq]
theorem Ae (x:Nat) (wa:World):(callFunc 144 #[.float .f64 x]).run pg wa= .ok (.value (.int .u64 x)) wa:=by kernel_rfl
theorem HR (a b:Nat):Pure pg 91 #[.float .f64 a,.float .f64 b] (B (decide (a=b))):=by
 intro w0;refine Ry.1 λhs=>?_;repeat' first|refine ak ?_;intros|refine cQ ?_ ?_<;>intros|(with_reducible refine fK hs ?_);simp_all [Int.ofNat_inj]|((with_reducible refine C4 (Ae _) hs.has ?_);intro w X ax;replace hs:=hs.trans ax)
theorem Rj (a b:eI):Pure pg 73 #[a.v,b.v] (B (decide (a=b))):=by
 intro w0;refine Px.1 λhs=>?_;repeat' first|refine ak ?_;intros|refine cQ ?_ ?_<;>intros|with_reducible apply cD|(refine kh (HR _ _) hs ?_ ?_<;>intro _ w X hs)|(with_reducible refine fK hs ?_);simp_all [eI.ext_iff]
variable {a : Value}
theorem SY {b:Value} {xs ys:List Int} (ha:Sl w X 1 a (xs.map I1)) (hb:Sl w X 1 b (ys.map I1)):
  Ct pg 21 #[a,b] w X nX λv _ _=>v=B (decide (xs=ys)):=by
  intro w0 hk;replace ha:=ha.mv hk.cr;replace hb:=hb.mv hk.cr;have kG:=ha.gO;refine Rv.1 λhs=>?_;repeat' first|refine ak ?_;intros|refine cQ ?_ ?_<;>intros|(refine qr ?_;intro wa hk;(simp only[B,Value.bool.injEq];symm;rw[decide_eq_false_iff_not];rintro rfl;omega))
  have hlen:xs.length=ys.length:=by omega
  refine fp (λn a w X=> ∃i:Nat,a=I (i:Nat)/\n=(xs).length-i/\i<=(xs).length/\ai (bK w0) w0 X w/\(xs=ys↔xs.drop i=ys.drop i)) (xs).length ⟨0,rfl,rfl,aq _,hs,by simp⟩ ?_;rintro n a w X ⟨i,rfl,rfl,hi,hs,hw⟩;rcases dA (xs) i with⟨cB,x,hx,hd⟩|⟨dB,hd⟩
  ·obtain⟨y,hy,hdy⟩:=S2 (xs:=ys) (i:=i) zQ;repeat' first|refine aJ ?_;intros|refine cQ ?_ ?_<;>intros|(refine qr ?_;intro wa hk;(simp_all [decide_true]))|((with_reducible refine eP ((xs).length-(i+1)) ?_ ?_);omega;exact⟨i+1,by simp,rfl,by omega,hs,by simp_all [decide_true]⟩)
  ·have hdy:=ki (l:=ys) (i:=i) zQ;repeat' first|refine aJ ?_;intros|(refine qr ?_;intro wa hk;simp_all)
abbrev D3:Value->World->World->Prop:=λv _ _=> ∃n:Int,v=I n
theorem kg (a b c:Int) (w:World) (X:XS):Ct pg 65 #[I a,I b,I c] w X nX D3:=by
 intro w0 hk;refine S8.1 λhs=>?_;repeat' first|refine ak ?_;intros|refine cQ ?_ ?_<;>intros|(refine qr ?_;intro wa hk;exact⟨_,rfl⟩)|with_reducible apply nI
variable {most : Int}
theorem uY {xs:List BA} (ha:Sl w X 1 a (xs.map S1)):
  Ct pg 66 #[a,I most] w X nX D3:=by
 intro w0 hk;replace ha:=ha.mv hk.cr;have kG:=ha.gO;refine HU.1 λhs=>?_;refine gz (λn a b w X=> ∃(i:Nat) (s:Int),a=I i/\b=I s/\n=(xs).length-i/\i<=(xs).length/\ai (bK w0) w0 X w) (xs).length ⟨0,_,rfl,rfl,rfl,aq _,hs⟩ ?_;rintro n a b w X ⟨i,s,rfl,rfl,rfl,hi,hs⟩;repeat' first|refine ak ?_;intros|refine cQ ?_ ?_<;>intros|(refine qr ?_;intro wa hk;exact⟨_,rfl⟩)|(refine xS (kg  _ _ _ _ _) hs ?_;intro n1 w X hs)|((with_reducible refine fB ((xs).length-(i+1)) ?_ ?_);omega;exact⟨i+1,_,by simp,rfl,rfl,by omega,hs⟩)|with_reducible apply nI
variable {xs : List KV}
theorem ub (ha:Sl w X 4 a (xs.map KV.l)):
  Ct pg 68 #[a,I most] w X nX D3:=by
 intro w0 hk;replace ha:=ha.mv hk.cr;have kG:=ha.gO;refine G6.1 λhs=>?_;refine gz (λn a b w X=> ∃(i:Nat) (s:Int),a=I i/\b=I s/\n=(xs).length-i/\i<=(xs).length/\ai (bK w0) w0 X w) (xs).length ⟨0,_,rfl,rfl,rfl,aq _,hs⟩ ?_;rintro n a b w X ⟨i,s,rfl,rfl,rfl,hi,hs⟩;repeat' first|refine ak ?_;intros|refine cQ ?_ ?_<;>intros|(refine qr ?_;intro wa hk;exact⟨_,rfl⟩)|(refine xS (kg  _ _ _ _ _) hs ?_;intro n1 w X hs)|((with_reducible refine fB ((xs).length-(i+1)) ?_ ?_);omega;exact⟨i+1,_,by simp,rfl,rfl,by omega,hs⟩)|with_reducible apply nI
theorem FE {xs:List gw} (ha:qw w X a xs):
  Ct pg 117 #[a,I most] w X nX D3:=by
 intro w0 hk;replace ha:=ha.mv hk.cr;have kG:=ha.len;refine Fp.1 λhs=>?_;refine gz (λn a b w X=> ∃(i:Nat) (s:Int),a=I i/\b=I s/\n=(xs).length-i/\i<=(xs).length/\ai (bK w0) w0 X w) (xs).length ⟨0,_,rfl,rfl,rfl,aq _,hs⟩ ?_;rintro n a b w X ⟨i,s,rfl,rfl,rfl,hi,hs⟩;repeat' first|refine ak ?_;intros|refine cQ ?_ ?_<;>intros|((with_reducible apply Wu);assumption;(try (case hz=>rfl));(case hr=>exact qR);(try (case hz=>omega));(case ht=>kernel_rfl);(case hs=>kernel_rfl);intros)|(refine qr ?_;intro wa hk;exact⟨_,rfl⟩)|(refine xS (kg  _ _ _ _ _) hs ?_;intro n1 w X hs)|(refine xS (uY  qA) hs ?_;intro n1 w X hs)|(refine xS (ub  qA) hs ?_;intro n1 w X hs)|((with_reducible refine fB ((xs).length-(i+1)) ?_ ?_);omega;exact⟨i+1,_,by simp,rfl,rfl,by omega,hs⟩)|with_reducible apply nI
theorem Fs {xs:List kz} (ha:qx w X a xs):
  Ct pg 116 #[a,I most] w X nX D3:=by
 intro w0 hk;replace ha:=ha.mv hk.cr;have kG:=ha.len;refine D5.1 λhs=>?_;refine AW (λn a _ b w X=> ∃(i:Nat) (s:Int),a=I i/\b=I s/\n=xs.length-i/\i<=xs.length/\ai (bK w0) w0 X w) xs.length ⟨0,_,rfl,rfl,rfl,aq _,hs⟩ ?_;rintro n a a2 b w X ⟨i,s,rfl,rfl,rfl,hi,hs⟩;repeat' first|refine ak ?_;intros|refine cQ ?_ ?_<;>intros|((with_reducible apply RO);assumption;(try (case hz=>rfl));(case hr=>exact qR);(try (case hz=>omega));(case ht=>kernel_rfl);(case hs=>kernel_rfl);intros)|(refine qr ?_;intro wa hk;exact⟨_,rfl⟩)|(refine xS (kg  _ _ _ _ _) hs ?_;intro n1 w X hs)|with_reducible apply nI
 have cB:i<xs.length:=by omega
 obtain⟨x,hx,hd⟩:=S2 cB;refine gz (λn a b w X=> ∃(k:Nat) (s:Int),a=I k/\b=I s/\n=x.mE.length-k/\k<=x.mE.length/\ai (bK w0) w0 X w) x.mE.length ⟨0,_,rfl,rfl,rfl,aq _,hs⟩ ?_;rintro n a b w X ⟨k,s,rfl,rfl,rfl,hk,hs⟩;repeat' first|refine ak ?_;intros|refine cQ ?_ ?_<;>intros|((with_reducible apply RO);assumption;(try (case hz=>rfl));(case hr=>exact qR);(try (case hz=>omega));(case ht=>kernel_rfl);(case hs=>kernel_rfl);intros)|(refine xS (kg  _ _ _ _ _) hs ?_;intro n1 w X hs)|((with_reducible refine zi ((xs).length-(i+1)) ?_ ?_);omega;exact⟨i+1,_,by simp,rfl,rfl,by omega,hs⟩)|((with_reducible refine fB (x.mE.length-(k+1)) ?_ ?_);omega;exact⟨k+1,_,by simp,rfl,rfl,by omega,hs⟩)|(have hl9:=Sl.gO ‹Sl w0 (bK w0) 6 _ (List.map pt.l x.mE)›;(with_reducible apply ajX);omega;omega)|with_reducible apply nI
variable {vh vp : Value} {s : State}
theorem Bf (ha:qx w X vh s.iu) (hb:qw w X vp s.gY):
  Ct pg 70 #[s.v vh vp,I most] w X nX D3:=by
 intro w0 hk;replace ha:=ha.mv hk.cr;replace hb:=hb.mv hk.cr;refine HV.1 λhs=>?_;repeat' first|(refine qr ?_;intro wa hk;exact⟨_,rfl⟩)|(refine xS (kg  _ _ _ _ _) hs ?_;intro n1 w X hs)|(refine xS (Fs  qA) hs ?_;intro n1 w X hs)|(refine xS (FE  qA) hs ?_;intro n1 w X hs)
variable {vd vq vr vw : Value} {r : Rec}
theorem LI (ha:r.at w X vr vw vp vq vh vd):
  Ct pg 69 #[r.v vr vw vp vq vh vd,I most] w X nX D3:=by
 intro w0 hk;obtain⟨h1,h2,h3,h4,h5,h6⟩:=ha.mv hk.cr;have kG:=h4.gO;refine Kb.1 λhs=>?_;repeat' first|refine ak ?_;intros|(refine xS (kg  _ _ _ _ _) hs ?_;intro n1 w X hs)|(refine xS (uY  qA) hs ?_;intro n1 w X hs)|(refine xS (ub  qA) hs ?_;intro n1 w X hs)|with_reducible apply nI
 refine gz (λn a b w X=> ∃(i:Nat) (s:Int),a=I i/\b=I s/\n=(r.wR).length-i/\i<=(r.wR).length/\ai (bK w0) w0 X w) (r.wR).length ⟨0,_,rfl,rfl,rfl,aq _,hs⟩ ?_;rintro n a b w X ⟨i,s,rfl,rfl,rfl,hi,hs⟩;repeat' first|refine ak ?_;intros|refine cQ ?_ ?_<;>intros|(refine qr ?_;intro wa hk;exact⟨_,rfl⟩)|(refine xS (kg  _ _ _ _ _) hs ?_;intro n1 w X hs)|(refine xS (Bf  (s:=r.state) qA qA) hs ?_;intro n1 w X hs)|((with_reducible refine fB ((r.wR).length-(i+1)) ?_ ?_);omega;exact⟨i+1,_,by simp,rfl,rfl,by omega,hs⟩)|with_reducible apply nI
def iJ (s:BA):Bool:=decide ((s.size:Int)>=1)&&decide ((s.size:Int)<=24)
theorem lf (s:BA):Pure pg 162 #[.string s] (B (iJ s)):=by
 intro w0;refine Zs.1 λhs=>?_;repeat' first|refine ak ?_;intros|refine cQ ?_ ?_<;>intros|(with_reducible refine fK hs ?_);simp_all [iJ]<;>omega
theorem I5 (r:eI) (x:Nat):Pure pg 222 #[r.v,.float .f64 x] (B ((JK x r.lo||px x r.lo)&&qp x r.hi)):=by
 intro w0;refine abj.1 λhs=>?_;repeat' first|refine ak ?_;intros|refine cQ ?_ ?_<;>intros|(with_reducible refine fK hs ?_);(simp_all<;>grind)
def canon (x:Nat):Nat:=if px x x then x else 9221120237041090560
theorem rj (x:Nat):Pure pg 347 #[.float .f64 x] (.float .f64 (canon x)):=by
 intro w0;refine ZI.1 λhs=>?_;repeat' first|refine ak ?_;intros|refine cQ ?_ ?_<;>intros|(with_reducible refine fK hs ?_);simp_all [canon]|((with_reducible refine C4 (v:=.float .f64 9221120237041090560) ?_ hs.has ?_);(· intro wa;kernel_rfl);intro w X ax;replace hs:=hs.trans ax)
theorem D9 (x:Nat):Pure pg 305 #[.float .f64 x] (.int .u64 (canon x)):=by
 intro w0;refine abm.1 λhs=>?_;repeat' first|(refine ph (rj _) hs ?_;intro w X hs)|(with_reducible refine fK hs ?_);rfl|((with_reducible refine C4 (Ae _) hs.has ?_);intro w X ax;replace hs:=hs.trans ax)
def land (a b:Int):Int:=IntKind.u64.wrap (aC IntKind.u64.bits a&&& aC IntKind.u64.bits b).toNat
def I6 (a b:Int):Int:=IntKind.u64.wrap (aC IntKind.u64.bits a^^^aC IntKind.u64.bits b).toNat
def I7 (a n:Int):Int:=a.fdiv (2^min n.toNat IntKind.u64.bits)
def ZP (a b:Int):Int:=IntKind.u64.wrap (a*b)
variable {b : Int} {N : Value -> Prop}
def agp {a:Int} (h:N (.int .u64 (land a b))):aX P X w (binOp .and t (.int .u64 a) (.int .u64 b)) N:=MH h
def RQ {a:Int} (h:N (.int .u64 (I6 a b))):aX P X w (binOp .xor t (.int .u64 a) (.int .u64 b)) N:=Si h
def Mf {a:Int} (hb: ¬b<0) (h:N (.int .u64 (I7 a b))):aX P X w (binOp .shr t (.int .u64 a) (.int .u64 b)) N:=Ef hb h
def ZQ {a:Int} (h:N (.int .u64 (ZP a b))):aX P X w (binOp .mul t (.int .u64 a) (.int .u64 b)) N:=Sf h
def cls (x:Nat):Int:=
 let b:Int:=canon x
 let e:=land (I7 b 52) 2047
 let f:=land b 4503599627370495
 if e=2047/\f≠0 then 0 else
  let k:=if e=2047 then 8 else if e>0 then 7 else if f>0 then 6 else 5
  if land b 9223372036854775808≠0 then 9-k else k
theorem Hc (x:Nat):Pure pg 307 #[.float .f64 x] (I (cls x)):=by
 intro w0;refine ZG.1 λhs=>?_;repeat' first|refine ak ?_;intros|refine cQ ?_ ?_<;>intros|with_reducible apply cD|(refine ph (D9 _) hs ?_;intro w X hs)|(with_reducible refine fK hs ?_);(simp only[cls] at*;grind)|with_reducible apply agp|(with_reducible apply Mf);omega
def Gs:Nat:=4607182418800017408
def HW (x:Nat):Bool:=decide (cls x>=5)&&(qp x Gs||px x Gs)
theorem JN (x:Nat):Pure pg 252 #[.float .f64 x] (B (HW x)):=by
 intro w0;refine Tg.1 λhs=>?_;repeat' first|refine ak ?_;intros|refine cQ ?_ ?_<;>intros|(refine ph (Hc _) hs ?_;intro w X hs)|(with_reducible refine fK hs ?_);(simp_all [HW,Gs]<;>grind)
def Ej (x:Nat):Nat×Int:=if cls x=4 then(0,0)else if HW x then(x,0)else(0,1)
theorem VS (x:Nat):Pure pg 337 #[.float .f64 x] (.tuple #[.float .f64 (Ej x).1,I (Ej x).2]):=by
 intro w0;refine Tk.1 λhs=>?_;repeat' first|refine ak ?_;intros|refine cQ ?_ ?_<;>intros|(refine kh (JN _) hs ?_ ?_<;>intro _ w X hs)|(refine ph (Hc _) hs ?_;intro w X hs)|(with_reducible refine fK hs ?_);(simp_all [Ej]<;>grind)
def eI.may (r:eI):Bool:=decide (r.id>=1)&&decide (r.id<=12)&&decide (r.iB>=0)&&HW r.lo&&HW r.hi&&qp r.lo r.hi
theorem vT (r:eI):Pure pg 177 #[r.v] (B r.may):=by
 intro w0;refine Zu.1 λhs=>?_;repeat' first|refine ak ?_;intros|refine cQ ?_ ?_<;>intros|with_reducible apply cD|(refine kh (JN _) hs ?_ ?_<;>intro _ w X hs)|(with_reducible refine fK hs ?_);(simp_all [eI.may]<;>omega)
def gL.may (v:gL):Bool:=
 if v.kind=0 then decide (v.num=0)&&decide (v.text=⟨#[]⟩)
 else if v.kind=1 then decide (v.text=⟨#[]⟩)&&decide (v.num=canon v.num)
 else if v.kind=2 then decide (v.num=0)&&decide ((v.text.size:Int)<=64)
 else false
theorem l7 (v:gL):Pure pg 229 #[v.v] (B v.may):=by
 intro w0;refine Zz.1 λhs=>?_;repeat' first|refine ak ?_;intros|refine cQ ?_ ?_<;>intros|with_reducible apply cD|(refine ph (D9 _) hs ?_;intro w X hs)|(with_reducible refine fK hs ?_);(simp_all [gL.may]<;>omega)|((with_reducible refine C4 (Ae _) hs.has ?_);intro w X ax;replace hs:=hs.trans ax)
def QI (h:Int) (b:UInt8):Int:=ZP (I6 h (IntKind.u64.wrap b.toNat)) 1099511628211
def anR (h:Int):Nat->Int
 |0=>h
 |1=>ZP (I6 h (I7 h 33)) 18397679294719823053
 |_=>let g:=ZP (I6 h (I7 h 33)) 18397679294719823053;ZP (I6 g (I7 g 33)) 14181476777654086739
def Mg (s:BA):Int:=let h:=anR (s.data.toList.foldl QI 14695981039346656037) 2;I6 h (I7 h 33)
theorem ZR (s:BA) (arq:s.size<=2^62):Pure pg 294 #[.string s] (.int .u64 (Mg s)):=by
 intro w0;have gd:=K9 s;refine VN.1 λhs=>?_;repeat' refine ak ?_;intros
 refine gz (λn a b w X=> ∃(i:Nat) (h:Int),a=I i/\b= .int .u64 h/\n=s.data.toList.length-i/\i<=s.data.toList.length/\ai (bK w0) w0 X w/\
  s.data.toList.foldl QI 14695981039346656037=(s.data.toList.drop i).foldl QI h) s.data.toList.length ?_ ?_
 ·exact⟨0,14695981039346656037,rfl,rfl,rfl,aq _,hs,by rw[te]⟩
 rintro n a b w X ⟨i,h,rfl,rfl,rfl,hi,hs,hw⟩;rcases dA s.data.toList i with⟨cB,x,hx,hd⟩|⟨dB,hd⟩
 ·repeat' first|refine aJ ?_;intros|with_reducible (first|apply RQ|apply ZQ)|((with_reducible refine fB ((s.data.toList).length-(i+1)) ?_ ?_);omega;exact⟨i+1,_,by simp,rfl,rfl,by omega,hs,by rw[hw,hd,ix];rfl⟩)
 ·repeat' refine aJ ?_;intros
  rw[hd] at hw;refine gz (λn a b w X=> ∃(i:Nat),a=I i/\b= .int .u64 (anR h i)/\n=2-i/\i<=2/\ai (bK w0) w0 X w) 2 ⟨0,rfl,rfl,rfl,aq _,hs⟩ ?_;rintro n a b w X ⟨i,rfl,rfl,rfl,hi,hs⟩;obtain rfl|rfl|rfl:i=0\/i=1\/i=2:=by omega
  ·repeat' first|refine aJ ?_;intros|(with_reducible apply RQ)|(with_reducible apply ZQ)|(with_reducible apply Mf);omega|(with_reducible refine fB 1 ?_ ?_);omega;exact⟨1,rfl,rfl,rfl,by omega,hs⟩
  ·repeat' first|refine aJ ?_;intros|(with_reducible apply RQ)|(with_reducible apply ZQ)|(with_reducible apply Mf);omega|(with_reducible refine fB 0 ?_ ?_);omega;exact⟨2,rfl,rfl,rfl,by omega,hs⟩
  ·repeat' first|refine aJ ?_;intros|(with_reducible refine fK hs ?_);(simp only[Mg,hw];rfl)|(with_reducible apply RQ)|(with_reducible apply Mf);omega
theorem aeJ (n:Int): ∃r,floatBits .quo .f64 (floatOfInt .f64 n) 4845873199050653696=some r:=by
 have hn:(Ieee.double.read (floatOfInt .f64 n)).isNaN=false:=Zf _ _ _ _;have hd:Ieee.double.read 4845873199050653696= .number false 4503599627370496 1:=by kernel_rfl
 show∃r,((Ieee.double.read (floatOfInt .f64 n)).quotient _ (Ieee.double.read 4845873199050653696)).map _=some r
 rw[hd];cases hr:Ieee.double.read (floatOfInt .f64 n)with
 |number s m p=>simp[yM]
 |infinity s=>simp[yM]
 |nan s f=>rw[hr] at hn;simp[Ieee.Datum.isNaN] at hn
def placeOf (s:BA):Nat:=(floatBits .quo .f64 (floatOfInt .f64 (I7 (Mg s) 11)) 4845873199050653696).getD 0
theorem aeK (s:BA):floatBits .quo .f64 (floatOfInt .f64 (I7 (Mg s) 11)) 4845873199050653696=some (placeOf s):=by
 obtain⟨r,hr⟩:=aeJ (I7 (Mg s) 11);rw[placeOf,hr];rfl
theorem I8 (s:BA) (arq:s.size<=2^62):Pure pg 223 #[.string s] (.float .f64 (placeOf s)):=by
 intro w0;refine abk.1 λhs=>?_;repeat' first|refine ak ?_;intros|(refine ph (ZR _ (by first|assumption|omega)) hs ?_;intro w X hs)|(with_reducible refine fK hs ?_);rfl|(with_reducible apply Mf);omega|(with_reducible apply apd);(· exact aeK s)
def rising (l:List BA):Bool:=chain iJ zo none l
def yw (l:List BA):Bool:=rising l&&decide ((l.length:Int)<=16)
theorem abp {xs:List BA} (ha:Sl w X 1 a (xs.map S1)):
  Ct pg 295 #[a] w X nX λv _ _=>v=B (yw xs):=by
 intro w0 hk;replace ha:=ha.mv hk.cr;have kG:=ha.gO;refine ZF.1 λhs=>?_;repeat' refine ak ?_;intros
 refine fp (λn a w X=> ∃i:Nat,a=I (i:Nat)/\n=(xs).length-i/\i<=(xs).length/\ai (bK w0) w0 X w/\chain iJ zo none xs=chain iJ zo (uo xs i) (xs.drop i)) (xs).length ⟨0,rfl,rfl,aq _,hs,by simp[uo]⟩ ?_;rintro n a w X ⟨i,rfl,rfl,hi,hs,hw⟩;rcases dA (xs) i with⟨cB,x,hx,hd⟩|⟨dB,hd⟩
 ·rcases M3 cB with⟨h0,hp⟩|⟨h0,y,hy,hp⟩<;>rw[hp,hd,chain] at hw<;>clear hd
  ·repeat' first|refine aJ ?_;intros|(refine kh (lf _) hs ?_ ?_<;>intro _ w X hs)|(refine qr ?_;intro wa hk;simp_all [yw,rising,chain])|((with_reducible refine eP ((xs).length-(i+1)) ?_ ?_);omega;exact⟨i+1,by simp,rfl,by omega,hs,by rw[hw,qZ hx];simp[*]⟩)
  ·repeat' first|refine aJ ?_;intros|refine cQ ?_ ?_<;>intros|(refine kh (lf _) hs ?_ ?_<;>intro _ w X hs)|(refine qr ?_;intro wa hk;simp_all [yw,rising,chain])|((with_reducible refine eP ((xs).length-(i+1)) ?_ ?_);omega;exact⟨i+1,by simp,rfl,by omega,hs,by rw[hw,qZ hx];simp[*]⟩)
 ·repeat' first|refine aJ ?_;intros|refine cQ ?_ ?_<;>intros|(refine qr ?_;intro wa hk;simp_all [yw,rising,chain]<;>omega)
def Mh (l:List KV):Bool:=yw (l.map (·.key))&&l.all (·.val.may)
theorem PH (ha:Sl w X 4 a (xs.map KV.l)) (hb:xs.length<=2^40):
  Ct pg 296 #[a] w X nX λv wa w'=>Own w' (made wa w') wa.heap.size 9 1 v ((xs.map (·.key)).map S1):=by
 intro w0 hk;replace ha:=ha.mv hk.cr;have kG:=ha.gO;refine Nx.1 λhs=>?_;repeat' refine ak ?_;intros
 refine gz (λn a b w X=> ∃i:Nat,a=I i/\n=xs.length-i/\i<=xs.length/\ai (bK w0) w0 X w/\Own w X w0.heap.size 9 1 b (((xs.take i).map (·.key)).map S1)) xs.length ⟨0,rfl,rfl,aq _,hs,Own.nil _ _ _ _ _⟩ ?_;rintro n a b w X ⟨i,rfl,rfl,hi,hs,ho⟩;rcases dA (xs) i with⟨cB,x,hx,hd⟩|⟨dB,hd⟩
 ·repeat' first|refine aJ ?_;intros|((with_reducible apply MO);(case own=>first|assumption|exact Own.since aQ aQ);(case hs=>assumption);(case h0=>first|exact λ_ h=>h|exact gf.has);(case he=>kernel_rfl);(case hk=>rfl);(case ho=>first|rfl|assumption);(case hb=>(simp only[ah,aB,aa,aK,br];omega));(case hl=>(simp only[ah,aB,aa,aK,br];omega));intro acc w X ax ho hc dh;replace hs:=ax)|((with_reducible refine fB ((xs).length-(i+1)) ?_ ?_);omega;exact⟨i+1,by simp,rfl,by omega,hs,by rw[cj,hx];simpa using ho⟩)
 ·repeat' first|refine aJ ?_;intros|(refine qr ?_;intro wa hk;(rw[az dB] at ho;exact(ho.kp hk).tight))
def gw.err (p:gw):Int:=
 if !p.aM.may then 4 else if !p.aV.may||decide (p.aV= .zero)then 17
 else if !yw p.reads||!yw (p.writes.map (·.key))then 4
 else if p.writes.all (·.val.may)then 0 else 4
variable {p : gw}
theorem yY (h1:Sl w X 1 vr (p.reads.map S1)) (h2:Sl w X 4 vw (p.writes.map KV.l)) (hb:p.writes.length<=2^40):
  Ct pg 224 #[p.v vr vw] w X nX λv _ _=>v=I p.err:=by
 intro w0 hk;replace h1:=h1.mv hk.cr;replace h2:=h2.mv hk.cr;refine Mb.1 λhs=>?_;repeat' first|refine ak ?_;intros|(with_reducible refine Fq _ ?_ ?_ ?_);(· kernel_rfl);all_goals intros|with_reducible apply cD|(refine kh (pA _) hs ?_ ?_<;>intro _ w X hs)|(refine kh (Dw _) hs ?_ ?_<;>intro _ w X hs)|(refine qr ?_;intro wa hk;simp_all [gw.err])|(refine qk (abp  qA) hs ?_ ?_<;>intro _ w X hs)|(refine cu (PH  qA qA) kQ hs.has ?_;rintro v1 wa w X uH hle gv ax;have gA:=ad hs.kp.size hle;replace hs:=hs.trans ax;replace uH:=uH.up gv gA)
 refine fp (λn a w X=> ∃i:Nat,a=I (i:Nat)/\n=(p.writes).length-i/\i<=(p.writes).length/\ai (bK w0) w0 X w/\p.writes.all (·.val.may)=(p.writes.drop i).all (·.val.may)) (p.writes).length ⟨0,rfl,rfl,aq _,hs,by simp⟩ ?_;rintro n a w X ⟨i,rfl,rfl,hi,hs,hw⟩;rcases dA (p.writes) i with⟨cB,x,hx,hd⟩|⟨dB,hd⟩
 ·repeat' first|refine aJ ?_;intros|(refine kh (l7 _) hs ?_ ?_<;>intro _ w X hs)|(refine qr ?_;intro wa hk;simp_all [gw.err])|((with_reducible refine eP ((p.writes).length-(i+1)) ?_ ?_);omega;exact⟨i+1,by simp,rfl,by omega,hs,by rw[hw,hd];simp[*]⟩)
 ·repeat' first|refine aJ ?_;intros|(refine qr ?_;intro wa hk;simp_all [gw.err])
def yt (l:List Int):Bool:=chain (λn=>decide (n>=1)&&decide (n<=12)) (λa b=>decide (a<b)) none l&&decide (l≠[])
theorem Mi {xs:List Int} (ha:Sl w X 1 a (xs.map I1)):
  Ct pg 218 #[a] w X nX λv _ _=>v=B (yt xs):=by
 intro w0 hk;replace ha:=ha.mv hk.cr;have kG:=ha.gO;refine VI.1 λhs=>?_;repeat' refine ak ?_;intros
 refine fp (λn a w X=> ∃i:Nat,a=I (i:Nat)/\n=(xs).length-i/\i<=(xs).length/\ai (bK w0) w0 X w/\chain (λn=>decide (n>=1)&&decide (n<=12)) (λa b=>decide (a<b)) none xs=chain (λn=>decide (n>=1)&&decide (n<=12)) (λa b=>decide (a<b)) (uo xs i) (xs.drop i)) (xs).length ⟨0,rfl,rfl,aq _,hs,by simp[uo]⟩ ?_;rintro n a w X ⟨i,rfl,rfl,hi,hs,hw⟩;rcases dA (xs) i with⟨cB,x,hx,hd⟩|⟨dB,hd⟩
 ·rcases M3 cB with⟨h0,hp⟩|⟨h0,y,hy,hp⟩<;>rw[hp,hd,chain] at hw<;>clear hd
  ·repeat' first|refine aJ ?_;intros|refine cQ ?_ ?_<;>intros|(refine qr ?_;intro wa hk;(simp_all [yt,chain]<;>omega))|((with_reducible refine eP ((xs).length-(i+1)) ?_ ?_);omega;exact⟨i+1,by simp,rfl,by omega,hs,by rw[hw,qZ hx];simp_all<;>omega⟩)
  ·repeat' first|refine aJ ?_;intros|refine cQ ?_ ?_<;>intros|(refine qr ?_;intro wa hk;(simp_all [yt,chain]<;>omega))|((with_reducible refine eP ((xs).length-(i+1)) ?_ ?_);omega;exact⟨i+1,by simp,rfl,by omega,hs,by rw[hw,qZ hx];simp_all<;>omega⟩)
 ·repeat' first|refine aJ ?_;intros|refine cQ ?_ ?_<;>intros|(refine qr ?_;intro wa hk;(simp_all [yt,chain]<;>grind))
def M9 (l:List KV):Bool:=chain (λx=>iJ x.key&&x.val.may&&decide (x.val.kind≠0)) (λa b=>zo a.key b.key) none l
theorem ZS (ha:Sl w X 4 a (xs.map KV.l)):
  Ct pg 340 #[a] w X nX λv _ _=>v=B (M9 xs):=by
 intro w0 hk;replace ha:=ha.mv hk.cr;have kG:=ha.gO;refine VP.1 λhs=>?_;repeat' refine ak ?_;intros
 refine fp (λn a w X=> ∃i:Nat,a=I (i:Nat)/\n=(xs).length-i/\i<=(xs).length/\ai (bK w0) w0 X w/\M9 xs=chain (λx=>iJ x.key&&x.val.may&&decide (x.val.kind≠0)) (λa b=>zo a.key b.key) (uo xs i) (xs.drop i)) (xs).length ⟨0,rfl,rfl,aq _,hs,by simp[uo,M9]⟩ ?_;rintro n a w X ⟨i,rfl,rfl,hi,hs,hw⟩;rcases dA (xs) i with⟨cB,x,hx,hd⟩|⟨dB,hd⟩
 ·rcases M3 cB with⟨h0,hp⟩|⟨h0,y,hy,hp⟩<;>rw[hp,hd,chain] at hw<;>clear hd
  ·repeat' first|refine aJ ?_;intros|refine cQ ?_ ?_<;>intros|with_reducible apply cD|(refine kh (lf _) hs ?_ ?_<;>intro _ w X hs)|(refine kh (l7 _) hs ?_ ?_<;>intro _ w X hs)|(refine qr ?_;intro wa hk;(simp_all [chain]<;>omega))|((with_reducible refine eP ((xs).length-(i+1)) ?_ ?_);omega;exact⟨i+1,by simp,rfl,by omega,hs,by rw[hw,qZ hx];simp_all<;>omega⟩)
  ·repeat' first|refine aJ ?_;intros|refine cQ ?_ ?_<;>intros|with_reducible apply cD|(refine kh (lf _) hs ?_ ?_<;>intro _ w X hs)|(refine kh (l7 _) hs ?_ ?_<;>intro _ w X hs)|(refine qr ?_;intro wa hk;(simp_all [chain]<;>omega))|((with_reducible refine eP ((xs).length-(i+1)) ?_ ?_);omega;exact⟨i+1,by simp,rfl,by omega,hs,by rw[hw,qZ hx];simp_all<;>omega⟩)
 ·repeat' first|refine aJ ?_;intros|(refine qr ?_;intro wa hk;(simp_all [chain]<;>grind))
abbrev eI.zero:eI:=⟨0,0,0,0⟩
abbrev State.zero:State:=⟨.zero,.zero,.zero,[],[]⟩
def State.isZero (s:State):Bool:=decide (s.range= .zero)&&decide (s.floor= .zero)&&decide (s.closed= .zero)&&decide (s.iu=[])&&decide (s.gY=[])
theorem PI (h1:qx w X vh s.iu) (h2:qw w X vp s.gY):
  Ct pg 335 #[s.v vh vp] w X nX λv _ _=>v=B s.isZero:=by
 intro w0 hk;replace h1:=h1.mv hk.cr;replace h2:=h2.mv hk.cr;refine Ny.1 λhs=>?_;repeat' first|refine ak ?_;intros|refine cQ ?_ ?_<;>intros|(with_reducible refine Fq _ ?_ ?_ ?_);(· kernel_rfl);all_goals intros|with_reducible apply cD|(refine qr ?_;intro wa hk;(simp_all [State.isZero,eI.ext_iff]))|((with_reducible refine C4 (Ae _) hs.has ?_);intro w X ax;replace hs:=hs.trans ax)
def Rec.isZero (r:Rec):Bool:=decide (r.aM= .zero)&&decide (r.aV= .zero)&&decide (r.prev= .zero)&&!r.jG&&decide (r.n=0)&&decide (r.rW=0)&&
 decide (r.reads=[])&&decide (r.writes=[])&&decide (r.parts=[])&&decide (r.wR=[])&&r.state.isZero
theorem abq (h:r.at w X vr vw vp vq vh vd):
  Ct pg 277 #[r.v vr vw vp vq vh vd] w X nX λv _ _=>v=B r.isZero:=by
 intro w0 hk;obtain⟨h1,h2,h3,h4,h5,h6⟩:=h.mv hk.cr;refine ZD.1 λhs=>?_;cases hc:r.jG<;>
 repeat' first|refine ak ?_;intros|refine cQ ?_ ?_<;>intros|(with_reducible refine Fq _ ?_ ?_ ?_);(· kernel_rfl);all_goals intros|(with_reducible refine agn _ ?_ ?_ ?_);(· kernel_rfl);all_goals intros|with_reducible apply cD|(refine qr ?_;intro wa hk;(simp_all [Rec.isZero]))|((with_reducible refine C4 (Ae _) hs.has ?_);intro w X ax;replace hs:=hs.trans ax)|(refine qk (PI  (s:=r.state) qA qA) hs ?_ ?_<;>intro _ w X hs)
def Rec.strip (r:Rec):Rec×Bool:=
 if r.kind=1 then({ r with state:=.zero },true)
 else if r.kind=2\/r.kind=7\/r.kind=8 then({ r with n:=0 },true)
 else if r.kind=3 then({ r with aM:=.zero,aV:=.zero,reads:=[],writes:=[],parts:=[] },true)
 else if r.kind=4 then({ r with aM:=.zero,jG:=false,aV:=.zero },true)
 else if r.kind=5 then({ r with aV:=.zero },true)
 else if r.kind=6 then({ r with rW:=0,n:=0,aV:=.zero },true)
 else if r.kind=9 then({ r with aM:=.zero,aV:=.zero,parts:=[] },true)
 else if r.kind=10 then({ r with aM:=.zero },true)
 else if r.kind=11 then({ r with prev:=.zero,aV:=.zero,aM:=.zero,writes:=[] },true)
 else if r.kind=12 then({ r with aV:=.zero,wR:=[] },true)
 else(r,false)
theorem Ts (h:r.at w X vr vw vp vq vh vd):
  Ct pg 276 #[r.v vr vw vp vq vh vd] w X nX λv _ _=> ∃ZT lC JF vq' ZU ZV,v= .tuple #[r.strip.1.v ZT lC JF vq' ZU ZV,B r.strip.2]/\
   r.strip.1.at w X ZT lC JF vq' ZU ZV:=by
 intro w0 hk;obtain⟨h1,h2,h3,h4,h5,h6⟩:=h;have o1:=h1.one;have o2:=h2.one;have o3:=h3.one;have o4:=h4.one;have o5:=h5.one;have o6:=h6.one;refine RK.1 λhs=>?_;have n2:Sl w X 4 (.slice none 0 0) (([]:List KV).map KV.l):=Sl.nil _ _ _;have n3:Sl w X 1 (.slice none 0 0) (([]:List Int).map I1):=Sl.nil _ _ _;have n4:qx w X (.slice none 0 0) []:=fg.nil _ _ _;have n5:qw w X (.slice none 0 0) []:=fg.nil _ _ _;repeat' first|refine ak ?_;intros|refine cQ ?_ ?_<;>intros|with_reducible apply cD
 all_goals
  refine bS hs ?_;intro wa aI;unfold Rec.strip;repeat (first|rw[if_pos zQ]|rw[if_neg zQ])
  exact⟨_,_,_,_,_,_,rfl,by assumption,by assumption,by assumption,by assumption,by assumption,by assumption⟩
theorem JO {xs:List BA} (ha:Sl w X 1 a (xs.map S1)) (hb:xs.length<=2^40):
  Ct pg 87 #[a] w X nX λv wa w'=>Own w' (made wa w') wa.heap.size 9 1 v (xs.map S1):=by
  intro w0 hk;replace ha:=ha.mv hk.cr;refine Ac.1 λhs=>?_;repeat' first|refine ak ?_;intros|refine cQ ?_ ?_<;>intros|(refine QG hs ?_;intro acc w X hs ho)|(refine qr ?_;intro wa hk;(first|(rename_i h1 h2;(first|(rw[h2])|skip);exact Own.nil _ _ _ _ _)|exact(ho.kp hk).tight))|((with_reducible apply qj);(case own=>assumption);(case hs=>assumption);(case h0=>exact λ_ h=>h);(case he=>kernel_rfl);(case src=>exact Sl.mv ha (ai.mv hs));(case h1=>simp[aL.one]);(case hb=>simp;omega);(case hl=>simp;omega);intro acc w X ax ho hc dh;replace hs:=ax;rw[cC] at ho)
theorem HX (ha:Sl w X 4 a (xs.map KV.l)) (hb:xs.length<=2^40):
  Ct pg 89 #[a] w X nX λv wa w'=>Own w' (made wa w') wa.heap.size 178 4 v (xs.map KV.l):=by
  intro w0 hk;replace ha:=ha.mv hk.cr;refine wq.1 λhs=>?_;repeat' first|refine ak ?_;intros|refine cQ ?_ ?_<;>intros|(refine QG hs ?_;intro acc w X hs ho)|(refine qr ?_;intro wa hk;(first|(rename_i h1 h2;(first|(rw[h2])|skip);exact Own.nil _ _ _ _ _)|exact(ho.kp hk).tight))|((with_reducible apply qj);(case own=>assumption);(case hs=>assumption);(case h0=>exact λ_ h=>h);(case he=>kernel_rfl);(case src=>exact Sl.mv ha (ai.mv hs));(case h1=>simp[aL.one]);(case hb=>simp;omega);(case hl=>simp;omega);intro acc w X ax ho hc dh;replace hs:=ax;rw[cC] at ho)
theorem PJ {xs:List pt} (ha:Sl w X 6 a (xs.map pt.l)) (hb:xs.length<=2^40):
  Ct pg 290 #[a] w X nX λv wa w'=>Own w' (made wa w') wa.heap.size 304 6 v (xs.map pt.l):=by
  intro w0 hk;replace ha:=ha.mv hk.cr;refine ux.1 λhs=>?_;repeat' first|refine ak ?_;intros|refine cQ ?_ ?_<;>intros|(refine QG hs ?_;intro acc w X hs ho)|(refine qr ?_;intro wa hk;(first|(rename_i h1 h2;(first|(rw[h2])|skip);exact Own.nil _ _ _ _ _)|exact(ho.kp hk).tight))|((with_reducible apply qj);(case own=>assumption);(case hs=>assumption);(case h0=>exact λ_ h=>h);(case he=>kernel_rfl);(case src=>exact Sl.mv ha (ai.mv hs));(case h1=>simp[aL.one]);(case hb=>simp;omega);(case hl=>simp;omega);intro acc w X ax ho hc dh;replace hs:=ax;rw[cC] at ho)
variable {k : BA}
theorem VT {xs:List BA} (ha:Sl w X 1 a (xs.map S1)):
  Ct pg 171 #[a,.string k] w X nX λv _ _=>v=I (idxOf (λx=>decide (k=x)) xs):=by
 intro w0 hk;replace ha:=ha.mv hk.cr;have kG:=ha.gO;refine Ad.1 λhs=>?_;repeat' refine ak ?_;intros
 refine fp (λn a w X=> ∃i:Nat,a=I (i:Nat)/\n=(xs).length-i/\i<=(xs).length/\ai (bK w0) w0 X w/\(∀(j:Nat) x,j<i->xs[j]? =some x->decide (k=x)=false)) (xs).length ⟨0,rfl,rfl,aq _,hs,by simp⟩ ?_;rintro n a w X ⟨i,rfl,rfl,hi,hs,hw⟩;rcases dA (xs) i with⟨cB,x,hx,hd⟩|⟨dB,hd⟩
 ·repeat' first|refine aJ ?_;intros|refine cQ ?_ ?_<;>intros|(refine qr ?_;intro wa hk;(rw[B7 hw hx (by simpa)]))|((with_reducible refine eP ((xs).length-(i+1)) ?_ ?_);omega;exact⟨i+1,by simp,rfl,by omega,hs,λj y hj hy=>by rcases Nat.lt_succ_iff_lt_or_eq.1 hj with h|h;exact hw j y h hy;subst h;rw[hx] at hy;cases hy;simpa⟩)
 ·repeat' first|refine aJ ?_;intros|(refine qr ?_;intro wa hk;(rw[yq λj x hj hx=>hw j x zQ hx]))
theorem uT {xs:List BA} (ha:Sl w X 1 a (xs.map S1)):
  Ct pg 115 #[a,.string k] w X nX λv _ _=>v=B (xs.any λx=>decide (k=x)):=by
 intro w0 hk;replace ha:=ha.mv hk.cr;refine yv.1 λhs=>?_;repeat' first|refine ak ?_;intros|refine cQ ?_ ?_<;>intros|(refine qr ?_;intro wa hk;(rw[<-L2];simp[*]))|(refine UZ (VT  qA) hs ?_;intro w X hs)
variable {f : FuncId}
theorem Mj {p:KV->Bool} (ha:Sl w X 4 a (xs.map KV.l)) (hX: ∀k,X k->k<w.heap.size) (hf:enters pg f=true)
  (hp: ∀x,Ct pg f ((.agg x.l.toArray)::cs).toArray w X nX λv _ _=>v=B (p x)):
  Ct pg 369 #[a,.func (.func f) #[] cs.toArray] w X nX λv _ _=>v=I (idxOf p xs):=by
 intro w0 hk;replace ha:=ha.mv hk.cr;replace hp:=λx=>((hp x).kp hk).bK λk hx=>av (hX k hx) hk.size;have kG:=ha.gO;refine uy.1 λhs=>?_;repeat' refine ak ?_;intros
 refine fp (λn a w X=> ∃i:Nat,a=I (i:Nat)/\n=(xs).length-i/\i<=(xs).length/\ai (bK w0) w0 X w/\(∀(j:Nat) x,j<i->xs[j]? =some x->p x=false)) (xs).length ⟨0,rfl,rfl,aq _,hs,by simp⟩ ?_;rintro n a w X ⟨i,rfl,rfl,hi,hs,hw⟩;rcases dA (xs) i with⟨cB,x,hx,hd⟩|⟨dB,hd⟩
 ·repeat' first|refine aJ ?_;intros|(refine qr ?_;intro wa hk;(rw[B7 hw hx ‹_›]))|((with_reducible refine eP ((xs).length-(i+1)) ?_ ?_);omega;exact⟨i+1,by simp,rfl,by omega,hs,λj y hj hy=>by rcases Nat.lt_succ_iff_lt_or_eq.1 hj with h|h;exact hw j y h hy;subst h;rw[hx] at hy;cases hy;assumption⟩)|(refine Hv ((hp x).since hs) hf hs.has ?_ ?_<;>(intro _ w X ax;replace hs:=hs.trans ax))
 ·repeat' first|refine aJ ?_;intros|(refine qr ?_;intro wa hk;(rw[yq λj x hj hx=>hw j x zQ hx]))
theorem HY {p:KV->Bool} (ha:Sl w X 4 a (xs.map KV.l)) (hX: ∀k,X k->k<w.heap.size) (hf:enters pg f=true)
  (hp: ∀x,Ct pg f ((.agg x.l.toArray)::cs).toArray w X nX λv _ _=>v=B (p x)):
  Ct pg 363 #[a,.func (.func f) #[] cs.toArray] w X nX λv _ _=>v=B (xs.any p):=by
 intro w0 hk;replace ha:=ha.mv hk.cr;replace hp:=λx=>((hp x).kp hk).bK λk hx=>av (hX k hx) hk.size;refine td.1 λhs=>?_;repeat' first|refine ak ?_;intros|refine cQ ?_ ?_<;>intros|(refine qr ?_;intro wa hk;(rw[<-L2];simp[*]))|(refine UZ (Mj ha hs.has hf hp) hs ?_;intro w X hs)
def tle (a b:BA):Bool:=zo a b||decide (a=b)
def Cf:cn->List pt->Bool
 |_,[]=>true
 |s,v::r=>v.aV.may&&decide (v.aV.cmp s>0)&&v.val.may&&Cf v.aV r
def kz.ok (h:kz) (ahead:BA):Bool:=iJ h.key&&!tle h.key ahead&&decide (h.mE≠[])&&Cf .zero h.mE
theorem Tt {h:kz} {vv:Value} {ahead:BA} (ha:Sl w X 6 vv (h.mE.map pt.l)):
  Ct pg 289 #[.agg (h.l vv).toArray,.string ahead] w X nX λv _ _=>v=B (h.ok ahead):=by
 intro w0 hk;replace ha:=ha.mv hk.cr;have kG:=ha.gO;refine RL.1 λhs=>?_;repeat' first|refine ak ?_;intros|refine cQ ?_ ?_<;>intros|(refine kh (lf _) hs ?_ ?_<;>intro _ w X hs)|(refine qr ?_;intro wa hk;(simp_all [kz.ok,tle]<;>grind))
 refine gz (λn a b w X=> ∃(i:Nat) (s:cn),a=I i/\b=s.v/\n=h.mE.length-i/\i<=h.mE.length/\ai (bK w0) w0 X w/\Cf .zero h.mE=Cf s (h.mE.drop i)) h.mE.length
  ⟨0,.zero,rfl,rfl,rfl,aq _,hs,by simp⟩ ?_
 rintro n a b w X ⟨i,s,rfl,rfl,rfl,hi,hs,hw⟩;have ct:h.mE≠[]:=by intro e;simp_all
 rcases dA (h.mE) i with⟨cB,x,hx,hd⟩|⟨dB,hd⟩
 ·rw[hd,Cf] at hw;clear hd;repeat' first|refine aJ ?_;intros|refine cQ ?_ ?_<;>intros|with_reducible apply cD|(refine kh (pA _) hs ?_ ?_<;>intro _ w X hs)|(refine ph (vO _ _) hs ?_;intro w X hs)|(refine kh (l7 _) hs ?_ ?_<;>intro _ w X hs)|(refine qr ?_;intro wa hk;(simp_all [kz.ok,tle]<;>grind))|((with_reducible refine fB ((h.mE).length-(i+1)) ?_ ?_);omega;exact⟨i+1,x.aV,by simp,rfl,rfl,by omega,hs,by simp_all⟩)
 ·repeat' first|refine aJ ?_;intros|(refine qr ?_;intro wa hk;(simp_all [kz.ok,tle,Cf]<;>grind))
def gw.has (p:gw) (k:BA):Bool:=p.writes.any λw=>decide (w.key=k)
variable {x : KV}
theorem PK {b:Nat} (h:Cells w X b 0 [.string k]):
  Ct pg 364 #[.agg x.l.toArray,ptr b 0] w X nX λv _ _=>v=B (decide (x.key=k)):=by
 intro w0 hk;replace h:=h.mv hk.cr;refine Nz.1 λhs=>?_;repeat' first|refine ak ?_;intros|refine cQ ?_ ?_<;>intros|(refine qr ?_;intro wa hk;simp_all)
theorem JP (hX: ∀k,X k->k<w.heap.size) (h2:Sl w X 4 vw (p.writes.map KV.l)):
  Ct pg 342 #[p.v vr vw,.string k] w X nX λv _ _=>v=B (p.has k):=by
 intro w0 hk;replace h2:=h2.mv hk.cr;refine Tn.1 λhs=>?_;repeat' first|refine ak ?_;intros|(refine q1x hs ?_;intro bx w X gr ax gf hs bw)|(refine qr ?_;intro wa hk;(simp[gw.has]))|(refine UZ (HY (p:=λx=>decide (x.key=k)) (h2.mv (ai.mv (gf.trans hs))) hs.has kQ λx=>PK (x:=x) (by first|exact bw.cells)) hs ?_;intro w X hs)
theorem sK:xa pg 34 (λk:bE=>k.v):=
 aiu (n:=3) kQ (λk:bE=>[k.ep,k.aR,k.sq]) (λ_=>rfl) (λa b h=>by
  simp only[BR,and_true] at h;exact bE.ext h.1 h.2.1 h.2.2)
def yc:xa pg 9 (λs:BA=>aO s):=IG kQ
def rQ (w:World) (A:XS) (v:Value) (l:List pt):Prop:=Sl w A 6 v (l.map pt.l)
def qv (w:World) (A:XS) (v:Value) (p:gw):Prop:= ∃vr vw,v=p.v vr vw/\Sl w A 1 vr (p.reads.map S1)/\Sl w A 4 vw (p.writes.map KV.l)
def rQ.mv:qs rQ:=λ_ _ _ _ _ _ h m=>Sl.mv h m
def qv.mv:qs qv:=λ_ _ _ _ _ _ ⟨vr,vw,h,h1,h2⟩ m=>⟨vr,vw,h,h1.mv m,h2.mv m⟩
structure iR (w:World) (X A:XS) (sb kb pb:Nat) (hm:List (BA×List pt)) (pm:List (bE×gw)) (low:cn):Prop where
 box:aH w X sb [.map (some kb),.map (some pb),I low.wall,I low.dy,I low.node] 423
 keys:dK w X A kb (λs:BA=>aO s) rQ hm
 gY:dK w X A pb (λk:bE=>k.v) qv pm
 sub: ∀k,A k->X k
 off: ∀k,A k->k≠sb/\k≠kb/\k≠pb
variable {low : cn} {pm : List (bE × gw)} {hm : List (BA × List pt)} {kb pb sb : Nat} {A Y : XS} {w' : World}
theorem iR.mv (h:iR w X A sb kb pb hm pm low)
  (hX: ∀k,X k->k<w.heap.size) (m:Mv X w Y w'):iR w' Y A sb kb pb hm pm low:=by
 have ma:Mv A w A w':=λk hk hl=>⟨hk,(m k (h.sub k hk) hl).2⟩;exact⟨h.box.mv m,h.keys.mv rQ.mv m ma,h.gY.mv qv.mv m ma,λk hk=>(m k (h.sub k hk) (hX k (h.sub k hk))).1,h.off⟩
variable {w0 : World}
theorem aiY {X0:XS} (h:dK w0 X0 A kb (λs:BA=>aO s) rQ hm) (hA: ∀k,A k->X0 k) (m:Mv X0 w0 X w)
  (n: ∀v,Sl w0 X0 6 v (((getM k hm).getD []).map pt.l)->N v):aX pg X w (Instr.lookup 420 (.map (some kb)) (.string k) false) N:=by
 have h':dK w X A kb (λs:BA=>aO s) rQ hm:=h.mv rQ.mv m λk hk hl=>⟨hk,(m k (hA k hk) hl).2⟩;obtain⟨es,c,h1,h2⟩:=h;refine mL (et:=300) (A:=X) (rd:=λw X v l=>Sl w0 A 6 v (l.map pt.l)) (l:=hm) (.slice none 0 0) ?_ yc kQ kQ (λv a hg hr=>?_) λhg=>?_
 ·exact⟨es,c,h1.mv m,by
   clear h1 h' n
   induction es generalizing hm with
   |nil=>cases hm<;>first|trivial|exact h2.elim
   |cons e es ih=>cases hm with
    |nil=>exact h2.elim
    |cons x l=>exact⟨h2.1,h2.2.1,ih h2.2.2⟩⟩
 ·exact n v (by rw[hg];exact Sl.mv hr (Mv.sub hA))
 ·exact n _ (by rw[hg];exact Sl.nil _ _ _)
def gw.Ea (x q:gw):Bool:=x.writes.any (λw=>q.has w.key||q.reads.any λk=>decide (w.key=k))||x.reads.any λk=>q.has k
def Fu (l:List pt) (gI:cn) (all:Bool):gL×cn:=l.foldl (λs v=>if all||decide (v.aV.cmp gI<=0)then(v.val,v.aV)else s) (.zero,.zero)
def HZ (hm:List (BA×List pt)) (k:BA):List pt:=(getM k hm).getD []
abbrev aeL (k:BA) (s:gL×cn):Value:=.agg #[.string k,I s.1.kind,.float .f64 s.1.num,.string s.1.text,I s.2.wall,I s.2.dy,I s.2.node]
theorem VU {gI:cn} {all:Bool}
  (h:iR w X A sb kb pb hm pm low) (hX: ∀k,X k->k<w.heap.size):
  Ct pg 365 #[ptr sb 0,.string k,gI.v,B all] w X nX λv _ _=>v=aeL k (Fu (HZ hm k) gI all):=by
 intro w0 hk;replace h:=h.mv hX hk.cr;have gr:=h.box;refine I3.1 λhs=>?_;repeat' refine ak ?_;intros
 refine aiY h.keys h.sub (Mv.refl _ _) λvv hvv=>?_
 show aX _ _ _ _ _
 have UI:HZ hm k=(getM k hm).getD []:=rfl;rw[<-UI] at hvv;generalize HZ hm k=vs at hvv;have kG:=hvv.gO;repeat' refine ak ?_;intros
 refine gz (λn a b w X=> ∃(i:Nat) (s:gL×cn),a=I i/\b=aeL k s/\n=vs.length-i/\i<=vs.length/\ai (bK w0) w0 X w/\
  Fu vs gI all=(vs.drop i).foldl (λs v=>if all||decide (v.aV.cmp gI<=0)then(v.val,v.aV)else s) s) vs.length ⟨0,(.zero,.zero),rfl,rfl,rfl,aq _,hs,by rw[te];rfl⟩ ?_
 rintro n a b w X ⟨i,s,rfl,rfl,rfl,hi,hs,hw⟩;rcases dA (vs) i with⟨cB,x,hx,hd⟩|⟨dB,hd⟩
 ·rw[hd,ix] at hw;cases all
  ·repeat' first|refine aJ ?_;intros|refine cQ ?_ ?_<;>intros|with_reducible apply cD|(refine ph (vO _ _) hs ?_;intro w X hs)|((with_reducible refine fB ((vs).length-(i+1)) ?_ ?_);omega;exact⟨i+1,(x.val,x.aV),by simp,rfl,rfl,by omega,hs,by rw[hw];simp[*]⟩)|((with_reducible refine fB ((vs).length-(i+1)) ?_ ?_);omega;exact⟨i+1,s,by simp,rfl,rfl,by omega,hs,by rw[hw];simp[*]⟩)
  ·repeat' first|refine aJ ?_;intros|with_reducible apply cD|((with_reducible refine fB ((vs).length-(i+1)) ?_ ?_);omega;exact⟨i+1,(x.val,x.aV),by simp,rfl,rfl,by omega,hs,by rw[hw];simp[*]⟩)
 ·repeat' first|refine aJ ?_;intros|(refine qr ?_;intro wa hk;(rw[hw,hd];rfl))
theorem VV
  (h:iR w X A sb kb pb hm pm low) (hX: ∀k,X k->k<w.heap.size):
  Ct pg 343 #[ptr sb 0,.string k] w X nX λv _ _=>v=aeL k (Fu (HZ hm k) .zero true):=by
 intro w0 hk;replace h:=h.mv hX hk.cr;refine I2.1 λhs=>?_;repeat' first|refine ak ?_;intros|(refine qr ?_;intro wa hk;rfl)|(refine UZ (VU (gI:=.zero) h hs.has) hs ?_;intro w X hs)
def Mk (hm:List (BA×List pt)) (x:gw):Bool:=x.writes.any λw=>decide ((Fu (HZ hm w.key) .zero true).2.cmp x.aV>=0)
theorem aeM {x:gw}
  (h:iR w X A sb kb pb hm pm low) (hX: ∀k,X k->k<w.heap.size) (h2:Sl w X 4 vw (x.writes.map KV.l)):
  Ct pg 292 #[ptr sb 0,x.v vr vw] w X nX λv _ _=>v=B (Mk hm x):=by
 intro w0 hk;replace h:=h.mv hX hk.cr;replace h2:=h2.mv hk.cr;have kG:=h2.gO;refine Nw.1 λhs=>?_;repeat' refine ak ?_;intros
 refine fp (λn a w X=> ∃i:Nat,a=I (i:Nat)/\n=(x.writes).length-i/\i<=(x.writes).length/\ai (bK w0) w0 X w/\Mk hm x=(x.writes.drop i).any (λw=>decide ((Fu (HZ hm w.key) .zero true).2.cmp x.aV>=0))) (x.writes).length ⟨0,rfl,rfl,aq _,hs,by simp[Mk]⟩ ?_;rintro n a w X ⟨i,rfl,rfl,hi,hs,hw⟩;rcases dA (x.writes) i with⟨cB,y,hy,hd⟩|⟨dB,hd⟩
 ·rw[hd,yW] at hw;repeat' first|refine aJ ?_;intros|refine cQ ?_ ?_<;>intros|(refine ph (vO _ _) hs ?_;intro w X hs)|(refine qr ?_;intro wa hk;simp_all)|((with_reducible refine eP ((x.writes).length-(i+1)) ?_ ?_);omega;exact⟨i+1,by simp,rfl,by omega,hs,by rw[hw];simp[*]⟩)|(refine UZ (VV (h.mv (λ_ h=>h) (ai.mv hs)) hs.has) hs ?_;intro w X hs)
 ·repeat' first|refine aJ ?_;intros|(refine qr ?_;intro wa hk;simp_all)
abbrev U1 (b:Nat):List Value:=[.int .u8 b]
def pV (u:Nat):List Nat:=if u<128 then [u] else(u % 128+128)::pV (u/128)
termination_by u
decreasing_by omega
def xD (n:Int):Nat:=if n<0 then 18446744073709551615-((n % 18446744073709551616).toNat*2 % 18446744073709551616)else(n % 18446744073709551616).toNat*2 % 18446744073709551616
def encI (n:Int):List Nat:=pV (xD n)
theorem ZW: ∀(k u:Nat),u<128^k->(pV u).length<=max k 1
 |0,u,h=>by grind [pV]
 |k+1,u,h=>by
  unfold pV;split
  ·simp_all
  ·have hk:1<=k:=by
    rcases k with _|k
    ·omega
    ·omega
   have h1:u/128<128^k:=by
    rw[xg dQ,<-Nat.pow_succ];exact h
   have:=ZW k (u/128) h1;simp_all
theorem afq (n:Int):xD n<18446744073709551616:=by
 unfold xD;split<;>omega
theorem fz (n:Int):(encI n).length<=10:=by
 have:=ZW 10 (xD n) (av (afq n) dQ);assumption
def wg (s:BA):List Nat:=encI s.size++s.data.toList.map UInt8.toNat
def agq (u k:Nat):Nat:=u/256^k % 256
def Hd (x:Nat):List Nat:=(dx 8).map (agq (canon x))
def I9 (v:gL):List Nat:=
 let v:=if v.may then v else gL.zero
 encI v.kind++(if v.kind=1 then Hd v.num else if v.kind=2 then wg v.text else [])
def ad8 (b:Bool):List Nat:=[if b then 1 else 0]
def lx (s:cn):List Nat:=encI s.wall++encI s.dy++encI s.node
def nA (t:bE):List Nat:=encI t.ep++encI t.aR++encI t.sq
def sc (x:KV):List Nat:=wg x.key++I9 x.val
def iT {α:Type} (f:α->List Nat) (l:List α):List Nat:=encI l.length++(l.map f).flatten
variable {g lo : Nat} {rows : List (List Value)}
theorem Own.tag {k:Nat} (h:Own w X lo e k v rows) (hg:v.ownBlock=some g): ∃cs:List Value,w.heap[g]? =some (.cells cs.toArray e (0,0)):=by
 rcases h.row with⟨rfl,_⟩|⟨b,cap,cs,rfl,_,hr,_⟩
 ·cases hg
 ·simp only[Value.ownBlock,aj] at hg;subst hg;exact⟨cs,hr.2⟩
theorem Own.eH {e' k:Nat} (h:Own w X lo e k v rows) (hr:aH w Y g cs e') (he:decide (e≠e')=true):v.ownBlock≠some g:=λhg=>by
 obtain⟨c,h1⟩:=Own.tag h hg;rw[hr.2] at h1
 grind
theorem wrap64 (n:Int):IntKind.u64.wrap n=n % 18446744073709551616:=by rfl
theorem MM (n:Int):IntKind.u8.wrap n=n % 256:=by rfl
variable {u : Nat}
def RR {src dst:TypeId} {k:IntKind} (hs:(P.underlying src).isSome=true) (hd:P.underlying dst=some (.int .u8)) (h:N (.int .u8 ((u % 256:Nat):Int))):aX P X w (pH .u8 src dst (.int k (u:Int))) N:=
 aev hs hd aQ
theorem ZX (u:Nat):IntKind.u8.wrap (u:Int)=((u % 256:Nat):Int):=by rfl
def anS (h:N (.int .u64 ((u*2 % 18446744073709551616:Nat):Int))):aX P X w (binOp .shl t (.int .u64 (u:Int)) (.int .u64 1)) N:=
 Sh zQ aQ
theorem anU (h:N (.int .u64 ((u/128:Nat):Int))):aX P X w (binOp .shr t (.int .u64 (u:Int)) (.int .u64 7)) N:=
 Ef zQ (by
  have e:((u:Int)).fdiv (2^min (7:Int).toNat IntKind.u64.bits)=((u/128:Nat):Int):=by
   show((u:Int)).fdiv 128=_
   rw[tg _ dQ];omega
  grind)
theorem anV (h:N (.int .u64 ((u/256:Nat):Int))):aX P X w (binOp .shr t (.int .u64 (u:Int)) (.int .u64 8)) N:=
 Ef zQ (by
  have e:((u:Int)).fdiv (2^min (8:Int).toNat IntKind.u64.bits)=((u/256:Nat):Int):=by
   show((u:Int)).fdiv 256=_
   rw[tg _ dQ];omega
  grind)
theorem anW (hu:u<18446744073709551616) (h:N (.int .u64 ((18446744073709551615-u:Nat):Int))):aX P X w (Op.unary .xor (.int .u64 (u:Int))) N:=by
 refine bF (v:=.int .u64 ((18446744073709551615-u:Nat):Int)) (λwa=>?_) h;have key:(aC 64 18446744073709551615^^^aC 64 (u:Int)).toNat=18446744073709551615-u:=by
  have h1:aC 64 18446744073709551615=BitVec.allOnes 64:=by decide
  have h2:(aC 64 (u:Int))=BitVec.ofNat 64 u:=by simp
  rw[h1,h2,BitVec.allOnes_xor,BitVec.toNat_not,BitVec.toNat_ofNat,fu zQ]
 have e:IntKind.u64.wrap (aC IntKind.u64.bits IntKind.u64.max^^^aC IntKind.u64.bits (u:Int)).toNat=((18446744073709551615-u:Nat):Int):=by
  rw[wrap64]
  show((aC 64 18446744073709551615^^^aC 64 (u:Int)).toNat:Int) % 18446744073709551616=_
  rw[key];omega
 have hk:(Op.unary .xor (.int .u64 (u:Int))).run P wa= .ok (.int .u64 (IntKind.u64.wrap (aC IntKind.u64.bits IntKind.u64.max^^^aC IntKind.u64.bits (u:Int)).toNat)) wa:=by
  simp[Op.unary,Op.intBits,IntKind.signed]
 rw[hk,e]
theorem Qz {k:IntKind} {a:Int} (h:N (.int k (k.wrap (aC k.bits a|||aC k.bits b).toNat))):aX P X w (binOp .or t (.int k a) (.int k b)) N:=
 bF (λwa=>by simp[binOp,Op.intBits]) h
theorem apw: ∀b:Nat,b<256->(aC 8 (b:Int)|||aC 8 128).toNat=b % 128+128:=by decide+kernel
theorem alg {b:Nat} (hb:b<256) (h:N (.int .u8 ((b % 128+128:Nat):Int))):aX P X w (binOp .or t (.int .u8 (b:Int)) (.int .u8 128)) N:=
 Qz (by
  have e:IntKind.u8.wrap (aC IntKind.u8.bits (b:Int)|||aC IntKind.u8.bits 128).toNat=((b % 128+128:Nat):Int):=by
   rw[MM];have:=apw b hb
   show((aC 8 (b:Int)|||aC 8 128).toNat:Int) % 256=_
   rw[this];omega
  grind)
theorem anX {n:Int} (h:N (.int .u64 (((n % 18446744073709551616).toNat*2 % 18446744073709551616:Nat):Int))):aX P X w (binOp .shl t (.int .u64 (IntKind.u64.wrap n)) (.int .u64 1)) N:=by
 have e:IntKind.u64.wrap n=((n % 18446744073709551616).toNat:Int):=by rw[wrap64];omega
 rw[e];exact anS h
theorem apx (h:N (.int .u8 ((u % 128+128:Nat):Int))):aX P X w (binOp .or t (.int .u8 (IntKind.u8.wrap (u:Int))) (.int .u8 128)) N:=by
 rw[ZX];exact alg zQ (by simp_all)
structure Wr (w:World) (X:XS) (lo wb:Nat) (vb:Value) (bs:List Nat):Prop where
 box:aH w X wb [vb] 409
 ow:Own w X lo 5 1 vb (bs.map U1)
def DO (wb:Nat) (vb:Value):XS:=λk=>k=wb\/vb.ownBlock=some k
variable {bs : List Nat} {vb : Value} {wb : Nat}
def Wr.mv (h:Wr w X lo wb vb bs) (m:Mv X w Y w'):Wr w' Y lo wb vb bs:=⟨h.box.mv m,h.ow.mv m⟩
theorem Wr.ne (h:Wr w X lo wb vb bs):vb.ownBlock≠some wb:=Own.eH h.ow h.box (by rfl)
def nW (f:FuncId) (args:Array Value) (w:World) (X:XS) (lo wb:Nat) (vb:Value) (bs ds:List Nat):Prop:=
 Ct pg f args w X (DO wb vb) λv wa w'=>v= .tuple #[]/\ ∃Ml,Wr w' (λk=>DO wb vb k\/made wa w' k) lo wb Ml (bs++ds)
structure WS (w0:World) (th:Value) (w:World) (X:XS) (lo wb:Nat) (vb:Value) (bs:List Nat):Prop where
 s:ai (out (DO wb th) w0) w0 X w
 r:Wr w X lo wb vb bs
 v: ∀g,vb.ownBlock=some g->th.ownBlock=some g\/w0.heap.size<=g
variable {th : Value} {ds : List Nat} {R : Ending -> World -> Prop} {X' : XS}
section
variable {N : Value -> World -> XS -> Prop}
def WS.init (h:Wr w0 (bK w0) lo wb th bs):WS w0 th w0 (bK w0) lo wb th bs:=⟨ai.out _ _,h,λg hg=>.inl hg⟩
def WS.since (h:WS w0 th w X lo wb vb bs) (hs:ai X w X' w'):WS w0 th w' X' lo wb vb bs:=⟨h.s.trans hs,h.r.mv hs.mv,h.v⟩
theorem WS.fin (h:WS w0 th w X lo wb vb (bs++ds)):fin (uF (DO wb th) w0 λv w'=>(λv wa w'=>v= .tuple #[]/\ ∃Ml,Wr w' (λk=>DO wb th k\/made wa w' k) lo wb Ml (bs++ds)) v w0 w') X w (.tuple #[]):=by
 refine aci h.s λwa hk=>⟨rfl,vb,⟨.inl (.inl rfl),(h.r.box.kp hk).2⟩,(h.r.ow.kp hk).1,(h.r.ow.kp hk).2.1,λg hg=>?_⟩;rcases h.v g hg with h1|h1
 ·exact .inl (.inr h1)
 ·exact .inr ⟨h1,((h.r.ow.kp hk).ge hg).2⟩
theorem WS.out (h:WS w0 th w X lo wb vb bs) {k:Nat} (hk:DO wb vb k) (h0:out (DO wb th) w0 k):False:=by
 rcases hk with hk|hk
 ·exact h0.2 (.inl hk)
 ·rcases h.v k hk with h1|h1
  ·exact h0.2 (.inr h1)
  ·have:=h0.1;omega
theorem WS.fv (hS:WS w0 th w X lo wb vb bs) (hp:nW f args w X lo wb vb bs ds) (hf:enters pg f=true)
  (k: ∀Ml w' X',WS w0 th w' X' lo wb Ml (bs++ds)->dY (DO wb vb) X w X' w'->N (.tuple #[]) w' X'):eC pg R X w true f args N:=by
 refine yP hp hf hS.s.has (λq hq=>?_) λv wa w' X' hq hle gv DG hc=>?_
 ·rcases hq with rfl|hq
  ·exact hS.r.box.1
  ·exact hS.r.ow.2.2 q hq
 ·obtain⟨rfl,Ml,hW⟩:=hq;refine k Ml w' X' ⟨hS.s.dX hc λq h0 hq=>hS.out hq h0,⟨⟨hc.sub _ hS.r.box.1,hW.box.2⟩,hW.ow.1,hW.ow.2.1,λg hg=>?_⟩,λg hg=>?_⟩ hc
  ·rcases hW.ow.2.2 g hg with h1|h1
   ·rcases h1 with rfl|h1
    ·exact hc.sub _ hS.r.box.1
    ·exact hc.sub g (hS.r.ow.2.2 g h1)
   grind
  ·rcases hW.ow.2.2 g hg with h1|h1
   ·rcases h1 with rfl|h1
    ·exact absurd hg hW.ne
    ·exact hS.v g h1
   ·right;have:=h1.1;have:=hS.s.kp.size;omega
theorem Mm {b:Nat} (hS:WS w0 th w X lo wb vb bs) (gA:lo<=w.heap.size) (hb:bs.length<=2^40)
  (k: ∀Ml w' X',WS w0 th w' X' lo wb Ml (bs++[b])->N undef w' X'):
  eV pg R X w true (gR 151 5 1 1 #[(0,.int .u8 (b:Int))]) λs w1 X1=>eV pg R X1 w1 true (gu 151 5 1 1 151 vb s) λx w2 X2=>
   lR pg X2 w2 (bu (ptr wb 0)) λp=>aX pg X2 w2 (iA 409 0 0 1 p) λq=>eU pg R X2 w2 true (st1 151 1 q x) N:=by
 refine ak8 hS.r.ow hS.s.has gA kQ (row:=U1 b) rfl rfl rfl oQ oQ λv' w' X' hc ho dh=>?_;have ct: ∀q,eT vb q->q≠wb:=λq hq e=>hS.r.ne (by rw[<-e];exact hq);have gr:aH w' X' wb [vb] 409:=⟨hc.sub _ hS.r.box.1,by rw[hc.block _ hS.r.box.1 λhq=>ct _ hq rfl];exact hS.r.box.2⟩;have sP:=hS.s.dX hc λq h0 hq=>hS.out (.inr hq) h0;have Mn: ∀g,v'.ownBlock=some g->th.ownBlock=some g\/w0.heap.size<=g:=λg hg=>by
  rcases dh with e|⟨g',e,dB⟩
  ·exact hS.v g (e▸hg)
  ·rw[e] at hg;cases hg;right;have:=hS.s.kp.size;omega
 with_reducible apply II
 have UB:fieldInfo pg 409 0=some (0,1):=by kernel_rfl
 refine Rq (gr.cells) UB rfl λo' vG _=>?_;subst vG;refine D4 gr kQ sQ (by obtain⟨_,_,_,rfl⟩:=ho.sl.form;rfl) (by obtain⟨_,_,_,rfl⟩:=ho.sl.form;rfl) sP.has λw3 X3 uD DD=>?_;have aiZ:v'.ownBlock≠some wb:=Own.eH ho gr (by rfl);refine k v' w3 X3 ⟨sP.dX uD λq h0 hq=>h0.2 (.inl hq),⟨?_,?_⟩,Mn⟩
 ·have e:dr [vb] (0+0) v'.cells.toList=[v']:=by obtain⟨_,_,_,rfl⟩:=ho.sl.form;rfl
  grind
 ·rw[aD];exact Own.dX ho uD λg hg e=>aiZ (by rw[hg,e])
end
theorem PL:Ct pg 197 #[] w X nX λv wa w'=> ∃wb,v=ptr wb 0/\Wr w' (made wa w') wa.heap.size wb (.slice none 0 0) []:=by
 intro w0 hk;refine Nt.1 λhs=>?_;repeat' first|refine ak ?_;intros|(refine Od hs ?_;intro bx w X gr ax gf hs bw)
 refine bS (gf.trans hs) λwa aI=>⟨bx,rfl,⟨⟨gr,(bw.kp aI).lt⟩,(bw.kp aI).2⟩,Own.nil _ _ _ _ _⟩
theorem oW {n:Int} (h:Wr w X lo wb vb bs) (hb:bs.length<=2^39) (gA:lo<=w.heap.size):nW 260 #[ptr wb 0,I n] w X lo wb vb bs (encI n):=by
 intro w0 hk;have dg:lo<=w0.heap.size:=ad gA hk.size;have hS:=WS.init (h.mv hk.cr);refine Md.1 λ_=>?_;have hs:=hS.s;have zO:=hS.r.box;repeat' first|refine ak ?_;intros|(with_reducible apply anX)
 refine ij (λk=>k (.int .u64 (xD n:Int))) ?_ ?_
 ·refine fp (λn' a w X=> ∃(u:Nat) (uM:Value) (bsi:List Nat),a= .int .u64 (u:Int)/\n'=u/\WS w0 vb w X lo wb uM bsi/\bsi++pV u=bs++encI n) (xD n) ⟨xD n,vb,bs,rfl,rfl,hS,rfl⟩ ?_;clear hs zO hS;rintro u a w X ⟨_,uM,bsi,rfl,rfl,hS,wN⟩;have hs:=hS.s;have zO:=hS.r.box;have hlen:bsi.length<=2^40:=by
   have h1:=congrArg List.length wN;have h2:=fz n;simp only[aa] at h1;omega
  have S5:lo<=w.heap.size:=ad dg hs.kp.size;by_cases hu:u<128
  ·have he:pV u=[u]:=by rw[pV,if_pos hu]
   repeat' refine aJ ?_;intros
   rw[ZX,show u % 256=u by omega];refine Mm hS S5 hlen λje w2 X2 bg=>?_;rw[<-he,wN] at bg;exact bg.fin
  ·have he:pV u=(u % 128+128)::pV (u/128):=by rw[pV,if_neg hu]
   repeat' first|refine aJ ?_;intros|(with_reducible apply apx)
   refine Mm hS S5 hlen λje w2 X2 bg=>?_;repeat' first|(with_reducible apply anU)
   refine eP (u/128) zQ ⟨u/128,je,_,rfl,rfl,bg,?_⟩
   grind
 ·intro K hK;repeat' first|refine ak ?_;intros|refine cQ ?_ ?_<;>intros|(with_reducible apply anW);omega
  ·have:xD n=18446744073709551615-((n % 18446744073709551616).toNat*2 % 18446744073709551616):=by unfold xD;rw[if_pos zQ]
   grind
  ·have:xD n=(n % 18446744073709551616).toNat*2 % 18446744073709551616:=by unfold xD;rw[if_neg zQ]
   simp_all
theorem ai0 (s:BA):(yL s).map (λx=>[x])=(s.data.toList.map UInt8.toNat).map U1:=by
 unfold yL;simp
variable {v' : Value}
section
variable {N : Value -> World -> XS -> Prop}
theorem anY (hS:WS w0 th w X lo wb vb bs) (hc:dY (eT vb) X w X' w') (ho:Own w' X' lo 5 1 v' (ds.map U1)) (dh:v'.ownBlock=vb.ownBlock\/ ∃g,v'.ownBlock=some g/\w.heap.size<=g)
  (k: ∀w' X',WS w0 th w' X' lo wb v' ds->N undef w' X'):
  lR pg X' w' (bu (ptr wb 0)) λp=>aX pg X' w' (iA 409 0 0 1 p) λq=>eU pg R X' w' true (st1 151 1 q v') N:=by
 have ct: ∀q,eT vb q->q≠wb:=λq hq e=>hS.r.ne (by rw[<-e];exact hq);have gr:aH w' X' wb [vb] 409:=⟨hc.sub _ hS.r.box.1,by rw[hc.block _ hS.r.box.1 λhq=>ct _ hq rfl];exact hS.r.box.2⟩;have sP:=hS.s.dX hc λq h0 hq=>hS.out (.inr hq) h0;have Mn: ∀g,v'.ownBlock=some g->th.ownBlock=some g\/w0.heap.size<=g:=λg hg=>by
  rcases dh with e|⟨g',e,dB⟩
  ·exact hS.v g (e▸hg)
  ·rw[e] at hg;cases hg;right;have:=hS.s.kp.size;omega
 with_reducible apply II
 have UB:fieldInfo pg 409 0=some (0,1):=by kernel_rfl
 refine Rq (gr.cells) UB rfl λo' vG _=>?_;subst vG;refine D4 gr kQ sQ (by obtain⟨_,_,_,rfl⟩:=ho.sl.form;rfl) (by obtain⟨_,_,_,rfl⟩:=ho.sl.form;rfl) sP.has λw3 X3 uD DD=>?_;have aiZ:v'.ownBlock≠some wb:=Own.eH ho gr kQ;refine k w3 X3 ⟨sP.dX uD λq h0 hq=>h0.2 (.inl hq),⟨?_,?_⟩,Mn⟩
 ·have e:dr [vb] (0+0) v'.cells.toList=[v']:=by obtain⟨_,_,_,rfl⟩:=ho.sl.form;rfl
  rw[e] at DD;exact DD
 ·exact Own.dX ho uD λg hg e=>aiZ (by rw[hg,e])
end
theorem OB {s:BA} (h:Wr w X lo wb vb bs) (hb:bs.length<=2^38) (gA:lo<=w.heap.size) (gf:s.size<=2^38):nW 328 #[ptr wb 0,.string s] w X lo wb vb bs (wg s):=by
 intro w0 hk;have dg:lo<=w0.heap.size:=ad gA hk.size;have hS:=WS.init (h.mv hk.cr);refine Kj.1 λ_=>?_;have hs:=hS.s;repeat' refine ak ?_;intros
 refine hS.fv (oW hS.r zQ dg) kQ λje w2 X2 bg qi=>?_;clear hs;have hs:=bg.s;have zO:=bg.r.box;have By:=fz s.size;repeat' refine ak ?_;intros
 refine anG (bytes:=1) bg.r.ow hs.has (ad dg hs.kp.size) kQ kQ oQ oQ λv' w3 X3 hc ho dh=>?_;rw[ai0,<-aD] at ho;refine anY bg hc ho dh λw4 X4 gZ=>?_;rw[ao] at gZ;exact gZ.fin
theorem Mo {x:Nat} (h:Wr w X lo wb vb bs) (hb:bs.length<=2^39) (gA:lo<=w.heap.size):nW 273 #[ptr wb 0,.float .f64 x] w X lo wb vb bs (Hd x):=by
 intro w0 hk;have dg:lo<=w0.heap.size:=ad gA hk.size;have hS:=WS.init (h.mv hk.cr);refine IX.1 λ_=>?_;have hs:=hS.s;repeat' first|((with_reducible refine rL (D9 _) ?_ hs.has ?_);(· kernel_rfl);intro w X ax;replace hs:=hs.trans ax)
 refine gz (λn' a b w X=> ∃(i:Nat) (uM:Value),a=I i/\b= .int .u64 ((canon x/256^i:Nat):Int)/\n'=8-i/\i<=8/\WS w0 vb w X lo wb uM (bs++(dx i).map (agq (canon x)))) 8
  ⟨0,vb,rfl,by simp,rfl,by omega,by simpa using hS.since aQ⟩ ?_
 clear hs hS ax;rintro n' a b w X ⟨i,uM,rfl,rfl,rfl,hi,hS⟩;have hs:=hS.s;have zO:=hS.r.box;have S5:lo<=w.heap.size:=ad dg hs.kp.size;by_cases h8:i<8
 ·repeat' refine aJ ?_;intros
  rw[ZX];refine Mm hS S5 oQ λje w2 X2 bg=>?_;repeat' first|refine ak ?_;intros|(with_reducible apply anV)
  refine fB (8-(i+1)) zQ ⟨i+1,je,by simp,?_,rfl,by omega,?_⟩
  ·rw[Nat.div_div_eq_div_mul,Nat.pow_succ]
  ·rw[List.range_succ,aD,<-ao];exact bg
 ·obtain rfl:i=8:=by omega
  repeat' refine aJ ?_;intros
  exact hS.fin
theorem ZY (h:Wr w X lo wb vb bs) (hb:bs.length<=2^40):Ct pg 198 #[ptr wb 0] w X nX λv wa w'=>Own w' (made wa w') wa.heap.size 5 1 v (bs.map U1):=by
 intro w0 hk;replace h:=h.mv hk.cr;have zO:=h.box;refine IU.1 λhs=>?_;repeat' first|refine ak ?_;intros|(refine QG hs ?_;intro acc w X hs ho)|(refine qr ?_;intro wa hk;(exact(ho.kp hk).tight))|((with_reducible apply qj);(case own=>assumption);(case hs=>assumption);(case h0=>exact λ_ h=>h);(case he=>kernel_rfl);(case src=>exact Sl.mv h.ow.sl (ai.mv hs));(case h1=>simp[aL.one]);(case hb=>simp;omega);(case hl=>simp;omega);intro acc w X ax ho hc dh;replace hs:=ax;rw[cC] at ho)
theorem abr {b:Bool} (h:Wr w X lo wb vb bs) (hb:bs.length<=2^39) (gA:lo<=w.heap.size):nW 271 #[ptr wb 0,B b] w X lo wb vb bs (ad8 b):=by
 intro w0 hk;have dg:lo<=w0.heap.size:=ad gA hk.size;have hS:=WS.init (h.mv hk.cr);refine Ki.1 λ_=>?_;have hs:=hS.s;have zO:=hS.r.box;cases b<;>
 repeat' refine ak ?_;intros
 ·refine Mm (b:=0) hS dg zQ λje w2 X2 bg=>?_;exact bg.fin
 ·refine Mm (b:=1) hS dg zQ λje w2 X2 bg=>?_;exact bg.fin
def uz (Z X:XS) (wb:Nat) (vb:Value):Prop:= ∀k,Z k->X k/\ ¬DO wb vb k
variable {Z : XS}
def WS.z (hS:WS w0 th w X lo wb vb bs):uz (aL.out (DO wb th) w0) X wb vb:=λk h=>⟨hS.s.sub k h,λhf=>hS.out hf h⟩
def WS.at (hS:WS w0 th w X lo wb vb bs):Mv (aL.out (DO wb th) w0) w0 (aL.out (DO wb th) w0) w:=λk hk _=>⟨hk,hS.s.kp.block k hk⟩
def uz.mv (h:uz Z X wb vb) (hk:Kp X w w0):Mv Z w (out (DO wb vb) w0) w0:=λk af hl=>⟨⟨av hl hk.size,(h k af).2⟩,hk.block k (h k af).1⟩
abbrev kZ (wb:Nat):List Value:=[ptr wb 0,.pointer none]
theorem abt {v:gL} (h:Wr w X lo wb vb bs) (hb:bs.length<=2^37) (gA:lo<=w.heap.size):nW 333 #[ptr wb 0,v.v] w X lo wb vb bs (I9 v):=by
 intro w0 hk;have dg:lo<=w0.heap.size:=ad gA hk.size;have hS:=WS.init (h.mv hk.cr);refine ZH.1 λ_=>?_;refine ij (λk=> ∀w X,ai (bK w0) w0 X w->k (if v.may then v else gL.zero).v w X) ?_ ?_
 ·intro w X hsX;generalize hu:(if v.may then v else gL.zero)=u;have hue:I9 v=encI u.kind++(if u.kind=1 then Hd u.num else if u.kind=2 then wg u.text else []):=by unfold I9;simp only[hu]
  have hut:u.kind=2->u.text.size<=64:=by
   intro h2;by_cases hm:v.may=true
   ·rw[if_pos hm] at hu;subst hu;unfold gL.may at hm;rw[if_neg zQ,if_neg zQ,if_pos h2] at hm;simp at hm;omega
   ·rw[if_neg hm] at hu;rw[<-hu] at h2;cases h2
  have lU:=hS.since hsX;replace hs:=lU.s;repeat' refine ak ?_;intros
  refine lU.fv (oW lU.r zQ (ad dg hs.kp.size)) kQ λje w2 X2 bg qi=>?_;have he:=fz u.kind;replace hs:=bg.s;repeat' refine ak ?_;intros
  refine ij (λk=> ∀w X mQ,WS w0 vb w X lo wb mQ (bs++I9 v)->k w X) ?_ ?_
  ·intro w X mQ bV;exact bV.fin
  ·intro K hK;rw[hue,<-ao] at hK;repeat' first|refine ak ?_;intros|refine cQ ?_ ?_<;>intros
   ·refine bg.fv (Mo bg.r oQ (ad dg hs.kp.size)) kQ λmQ w3 X3 bV uD=>?_;replace hs:=bV.s
    skip
    rw[if_pos zQ] at hK;exact hK _ _ _ bV
   ·refine bg.fv (OB bg.r oQ (ad dg hs.kp.size) (by have:=hut zQ;omega)) kQ λmQ w3 X3 bV uD=>?_;replace hs:=bV.s
    skip
    rw[if_neg zQ,if_pos zQ] at hK;exact hK _ _ _ bV
   ·rw[if_neg zQ,if_neg zQ] at hK;rw[List.append_nil] at hK;exact hK _ _ _ bg
 ·intro K hK;have hs:=ai.init w0;cases hm:v.may<;>rw[hm] at hK
  ·repeat' first|refine ak ?_;intros|(refine kh (l7 _) hs ?_ ?_<;>intro _ w X hs)
   all_goals first|exact hK _ _ hs|(exfalso;simp_all)
  ·repeat' first|refine ak ?_;intros|(refine kh (l7 _) hs ?_ ?_<;>intro _ w X hs)
   all_goals first|exact hK _ _ hs|(exfalso;simp_all)
variable {cb xb xo : Nat}
theorem jO {n:Int} (h:Wr w X lo wb vb bs) (hc:Cells w Z cb 0 (kZ wb)) (hx:Cells w Z xb xo [I n]) (hZ:uz Z X wb vb) (hb:bs.length<=2^38) (gA:lo<=w.heap.size):
  nW 183 #[ptr cb 0,ptr xb xo] w X lo wb vb bs (encI n):=by
 intro w0 hk;have dg:lo<=w0.heap.size:=ad gA hk.size;replace hc:=hc.mv (hZ.mv hk);replace hx:=hx.mv (hZ.mv hk);have hS:=WS.init (h.mv hk.cr);refine CJ.1 λ_=>?_;have hs:=hS.s;repeat' refine ak ?_;intros
 refine hS.fv (oW hS.r zQ dg) kQ λje w2 X2 bg qi=>?_
 skip
 exact bg.fin
theorem Bt {s:BA} (h:Wr w X lo wb vb bs) (hc:Cells w Z cb 0 (kZ wb)) (hx:Cells w Z xb xo [.string s]) (hZ:uz Z X wb vb) (hb:bs.length<=2^38) (gA:lo<=w.heap.size) (gf:s.size<=2^38):
  nW 268 #[ptr cb 0,ptr xb xo] w X lo wb vb bs (wg s):=by
 intro w0 hk;have dg:lo<=w0.heap.size:=ad gA hk.size;replace hc:=hc.mv (hZ.mv hk);replace hx:=hx.mv (hZ.mv hk);have hS:=WS.init (h.mv hk.cr);refine Kh.1 λ_=>?_;have hs:=hS.s;repeat' refine ak ?_;intros
 refine hS.fv (OB hS.r zQ dg gf) kQ λje w2 X2 bg qi=>?_
 skip
 exact bg.fin
theorem kj {s:cn} (h:Wr w X lo wb vb bs) (hc:Cells w Z cb 0 (kZ wb)) (hx:Cells w Z xb xo s.l) (hZ:uz Z X wb vb) (hb:bs.length<=2^37) (gA:lo<=w.heap.size):
  nW 189 #[ptr cb 0,ptr xb xo] w X lo wb vb bs (lx s):=by
 have e1:=fz s.wall;have e2:=fz s.dy;intro w0 hk;have dg:lo<=w0.heap.size:=ad gA hk.size;replace hc:=hc.mv (hZ.mv hk);replace hx:=hx.mv (hZ.mv hk);have hS:=WS.init (h.mv hk.cr);refine AX.1 λ_=>?_;have hs:=hS.s;repeat' refine ak ?_;intros
 refine hS.fv (jO (hS.r) (hc.mv hS.at) (Cells.mv aQ hS.at) hS.z zQ dg) kQ λje w2 X2 bg qi=>?_;replace hs:=bg.s;repeat' refine ak ?_;intros
 refine bg.fv (jO (bg.r) (hc.mv bg.at) (Cells.mv aQ bg.at) bg.z oQ (ad dg hs.kp.size)) kQ λmQ w3 X3 bV uD=>?_;replace hs:=bV.s;repeat' refine ak ?_;intros
 refine bV.fv (jO (bV.r) (hc.mv bV.at) (Cells.mv aQ bV.at) bV.z oQ (ad dg hs.kp.size)) kQ λRU w4 X4 gZ EO=>?_;replace hs:=gZ.s
 skip
 rw[ao,ao,<-ao (encI s.wall)] at gZ;exact gZ.fin
theorem zx {s:bE} (h:Wr w X lo wb vb bs) (hc:Cells w Z cb 0 (kZ wb)) (hx:Cells w Z xb xo s.l) (hZ:uz Z X wb vb) (hb:bs.length<=2^37) (gA:lo<=w.heap.size):
  nW 187 #[ptr cb 0,ptr xb xo] w X lo wb vb bs (nA s):=by
 have e1:=fz s.ep;have e2:=fz s.aR;intro w0 hk;have dg:lo<=w0.heap.size:=ad gA hk.size;replace hc:=hc.mv (hZ.mv hk);replace hx:=hx.mv (hZ.mv hk);have hS:=WS.init (h.mv hk.cr);refine CM.1 λ_=>?_;have hs:=hS.s;repeat' refine ak ?_;intros
 refine hS.fv (jO (hS.r) (hc.mv hS.at) (Cells.mv aQ hS.at) hS.z zQ dg) kQ λje w2 X2 bg qi=>?_;replace hs:=bg.s;repeat' refine ak ?_;intros
 refine bg.fv (jO (bg.r) (hc.mv bg.at) (Cells.mv aQ bg.at) bg.z oQ (ad dg hs.kp.size)) kQ λmQ w3 X3 bV uD=>?_;replace hs:=bV.s;repeat' refine ak ?_;intros
 refine bV.fv (jO (bV.r) (hc.mv bV.at) (Cells.mv aQ bV.at) bV.z oQ (ad dg hs.kp.size)) kQ λRU w4 X4 gZ EO=>?_;replace hs:=gZ.s
 skip
 rw[ao,ao,<-ao (encI s.ep)] at gZ;exact gZ.fin
theorem zY (s:BA):(wg s).length=(encI s.size).length+s.size:=by
 unfold wg;rw[aa,ah]
 congr 1
theorem YX {v:gL} :(I9 v).length<=100:=by
 unfold I9;generalize hu:(if v.may then v else gL.zero)=u;have h1:=fz u.kind;have hut:u.kind=2->u.text.size<=64:=by
  intro h2;by_cases hm:v.may=true
  ·rw[if_pos hm] at hu;subst hu;unfold gL.may at hm;rw[if_neg zQ,if_neg zQ,if_pos h2] at hm;simp at hm;omega
  ·rw[if_neg hm] at hu;rw[<-hu] at h2;cases h2
 dsimp only;rw[aa];by_cases k1:u.kind=1
 ·rw[if_pos k1];unfold Hd;simp;omega
 ·rw[if_neg k1];by_cases k2:u.kind=2
  ·rw[if_pos k2];have h3:=hut k2;have h4:=fz u.text.size;rw[zY];omega
  ·rw[if_neg k2];simp;omega
theorem Dx {v:gL} (h:Wr w X lo wb vb bs) (hc:Cells w Z cb 0 (kZ wb)) (hx:Cells w Z xb xo v.l) (hZ:uz Z X wb vb) (hb:bs.length<=2^37) (gA:lo<=w.heap.size):
  nW 275 #[ptr cb 0,ptr xb xo] w X lo wb vb bs (I9 v):=by
 intro w0 hk;have dg:lo<=w0.heap.size:=ad gA hk.size;replace hc:=hc.mv (hZ.mv hk);replace hx:=hx.mv (hZ.mv hk);have hS:=WS.init (h.mv hk.cr);refine IY.1 λ_=>?_;have hs:=hS.s;repeat' refine ak ?_;intros
 refine hS.fv (abt hS.r zQ dg) kQ λje w2 X2 bg qi=>?_
 skip
 exact bg.fin
theorem VW (h:Wr w X lo wb vb bs) (hc:Cells w Z cb 0 (kZ wb)) (hx:Cells w Z xb xo x.l) (hZ:uz Z X wb vb) (hb:bs.length<=2^35) (gA:lo<=w.heap.size) (gf:x.key.size<=2^35):
  nW 192 #[ptr cb 0,ptr xb xo] w X lo wb vb bs (sc x):=by
 have e1:(wg x.key).length<=10+x.key.size:=by
  have:=fz x.key.size;rw[zY];omega
 intro w0 hk;have dg:lo<=w0.heap.size:=ad gA hk.size;replace hc:=hc.mv (hZ.mv hk);replace hx:=hx.mv (hZ.mv hk);have hS:=WS.init (h.mv hk.cr);refine IT.1 λ_=>?_;have hs:=hS.s;repeat' refine ak ?_;intros
 refine hS.fv (Bt hS.r (hc.mv hS.at) (Cells.mv aQ hS.at) hS.z zQ dg zQ) kQ λje w2 X2 bg qi=>?_;replace hs:=bg.s;repeat' refine ak ?_;intros
 refine bg.fv (Dx (v:=x.val) bg.r (hc.mv bg.at) (Cells.mv aQ bg.at) bg.z oQ (ad dg hs.kp.size)) kQ λmQ w3 X3 bV uD=>?_;replace hs:=bV.s
 skip
 rw[ao] at bV;exact bV.fin
theorem ZZ (h:Wr w X lo wb vb bs) (hc:Cells w Z cb 0 (kZ wb)) (hx:Cells w Z xb xo x.l) (hZ:uz Z X wb vb) (hb:bs.length<=2^35) (gA:lo<=w.heap.size) (gf:x.key.size<=2^35):
  nW 194 #[ptr cb 0,ptr xb xo] w X lo wb vb bs (sc x):=by
 have e1:(wg x.key).length<=10+x.key.size:=by
  have:=fz x.key.size;rw[zY];omega
 intro w0 hk;have dg:lo<=w0.heap.size:=ad gA hk.size;replace hc:=hc.mv (hZ.mv hk);replace hx:=hx.mv (hZ.mv hk);have hS:=WS.init (h.mv hk.cr);refine Ke.1 λ_=>?_;have hs:=hS.s;repeat' refine ak ?_;intros
 refine hS.fv (Bt hS.r (hc.mv hS.at) (Cells.mv aQ hS.at) hS.z zQ dg zQ) kQ λje w2 X2 bg qi=>?_;replace hs:=bg.s;repeat' refine ak ?_;intros
 refine bg.fv (Dx (v:=x.val) bg.r (hc.mv bg.at) (Cells.mv aQ bg.at) bg.z oQ (ad dg hs.kp.size)) kQ λmQ w3 X3 bV uD=>?_;replace hs:=bV.s
 skip
 rw[ao] at bV;exact bV.fin
theorem lM {α:Type} {f:α->List Nat} {xs:List α} {i:Nat} {x:α} (h:xs[i]? =some x):((xs.take (i+1)).map f).flatten=((xs.take i).map f).flatten++f x:=by
 rw[cj,h];simp
theorem uJ (s:cn):(lx s).length<=30:=by
 have h1:=fz s.wall;have h2:=fz s.dy;have h3:=fz s.node;unfold lx;simp only[aa];omega
theorem CX (s:bE):(nA s).length<=30:=by
 have h1:=fz s.ep;have h2:=fz s.aR;have h3:=fz s.sq;unfold nA;simp only[aa];omega
theorem VX {x:gw}
  (h:iR w X A sb kb pb hm pm low) (hX: ∀k,X k->k<w.heap.size) (h1:Sl w X 1 vr (x.reads.map S1)) (h2:Sl w X 4 vw (x.writes.map KV.l)):
  Ct pg 291 #[ptr sb 0,x.v vr vw] w X nX λv _ _=>v=B (pm.any λq=>x.Ea q.2):=by
 intro w0 hk;replace h:=h.mv hX hk.cr;replace h1:=h1.mv hk.cr;replace h2:=h2.mv hk.cr;have gr:=h.box;have CK:=h1.gO;have xt:=h2.gO;refine I0.1 λhs=>?_;repeat' refine ak ?_;intros
 refine ak3 (kt:=34) (et:=306) h.gY qv.mv h.sub kQ hs.has λr w X hr ax NK=>?_;replace hs:=hs.trans ax;refine gz (λn _ _ w X=> ∃left,n=left.length/\ai (bK w0) w0 X w/\LZ w X A r pb (λk:bE=>k.v) qv pm left/\(pm.any λq=>x.Ea q.2)=left.any λq=>x.Ea q.2)
  pm.length ⟨pm,rfl,hs,NK,rfl⟩ ?_
 rintro n a b w X ⟨left,rfl,hs,NK,hw⟩;refine anC NK qv.mv (λk hk=>⟨hs.sub k (h.sub k hk),λe=>by have:k<w0.heap.size:=h.sub k hk;omega⟩) hs.has (λe0 w X ax=>?_) λkx q v lT w1 X1 hc jw ars he=>?_
 ·replace hs:=hs.trans ax;repeat' first|refine ak ?_;intros|(refine qr ?_;intro wa hk;(rw[hw,e0];rfl))
 ·have gf:=hs.dX hc λk hk e=>by have:k<w0.heap.size:=hk;omega
  obtain⟨ur,uw,rfl,q1,q2⟩:=jw;have hA1: ∀k,A k->X1 k:=λk hk=>gf.sub k (h.sub k hk);replace q1:=q1.mv (Mv.sub hA1);replace q2:=q2.mv (Mv.sub hA1);have o1:=q1.one;have o2:=q2.one;rw[agc _ NK.nodup lT] at hw;replace hs:=ai.fG gf.has;repeat' refine ak ?_;intros
  refine ak4 hs.has he λw X ax=>?_;replace hs:=hs.trans ax;repeat' refine ak ?_;intros
  refine fp (λn a w X=> ∃i:Nat,a=I (i:Nat)/\n=x.writes.length-i/\i<=x.writes.length/\ai X1 w1 X w/\
   (x.writes.any (λw=>q.has w.key||q.reads.any λk=>decide (w.key=k))=(x.writes.drop i).any (λw=>q.has w.key||q.reads.any λk=>decide (w.key=k)))) x.writes.length
   ⟨0,rfl,rfl,aq _,hs,by simp⟩ ?_
  rintro n a w X ⟨i,rfl,rfl,hi,hs,uN⟩;rcases dA (x.writes) i with⟨cB,y,hy,hd⟩|⟨dB,hd⟩
  ·rw[hd,yW] at uN;repeat' first|refine aJ ?_;intros|with_reducible apply cD|(refine qr ?_;intro wa hk;(rw[hw];simp[gw.Ea,uN, *]))|((with_reducible refine eP ((x.writes).length-(i+1)) ?_ ?_);omega;exact⟨i+1,by simp,rfl,by omega,hs,by rw[uN];simp[*]⟩)|(refine qk (JP  (p:=q) hs.has qA) hs ?_ ?_<;>intro _ w X hs)|(refine qk (uT  qA) hs ?_ ?_<;>intro _ w X hs)
  ·rw[hd] at uN;repeat' refine aJ ?_;intros
   refine fp (λn a w X=> ∃i:Nat,a=I (i:Nat)/\n=x.reads.length-i/\i<=x.reads.length/\ai X1 w1 X w/\
    (x.reads.any (λk=>q.has k)=(x.reads.drop i).any (λk=>q.has k))) x.reads.length
    ⟨0,rfl,rfl,aq _,hs,by simp⟩ ?_
   rintro n a w X ⟨j,rfl,rfl,hj,hs,vN⟩;rcases dA x.reads j with⟨cB,y,hy,sk⟩|⟨EL,sk⟩
   ·rw[sk,yW] at vN;repeat' first|refine aJ ?_;intros|(refine qr ?_;intro wa hk;(rw[hw];simp[gw.Ea,vN, *]))|((with_reducible refine eP (x.reads.length-(j+1)) ?_ ?_);omega;exact⟨j+1,by simp,rfl,by omega,hs,by rw[vN];simp[*]⟩)|(refine qk (JP  (p:=q) hs.has qA) hs ?_ ?_<;>intro _ w X hs)
   ·rw[sk] at vN;repeat' refine aJ ?_;intros
    refine fB _ (ak2 lT) ⟨_,rfl,gf.trans hs,ars.mv qv.mv (ai.mv hs) (ai.jd hs hA1),?_⟩;rw[hw];have:x.Ea q=false:=by unfold gw.Ea;rw[uN,vN];rfl
    simp[this]
def gw.fresh (wa w':World) (v:Value) (p:gw):Prop:=
 ∃vr vw,v=p.v vr vw/\Own w' (made wa w') wa.heap.size 9 1 vr (p.reads.map S1)/\Own w' (made wa w') wa.heap.size 178 4 vw (p.writes.map KV.l)/\
  ∀g,vr.ownBlock=some g->vw.ownBlock≠some g
theorem Z2 (h1:Sl w X 1 vr (p.reads.map S1)) (h2:Sl w X 4 vw (p.writes.map KV.l)) (lK:p.reads.length<=2^40) (wJ:p.writes.length<=2^40):
  Ct pg 293 #[p.v vr vw] w X nX λv wa w'=>p.fresh wa w' v:=by
  intro w0 hk;replace h1:=h1.mv hk.cr;replace h2:=h2.mv hk.cr;refine VM.1 λhs=>?_;refine cu (JO h1 lK) kQ hs.has ?_;rintro v1 wa w X uH pU nq ax;replace hs:=hs.trans ax;have q1:=uH.sl.one;repeat' refine ak ?_;intros
  refine cu (HX (h2.mv (ai.mv hs)) wJ) kQ hs.has ?_;rintro v2 wb w2 X2 kq lu ka bB;have hb:w0.heap.size<=wa.heap.size:=pU;have anZ:Own w X w0.heap.size 9 1 v1 (p.reads.map S1):=uH.up nq hb;have art:=anZ.since bB;have aru:w0.heap.size<=wb.heap.size:=ad hs.kp.size lu;have arv:Own w2 X2 w0.heap.size 178 4 v2 (p.writes.map KV.l):=kq.up ka aru;have q2:=kq.sl.one;replace hs:=hs.trans bB;repeat' first|refine ak ?_;intros|(refine qr ?_;intro wa hk;(exact⟨v1,v2,rfl,(art.kp hk).tight,(arv.kp hk).tight,λg YG xp=>by have:=(anZ.ge YG).2;have:=(kq.ge xp).1;omega⟩))
def BS (X:XS) (a b c:Nat):XS:=λk=>X k/\k≠a/\k≠b/\k≠c
theorem aeN:Ct pg 288 #[] w X nX λv wa w'=>
  ∃sb kb pb,v=ptr sb 0/\iR w' (made wa w') (BS (made wa w') sb kb pb) sb kb pb [] [] .zero/\sb≠kb/\sb≠pb/\kb≠pb:=by
 intro w0 hk;refine abl.1 λhs=>?_;refine qY (kv:=λs:BA=>aO s) rQ nX hs.has λkb w1 X1 pe ax qo=>?_;refine qY (kv:=λk:bE=>k.v) qv nX ax.has λpb w2 X2 Gb bB ri=>?_;have arw:=qo.x;have arx:=ri.x;have ary:=qo.mv rQ.mv (ai.mv bB) (Y:=X2) (A':=nX) (λ_ h=>h.elim);replace hs:=(hs.trans ax).trans bB;repeat' first|refine ak ?_;intros|(refine Od hs ?_;intro bx w X gr ax gf hs bw)
 refine bS (gf.trans hs) ?_;intro wa hk;have qh:=(bw.kp hk).lt;have an0:=ax.kp.trans (hk.less ax.sub);have arz:made w0 wa kb:=⟨pe,by omega⟩;have arA:made w0 wa pb:=⟨by omega,by omega⟩;exact⟨bx,kb,pb,rfl,⟨bw.own.mv (Mv.one hk bw.1 ⟨by omega,qh⟩),ary.own.mv rQ.mv (Mv.one an0 (bB.sub _ arw.1) arz) (λ_ h=>h.elim),
  ri.own.mv qv.mv (Mv.one an0 arx.1 arA) (λ_ h=>h.elim),λk hk=>hk.1,λk hk=>hk.2⟩,by omega,by omega,by omega⟩
def Dc:BA->List kz->Bool
 |_,[]=>true
 |a,h::r=>h.ok a&&Dc h.key r
def yd (l:List kz):List (BA×List pt):=l.foldl (λm h=>cK h.key h.mE m) []
def RV (hm:List (BA×List pt)):List (bE×gw)->List gw->Int
 |_,[]=>0
 |pm,p::r=>if p.err≠0 then p.err else if(getM p.aM pm).isSome then 9 else if pm.any (λq=>p.Ea q.2)then 18 else if Mk hm p then 20
  else RV hm (cK p.aM p pm) r
def Ek (hl:List kz) (pl:List gw):Int:=if Dc ⟨#[]⟩ hl then RV (yd hl) [] pl else 4
def iR.grow {A':XS} (h:iR w X A sb kb pb hm pm low)
  (hA: ∀k,A k->A' k) (hs: ∀k,A' k->X k/\k≠sb/\k≠kb/\k≠pb):iR w X A' sb kb pb hm pm low:=
 ⟨h.box,h.keys.mv rQ.mv (Mv.refl _ _) (Mv.sub hA),h.gY.mv qv.mv (Mv.refl _ _) (Mv.sub hA),λk hk=>(hs k hk).1,λk hk=>(hs k hk).2⟩
def iR.to (h:iR w X (BS X sb kb pb) sb kb pb hm pm low)
  (hs:ai X w Y w') (hX: ∀k,X k->k<w.heap.size):iR w' Y (BS Y sb kb pb) sb kb pb hm pm low:=
 (h.mv hX (ai.mv hs)).grow (λk hk=>⟨hs.sub k hk.1,hk.2⟩) λk hk=>hk
def XL (lo:Nat) (X:XS):XS:=λk=>X k/\lo<=k
def iR.toL (h:iR w X (BS (XL lo X) sb kb pb) sb kb pb hm pm low)
  (hs:ai X w Y w') (hX: ∀k,X k->k<w.heap.size):iR w' Y (BS (XL lo Y) sb kb pb) sb kb pb hm pm low:=
 (h.mv hX (ai.mv hs)).grow (λk hk=>⟨⟨hs.sub k hk.1.1,hk.1.2⟩,hk.2⟩) λk hk=>⟨hk.1.1,hk.2⟩
variable {wa : World}
theorem iR.fin (h:iR w X (BS (XL w0.heap.size X) sb kb pb) sb kb pb hm pm low)
  (hk:Kp X w wa) (h1:w0.heap.size<=sb) (h2:w0.heap.size<=kb) (h3:w0.heap.size<=pb):iR wa (made w0 wa) (BS (made w0 wa) sb kb pb) sb kb pb hm pm low:=by
 have hz:=hk.size;have ma:Mv (BS (XL w0.heap.size X) sb kb pb) w (BS (made w0 wa) sb kb pb) wa:=λk af hl=>⟨⟨⟨af.1.2,by omega⟩,af.2⟩,hk.block k af.1.1⟩;have l1:=h.box.lt;have l2:=h.keys.x.2;have l3:=h.gY.x.2;exact⟨h.box.own.mv (Mv.one hk h.box.1 ⟨h1,by omega⟩),h.keys.own.mv rQ.mv (Mv.one hk h.keys.x.1 ⟨h2,by omega⟩) ma,h.gY.own.mv qv.mv (Mv.one hk h.gY.x.1 ⟨h3,by omega⟩) ma,λk hk=>hk.1,λk hk=>hk.2⟩
def Tu (l:List gw):List (bE×gw):=l.foldl (λm p=>cK p.aM p m) []
def Lj (l:List gw):Prop:= ∀p∈l,p.reads.length<=2^40/\p.writes.length<=2^40
def Li (l:List kz):Prop:= ∀h∈l,h.mE.length<=2^40
variable {pl : List gw} {hl : List kz}
theorem Z3 (h1:qx w X vh hl) (h2:qw w X vp pl) (lK:Li hl) (wJ:Lj pl):
  Ct pg 220 #[vh,vp] w X nX λv wa w'=> ∃(u:Value) (n:Int),v= .tuple #[u,I n]/\n=Ek hl pl/\
   (n=0-> ∃sb kb pb,u=ptr sb 0/\sb≠kb/\sb≠pb/\kb≠pb/\iR w' (made wa w') (BS (made wa w') sb kb pb) sb kb pb (yd hl) (Tu pl) .zero):=by
 intro w0 hk;replace h1:=h1.mv hk.cr;replace h2:=h2.mv hk.cr;have CK:=h1.len;have xt:=h2.len;refine Zy.1 λhs=>?_;refine cu aeN kQ hs.has ?_;rintro v wa w X ⟨sb,kb,pb,rfl,fP,ne1,ne2,ne3⟩ hle gv ax;have TQ:w0.heap.size<=sb:=ad hle fP.box.1.1;have pe:w0.heap.size<=kb:=ad hle fP.keys.x.1.1;have Gb:w0.heap.size<=pb:=ad hle fP.gY.x.1.1;replace hs:=hs.trans ax;have arB:iR w X (BS (XL w0.heap.size X) sb kb pb) sb kb pb [] [] .zero:=(fP.mv (λk hk=>hk.2) (Mv.sub gv)).grow (λk hk=>⟨⟨gv k hk.1,ad hle hk.1.1⟩,hk.2⟩) λk hk=>⟨hk.1.1,hk.2⟩;clear fP;repeat' refine ak ?_;intros
 refine gz (λn a b w X=> ∃(i:Nat) (s:BA),a=I i/\b= .string s/\n=hl.length-i/\i<=hl.length/\ai (bK w0) w0 X w/\
  iR w X (BS (XL w0.heap.size X) sb kb pb) sb kb pb (yd (hl.take i)) [] .zero/\Dc ⟨#[]⟩ hl=Dc s (hl.drop i)) hl.length
  ⟨0,⟨#[]⟩,rfl,rfl,rfl,aq _,hs,arB,by rw[te]⟩ ?_
 rintro n a b w X ⟨i,s,rfl,rfl,rfl,hi,gf,fP,hw⟩;have hs:=ai.fG gf.has;rcases dA (hl) i with⟨cB,x,hx,hd⟩|⟨dB,hd⟩
 ·rw[hd,Dc] at hw;have JL:=lK x (aA hx);have gr:=fP.box;repeat' first|refine aJ ?_;intros|((with_reducible apply RO);assumption;(try (case hz=>rfl));(case hr=>exact qR);(try (case hz=>omega));(case ht=>kernel_rfl);(case hs=>kernel_rfl);intros)|(refine qk (Tt (h:=x) (ahead:=s) (by first|assumption|exact Sl.mv aQ (ai.mv (gf.trans hs)))) hs ?_ ?_<;>intro _ w X hs)|(first|(with_reducible refine bS (gf.trans hs) ?_);intro wa hk;exact⟨_,_,rfl,by rw[Ek,hw];simp[*],λe=>absurd e dQ⟩)
  have hvv:= ‹Sl w0 (bK w0) 6 _ (x.mE.map pt.l)›;have lh:= ‹x.ok s=true›;refine cu (PJ (hvv.mv (ai.mv (gf.trans hs))) JL) kQ hs.has ?_;rintro v1 wa w2 X2 uH pU nq bB;have Yb:=hs.kp.size;have PM:=fP.toL (hs.trans bB) gf.has;have kW:Sl w2 (BS (XL w0.heap.size X2) sb kb pb) 6 v1 (x.mE.map pt.l):=uH.sl.mv (Mv.sub λk hk=>⟨⟨nq k hk,by have:w0.heap.size<=_:=ad gf.kp.size hs.kp.size;have:=hk.1;omega⟩,by
   have q1:=gf.has sb fP.box.1;have q2:=gf.has kb fP.keys.x.1;have q3:=gf.has pb fP.gY.x.1;have:=hk.1;refine⟨?_,?_,?_⟩<;>omega⟩)
  replace hs:=hs.trans bB;repeat' refine ak ?_;intros
  refine uU (kv:=λs:BA=>aO s) (k:=x.key) (et:=300) PM.keys rQ.mv kW (λk hk=>⟨hk.1.1,hk.2.2.1⟩) yc kQ hs.has λw3 X3 hc qm=>?_;have dp:=(gf.trans hs).dX hc λk hk e=>by have:k<w0.heap.size:=hk;omega
  have ai1:iR w3 X3 (BS (XL w0.heap.size X3) sb kb pb) sb kb pb (yd (hl.take (i+1))) [] .zero:=by
   have gr:=PM.box;have xB:=PM.gY;have e:yd (hl.take (i+1))=cK x.key x.mE (yd (hl.take i)):=by
    rw[cj,hx];simp[yd]
   rw[e];have mo: ∀b,X2 b->b≠kb->Mv (λk=>k=b) w2 X3 w3:=λb hb ct k af _=>by subst af;exact⟨hc.sub _ hb,hc.block _ hb ct⟩
   exact⟨gr.own.mv (mo _ gr.1 ne1),qm.mv rQ.mv (Mv.refl _ _) (Mv.sub λk hk=>⟨⟨hc.sub k hk.1.1,hk.1.2⟩,hk.2⟩),
    xB.own.mv qv.mv (mo _ xB.x.1 ne3.symm) (λk hk _=>⟨⟨⟨hc.sub k hk.1.1,hk.1.2⟩,hk.2⟩,hc.block k hk.1.1 hk.2.2.1⟩),λk hk=>hk.1.1,λk hk=>hk.2⟩
  replace hs:=dp;repeat' first|refine ak ?_;intros|((with_reducible refine fB ((hl).length-(i+1)) ?_ ?_);omega;exact⟨i+1,x.key,by simp,rfl,rfl,by omega,hs,ai1,by rw[hw,lh];rfl⟩)
 ·have hlen:hl.take i=hl:=az dB;rw[hd] at hw;rw[hlen] at fP;repeat' refine aJ ?_;intros
  refine fp (λn a w X=> ∃(i:Nat) (pm:List (bE×gw)),a=I i/\n=pl.length-i/\i<=pl.length/\ai (bK w0) w0 X w/\
   iR w X (BS (XL w0.heap.size X) sb kb pb) sb kb pb (yd hl) pm .zero/\pm=Tu (pl.take i)/\Ek hl pl=RV (yd hl) pm (pl.drop i)) pl.length
   ⟨0,[],rfl,rfl,aq _,gf,fP,rfl,by rw[te,Ek,hw];rfl⟩ ?_
  rintro n a w X ⟨j,pm,rfl,rfl,hj,gf,fP,xB,uN⟩;have hs:=ai.fG gf.has;rcases dA pl j with⟨SA,x,hx,sk⟩|⟨EL,sk⟩
  ·rw[sk,RV] at uN;have JL:=wJ x (aA hx);have gr:=fP.box;repeat' first|refine aJ ?_;intros|((with_reducible apply Wu);assumption;(try (case hz=>rfl));(case hr=>exact qR);(try (case hz=>omega));(case ht=>kernel_rfl);(case hs=>kernel_rfl);intros)|(refine UZ (yY (p:=x) (by first|assumption|exact Sl.mv aQ (ai.mv (gf.trans hs))) (by first|assumption|exact Sl.mv aQ (ai.mv (gf.trans hs))) JL.2) hs ?_;intro w X hs)
   refine Fl (kv:=λk:bE=>k.v) (k:=x.aM) (kt:=34) (et:=306) (.agg #[I 0,I 0,I 0,I 0,I 0,I 0,.slice none 0 0,.slice none 0 0]) (fP.mv gf.has (ai.mv hs)).gY sK kQ kQ (λv q hg jw=>?_) λhg=>?_
   ·obtain⟨ur,uw,rfl,q1,q2⟩:=jw;have o1:=q1.one;have o2:=q2.one;repeat' first|refine ak ?_;intros|refine cQ ?_ ?_<;>intros|(first|(with_reducible refine bS (gf.trans hs) ?_);intro wa hk;exact⟨_,_,rfl,by clear xB;rw[uN];simp[*],λe=>absurd e (by first|decide|assumption)⟩)
   ·repeat' first|refine ak ?_;intros|refine cQ ?_ ?_<;>intros|(first|(with_reducible refine bS (gf.trans hs) ?_);intro wa hk;exact⟨_,_,rfl,by clear xB;rw[uN];simp[*],λe=>absurd e (by first|decide|assumption)⟩)|(refine qk (VX (x:=x) (fP.mv gf.has (ai.mv hs)) hs.has (by first|assumption|exact Sl.mv aQ (ai.mv (gf.trans hs))) (by first|assumption|exact Sl.mv aQ (ai.mv (gf.trans hs)))) hs ?_ ?_<;>intro _ w X hs)|(refine qk (aeM (x:=x) (fP.mv gf.has (ai.mv hs)) hs.has (by first|assumption|exact Sl.mv aQ (ai.mv (gf.trans hs)))) hs ?_ ?_<;>intro _ w X hs)
    have he:x.err=0:= ‹x.err=0›;have arC:(pm.any λq=>x.Ea q.snd)=false:= ‹_›;have arD:Mk (yd hl) x=false:= ‹_›;refine cu (Z2 (p:=x) (by first|exact Sl.mv aQ (ai.mv (gf.trans hs))) (by first|exact Sl.mv aQ (ai.mv (gf.trans hs))) JL.1 JL.2) kQ hs.has ?_;rintro v1 wa w2 X2 ⟨ur,uw,rfl,uH,kq,-⟩ pU nq bB;have Yb:=hs.kp.size;have PM:=fP.toL (hs.trans bB) gf.has;have jl: ∀k,made wa w2 k->BS (XL w0.heap.size X2) sb kb pb k:=λk hk=>⟨⟨nq k hk,by have:w0.heap.size<=_:=ad gf.kp.size hs.kp.size;have:=hk.1;omega⟩,by
     have q1:=gf.has sb fP.box.1;have q2:=gf.has kb fP.keys.x.1;have q3:=gf.has pb fP.gY.x.1;have:=hk.1;refine⟨?_,?_,?_⟩<;>omega⟩
    have kW:qv w2 (BS (XL w0.heap.size X2) sb kb pb) (x.v ur uw) x:=⟨ur,uw,rfl,uH.sl.mv (Mv.sub jl),kq.sl.mv (Mv.sub jl)⟩;replace hs:=hs.trans bB;refine uU (kv:=λk:bE=>k.v) (k:=x.aM) (et:=306) PM.gY qv.mv kW (λk hk=>⟨hk.1.1,hk.2.2.2⟩) sK kQ hs.has λw3 X3 hc qm=>?_;have dp:=(gf.trans hs).dX hc λk hk e=>by have:k<w0.heap.size:=hk;omega
    have ai1:iR w3 X3 (BS (XL w0.heap.size X3) sb kb pb) sb kb pb (yd hl) (cK x.aM x pm) .zero:=by
     have gr:=PM.box;have hkm:=PM.keys;have mo: ∀b,X2 b->b≠pb->Mv (λk=>k=b) w2 X3 w3:=λb hb ct k af _=>by subst af;exact⟨hc.sub _ hb,hc.block _ hb ct⟩
     exact⟨gr.own.mv (mo _ gr.1 ne2),hkm.own.mv rQ.mv (mo _ hkm.x.1 ne3) (λk hk _=>⟨⟨⟨hc.sub k hk.1.1,hk.1.2⟩,hk.2⟩,hc.block k hk.1.1 hk.2.2.2⟩),
      qm.mv qv.mv (Mv.refl _ _) (Mv.sub λk hk=>⟨⟨hc.sub k hk.1.1,hk.1.2⟩,hk.2⟩),λk hk=>hk.1.1,λk hk=>hk.2⟩
    replace hs:=dp;repeat' first|refine ak ?_;intros|((with_reducible refine eP (pl.length-(j+1)) ?_ ?_);omega;exact⟨j+1,_,by simp,rfl,by omega,hs,ai1,by rw[cj,hx,xB];simp[Tu],by rw[uN];simp[he,hg,arC,arD]⟩)
  ·rw[sk] at uN;repeat' first|refine aJ ?_;intros|(first|(with_reducible refine bS (gf.trans hs) ?_);intro wa hk;exact⟨_,_,rfl,by rw[uN];rfl,λ_=>⟨sb,kb,pb,rfl,ne1,ne2,ne3,by rw[az EL] at xB;rw[<-xB];exact fP.fin hk TQ pe Gb⟩⟩)
def abu (h1:qx w X vh hl) (h2:qw w X vp pl) (lK:Li hl) (wJ:Lj pl):
  Ct pg 220 #[vh,vp] w X nX λv _ _=> ∃u:Value,v= .tuple #[u,I (Ek hl pl)]:=
 (Z3 h1 h2 lK wJ).mono λ_ _ _ _ ⟨u,_,h,e,_⟩=>⟨u,e▸h⟩
def adH (l:List kz):Prop:= ∀h∈l,h.key.size<=2^40
def adI (l:List gw):Prop:= ∀p∈l,(∀k∈p.reads,k.size<=2^40)/\ ∀x∈p.writes,x.key.size<=2^40
structure State.small (s:State):Prop where
 h:Li s.iu
 p:Lj s.gY
 hk:adH s.iu
 pk:adI s.gY
structure Rec.small (r:Rec):Prop where
 reads:r.reads.length<=2^40
 writes:r.writes.length<=2^40
 rk: ∀k∈r.reads,k.size<=2^40
 wk: ∀x∈r.writes,x.key.size<=2^40
 state:r.state.small
def eI.has (r:eI) (x:Nat):Bool:=(JK x r.lo||px x r.lo)&&qp x r.hi
def eI.key (r:eI) (k:BA):Bool:=r.has (placeOf k)
def State.inside (s:State):Bool:=s.iu.all (λh=>s.range.key h.key)&&s.gY.all λp=>p.reads.all s.range.key&&p.writes.all λx=>s.range.key x.key
def State.may (s:State):Bool:=s.range.may&&s.floor.may&&s.closed.may&&decide (Ek s.iu s.gY=0)&&s.inside
theorem Mp {b:Nat} (h:Cells w X b 0 (s.l vh vp)) (af:k.size<=2^62):
  Ct pg 221 #[.string k,ptr b 0] w X nX λv _ _=>v=B (s.range.key k):=by
 intro w0 hk;replace h:=h.mv hk.cr;refine Kg.1 λhs=>?_;repeat' first|refine ak ?_;intros|(refine kh (I5 _ _) hs ?_ ?_<;>intro _ w X hs)|(refine ph (I8 _ (by first|assumption|omega)) hs ?_;intro w X hs)|(refine qr ?_;intro wa hk;(simp[eI.key,eI.has, *]))
theorem Gt (h1:qx w X vh s.iu) (h2:qw w X vp s.gY) (mK:s.small):
  Ct pg 151 #[s.v vh vp] w X nX λv _ _=>v=B s.may:=by
 intro w0 hk;replace h1:=h1.mv hk.cr;replace h2:=h2.mv hk.cr;have CK:=h1.len;have xt:=h2.len;refine PB.1 λhs=>?_;repeat' first|refine ak ?_;intros|refine cQ ?_ ?_<;>intros|(refine Od hs ?_;intro bx w X gr ax gf hs bw)|with_reducible apply cD|(refine kh (pA _) hs ?_ ?_<;>intro _ w X hs)|(refine kh (vT _) hs ?_ ?_<;>intro _ w X hs)|(refine qr ?_;intro wa hk;(simp[State.may, *]))|(refine cu ((abu (hl:=s.iu) (pl:=s.gY))  qA qA mK.h mK.p) kQ hs.has ?_;rintro _ wa w X ⟨u,rfl⟩ hle gv ax;have gA:=ad hs.kp.size hle;replace hs:=hs.trans ax)
 have BE: ∀k:BA,k.size<=2^40-> ∀w X,ai _ _ X w->Ct pg 221 #[.string k,ptr bx 0] w X nX λv _ _=>v=B (s.range.key k):=λk hk w X hs=>Mp (bw.since hs).cells zQ;have aeO:s.may=s.inside:=by simp[State.may, *]
 refine fp (λn a w X=> ∃i:Nat,a=I (i:Nat)/\n=s.iu.length-i/\i<=s.iu.length/\ai _ _ X w/\
  (s.iu.all (λh=>s.range.key h.key))=((s.iu.drop i).all λh=>s.range.key h.key)) s.iu.length ⟨0,rfl,rfl,aq _,hs,by simp⟩ ?_
 rintro n a w X ⟨i,rfl,rfl,hi,hs,hw⟩;rcases dA (s.iu) i with⟨cB,x,hx,hd⟩|⟨dB,hd⟩
 ·rw[hd,iV] at hw;have hkx:=mK.hk x (aA hx);repeat' first|refine aJ ?_;intros|((with_reducible apply RO);assumption;(try (case hz=>rfl));(case hr=>exact qR);(try (case hz=>omega));(case ht=>kernel_rfl);(case hs=>kernel_rfl);intros)|(refine qr ?_;intro wa hk;(simp[aeO,State.inside,hw, *]))|(refine qk (BE x.key hkx _ _ hs) hs ?_ ?_<;>intro _ w X hs)|((with_reducible refine eP ((s.iu).length-(i+1)) ?_ ?_);omega;exact⟨i+1,by simp,rfl,by omega,hs,by rw[hw];simp[*]⟩)
 ·rw[hd] at hw;repeat' refine aJ ?_;intros
  refine AW (λn a _ _ w X=> ∃i:Nat,a=I (i:Nat)/\n=s.gY.length-i/\i<=s.gY.length/\ai _ _ X w/\
   (s.gY.all λp=>p.reads.all s.range.key&&p.writes.all λx=>s.range.key x.key)=((s.gY.drop i).all λp=>p.reads.all s.range.key&&p.writes.all λx=>s.range.key x.key)) s.gY.length ⟨0,rfl,rfl,aq _,hs,by simp⟩ ?_
  rintro n a a2 a3 w X ⟨j,rfl,rfl,hj,hs,uN⟩;rcases dA s.gY j with⟨cB,p,hp,sk⟩|⟨EL,sk⟩
  ·rw[sk,iV] at uN;obtain⟨qU,jD⟩:=mK.pk p (aA hp);repeat' first|refine aJ ?_;intros|((with_reducible apply Wu);assumption;(try (case hz=>rfl));(case hr=>exact qR);(try (case hz=>omega));(case ht=>kernel_rfl);(case hs=>kernel_rfl);intros)
   have hl3:=Sl.gO ‹Sl w0 (bK w0) 1 _ (p.reads.map S1)›;have Qg:=Sl.gO ‹Sl w0 (bK w0) 4 _ (p.writes.map KV.l)›;refine fp (λn a w X=> ∃i:Nat,a=I (i:Nat)/\n=p.reads.length-i/\i<=p.reads.length/\ai _ _ X w/\p.reads.all s.range.key=(p.reads.drop i).all s.range.key) p.reads.length ⟨0,rfl,rfl,aq _,hs,by simp⟩ ?_;rintro n a w X ⟨k,rfl,rfl,hk3,hs,vN⟩;rcases dA p.reads k with⟨atl,y,hy,hd3⟩|⟨atm,hd3⟩
   ·rw[hd3,iV] at vN;have hky:=qU y (aA hy);repeat' first|refine aJ ?_;intros|(refine qr ?_;intro wa hk;(simp[aeO,State.inside,uN,vN, *]))|(refine qk (BE y hky _ _ hs) hs ?_ ?_<;>intro _ w X hs)|((with_reducible refine eP (p.reads.length-(k+1)) ?_ ?_);omega;exact⟨k+1,by simp,rfl,by omega,hs,by rw[vN];simp[*]⟩)
   ·rw[hd3] at vN;repeat' refine aJ ?_;intros
    refine fp (λn a w X=> ∃i:Nat,a=I (i:Nat)/\n=p.writes.length-i/\i<=p.writes.length/\ai _ _ X w/\(p.writes.all λx=>s.range.key x.key)=(p.writes.drop i).all λx=>s.range.key x.key) p.writes.length ⟨0,rfl,rfl,aq _,hs,by simp⟩ ?_;rintro n a w X ⟨m,rfl,rfl,hm,hs,FM⟩;rcases dA p.writes m with⟨atn,y,hy,hd4⟩|⟨ato,hd4⟩
    ·rw[hd4,iV] at FM;have hky:=jD y (aA hy);repeat' first|refine aJ ?_;intros|(refine qr ?_;intro wa hk;(simp[aeO,State.inside,uN,vN,FM, *]))|(refine qk (BE y.key hky _ _ hs) hs ?_ ?_<;>intro _ w X hs)|((with_reducible refine eP (p.writes.length-(m+1)) ?_ ?_);omega;exact⟨m+1,by simp,rfl,by omega,hs,by rw[FM];simp[*]⟩)
    ·rw[hd4] at FM;repeat' first|refine aJ ?_;intros|((with_reducible refine zi (s.gY.length-(j+1)) ?_ ?_);omega;exact⟨j+1,by simp,rfl,by omega,hs,by rw[uN,vN,FM];simp⟩)
  ·rw[sk] at uN;repeat' first|refine aJ ?_;intros|(refine qr ?_;intro wa hk;(rw[aeO,State.inside,hw,uN];rfl))
def Na (prev st:cn) (t:bE) (l:List KV):Bool:=prev.may&&decide (prev.cmp st<0)&&decide (l≠[])&&decide (gw.err ⟨t,st,[],l⟩=0)
theorem Mq {prev st:cn} {t:bE} {l:List KV} (h:Sl w X 4 a (l.map KV.l)) (hb:l.length<=2^40):
  Ct pg 152 #[prev.v,st.v,t.v,a] w X nX λv _ _=>v=B (Na prev st t l):=by
 intro w0 hk;replace h:=h.mv hk.cr;obtain⟨b1,n1,c1,rfl⟩:=h.form;refine VF.1 λhs=>?_;repeat' first|refine ak ?_;intros|refine cQ ?_ ?_<;>intros|with_reducible apply cD|(refine kh (pA _) hs ?_ ?_<;>intro _ w X hs)|(refine ph (vO _ _) hs ?_;intro w X hs)|(refine qr ?_;intro wa hk;(simp_all [Na]<;>omega))|(refine UZ (yY  (p:=⟨t,st,[],l⟩) (Sl.nil _ _ _) qA hb) hs ?_;intro w X hs)
def acp (x:Nat):Bool:=decide ((Ej x).2=0)&&JK (Ej x).1 0&&qp (Ej x).1 Gs
def vU (n:Int):Bool:=decide (n>=1)&&decide (n<=12)
def Rec.pZ (r:Rec):Bool:=
 if r.kind=1 then r.state.may
 else if r.kind=2 then decide (r.n>=0)&&decide (r.n<=281474976710656)
 else if r.kind=3 then decide (gw.err ⟨r.aM,r.aV,r.reads,r.writes⟩=0)&&yt r.parts
 else if r.kind=4 then r.aM.may&&r.aV.Tq r.jG
 else if r.kind=5 then r.aV.may
 else if r.kind=6 then acp r.rW&&vU r.n&&r.aV.may
 else if r.kind=7 then vU r.n
 else if r.kind=8 then decide (r.n>=1)
 else if r.kind=9 then r.aM.may&&r.aV.HK&&yt r.parts
 else if r.kind=10 then r.aM.may
 else if r.kind=11 then Na r.prev r.aV r.aM r.writes
 else r.aV.may&&M9 r.wR
theorem VY (h:r.at w X vr vw vp vq vh vd) (mK:r.small):
  Ct pg 278 #[r.v vr vw vp vq vh vd] w X nX λv _ _=>v=B r.pZ:=by
 intro w0 hk;obtain⟨h1,h2,h3,h4,h5,h6⟩:=h.mv hk.cr;obtain⟨b1,n1,c1,rfl⟩:=h1.form;obtain⟨b2,n2,c2,rfl⟩:=h2.form;refine Th.1 λhs=>?_;repeat' first|refine ak ?_;intros|refine cQ ?_ ?_<;>intros|with_reducible apply cD|(refine kh (pA _) hs ?_ ?_<;>intro _ w X hs)|(refine kh (Dw _) hs ?_ ?_<;>intro _ w X hs)|(refine kh (Tr _ _) hs ?_ ?_<;>intro _ w X hs)|(refine ph (VS _) hs ?_;intro w X hs)|(refine kh (VR _) hs ?_ ?_<;>intro _ w X hs)|(refine kh (JM _) hs ?_ ?_<;>intro _ w X hs)|(refine qk (Gt  (s:=r.state) qA qA mK.state) hs ?_ ?_<;>intro _ w X hs)|(refine UZ (yY  (p:=⟨r.aM,r.aV,r.reads,r.writes⟩) qA qA mK.writes) hs ?_;intro w X hs)|(refine qk (Mi  qA) hs ?_ ?_<;>intro _ w X hs)|(refine qk (ZS  qA) hs ?_ ?_<;>intro _ w X hs)|(refine qk ((Mq (l:=r.writes))  qA mK.writes) hs ?_ ?_<;>intro _ w X hs)
 all_goals
  (with_reducible refine bS hs ?_)
  intro wa aI;unfold Rec.pZ;repeat (first|rw[if_pos zQ]|rw[if_neg zQ])
  simp_all [acp,vU,Gs]<;>omega
def Rec.err (r:Rec):Int:=if !r.strip.2 then 7 else if !r.strip.1.isZero||!r.pZ then 4 else 0
theorem aeP (h:r.at w X vr vw vp vq vh vd) (mK:r.small):
  Ct pg 196 #[r.v vr vw vp vq vh vd] w X nX λv _ _=>v=I r.err:=by
 intro w0 hk;have h:=h.mv hk.cr;refine abh.1 λhs=>?_;refine cu (Ts h) kQ hs.has ?_;rintro v wa w X ⟨ZT,lC,JF,vq',ZU,ZV,rfl,dh⟩ hle gv ax;replace hs:=hs.trans ax;have q1:=dh.1.one;have q2:=dh.2.1.one;have q3:=dh.2.2.1.one;have q4:=dh.2.2.2.1.one;have q5:=dh.2.2.2.2.1.one;have q6:=dh.2.2.2.2.2.one;cases hb:r.strip.2<;>
 repeat' first|refine ak ?_;intros|with_reducible apply cD|(refine qr ?_;intro wa hk;(simp[Rec.err, *]))|(refine qk (abq  (r:=r.strip.1) qA) hs ?_ ?_<;>intro _ w X hs)|(refine qk ((VY (r:=r))  (h.mv (ai.mv hs)) mK) hs ?_ ?_<;>intro _ w X hs)
section
variable {κ : Type} [DecidableEq κ] {α β : Type}
theorem Z4 (f:α->β) (k:κ) (l:List (κ×α)):getM k (l.map λx=>(x.1,f x.2))=(getM k l).map f:=by
 induction l with
 |nil=>rfl
 |cons x l ih=>
  simp only[getM,bm,fM] at ih⊢
  grind
theorem PN (f:α->β) (k:κ) (a:α) (l:List (κ×α)):(cK k a l).map (λx=>(x.1,f x.2))=cK k (f a) (l.map λx=>(x.1,f x.2)):=by
 induction l with
 |nil=>rfl
 |cons x l ih=>
  simp only[cK,bm] at ih⊢
  grind
theorem ai2 (f:α->β) (k:κ) (l:List (κ×α)):(kc k l).map (λx=>(x.1,f x.2))=kc k (l.map λx=>(x.1,f x.2)):=by
 unfold kc;rw[List.filter_map];rfl
theorem ai3 (f:α->β) (k:κ) (a:α) {l:List (κ×α)} (h: ∀x∈l,x.1=k->f x.2=f a) (hk:(getM k l).isSome=true):(cK k a l).map (λx=>(x.1,f x.2))=l.map λx=>(x.1,f x.2):=by
 induction l with
 |nil=>cases hk
 |cons x l ih=>
  simp only[cK];by_cases hx:x.1=k
  ·grind
  ·simp only[hx,if_false,bm];rw[ih (λy hy=>h y (by simp[hy])) (by simpa [getM,fM,hx] using hk)]
theorem xL (k:κ) (a:α) (l:List (κ×α)):(cK k a l).map (·.1)=if(getM k l).isSome then l.map (·.1)else l.map (·.1)++[k]:=by
 induction l with
 |nil=>rfl
 |cons x l ih=>
  simp only[cK];by_cases hx:x.1=k
  ·simp[hx,getM]
  ·have e:getM k (x::l)=getM k l:=by simp[getM,fM,hx]
   grind
theorem getM_none {k:κ} {l:List (κ×α)} :getM k l=none↔k ∉ l.map (·.1):=by
 induction l with
 |nil=>simp[getM]
 |cons x l ih=>
  by_cases hx:x.1=k
  ·simp[getM,hx]
  ·have e:getM k (x::l)=getM k l:=by simp[getM,fM,hx]
   grind
theorem Qj {k:κ} {a:α} {l:List (κ×α)} (h:(l.map (·.1)).Nodup):((cK k a l).map (·.1)).Nodup:=by
 rw[xL];split
 ·exact h
 ·rename_i hn;have mj:getM k l=none:=by cases hg:getM k l with|none=>rfl|some a=>grind
  rw[List.nodup_append];refine⟨h,by simp,λa ha b hb e=>?_⟩;simp only[List.mem_singleton] at hb;subst hb;subst e;exact getM_none.1 mj ha
theorem kn {k:κ} {a:α} {l:List (κ×α)} :getM k (cK k a l)=some a:=by
 induction l with
 |nil=>simp[cK,getM]
 |cons x l ih=>
  simp only[cK];by_cases hx:x.1=k
  ·simp[hx,getM]
  ·rw[if_neg hx];grind [getM]
theorem oZ {k j:κ} {a:α} {l:List (κ×α)} (hj:j≠k):getM j (cK k a l)=getM j l:=by
 induction l with
 |nil=>simp[cK,getM,Ne.symm hj]
 |cons x l ih=>
  simp only[cK];by_cases hx:x.1=k
  ·rw[if_pos hx];simp[getM,fM,Ne.symm hj,hx]
  ·rw[if_neg hx]
   grind [getM]
theorem Tv {k:κ} {l:List (κ×α)} :getM k (kc k l)=none:=by
 rw[getM_none];intro h;obtain⟨x,hx,e⟩:=List.mem_map.1 h;have:=(List.mem_filter.1 hx).2
 grind
theorem Lv {k j:κ} {l:List (κ×α)} (hj:j≠k):getM j (kc k l)=getM j l:=by
 induction l with
 |nil=>rfl
 |cons x l ih=>
  unfold kc at ih⊢;by_cases hx:x.1=k
  ·rw[List.filter_cons_of_neg (by simp[hx]),ih];simp[getM,fM,hx,Ne.symm hj]
  ·rw[List.filter_cons_of_pos gQ];by_cases hxj:x.1=j
   ·simp[getM,hxj]
   ·simpa [getM,fM,hxj] using ih
theorem U6 {R:κ×α->κ×α->Prop} {k:κ} {a:α} {l:List (κ×α)} (hn:(l.map (·.1)).Nodup) (hp:l.Pairwise R) (h: ∀y∈l,y.1≠k->R (k,a) y/\R y (k,a)):(cK k a l).Pairwise R:=by
 induction l with
 |nil=>simp[cK]
 |cons x l ih=>
  have mj:=List.nodup_cons.1 hn;have hp':=List.pairwise_cons.1 hp;simp only[cK];by_cases hx:x.1=k
  ·rw[if_pos hx,zu];refine⟨λy hy=>(h y (by simp[hy]) λe=>mj.1 (List.mem_map.2 ⟨y,hy,e.trans hx.symm⟩)).1,hp'.2⟩
  ·rw[if_neg hx,zu];refine⟨λy hy=>?_,ih mj.2 hp'.2 λy hy=>h y (by simp[hy])⟩;rcases mw mj.2 hy with rfl|⟨hy,_⟩
   ·exact(h x sQ hx).2
   ·exact hp'.1 y hy
def tS (f:α->Nat) (l:List (κ×α)):Nat:=(l.map λx=>f x.2).sum
theorem Xg {f:α->Nat} {k:κ} {a b:α} {l:List (κ×α)} (h:getM k l=some b):tS f (cK k a l)+f b=tS f l+f a:=by
 induction l with
 |nil=>cases h
 |cons x l ih=>
  simp only[cK];by_cases hx:x.1=k
  ·have:x.2=b:=by simpa [getM,hx] using h
   rw[if_pos hx];simp only[tS,bm,qu,this];omega
  ·rw[if_neg hx];have:=ih (by grind [getM]);simp only[tS,bm,qu] at this⊢;omega
theorem Xf {f:α->Nat} {k:κ} {a:α} {l:List (κ×α)} (h:getM k l=none):tS f (cK k a l)=tS f l+f a:=by
 induction l with
 |nil=>simp[cK,tS]
 |cons x l ih=>
  simp only[cK];by_cases hx:x.1=k
  ·simp[getM,hx] at h
  ·rw[if_neg hx];have:=ih (by simpa [getM,fM,hx] using h);simp only[tS,bm,qu] at this⊢;omega
theorem ai4 {f:α->Nat} {k:κ} {b:α} {l:List (κ×α)} (h:getM k l=some b):f b<=tS f l:=by
 induction l with
 |nil=>cases h
 |cons x l ih=>
  by_cases hx:x.1=k
  ·have:x.2=b:=by simpa [getM,hx] using h
   grind [tS]
  ·have:=ih (by grind [getM]);simp only[tS,bm,qu] at this⊢;omega
end
structure DM where
 fs:List (ByteArray×(List Nat×Nat))
 wr:Int
 ar:Nat
 dn:Bool
def DM.sz (m:DM):Nat:=tS (λx=>x.1.length) m.fs
def DM.get (m:DM) (n:ByteArray):Option (List Nat×Nat):=getM n m.fs
def DM.put (m:DM) (n:ByteArray) (bs:List Nat) (s:Nat):DM:= { m with fs:=cK n (bs,s) m.fs }
def DM.del (m:DM) (n:ByteArray):DM:= { m with fs:=kc n m.fs }
def DM.tick (m:DM):DM:=if m.ar=1 then { m with ar:=0,dn:=true } else { m with ar:=m.ar-1,wr:=IntKind.i64.wrap (m.wr+1) }
def DM.write (m:DM) (e:Nat) (f:DM->DM):DM×Nat:=if m.dn then(m,12)else if e≠0 then(m,e)else if m.tick.dn then(m.tick,12)else(f m.tick,0)
def vM (n:ByteArray):Bool:=decide (1<=n.size/\n.size<=20)
def DM.create (m:DM) (n:ByteArray):DM×Nat:=m.write (if¬vM n then 10 else if(m.get n).isSome then 9 else if 64<=m.fs.length then 3 else 0) λm=>m.put n [] 0
def DM.append (m:DM) (n:ByteArray) (b:List Nat):DM×Nat:=
 if m.dn then(m,12)else match m.get n with
 |none=>(m,8)
 |some (bs,s)=>if 4194304-m.sz<b.length then(m,11)else(m.tick.put n (bs++b) s,if m.tick.dn then 12 else 0)
def DM.km (n:ByteArray) (m:DM):DM:=match m.get n with
 |none=>m
 |some x=>m.put n x.1 x.1.length
def DM.sync (m:DM) (n:ByteArray):DM×Nat:=m.write (if(m.get n).isSome then 0 else 8) (DM.km n)
theorem DM.Au (m:DM):m.tick.fs=m.fs:=by unfold DM.tick;grind
theorem DM.pX (m:DM) (n:ByteArray):m.tick.get n=m.get n:=by unfold DM.get;rw[m.Au]
theorem DM.yp (m:DM):m.tick.sz=m.sz:=by unfold DM.sz;rw[m.Au]
variable {s' : Nat} {n : ByteArray} {m : DM}
theorem DM.K6 {b:List Nat} {s:Nat} (h:m.get n=some (b,s)):(m.put n bs s').sz+b.length=m.sz+bs.length:=Xg (f:=λx:List Nat×Nat=>x.1.length) h
theorem DM.SC (h:m.get n=none):(m.put n bs s').sz=m.sz+bs.length:=Xf (f:=λx:List Nat×Nat=>x.1.length) h
theorem DM.ER (m:DM) (n:ByteArray):(m.km n).sz=m.sz:=by
 unfold DM.km;split
 ·rfl
 grind [DM.K6]
def DM.B3 {b:List Nat} {s:Nat} (h:m.get n=some (b,s)):b.length<=m.sz:=ai4 (f:=λx:List Nat×Nat=>x.1.length) h
structure mU where
 b:Nat
 v:Value
 bs:List Nat
 safe:Nat
def mU.er (f:mU):List Nat×Nat:=(f.bs,f.safe)
def OC:World->XS->Value->mU->Prop:=λ_ _ v f=>v=ptr f.b 0
def lW:qs OC:=λ_ _ _ _ _ _ h _=>h
def apart (x y:ByteArray×mU):Prop:=x.2.b≠y.2.b/\ ∀g,x.2.v.ownBlock=some g->y.2.v.ownBlock≠some g
structure nK (w:World) (F:XS) (db mb:Nat) (l:List (ByteArray×mU)) (m:DM) (z:Nat):Prop where
 fs:m.fs=l.map λx=>(x.1,x.2.er)
 box:aH w F db [.map (some mb),I z,I m.wr,I m.ar,B m.dn] 111
 map:dK w F nX mb aO OC l
 row: ∀x∈l,aH w F x.2.b [x.2.v,I x.2.safe] 153
 ow: ∀x∈l,Ow w F 5 1 x.2.v (x.2.bs.map U1)
 ap:l.Pairwise apart
 ar:m.ar<2^63
 safe: ∀x∈l,x.2.safe<=x.2.bs.length
def Dk (w:World) (F:XS) (db:Nat) (m:DM):Prop:= ∃mb l,nK w F db mb l m m.sz/\m.sz<=4194304
variable {F G : XS}
section
variable {F' : XS} {db mb z z' : Nat} {l : List (ByteArray × mU)} {m' : DM} {f : mU}
def nK.mv (h:nK w F db mb l m z) (v:Mv F w F' w'):nK w' F' db mb l m z:=
 ⟨h.fs,h.box.mv v,h.map.mv lW v (λ_ h=>h.elim),λx hx=>(h.row x hx).mv v,λx hx=>(h.ow x hx).mv v,h.ap,h.ar,h.safe⟩
def Dk.mv (h:Dk w F db m) (v:Mv F w F' w'):Dk w' F' db m:=let⟨mb,l,h,hz⟩:=h;⟨mb,l,h.mv v,hz⟩
def Dk.mono (h:Dk w F db m) (hs: ∀k,F k->F' k):Dk w F' db m:=h.mv (Mv.sub hs)
theorem nK.get (h:nK w F db mb l m z) (n:ByteArray):m.get n=(getM n l).map mU.er:=by
 unfold DM.get;rw[h.fs];exact Z4 mU.er n l
theorem nK.nodup (h:nK w F db mb l m z):(l.map (·.1)).Nodup:=h.map.nodup
theorem nK.len (h:nK w F db mb l m z):m.fs.length=l.length:=by rw[h.fs,ah]
theorem nK.an1 (h:nK w F db mb l m z) (hX: ∀k,F k->X k) (c:dY (· =db) X w X' w') (hr:aH w' X' db [.map (some mb),I z',I m'.wr,I m'.ar,B m'.dn] 111) (Om:m'.fs=m.fs) (har:m'.ar<2^63):nK w' F db mb l m' z':=by
 have mv: ∀{A:XS},(∀k,A k->F k/\k≠db)->Mv A w F w':=λhA k hk _=>⟨(hA k hk).1,c.block k (hX k (hA k hk).1) (hA k hk).2⟩;refine⟨Om.trans h.fs,⟨h.box.1,hr.2⟩,?_,λx hx=>?_,λx hx=>?_,h.ap,har,h.safe⟩
 ·exact h.map.own.mv lW (mv λk hk=>by subst hk;exact⟨h.map.x.1,h.map.eH h.box⟩) λ_ h=>h.elim
 ·exact(h.row x hx).own.mv (mv λk hk=>by subst hk;exact⟨(h.row x hx).1,(h.row x hx).eH h.box (by rfl)⟩)
 ·exact(h.ow x hx).tight.mv (mv λk hk=>⟨((h.ow x hx).bA hk).1,λe=>(h.ow x hx).eH h.box (by rfl) (e▸hk)⟩)
theorem apy {α:Type} {R:α->α->Prop} (hs: ∀a b,R a b->R b a) {l:List α} (h:l.Pairwise R) {x y:α} (hx:x∈l) (hy:y∈l) (ct:x≠y):R x y:=by
 induction l with
 |nil=>cases hx
 |cons a l ih=>
  have h':=List.pairwise_cons.1 h
  grind
theorem Ja: ∀a b:ByteArray×mU,apart a b->apart b a:=λa b h=>⟨Ne.symm h.1,λg hg rz=>h.2 g rz hg⟩
theorem nK.Og (h:nK w F db mb l m z) (hn:getM n l=some f) {y:ByteArray×mU} (hy:y∈l) (ct:y.1≠n):apart (n,f) y:=
 apy Ja h.ap (gP hn) hy λe=>ct (by rw[<-e])
theorem nG.ids: ∀{es:List (jr ByteArray)} {l l':List (ByteArray×mU)},nG w A OC es l->l'.map (λx=>(x.1,x.2.b))=l.map (λx=>(x.1,x.2.b))->nG w A OC es l'
 |[],[],[],_,_=>trivial
 |[],[],_::_,_,h=>by cases h
 |e::es,x::l,[],_,h=>by cases h
 |e::es,x::l,y::l',⟨h1,h2,h3⟩,h=>by
  simp only[bm,BR,Prod.mk.injEq] at h;exact⟨h1.trans h.1.1.symm,by grind [OC],nG.ids h3 h.2⟩
 |[],_::_,_,h,_=>h.elim
 |_::_,[],_,h,_=>h.elim
theorem nK.jR (h:nK w F db mb l m z) (hX: ∀k,F k->X k/\k<w.heap.size) (c:dY G X w X' w') (hn:getM n l=some f) (hG: ∀k,G k->k=f.b\/f.v.ownBlock=some k) (Z5: ∀k,F k->F' k)
 {Z6:List Nat} (hr:aH w' F' f.b [v',I s'] 153) (ho:Ow w' F' 5 1 v' (Z6.map U1)) (dh:v'.ownBlock=f.v.ownBlock\/ ∃g,v'.ownBlock=some g/\w.heap.size<=g) (hs:s'<=Z6.length):
    nK w' F' db mb (cK n ⟨f.b,v',Z6,s'⟩ l) (m.put n Z6 s') z:=by
  have hf:=gP hn;have rf:=h.row _ hf;have of:=h.ow _ hf;have mv: ∀{A:XS},(∀k,A k->F k/\k≠f.b/\f.v.ownBlock≠some k)->Mv A w F' w':=λhA k hk _=>by
    obtain⟨a1,a2,a3⟩:=hA k hk;exact⟨Z5 k a1,c.block k (hX k a1).1 λhg=>(hG k hg).elim a2 a3⟩
  refine⟨?_,?_,?_,λx hx=>?_,λx hx=>?_,?_,h.ar,λx hx=>?_⟩
  · show cK n (Z6,s') m.fs=_
    rw[h.fs,PN mU.er];rfl
  · exact h.box.own.mv (mv λk hk=>by subst hk;exact⟨h.box.1,(rf.eH h.box (by rfl)).symm,of.eH h.box (by rfl)⟩)
  · obtain⟨es,c',h1,h2⟩:=h.map.own.mv lW (mv λk hk=>by subst hk;exact⟨h.map.x.1,h.map.eH rf,h.map.aiK of⟩) (A':=nX) λ_ h=>h.elim
    refine⟨es,c',h1,nG.ids h2 (ai3 mU.b n ⟨f.b,v',Z6,s'⟩ (λx hx e=>?_) (by rw[hn];rfl))⟩;have:getM n l=some x.2:=vR h.nodup gQ
    grind
  · rcases mw h.nodup hx with rfl|⟨hx,ct⟩
    · exact hr
    · have ha:=h.Og hn hx ct
      exact(h.row x hx).own.mv (mv λk hk=>by subst hk;exact⟨(h.row x hx).1,ha.1.symm,of.eH (h.row x hx) (by rfl)⟩)
  · rcases mw h.nodup hx with rfl|⟨hx,ct⟩
    · exact ho
    · have ha:=h.Og hn hx ct
      exact(h.ow x hx).tight.mv (mv λk hk=>⟨((h.ow x hx).bA hk).1,λe=>(h.ow x hx).eH rf (by rfl) (e▸hk),λe=>ha.2 k e hk⟩)
  · refine U6 h.nodup h.ap λy hy ct=>?_
    have ha:=h.Og hn hy ct;have key:apart (n,⟨f.b,v',Z6,s'⟩) y:=⟨ha.1,λg hg rz=>by
      rcases dh with e|⟨g',e,dB⟩
      · exact ha.2 g (e▸hg) rz
      · have:=(hX g ((h.ow y hy).bA rz).1).2
        grind⟩
    exact⟨key,Ja _ _ key⟩
  · rcases mw h.nodup hx with rfl|⟨hx,ct⟩
    · exact hs
    · exact h.safe x hx
theorem nK.new (h:nK w F db mb l m z) (hX: ∀k,F k->X k/\k<w.heap.size) (c:dY G X w X' w') (hn:getM n l=none) (hG: ∀k,G k->k=mb) (Z5: ∀k,F k->F' k) {b:Nat} (hb:w.heap.size<=b)
  (hm:dK w' F' nX mb aO OC (cK n ⟨b,.slice none 0 0,[],0⟩ l)) (hr:aH w' F' b [.slice none 0 0,I (0:Nat)] 153):
  nK w' F' db mb (cK n ⟨b,.slice none 0 0,[],0⟩ l) (m.put n [] 0) z:=by
 have mv: ∀{A:XS},(∀k,A k->F k/\k≠mb)->Mv A w F' w':=λhA k hk _=>by
  obtain⟨a1,a2⟩:=hA k hk;exact⟨Z5 k a1,c.block k (hX k a1).1 λhg=>a2 (hG k hg)⟩
 refine⟨?_,?_,hm,λx hx=>?_,λx hx=>?_,?_,h.ar,λx hx=>?_⟩
 ·show cK n ([],0) m.fs=_
  rw[h.fs,PN mU.er];rfl
 ·exact h.box.own.mv (mv λk hk=>by subst hk;exact⟨h.box.1,(h.map.eH h.box).symm⟩)
 ·rcases mw h.nodup hx with rfl|⟨hx,ct⟩
  ·exact hr
  ·exact(h.row x hx).own.mv (mv λk hk=>by subst hk;exact⟨(h.row x hx).1,(h.map.eH (h.row x hx)).symm⟩)
 ·rcases mw h.nodup hx with rfl|⟨hx,ct⟩
  ·exact Ow.nil _ _ _ _
  ·exact(h.ow x hx).tight.mv (mv λk hk=>⟨((h.ow x hx).bA hk).1,λe=>h.map.aiK (h.ow x hx) (e▸hk)⟩)
 ·refine U6 h.nodup h.ap λy hy ct=>?_;have key:apart (n,⟨b,.slice none 0 0,[],0⟩) y:=⟨λe=>by
   have:=(hX _ (h.row y hy).1).2
   grind,λg hg=>by cases hg⟩
  grind [Ja]
 ·rcases mw h.nodup hx with rfl|⟨hx,ct⟩
  ·grind
  ·exact h.safe x hx
theorem nK.less (h:nK w F db mb l m z) (hX: ∀k,F k->X k) (c:dY (· =mb) X w X' w') (hm:dK w' X' nX mb aO OC (kc n l)):nK w' F db mb (kc n l) (m.del n) z:=by
 have mv: ∀{A:XS},(∀k,A k->F k/\k≠mb)->Mv A w F w':=λhA k hk _=>⟨(hA k hk).1,c.block k (hX k (hA k hk).1) (hA k hk).2⟩;have rA: ∀x∈kc n l,x∈l:=λx hx=>(List.mem_filter.1 hx).1;refine⟨?_,?_,?_,λx hx=>?_,λx hx=>?_,h.ap.filter _,h.ar,λx hx=>h.safe x (rA x hx)⟩
 ·show kc n m.fs=_
  rw[h.fs,ai2 mU.er]
 ·exact h.box.own.mv (mv λk hk=>by subst hk;exact⟨h.box.1,(h.map.eH h.box).symm⟩)
 ·obtain⟨es,c',h1,h2⟩:=hm;exact⟨es,c',⟨h.map.x.1,h1.2⟩,h2⟩
 ·exact(h.row x (rA x hx)).own.mv (mv λk hk=>by subst hk;exact⟨(h.row x (rA x hx)).1,(h.map.eH (h.row x (rA x hx))).symm⟩)
 ·exact(h.ow x (rA x hx)).tight.mv (mv λk hk=>⟨((h.ow x (rA x hx)).bA hk).1,λe=>h.map.aiK (h.ow x (rA x hx)) (e▸hk)⟩)
end
def FX (F X:XS) (w:World):Prop:= ∀k,F k->X k/\k<w.heap.size
theorem FX.kp (h:FX F X w) (hk:Kp X w wa):FX F (bK wa) wa:=λk af=>⟨av (h k af).2 hk.size,av (h k af).2 hk.size⟩
def FX.mv (h:FX F X w) (hk:Kp X w wa):Mv F w F wa:=λk af _=>⟨af,hk.block k (h k af).1⟩
def FX.ft (h:FX F X w) (hk:Kp X w wa):Ft wa F wa (bK wa) F:=Ft.init λk af=>(h.kp hk k af).1
def _root_.Go.aL.Ft.fx {F0:XS} (h:Ft w0 F0 w X F) (hG: ∀k,G k->F k):FX G X w:=λk hk=>⟨h.bA k (hG k hk),h.s.has k (h.bA k (hG k hk))⟩
end Go.Proofs.YtgfijddlkhkopaaGreat