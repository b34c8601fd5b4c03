/- Part 5 of the proof. -/
import Derived.Test.YtgfijddlkhkopaaGreatRows
import Derived.WalkKit
import Derived.ProofKit
import Derived.Deep.Slices
import Derived.Carry
import Derived.Test.YtgfijddlkhkopaaGreatChecked
import Derived.OpenShut
import Derived.JoinedCond
import Derived.Test.YtgfijddlkhkopaaGreatW4
set_option linter.all false
open Nat renaming le_trans → ad, zero_le → aq, lt_of_lt_of_le → aw, mod_eq_of_lt → fy, div_lt_iff_lt_mul → xk
open BitVec renaming ofInt → aF
open List renaming append_assoc → ao, map_cons → bB, range → dA, find?_cons → fL, mem_of_getElem? → ay, length_append → aa, sum_cons → qv, all_cons → iU, getElem?_eq_getElem → aZ, drop_zero → tg, length_map → af, take_add_one → bT, nil_append → cI, length_cons → aL, take_of_length_le → aA, any_cons → yX, map_append → aC, getElem?_cons_zero → jR, drop_of_length_le → kf, foldl_cons → iB, length_take → aD, length_nil → br, pairwise_cons → zw
open Go.Value renaming string → aN
open Go.DataW renaming trod → ry, TrodAll → yY, trod_int → C7
open Bool renaming and_eq_true → aB
open Option.some renaming injEq → aj
open Ieee.Datum renaming quotient → yO
open List.cons renaming injEq → BJ
open Int renaming fdiv_eq_ediv_of_nonneg → th
namespace Go.Proofs.YtgfijddlkhkopaaGreat
open Go.Proofs.Tryz renaming prog → pg
open Go.aK
set_option maxRecDepth 100000
set_option maxHeartbeats 4000000
theorem UF {α:Type} [Inhabited α] {enc:α->List Value} {k:Nat} (hk: ∀x,(enc x).length=k) (h0:0<k): ∀(l:List α) (t:Nat),t<l.length*k->((l.map enc).flatten)[t]? =some ((enc l[t/k]!)[t % k]!)
 |[],t,h=>by simp at h
 |x::l,t,h=>by
  rw[bB,List.flatten_cons];by_cases ht:t<k
  ·rw[List.getElem?_append_left gQ,Nat.div_eq_of_lt ht,fy ht];simp_all
  ·obtain⟨s,rfl⟩: ∃s,t=s+k:=⟨t-k,by omega⟩;rw[List.getElem?_append_right gQ,hk,Nat.add_sub_cancel,Nat.add_div_right _ h0,Nat.add_mod_right];have hs:s<l.length*k:=by rw[aL,Nat.succ_mul] at h;omega
   rw[UF hk h0 l s hs];simp
class Wt (α:Type) where
 wt:α->Nat
 pos: ∀a,1<=wt a
instance:Wt Int:=⟨λ_=>1,λ_=>Nat.le_refl _⟩
def Zu (n:Nat):Nat:=if n<18446744073709551616 then 1 else 1073741824
theorem aiF (n:Nat):1<=Zu n:=by unfold Zu;grind
instance:Wt Nat:=⟨Zu,aiF⟩
instance:Wt Bool:=⟨λ_=>1,λ_=>Nat.le_refl _⟩
instance:Wt BA:=⟨λs=>s.size+1,λ_=>by omega⟩
instance {α:Type} [Wt α]:Wt (List α):=⟨λl=>(l.map Wt.wt).sum+1,λ_=>by omega⟩
theorem afJ {α:Type} [Wt α]: ∀l:List α,l.length<=(l.map Wt.wt).sum
 |[]=>by simp
 |x::l=>by have:=afJ l;have:=Wt.pos x;simp;omega
theorem E8 {α:Type} [Wt α] {x:α} : ∀{l:List α},x∈l->Wt.wt x<=(l.map Wt.wt).sum
 |y::l,h=>by
  rcases List.mem_cons.1 h with rfl|h
  ·simp
  ·have:=E8 h;simp;omega
def np {α:Type} [Wt α] (t:TypeId) (rd:World->XS->List Value->α->Prop):Prop:=
 ∀(H:Type) (enc:TypeId×Value->H) (W:World) (fuel:Nat) (cs:List Value) (x:DataW H×List MemPlace),ry enc pg W 0 (λ_=>true) true fuel t cs=some x-> ∃a,rd W (bI W) cs a/\Wt.wt a<=Rows.uptoBulk x.1
variable {H : Type}
theorem B6 (d:DataW H):1<=Rows.uptoBulk d:=by
 cases d with
 |lit l=>cases l<;>simp[Rows.uptoBulk]
 |nil=>simp[Rows.uptoBulk]
 |ptr d=>simp[Rows.uptoBulk]
 |slice elems spare=>simp[Rows.uptoBulk]
 |agg parts=>simp[Rows.uptoBulk]
 |iface t d=>simp[Rows.uptoBulk]
 |map entries=>simp[Rows.uptoBulk]
 |held h=>simp[Rows.uptoBulk]
abbrev rdI:World->XS->List Value->Int->Prop:=λ_ _ cs n=>cs=[I n]
abbrev anv:World->XS->List Value->Nat->Prop:=λ_ _ cs n=>cs=[.float .f64 n]
abbrev rdB:World->XS->List Value->Bool->Prop:=λ_ _ cs n=>cs=[B n]
abbrev rdS:World->XS->List Value->BA->Prop:=λ_ _ cs n=>cs=[.string n]
abbrev HN {α:Type} (k:Nat) (rd:World->XS->List Value->α->Prop):World->XS->List Value->List α->Prop:=λw X cs xs=> ∃v,cs=[v]/\fp w X k v rd xs
variable {t : TypeId}
theorem afH (ht:pg.underlying t=some (.int .i64)):np t rdI:=λH enc W fuel cs x h=>by
 obtain⟨n,rfl,rfl,_⟩:=C7 ht h;exact⟨n,rfl,B6 _⟩
theorem aiG (ht:pg.underlying t=some (.float .f64)):np t anv:=λH enc W fuel cs x h=>by
 cases fuel with
 |zero=>simp[ry] at h
 |succ n=>
  unfold ry at h;rw[ht] at h;split at h<;>simp_all
  obtain⟨⟨h1,h2⟩,h3⟩:=h;rename_i kk _ b he;subst he;have hb:b<18446744073709551616:=by simpa [Lit.wf] using h2
  show Zu b<=_
  unfold Zu;rw[if_pos hb];exact B6 _
theorem akT (ht:pg.underlying t=some .bool):np t rdB:=λH enc W fuel cs x h=>by
 obtain⟨n,rfl,rfl⟩:=DataW.trod_bool ht h;exact⟨n,rfl,B6 _⟩
theorem anw (ht:pg.underlying t=some .string):np t rdS:=λH enc W fuel cs x h=>by
 obtain⟨s,rfl,rfl,_⟩:=DataW.trod_string ht h;refine⟨s,rfl,?_⟩
 show s.size+1<=s.data.toList.length+1
 simp_all
theorem aga {α:Type} [Wt α] (f:Nat->α) (D:Nat->DataW H): ∀l:List Nat,(∀i∈l,Wt.wt (f i)<=Rows.uptoBulk (D i))->((l.map f).map Wt.wt).sum<=Rows.uptoBulkAll (l.map D)
 |[],_=>by simp
 |i::l,h=>by
  have h1:=aga f D l λj hj=>h j (List.mem_cons_of_mem _ hj);have h2:=h i sQ;simp only[bB,qv,Rows.uptoBulkAll];omega
variable {cs : List Value} {W : World}
theorem UG {a:Addr} {k:Nat} (h:W.cells? 0 a k=some cs):cs.length=k/\ ∀j v,cs[j]? =some v->W.cell? (a.add j)=some v:=by
 unfold World.cells? at h;rw[if_pos (aq _)] at h;have key: ∀(l:List Nat) (cs:List Value),(l.mapM (m:=Option) λi=>W.cell? (a.add i))=some cs->cs.length=l.length/\ ∀(j:Nat) (v:Value),cs[j]? =some v-> ∃i:Nat,l[j]? =some i/\W.cell? (a.add i)=some v:=by
  intro l
  induction l with
  |nil=>grind
  |cons i l ih=>
   intro cs h;simp only[List.mapM_cons,Option.bind_eq_bind,Option.bind_eq_some_iff,Option.pure_def,aj] at h;obtain⟨v,hv,vs,Up,rfl⟩:=h;obtain⟨h1,h2⟩:=ih vs Up;refine⟨by simp[h1],λj u hj=>?_⟩;cases j with
   |zero=>simp only[jR,aj] at hj;subst hj;exact⟨i,rfl,hv⟩
   |succ j=>simpa using h2 j u aQ
 obtain⟨h1,h2⟩:=key _ _ h;refine⟨by grind,λj v hj=>?_⟩;obtain⟨i,hi,hc⟩:=h2 j v hj;have:i=j:=by
  rw[List.getElem?_range (by simpa using (List.getElem?_eq_some_iff.1 hi).1)] at hi;simpa using hi.symm
 grind
theorem Zv (b o n:Nat):(⟨b,o,none⟩:Addr).add n=⟨b,o+n,none⟩:=by grind [Addr.add]
variable {e : Nat}
theorem qd {α:Type} [Wt α] {t k:Nat} {rd:World->XS->List Value->α->Prop} (ht:pg.underlying t=some (.slice e)) (hk:pg.cellsOf e=k) (h0:0<k) (he:np e rd):np t (HN k rd):=λH enc W fuel cs x h=>by
 rcases Go.Deep.open_slice ht h with⟨rfl,rfl⟩|⟨a,len,cap,m,n,D,Pl,rfl,_,hlc,iF,hm,rfl,Ls⟩
 ·exact⟨[],⟨_,rfl,fp.nil _ _ _⟩,B6 _⟩
 ·rw[hk] at Ls;have Tz:m=cap:=by simpa using hm
  have RV: ∀i,i<len-> ∃(p:List Value×α),W.cells? 0 (a.add (i*k)) k=some p.1/\rd W (bI W) p.1 p.2/\Wt.wt p.2<=Rows.uptoBulk (D i):=λi hi=>by
   obtain⟨pH,h1,h2⟩:=Ls i zQ;obtain⟨b,h3,h4⟩:=he H enc W n pH _ h2;exact⟨⟨pH,b⟩,h1,h3,h4⟩
  by_cases hl0:len=0
  ·subst hl0;refine⟨[],⟨_,rfl,[],⟨by simp,by simp,some a,cap,rfl,by simp,by simp,by simp,ad iF dQ⟩,rfl,by simp⟩,B6 _⟩
  obtain⟨p0,_⟩:=RV 0 zQ;have:Inhabited (List Value×α):=⟨p0⟩;obtain⟨f,hf⟩:=Go.Deep.choose_lt RV
  let row:Nat->List Value:=λi=>if i<len then(f i).1 else List.replicate k undef
  have bo: ∀i,(row i).length=k:=λi=>by
   show(if i<len then(f i).1 else List.replicate k undef).length=k
   split
   ·exact(UG (hf i zQ).1).1
   ·simp
  have DL: ∀i,i<len->row i=(f i).1:=λi hi=>if_pos hi;obtain⟨b,o,wM,c,ty,fr,hb,hc⟩: ∃b o,a=⟨b,o,none⟩/\ ∃c ty fr,W.heap[b]? =some (.cells c ty fr)/\ ∀i,i<len-> ∀j v,(row i)[j]? =some v->c[o+(i*k+j)]? =some v:=by
   obtain⟨b,o,sp⟩:=a;have h1: ∀i,i<len-> ∀j v,(row i)[j]? =some v->W.cell? (((⟨b,o,sp⟩:Addr).add (i*k)).add j)=some v:=λi hi j v hj=>by
    rw[DL i hi] at hj;exact(UG (hf i hi).1).2 j v hj
   have hj: ∃v,(row 0)[0]? =some v:=⟨_,aZ (by rw[bo];exact h0)⟩;obtain⟨v,hv⟩:=hj;have h2:=h1 0 zQ 0 v hv;rw[Nat.zero_mul] at h2;change W.cell? ⟨b,o,sp⟩=some v at h2;unfold World.cell? at h2;split at h2
   ·rename_i c ty fr hb;have Ek:sp=none:=by
     cases sp with
     |none=>rfl
     |some s=>simp at h2
    subst Ek;refine⟨b,o,rfl,c,ty,fr,hb,λi hi j v hj=>?_⟩;have h3:=h1 i hi j v hj;rw[Zv,Zv] at h3;unfold World.cell? at h3;rw[hb] at h3;simpa [Nat.add_assoc] using h3
   ·cases h2
  subst wM;have cD:b<W.heap.size:=(Array.getElem?_eq_some_iff.1 hb).1;refine⟨(dA len).map λi=>(f i).2,⟨_,rfl,(dA len).map row,⟨?_,?_,some ⟨b,o,none⟩,cap,?_,λ_=>⟨b,o,rfl,cD,c,ty,fr,hb,λj v hj=>?_⟩,by simp,by simpa using hlc,ad iF dQ⟩,by simp,?_⟩,?_⟩
  ·intro r hr;obtain⟨i,_,rfl⟩:=List.mem_map.1 hr;exact bo i
  ·have:cap<=2^63-1:=ad iF dQ;simp;omega
  ·simp
  ·have HD:j<len*k:=by
    have h1:=(List.getElem?_eq_some_iff.1 hj).1;rw[lE (k:=k) (by intro r hr;obtain⟨i,_,rfl⟩:=List.mem_map.1 hr;exact bo i)] at h1;simpa using h1
   have h2:=UF bo h0 (dA len) j (by simpa using HD);rw[hj] at h2;have hd:j/k<len:=by rw[xk h0];exact HD
   have as8:j % k<k:=Nat.mod_lt _ h0;have hr:(dA len)[j/k]! =j/k:=by simp[hd]
   rw[hr] at h2;have hv:(row (j/k))[j % k]? =some v:=by
    rw[aZ (by rw[bo];omega)];rw[getElem!_pos (row (j/k)) (j % k) (by rw[bo];omega)] at h2;exact h2.symm
   have:=hc (j/k) hd (j % k) v hv;rw[Nat.mul_comm,Nat.div_add_mod] at this;omega
  ·intro i r x hr hx;simp only[List.getElem?_map,Option.map_eq_some_iff] at hr hx;obtain⟨i1,h1,rfl⟩:=hr;obtain⟨i2,h2,rfl⟩:=hx;rw[h1] at h2;cases h2;have Ql:i1<len:=List.mem_range.1 (ay h1);rw[DL i1 Ql];exact(hf i1 Ql).2.1
  ·have:=aga (λi=>(f i).2) D (dA len) λi hi=>(hf i (List.mem_range.1 hi)).2.2
   show((((dA len).map λi=>(f i).2).map Wt.wt).sum+1)<=_
   simp only[Rows.uptoBulk];omega
variable {v : Value} {X : XS} {w : World}
theorem _root_.Go.aK.fp.xa {α:Type} {k:Nat} {enc:α->List Value} {xs:List α} (h:fp w X k v (λ_ _ l x=>l=enc x) xs):Sl w X k v (xs.map enc):=by
 obtain⟨rows,h1,h2,h3⟩:=h;have:rows=xs.map enc:=by
  apply List.ext_getElem gQ;intro i hi hj;have hx:i<xs.length:=by simpa using hj
  have:=h3 i rows[i] xs[i] (aZ hi) (aZ hx);simpa using this
 grind
def aet (P:Program):List Field->Nat->Bool
 |[],_=>true
 |f::l,o=>f.offset==o&&aet P l (o+P.cellsOf f.type)
def Zw (P:Program) (t:TypeId) (Y4:List TypeId):Bool:=match P.underlying t with
 |some (.struct fs)=>fs.toList.map (·.type)==Y4&&aet P fs.toList 0&&P.cellsOf t==(Y4.map P.cellsOf).sum
 |_=>false
def Zx {H:Type} (enc:TypeId×Value->H) (W:World) (n:Nat):List TypeId->List Value->List (DataW H)->Prop
 |[],cs,ds=>cs=[]/\ds=[]
 |t::ts,cs,ds=> ∃c1 c2 d ps Ol,cs=c1++c2/\ds=d::Ol/\ry enc pg W 0 (λ_=>true) true n t c1=some (d,ps)/\Zx enc W n ts c2 Ol
theorem ab2 {enc:TypeId×Value->H} {n:Nat} : ∀(l:List Field) (xs:List (DataW H×List MemPlace)) (o:Nat),aet pg l o=true->cs.length=o+((l.map (·.type)).map pg.cellsOf).sum->
  xs.length=l.length->(∀(i:Nat) (f:Field),l[i]? =some f->ry enc pg W 0 (λ_=>true) true n f.type ((cs.drop f.offset).take (pg.cellsOf f.type))=xs[i]?)->Zx enc W n (l.map (·.type)) (cs.drop o) (xs.map (·.1))
 |[],[],o,_,hl,_,_=>⟨kf gQ,rfl⟩
 |[],x::xs,o,_,_,hx,_=>by simp at hx
 |f::l,[],o,_,_,hx,_=>by simp at hx
 |f::l,x::xs,o,ho,hl,hx,h=>by
  simp only[aet,aB,beq_iff_eq] at ho;obtain⟨uH,ju⟩:=ho;have h0:=h 0 f rfl;simp only[jR] at h0;refine⟨(cs.drop o).take (pg.cellsOf f.type),cs.drop (o+pg.cellsOf f.type),x.1,x.2,xs.map (·.1),?_,rfl,?_,?_⟩
  ·rw[<-List.drop_drop,List.take_append_drop]
  ·grind
  ·refine ab2 l xs _ ju ?_ gQ λi g hg=>?_
   ·grind
   ·have:=h (i+1) g aQ;assumption
theorem jj (Y4:List TypeId) (mO:Zw pg t Y4=true) {enc:TypeId×Value->H} {fuel:Nat} {x:DataW H×List MemPlace}
  (h:ry enc pg W 0 (λ_=>true) true fuel t cs=some x): ∃n ds,x.1= .agg ds/\Zx enc W n Y4 cs ds:=by
 unfold Zw at mO;split at mO
 ·rename_i fs Oa;simp only[aB,beq_iff_eq] at mO;obtain⟨⟨rfl,h2⟩,h3⟩:=mO;obtain⟨xs,n,_,rfl,hl,hx,hf⟩:=DataW.trod_struct Oa h;refine⟨n,_,rfl,?_⟩;have:=ab2 (cs:=cs) (enc:=enc) (W:=W) (n:=n) fs.toList xs 0 h2 zQ zQ λi f hi=>hf i f gQ;assumption
 ·cases mO
theorem bK {α:Type} [Wt α] {ts:List TypeId} {rd:World->XS->List Value->α->Prop} (hr:np t rd) {enc:TypeId×Value->H} {n:Nat} {ds:List (DataW H)} (h:Zx enc W n (t::ts) cs ds):
  ∃c1 c2 d Ol a,cs=c1++c2/\ds=d::Ol/\rd W (bI W) c1 a/\Wt.wt a<=Rows.uptoBulk d/\Zx enc W n ts c2 Ol:=by
 obtain⟨c1,c2,d,ps,Ol,rfl,rfl,h1,h2⟩:=h;obtain⟨a,h3,h4⟩:=hr H enc W n c1 _ h1;exact⟨c1,c2,d,Ol,a,rfl,rfl,h3,h4,h2⟩
instance:Wt cx:=⟨λx=>4,λ_=>by omega⟩
def Pt (n:Int):Prop:= -9223372036854775808<=n/\n<9223372036854775808
instance (n:Int):Decidable (Pt n):=by unfold Pt;infer_instance
def YK (x:bL):Nat:=if Pt x.eh/\Pt x.aW/\Pt x.sq then 4 else 1073741824
theorem Sw (x:bL):4<=YK x:=by unfold YK;grind
instance:Wt bL:=⟨YK,λx=>ad dQ (Sw x)⟩
abbrev arc:World->XS->List Value->Int->Prop:=λ_ _ cs n=>cs=[I n]/\Pt n
theorem MP:np 3 arc:=λH enc W fuel cs x h=>by
 have ht:pg.underlying 3=some (.int .i64):=by kernel_rfl
 obtain⟨n,e,e2,hw⟩:=C7 ht h;subst e;refine⟨n,⟨rfl,?_⟩,B6 _⟩;simp only[Lit.wf,aB,decide_eq_true_eq] at hw;have h1:IntKind.i64.min= -9223372036854775808:=by kernel_rfl
 have h2:IntKind.i64.max=9223372036854775807:=by kernel_rfl
 grind [Pt]
abbrev akU:World->XS->List Value->cx->Prop:=λ_ _ cs x=>cs=x.l
abbrev ape:World->XS->List Value->bL->Prop:=λ_ _ cs x=>cs=x.l
def nE:np 3 rdI:=afH kQ
def I6:np 46 anv:=aiG kQ
def abS:np 4 rdB:=akT kQ
def E7:np 9 rdS:=anw kQ
theorem vy:np 39 akU:=λH enc W fuel cs x h=>by
 obtain⟨n,ds,hx,hf⟩:=jj [3,3,3] kQ h;obtain⟨_,_,_,_,a1,rfl,rfl,rfl,w1,hf⟩:=bK nE hf;obtain⟨_,_,_,_,a2,rfl,rfl,rfl,w2,hf⟩:=bK nE hf;obtain⟨_,_,_,_,a3,rfl,rfl,rfl,w3,rfl,rfl⟩:=bK nE hf;refine⟨⟨a1,a2,a3⟩,rfl,?_⟩;rw[hx];simp only[Rows.uptoBulk,Rows.uptoBulkAll,Wt.wt] at*;omega
theorem YC:np 34 ape:=λH enc W fuel cs x h=>by
 obtain⟨n,ds,hx,hf⟩:=jj [3,3,3] kQ h;obtain⟨_,_,_,_,a1,rfl,rfl,⟨rfl,q1⟩,w1,hf⟩:=bK MP hf;obtain⟨_,_,_,_,a2,rfl,rfl,⟨rfl,q2⟩,w2,hf⟩:=bK MP hf;obtain⟨_,_,_,_,a3,rfl,rfl,⟨rfl,q3⟩,w3,rfl,rfl⟩:=bK MP hf;refine⟨⟨a1,a2,a3⟩,rfl,?_⟩;have e:Wt.wt (⟨a1,a2,a3⟩:bL)=4:=if_pos ⟨q1,q2,q3⟩;rw[hx,e];simp only[Rows.uptoBulk,Rows.uptoBulkAll,Wt.wt] at*;omega
instance:Wt gL:=⟨λx=>Wt.wt x.kind+Wt.wt x.num+Wt.wt x.text+1,λ_=>by omega⟩
theorem LI:np 97 (λ_ _ cs (x:gL)=>cs=x.l):=λH enc W fuel cs x h=>by
 obtain⟨n,ds,hx,hf⟩:=jj [3,46,9] kQ h;obtain⟨_,_,_,_,a0,rfl,rfl,rfl,w0,hf⟩:=bK nE hf;obtain⟨_,_,_,_,a1,rfl,rfl,rfl,w1,hf⟩:=bK I6 hf;obtain⟨_,_,_,_,a2,rfl,rfl,rfl,w2,rfl,rfl⟩:=bK E7 hf;refine⟨⟨a0,a1,a2⟩,rfl,?_⟩;rw[hx];simp only[Rows.uptoBulk,Rows.uptoBulkAll,Wt.wt] at*;omega
instance:Wt KV:=⟨λx=>Wt.wt x.key+Wt.wt x.val+1,λ_=>by omega⟩
theorem apf:np 178 (λ_ _ cs (x:KV)=>cs=x.l):=λH enc W fuel cs x h=>by
 obtain⟨n,ds,hx,hf⟩:=jj [9,97] kQ h;obtain⟨_,_,_,_,a0,rfl,rfl,rfl,w0,hf⟩:=bK E7 hf;obtain⟨_,_,_,_,a1,rfl,rfl,rfl,w1,rfl,rfl⟩:=bK LI hf;refine⟨⟨a0,a1⟩,rfl,?_⟩;rw[hx];simp only[Rows.uptoBulk,Rows.uptoBulkAll,Wt.wt] at*;omega
def YD:np 42 (HN 4 (λ_ _ cs (x:KV)=>cs=x.l)):=qd kQ kQ dQ apf
theorem anx:np 211 (λ_ _ cs (x:KV)=>cs=x.l):=λH enc W fuel cs x h=>by
 obtain⟨n,ds,hx,hf⟩:=jj [9,97] kQ h;obtain⟨_,_,_,_,a0,rfl,rfl,rfl,w0,hf⟩:=bK E7 hf;obtain⟨_,_,_,_,a1,rfl,rfl,rfl,w1,rfl,rfl⟩:=bK LI hf;refine⟨⟨a0,a1⟩,rfl,?_⟩;rw[hx];simp only[Rows.uptoBulk,Rows.uptoBulkAll,Wt.wt] at*;omega
def akV:np 71 (HN 4 (λ_ _ cs (x:KV)=>cs=x.l)):=qd kQ kQ dQ anx
instance:Wt pz:=⟨λx=>Wt.wt x.aS+Wt.wt x.val+1,λ_=>by omega⟩
theorem anz:np 304 (λ_ _ cs (x:pz)=>cs=x.l):=λH enc W fuel cs x h=>by
 obtain⟨n,ds,hx,hf⟩:=jj [39,97] kQ h;obtain⟨_,_,_,_,a0,rfl,rfl,rfl,w0,hf⟩:=bK vy hf;obtain⟨_,_,_,_,a1,rfl,rfl,rfl,w1,rfl,rfl⟩:=bK LI hf;refine⟨⟨a0,a1⟩,rfl,?_⟩;rw[hx];simp only[Rows.uptoBulk,Rows.uptoBulkAll,Wt.wt] at*;omega
def adT:np 40 (HN 1 rdS):=qd kQ kQ dQ E7
def akW:np 300 (HN 6 (λ_ _ cs (x:pz)=>cs=x.l)):=qd kQ kQ dQ anz
def adU:np 43 (HN 1 rdI):=qd kQ kQ dQ nE
instance:Wt ku:=⟨λx=>Wt.wt x.key+Wt.wt x.mI+1,λ_=>by omega⟩
theorem akX:np 302 ku.rd:=λH enc W fuel cs x h=>by
 obtain⟨n,ds,hx,hf⟩:=jj [9,300] kQ h;obtain⟨_,_,_,_,a0,rfl,rfl,rfl,w0,hf⟩:=bK E7 hf;obtain⟨_,_,_,_,a1,rfl,rfl,⟨v1,rfl,r1⟩,w1,rfl,rfl⟩:=bK akW hf;refine⟨⟨a0,a1⟩,⟨v1,rfl,r1.xa⟩,?_⟩;rw[hx];simp only[Rows.uptoBulk,Rows.uptoBulkAll,Wt.wt] at*;omega
def aiH:np 49 (HN 2 ku.rd):=qd kQ kQ dQ akX
instance:Wt gu:=⟨λx=>Wt.wt x.aO+Wt.wt x.aS+Wt.wt x.reads+Wt.wt x.writes+1,λ_=>by omega⟩
theorem akY:np 306 gu.rd:=λH enc W fuel cs x h=>by
 obtain⟨n,ds,hx,hf⟩:=jj [34,39,40,42] kQ h;obtain⟨_,_,_,_,a0,rfl,rfl,rfl,w0,hf⟩:=bK YC hf;obtain⟨_,_,_,_,a1,rfl,rfl,rfl,w1,hf⟩:=bK vy hf;obtain⟨_,_,_,_,a2,rfl,rfl,⟨v2,rfl,r2⟩,w2,hf⟩:=bK adT hf;obtain⟨_,_,_,_,a3,rfl,rfl,⟨v3,rfl,r3⟩,w3,rfl,rfl⟩:=bK YD hf;refine⟨⟨a0,a1,a2,a3⟩,⟨v2,v3,rfl,r2.xa,r3.xa⟩,?_⟩;rw[hx];simp only[Rows.uptoBulk,Rows.uptoBulkAll,Wt.wt] at*;omega
def aiI:np 50 (HN 8 gu.rd):=qd kQ kQ dQ akY
instance:Wt dR:=⟨λx=>Wt.wt x.id+Wt.wt x.iD+Wt.wt x.lo+Wt.wt x.hi+1,λ_=>by omega⟩
theorem afG:np 48 (λ_ _ cs (x:dR)=>cs=x.l):=λH enc W fuel cs x h=>by
 obtain⟨n,ds,hx,hf⟩:=jj [3,3,46,46] kQ h;obtain⟨_,_,_,_,a0,rfl,rfl,rfl,w0,hf⟩:=bK nE hf;obtain⟨_,_,_,_,a1,rfl,rfl,rfl,w1,hf⟩:=bK nE hf;obtain⟨_,_,_,_,a2,rfl,rfl,rfl,w2,hf⟩:=bK I6 hf;obtain⟨_,_,_,_,a3,rfl,rfl,rfl,w3,rfl,rfl⟩:=bK I6 hf;refine⟨⟨a0,a1,a2,a3⟩,rfl,?_⟩;rw[hx];simp only[Rows.uptoBulk,Rows.uptoBulkAll,Wt.wt] at*;omega
instance:Wt State:=⟨λx=>Wt.wt x.range+Wt.wt x.floor+Wt.wt x.closed+Wt.wt x.iz+Wt.wt x.gX+1,λ_=>by omega⟩
theorem YE:np 52 State.rd:=λH enc W fuel cs x h=>by
 obtain⟨n,ds,hx,hf⟩:=jj [48,39,39,49,50] kQ h;obtain⟨_,_,_,_,a0,rfl,rfl,rfl,w0,hf⟩:=bK afG hf;obtain⟨_,_,_,_,a1,rfl,rfl,rfl,w1,hf⟩:=bK vy hf;obtain⟨_,_,_,_,a2,rfl,rfl,rfl,w2,hf⟩:=bK vy hf;obtain⟨_,_,_,_,a3,rfl,rfl,⟨v3,rfl,r3⟩,w3,hf⟩:=bK aiH hf;obtain⟨_,_,_,_,a4,rfl,rfl,⟨v4,rfl,r4⟩,w4,rfl,rfl⟩:=bK aiI hf;refine⟨⟨a0,a1,a2,a3,a4⟩,⟨v3,v4,rfl,r3,r4⟩,?_⟩;rw[hx];simp only[Rows.uptoBulk,Rows.uptoBulkAll,Wt.wt] at*;omega
instance:Wt Rec:=⟨λx=>Wt.wt x.kind+Wt.wt x.aO+Wt.wt x.aS+Wt.wt x.prev+Wt.wt x.jF+Wt.wt x.n+Wt.wt x.rV+Wt.wt x.reads+Wt.wt x.writes+Wt.wt x.parts+Wt.wt x.wV+Wt.wt x.state+1,λ_=>by omega⟩
theorem ams:np 73 Rec.rd:=λH enc W fuel cs x h=>by
 obtain⟨n,ds,hx,hf⟩:=jj [3,34,39,39,4,3,46,40,42,43,71,52] kQ h;obtain⟨_,_,_,_,a0,rfl,rfl,rfl,w0,hf⟩:=bK nE hf;obtain⟨_,_,_,_,a1,rfl,rfl,rfl,w1,hf⟩:=bK YC hf;obtain⟨_,_,_,_,a2,rfl,rfl,rfl,w2,hf⟩:=bK vy hf;obtain⟨_,_,_,_,a3,rfl,rfl,rfl,w3,hf⟩:=bK vy hf;obtain⟨_,_,_,_,a4,rfl,rfl,rfl,w4,hf⟩:=bK abS hf;obtain⟨_,_,_,_,a5,rfl,rfl,rfl,w5,hf⟩:=bK nE hf;obtain⟨_,_,_,_,a6,rfl,rfl,rfl,w6,hf⟩:=bK I6 hf;obtain⟨_,_,_,_,a7,rfl,rfl,⟨v7,rfl,r7⟩,w7,hf⟩:=bK adT hf;obtain⟨_,_,_,_,a8,rfl,rfl,⟨v8,rfl,r8⟩,w8,hf⟩:=bK YD hf;obtain⟨_,_,_,_,a9,rfl,rfl,⟨v9,rfl,r9⟩,w9,hf⟩:=bK adU hf;obtain⟨_,_,_,_,a10,rfl,rfl,⟨v10,rfl,r10⟩,Jv,hf⟩:=bK akV hf;obtain⟨_,_,_,_,a11,rfl,rfl,⟨vh,vp,rfl,ard,are⟩,w11,rfl,rfl⟩:=bK YE hf;refine⟨⟨a0,a1,a2,a3,a4,a5,a6,a7,a8,a9,a10,a11⟩,⟨v7,v8,v9,v10,vh,vp,rfl,r7.xa,r8.xa,r9.xa,r10.xa,ard,are⟩,?_⟩;rw[hx];simp only[Rows.uptoBulk,Rows.uptoBulkAll,Wt.wt] at*;omega
open Go.ChangeShapes Go.WideShapes Go.ChangeAt Go.RowKit
variable {P : Program} {W' : World} {args : Array Value}
def S5 (P:Program) (ts:List TypeId):Bool:=ts.all λt=>P.readableRec t&&decide (t<P.types.size)
theorem UH (hl:laidOutB P=true) {enc:TypeId×Value->H} (hb:Below W.heap.size W W'): ∀{ts:List TypeId} {vs:List Value} {ds:List (DataW H)} {ps:List MemPlace},S5 P ts=true->(∀x∈ps,x.block<W.heap.size)->
  yY enc P W 0 (λ_=>true) true ts vs ds ps->yY enc P W' 0 (λb=>decide (b<W.heap.size)) true ts vs ds ps
 |[],[],[],_,_,_,h=>h
 |t::ts,v::vs,d::ds,ps,hr,cD,⟨p,q,h1,h2,FV⟩=>by
  unfold S5 at hr;simp only[iU,aB,decide_eq_true_eq] at hr;subst FV;exact⟨p,q,Below.trod hl hr.1.1 hr.1.2 h1 hb λx hx=>cD x (List.mem_append_left _ hx),UH hl hb hr.2 (λx hx=>cD x (List.mem_append_right _ hx)) h2,rfl⟩
 |[],[],_::_,_,_,_,h=>h.elim
 |[],_::_,_,_,_,_,h=>h.elim
 |_::_,[],_,_,_,_,h=>h.elim
 |_::_,_::_,[],_,_,_,h=>h.elim
theorem ah7 (hl:laidOutB P=true) {tb:TypeId} (hub:P.underlying tb=some .bool) {enc:TypeId×Value->H} {f:Func} {s:ChangeSpec} {ds:List (DataW H)} {before:List MemPlace} (hv:s.vars=[]) (hrt:f.resultTypes= #[tb]) (hc:S5 P f.params.toList=true)
  (hs:(s.fn H (ds++[])).results=[.lit (.bool true)]/\(s.fn H (ds++[])).args=ds/\(s.fn H (ds++[])).vars=[])
  (hW:DataW.Whole enc P f.params.toList s.vars false W args.toList ds [] before) (hA:yY enc P W 0 (λ_=>true) true f.params.toList args.toList ds before) (hx:Ext W W'):
  s.post enc P f false true false false W args (.bool true) W':=by
 have hb:=hx.below;refine⟨ds,[],before,[],before,[],hW,?_,?_,?_,Below.frame hb _,λh=>by cases h⟩
 ·rw[hrt,hs.1];exact trodAll_cons_mk (shut_bool hub _) trodAll_mk0
 ·rw[hs.2.1];exact UH hl hb hc (λx hx=>hW.lt x hx) hA
 ·rw[hs.2.2,hv];rfl
theorem ah8:ownKnob pg.godebug=none:=by rfl
theorem YQ:laidOutB pg=true:=by kernel_rfl
def bound {l:List (DataW H)} (hk:Rows.uptoSmall H l=true):Rows.uptoBulkAll l<=1048576:=of_decide_eq_true hk
attribute [local irreducible] un jn jc iE ld1 iw st1 kY kZ oP rF o9 Hg Dz gO ga aV lK lB eW eV eU eC eF gE me fin iu bu eB vS Kz Hh Hi Hj Hk Hl KA KB KC KD Et Eu Hm Hn Ho KE KF KG
def cx.cmp (a b:cx):Int:=
 let p:=if a.wall≠b.wall then(a.wall,b.wall)else if a.dC≠b.dC then(a.dC,b.dC)else(a.node,b.node)
 if p.1<p.2 then-1 else if p.1>p.2 then 1 else 0
def bL.less (a b:bL):Bool:=
 if a.eh≠b.eh then a.eh<b.eh else if a.aW≠b.aW then a.aW<b.aW else a.sq<b.sq
def bL.may (a:bL):Bool:=a.eh>=1&&a.eh<=2&&a.aW>=1&&a.sq>=1
def cx.may (a:cx):Bool:=a.wall>=0&&a.wall<=281474976710656&&a.dC>=0&&a.dC<=65535&&a.node>=0&&a.node<=63
def cx.later (a b:cx):cx:=if a.cmp b<0 then b else a
def cx.HJ (a:cx):Bool:=a.may&&!decide (a= .zero)
theorem vV (a b:cx):Pure pg 155 #[a.v,b.v] (I (a.cmp b)):=by
 intro w0;refine SO.1 λhs=>?_;repeat' first|refine ak ?_;intros|refine cM ?_ ?_<;>intros|with_reducible apply cB|(with_reducible refine fJ hs ?_);simp_all [cx.cmp]<;>omega
theorem Dr (a:bL):Pure pg 213 #[a.v] (B a.may):=by
 intro w0;refine SR.1 λhs=>?_;repeat' first|refine ak ?_;intros|refine cM ?_ ?_<;>intros|(with_reducible refine fJ hs ?_);simp_all [bL.may]<;>omega
theorem pD (a:cx):Pure pg 140 #[a.v] (B a.may):=by
 intro w0;refine aes.1 λhs=>?_;repeat' first|refine ak ?_;intros|refine cM ?_ ?_<;>intros|(with_reducible refine fJ hs ?_);simp_all [cx.may]<;>omega
theorem Oc (a b:cx):Pure pg 104 #[a.v,b.v] (a.later b).v:=by
 intro w0;refine Za.1 λhs=>?_;repeat' first|refine ak ?_;intros|refine cM ?_ ?_<;>intros|(refine px (vV _ _) hs ?_;intro w X hs)|(with_reducible refine fJ hs ?_);simp_all [cx.later]<;>grind
theorem Vz (n:Int):Pure pg 338 #[I n] (B (decide (n>=1)&&decide (n<=12))):=by
 intro w0;refine SZ.1 λhs=>?_;repeat' first|refine ak ?_;intros|refine cM ?_ ?_<;>intros|(with_reducible refine fJ hs ?_);simp_all<;>omega
theorem Jz (a:cx):Pure pg 339 #[a.v] (B a.HJ):=by
 intro w0;refine S2.1 λhs=>?_;repeat' first|refine ak ?_;intros|(with_reducible refine af8 _ ?_ ?_ ?_);(· kernel_rfl);all_goals intros|(refine j5 (pD _) hs ?_ ?_<;>intro _ w X hs)|(with_reducible refine fJ hs ?_);simp_all [cx.HJ]
def cx.S6 (c:Bool) (a:cx):Bool:=if c then a.HJ else decide (a= .zero)
theorem S7 (c:Bool) (a:cx):Pure pg 336 #[B c,a.v] (B (a.S6 c)):=by
 intro w0;refine Ru.1 λhs=>?_;repeat' first|refine ak ?_;intros|refine cM ?_ ?_<;>intros|(with_reducible refine Fk _ ?_ ?_ ?_);(· kernel_rfl);all_goals intros|(refine j5 (Jz _) hs ?_ ?_<;>intro _ w X hs)|(with_reducible refine fJ hs ?_);simp_all [cx.S6]
theorem Ad (x:Nat) (wa:World):(callFunc 144 #[.float .f64 x]).run pg wa= .ok (.value (.int .u64 x)) wa:=by kernel_rfl
theorem HQ (a b:Nat):Pure pg 91 #[.float .f64 a,.float .f64 b] (B (decide (a=b))):=by
 intro w0;refine Rh.1 λhs=>?_;repeat' first|refine ak ?_;intros|refine cM ?_ ?_<;>intros|(with_reducible refine fJ hs ?_);simp_all [Int.ofNat_inj]|((with_reducible refine CZ (Ad _) hs.has ?_);intro w X ax;replace hs:=hs.trans ax)
theorem F8 (a b:dR):Pure pg 73 #[a.v,b.v] (B (decide (a=b))):=by
 intro w0;refine Pj.1 λhs=>?_;repeat' first|refine ak ?_;intros|refine cM ?_ ?_<;>intros|with_reducible apply cB|(refine j5 (HQ _ _) hs ?_ ?_<;>intro _ w X hs)|(with_reducible refine fJ hs ?_);simp_all [dR.ext_iff]
variable {a : Value}
theorem SA {b:Value} {xs ys:List Int} (ha:Sl w X 1 a (xs.map I1)) (hb:Sl w X 1 b (ys.map I1)):
  Ct pg 21 #[a,b] w X nX λv _ _=>v=B (decide (xs=ys)):=by
  intro w0 hk;replace ha:=ha.mv hk.bY;replace hb:=hb.mv hk.bY;have kn:=ha.gR;refine Re.1 λhs=>?_;repeat' first|refine ak ?_;intros|refine cM ?_ ?_<;>intros|(refine qr ?_;intro wa hk;(simp only[B,Value.bool.injEq];symm;rw[decide_eq_false_iff_not];rintro rfl;omega))
  have hlen:xs.length=ys.length:=by omega
  refine eY (λn a w X=> ∃i:Nat,a=I (i:Nat)/\n=(xs).length-i/\i<=(xs).length/\ai (bI w0) w0 X w/\(xs=ys↔xs.drop i=ys.drop i)) (xs).length ⟨0,rfl,rfl,aq _,hs,by simp⟩ ?_;rintro n a w X ⟨i,rfl,rfl,hi,hs,hw⟩;rcases dE (xs) i with⟨cD,x,hx,hd⟩|⟨dD,hd⟩
  ·obtain⟨y,hy,hdy⟩:=MS (xs:=ys) (i:=i) zQ;repeat' first|refine aJ ?_;intros|refine cM ?_ ?_<;>intros|(refine qr ?_;intro wa hk;(simp_all [decide_true]))|((with_reducible refine ep ((xs).length-(i+1)) ?_ ?_);omega;exact⟨i+1,by simp,rfl,by omega,hs,by simp_all [decide_true]⟩)
  ·have hdy:=kf (l:=ys) (i:=i) zQ;repeat' first|refine aJ ?_;intros|(refine qr ?_;intro wa hk;simp_all)
abbrev DY:Value->World->World->Prop:=λv _ _=> ∃n:Int,v=I n
theorem ke (a b c:Int) (w:World) (X:XS):Ct pg 65 #[I a,I b,I c] w X nX DY:=by
 intro w0 hk;refine SJ.1 λhs=>?_;repeat' first|refine ak ?_;intros|refine cM ?_ ?_<;>intros|(refine qr ?_;intro wa hk;exact⟨_,rfl⟩)|with_reducible apply nK
variable {most : Int}
theorem vu {xs:List BA} (ha:Sl w X 1 a (xs.map S1)):
  Ct pg 66 #[a,I most] w X nX DY:=by
 intro w0 hk;replace ha:=ha.mv hk.bY;have kn:=ha.gR;refine HU.1 λhs=>?_;refine gv (λn a b w X=> ∃(i:Nat) (s:Int),a=I i/\b=I s/\n=(xs).length-i/\i<=(xs).length/\ai (bI w0) w0 X w) (xs).length ⟨0,_,rfl,rfl,rfl,aq _,hs⟩ ?_;rintro n a b w X ⟨i,s,rfl,rfl,rfl,hi,hs⟩;repeat' first|refine ak ?_;intros|refine cM ?_ ?_<;>intros|(refine qr ?_;intro wa hk;exact⟨_,rfl⟩)|(refine xR (ke  _ _ _ _ _) hs ?_;intro n1 w X hs)|((with_reducible refine fw ((xs).length-(i+1)) ?_ ?_);omega;exact⟨i+1,_,by simp,rfl,rfl,by omega,hs⟩)|with_reducible apply nK
variable {xs : List KV}
theorem uf (ha:Sl w X 4 a (xs.map KV.l)):
  Ct pg 68 #[a,I most] w X nX DY:=by
 intro w0 hk;replace ha:=ha.mv hk.bY;have kn:=ha.gR;refine GP.1 λhs=>?_;refine gv (λn a b w X=> ∃(i:Nat) (s:Int),a=I i/\b=I s/\n=(xs).length-i/\i<=(xs).length/\ai (bI w0) w0 X w) (xs).length ⟨0,_,rfl,rfl,rfl,aq _,hs⟩ ?_;rintro n a b w X ⟨i,s,rfl,rfl,rfl,hi,hs⟩;repeat' first|refine ak ?_;intros|refine cM ?_ ?_<;>intros|(refine qr ?_;intro wa hk;exact⟨_,rfl⟩)|(refine xR (ke  _ _ _ _ _) hs ?_;intro n1 w X hs)|((with_reducible refine fw ((xs).length-(i+1)) ?_ ?_);omega;exact⟨i+1,_,by simp,rfl,rfl,by omega,hs⟩)|with_reducible apply nK
theorem Fx {xs:List gu} (ha:qx w X a xs):
  Ct pg 117 #[a,I most] w X nX DY:=by
 intro w0 hk;replace ha:=ha.mv hk.bY;have kn:=ha.len;refine Fj.1 λhs=>?_;refine gv (λn a b w X=> ∃(i:Nat) (s:Int),a=I i/\b=I s/\n=(xs).length-i/\i<=(xs).length/\ai (bI w0) w0 X w) (xs).length ⟨0,_,rfl,rfl,rfl,aq _,hs⟩ ?_;rintro n a b w X ⟨i,s,rfl,rfl,rfl,hi,hs⟩;repeat' first|refine ak ?_;intros|refine cM ?_ ?_<;>intros|((with_reducible apply Wc);assumption;(try (case hz=>rfl));(case hr=>exact qR);(try (case hz=>omega));(case ht=>kernel_rfl);(case hs=>kernel_rfl);intros)|(refine qr ?_;intro wa hk;exact⟨_,rfl⟩)|(refine xR (ke  _ _ _ _ _) hs ?_;intro n1 w X hs)|(refine xR (vu  qA) hs ?_;intro n1 w X hs)|(refine xR (uf  qA) hs ?_;intro n1 w X hs)|((with_reducible refine fw ((xs).length-(i+1)) ?_ ?_);omega;exact⟨i+1,_,by simp,rfl,rfl,by omega,hs⟩)|with_reducible apply nK
theorem Fl {xs:List ku} (ha:qy w X a xs):
  Ct pg 116 #[a,I most] w X nX DY:=by
 intro w0 hk;replace ha:=ha.mv hk.bY;have kn:=ha.len;refine D1.1 λhs=>?_;refine CC (λn a _ b w X=> ∃(i:Nat) (s:Int),a=I i/\b=I s/\n=xs.length-i/\i<=xs.length/\ai (bI w0) w0 X w) xs.length ⟨0,_,rfl,rfl,rfl,aq _,hs⟩ ?_;rintro n a a2 b w X ⟨i,s,rfl,rfl,rfl,hi,hs⟩;repeat' first|refine ak ?_;intros|refine cM ?_ ?_<;>intros|((with_reducible apply Rw);assumption;(try (case hz=>rfl));(case hr=>exact qR);(try (case hz=>omega));(case ht=>kernel_rfl);(case hs=>kernel_rfl);intros)|(refine qr ?_;intro wa hk;exact⟨_,rfl⟩)|(refine xR (ke  _ _ _ _ _) hs ?_;intro n1 w X hs)|with_reducible apply nK
 have cD:i<xs.length:=by omega
 obtain⟨x,hx,hd⟩:=MS cD;refine gv (λn a b w X=> ∃(k:Nat) (s:Int),a=I k/\b=I s/\n=x.mI.length-k/\k<=x.mI.length/\ai (bI w0) w0 X w) x.mI.length ⟨0,_,rfl,rfl,rfl,aq _,hs⟩ ?_;rintro n a b w X ⟨k,s,rfl,rfl,rfl,hk,hs⟩;repeat' first|refine ak ?_;intros|refine cM ?_ ?_<;>intros|((with_reducible apply Rw);assumption;(try (case hz=>rfl));(case hr=>exact qR);(try (case hz=>omega));(case ht=>kernel_rfl);(case hs=>kernel_rfl);intros)|(refine xR (ke  _ _ _ _ _) hs ?_;intro n1 w X hs)|((with_reducible refine AT ((xs).length-(i+1)) ?_ ?_);omega;exact⟨i+1,_,by simp,rfl,rfl,by omega,hs⟩)|((with_reducible refine fw (x.mI.length-(k+1)) ?_ ?_);omega;exact⟨k+1,_,by simp,rfl,rfl,by omega,hs⟩)|(have hl9:=Sl.gR ‹Sl w0 (bI w0) 6 _ (List.map pz.l x.mI)›;(with_reducible apply ajF);omega;omega)|with_reducible apply nK
variable {vh vp : Value} {s : State}
theorem A9 (ha:qy w X vh s.iz) (hb:qx w X vp s.gX):
  Ct pg 70 #[s.v vh vp,I most] w X nX DY:=by
 intro w0 hk;replace ha:=ha.mv hk.bY;replace hb:=hb.mv hk.bY;refine HV.1 λhs=>?_;repeat' first|(refine qr ?_;intro wa hk;exact⟨_,rfl⟩)|(refine xR (ke  _ _ _ _ _) hs ?_;intro n1 w X hs)|(refine xR (Fl  qA) hs ?_;intro n1 w X hs)|(refine xR (Fx  qA) hs ?_;intro n1 w X hs)
variable {vd vq vr vw : Value} {r : Rec}
theorem Lz (ha:r.at w X vr vw vp vq vh vd):
  Ct pg 69 #[r.v vr vw vp vq vh vd,I most] w X nX DY:=by
 intro w0 hk;obtain⟨h1,h2,h3,h4,h5,h6⟩:=ha.mv hk.bY;have kn:=h4.gR;refine JS.1 λhs=>?_;repeat' first|refine ak ?_;intros|(refine xR (ke  _ _ _ _ _) hs ?_;intro n1 w X hs)|(refine xR (vu  qA) hs ?_;intro n1 w X hs)|(refine xR (uf  qA) hs ?_;intro n1 w X hs)|with_reducible apply nK
 refine gv (λn a b w X=> ∃(i:Nat) (s:Int),a=I i/\b=I s/\n=(r.wV).length-i/\i<=(r.wV).length/\ai (bI w0) w0 X w) (r.wV).length ⟨0,_,rfl,rfl,rfl,aq _,hs⟩ ?_;rintro n a b w X ⟨i,s,rfl,rfl,rfl,hi,hs⟩;repeat' first|refine ak ?_;intros|refine cM ?_ ?_<;>intros|(refine qr ?_;intro wa hk;exact⟨_,rfl⟩)|(refine xR (ke  _ _ _ _ _) hs ?_;intro n1 w X hs)|(refine xR (A9  (s:=r.state) qA qA) hs ?_;intro n1 w X hs)|((with_reducible refine fw ((r.wV).length-(i+1)) ?_ ?_);omega;exact⟨i+1,_,by simp,rfl,rfl,by omega,hs⟩)|with_reducible apply nK
def iM (s:BA):Bool:=decide ((s.size:Int)>=1)&&decide ((s.size:Int)<=24)
theorem kX (s:BA):Pure pg 162 #[.string s] (B (iM s)):=by
 intro w0;refine Zc.1 λhs=>?_;repeat' first|refine ak ?_;intros|refine cM ?_ ?_<;>intros|(with_reducible refine fJ hs ?_);simp_all [iM]<;>omega
theorem I7 (r:dR) (x:Nat):Pure pg 222 #[r.v,.float .f64 x] (B ((Jx x r.lo||pA x r.lo)&&qq x r.hi)):=by
 intro w0;refine aa3.1 λhs=>?_;repeat' first|refine ak ?_;intros|refine cM ?_ ?_<;>intros|(with_reducible refine fJ hs ?_);(simp_all<;>grind)
def canon (x:Nat):Nat:=if pA x x then x else 9221120237041090560
theorem rn (x:Nat):Pure pg 347 #[.float .f64 x] (.float .f64 (canon x)):=by
 intro w0;refine Zr.1 λhs=>?_;repeat' first|refine ak ?_;intros|refine cM ?_ ?_<;>intros|(with_reducible refine fJ hs ?_);simp_all [canon]|((with_reducible refine CZ (v:=.float .f64 9221120237041090560) ?_ hs.has ?_);(· intro wa;kernel_rfl);intro w X ax;replace hs:=hs.trans ax)
theorem D5 (x:Nat):Pure pg 305 #[.float .f64 x] (.int .u64 (canon x)):=by
 intro w0;refine aa6.1 λhs=>?_;repeat' first|(refine px (rn _) hs ?_;intro w X hs)|(with_reducible refine fJ hs ?_);rfl|((with_reducible refine CZ (Ad _) hs.has ?_);intro w X ax;replace hs:=hs.trans ax)
def land (a b:Int):Int:=IntKind.u64.wrap (aF IntKind.u64.bits a&&& aF IntKind.u64.bits b).toNat
def I8 (a b:Int):Int:=IntKind.u64.wrap (aF IntKind.u64.bits a^^^aF IntKind.u64.bits b).toNat
def I9 (a n:Int):Int:=a.fdiv (2^min n.toNat IntKind.u64.bits)
def Zy (a b:Int):Int:=IntKind.u64.wrap (a*b)
variable {b : Int} {N : Value -> Prop}
def agb {a:Int} (h:N (.int .u64 (land a b))):aV P X w (binOp .and t (.int .u64 a) (.int .u64 b)) N:=MB h
def Rx {a:Int} (h:N (.int .u64 (I8 a b))):aV P X w (binOp .xor t (.int .u64 a) (.int .u64 b)) N:=RZ h
def L9 {a:Int} (hb: ¬b<0) (h:N (.int .u64 (I9 a b))):aV P X w (binOp .shr t (.int .u64 a) (.int .u64 b)) N:=Ea hb h
def Zz {a:Int} (h:N (.int .u64 (Zy a b))):aV P X w (binOp .mul t (.int .u64 a) (.int .u64 b)) N:=RW h
def cls (x:Nat):Int:=
 let b:Int:=canon x
 let e:=land (I9 b 52) 2047
 let f:=land b 4503599627370495
 if e=2047/\f≠0 then 0 else
  let k:=if e=2047 then 8 else if e>0 then 7 else if f>0 then 6 else 5
  if land b 9223372036854775808≠0 then 9-k else k
theorem GX (x:Nat):Pure pg 307 #[.float .f64 x] (I (cls x)):=by
 intro w0;refine Zp.1 λhs=>?_;repeat' first|refine ak ?_;intros|refine cM ?_ ?_<;>intros|with_reducible apply cB|(refine px (D5 _) hs ?_;intro w X hs)|(with_reducible refine fJ hs ?_);(simp only[cls] at*;grind)|with_reducible apply agb|(with_reducible apply L9);omega
def Gf:Nat:=4607182418800017408
def HW (x:Nat):Bool:=decide (cls x>=5)&&(qq x Gf||pA x Gf)
theorem JA (x:Nat):Pure pg 252 #[.float .f64 x] (B (HW x)):=by
 intro w0;refine SS.1 λhs=>?_;repeat' first|refine ak ?_;intros|refine cM ?_ ?_<;>intros|(refine px (GX _) hs ?_;intro w X hs)|(with_reducible refine fJ hs ?_);(simp_all [HW,Gf]<;>grind)
def Ef (x:Nat):Nat×Int:=if cls x=4 then(0,0)else if HW x then(x,0)else(0,1)
theorem VA (x:Nat):Pure pg 337 #[.float .f64 x] (.tuple #[.float .f64 (Ef x).1,I (Ef x).2]):=by
 intro w0;refine SY.1 λhs=>?_;repeat' first|refine ak ?_;intros|refine cM ?_ ?_<;>intros|(refine j5 (JA _) hs ?_ ?_<;>intro _ w X hs)|(refine px (GX _) hs ?_;intro w X hs)|(with_reducible refine fJ hs ?_);(simp_all [Ef]<;>grind)
def dR.may (r:dR):Bool:=decide (r.id>=1)&&decide (r.id<=12)&&decide (r.iD>=0)&&HW r.lo&&HW r.hi&&qq r.lo r.hi
theorem vZ (r:dR):Pure pg 177 #[r.v] (B r.may):=by
 intro w0;refine Ze.1 λhs=>?_;repeat' first|refine ak ?_;intros|refine cM ?_ ?_<;>intros|with_reducible apply cB|(refine j5 (JA _) hs ?_ ?_<;>intro _ w X hs)|(with_reducible refine fJ hs ?_);(simp_all [dR.may]<;>omega)
def gL.may (v:gL):Bool:=
 if v.kind=0 then decide (v.num=0)&&decide (v.text=⟨#[]⟩)
 else if v.kind=1 then decide (v.text=⟨#[]⟩)&&decide (v.num=canon v.num)
 else if v.kind=2 then decide (v.num=0)&&decide ((v.text.size:Int)<=64)
 else false
theorem l9 (v:gL):Pure pg 229 #[v.v] (B v.may):=by
 intro w0;refine Zj.1 λhs=>?_;repeat' first|refine ak ?_;intros|refine cM ?_ ?_<;>intros|with_reducible apply cB|(refine px (D5 _) hs ?_;intro w X hs)|(with_reducible refine fJ hs ?_);(simp_all [gL.may]<;>omega)|((with_reducible refine CZ (Ad _) hs.has ?_);intro w X ax;replace hs:=hs.trans ax)
def Qw (h:Int) (b:UInt8):Int:=Zy (I8 h (IntKind.u64.wrap b.toNat)) 1099511628211
def anA (h:Int):Nat->Int
 |0=>h
 |1=>Zy (I8 h (I9 h 33)) 18397679294719823053
 |_=>let g:=Zy (I8 h (I9 h 33)) 18397679294719823053;Zy (I8 g (I9 g 33)) 14181476777654086739
def Ma (s:BA):Int:=let h:=anA (s.data.toList.foldl Qw 14695981039346656037) 2;I8 h (I9 h 33)
theorem ZA (s:BA) (arf:s.size<=2^62):Pure pg 294 #[.string s] (.int .u64 (Ma s)):=by
 intro w0;have gh:=K6 s;refine Vv.1 λhs=>?_;repeat' refine ak ?_;intros
 refine gv (λn a b w X=> ∃(i:Nat) (h:Int),a=I i/\b= .int .u64 h/\n=s.data.toList.length-i/\i<=s.data.toList.length/\ai (bI w0) w0 X w/\
  s.data.toList.foldl Qw 14695981039346656037=(s.data.toList.drop i).foldl Qw h) s.data.toList.length ?_ ?_
 ·exact⟨0,14695981039346656037,rfl,rfl,rfl,aq _,hs,by rw[tg]⟩
 rintro n a b w X ⟨i,h,rfl,rfl,rfl,hi,hs,hw⟩;rcases dE s.data.toList i with⟨cD,x,hx,hd⟩|⟨dD,hd⟩
 ·repeat' first|refine aJ ?_;intros|with_reducible (first|apply Rx|apply Zz)|((with_reducible refine fw ((s.data.toList).length-(i+1)) ?_ ?_);omega;exact⟨i+1,_,by simp,rfl,rfl,by omega,hs,by rw[hw,hd,iB];rfl⟩)
 ·repeat' refine aJ ?_;intros
  rw[hd] at hw;refine gv (λn a b w X=> ∃(i:Nat),a=I i/\b= .int .u64 (anA h i)/\n=2-i/\i<=2/\ai (bI w0) w0 X w) 2 ⟨0,rfl,rfl,rfl,aq _,hs⟩ ?_;rintro n a b w X ⟨i,rfl,rfl,rfl,hi,hs⟩;obtain rfl|rfl|rfl:i=0\/i=1\/i=2:=by omega
  ·repeat' first|refine aJ ?_;intros|(with_reducible apply Rx)|(with_reducible apply Zz)|(with_reducible apply L9);omega|(with_reducible refine fw 1 ?_ ?_);omega;exact⟨1,rfl,rfl,rfl,by omega,hs⟩
  ·repeat' first|refine aJ ?_;intros|(with_reducible apply Rx)|(with_reducible apply Zz)|(with_reducible apply L9);omega|(with_reducible refine fw 0 ?_ ?_);omega;exact⟨2,rfl,rfl,rfl,by omega,hs⟩
  ·repeat' first|refine aJ ?_;intros|(with_reducible refine fJ hs ?_);(simp only[Ma,hw];rfl)|(with_reducible apply Rx)|(with_reducible apply L9);omega
theorem aeu (n:Int): ∃r,floatBits .quo .f64 (floatOfInt .f64 n) 4845873199050653696=some r:=by
 have hn:(Ieee.double.read (floatOfInt .f64 n)).isNaN=false:=YY _ _ _ _;have hd:Ieee.double.read 4845873199050653696= .number false 4503599627370496 1:=by kernel_rfl
 show∃r,((Ieee.double.read (floatOfInt .f64 n)).quotient _ (Ieee.double.read 4845873199050653696)).map _=some r
 rw[hd];cases hr:Ieee.double.read (floatOfInt .f64 n)with
 |number s m p=>simp[yO]
 |infinity s=>simp[yO]
 |nan s f=>rw[hr] at hn;simp[Ieee.Datum.isNaN] at hn
def placeOf (s:BA):Nat:=(floatBits .quo .f64 (floatOfInt .f64 (I9 (Ma s) 11)) 4845873199050653696).getD 0
theorem aev (s:BA):floatBits .quo .f64 (floatOfInt .f64 (I9 (Ma s) 11)) 4845873199050653696=some (placeOf s):=by
 obtain⟨r,hr⟩:=aeu (I9 (Ma s) 11);rw[placeOf,hr];rfl
theorem Ja (s:BA) (arf:s.size<=2^62):Pure pg 223 #[.string s] (.float .f64 (placeOf s)):=by
 intro w0;refine aa4.1 λhs=>?_;repeat' first|refine ak ?_;intros|(refine px (ZA _ (by first|assumption|omega)) hs ?_;intro w X hs)|(with_reducible refine fJ hs ?_);rfl|(with_reducible apply L9);omega|(with_reducible apply aoY);(· exact aev s)
def rising (l:List BA):Bool:=chain iM zr none l
def yw (l:List BA):Bool:=rising l&&decide ((l.length:Int)<=16)
theorem aa9 {xs:List BA} (ha:Sl w X 1 a (xs.map S1)):
  Ct pg 295 #[a] w X nX λv _ _=>v=B (yw xs):=by
 intro w0 hk;replace ha:=ha.mv hk.bY;have kn:=ha.gR;refine Zo.1 λhs=>?_;repeat' refine ak ?_;intros
 refine eY (λn a w X=> ∃i:Nat,a=I (i:Nat)/\n=(xs).length-i/\i<=(xs).length/\ai (bI w0) w0 X w/\chain iM zr none xs=chain iM zr (uu xs i) (xs.drop i)) (xs).length ⟨0,rfl,rfl,aq _,hs,by simp[uu]⟩ ?_;rintro n a w X ⟨i,rfl,rfl,hi,hs,hw⟩;rcases dE (xs) i with⟨cD,x,hx,hd⟩|⟨dD,hd⟩
 ·rcases MW cD with⟨h0,hp⟩|⟨h0,y,hy,hp⟩<;>rw[hp,hd,chain] at hw<;>clear hd
  ·repeat' first|refine aJ ?_;intros|(refine j5 (kX _) hs ?_ ?_<;>intro _ w X hs)|(refine qr ?_;intro wa hk;simp_all [yw,rising,chain])|((with_reducible refine ep ((xs).length-(i+1)) ?_ ?_);omega;exact⟨i+1,by simp,rfl,by omega,hs,by rw[hw,rj hx];simp[*]⟩)
  ·repeat' first|refine aJ ?_;intros|refine cM ?_ ?_<;>intros|(refine j5 (kX _) hs ?_ ?_<;>intro _ w X hs)|(refine qr ?_;intro wa hk;simp_all [yw,rising,chain])|((with_reducible refine ep ((xs).length-(i+1)) ?_ ?_);omega;exact⟨i+1,by simp,rfl,by omega,hs,by rw[hw,rj hx];simp[*]⟩)
 ·repeat' first|refine aJ ?_;intros|refine cM ?_ ?_<;>intros|(refine qr ?_;intro wa hk;simp_all [yw,rising,chain]<;>omega)
def Mb (l:List KV):Bool:=yw (l.map (·.key))&&l.all (·.val.may)
theorem Pu (ha:Sl w X 4 a (xs.map KV.l)) (hb:xs.length<=2^40):
  Ct pg 296 #[a] w X nX λv wa w'=>Own w' (made wa w') wa.heap.size 9 1 v ((xs.map (·.key)).map S1):=by
 intro w0 hk;replace ha:=ha.mv hk.bY;have kn:=ha.gR;refine Nu.1 λhs=>?_;repeat' refine ak ?_;intros
 refine gv (λn a b w X=> ∃i:Nat,a=I i/\n=xs.length-i/\i<=xs.length/\ai (bI w0) w0 X w/\Own w X w0.heap.size 9 1 b (((xs.take i).map (·.key)).map S1)) xs.length ⟨0,rfl,rfl,aq _,hs,Own.nil _ _ _ _ _⟩ ?_;rintro n a b w X ⟨i,rfl,rfl,hi,hs,ho⟩;rcases dE (xs) i with⟨cD,x,hx,hd⟩|⟨dD,hd⟩
 ·repeat' first|refine aJ ?_;intros|((with_reducible apply MI);(case own=>first|assumption|exact Own.since aQ aQ);(case hs=>assumption);(case h0=>first|exact λ_ h=>h|exact fv.has);(case he=>kernel_rfl);(case hk=>rfl);(case ho=>first|rfl|assumption);(case hb=>(simp only[af,aD,aa,aL,br];omega));(case hl=>(simp only[af,aD,aa,aL,br];omega));intro acc w X ax ho hc dF;replace hs:=ax)|((with_reducible refine fw ((xs).length-(i+1)) ?_ ?_);omega;exact⟨i+1,by simp,rfl,by omega,hs,by rw[bT,hx];simpa using ho⟩)
 ·repeat' first|refine aJ ?_;intros|(refine qr ?_;intro wa hk;(rw[aA dD] at ho;exact(ho.kp hk).tight))
def gu.err (p:gu):Int:=
 if !p.aO.may then 4 else if !p.aS.may||decide (p.aS= .zero)then 17
 else if !yw p.reads||!yw (p.writes.map (·.key))then 4
 else if p.writes.all (·.val.may)then 0 else 4
variable {p : gu}
theorem yZ (h1:Sl w X 1 vr (p.reads.map S1)) (h2:Sl w X 4 vw (p.writes.map KV.l)) (hb:p.writes.length<=2^40):
  Ct pg 224 #[p.v vr vw] w X nX λv _ _=>v=I p.err:=by
 intro w0 hk;replace h1:=h1.mv hk.bY;replace h2:=h2.mv hk.bY;refine L5.1 λhs=>?_;repeat' first|refine ak ?_;intros|(with_reducible refine Fk _ ?_ ?_ ?_);(· kernel_rfl);all_goals intros|with_reducible apply cB|(refine j5 (pD _) hs ?_ ?_<;>intro _ w X hs)|(refine j5 (Dr _) hs ?_ ?_<;>intro _ w X hs)|(refine qr ?_;intro wa hk;simp_all [gu.err])|(refine qk (aa9  qA) hs ?_ ?_<;>intro _ w X hs)|(refine cd (Pu  qA qA) kQ hs.has ?_;rintro v1 wa w X uH hle gn ax;have gw:=ad hs.kp.size hle;replace hs:=hs.trans ax;replace uH:=uH.up gn gw)
 refine eY (λn a w X=> ∃i:Nat,a=I (i:Nat)/\n=(p.writes).length-i/\i<=(p.writes).length/\ai (bI w0) w0 X w/\p.writes.all (·.val.may)=(p.writes.drop i).all (·.val.may)) (p.writes).length ⟨0,rfl,rfl,aq _,hs,by simp⟩ ?_;rintro n a w X ⟨i,rfl,rfl,hi,hs,hw⟩;rcases dE (p.writes) i with⟨cD,x,hx,hd⟩|⟨dD,hd⟩
 ·repeat' first|refine aJ ?_;intros|(refine j5 (l9 _) hs ?_ ?_<;>intro _ w X hs)|(refine qr ?_;intro wa hk;simp_all [gu.err])|((with_reducible refine ep ((p.writes).length-(i+1)) ?_ ?_);omega;exact⟨i+1,by simp,rfl,by omega,hs,by rw[hw,hd];simp[*]⟩)
 ·repeat' first|refine aJ ?_;intros|(refine qr ?_;intro wa hk;simp_all [gu.err])
def yt (l:List Int):Bool:=chain (λn=>decide (n>=1)&&decide (n<=12)) (λa b=>decide (a<b)) none l&&decide (l≠[])
theorem Mc {xs:List Int} (ha:Sl w X 1 a (xs.map I1)):
  Ct pg 218 #[a] w X nX λv _ _=>v=B (yt xs):=by
 intro w0 hk;replace ha:=ha.mv hk.bY;have kn:=ha.gR;refine Vq.1 λhs=>?_;repeat' refine ak ?_;intros
 refine eY (λn a w X=> ∃i:Nat,a=I (i:Nat)/\n=(xs).length-i/\i<=(xs).length/\ai (bI w0) w0 X w/\chain (λn=>decide (n>=1)&&decide (n<=12)) (λa b=>decide (a<b)) none xs=chain (λn=>decide (n>=1)&&decide (n<=12)) (λa b=>decide (a<b)) (uu xs i) (xs.drop i)) (xs).length ⟨0,rfl,rfl,aq _,hs,by simp[uu]⟩ ?_;rintro n a w X ⟨i,rfl,rfl,hi,hs,hw⟩;rcases dE (xs) i with⟨cD,x,hx,hd⟩|⟨dD,hd⟩
 ·rcases MW cD with⟨h0,hp⟩|⟨h0,y,hy,hp⟩<;>rw[hp,hd,chain] at hw<;>clear hd
  ·repeat' first|refine aJ ?_;intros|refine cM ?_ ?_<;>intros|(refine qr ?_;intro wa hk;(simp_all [yt,chain]<;>omega))|((with_reducible refine ep ((xs).length-(i+1)) ?_ ?_);omega;exact⟨i+1,by simp,rfl,by omega,hs,by rw[hw,rj hx];simp_all<;>omega⟩)
  ·repeat' first|refine aJ ?_;intros|refine cM ?_ ?_<;>intros|(refine qr ?_;intro wa hk;(simp_all [yt,chain]<;>omega))|((with_reducible refine ep ((xs).length-(i+1)) ?_ ?_);omega;exact⟨i+1,by simp,rfl,by omega,hs,by rw[hw,rj hx];simp_all<;>omega⟩)
 ·repeat' first|refine aJ ?_;intros|refine cM ?_ ?_<;>intros|(refine qr ?_;intro wa hk;(simp_all [yt,chain]<;>grind))
def M4 (l:List KV):Bool:=chain (λx=>iM x.key&&x.val.may&&decide (x.val.kind≠0)) (λa b=>zr a.key b.key) none l
theorem ZC (ha:Sl w X 4 a (xs.map KV.l)):
  Ct pg 340 #[a] w X nX λv _ _=>v=B (M4 xs):=by
 intro w0 hk;replace ha:=ha.mv hk.bY;have kn:=ha.gR;refine Vx.1 λhs=>?_;repeat' refine ak ?_;intros
 refine eY (λn a w X=> ∃i:Nat,a=I (i:Nat)/\n=(xs).length-i/\i<=(xs).length/\ai (bI w0) w0 X w/\M4 xs=chain (λx=>iM x.key&&x.val.may&&decide (x.val.kind≠0)) (λa b=>zr a.key b.key) (uu xs i) (xs.drop i)) (xs).length ⟨0,rfl,rfl,aq _,hs,by simp[uu,M4]⟩ ?_;rintro n a w X ⟨i,rfl,rfl,hi,hs,hw⟩;rcases dE (xs) i with⟨cD,x,hx,hd⟩|⟨dD,hd⟩
 ·rcases MW cD with⟨h0,hp⟩|⟨h0,y,hy,hp⟩<;>rw[hp,hd,chain] at hw<;>clear hd
  ·repeat' first|refine aJ ?_;intros|refine cM ?_ ?_<;>intros|with_reducible apply cB|(refine j5 (kX _) hs ?_ ?_<;>intro _ w X hs)|(refine j5 (l9 _) hs ?_ ?_<;>intro _ w X hs)|(refine qr ?_;intro wa hk;(simp_all [chain]<;>omega))|((with_reducible refine ep ((xs).length-(i+1)) ?_ ?_);omega;exact⟨i+1,by simp,rfl,by omega,hs,by rw[hw,rj hx];simp_all<;>omega⟩)
  ·repeat' first|refine aJ ?_;intros|refine cM ?_ ?_<;>intros|with_reducible apply cB|(refine j5 (kX _) hs ?_ ?_<;>intro _ w X hs)|(refine j5 (l9 _) hs ?_ ?_<;>intro _ w X hs)|(refine qr ?_;intro wa hk;(simp_all [chain]<;>omega))|((with_reducible refine ep ((xs).length-(i+1)) ?_ ?_);omega;exact⟨i+1,by simp,rfl,by omega,hs,by rw[hw,rj hx];simp_all<;>omega⟩)
 ·repeat' first|refine aJ ?_;intros|(refine qr ?_;intro wa hk;(simp_all [chain]<;>grind))
abbrev dR.zero:dR:=⟨0,0,0,0⟩
abbrev State.zero:State:=⟨.zero,.zero,.zero,[],[]⟩
def State.isZero (s:State):Bool:=decide (s.range= .zero)&&decide (s.floor= .zero)&&decide (s.closed= .zero)&&decide (s.iz=[])&&decide (s.gX=[])
theorem Pv (h1:qy w X vh s.iz) (h2:qx w X vp s.gX):
  Ct pg 335 #[s.v vh vp] w X nX λv _ _=>v=B s.isZero:=by
 intro w0 hk;replace h1:=h1.mv hk.bY;replace h2:=h2.mv hk.bY;refine Nv.1 λhs=>?_;repeat' first|refine ak ?_;intros|refine cM ?_ ?_<;>intros|(with_reducible refine Fk _ ?_ ?_ ?_);(· kernel_rfl);all_goals intros|with_reducible apply cB|(refine qr ?_;intro wa hk;(simp_all [State.isZero,dR.ext_iff]))|((with_reducible refine CZ (Ad _) hs.has ?_);intro w X ax;replace hs:=hs.trans ax)
def Rec.isZero (r:Rec):Bool:=decide (r.aO= .zero)&&decide (r.aS= .zero)&&decide (r.prev= .zero)&&!r.jF&&decide (r.n=0)&&decide (r.rV=0)&&
 decide (r.reads=[])&&decide (r.writes=[])&&decide (r.parts=[])&&decide (r.wV=[])&&r.state.isZero
theorem aba (h:r.at w X vr vw vp vq vh vd):
  Ct pg 277 #[r.v vr vw vp vq vh vd] w X nX λv _ _=>v=B r.isZero:=by
 intro w0 hk;obtain⟨h1,h2,h3,h4,h5,h6⟩:=h.mv hk.bY;refine Zm.1 λhs=>?_;cases hc:r.jF<;>
 repeat' first|refine ak ?_;intros|refine cM ?_ ?_<;>intros|(with_reducible refine Fk _ ?_ ?_ ?_);(· kernel_rfl);all_goals intros|(with_reducible refine af9 _ ?_ ?_ ?_);(· kernel_rfl);all_goals intros|with_reducible apply cB|(refine qr ?_;intro wa hk;(simp_all [Rec.isZero]))|((with_reducible refine CZ (Ad _) hs.has ?_);intro w X ax;replace hs:=hs.trans ax)|(refine qk (Pv  (s:=r.state) qA qA) hs ?_ ?_<;>intro _ w X hs)
def Rec.strip (r:Rec):Rec×Bool:=
 if r.kind=1 then({ r with state:=.zero },true)
 else if r.kind=2\/r.kind=7\/r.kind=8 then({ r with n:=0 },true)
 else if r.kind=3 then({ r with aO:=.zero,aS:=.zero,reads:=[],writes:=[],parts:=[] },true)
 else if r.kind=4 then({ r with aO:=.zero,jF:=false,aS:=.zero },true)
 else if r.kind=5 then({ r with aS:=.zero },true)
 else if r.kind=6 then({ r with rV:=0,n:=0,aS:=.zero },true)
 else if r.kind=9 then({ r with aO:=.zero,aS:=.zero,parts:=[] },true)
 else if r.kind=10 then({ r with aO:=.zero },true)
 else if r.kind=11 then({ r with prev:=.zero,aS:=.zero,aO:=.zero,writes:=[] },true)
 else if r.kind=12 then({ r with aS:=.zero,wV:=[] },true)
 else(r,false)
theorem S8 (h:r.at w X vr vw vp vq vh vd):
  Ct pg 276 #[r.v vr vw vp vq vh vd] w X nX λv _ _=> ∃ZD lz Ju vq' ZE ZF,v= .tuple #[r.strip.1.v ZD lz Ju vq' ZE ZF,B r.strip.2]/\
   r.strip.1.at w X ZD lz Ju vq' ZE ZF:=by
 intro w0 hk;obtain⟨h1,h2,h3,h4,h5,h6⟩:=h;have o1:=h1.one;have o2:=h2.one;have o3:=h3.one;have o4:=h4.one;have o5:=h5.one;have o6:=h6.one;refine Rs.1 λhs=>?_;have n2:Sl w X 4 (.slice none 0 0) (([]:List KV).map KV.l):=Sl.nil _ _ _;have n3:Sl w X 1 (.slice none 0 0) (([]:List Int).map I1):=Sl.nil _ _ _;have n4:qy w X (.slice none 0 0) []:=fp.nil _ _ _;have n5:qx w X (.slice none 0 0) []:=fp.nil _ _ _;repeat' first|refine ak ?_;intros|refine cM ?_ ?_<;>intros|with_reducible apply cB
 all_goals
  refine bM hs ?_;intro wa aH;unfold Rec.strip;repeat (first|rw[if_pos zQ]|rw[if_neg zQ])
  exact⟨_,_,_,_,_,_,rfl,by assumption,by assumption,by assumption,by assumption,by assumption,by assumption⟩
theorem JB {xs:List BA} (ha:Sl w X 1 a (xs.map S1)) (hb:xs.length<=2^40):
  Ct pg 87 #[a] w X nX λv wa w'=>Own w' (made wa w') wa.heap.size 9 1 v (xs.map S1):=by
  intro w0 hk;replace ha:=ha.mv hk.bY;refine Ab.1 λhs=>?_;repeat' first|refine ak ?_;intros|refine cM ?_ ?_<;>intros|(refine Qu hs ?_;intro acc w X hs ho)|(refine qr ?_;intro wa hk;(first|(rename_i h1 h2;(first|(rw[h2])|skip);exact Own.nil _ _ _ _ _)|exact(ho.kp hk).tight))|((with_reducible apply qj);(case own=>assumption);(case hs=>assumption);(case h0=>exact λ_ h=>h);(case he=>kernel_rfl);(case src=>exact Sl.mv ha (ai.mv hs));(case h1=>simp[aK.one]);(case hb=>simp;omega);(case hl=>simp;omega);intro acc w X ax ho hc dF;replace hs:=ax;rw[cI] at ho)
theorem HX (ha:Sl w X 4 a (xs.map KV.l)) (hb:xs.length<=2^40):
  Ct pg 89 #[a] w X nX λv wa w'=>Own w' (made wa w') wa.heap.size 178 4 v (xs.map KV.l):=by
  intro w0 hk;replace ha:=ha.mv hk.bY;refine wA.1 λhs=>?_;repeat' first|refine ak ?_;intros|refine cM ?_ ?_<;>intros|(refine Qu hs ?_;intro acc w X hs ho)|(refine qr ?_;intro wa hk;(first|(rename_i h1 h2;(first|(rw[h2])|skip);exact Own.nil _ _ _ _ _)|exact(ho.kp hk).tight))|((with_reducible apply qj);(case own=>assumption);(case hs=>assumption);(case h0=>exact λ_ h=>h);(case he=>kernel_rfl);(case src=>exact Sl.mv ha (ai.mv hs));(case h1=>simp[aK.one]);(case hb=>simp;omega);(case hl=>simp;omega);intro acc w X ax ho hc dF;replace hs:=ax;rw[cI] at ho)
theorem Pw {xs:List pz} (ha:Sl w X 6 a (xs.map pz.l)) (hb:xs.length<=2^40):
  Ct pg 290 #[a] w X nX λv wa w'=>Own w' (made wa w') wa.heap.size 304 6 v (xs.map pz.l):=by
  intro w0 hk;replace ha:=ha.mv hk.bY;refine uz.1 λhs=>?_;repeat' first|refine ak ?_;intros|refine cM ?_ ?_<;>intros|(refine Qu hs ?_;intro acc w X hs ho)|(refine qr ?_;intro wa hk;(first|(rename_i h1 h2;(first|(rw[h2])|skip);exact Own.nil _ _ _ _ _)|exact(ho.kp hk).tight))|((with_reducible apply qj);(case own=>assumption);(case hs=>assumption);(case h0=>exact λ_ h=>h);(case he=>kernel_rfl);(case src=>exact Sl.mv ha (ai.mv hs));(case h1=>simp[aK.one]);(case hb=>simp;omega);(case hl=>simp;omega);intro acc w X ax ho hc dF;replace hs:=ax;rw[cI] at ho)
variable {k : BA}
theorem VB {xs:List BA} (ha:Sl w X 1 a (xs.map S1)):
  Ct pg 171 #[a,.string k] w X nX λv _ _=>v=I (idxOf (λx=>decide (k=x)) xs):=by
 intro w0 hk;replace ha:=ha.mv hk.bY;have kn:=ha.gR;refine Ac.1 λhs=>?_;repeat' refine ak ?_;intros
 refine eY (λn a w X=> ∃i:Nat,a=I (i:Nat)/\n=(xs).length-i/\i<=(xs).length/\ai (bI w0) w0 X w/\(∀(j:Nat) x,j<i->xs[j]? =some x->decide (k=x)=false)) (xs).length ⟨0,rfl,rfl,aq _,hs,by simp⟩ ?_;rintro n a w X ⟨i,rfl,rfl,hi,hs,hw⟩;rcases dE (xs) i with⟨cD,x,hx,hd⟩|⟨dD,hd⟩
 ·repeat' first|refine aJ ?_;intros|refine cM ?_ ?_<;>intros|(refine qr ?_;intro wa hk;(rw[BW hw hx (by simpa)]))|((with_reducible refine ep ((xs).length-(i+1)) ?_ ?_);omega;exact⟨i+1,by simp,rfl,by omega,hs,λj y hj hy=>by rcases Nat.lt_succ_iff_lt_or_eq.1 hj with h|h;exact hw j y h hy;subst h;rw[hx] at hy;cases hy;simpa⟩)
 ·repeat' first|refine aJ ?_;intros|(refine qr ?_;intro wa hk;(rw[yp λj x hj hx=>hw j x zQ hx]))
theorem uX {xs:List BA} (ha:Sl w X 1 a (xs.map S1)):
  Ct pg 115 #[a,.string k] w X nX λv _ _=>v=B (xs.any λx=>decide (k=x)):=by
 intro w0 hk;replace ha:=ha.mv hk.bY;refine yv.1 λhs=>?_;repeat' first|refine ak ?_;intros|refine cM ?_ ?_<;>intros|(refine qr ?_;intro wa hk;(rw[<-LU];simp[*]))|(refine UE (VB  qA) hs ?_;intro w X hs)
variable {f : FuncId}
theorem Md {p:KV->Bool} (ha:Sl w X 4 a (xs.map KV.l)) (hX: ∀k,X k->k<w.heap.size) (hf:enters pg f=true)
  (hp: ∀x,Ct pg f ((.agg x.l.toArray)::cs).toArray w X nX λv _ _=>v=B (p x)):
  Ct pg 369 #[a,.func (.func f) #[] cs.toArray] w X nX λv _ _=>v=I (idxOf p xs):=by
 intro w0 hk;replace ha:=ha.mv hk.bY;replace hp:=λx=>((hp x).kp hk).bI λk hx=>aw (hX k hx) hk.size;have kn:=ha.gR;refine uA.1 λhs=>?_;repeat' refine ak ?_;intros
 refine eY (λn a w X=> ∃i:Nat,a=I (i:Nat)/\n=(xs).length-i/\i<=(xs).length/\ai (bI w0) w0 X w/\(∀(j:Nat) x,j<i->xs[j]? =some x->p x=false)) (xs).length ⟨0,rfl,rfl,aq _,hs,by simp⟩ ?_;rintro n a w X ⟨i,rfl,rfl,hi,hs,hw⟩;rcases dE (xs) i with⟨cD,x,hx,hd⟩|⟨dD,hd⟩
 ·repeat' first|refine aJ ?_;intros|(refine qr ?_;intro wa hk;(rw[BW hw hx ‹_›]))|((with_reducible refine ep ((xs).length-(i+1)) ?_ ?_);omega;exact⟨i+1,by simp,rfl,by omega,hs,λj y hj hy=>by rcases Nat.lt_succ_iff_lt_or_eq.1 hj with h|h;exact hw j y h hy;subst h;rw[hx] at hy;cases hy;assumption⟩)|(refine Ht ((hp x).since hs) hf hs.has ?_ ?_<;>(intro _ w X ax;replace hs:=hs.trans ax))
 ·repeat' first|refine aJ ?_;intros|(refine qr ?_;intro wa hk;(rw[yp λj x hj hx=>hw j x zQ hx]))
theorem HY {p:KV->Bool} (ha:Sl w X 4 a (xs.map KV.l)) (hX: ∀k,X k->k<w.heap.size) (hf:enters pg f=true)
  (hp: ∀x,Ct pg f ((.agg x.l.toArray)::cs).toArray w X nX λv _ _=>v=B (p x)):
  Ct pg 363 #[a,.func (.func f) #[] cs.toArray] w X nX λv _ _=>v=B (xs.any p):=by
 intro w0 hk;replace ha:=ha.mv hk.bY;replace hp:=λx=>((hp x).kp hk).bI λk hx=>aw (hX k hx) hk.size;refine tf.1 λhs=>?_;repeat' first|refine ak ?_;intros|refine cM ?_ ?_<;>intros|(refine qr ?_;intro wa hk;(rw[<-LU];simp[*]))|(refine UE (Md ha hs.has hf hp) hs ?_;intro w X hs)
def tle (a b:BA):Bool:=zr a b||decide (a=b)
def B7:cx->List pz->Bool
 |_,[]=>true
 |s,v::r=>v.aS.may&&decide (v.aS.cmp s>0)&&v.val.may&&B7 v.aS r
def ku.ok (h:ku) (ahead:BA):Bool:=iM h.key&&!tle h.key ahead&&decide (h.mI≠[])&&B7 .zero h.mI
theorem S9 {h:ku} {vv:Value} {ahead:BA} (ha:Sl w X 6 vv (h.mI.map pz.l)):
  Ct pg 289 #[.agg (h.l vv).toArray,.string ahead] w X nX λv _ _=>v=B (h.ok ahead):=by
 intro w0 hk;replace ha:=ha.mv hk.bY;have kn:=ha.gR;refine Rt.1 λhs=>?_;repeat' first|refine ak ?_;intros|refine cM ?_ ?_<;>intros|(refine j5 (kX _) hs ?_ ?_<;>intro _ w X hs)|(refine qr ?_;intro wa hk;(simp_all [ku.ok,tle]<;>grind))
 refine gv (λn a b w X=> ∃(i:Nat) (s:cx),a=I i/\b=s.v/\n=h.mI.length-i/\i<=h.mI.length/\ai (bI w0) w0 X w/\B7 .zero h.mI=B7 s (h.mI.drop i)) h.mI.length
  ⟨0,.zero,rfl,rfl,rfl,aq _,hs,by simp⟩ ?_
 rintro n a b w X ⟨i,s,rfl,rfl,rfl,hi,hs,hw⟩;have cA:h.mI≠[]:=by intro e;simp_all
 rcases dE (h.mI) i with⟨cD,x,hx,hd⟩|⟨dD,hd⟩
 ·rw[hd,B7] at hw;clear hd;repeat' first|refine aJ ?_;intros|refine cM ?_ ?_<;>intros|with_reducible apply cB|(refine j5 (pD _) hs ?_ ?_<;>intro _ w X hs)|(refine px (vV _ _) hs ?_;intro w X hs)|(refine j5 (l9 _) hs ?_ ?_<;>intro _ w X hs)|(refine qr ?_;intro wa hk;(simp_all [ku.ok,tle]<;>grind))|((with_reducible refine fw ((h.mI).length-(i+1)) ?_ ?_);omega;exact⟨i+1,x.aS,by simp,rfl,rfl,by omega,hs,by simp_all⟩)
 ·repeat' first|refine aJ ?_;intros|(refine qr ?_;intro wa hk;(simp_all [ku.ok,tle,B7]<;>grind))
def gu.has (p:gu) (k:BA):Bool:=p.writes.any λw=>decide (w.key=k)
variable {x : KV}
theorem Px {b:Nat} (h:Cells w X b 0 [.string k]):
  Ct pg 364 #[.agg x.l.toArray,ptr b 0] w X nX λv _ _=>v=B (decide (x.key=k)):=by
 intro w0 hk;replace h:=h.mv hk.bY;refine Nw.1 λhs=>?_;repeat' first|refine ak ?_;intros|refine cM ?_ ?_<;>intros|(refine qr ?_;intro wa hk;simp_all)
theorem JC (hX: ∀k,X k->k<w.heap.size) (h2:Sl w X 4 vw (p.writes.map KV.l)):
  Ct pg 342 #[p.v vr vw,.string k] w X nX λv _ _=>v=B (p.has k):=by
 intro w0 hk;replace h2:=h2.mv hk.bY;refine S3.1 λhs=>?_;repeat' first|refine ak ?_;intros|(refine q1x hs ?_;intro bx w X fY ax fv hs bo)|(refine qr ?_;intro wa hk;(simp[gu.has]))|(refine UE (HY (p:=λx=>decide (x.key=k)) (h2.mv (ai.mv (fv.trans hs))) hs.has kQ λx=>Px (x:=x) (by first|exact bo.cells)) hs ?_;intro w X hs)
theorem sJ:xf pg 34 (λk:bL=>k.v):=
 aif (n:=3) kQ (λk:bL=>[k.eh,k.aW,k.sq]) (λ_=>rfl) (λa b h=>by
  simp only[BJ,and_true] at h;exact bL.ext h.1 h.2.1 h.2.2)
def yb:xf pg 9 (λs:BA=>aN s):=II kQ
def rP (w:World) (A:XS) (v:Value) (l:List pz):Prop:=Sl w A 6 v (l.map pz.l)
def qw (w:World) (A:XS) (v:Value) (p:gu):Prop:= ∃vr vw,v=p.v vr vw/\Sl w A 1 vr (p.reads.map S1)/\Sl w A 4 vw (p.writes.map KV.l)
def rP.mv:qt rP:=λ_ _ _ _ _ _ h m=>Sl.mv h m
def qw.mv:qt qw:=λ_ _ _ _ _ _ ⟨vr,vw,h,h1,h2⟩ m=>⟨vr,vw,h,h1.mv m,h2.mv m⟩
structure iR (w:World) (X A:XS) (sb kb pb:Nat) (hm:List (BA×List pz)) (pm:List (bL×gu)) (low:cx):Prop where
 box:aG w X sb [.map (some kb),.map (some pb),I low.wall,I low.dC,I low.node] 423
 keys:dM w X A kb (λs:BA=>aN s) rP hm
 gX:dM w X A pb (λk:bL=>k.v) qw pm
 sub: ∀k,A k->X k
 off: ∀k,A k->k≠sb/\k≠kb/\k≠pb
variable {low : cx} {pm : List (bL × gu)} {hm : List (BA × List pz)} {kb pb sb : Nat} {A Y : XS} {w' : World}
theorem iR.mv (h:iR w X A sb kb pb hm pm low)
  (hX: ∀k,X k->k<w.heap.size) (m:Mv X w Y w'):iR w' Y A sb kb pb hm pm low:=by
 have ma:Mv A w A w':=λk hk hl=>⟨hk,(m k (h.sub k hk) hl).2⟩;exact⟨h.box.mv m,h.keys.mv rP.mv m ma,h.gX.mv qw.mv m ma,λk hk=>(m k (h.sub k hk) (hX k (h.sub k hk))).1,h.off⟩
variable {w0 : World}
theorem aiJ {X0:XS} (h:dM w0 X0 A kb (λs:BA=>aN s) rP hm) (hA: ∀k,A k->X0 k) (m:Mv X0 w0 X w)
  (n: ∀v,Sl w0 X0 6 v (((getM k hm).getD []).map pz.l)->N v):aV pg X w (Instr.lookup 420 (.map (some kb)) (.string k) false) N:=by
 have h':dM w X A kb (λs:BA=>aN s) rP hm:=h.mv rP.mv m λk hk hl=>⟨hk,(m k (hA k hk) hl).2⟩;obtain⟨es,c,h1,h2⟩:=h;refine lO (et:=300) (A:=X) (rd:=λw X v l=>Sl w0 A 6 v (l.map pz.l)) (l:=hm) (.slice none 0 0) ?_ yb kQ kQ (λv a hg hr=>?_) λhg=>?_
 ·exact⟨es,c,h1.mv m,by
   clear h1 h' n
   induction es generalizing hm with
   |nil=>cases hm<;>first|trivial|exact h2.elim
   |cons e es ih=>cases hm with
    |nil=>exact h2.elim
    |cons x l=>exact⟨h2.1,h2.2.1,ih h2.2.2⟩⟩
 ·exact n v (by rw[hg];exact Sl.mv hr (Mv.sub hA))
 ·exact n _ (by rw[hg];exact Sl.nil _ _ _)
def gu.D6 (x q:gu):Bool:=x.writes.any (λw=>q.has w.key||q.reads.any λk=>decide (w.key=k))||x.reads.any λk=>q.has k
def Fm (l:List pz) (gK:cx) (all:Bool):gL×cx:=l.foldl (λs v=>if all||decide (v.aS.cmp gK<=0)then(v.val,v.aS)else s) (.zero,.zero)
def HZ (hm:List (BA×List pz)) (k:BA):List pz:=(getM k hm).getD []
abbrev aew (k:BA) (s:gL×cx):Value:=.agg #[.string k,I s.1.kind,.float .f64 s.1.num,.string s.1.text,I s.2.wall,I s.2.dC,I s.2.node]
theorem VC {gK:cx} {all:Bool}
  (h:iR w X A sb kb pb hm pm low) (hX: ∀k,X k->k<w.heap.size):
  Ct pg 365 #[ptr sb 0,.string k,gK.v,B all] w X nX λv _ _=>v=aew k (Fm (HZ hm k) gK all):=by
 intro w0 hk;replace h:=h.mv hX hk.bY;have fY:=h.box;refine I5.1 λhs=>?_;repeat' refine ak ?_;intros
 refine aiJ h.keys h.sub (Mv.refl _ _) λvv hvv=>?_
 show aV _ _ _ _ _
 have Up:HZ hm k=(getM k hm).getD []:=rfl;rw[<-Up] at hvv;generalize HZ hm k=vs at hvv;have kn:=hvv.gR;repeat' refine ak ?_;intros
 refine gv (λn a b w X=> ∃(i:Nat) (s:gL×cx),a=I i/\b=aew k s/\n=vs.length-i/\i<=vs.length/\ai (bI w0) w0 X w/\
  Fm vs gK all=(vs.drop i).foldl (λs v=>if all||decide (v.aS.cmp gK<=0)then(v.val,v.aS)else s) s) vs.length ⟨0,(.zero,.zero),rfl,rfl,rfl,aq _,hs,by rw[tg];rfl⟩ ?_
 rintro n a b w X ⟨i,s,rfl,rfl,rfl,hi,hs,hw⟩;rcases dE (vs) i with⟨cD,x,hx,hd⟩|⟨dD,hd⟩
 ·rw[hd,iB] at hw;cases all
  ·repeat' first|refine aJ ?_;intros|refine cM ?_ ?_<;>intros|with_reducible apply cB|(refine px (vV _ _) hs ?_;intro w X hs)|((with_reducible refine fw ((vs).length-(i+1)) ?_ ?_);omega;exact⟨i+1,(x.val,x.aS),by simp,rfl,rfl,by omega,hs,by rw[hw];simp[*]⟩)|((with_reducible refine fw ((vs).length-(i+1)) ?_ ?_);omega;exact⟨i+1,s,by simp,rfl,rfl,by omega,hs,by rw[hw];simp[*]⟩)
  ·repeat' first|refine aJ ?_;intros|with_reducible apply cB|((with_reducible refine fw ((vs).length-(i+1)) ?_ ?_);omega;exact⟨i+1,(x.val,x.aS),by simp,rfl,rfl,by omega,hs,by rw[hw];simp[*]⟩)
 ·repeat' first|refine aJ ?_;intros|(refine qr ?_;intro wa hk;(rw[hw,hd];rfl))
theorem VD
  (h:iR w X A sb kb pb hm pm low) (hX: ∀k,X k->k<w.heap.size):
  Ct pg 343 #[ptr sb 0,.string k] w X nX λv _ _=>v=aew k (Fm (HZ hm k) .zero true):=by
 intro w0 hk;replace h:=h.mv hX hk.bY;refine I4.1 λhs=>?_;repeat' first|refine ak ?_;intros|(refine qr ?_;intro wa hk;rfl)|(refine UE (VC (gK:=.zero) h hs.has) hs ?_;intro w X hs)
def Me (hm:List (BA×List pz)) (x:gu):Bool:=x.writes.any λw=>decide ((Fm (HZ hm w.key) .zero true).2.cmp x.aS>=0)
theorem aex {x:gu}
  (h:iR w X A sb kb pb hm pm low) (hX: ∀k,X k->k<w.heap.size) (h2:Sl w X 4 vw (x.writes.map KV.l)):
  Ct pg 292 #[ptr sb 0,x.v vr vw] w X nX λv _ _=>v=B (Me hm x):=by
 intro w0 hk;replace h:=h.mv hX hk.bY;replace h2:=h2.mv hk.bY;have kn:=h2.gR;refine Nt.1 λhs=>?_;repeat' refine ak ?_;intros
 refine eY (λn a w X=> ∃i:Nat,a=I (i:Nat)/\n=(x.writes).length-i/\i<=(x.writes).length/\ai (bI w0) w0 X w/\Me hm x=(x.writes.drop i).any (λw=>decide ((Fm (HZ hm w.key) .zero true).2.cmp x.aS>=0))) (x.writes).length ⟨0,rfl,rfl,aq _,hs,by simp[Me]⟩ ?_;rintro n a w X ⟨i,rfl,rfl,hi,hs,hw⟩;rcases dE (x.writes) i with⟨cD,y,hy,hd⟩|⟨dD,hd⟩
 ·rw[hd,yX] at hw;repeat' first|refine aJ ?_;intros|refine cM ?_ ?_<;>intros|(refine px (vV _ _) hs ?_;intro w X hs)|(refine qr ?_;intro wa hk;simp_all)|((with_reducible refine ep ((x.writes).length-(i+1)) ?_ ?_);omega;exact⟨i+1,by simp,rfl,by omega,hs,by rw[hw];simp[*]⟩)|(refine UE (VD (h.mv (λ_ h=>h) (ai.mv hs)) hs.has) hs ?_;intro w X hs)
 ·repeat' first|refine aJ ?_;intros|(refine qr ?_;intro wa hk;simp_all)
abbrev U1 (b:Nat):List Value:=[.int .u8 b]
def pW (u:Nat):List Nat:=if u<128 then [u] else(u % 128+128)::pW (u/128)
termination_by u
decreasing_by omega
def xF (n:Int):Nat:=if n<0 then 18446744073709551615-((n % 18446744073709551616).toNat*2 % 18446744073709551616)else(n % 18446744073709551616).toNat*2 % 18446744073709551616
def encI (n:Int):List Nat:=pW (xF n)
theorem ZG: ∀(k u:Nat),u<128^k->(pW u).length<=max k 1
 |0,u,h=>by grind [pW]
 |k+1,u,h=>by
  unfold pW;split
  ·simp_all
  ·have hk:1<=k:=by
    rcases k with _|k
    ·omega
    ·omega
   have h1:u/128<128^k:=by
    rw[xk dQ,<-Nat.pow_succ];exact h
   have:=ZG k (u/128) h1;simp_all
theorem afa (n:Int):xF n<18446744073709551616:=by
 unfold xF;split<;>omega
theorem fD (n:Int):(encI n).length<=10:=by
 have:=ZG 10 (xF n) (aw (afa n) dQ);assumption
def wu (s:BA):List Nat:=encI s.size++s.data.toList.map UInt8.toNat
def agc (u k:Nat):Nat:=u/256^k % 256
def GY (x:Nat):List Nat:=(dA 8).map (agc (canon x))
def Jb (v:gL):List Nat:=
 let v:=if v.may then v else gL.zero
 encI v.kind++(if v.kind=1 then GY v.num else if v.kind=2 then wu v.text else [])
def adV (b:Bool):List Nat:=[if b then 1 else 0]
def lq (s:cx):List Nat:=encI s.wall++encI s.dC++encI s.node
def nB (t:bL):List Nat:=encI t.eh++encI t.aW++encI t.sq
def r6 (x:KV):List Nat:=wu x.key++Jb x.val
def iT {α:Type} (f:α->List Nat) (l:List α):List Nat:=encI l.length++(l.map f).flatten
variable {g lo : Nat} {rows : List (List Value)}
theorem Own.tag {k:Nat} (h:Own w X lo e k v rows) (hg:v.ownBlock=some g): ∃cs:List Value,w.heap[g]? =some (.cells cs.toArray e (0,0)):=by
 rcases h.row with⟨rfl,_⟩|⟨b,cap,cs,rfl,_,hr,_⟩
 ·cases hg
 ·simp only[Value.ownBlock,aj] at hg;subst hg;exact⟨cs,hr.2⟩
theorem Own.eT {e' k:Nat} (h:Own w X lo e k v rows) (hr:aG w Y g cs e') (he:decide (e≠e')=true):v.ownBlock≠some g:=λhg=>by
 obtain⟨c,h1⟩:=Own.tag h hg;rw[hr.2] at h1
 grind
theorem wrap64 (n:Int):IntKind.u64.wrap n=n % 18446744073709551616:=by rfl
theorem MF (n:Int):IntKind.u8.wrap n=n % 256:=by rfl
variable {u : Nat}
def Ry {src dst:TypeId} {k:IntKind} (hs:(P.underlying src).isSome=true) (hd:P.underlying dst=some (.int .u8)) (h:N (.int .u8 ((u % 256:Nat):Int))):aV P X w (o9 .u8 src dst (.int k (u:Int))) N:=
 aeg hs hd aQ
theorem ZH (u:Nat):IntKind.u8.wrap (u:Int)=((u % 256:Nat):Int):=by rfl
def anB (h:N (.int .u64 ((u*2 % 18446744073709551616:Nat):Int))):aV P X w (binOp .shl t (.int .u64 (u:Int)) (.int .u64 1)) N:=
 RY zQ aQ
theorem anC (h:N (.int .u64 ((u/128:Nat):Int))):aV P X w (binOp .shr t (.int .u64 (u:Int)) (.int .u64 7)) N:=
 Ea zQ (by
  have e:((u:Int)).fdiv (2^min (7:Int).toNat IntKind.u64.bits)=((u/128:Nat):Int):=by
   show((u:Int)).fdiv 128=_
   rw[th _ dQ];omega
  grind)
theorem anD (h:N (.int .u64 ((u/256:Nat):Int))):aV P X w (binOp .shr t (.int .u64 (u:Int)) (.int .u64 8)) N:=
 Ea zQ (by
  have e:((u:Int)).fdiv (2^min (8:Int).toNat IntKind.u64.bits)=((u/256:Nat):Int):=by
   show((u:Int)).fdiv 256=_
   rw[th _ dQ];omega
  grind)
theorem anE (hu:u<18446744073709551616) (h:N (.int .u64 ((18446744073709551615-u:Nat):Int))):aV P X w (Op.unary .xor (.int .u64 (u:Int))) N:=by
 refine bF (v:=.int .u64 ((18446744073709551615-u:Nat):Int)) (λwa=>?_) h;have key:(aF 64 18446744073709551615^^^aF 64 (u:Int)).toNat=18446744073709551615-u:=by
  have h1:aF 64 18446744073709551615=BitVec.allOnes 64:=by decide
  have h2:(aF 64 (u:Int))=BitVec.ofNat 64 u:=by simp
  rw[h1,h2,BitVec.allOnes_xor,BitVec.toNat_not,BitVec.toNat_ofNat,fy zQ]
 have e:IntKind.u64.wrap (aF IntKind.u64.bits IntKind.u64.max^^^aF IntKind.u64.bits (u:Int)).toNat=((18446744073709551615-u:Nat):Int):=by
  rw[wrap64]
  show((aF 64 18446744073709551615^^^aF 64 (u:Int)).toNat:Int) % 18446744073709551616=_
  rw[key];omega
 have hk:(Op.unary .xor (.int .u64 (u:Int))).run P wa= .ok (.int .u64 (IntKind.u64.wrap (aF IntKind.u64.bits IntKind.u64.max^^^aF IntKind.u64.bits (u:Int)).toNat)) wa:=by
  simp[Op.unary,Op.intBits,IntKind.signed]
 rw[hk,e]
theorem Qm {k:IntKind} {a:Int} (h:N (.int k (k.wrap (aF k.bits a|||aF k.bits b).toNat))):aV P X w (binOp .or t (.int k a) (.int k b)) N:=
 bF (λwa=>by simp[binOp,Op.intBits]) h
theorem apg: ∀b:Nat,b<256->(aF 8 (b:Int)|||aF 8 128).toNat=b % 128+128:=by decide+kernel
theorem akZ {b:Nat} (hb:b<256) (h:N (.int .u8 ((b % 128+128:Nat):Int))):aV P X w (binOp .or t (.int .u8 (b:Int)) (.int .u8 128)) N:=
 Qm (by
  have e:IntKind.u8.wrap (aF IntKind.u8.bits (b:Int)|||aF IntKind.u8.bits 128).toNat=((b % 128+128:Nat):Int):=by
   rw[MF];have:=apg b hb
   show((aF 8 (b:Int)|||aF 8 128).toNat:Int) % 256=_
   rw[this];omega
  grind)
theorem anF {n:Int} (h:N (.int .u64 (((n % 18446744073709551616).toNat*2 % 18446744073709551616:Nat):Int))):aV P X w (binOp .shl t (.int .u64 (IntKind.u64.wrap n)) (.int .u64 1)) N:=by
 have e:IntKind.u64.wrap n=((n % 18446744073709551616).toNat:Int):=by rw[wrap64];omega
 rw[e];exact anB h
theorem aph (h:N (.int .u8 ((u % 128+128:Nat):Int))):aV P X w (binOp .or t (.int .u8 (IntKind.u8.wrap (u:Int))) (.int .u8 128)) N:=by
 rw[ZH];exact akZ zQ (by simp_all)
structure Wr (w:World) (X:XS) (lo wb:Nat) (vb:Value) (bs:List Nat):Prop where
 box:aG w X wb [vb] 409
 ow:Own w X lo 5 1 vb (bs.map U1)
def DI (wb:Nat) (vb:Value):XS:=λk=>k=wb\/vb.ownBlock=some k
variable {bs : List Nat} {vb : Value} {wb : Nat}
def Wr.mv (h:Wr w X lo wb vb bs) (m:Mv X w Y w'):Wr w' Y lo wb vb bs:=⟨h.box.mv m,h.ow.mv m⟩
theorem Wr.ne (h:Wr w X lo wb vb bs):vb.ownBlock≠some wb:=Own.eT h.ow h.box (by rfl)
def oc (f:FuncId) (args:Array Value) (w:World) (X:XS) (lo wb:Nat) (vb:Value) (bs ds:List Nat):Prop:=
 Ct pg f args w X (DI wb vb) λv wa w'=>v= .tuple #[]/\ ∃Mf,Wr w' (λk=>DI wb vb k\/made wa w' k) lo wb Mf (bs++ds)
structure WS (w0:World) (ti:Value) (w:World) (X:XS) (lo wb:Nat) (vb:Value) (bs:List Nat):Prop where
 s:ai (out (DI wb ti) w0) w0 X w
 r:Wr w X lo wb vb bs
 v: ∀g,vb.ownBlock=some g->ti.ownBlock=some g\/w0.heap.size<=g
variable {ti : Value} {ds : List Nat} {R : Ending -> World -> Prop} {X' : XS}
section
variable {N : Value -> World -> XS -> Prop}
def WS.init (h:Wr w0 (bI w0) lo wb ti bs):WS w0 ti w0 (bI w0) lo wb ti bs:=⟨ai.out _ _,h,λg hg=>.inl hg⟩
def WS.since (h:WS w0 ti w X lo wb vb bs) (hs:ai X w X' w'):WS w0 ti w' X' lo wb vb bs:=⟨h.s.trans hs,h.r.mv hs.mv,h.v⟩
theorem WS.fin (h:WS w0 ti w X lo wb vb (bs++ds)):fin (uF (DI wb ti) w0 λv w'=>(λv wa w'=>v= .tuple #[]/\ ∃Mf,Wr w' (λk=>DI wb ti k\/made wa w' k) lo wb Mf (bs++ds)) v w0 w') X w (.tuple #[]):=by
 refine abX h.s λwa hk=>⟨rfl,vb,⟨.inl (.inl rfl),(h.r.box.kp hk).2⟩,(h.r.ow.kp hk).1,(h.r.ow.kp hk).2.1,λg hg=>?_⟩;rcases h.v g hg with h1|h1
 ·exact .inl (.inr h1)
 ·exact .inr ⟨h1,((h.r.ow.kp hk).ge hg).2⟩
theorem WS.out (h:WS w0 ti w X lo wb vb bs) {k:Nat} (hk:DI wb vb k) (h0:out (DI wb ti) w0 k):False:=by
 rcases hk with hk|hk
 ·exact h0.2 (.inl hk)
 ·rcases h.v k hk with h1|h1
  ·exact h0.2 (.inr h1)
  ·have:=h0.1;omega
theorem WS.fA (hS:WS w0 ti w X lo wb vb bs) (hp:oc f args w X lo wb vb bs ds) (hf:enters pg f=true)
  (k: ∀Mf w' X',WS w0 ti w' X' lo wb Mf (bs++ds)->ee (DI wb vb) X w X' w'->N (.tuple #[]) w' X'):eC pg R X w true f args N:=by
 refine yR hp hf hS.s.has (λq hq=>?_) λv wa w' X' hq hle gn DB hc=>?_
 ·rcases hq with rfl|hq
  ·exact hS.r.box.1
  ·exact hS.r.ow.2.2 q hq
 ·obtain⟨rfl,Mf,hW⟩:=hq;refine k Mf w' X' ⟨hS.s.dY hc λq h0 hq=>hS.out hq h0,⟨⟨hc.sub _ hS.r.box.1,hW.box.2⟩,hW.ow.1,hW.ow.2.1,λg hg=>?_⟩,λg hg=>?_⟩ hc
  ·rcases hW.ow.2.2 g hg with h1|h1
   ·rcases h1 with rfl|h1
    ·exact hc.sub _ hS.r.box.1
    ·exact hc.sub g (hS.r.ow.2.2 g h1)
   grind
  ·rcases hW.ow.2.2 g hg with h1|h1
   ·rcases h1 with rfl|h1
    ·exact absurd hg hW.ne
    ·exact hS.v g h1
   ·right;have:=h1.1;have:=hS.s.kp.size;omega
theorem Mg {b:Nat} (hS:WS w0 ti w X lo wb vb bs) (gw:lo<=w.heap.size) (hb:bs.length<=2^40)
  (k: ∀Mf w' X',WS w0 ti w' X' lo wb Mf (bs++[b])->N undef w' X'):
  eV pg R X w true (gO 151 5 1 1 #[(0,.int .u8 (b:Int))]) λs w1 X1=>eV pg R X1 w1 true (ga 151 5 1 1 151 vb s) λx w2 X2=>
   lK pg X2 w2 (bu (ptr wb 0)) λp=>aV pg X2 w2 (iE 409 0 0 1 p) λq=>eU pg R X2 w2 true (st1 151 1 q x) N:=by
 refine akR hS.r.ow hS.s.has gw kQ (row:=U1 b) rfl rfl rfl oQ oQ λv' w' X' hc ho dF=>?_;have cA: ∀q,fc vb q->q≠wb:=λq hq e=>hS.r.ne (by rw[<-e];exact hq);have fY:aG w' X' wb [vb] 409:=⟨hc.sub _ hS.r.box.1,by rw[hc.block _ hS.r.box.1 λhq=>cA _ hq rfl];exact hS.r.box.2⟩;have sS:=hS.s.dY hc λq h0 hq=>hS.out (.inr hq) h0;have Mh: ∀g,v'.ownBlock=some g->ti.ownBlock=some g\/w0.heap.size<=g:=λg hg=>by
  rcases dF with e|⟨g',e,dD⟩
  ·exact hS.v g (e▸hg)
  ·rw[e] at hg;cases hg;right;have:=hS.s.kp.size;omega
 with_reducible apply IK
 have Uk:fieldInfo pg 409 0=some (0,1):=by kernel_rfl
 refine Q8 (fY.cells) Uk rfl λo' vL _=>?_;subst vL;refine DZ fY kQ sQ (by obtain⟨_,_,_,rfl⟩:=ho.sl.form;rfl) (by obtain⟨_,_,_,rfl⟩:=ho.sl.form;rfl) sS.has λw3 X3 uE Cs=>?_;have aiK:v'.ownBlock≠some wb:=Own.eT ho fY (by rfl);refine k v' w3 X3 ⟨sS.dY uE λq h0 hq=>h0.2 (.inl hq),⟨?_,?_⟩,Mh⟩
 ·have e:bO [vb] (0+0) v'.cells.toList=[v']:=by obtain⟨_,_,_,rfl⟩:=ho.sl.form;rfl
  grind
 ·rw[aC];exact Own.dY ho uE λg hg e=>aiK (by rw[hg,e])
end
theorem Py:Ct pg 197 #[] w X nX λv wa w'=> ∃wb,v=ptr wb 0/\Wr w' (made wa w') wa.heap.size wb (.slice none 0 0) []:=by
 intro w0 hk;refine Nq.1 λhs=>?_;repeat' first|refine ak ?_;intros|(refine NV hs ?_;intro bx w X fY ax fv hs bo)
 refine bM (fv.trans hs) λwa aH=>⟨bx,rfl,⟨⟨fY,(bo.kp aH).lt⟩,(bo.kp aH).2⟩,Own.nil _ _ _ _ _⟩
theorem oY {n:Int} (h:Wr w X lo wb vb bs) (hb:bs.length<=2^39) (gw:lo<=w.heap.size):oc 260 #[ptr wb 0,I n] w X lo wb vb bs (encI n):=by
 intro w0 hk;have dp:lo<=w0.heap.size:=ad gw hk.size;have hS:=WS.init (h.mv hk.bY);refine L7.1 λ_=>?_;have hs:=hS.s;have zN:=hS.r.box;repeat' first|refine ak ?_;intros|(with_reducible apply anF)
 refine ij (λk=>k (.int .u64 (xF n:Int))) ?_ ?_
 ·refine eY (λn' a w X=> ∃(u:Nat) (uO:Value) (bsi:List Nat),a= .int .u64 (u:Int)/\n'=u/\WS w0 vb w X lo wb uO bsi/\bsi++pW u=bs++encI n) (xF n) ⟨xF n,vb,bs,rfl,rfl,hS,rfl⟩ ?_;clear hs zN hS;rintro u a w X ⟨_,uO,bsi,rfl,rfl,hS,uJ⟩;have hs:=hS.s;have zN:=hS.r.box;have hlen:bsi.length<=2^40:=by
   have h1:=congrArg List.length uJ;have h2:=fD n;simp only[aa] at h1;omega
  have SG:lo<=w.heap.size:=ad dp hs.kp.size;by_cases hu:u<128
  ·have he:pW u=[u]:=by rw[pW,if_pos hu]
   repeat' refine aJ ?_;intros
   rw[ZH,show u % 256=u by omega];refine Mg hS SG hlen λjb w2 X2 bh=>?_;rw[<-he,uJ] at bh;exact bh.fin
  ·have he:pW u=(u % 128+128)::pW (u/128):=by rw[pW,if_neg hu]
   repeat' first|refine aJ ?_;intros|(with_reducible apply aph)
   refine Mg hS SG hlen λjb w2 X2 bh=>?_;repeat' first|(with_reducible apply anC)
   refine ep (u/128) zQ ⟨u/128,jb,_,rfl,rfl,bh,?_⟩
   grind
 ·intro K hK;repeat' first|refine ak ?_;intros|refine cM ?_ ?_<;>intros|(with_reducible apply anE);omega
  ·have:xF n=18446744073709551615-((n % 18446744073709551616).toNat*2 % 18446744073709551616):=by unfold xF;rw[if_pos zQ]
   grind
  ·have:xF n=(n % 18446744073709551616).toNat*2 % 18446744073709551616:=by unfold xF;rw[if_neg zQ]
   simp_all
theorem aiL (s:BA):(yN s).map (λx=>[x])=(s.data.toList.map UInt8.toNat).map U1:=by
 unfold yN;simp
variable {v' : Value}
section
variable {N : Value -> World -> XS -> Prop}
theorem anG (hS:WS w0 ti w X lo wb vb bs) (hc:ee (fc vb) X w X' w') (ho:Own w' X' lo 5 1 v' (ds.map U1)) (dF:v'.ownBlock=vb.ownBlock\/ ∃g,v'.ownBlock=some g/\w.heap.size<=g)
  (k: ∀w' X',WS w0 ti w' X' lo wb v' ds->N undef w' X'):
  lK pg X' w' (bu (ptr wb 0)) λp=>aV pg X' w' (iE 409 0 0 1 p) λq=>eU pg R X' w' true (st1 151 1 q v') N:=by
 have cA: ∀q,fc vb q->q≠wb:=λq hq e=>hS.r.ne (by rw[<-e];exact hq);have fY:aG w' X' wb [vb] 409:=⟨hc.sub _ hS.r.box.1,by rw[hc.block _ hS.r.box.1 λhq=>cA _ hq rfl];exact hS.r.box.2⟩;have sS:=hS.s.dY hc λq h0 hq=>hS.out (.inr hq) h0;have Mh: ∀g,v'.ownBlock=some g->ti.ownBlock=some g\/w0.heap.size<=g:=λg hg=>by
  rcases dF with e|⟨g',e,dD⟩
  ·exact hS.v g (e▸hg)
  ·rw[e] at hg;cases hg;right;have:=hS.s.kp.size;omega
 with_reducible apply IK
 have Uk:fieldInfo pg 409 0=some (0,1):=by kernel_rfl
 refine Q8 (fY.cells) Uk rfl λo' vL _=>?_;subst vL;refine DZ fY kQ sQ (by obtain⟨_,_,_,rfl⟩:=ho.sl.form;rfl) (by obtain⟨_,_,_,rfl⟩:=ho.sl.form;rfl) sS.has λw3 X3 uE Cs=>?_;have aiK:v'.ownBlock≠some wb:=Own.eT ho fY kQ;refine k w3 X3 ⟨sS.dY uE λq h0 hq=>h0.2 (.inl hq),⟨?_,?_⟩,Mh⟩
 ·have e:bO [vb] (0+0) v'.cells.toList=[v']:=by obtain⟨_,_,_,rfl⟩:=ho.sl.form;rfl
  rw[e] at Cs;exact Cs
 ·exact Own.dY ho uE λg hg e=>aiK (by rw[hg,e])
end
theorem Om {s:BA} (h:Wr w X lo wb vb bs) (hb:bs.length<=2^38) (gw:lo<=w.heap.size) (fv:s.size<=2^38):oc 328 #[ptr wb 0,.string s] w X lo wb vb bs (wu s):=by
 intro w0 hk;have dp:lo<=w0.heap.size:=ad gw hk.size;have hS:=WS.init (h.mv hk.bY);refine J6.1 λ_=>?_;have hs:=hS.s;repeat' refine ak ?_;intros
 refine hS.fA (oY hS.r zQ dp) kQ λjb w2 X2 bh ni=>?_;clear hs;have hs:=bh.s;have zN:=bh.r.box;have Br:=fD s.size;repeat' refine ak ?_;intros
 refine anp (bytes:=1) bh.r.ow hs.has (ad dp hs.kp.size) kQ kQ oQ oQ λv' w3 X3 hc ho dF=>?_;rw[aiL,<-aC] at ho;refine anG bh hc ho dF λw4 X4 gZ=>?_;rw[ao] at gZ;exact gZ.fin
theorem Mi {x:Nat} (h:Wr w X lo wb vb bs) (hb:bs.length<=2^39) (gw:lo<=w.heap.size):oc 273 #[ptr wb 0,.float .f64 x] w X lo wb vb bs (GY x):=by
 intro w0 hk;have dp:lo<=w0.heap.size:=ad gw hk.size;have hS:=WS.init (h.mv hk.bY);refine IZ.1 λ_=>?_;have hs:=hS.s;repeat' first|((with_reducible refine rL (D5 _) ?_ hs.has ?_);(· kernel_rfl);intro w X ax;replace hs:=hs.trans ax)
 refine gv (λn' a b w X=> ∃(i:Nat) (uO:Value),a=I i/\b= .int .u64 ((canon x/256^i:Nat):Int)/\n'=8-i/\i<=8/\WS w0 vb w X lo wb uO (bs++(dA i).map (agc (canon x)))) 8
  ⟨0,vb,rfl,by simp,rfl,by omega,by simpa using hS.since aQ⟩ ?_
 clear hs hS ax;rintro n' a b w X ⟨i,uO,rfl,rfl,rfl,hi,hS⟩;have hs:=hS.s;have zN:=hS.r.box;have SG:lo<=w.heap.size:=ad dp hs.kp.size;by_cases h8:i<8
 ·repeat' refine aJ ?_;intros
  rw[ZH];refine Mg hS SG oQ λjb w2 X2 bh=>?_;repeat' first|refine ak ?_;intros|(with_reducible apply anD)
  refine fw (8-(i+1)) zQ ⟨i+1,jb,by simp,?_,rfl,by omega,?_⟩
  ·rw[Nat.div_div_eq_div_mul,Nat.pow_succ]
  ·rw[List.range_succ,aC,<-ao];exact bh
 ·obtain rfl:i=8:=by omega
  repeat' refine aJ ?_;intros
  exact hS.fin
theorem ZI (h:Wr w X lo wb vb bs) (hb:bs.length<=2^40):Ct pg 198 #[ptr wb 0] w X nX λv wa w'=>Own w' (made wa w') wa.heap.size 5 1 v (bs.map U1):=by
 intro w0 hk;replace h:=h.mv hk.bY;have zN:=h.box;refine IW.1 λhs=>?_;repeat' first|refine ak ?_;intros|(refine Qu hs ?_;intro acc w X hs ho)|(refine qr ?_;intro wa hk;(exact(ho.kp hk).tight))|((with_reducible apply qj);(case own=>assumption);(case hs=>assumption);(case h0=>exact λ_ h=>h);(case he=>kernel_rfl);(case src=>exact Sl.mv h.ow.sl (ai.mv hs));(case h1=>simp[aK.one]);(case hb=>simp;omega);(case hl=>simp;omega);intro acc w X ax ho hc dF;replace hs:=ax;rw[cI] at ho)
theorem abb {b:Bool} (h:Wr w X lo wb vb bs) (hb:bs.length<=2^39) (gw:lo<=w.heap.size):oc 271 #[ptr wb 0,B b] w X lo wb vb bs (adV b):=by
 intro w0 hk;have dp:lo<=w0.heap.size:=ad gw hk.size;have hS:=WS.init (h.mv hk.bY);refine J0.1 λ_=>?_;have hs:=hS.s;have zN:=hS.r.box;cases b<;>
 repeat' refine ak ?_;intros
 ·refine Mg (b:=0) hS dp zQ λjb w2 X2 bh=>?_;exact bh.fin
 ·refine Mg (b:=1) hS dp zQ λjb w2 X2 bh=>?_;exact bh.fin
def uB (Z X:XS) (wb:Nat) (vb:Value):Prop:= ∀k,Z k->X k/\ ¬DI wb vb k
variable {Z : XS}
def WS.z (hS:WS w0 ti w X lo wb vb bs):uB (aK.out (DI wb ti) w0) X wb vb:=λk h=>⟨hS.s.sub k h,λhf=>hS.out hf h⟩
def WS.at (hS:WS w0 ti w X lo wb vb bs):Mv (aK.out (DI wb ti) w0) w0 (aK.out (DI wb ti) w0) w:=λk hk _=>⟨hk,hS.s.kp.block k hk⟩
def uB.mv (h:uB Z X wb vb) (hk:Kp X w w0):Mv Z w (out (DI wb vb) w0) w0:=λk ah hl=>⟨⟨aw hl hk.size,(h k ah).2⟩,hk.block k (h k ah).1⟩
abbrev kW (wb:Nat):List Value:=[ptr wb 0,.pointer none]
theorem abc {v:gL} (h:Wr w X lo wb vb bs) (hb:bs.length<=2^37) (gw:lo<=w.heap.size):oc 333 #[ptr wb 0,v.v] w X lo wb vb bs (Jb v):=by
 intro w0 hk;have dp:lo<=w0.heap.size:=ad gw hk.size;have hS:=WS.init (h.mv hk.bY);refine Zq.1 λ_=>?_;refine ij (λk=> ∀w X,ai (bI w0) w0 X w->k (if v.may then v else gL.zero).v w X) ?_ ?_
 ·intro w X hsX;generalize hu:(if v.may then v else gL.zero)=u;have hue:Jb v=encI u.kind++(if u.kind=1 then GY u.num else if u.kind=2 then wu u.text else []):=by unfold Jb;simp only[hu]
  have hut:u.kind=2->u.text.size<=64:=by
   intro h2;by_cases hm:v.may=true
   ·rw[if_pos hm] at hu;subst hu;unfold gL.may at hm;rw[if_neg zQ,if_neg zQ,if_pos h2] at hm;simp at hm;omega
   ·rw[if_neg hm] at hu;rw[<-hu] at h2;cases h2
  have lV:=hS.since hsX;replace hs:=lV.s;repeat' refine ak ?_;intros
  refine lV.fA (oY lV.r zQ (ad dp hs.kp.size)) kQ λjb w2 X2 bh ni=>?_;have he:=fD u.kind;replace hs:=bh.s;repeat' refine ak ?_;intros
  refine ij (λk=> ∀w X mU,WS w0 vb w X lo wb mU (bs++Jb v)->k w X) ?_ ?_
  ·intro w X mU cr;exact cr.fin
  ·intro K hK;rw[hue,<-ao] at hK;repeat' first|refine ak ?_;intros|refine cM ?_ ?_<;>intros
   ·refine bh.fA (Mi bh.r oQ (ad dp hs.kp.size)) kQ λmU w3 X3 cr uE=>?_;replace hs:=cr.s
    skip
    rw[if_pos zQ] at hK;exact hK _ _ _ cr
   ·refine bh.fA (Om bh.r oQ (ad dp hs.kp.size) (by have:=hut zQ;omega)) kQ λmU w3 X3 cr uE=>?_;replace hs:=cr.s
    skip
    rw[if_neg zQ,if_pos zQ] at hK;exact hK _ _ _ cr
   ·rw[if_neg zQ,if_neg zQ] at hK;rw[List.append_nil] at hK;exact hK _ _ _ bh
 ·intro K hK;have hs:=ai.init w0;cases hm:v.may<;>rw[hm] at hK
  ·repeat' first|refine ak ?_;intros|(refine j5 (l9 _) hs ?_ ?_<;>intro _ w X hs)
   all_goals first|exact hK _ _ hs|(exfalso;simp_all)
  ·repeat' first|refine ak ?_;intros|(refine j5 (l9 _) hs ?_ ?_<;>intro _ w X hs)
   all_goals first|exact hK _ _ hs|(exfalso;simp_all)
variable {cb xb xo : Nat}
theorem jM {n:Int} (h:Wr w X lo wb vb bs) (hc:Cells w Z cb 0 (kW wb)) (hx:Cells w Z xb xo [I n]) (hZ:uB Z X wb vb) (hb:bs.length<=2^38) (gw:lo<=w.heap.size):
  oc 183 #[ptr cb 0,ptr xb xo] w X lo wb vb bs (encI n):=by
 intro w0 hk;have dp:lo<=w0.heap.size:=ad gw hk.size;replace hc:=hc.mv (hZ.mv hk);replace hx:=hx.mv (hZ.mv hk);have hS:=WS.init (h.mv hk.bY);refine CF.1 λ_=>?_;have hs:=hS.s;repeat' refine ak ?_;intros
 refine hS.fA (oY hS.r zQ dp) kQ λjb w2 X2 bh ni=>?_
 skip
 exact bh.fin
theorem Bj {s:BA} (h:Wr w X lo wb vb bs) (hc:Cells w Z cb 0 (kW wb)) (hx:Cells w Z xb xo [.string s]) (hZ:uB Z X wb vb) (hb:bs.length<=2^38) (gw:lo<=w.heap.size) (fv:s.size<=2^38):
  oc 268 #[ptr cb 0,ptr xb xo] w X lo wb vb bs (wu s):=by
 intro w0 hk;have dp:lo<=w0.heap.size:=ad gw hk.size;replace hc:=hc.mv (hZ.mv hk);replace hx:=hx.mv (hZ.mv hk);have hS:=WS.init (h.mv hk.bY);refine JZ.1 λ_=>?_;have hs:=hS.s;repeat' refine ak ?_;intros
 refine hS.fA (Om hS.r zQ dp fv) kQ λjb w2 X2 bh ni=>?_
 skip
 exact bh.fin
theorem kh {s:cx} (h:Wr w X lo wb vb bs) (hc:Cells w Z cb 0 (kW wb)) (hx:Cells w Z xb xo s.l) (hZ:uB Z X wb vb) (hb:bs.length<=2^37) (gw:lo<=w.heap.size):
  oc 189 #[ptr cb 0,ptr xb xo] w X lo wb vb bs (lq s):=by
 have e1:=fD s.wall;have e2:=fD s.dC;intro w0 hk;have dp:lo<=w0.heap.size:=ad gw hk.size;replace hc:=hc.mv (hZ.mv hk);replace hx:=hx.mv (hZ.mv hk);have hS:=WS.init (h.mv hk.bY);refine AU.1 λ_=>?_;have hs:=hS.s;repeat' refine ak ?_;intros
 refine hS.fA (jM (hS.r) (hc.mv hS.at) (Cells.mv aQ hS.at) hS.z zQ dp) kQ λjb w2 X2 bh ni=>?_;replace hs:=bh.s;repeat' refine ak ?_;intros
 refine bh.fA (jM (bh.r) (hc.mv bh.at) (Cells.mv aQ bh.at) bh.z oQ (ad dp hs.kp.size)) kQ λmU w3 X3 cr uE=>?_;replace hs:=cr.s;repeat' refine ak ?_;intros
 refine cr.fA (jM (cr.r) (hc.mv cr.at) (Cells.mv aQ cr.at) cr.z oQ (ad dp hs.kp.size)) kQ λRz w4 X4 gZ EL=>?_;replace hs:=gZ.s
 skip
 rw[ao,ao,<-ao (encI s.wall)] at gZ;exact gZ.fin
theorem zx {s:bL} (h:Wr w X lo wb vb bs) (hc:Cells w Z cb 0 (kW wb)) (hx:Cells w Z xb xo s.l) (hZ:uB Z X wb vb) (hb:bs.length<=2^37) (gw:lo<=w.heap.size):
  oc 187 #[ptr cb 0,ptr xb xo] w X lo wb vb bs (nB s):=by
 have e1:=fD s.eh;have e2:=fD s.aW;intro w0 hk;have dp:lo<=w0.heap.size:=ad gw hk.size;replace hc:=hc.mv (hZ.mv hk);replace hx:=hx.mv (hZ.mv hk);have hS:=WS.init (h.mv hk.bY);refine CH.1 λ_=>?_;have hs:=hS.s;repeat' refine ak ?_;intros
 refine hS.fA (jM (hS.r) (hc.mv hS.at) (Cells.mv aQ hS.at) hS.z zQ dp) kQ λjb w2 X2 bh ni=>?_;replace hs:=bh.s;repeat' refine ak ?_;intros
 refine bh.fA (jM (bh.r) (hc.mv bh.at) (Cells.mv aQ bh.at) bh.z oQ (ad dp hs.kp.size)) kQ λmU w3 X3 cr uE=>?_;replace hs:=cr.s;repeat' refine ak ?_;intros
 refine cr.fA (jM (cr.r) (hc.mv cr.at) (Cells.mv aQ cr.at) cr.z oQ (ad dp hs.kp.size)) kQ λRz w4 X4 gZ EL=>?_;replace hs:=gZ.s
 skip
 rw[ao,ao,<-ao (encI s.eh)] at gZ;exact gZ.fin
theorem zX (s:BA):(wu s).length=(encI s.size).length+s.size:=by
 unfold wu;rw[aa,af]
 congr 1
theorem YJ {v:gL} :(Jb v).length<=100:=by
 unfold Jb;generalize hu:(if v.may then v else gL.zero)=u;have h1:=fD u.kind;have hut:u.kind=2->u.text.size<=64:=by
  intro h2;by_cases hm:v.may=true
  ·rw[if_pos hm] at hu;subst hu;unfold gL.may at hm;rw[if_neg zQ,if_neg zQ,if_pos h2] at hm;simp at hm;omega
  ·rw[if_neg hm] at hu;rw[<-hu] at h2;cases h2
 dsimp only;rw[aa];by_cases k1:u.kind=1
 ·rw[if_pos k1];unfold GY;simp;omega
 ·rw[if_neg k1];by_cases k2:u.kind=2
  ·rw[if_pos k2];have h3:=hut k2;have h4:=fD u.text.size;rw[zX];omega
  ·rw[if_neg k2];simp;omega
theorem Ds {v:gL} (h:Wr w X lo wb vb bs) (hc:Cells w Z cb 0 (kW wb)) (hx:Cells w Z xb xo v.l) (hZ:uB Z X wb vb) (hb:bs.length<=2^37) (gw:lo<=w.heap.size):
  oc 275 #[ptr cb 0,ptr xb xo] w X lo wb vb bs (Jb v):=by
 intro w0 hk;have dp:lo<=w0.heap.size:=ad gw hk.size;replace hc:=hc.mv (hZ.mv hk);replace hx:=hx.mv (hZ.mv hk);have hS:=WS.init (h.mv hk.bY);refine I0.1 λ_=>?_;have hs:=hS.s;repeat' refine ak ?_;intros
 refine hS.fA (abc hS.r zQ dp) kQ λjb w2 X2 bh ni=>?_
 skip
 exact bh.fin
theorem VE (h:Wr w X lo wb vb bs) (hc:Cells w Z cb 0 (kW wb)) (hx:Cells w Z xb xo x.l) (hZ:uB Z X wb vb) (hb:bs.length<=2^35) (gw:lo<=w.heap.size) (fv:x.key.size<=2^35):
  oc 192 #[ptr cb 0,ptr xb xo] w X lo wb vb bs (r6 x):=by
 have e1:(wu x.key).length<=10+x.key.size:=by
  have:=fD x.key.size;rw[zX];omega
 intro w0 hk;have dp:lo<=w0.heap.size:=ad gw hk.size;replace hc:=hc.mv (hZ.mv hk);replace hx:=hx.mv (hZ.mv hk);have hS:=WS.init (h.mv hk.bY);refine IV.1 λ_=>?_;have hs:=hS.s;repeat' refine ak ?_;intros
 refine hS.fA (Bj hS.r (hc.mv hS.at) (Cells.mv aQ hS.at) hS.z zQ dp zQ) kQ λjb w2 X2 bh ni=>?_;replace hs:=bh.s;repeat' refine ak ?_;intros
 refine bh.fA (Ds (v:=x.val) bh.r (hc.mv bh.at) (Cells.mv aQ bh.at) bh.z oQ (ad dp hs.kp.size)) kQ λmU w3 X3 cr uE=>?_;replace hs:=cr.s
 skip
 rw[ao] at cr;exact cr.fin
theorem ZJ (h:Wr w X lo wb vb bs) (hc:Cells w Z cb 0 (kW wb)) (hx:Cells w Z xb xo x.l) (hZ:uB Z X wb vb) (hb:bs.length<=2^35) (gw:lo<=w.heap.size) (fv:x.key.size<=2^35):
  oc 194 #[ptr cb 0,ptr xb xo] w X lo wb vb bs (r6 x):=by
 have e1:(wu x.key).length<=10+x.key.size:=by
  have:=fD x.key.size;rw[zX];omega
 intro w0 hk;have dp:lo<=w0.heap.size:=ad gw hk.size;replace hc:=hc.mv (hZ.mv hk);replace hx:=hx.mv (hZ.mv hk);have hS:=WS.init (h.mv hk.bY);refine JW.1 λ_=>?_;have hs:=hS.s;repeat' refine ak ?_;intros
 refine hS.fA (Bj hS.r (hc.mv hS.at) (Cells.mv aQ hS.at) hS.z zQ dp zQ) kQ λjb w2 X2 bh ni=>?_;replace hs:=bh.s;repeat' refine ak ?_;intros
 refine bh.fA (Ds (v:=x.val) bh.r (hc.mv bh.at) (Cells.mv aQ bh.at) bh.z oQ (ad dp hs.kp.size)) kQ λmU w3 X3 cr uE=>?_;replace hs:=cr.s
 skip
 rw[ao] at cr;exact cr.fin
theorem lN {α:Type} {f:α->List Nat} {xs:List α} {i:Nat} {x:α} (h:xs[i]? =some x):((xs.take (i+1)).map f).flatten=((xs.take i).map f).flatten++f x:=by
 rw[bT,h];simp
theorem uL (s:cx):(lq s).length<=30:=by
 have h1:=fD s.wall;have h2:=fD s.dC;have h3:=fD s.node;unfold lq;simp only[aa];omega
theorem CT (s:bL):(nB s).length<=30:=by
 have h1:=fD s.eh;have h2:=fD s.aW;have h3:=fD s.sq;unfold nB;simp only[aa];omega
theorem VF {x:gu}
  (h:iR w X A sb kb pb hm pm low) (hX: ∀k,X k->k<w.heap.size) (h1:Sl w X 1 vr (x.reads.map S1)) (h2:Sl w X 4 vw (x.writes.map KV.l)):
  Ct pg 291 #[ptr sb 0,x.v vr vw] w X nX λv _ _=>v=B (pm.any λq=>x.D6 q.2):=by
 intro w0 hk;replace h:=h.mv hX hk.bY;replace h1:=h1.mv hk.bY;replace h2:=h2.mv hk.bY;have fY:=h.box;have CG:=h1.gR;have xx:=h2.gR;refine I3.1 λhs=>?_;repeat' refine ak ?_;intros
 refine akM (kt:=34) (et:=306) h.gX qw.mv h.sub kQ hs.has λr w X hr ax NI=>?_;replace hs:=hs.trans ax;refine gv (λn _ _ w X=> ∃left,n=left.length/\ai (bI w0) w0 X w/\LR w X A r pb (λk:bL=>k.v) qw pm left/\(pm.any λq=>x.D6 q.2)=left.any λq=>x.D6 q.2)
  pm.length ⟨pm,rfl,hs,NI,rfl⟩ ?_
 rintro n a b w X ⟨left,rfl,hs,NI,hw⟩;refine anl NI qw.mv (λk hk=>⟨hs.sub k (h.sub k hk),λe=>by have:k<w0.heap.size:=h.sub k hk;omega⟩) hs.has (λe0 w X ax=>?_) λkx q v lS w1 X1 hc jv arh he=>?_
 ·replace hs:=hs.trans ax;repeat' first|refine ak ?_;intros|(refine qr ?_;intro wa hk;(rw[hw,e0];rfl))
 ·have fv:=hs.dY hc λk hk e=>by have:k<w0.heap.size:=hk;omega
  obtain⟨ur,uw,rfl,q1,q2⟩:=jv;have hA1: ∀k,A k->X1 k:=λk hk=>fv.sub k (h.sub k hk);replace q1:=q1.mv (Mv.sub hA1);replace q2:=q2.mv (Mv.sub hA1);have o1:=q1.one;have o2:=q2.one;rw[af0 _ NI.nodup lS] at hw;replace hs:=ai.eQ fv.has;repeat' refine ak ?_;intros
  refine akN hs.has he λw X ax=>?_;replace hs:=hs.trans ax;repeat' refine ak ?_;intros
  refine eY (λn a w X=> ∃i:Nat,a=I (i:Nat)/\n=x.writes.length-i/\i<=x.writes.length/\ai X1 w1 X w/\
   (x.writes.any (λw=>q.has w.key||q.reads.any λk=>decide (w.key=k))=(x.writes.drop i).any (λw=>q.has w.key||q.reads.any λk=>decide (w.key=k)))) x.writes.length
   ⟨0,rfl,rfl,aq _,hs,by simp⟩ ?_
  rintro n a w X ⟨i,rfl,rfl,hi,hs,uP⟩;rcases dE (x.writes) i with⟨cD,y,hy,hd⟩|⟨dD,hd⟩
  ·rw[hd,yX] at uP;repeat' first|refine aJ ?_;intros|with_reducible apply cB|(refine qr ?_;intro wa hk;(rw[hw];simp[gu.D6,uP, *]))|((with_reducible refine ep ((x.writes).length-(i+1)) ?_ ?_);omega;exact⟨i+1,by simp,rfl,by omega,hs,by rw[uP];simp[*]⟩)|(refine qk (JC  (p:=q) hs.has qA) hs ?_ ?_<;>intro _ w X hs)|(refine qk (uX  qA) hs ?_ ?_<;>intro _ w X hs)
  ·rw[hd] at uP;repeat' refine aJ ?_;intros
   refine eY (λn a w X=> ∃i:Nat,a=I (i:Nat)/\n=x.reads.length-i/\i<=x.reads.length/\ai X1 w1 X w/\
    (x.reads.any (λk=>q.has k)=(x.reads.drop i).any (λk=>q.has k))) x.reads.length
    ⟨0,rfl,rfl,aq _,hs,by simp⟩ ?_
   rintro n a w X ⟨j,rfl,rfl,hj,hs,vT⟩;rcases dE x.reads j with⟨cD,y,hy,tD⟩|⟨Gz,tD⟩
   ·rw[tD,yX] at vT;repeat' first|refine aJ ?_;intros|(refine qr ?_;intro wa hk;(rw[hw];simp[gu.D6,vT, *]))|((with_reducible refine ep (x.reads.length-(j+1)) ?_ ?_);omega;exact⟨j+1,by simp,rfl,by omega,hs,by rw[vT];simp[*]⟩)|(refine qk (JC  (p:=q) hs.has qA) hs ?_ ?_<;>intro _ w X hs)
   ·rw[tD] at vT;repeat' refine aJ ?_;intros
    refine fw _ (akL lS) ⟨_,rfl,fv.trans hs,arh.mv qw.mv (ai.mv hs) (ai.iZ hs hA1),?_⟩;rw[hw];have:x.D6 q=false:=by unfold gu.D6;rw[uP,vT];rfl
    simp[this]
def gu.fresh (wa w':World) (v:Value) (p:gu):Prop:=
 ∃vr vw,v=p.v vr vw/\Own w' (made wa w') wa.heap.size 9 1 vr (p.reads.map S1)/\Own w' (made wa w') wa.heap.size 178 4 vw (p.writes.map KV.l)/\
  ∀g,vr.ownBlock=some g->vw.ownBlock≠some g
theorem ZK (h1:Sl w X 1 vr (p.reads.map S1)) (h2:Sl w X 4 vw (p.writes.map KV.l)) (lL:p.reads.length<=2^40) (wN:p.writes.length<=2^40):
  Ct pg 293 #[p.v vr vw] w X nX λv wa w'=>p.fresh wa w' v:=by
  intro w0 hk;replace h1:=h1.mv hk.bY;replace h2:=h2.mv hk.bY;refine Vu.1 λhs=>?_;refine cd (JB h1 lL) kQ hs.has ?_;rintro v1 wa w X uH pa mB ax;replace hs:=hs.trans ax;have q1:=uH.sl.one;repeat' refine ak ?_;intros
  refine cd (HX (h2.mv (ai.mv hs)) wN) kQ hs.has ?_;rintro v2 wb w2 X2 ju kF jt bp;have hb:w0.heap.size<=wa.heap.size:=pa;have anH:Own w X w0.heap.size 9 1 v1 (p.reads.map S1):=uH.up mB hb;have ari:=anH.since bp;have arj:w0.heap.size<=wb.heap.size:=ad hs.kp.size kF;have ark:Own w2 X2 w0.heap.size 178 4 v2 (p.writes.map KV.l):=ju.up jt arj;have q2:=ju.sl.one;replace hs:=hs.trans bp;repeat' first|refine ak ?_;intros|(refine qr ?_;intro wa hk;(exact⟨v1,v2,rfl,(ari.kp hk).tight,(ark.kp hk).tight,λg Yp xv=>by have:=(anH.ge Yp).2;have:=(ju.ge xv).1;omega⟩))
def BK (X:XS) (a b c:Nat):XS:=λk=>X k/\k≠a/\k≠b/\k≠c
theorem aey:Ct pg 288 #[] w X nX λv wa w'=>
  ∃sb kb pb,v=ptr sb 0/\iR w' (made wa w') (BK (made wa w') sb kb pb) sb kb pb [] [] .zero/\sb≠kb/\sb≠pb/\kb≠pb:=by
 intro w0 hk;refine aa5.1 λhs=>?_;refine ri (kv:=λs:BA=>aN s) rP nX hs.has λkb w1 X1 pj ax qp=>?_;refine ri (kv:=λk:bL=>k.v) qw nX ax.has λpb w2 X2 HF bp rl=>?_;have arl:=qp.x;have arn:=rl.x;have aro:=qp.mv rP.mv (ai.mv bp) (Y:=X2) (A':=nX) (λ_ h=>h.elim);replace hs:=(hs.trans ax).trans bp;repeat' first|refine ak ?_;intros|(refine NV hs ?_;intro bx w X fY ax fv hs bo)
 refine bM (fv.trans hs) ?_;intro wa hk;have qV:=(bo.kp hk).lt;have anI:=ax.kp.trans (hk.less ax.sub);have arp:made w0 wa kb:=⟨pj,by omega⟩;have arq:made w0 wa pb:=⟨by omega,by omega⟩;exact⟨bx,kb,pb,rfl,⟨bo.own.mv (Mv.one hk bo.1 ⟨by omega,qV⟩),aro.own.mv rP.mv (Mv.one anI (bp.sub _ arl.1) arp) (λ_ h=>h.elim),
  rl.own.mv qw.mv (Mv.one anI arn.1 arq) (λ_ h=>h.elim),λk hk=>hk.1,λk hk=>hk.2⟩,by omega,by omega,by omega⟩
def C8:BA->List ku->Bool
 |_,[]=>true
 |a,h::r=>h.ok a&&C8 h.key r
def yc (l:List ku):List (BA×List pz):=l.foldl (λm h=>cL h.key h.mI m) []
def RA (hm:List (BA×List pz)):List (bL×gu)->List gu->Int
 |_,[]=>0
 |pm,p::r=>if p.err≠0 then p.err else if(getM p.aO pm).isSome then 9 else if pm.any (λq=>p.D6 q.2)then 18 else if Me hm p then 20
  else RA hm (cL p.aO p pm) r
def Eg (hl:List ku) (pl:List gu):Int:=if C8 ⟨#[]⟩ hl then RA (yc hl) [] pl else 4
def iR.grow {A':XS} (h:iR w X A sb kb pb hm pm low)
  (hA: ∀k,A k->A' k) (hs: ∀k,A' k->X k/\k≠sb/\k≠kb/\k≠pb):iR w X A' sb kb pb hm pm low:=
 ⟨h.box,h.keys.mv rP.mv (Mv.refl _ _) (Mv.sub hA),h.gX.mv qw.mv (Mv.refl _ _) (Mv.sub hA),λk hk=>(hs k hk).1,λk hk=>(hs k hk).2⟩
def iR.to (h:iR w X (BK X sb kb pb) sb kb pb hm pm low)
  (hs:ai X w Y w') (hX: ∀k,X k->k<w.heap.size):iR w' Y (BK Y sb kb pb) sb kb pb hm pm low:=
 (h.mv hX (ai.mv hs)).grow (λk hk=>⟨hs.sub k hk.1,hk.2⟩) λk hk=>hk
def XL (lo:Nat) (X:XS):XS:=λk=>X k/\lo<=k
def iR.toL (h:iR w X (BK (XL lo X) sb kb pb) sb kb pb hm pm low)
  (hs:ai X w Y w') (hX: ∀k,X k->k<w.heap.size):iR w' Y (BK (XL lo Y) sb kb pb) sb kb pb hm pm low:=
 (h.mv hX (ai.mv hs)).grow (λk hk=>⟨⟨hs.sub k hk.1.1,hk.1.2⟩,hk.2⟩) λk hk=>⟨hk.1.1,hk.2⟩
variable {wa : World}
theorem iR.fin (h:iR w X (BK (XL w0.heap.size X) sb kb pb) sb kb pb hm pm low)
  (hk:Kp X w wa) (h1:w0.heap.size<=sb) (h2:w0.heap.size<=kb) (h3:w0.heap.size<=pb):iR wa (made w0 wa) (BK (made w0 wa) sb kb pb) sb kb pb hm pm low:=by
 have hz:=hk.size;have ma:Mv (BK (XL w0.heap.size X) sb kb pb) w (BK (made w0 wa) sb kb pb) wa:=λk ah hl=>⟨⟨⟨ah.1.2,by omega⟩,ah.2⟩,hk.block k ah.1.1⟩;have l1:=h.box.lt;have l2:=h.keys.x.2;have l3:=h.gX.x.2;exact⟨h.box.own.mv (Mv.one hk h.box.1 ⟨h1,by omega⟩),h.keys.own.mv rP.mv (Mv.one hk h.keys.x.1 ⟨h2,by omega⟩) ma,h.gX.own.mv qw.mv (Mv.one hk h.gX.x.1 ⟨h3,by omega⟩) ma,λk hk=>hk.1,λk hk=>hk.2⟩
def Ta (l:List gu):List (bL×gu):=l.foldl (λm p=>cL p.aO p m) []
def Lf (l:List gu):Prop:= ∀p∈l,p.reads.length<=2^40/\p.writes.length<=2^40
def Le (l:List ku):Prop:= ∀h∈l,h.mI.length<=2^40
variable {pl : List gu} {hl : List ku}
theorem ZL (h1:qy w X vh hl) (h2:qx w X vp pl) (lL:Le hl) (wN:Lf pl):
  Ct pg 220 #[vh,vp] w X nX λv wa w'=> ∃(u:Value) (n:Int),v= .tuple #[u,I n]/\n=Eg hl pl/\
   (n=0-> ∃sb kb pb,u=ptr sb 0/\sb≠kb/\sb≠pb/\kb≠pb/\iR w' (made wa w') (BK (made wa w') sb kb pb) sb kb pb (yc hl) (Ta pl) .zero):=by
 intro w0 hk;replace h1:=h1.mv hk.bY;replace h2:=h2.mv hk.bY;have CG:=h1.len;have xx:=h2.len;refine Zi.1 λhs=>?_;refine cd aey kQ hs.has ?_;rintro v wa w X ⟨sb,kb,pb,rfl,fN,ne1,ne2,ne3⟩ hle gn ax;have Tu:w0.heap.size<=sb:=ad hle fN.box.1.1;have pj:w0.heap.size<=kb:=ad hle fN.keys.x.1.1;have HF:w0.heap.size<=pb:=ad hle fN.gX.x.1.1;replace hs:=hs.trans ax;have ars:iR w X (BK (XL w0.heap.size X) sb kb pb) sb kb pb [] [] .zero:=(fN.mv (λk hk=>hk.2) (Mv.sub gn)).grow (λk hk=>⟨⟨gn k hk.1,ad hle hk.1.1⟩,hk.2⟩) λk hk=>⟨hk.1.1,hk.2⟩;clear fN;repeat' refine ak ?_;intros
 refine gv (λn a b w X=> ∃(i:Nat) (s:BA),a=I i/\b= .string s/\n=hl.length-i/\i<=hl.length/\ai (bI w0) w0 X w/\
  iR w X (BK (XL w0.heap.size X) sb kb pb) sb kb pb (yc (hl.take i)) [] .zero/\C8 ⟨#[]⟩ hl=C8 s (hl.drop i)) hl.length
  ⟨0,⟨#[]⟩,rfl,rfl,rfl,aq _,hs,ars,by rw[tg]⟩ ?_
 rintro n a b w X ⟨i,s,rfl,rfl,rfl,hi,fv,fN,hw⟩;have hs:=ai.eQ fv.has;rcases dE (hl) i with⟨cD,x,hx,hd⟩|⟨dD,hd⟩
 ·rw[hd,C8] at hw;have Jy:=lL x (ay hx);have fY:=fN.box;repeat' first|refine aJ ?_;intros|((with_reducible apply Rw);assumption;(try (case hz=>rfl));(case hr=>exact qR);(try (case hz=>omega));(case ht=>kernel_rfl);(case hs=>kernel_rfl);intros)|(refine qk (S9 (h:=x) (ahead:=s) (by first|assumption|exact Sl.mv aQ (ai.mv (fv.trans hs)))) hs ?_ ?_<;>intro _ w X hs)|(first|(with_reducible refine bM (fv.trans hs) ?_);intro wa hk;exact⟨_,_,rfl,by rw[Eg,hw];simp[*],λe=>absurd e dQ⟩)
  have hvv:= ‹Sl w0 (bI w0) 6 _ (x.mI.map pz.l)›;have mO:= ‹x.ok s=true›;refine cd (Pw (hvv.mv (ai.mv (fv.trans hs))) Jy) kQ hs.has ?_;rintro v1 wa w2 X2 uH pa mB bp;have XH:=hs.kp.size;have Pz:=fN.toL (hs.trans bp) fv.has;have kO:Sl w2 (BK (XL w0.heap.size X2) sb kb pb) 6 v1 (x.mI.map pz.l):=uH.sl.mv (Mv.sub λk hk=>⟨⟨mB k hk,by have:w0.heap.size<=_:=ad fv.kp.size hs.kp.size;have:=hk.1;omega⟩,by
   have q1:=fv.has sb fN.box.1;have q2:=fv.has kb fN.keys.x.1;have q3:=fv.has pb fN.gX.x.1;have:=hk.1;refine⟨?_,?_,?_⟩<;>omega⟩)
  replace hs:=hs.trans bp;repeat' refine ak ?_;intros
  refine uY (kv:=λs:BA=>aN s) (k:=x.key) (et:=300) Pz.keys rP.mv kO (λk hk=>⟨hk.1.1,hk.2.2.1⟩) yb kQ hs.has λw3 X3 hc qo=>?_;have cY:=(fv.trans hs).dY hc λk hk e=>by have:k<w0.heap.size:=hk;omega
  have aiM:iR w3 X3 (BK (XL w0.heap.size X3) sb kb pb) sb kb pb (yc (hl.take (i+1))) [] .zero:=by
   have fY:=Pz.box;have wP:=Pz.gX;have e:yc (hl.take (i+1))=cL x.key x.mI (yc (hl.take i)):=by
    rw[bT,hx];simp[yc]
   rw[e];have mo: ∀b,X2 b->b≠kb->Mv (λk=>k=b) w2 X3 w3:=λb hb cA k ah _=>by subst ah;exact⟨hc.sub _ hb,hc.block _ hb cA⟩
   exact⟨fY.own.mv (mo _ fY.1 ne1),qo.mv rP.mv (Mv.refl _ _) (Mv.sub λk hk=>⟨⟨hc.sub k hk.1.1,hk.1.2⟩,hk.2⟩),
    wP.own.mv qw.mv (mo _ wP.x.1 ne3.symm) (λk hk _=>⟨⟨⟨hc.sub k hk.1.1,hk.1.2⟩,hk.2⟩,hc.block k hk.1.1 hk.2.2.1⟩),λk hk=>hk.1.1,λk hk=>hk.2⟩
  replace hs:=cY;repeat' first|refine ak ?_;intros|((with_reducible refine fw ((hl).length-(i+1)) ?_ ?_);omega;exact⟨i+1,x.key,by simp,rfl,rfl,by omega,hs,aiM,by rw[hw,mO];rfl⟩)
 ·have hlen:hl.take i=hl:=aA dD;rw[hd] at hw;rw[hlen] at fN;repeat' refine aJ ?_;intros
  refine eY (λn a w X=> ∃(i:Nat) (pm:List (bL×gu)),a=I i/\n=pl.length-i/\i<=pl.length/\ai (bI w0) w0 X w/\
   iR w X (BK (XL w0.heap.size X) sb kb pb) sb kb pb (yc hl) pm .zero/\pm=Ta (pl.take i)/\Eg hl pl=RA (yc hl) pm (pl.drop i)) pl.length
   ⟨0,[],rfl,rfl,aq _,fv,fN,rfl,by rw[tg,Eg,hw];rfl⟩ ?_
  rintro n a w X ⟨j,pm,rfl,rfl,hj,fv,fN,wP,uP⟩;have hs:=ai.eQ fv.has;rcases dE pl j with⟨Xs,x,hx,tD⟩|⟨Gz,tD⟩
  ·rw[tD,RA] at uP;have Jy:=wN x (ay hx);have fY:=fN.box;repeat' first|refine aJ ?_;intros|((with_reducible apply Wc);assumption;(try (case hz=>rfl));(case hr=>exact qR);(try (case hz=>omega));(case ht=>kernel_rfl);(case hs=>kernel_rfl);intros)|(refine UE (yZ (p:=x) (by first|assumption|exact Sl.mv aQ (ai.mv (fv.trans hs))) (by first|assumption|exact Sl.mv aQ (ai.mv (fv.trans hs))) Jy.2) hs ?_;intro w X hs)
   refine Fg (kv:=λk:bL=>k.v) (k:=x.aO) (kt:=34) (et:=306) (.agg #[I 0,I 0,I 0,I 0,I 0,I 0,.slice none 0 0,.slice none 0 0]) (fN.mv fv.has (ai.mv hs)).gX sJ kQ kQ (λv q hg jv=>?_) λhg=>?_
   ·obtain⟨ur,uw,rfl,q1,q2⟩:=jv;have o1:=q1.one;have o2:=q2.one;repeat' first|refine ak ?_;intros|refine cM ?_ ?_<;>intros|(first|(with_reducible refine bM (fv.trans hs) ?_);intro wa hk;exact⟨_,_,rfl,by clear wP;rw[uP];simp[*],λe=>absurd e (by first|decide|assumption)⟩)
   ·repeat' first|refine ak ?_;intros|refine cM ?_ ?_<;>intros|(first|(with_reducible refine bM (fv.trans hs) ?_);intro wa hk;exact⟨_,_,rfl,by clear wP;rw[uP];simp[*],λe=>absurd e (by first|decide|assumption)⟩)|(refine qk (VF (x:=x) (fN.mv fv.has (ai.mv hs)) hs.has (by first|assumption|exact Sl.mv aQ (ai.mv (fv.trans hs))) (by first|assumption|exact Sl.mv aQ (ai.mv (fv.trans hs)))) hs ?_ ?_<;>intro _ w X hs)|(refine qk (aex (x:=x) (fN.mv fv.has (ai.mv hs)) hs.has (by first|assumption|exact Sl.mv aQ (ai.mv (fv.trans hs)))) hs ?_ ?_<;>intro _ w X hs)
    have he:x.err=0:= ‹x.err=0›;have art:(pm.any λq=>x.D6 q.snd)=false:= ‹_›;have aru:Me (yc hl) x=false:= ‹_›;refine cd (ZK (p:=x) (by first|exact Sl.mv aQ (ai.mv (fv.trans hs))) (by first|exact Sl.mv aQ (ai.mv (fv.trans hs))) Jy.1 Jy.2) kQ hs.has ?_;rintro v1 wa w2 X2 ⟨ur,uw,rfl,uH,ju,-⟩ pa mB bp;have XH:=hs.kp.size;have Pz:=fN.toL (hs.trans bp) fv.has;have jL: ∀k,made wa w2 k->BK (XL w0.heap.size X2) sb kb pb k:=λk hk=>⟨⟨mB k hk,by have:w0.heap.size<=_:=ad fv.kp.size hs.kp.size;have:=hk.1;omega⟩,by
     have q1:=fv.has sb fN.box.1;have q2:=fv.has kb fN.keys.x.1;have q3:=fv.has pb fN.gX.x.1;have:=hk.1;refine⟨?_,?_,?_⟩<;>omega⟩
    have kO:qw w2 (BK (XL w0.heap.size X2) sb kb pb) (x.v ur uw) x:=⟨ur,uw,rfl,uH.sl.mv (Mv.sub jL),ju.sl.mv (Mv.sub jL)⟩;replace hs:=hs.trans bp;refine uY (kv:=λk:bL=>k.v) (k:=x.aO) (et:=306) Pz.gX qw.mv kO (λk hk=>⟨hk.1.1,hk.2.2.2⟩) sJ kQ hs.has λw3 X3 hc qo=>?_;have cY:=(fv.trans hs).dY hc λk hk e=>by have:k<w0.heap.size:=hk;omega
    have aiM:iR w3 X3 (BK (XL w0.heap.size X3) sb kb pb) sb kb pb (yc hl) (cL x.aO x pm) .zero:=by
     have fY:=Pz.box;have hkm:=Pz.keys;have mo: ∀b,X2 b->b≠pb->Mv (λk=>k=b) w2 X3 w3:=λb hb cA k ah _=>by subst ah;exact⟨hc.sub _ hb,hc.block _ hb cA⟩
     exact⟨fY.own.mv (mo _ fY.1 ne2),hkm.own.mv rP.mv (mo _ hkm.x.1 ne3) (λk hk _=>⟨⟨⟨hc.sub k hk.1.1,hk.1.2⟩,hk.2⟩,hc.block k hk.1.1 hk.2.2.2⟩),
      qo.mv qw.mv (Mv.refl _ _) (Mv.sub λk hk=>⟨⟨hc.sub k hk.1.1,hk.1.2⟩,hk.2⟩),λk hk=>hk.1.1,λk hk=>hk.2⟩
    replace hs:=cY;repeat' first|refine ak ?_;intros|((with_reducible refine ep (pl.length-(j+1)) ?_ ?_);omega;exact⟨j+1,_,by simp,rfl,by omega,hs,aiM,by rw[bT,hx,wP];simp[Ta],by rw[uP];simp[he,hg,art,aru]⟩)
  ·rw[tD] at uP;repeat' first|refine aJ ?_;intros|(first|(with_reducible refine bM (fv.trans hs) ?_);intro wa hk;exact⟨_,_,rfl,by rw[uP];rfl,λ_=>⟨sb,kb,pb,rfl,ne1,ne2,ne3,by rw[aA Gz] at wP;rw[<-wP];exact fN.fin hk Tu pj HF⟩⟩)
def abd (h1:qy w X vh hl) (h2:qx w X vp pl) (lL:Le hl) (wN:Lf pl):
  Ct pg 220 #[vh,vp] w X nX λv _ _=> ∃u:Value,v= .tuple #[u,I (Eg hl pl)]:=
 (ZL h1 h2 lL wN).mono λ_ _ _ _ ⟨u,_,h,e,_⟩=>⟨u,e▸h⟩
def adq (l:List ku):Prop:= ∀h∈l,h.key.size<=2^40
def adr (l:List gu):Prop:= ∀p∈l,(∀k∈p.reads,k.size<=2^40)/\ ∀x∈p.writes,x.key.size<=2^40
structure State.small (s:State):Prop where
 h:Le s.iz
 p:Lf s.gX
 hk:adq s.iz
 pk:adr s.gX
structure Rec.small (r:Rec):Prop where
 reads:r.reads.length<=2^40
 writes:r.writes.length<=2^40
 rk: ∀k∈r.reads,k.size<=2^40
 wk: ∀x∈r.writes,x.key.size<=2^40
 state:r.state.small
def dR.has (r:dR) (x:Nat):Bool:=(Jx x r.lo||pA x r.lo)&&qq x r.hi
def dR.key (r:dR) (k:BA):Bool:=r.has (placeOf k)
def State.inside (s:State):Bool:=s.iz.all (λh=>s.range.key h.key)&&s.gX.all λp=>p.reads.all s.range.key&&p.writes.all λx=>s.range.key x.key
def State.may (s:State):Bool:=s.range.may&&s.floor.may&&s.closed.may&&decide (Eg s.iz s.gX=0)&&s.inside
theorem Mj {b:Nat} (h:Cells w X b 0 (s.l vh vp)) (ah:k.size<=2^62):
  Ct pg 221 #[.string k,ptr b 0] w X nX λv _ _=>v=B (s.range.key k):=by
 intro w0 hk;replace h:=h.mv hk.bY;refine JY.1 λhs=>?_;repeat' first|refine ak ?_;intros|(refine j5 (I7 _ _) hs ?_ ?_<;>intro _ w X hs)|(refine px (Ja _ (by first|assumption|omega)) hs ?_;intro w X hs)|(refine qr ?_;intro wa hk;(simp[dR.key,dR.has, *]))
theorem Gg (h1:qy w X vh s.iz) (h2:qx w X vp s.gX) (lX:s.small):
  Ct pg 151 #[s.v vh vp] w X nX λv _ _=>v=B s.may:=by
 intro w0 hk;replace h1:=h1.mv hk.bY;replace h2:=h2.mv hk.bY;have CG:=h1.len;have xx:=h2.len;refine Po.1 λhs=>?_;repeat' first|refine ak ?_;intros|refine cM ?_ ?_<;>intros|(refine NV hs ?_;intro bx w X fY ax fv hs bo)|with_reducible apply cB|(refine j5 (pD _) hs ?_ ?_<;>intro _ w X hs)|(refine j5 (vZ _) hs ?_ ?_<;>intro _ w X hs)|(refine qr ?_;intro wa hk;(simp[State.may, *]))|(refine cd ((abd (hl:=s.iz) (pl:=s.gX))  qA qA lX.h lX.p) kQ hs.has ?_;rintro _ wa w X ⟨u,rfl⟩ hle gn ax;have gw:=ad hs.kp.size hle;replace hs:=hs.trans ax)
 have Ap: ∀k:BA,k.size<=2^40-> ∀w X,ai _ _ X w->Ct pg 221 #[.string k,ptr bx 0] w X nX λv _ _=>v=B (s.range.key k):=λk hk w X hs=>Mj (bo.since hs).cells zQ;have SC:s.may=s.inside:=by simp[State.may, *]
 refine eY (λn a w X=> ∃i:Nat,a=I (i:Nat)/\n=s.iz.length-i/\i<=s.iz.length/\ai _ _ X w/\
  (s.iz.all (λh=>s.range.key h.key))=((s.iz.drop i).all λh=>s.range.key h.key)) s.iz.length ⟨0,rfl,rfl,aq _,hs,by simp⟩ ?_
 rintro n a w X ⟨i,rfl,rfl,hi,hs,hw⟩;rcases dE (s.iz) i with⟨cD,x,hx,hd⟩|⟨dD,hd⟩
 ·rw[hd,iU] at hw;have hkx:=lX.hk x (ay hx);repeat' first|refine aJ ?_;intros|((with_reducible apply Rw);assumption;(try (case hz=>rfl));(case hr=>exact qR);(try (case hz=>omega));(case ht=>kernel_rfl);(case hs=>kernel_rfl);intros)|(refine qr ?_;intro wa hk;(simp[SC,State.inside,hw, *]))|(refine qk (Ap x.key hkx _ _ hs) hs ?_ ?_<;>intro _ w X hs)|((with_reducible refine ep ((s.iz).length-(i+1)) ?_ ?_);omega;exact⟨i+1,by simp,rfl,by omega,hs,by rw[hw];simp[*]⟩)
 ·rw[hd] at hw;repeat' refine aJ ?_;intros
  refine CC (λn a _ _ w X=> ∃i:Nat,a=I (i:Nat)/\n=s.gX.length-i/\i<=s.gX.length/\ai _ _ X w/\
   (s.gX.all λp=>p.reads.all s.range.key&&p.writes.all λx=>s.range.key x.key)=((s.gX.drop i).all λp=>p.reads.all s.range.key&&p.writes.all λx=>s.range.key x.key)) s.gX.length ⟨0,rfl,rfl,aq _,hs,by simp⟩ ?_
  rintro n a a2 a3 w X ⟨j,rfl,rfl,hj,hs,uP⟩;rcases dE s.gX j with⟨cD,p,hp,tD⟩|⟨Gz,tD⟩
  ·rw[tD,iU] at uP;obtain⟨oO,jC⟩:=lX.pk p (ay hp);repeat' first|refine aJ ?_;intros|((with_reducible apply Wc);assumption;(try (case hz=>rfl));(case hr=>exact qR);(try (case hz=>omega));(case ht=>kernel_rfl);(case hs=>kernel_rfl);intros)
   have hl3:=Sl.gR ‹Sl w0 (bI w0) 1 _ (p.reads.map S1)›;have P3:=Sl.gR ‹Sl w0 (bI w0) 4 _ (p.writes.map KV.l)›;refine eY (λn a w X=> ∃i:Nat,a=I (i:Nat)/\n=p.reads.length-i/\i<=p.reads.length/\ai _ _ X w/\p.reads.all s.range.key=(p.reads.drop i).all s.range.key) p.reads.length ⟨0,rfl,rfl,aq _,hs,by simp⟩ ?_;rintro n a w X ⟨k,rfl,rfl,hk3,hs,vT⟩;rcases dE p.reads k with⟨as9,y,hy,YP⟩|⟨ata,YP⟩
   ·rw[YP,iU] at vT;have hky:=oO y (ay hy);repeat' first|refine aJ ?_;intros|(refine qr ?_;intro wa hk;(simp[SC,State.inside,uP,vT, *]))|(refine qk (Ap y hky _ _ hs) hs ?_ ?_<;>intro _ w X hs)|((with_reducible refine ep (p.reads.length-(k+1)) ?_ ?_);omega;exact⟨k+1,by simp,rfl,by omega,hs,by rw[vT];simp[*]⟩)
   ·rw[YP] at vT;repeat' refine aJ ?_;intros
    refine eY (λn a w X=> ∃i:Nat,a=I (i:Nat)/\n=p.writes.length-i/\i<=p.writes.length/\ai _ _ X w/\(p.writes.all λx=>s.range.key x.key)=(p.writes.drop i).all λx=>s.range.key x.key) p.writes.length ⟨0,rfl,rfl,aq _,hs,by simp⟩ ?_;rintro n a w X ⟨m,rfl,rfl,hm,hs,FE⟩;rcases dE p.writes m with⟨atb,y,hy,hd4⟩|⟨atc,hd4⟩
    ·rw[hd4,iU] at FE;have hky:=jC y (ay hy);repeat' first|refine aJ ?_;intros|(refine qr ?_;intro wa hk;(simp[SC,State.inside,uP,vT,FE, *]))|(refine qk (Ap y.key hky _ _ hs) hs ?_ ?_<;>intro _ w X hs)|((with_reducible refine ep (p.writes.length-(m+1)) ?_ ?_);omega;exact⟨m+1,by simp,rfl,by omega,hs,by rw[FE];simp[*]⟩)
    ·rw[hd4] at FE;repeat' first|refine aJ ?_;intros|((with_reducible refine AT (s.gX.length-(j+1)) ?_ ?_);omega;exact⟨j+1,by simp,rfl,by omega,hs,by rw[uP,vT,FE];simp⟩)
  ·rw[tD] at uP;repeat' first|refine aJ ?_;intros|(refine qr ?_;intro wa hk;(rw[SC,State.inside,hw,uP];rfl))
def M5 (prev st:cx) (t:bL) (l:List KV):Bool:=prev.may&&decide (prev.cmp st<0)&&decide (l≠[])&&decide (gu.err ⟨t,st,[],l⟩=0)
theorem Mk {prev st:cx} {t:bL} {l:List KV} (h:Sl w X 4 a (l.map KV.l)) (hb:l.length<=2^40):
  Ct pg 152 #[prev.v,st.v,t.v,a] w X nX λv _ _=>v=B (M5 prev st t l):=by
 intro w0 hk;replace h:=h.mv hk.bY;obtain⟨b1,n1,c1,rfl⟩:=h.form;refine Vn.1 λhs=>?_;repeat' first|refine ak ?_;intros|refine cM ?_ ?_<;>intros|with_reducible apply cB|(refine j5 (pD _) hs ?_ ?_<;>intro _ w X hs)|(refine px (vV _ _) hs ?_;intro w X hs)|(refine qr ?_;intro wa hk;(simp_all [M5]<;>omega))|(refine UE (yZ  (p:=⟨t,st,[],l⟩) (Sl.nil _ _ _) qA hb) hs ?_;intro w X hs)
def ab3 (x:Nat):Bool:=decide ((Ef x).2=0)&&Jx (Ef x).1 0&&qq (Ef x).1 Gf
def wg (n:Int):Bool:=decide (n>=1)&&decide (n<=12)
def Rec.qa (r:Rec):Bool:=
 if r.kind=1 then r.state.may
 else if r.kind=2 then decide (r.n>=0)&&decide (r.n<=281474976710656)
 else if r.kind=3 then decide (gu.err ⟨r.aO,r.aS,r.reads,r.writes⟩=0)&&yt r.parts
 else if r.kind=4 then r.aO.may&&r.aS.S6 r.jF
 else if r.kind=5 then r.aS.may
 else if r.kind=6 then ab3 r.rV&&wg r.n&&r.aS.may
 else if r.kind=7 then wg r.n
 else if r.kind=8 then decide (r.n>=1)
 else if r.kind=9 then r.aO.may&&r.aS.HJ&&yt r.parts
 else if r.kind=10 then r.aO.may
 else if r.kind=11 then M5 r.prev r.aS r.aO r.writes
 else r.aS.may&&M4 r.wV
theorem VG (h:r.at w X vr vw vp vq vh vd) (lX:r.small):
  Ct pg 278 #[r.v vr vw vp vq vh vd] w X nX λv _ _=>v=B r.qa:=by
 intro w0 hk;obtain⟨h1,h2,h3,h4,h5,h6⟩:=h.mv hk.bY;obtain⟨b1,n1,c1,rfl⟩:=h1.form;obtain⟨b2,n2,c2,rfl⟩:=h2.form;refine SU.1 λhs=>?_;repeat' first|refine ak ?_;intros|refine cM ?_ ?_<;>intros|with_reducible apply cB|(refine j5 (pD _) hs ?_ ?_<;>intro _ w X hs)|(refine j5 (Dr _) hs ?_ ?_<;>intro _ w X hs)|(refine j5 (S7 _ _) hs ?_ ?_<;>intro _ w X hs)|(refine px (VA _) hs ?_;intro w X hs)|(refine j5 (Vz _) hs ?_ ?_<;>intro _ w X hs)|(refine j5 (Jz _) hs ?_ ?_<;>intro _ w X hs)|(refine qk (Gg  (s:=r.state) qA qA lX.state) hs ?_ ?_<;>intro _ w X hs)|(refine UE (yZ  (p:=⟨r.aO,r.aS,r.reads,r.writes⟩) qA qA lX.writes) hs ?_;intro w X hs)|(refine qk (Mc  qA) hs ?_ ?_<;>intro _ w X hs)|(refine qk (ZC  qA) hs ?_ ?_<;>intro _ w X hs)|(refine qk ((Mk (l:=r.writes))  qA lX.writes) hs ?_ ?_<;>intro _ w X hs)
 all_goals
  (with_reducible refine bM hs ?_)
  intro wa aH;unfold Rec.qa;repeat (first|rw[if_pos zQ]|rw[if_neg zQ])
  simp_all [ab3,wg,Gf]<;>omega
def Rec.err (r:Rec):Int:=if !r.strip.2 then 7 else if !r.strip.1.isZero||!r.qa then 4 else 0
theorem aez (h:r.at w X vr vw vp vq vh vd) (lX:r.small):
  Ct pg 196 #[r.v vr vw vp vq vh vd] w X nX λv _ _=>v=I r.err:=by
 intro w0 hk;have h:=h.mv hk.bY;refine aa1.1 λhs=>?_;refine cd (S8 h) kQ hs.has ?_;rintro v wa w X ⟨ZD,lz,Ju,vq',ZE,ZF,rfl,dF⟩ hle gn ax;replace hs:=hs.trans ax;have q1:=dF.1.one;have q2:=dF.2.1.one;have q3:=dF.2.2.1.one;have q4:=dF.2.2.2.1.one;have q5:=dF.2.2.2.2.1.one;have q6:=dF.2.2.2.2.2.one;cases hb:r.strip.2<;>
 repeat' first|refine ak ?_;intros|with_reducible apply cB|(refine qr ?_;intro wa hk;(simp[Rec.err, *]))|(refine qk (aba  (r:=r.strip.1) qA) hs ?_ ?_<;>intro _ w X hs)|(refine qk ((VG (r:=r))  (h.mv (ai.mv hs)) lX) hs ?_ ?_<;>intro _ w X hs)
section
variable {κ : Type} [DecidableEq κ] {α β : Type}
theorem ZM (f:α->β) (k:κ) (l:List (κ×α)):getM k (l.map λx=>(x.1,f x.2))=(getM k l).map f:=by
 induction l with
 |nil=>rfl
 |cons x l ih=>
  simp only[getM,bB,fL] at ih⊢
  grind
theorem PA (f:α->β) (k:κ) (a:α) (l:List (κ×α)):(cL k a l).map (λx=>(x.1,f x.2))=cL k (f a) (l.map λx=>(x.1,f x.2)):=by
 induction l with
 |nil=>rfl
 |cons x l ih=>
  simp only[cL,bB] at ih⊢
  grind
theorem aiN (f:α->β) (k:κ) (l:List (κ×α)):(j9 k l).map (λx=>(x.1,f x.2))=j9 k (l.map λx=>(x.1,f x.2)):=by
 unfold j9;rw[List.filter_map];rfl
theorem aiO (f:α->β) (k:κ) (a:α) {l:List (κ×α)} (h: ∀x∈l,x.1=k->f x.2=f a) (hk:(getM k l).isSome=true):(cL k a l).map (λx=>(x.1,f x.2))=l.map λx=>(x.1,f x.2):=by
 induction l with
 |nil=>cases hk
 |cons x l ih=>
  simp only[cL];by_cases hx:x.1=k
  ·grind
  ·simp only[hx,if_false,bB];rw[ih (λy hy=>h y (by simp[hy])) (by simpa [getM,fL,hx] using hk)]
theorem uK (k:κ) (a:α) (l:List (κ×α)):(cL k a l).map (·.1)=if(getM k l).isSome then l.map (·.1)else l.map (·.1)++[k]:=by
 induction l with
 |nil=>rfl
 |cons x l ih=>
  simp only[cL];by_cases hx:x.1=k
  ·simp[hx,getM]
  ·have e:getM k (x::l)=getM k l:=by simp[getM,fL,hx]
   grind
theorem getM_none {k:κ} {l:List (κ×α)} :getM k l=none↔k ∉ l.map (·.1):=by
 induction l with
 |nil=>simp[getM]
 |cons x l ih=>
  by_cases hx:x.1=k
  ·simp[getM,hx]
  ·have e:getM k (x::l)=getM k l:=by simp[getM,fL,hx]
   grind
theorem P6 {k:κ} {a:α} {l:List (κ×α)} (h:(l.map (·.1)).Nodup):((cL k a l).map (·.1)).Nodup:=by
 rw[uK];split
 ·exact h
 ·rename_i hn;have mr:getM k l=none:=by cases hg:getM k l with|none=>rfl|some a=>grind
  rw[List.nodup_append];refine⟨h,by simp,λa ha b hb e=>?_⟩;simp only[List.mem_singleton] at hb;subst hb;subst e;exact getM_none.1 mr ha
theorem kj {k:κ} {a:α} {l:List (κ×α)} :getM k (cL k a l)=some a:=by
 induction l with
 |nil=>simp[cL,getM]
 |cons x l ih=>
  simp only[cL];by_cases hx:x.1=k
  ·simp[hx,getM]
  ·rw[if_neg hx];grind [getM]
theorem pd {k j:κ} {a:α} {l:List (κ×α)} (hj:j≠k):getM j (cL k a l)=getM j l:=by
 induction l with
 |nil=>simp[cL,getM,Ne.symm hj]
 |cons x l ih=>
  simp only[cL];by_cases hx:x.1=k
  ·rw[if_pos hx];simp[getM,fL,Ne.symm hj,hx]
  ·rw[if_neg hx]
   grind [getM]
theorem Tb {k:κ} {l:List (κ×α)} :getM k (j9 k l)=none:=by
 rw[getM_none];intro h;obtain⟨x,hx,e⟩:=List.mem_map.1 h;have:=(List.mem_filter.1 hx).2
 grind
theorem Lq {k j:κ} {l:List (κ×α)} (hj:j≠k):getM j (j9 k l)=getM j l:=by
 induction l with
 |nil=>rfl
 |cons x l ih=>
  unfold j9 at ih⊢;by_cases hx:x.1=k
  ·rw[List.filter_cons_of_neg (by simp[hx]),ih];simp[getM,fL,hx,Ne.symm hj]
  ·rw[List.filter_cons_of_pos gQ];by_cases hxj:x.1=j
   ·simp[getM,hxj]
   ·simpa [getM,fL,hxj] using ih
theorem UI {R:κ×α->κ×α->Prop} {k:κ} {a:α} {l:List (κ×α)} (hn:(l.map (·.1)).Nodup) (hp:l.Pairwise R) (h: ∀y∈l,y.1≠k->R (k,a) y/\R y (k,a)):(cL k a l).Pairwise R:=by
 induction l with
 |nil=>simp[cL]
 |cons x l ih=>
  have mr:=List.nodup_cons.1 hn;have hp':=List.pairwise_cons.1 hp;simp only[cL];by_cases hx:x.1=k
  ·rw[if_pos hx,zw];refine⟨λy hy=>(h y (by simp[hy]) λe=>mr.1 (List.mem_map.2 ⟨y,hy,e.trans hx.symm⟩)).1,hp'.2⟩
  ·rw[if_neg hx,zw];refine⟨λy hy=>?_,ih mr.2 hp'.2 λy hy=>h y (by simp[hy])⟩;rcases mC mr.2 hy with rfl|⟨hy,_⟩
   ·exact(h x sQ hx).2
   ·exact hp'.1 y hy
def tU (f:α->Nat) (l:List (κ×α)):Nat:=(l.map λx=>f x.2).sum
theorem WT {f:α->Nat} {k:κ} {a b:α} {l:List (κ×α)} (h:getM k l=some b):tU f (cL k a l)+f b=tU f l+f a:=by
 induction l with
 |nil=>cases h
 |cons x l ih=>
  simp only[cL];by_cases hx:x.1=k
  ·have:x.2=b:=by simpa [getM,hx] using h
   rw[if_pos hx];simp only[tU,bB,qv,this];omega
  ·rw[if_neg hx];have:=ih (by grind [getM]);simp only[tU,bB,qv] at this⊢;omega
theorem WR {f:α->Nat} {k:κ} {a:α} {l:List (κ×α)} (h:getM k l=none):tU f (cL k a l)=tU f l+f a:=by
 induction l with
 |nil=>simp[cL,tU]
 |cons x l ih=>
  simp only[cL];by_cases hx:x.1=k
  ·simp[getM,hx] at h
  ·rw[if_neg hx];have:=ih (by simpa [getM,fL,hx] using h);simp only[tU,bB,qv] at this⊢;omega
theorem aiP {f:α->Nat} {k:κ} {b:α} {l:List (κ×α)} (h:getM k l=some b):f b<=tU f l:=by
 induction l with
 |nil=>cases h
 |cons x l ih=>
  by_cases hx:x.1=k
  ·have:x.2=b:=by simpa [getM,hx] using h
   grind [tU]
  ·have:=ih (by grind [getM]);simp only[tU,bB,qv] at this⊢;omega
end
structure DM where
 fs:List (ByteArray×(List Nat×Nat))
 wr:Int
 ar:Nat
 dn:Bool
def DM.sz (m:DM):Nat:=tU (λx=>x.1.length) m.fs
def DM.get (m:DM) (n:ByteArray):Option (List Nat×Nat):=getM n m.fs
def DM.put (m:DM) (n:ByteArray) (bs:List Nat) (s:Nat):DM:= { m with fs:=cL n (bs,s) m.fs }
def DM.del (m:DM) (n:ByteArray):DM:= { m with fs:=j9 n m.fs }
def DM.tick (m:DM):DM:=if m.ar=1 then { m with ar:=0,dn:=true } else { m with ar:=m.ar-1,wr:=IntKind.i64.wrap (m.wr+1) }
def DM.write (m:DM) (e:Nat) (f:DM->DM):DM×Nat:=if m.dn then(m,12)else if e≠0 then(m,e)else if m.tick.dn then(m.tick,12)else(f m.tick,0)
def vR (n:ByteArray):Bool:=decide (1<=n.size/\n.size<=20)
def DM.create (m:DM) (n:ByteArray):DM×Nat:=m.write (if¬vR n then 10 else if(m.get n).isSome then 9 else if 64<=m.fs.length then 3 else 0) λm=>m.put n [] 0
def DM.append (m:DM) (n:ByteArray) (b:List Nat):DM×Nat:=
 if m.dn then(m,12)else match m.get n with
 |none=>(m,8)
 |some (bs,s)=>if 4194304-m.sz<b.length then(m,11)else(m.tick.put n (bs++b) s,if m.tick.dn then 12 else 0)
def DM.ki (n:ByteArray) (m:DM):DM:=match m.get n with
 |none=>m
 |some x=>m.put n x.1 x.1.length
def DM.sync (m:DM) (n:ByteArray):DM×Nat:=m.write (if(m.get n).isSome then 0 else 8) (DM.ki n)
theorem DM.Aw (m:DM):m.tick.fs=m.fs:=by unfold DM.tick;grind
theorem DM.pY (m:DM) (n:ByteArray):m.tick.get n=m.get n:=by unfold DM.get;rw[m.Aw]
theorem DM.yn (m:DM):m.tick.sz=m.sz:=by unfold DM.sz;rw[m.Aw]
variable {s' : Nat} {n : ByteArray} {m : DM}
theorem DM.K3 {b:List Nat} {s:Nat} (h:m.get n=some (b,s)):(m.put n bs s').sz+b.length=m.sz+bs.length:=WT (f:=λx:List Nat×Nat=>x.1.length) h
theorem DM.Se (h:m.get n=none):(m.put n bs s').sz=m.sz+bs.length:=WR (f:=λx:List Nat×Nat=>x.1.length) h
theorem DM.EN (m:DM) (n:ByteArray):(m.ki n).sz=m.sz:=by
 unfold DM.ki;split
 ·rfl
 grind [DM.K3]
def DM.Au {b:List Nat} {s:Nat} (h:m.get n=some (b,s)):b.length<=m.sz:=aiP (f:=λx:List Nat×Nat=>x.1.length) h
structure mX where
 b:Nat
 v:Value
 bs:List Nat
 safe:Nat
def mX.er (f:mX):List Nat×Nat:=(f.bs,f.safe)
def On:World->XS->Value->mX->Prop:=λ_ _ v f=>v=ptr f.b 0
def kP:qt On:=λ_ _ _ _ _ _ h _=>h
def apart (x y:ByteArray×mX):Prop:=x.2.b≠y.2.b/\ ∀g,x.2.v.ownBlock=some g->y.2.v.ownBlock≠some g
structure nM (w:World) (F:XS) (db mb:Nat) (l:List (ByteArray×mX)) (m:DM) (z:Nat):Prop where
 fs:m.fs=l.map λx=>(x.1,x.2.er)
 box:aG w F db [.map (some mb),I z,I m.wr,I m.ar,B m.dn] 111
 map:dM w F nX mb aN On l
 row: ∀x∈l,aG w F x.2.b [x.2.v,I x.2.safe] 153
 ow: ∀x∈l,Ow w F 5 1 x.2.v (x.2.bs.map U1)
 ap:l.Pairwise apart
 ar:m.ar<2^63
 safe: ∀x∈l,x.2.safe<=x.2.bs.length
def Dk (w:World) (F:XS) (db:Nat) (m:DM):Prop:= ∃mb l,nM w F db mb l m m.sz/\m.sz<=4194304
variable {F G : XS}
section
variable {F' : XS} {db mb z z' : Nat} {l : List (ByteArray × mX)} {m' : DM} {f : mX}
def nM.mv (h:nM w F db mb l m z) (v:Mv F w F' w'):nM w' F' db mb l m z:=
 ⟨h.fs,h.box.mv v,h.map.mv kP v (λ_ h=>h.elim),λx hx=>(h.row x hx).mv v,λx hx=>(h.ow x hx).mv v,h.ap,h.ar,h.safe⟩
def Dk.mv (h:Dk w F db m) (v:Mv F w F' w'):Dk w' F' db m:=let⟨mb,l,h,hz⟩:=h;⟨mb,l,h.mv v,hz⟩
def Dk.mono (h:Dk w F db m) (hs: ∀k,F k->F' k):Dk w F' db m:=h.mv (Mv.sub hs)
theorem nM.get (h:nM w F db mb l m z) (n:ByteArray):m.get n=(getM n l).map mX.er:=by
 unfold DM.get;rw[h.fs];exact ZM mX.er n l
theorem nM.nodup (h:nM w F db mb l m z):(l.map (·.1)).Nodup:=h.map.nodup
theorem nM.len (h:nM w F db mb l m z):m.fs.length=l.length:=by rw[h.fs,af]
theorem nM.anJ (h:nM w F db mb l m z) (hX: ∀k,F k->X k) (c:ee (· =db) X w X' w') (hr:aG w' X' db [.map (some mb),I z',I m'.wr,I m'.ar,B m'.dn] 111) (Oa:m'.fs=m.fs) (har:m'.ar<2^63):nM w' F db mb l m' z':=by
 have mv: ∀{A:XS},(∀k,A k->F k/\k≠db)->Mv A w F w':=λhA k hk _=>⟨(hA k hk).1,c.block k (hX k (hA k hk).1) (hA k hk).2⟩;refine⟨Oa.trans h.fs,⟨h.box.1,hr.2⟩,?_,λx hx=>?_,λx hx=>?_,h.ap,har,h.safe⟩
 ·exact h.map.own.mv kP (mv λk hk=>by subst hk;exact⟨h.map.x.1,h.map.eT h.box⟩) λ_ h=>h.elim
 ·exact(h.row x hx).own.mv (mv λk hk=>by subst hk;exact⟨(h.row x hx).1,(h.row x hx).eT h.box (by rfl)⟩)
 ·exact(h.ow x hx).tight.mv (mv λk hk=>⟨((h.ow x hx).bw hk).1,λe=>(h.ow x hx).eT h.box (by rfl) (e▸hk)⟩)
theorem api {α:Type} {R:α->α->Prop} (hs: ∀a b,R a b->R b a) {l:List α} (h:l.Pairwise R) {x y:α} (hx:x∈l) (hy:y∈l) (cA:x≠y):R x y:=by
 induction l with
 |nil=>cases hx
 |cons a l ih=>
  have h':=List.pairwise_cons.1 h
  grind
theorem Jc: ∀a b:ByteArray×mX,apart a b->apart b a:=λa b h=>⟨Ne.symm h.1,λg hg rA=>h.2 g rA hg⟩
theorem nM.NZ (h:nM w F db mb l m z) (hn:getM n l=some f) {y:ByteArray×mX} (hy:y∈l) (cA:y.1≠n):apart (n,f) y:=
 api Jc h.ap (gA hn) hy λe=>cA (by rw[<-e])
theorem nI.ids: ∀{es:List (jo ByteArray)} {l l':List (ByteArray×mX)},nI w A On es l->l'.map (λx=>(x.1,x.2.b))=l.map (λx=>(x.1,x.2.b))->nI w A On es l'
 |[],[],[],_,_=>trivial
 |[],[],_::_,_,h=>by cases h
 |e::es,x::l,[],_,h=>by cases h
 |e::es,x::l,y::l',⟨h1,h2,h3⟩,h=>by
  simp only[bB,BJ,Prod.mk.injEq] at h;exact⟨h1.trans h.1.1.symm,by grind [On],nI.ids h3 h.2⟩
 |[],_::_,_,h,_=>h.elim
 |_::_,[],_,h,_=>h.elim
theorem nM.jO (h:nM w F db mb l m z) (hX: ∀k,F k->X k/\k<w.heap.size) (c:ee G X w X' w') (hn:getM n l=some f) (hG: ∀k,G k->k=f.b\/f.v.ownBlock=some k) (ZN: ∀k,F k->F' k)
 {ZO:List Nat} (hr:aG w' F' f.b [v',I s'] 153) (ho:Ow w' F' 5 1 v' (ZO.map U1)) (dF:v'.ownBlock=f.v.ownBlock\/ ∃g,v'.ownBlock=some g/\w.heap.size<=g) (hs:s'<=ZO.length):
    nM w' F' db mb (cL n ⟨f.b,v',ZO,s'⟩ l) (m.put n ZO s') z:=by
  have hf:=gA hn;have rf:=h.row _ hf;have of:=h.ow _ hf;have mv: ∀{A:XS},(∀k,A k->F k/\k≠f.b/\f.v.ownBlock≠some k)->Mv A w F' w':=λhA k hk _=>by
    obtain⟨a1,a2,a3⟩:=hA k hk;exact⟨ZN k a1,c.block k (hX k a1).1 λhg=>(hG k hg).elim a2 a3⟩
  refine⟨?_,?_,?_,λx hx=>?_,λx hx=>?_,?_,h.ar,λx hx=>?_⟩
  · show cL n (ZO,s') m.fs=_
    rw[h.fs,PA mX.er];rfl
  · exact h.box.own.mv (mv λk hk=>by subst hk;exact⟨h.box.1,(rf.eT h.box (by rfl)).symm,of.eT h.box (by rfl)⟩)
  · obtain⟨es,c',h1,h2⟩:=h.map.own.mv kP (mv λk hk=>by subst hk;exact⟨h.map.x.1,h.map.eT rf,h.map.aiv of⟩) (A':=nX) λ_ h=>h.elim
    refine⟨es,c',h1,nI.ids h2 (aiO mX.b n ⟨f.b,v',ZO,s'⟩ (λx hx e=>?_) (by rw[hn];rfl))⟩;have:getM n l=some x.2:=vY h.nodup gQ
    grind
  · rcases mC h.nodup hx with rfl|⟨hx,cA⟩
    · exact hr
    · have ha:=h.NZ hn hx cA
      exact(h.row x hx).own.mv (mv λk hk=>by subst hk;exact⟨(h.row x hx).1,ha.1.symm,of.eT (h.row x hx) (by rfl)⟩)
  · rcases mC h.nodup hx with rfl|⟨hx,cA⟩
    · exact ho
    · have ha:=h.NZ hn hx cA
      exact(h.ow x hx).tight.mv (mv λk hk=>⟨((h.ow x hx).bw hk).1,λe=>(h.ow x hx).eT rf (by rfl) (e▸hk),λe=>ha.2 k e hk⟩)
  · refine UI h.nodup h.ap λy hy cA=>?_
    have ha:=h.NZ hn hy cA;have key:apart (n,⟨f.b,v',ZO,s'⟩) y:=⟨ha.1,λg hg rA=>by
      rcases dF with e|⟨g',e,dD⟩
      · exact ha.2 g (e▸hg) rA
      · have:=(hX g ((h.ow y hy).bw rA).1).2
        grind⟩
    exact⟨key,Jc _ _ key⟩
  · rcases mC h.nodup hx with rfl|⟨hx,cA⟩
    · exact hs
    · exact h.safe x hx
theorem nM.new (h:nM w F db mb l m z) (hX: ∀k,F k->X k/\k<w.heap.size) (c:ee G X w X' w') (hn:getM n l=none) (hG: ∀k,G k->k=mb) (ZN: ∀k,F k->F' k) {b:Nat} (hb:w.heap.size<=b)
  (hm:dM w' F' nX mb aN On (cL n ⟨b,.slice none 0 0,[],0⟩ l)) (hr:aG w' F' b [.slice none 0 0,I (0:Nat)] 153):
  nM w' F' db mb (cL n ⟨b,.slice none 0 0,[],0⟩ l) (m.put n [] 0) z:=by
 have mv: ∀{A:XS},(∀k,A k->F k/\k≠mb)->Mv A w F' w':=λhA k hk _=>by
  obtain⟨a1,a2⟩:=hA k hk;exact⟨ZN k a1,c.block k (hX k a1).1 λhg=>a2 (hG k hg)⟩
 refine⟨?_,?_,hm,λx hx=>?_,λx hx=>?_,?_,h.ar,λx hx=>?_⟩
 ·show cL n ([],0) m.fs=_
  rw[h.fs,PA mX.er];rfl
 ·exact h.box.own.mv (mv λk hk=>by subst hk;exact⟨h.box.1,(h.map.eT h.box).symm⟩)
 ·rcases mC h.nodup hx with rfl|⟨hx,cA⟩
  ·exact hr
  ·exact(h.row x hx).own.mv (mv λk hk=>by subst hk;exact⟨(h.row x hx).1,(h.map.eT (h.row x hx)).symm⟩)
 ·rcases mC h.nodup hx with rfl|⟨hx,cA⟩
  ·exact Ow.nil _ _ _ _
  ·exact(h.ow x hx).tight.mv (mv λk hk=>⟨((h.ow x hx).bw hk).1,λe=>h.map.aiv (h.ow x hx) (e▸hk)⟩)
 ·refine UI h.nodup h.ap λy hy cA=>?_;have key:apart (n,⟨b,.slice none 0 0,[],0⟩) y:=⟨λe=>by
   have:=(hX _ (h.row y hy).1).2
   grind,λg hg=>by cases hg⟩
  grind [Jc]
 ·rcases mC h.nodup hx with rfl|⟨hx,cA⟩
  ·grind
  ·exact h.safe x hx
theorem nM.less (h:nM w F db mb l m z) (hX: ∀k,F k->X k) (c:ee (· =mb) X w X' w') (hm:dM w' X' nX mb aN On (j9 n l)):nM w' F db mb (j9 n l) (m.del n) z:=by
 have mv: ∀{A:XS},(∀k,A k->F k/\k≠mb)->Mv A w F w':=λhA k hk _=>⟨(hA k hk).1,c.block k (hX k (hA k hk).1) (hA k hk).2⟩;have rB: ∀x∈j9 n l,x∈l:=λx hx=>(List.mem_filter.1 hx).1;refine⟨?_,?_,?_,λx hx=>?_,λx hx=>?_,h.ap.filter _,h.ar,λx hx=>h.safe x (rB x hx)⟩
 ·show j9 n m.fs=_
  rw[h.fs,aiN mX.er]
 ·exact h.box.own.mv (mv λk hk=>by subst hk;exact⟨h.box.1,(h.map.eT h.box).symm⟩)
 ·obtain⟨es,c',h1,h2⟩:=hm;exact⟨es,c',⟨h.map.x.1,h1.2⟩,h2⟩
 ·exact(h.row x (rB x hx)).own.mv (mv λk hk=>by subst hk;exact⟨(h.row x (rB x hx)).1,(h.map.eT (h.row x (rB x hx))).symm⟩)
 ·exact(h.ow x (rB x hx)).tight.mv (mv λk hk=>⟨((h.ow x (rB x hx)).bw hk).1,λe=>h.map.aiv (h.ow x (rB x hx)) (e▸hk)⟩)
end
def FX (F X:XS) (w:World):Prop:= ∀k,F k->X k/\k<w.heap.size
theorem FX.kp (h:FX F X w) (hk:Kp X w wa):FX F (bI wa) wa:=λk ah=>⟨aw (h k ah).2 hk.size,aw (h k ah).2 hk.size⟩
def FX.mv (h:FX F X w) (hk:Kp X w wa):Mv F w F wa:=λk ah _=>⟨ah,hk.block k (h k ah).1⟩
def FX.ft (h:FX F X w) (hk:Kp X w wa):Ft wa F wa (bI wa) F:=Ft.init λk ah=>(h.kp hk k ah).1
def _root_.Go.aK.Ft.fx {F0:XS} (h:Ft w0 F0 w X F) (hG: ∀k,G k->F k):FX G X w:=λk hk=>⟨h.bw k (hG k hk),h.s.has k (h.bw k (hG k hk))⟩
end Go.Proofs.YtgfijddlkhkopaaGreat