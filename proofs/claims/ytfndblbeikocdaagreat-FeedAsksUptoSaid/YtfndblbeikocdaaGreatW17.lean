/-
 Part 17 of the proof: what the last text leans on.
-/
import Derived.Test.YtfndblbeikocdaaGreatRows
import Derived.WalkKit
import Derived.ProofKit
import Derived.Deep.Slices
import Derived.Carry
import Derived.Test.YtfndblbeikocdaaGreatW16
open Go.DataW renaming trod → nD, trod_int → zC
open List renaming range → dg, getElem?_eq_getElem → cd, map_cons → bC, getElem?_cons_zero → iI
open Nat renaming le_trans → af, le_refl → bP
open Bool renaming and_eq_true → aY
open Option.some renaming injEq → az
set_option linter.unusedVariables false
set_option linter.unusedSimpArgs false
namespace Go.Proofs.YtfndblbeikocdaaGreat
open Go.Proofs.Tryz renaming prog → pg
open Go.bB
set_option maxRecDepth 100000
set_option maxHeartbeats 1000000
theorem QJ {α:Type} [Inhabited α] {enc:α→List Value} {k:Nat} (hk: ∀x,(enc x).length=k) (h0:0<k): ∀(l:List α) (t:Nat),t<l.length*k→((l.map enc).flatten)[t]? =some ((enc l[t/k]!)[t % k]!)
 |[],t,h=>by simp at h
 |x::l,t,h=>by
  rw [bC,List.flatten_cons];by_cases ht:t<k
  ·rw [List.getElem?_append_left (by rw [hk];exact ht),Nat.div_eq_of_lt ht,Nat.mod_eq_of_lt ht];have:t<(enc x).length:=by rw [hk];exact ht
   simp [this]
  ·obtain⟨s,rfl⟩: ∃s,t=s+k:=⟨t-k,by omega⟩;rw [List.getElem?_append_right (by rw [hk];omega),hk,Nat.add_sub_cancel,Nat.add_div_right _ h0,Nat.add_mod_right];have hs:s<l.length*k:=by rw [List.length_cons,Nat.succ_mul] at h;omega
   rw [QJ hk h0 l s hs];simp
class Wt (α:Type) where
 wt:α→Nat
 pos: ∀a,1≤wt a
instance:Wt Int:=⟨fun _=>1,fun _=>bP _⟩
def O6 (n:Nat):Nat:=if n<18446744073709551616 then 1 else 1073741824
theorem Ui (n:Nat):1≤O6 n:=by unfold O6;split<;>omega
instance:Wt Nat:=⟨O6,Ui⟩
instance:Wt Bool:=⟨fun _=>1,fun _=>bP _⟩
instance:Wt BA:=⟨fun s=>s.size+1,fun _=>by omega⟩
instance {α:Type} [Wt α]:Wt (List α):=⟨fun l=>(l.map Wt.wt).sum+1,fun _=>by omega⟩
theorem Uj {α:Type} [Wt α]: ∀l:List α,l.length≤(l.map Wt.wt).sum
 |[]=>by simp
 |x::l=>by have:=Uj l;have:=Wt.pos x;simp;omega
theorem B3 {α:Type} [Wt α] {x:α} : ∀{l:List α},x∈l→Wt.wt x≤(l.map Wt.wt).sum
 |y::l,h=>by
  rcases List.mem_cons.1 h with rfl|h
  ·simp
  ·have:=B3 h;simp;omega
def lq {α:Type} [Wt α] (t:TypeId) (rd:World→XS→List Value→α→Prop):Prop:=
 ∀(H:Type) (enc:TypeId×Value→H) (W:World) (fuel:Nat) (cs:List Value) (x:DataW H×List MemPlace),nD enc pg W 0 (fun _=>true) true fuel t cs=some x→ ∃a,rd W (aR W) cs a∧Wt.wt a≤Rows.uptoBulk x.1
theorem yD {H:Type} (d:DataW H):1≤Rows.uptoBulk d:=by
 cases d with
 |lit l=>cases l<;>simp [Rows.uptoBulk]
 |nil=>simp [Rows.uptoBulk]
 |ptr d=>simp [Rows.uptoBulk]
 |slice elems spare=>simp [Rows.uptoBulk]
 |agg parts=>simp [Rows.uptoBulk]
 |iface t d=>simp [Rows.uptoBulk]
 |map entries=>simp [Rows.uptoBulk]
 |held h=>simp [Rows.uptoBulk]
abbrev rdI:World→XS→List Value→Int→Prop:=fun _ _ cs n=>cs=[I n]
abbrev afK:World→XS→List Value→Nat→Prop:=fun _ _ cs n=>cs=[.float .f64 n]
abbrev rdB:World→XS→List Value→Bool→Prop:=fun _ _ cs n=>cs=[B n]
abbrev rdS:World→XS→List Value→BA→Prop:=fun _ _ cs n=>cs=[.string n]
abbrev Gz {α:Type} (k:Nat) (rd:World→XS→List Value→α→Prop):World→XS→List Value→List α→Prop:=fun w X cs xs=> ∃v,cs=[v]∧gq w X k v rd xs
theorem aaM {t:TypeId} (ht:pg.underlying t=some (.int .i64)):lq t rdI:=fun H enc W fuel cs x h=>by
 obtain⟨n,rfl,rfl,_⟩:=zC ht h;exact⟨n,rfl,yD _⟩
theorem acd {t:TypeId} (ht:pg.underlying t=some (.float .f64)):lq t afK:=fun H enc W fuel cs x h=>by
 cases fuel with
 |zero=>simp [nD] at h
 |succ n=>
  unfold nD at h;rw [ht] at h;split at h<;>simp_all
  obtain⟨⟨h1,h2⟩,h3⟩:=h;rename_i kk _ b he;subst he;have hb:b<18446744073709551616:=by simpa [Lit.wf] using h2
  show O6 b≤_
  unfold O6;rw [if_pos hb];exact yD _
theorem adN {t:TypeId} (ht:pg.underlying t=some .bool):lq t rdB:=fun H enc W fuel cs x h=>by
 obtain⟨n,rfl,rfl⟩:=DataW.trod_bool ht h;exact⟨n,rfl,yD _⟩
theorem afL {t:TypeId} (ht:pg.underlying t=some .string):lq t rdS:=fun H enc W fuel cs x h=>by
 obtain⟨s,rfl,rfl,_⟩:=DataW.trod_string ht h;refine⟨s,rfl,?_⟩
 show s.size+1≤s.data.toList.length+1
 rw [Array.length_toList];exact bP _
theorem aaN {α H:Type} [Wt α] (f:Nat→α) (D:Nat→DataW H): ∀l:List Nat,(∀i∈l,Wt.wt (f i)≤Rows.uptoBulk (D i))→((l.map f).map Wt.wt).sum≤Rows.uptoBulkAll (l.map D)
 |[],_=>by simp
 |i::l,h=>by
  have h1:=aaN f D l fun j hj=>h j (List.mem_cons_of_mem _ hj);have h2:=h i (by simp);simp only [bC,List.sum_cons,Rows.uptoBulkAll];omega
theorem QK {W:World} {a:Addr} {k:Nat} {cs:List Value} (h:W.cells? 0 a k=some cs):cs.length=k∧ ∀j v,cs[j]? =some v→W.cell? (a.add j)=some v:=by
 unfold World.cells? at h;rw [if_pos (Nat.zero_le _)] at h;have key: ∀(l:List Nat) (cs:List Value),(l.mapM (m:=Option) fun i=>W.cell? (a.add i))=some cs→cs.length=l.length∧ ∀(j:Nat) (v:Value),cs[j]? =some v→ ∃i:Nat,l[j]? =some i∧W.cell? (a.add i)=some v:=by
  intro l
  induction l with
  |nil=>intro cs h;simp at h;subst h;simp
  |cons i l ih=>
   intro cs h;simp only [List.mapM_cons,Option.bind_eq_bind,Option.bind_eq_some_iff,Option.pure_def,az] at h;obtain⟨v,hv,vs,hvs,rfl⟩:=h;obtain⟨h1,h2⟩:=ih vs hvs;refine⟨by simp [h1],fun j u hj=>?_⟩;cases j with
   |zero=>simp only [iI,az] at hj;subst hj;exact⟨i,rfl,hv⟩
   |succ j=>simpa using h2 j u (by simpa using hj)
 obtain⟨h1,h2⟩:=key _ _ h;refine⟨by simpa using h1,fun j v hj=>?_⟩;obtain⟨i,hi,hc⟩:=h2 j v hj;have:i=j:=by
  rw [List.getElem?_range (by simpa using (List.getElem?_eq_some_iff.1 hi).1)] at hi;simpa using hi.symm
 rw [←this];exact hc
theorem Uk (b o n:Nat):(⟨b,o,none⟩:Addr).add n=⟨b,o+n,none⟩:=by
 unfold Addr.add;split
 ·rename_i h;subst h;rfl
 ·rfl
theorem nU {α:Type} [Wt α] {t e k:Nat} {rd:World→XS→List Value→α→Prop} (ht:pg.underlying t=some (.slice e)) (hk:pg.cellsOf e=k) (h0:0<k) (he:lq e rd):lq t (Gz k rd):=fun H enc W fuel cs x h=>by
 rcases Go.Deep.open_slice ht h with⟨rfl,rfl⟩|⟨a,len,cap,m,n,D,Pl,rfl,_,hlc,iK,hm,rfl,Ia⟩
 ·exact⟨[],⟨_,rfl,gq.nil _ _ _⟩,yD _⟩
 ·rw [hk] at Ia;have hm':m=cap:=by simpa using hm
  have qb: ∀i,i<len→ ∃(p:List Value×α),W.cells? 0 (a.add (i*k)) k=some p.1∧rd W (aR W) p.1 p.2∧Wt.wt p.2≤Rows.uptoBulk (D i):=fun i hi=>by
   obtain⟨sc,h1,h2⟩:=Ia i zQ;obtain⟨b,h3,h4⟩:=he H enc W n sc _ h2;exact⟨⟨sc,b⟩,h1,h3,h4⟩
  by_cases hl0:len=0
  ·subst hl0;refine⟨[],⟨_,rfl,[],⟨by simp,by simp,some a,cap,rfl,by simp,by simp,by simp,af iK (by decide)⟩,rfl,by simp⟩,yD _⟩
  obtain⟨p0,_⟩:=qb 0 zQ;have:Inhabited (List Value×α):=⟨p0⟩;obtain⟨f,hf⟩:=Go.Deep.choose_lt qb
  let row:Nat→List Value:=fun i=>if i<len then(f i).1 else List.replicate k undef
  have bH: ∀i,(row i).length=k:=fun i=>by
   show(if i<len then(f i).1 else List.replicate k undef).length=k
   split
   ·exact(QK (hf i (by assumption)).1).1
   ·simp
  have RX: ∀i,i<len→row i=(f i).1:=fun i hi=>if_pos hi;obtain⟨b,o,x7,c,ty,fr,hb,hc⟩: ∃b o,a=⟨b,o,none⟩∧ ∃c ty fr,W.heap[b]? =some (.cells c ty fr)∧ ∀i,i<len→ ∀j v,(row i)[j]? =some v→c[o+(i*k+j)]? =some v:=by
   obtain⟨b,o,sp⟩:=a;have h1: ∀i,i<len→ ∀j v,(row i)[j]? =some v→W.cell? (((⟨b,o,sp⟩:Addr).add (i*k)).add j)=some v:=fun i hi j v hj=>by
    rw [RX i hi] at hj;exact(QK (hf i hi).1).2 j v hj
   have hj: ∃v,(row 0)[0]? =some v:=⟨_,cd (by rw [bH];exact h0)⟩;obtain⟨v,hv⟩:=hj;have h2:=h1 0 zQ 0 v hv;rw [Nat.zero_mul] at h2;change W.cell? ⟨b,o,sp⟩=some v at h2;unfold World.cell? at h2;split at h2
   ·rename_i c ty fr hb;have PO:sp=none:=by
     cases sp with
     |none=>rfl
     |some s=>simp at h2
    subst PO;refine⟨b,o,rfl,c,ty,fr,hb,fun i hi j v hj=>?_⟩;have h3:=h1 i hi j v hj;rw [Uk,Uk] at h3;unfold World.cell? at h3;rw [hb] at h3;simpa [Nat.add_assoc] using h3
   ·cases h2
  subst x7;have cI:b<W.heap.size:=(Array.getElem?_eq_some_iff.1 hb).1;refine⟨(dg len).map fun i=>(f i).2,⟨_,rfl,(dg len).map row,⟨?_,?_,some ⟨b,o,none⟩,cap,?_,fun _=>⟨b,o,rfl,cI,c,ty,fr,hb,fun j v hj=>?_⟩,by simp,by simpa using hlc,af iK (by decide)⟩,by simp,?_⟩,?_⟩
  ·intro r hr;obtain⟨i,_,rfl⟩:=List.mem_map.1 hr;exact bH i
  ·have:cap≤2^63-1:=af iK (by decide);simp;omega
  ·simp
  ·have qB:j<len*k:=by
    have h1:=(List.getElem?_eq_some_iff.1 hj).1;rw [gZ (k:=k) (by intro r hr;obtain⟨i,_,rfl⟩:=List.mem_map.1 hr;exact bH i)] at h1;simpa using h1
   have h2:=QJ bH h0 (dg len) j (by simpa using qB);rw [hj] at h2;have hd:j/k<len:=by rw [Nat.div_lt_iff_lt_mul h0];exact qB
   have afM:j % k<k:=Nat.mod_lt _ h0;have hr:(dg len)[j/k]! =j/k:=by simp [hd]
   rw [hr] at h2;have hv:(row (j/k))[j % k]? =some v:=by
    rw [cd (by rw [bH];exact afM)];rw [getElem!_pos (row (j/k)) (j % k) (by rw [bH];exact afM)] at h2;exact h2.symm
   have:=hc (j/k) hd (j % k) v hv;rw [Nat.mul_comm,Nat.div_add_mod] at this;exact this
  ·intro i r x hr hx;simp only [List.getElem?_map,Option.map_eq_some_iff] at hr hx;obtain⟨i1,h1,rfl⟩:=hr;obtain⟨i2,h2,rfl⟩:=hx;rw [h1] at h2;cases h2;have hi1:i1<len:=List.mem_range.1 (List.mem_of_getElem? h1);rw [RX i1 hi1];exact(hf i1 hi1).2.1
  ·have:=aaN (fun i=>(f i).2) D (dg len) fun i hi=>(hf i (List.mem_range.1 hi)).2.2
   show((((dg len).map fun i=>(f i).2).map Wt.wt).sum+1)≤_
   simp only [Rows.uptoBulk];omega
theorem _root_.Go.bB.gq.tt {α:Type} {w:World} {X:XS} {k:Nat} {v:Value} {enc:α→List Value} {xs:List α} (h:gq w X k v (fun _ _ l x=>l=enc x) xs):Sl w X k v (xs.map enc):=by
 obtain⟨rows,h1,h2,h3⟩:=h;have:rows=xs.map enc:=by
  apply List.ext_getElem (by simpa using h2);intro i hi hj;have hx:i<xs.length:=by simpa using hj
  have:=h3 i rows[i] xs[i] (cd hi) (cd hx);simpa using this
 rw [←this];exact h1
def Y9 (P:Program):List Field→Nat→Bool
 |[],_=>true
 |f::l,o=>f.offset==o&&Y9 P l (o+P.cellsOf f.type)
def Ul (P:Program) (t:TypeId) (tys:List TypeId):Bool:=match P.underlying t with
 |some (.struct fs)=>fs.toList.map (·.type)==tys&&Y9 P fs.toList 0&&P.cellsOf t==(tys.map P.cellsOf).sum
 |_=>false
def Um {H:Type} (enc:TypeId×Value→H) (W:World) (n:Nat):List TypeId→List Value→List (DataW H)→Prop
 |[],cs,ds=>cs=[]∧ds=[]
 |t::ts,cs,ds=> ∃c1 c2 d ps Un,cs=c1++c2∧ds=d::Un∧nD enc pg W 0 (fun _=>true) true n t c1=some (d,ps)∧Um enc W n ts c2 Un
theorem Xm {H:Type} {enc:TypeId×Value→H} {W:World} {n:Nat} {cs:List Value} : ∀(l:List Field) (xs:List (DataW H×List MemPlace)) (o:Nat),Y9 pg l o=true→cs.length=o+((l.map (·.type)).map pg.cellsOf).sum→
  xs.length=l.length→(∀(i:Nat) (f:Field),l[i]? =some f→nD enc pg W 0 (fun _=>true) true n f.type ((cs.drop f.offset).take (pg.cellsOf f.type))=xs[i]?)→Um enc W n (l.map (·.type)) (cs.drop o) (xs.map (·.1))
 |[],[],o,_,hl,_,_=>⟨List.drop_of_length_le (by simp at hl;omega),rfl⟩
 |[],x::xs,o,_,_,hx,_=>by simp at hx
 |f::l,[],o,_,_,hx,_=>by simp at hx
 |f::l,x::xs,o,ho,hl,hx,h=>by
  simp only [Y9,aY,beq_iff_eq] at ho;obtain⟨kD,iH⟩:=ho;have h0:=h 0 f rfl;simp only [iI] at h0;refine⟨(cs.drop o).take (pg.cellsOf f.type),cs.drop (o+pg.cellsOf f.type),x.1,x.2,xs.map (·.1),?_,rfl,?_,?_⟩
  ·rw [←List.drop_drop,List.take_append_drop]
  ·rw [←kD];exact h0
  ·refine Xm l xs _ iH ?_ (by simpa using hx) fun i g hg=>?_
   ·simp only [bC,List.sum_cons] at hl;omega
   ·have:=h (i+1) g (by simpa using hg);simpa using this
theorem iG {t:TypeId} (tys:List TypeId) (mH:Ul pg t tys=true) {H:Type} {enc:TypeId×Value→H} {W:World} {fuel:Nat} {cs:List Value} {x:DataW H×List MemPlace}
  (h:nD enc pg W 0 (fun _=>true) true fuel t cs=some x): ∃n ds,x.1= .agg ds∧Um enc W n tys cs ds:=by
 unfold Ul at mH;split at mH
 ·rename_i fs MZ;simp only [aY,beq_iff_eq] at mH;obtain⟨⟨rfl,h2⟩,h3⟩:=mH;obtain⟨xs,n,_,rfl,hl,hx,hf⟩:=DataW.trod_struct MZ h;refine⟨n,_,rfl,?_⟩;have:=Xm (cs:=cs) (enc:=enc) (W:=W) (n:=n) fs.toList xs 0 h2 (by rw [hl,h3];simp) (by simpa using hx) fun i f hi=>hf i f (by simpa using hi);simpa using this
 ·cases mH
theorem ct {α:Type} [Wt α] {t:TypeId} {ts:List TypeId} {rd:World→XS→List Value→α→Prop} (hr:lq t rd) {H:Type} {enc:TypeId×Value→H} {W:World} {n:Nat} {cs:List Value} {ds:List (DataW H)} (h:Um enc W n (t::ts) cs ds):
  ∃c1 c2 d Un a,cs=c1++c2∧ds=d::Un∧rd W (aR W) c1 a∧Wt.wt a≤Rows.uptoBulk d∧Um enc W n ts c2 Un:=by
 obtain⟨c1,c2,d,ps,Un,rfl,rfl,h1,h2⟩:=h;obtain⟨a,h3,h4⟩:=hr H enc W n c1 _ h1;exact⟨c1,c2,d,Un,a,rfl,rfl,h3,h4,h2⟩
instance:Wt aO:=⟨fun x=>4,fun _=>by omega⟩
def L5 (n:Int):Prop:= -9223372036854775808≤n∧n<9223372036854775808
instance (n:Int):Decidable (L5 n):=by unfold L5;infer_instance
def Uo (x:eh):Nat:=if L5 x.iP∧L5 x.lu∧L5 x.sq then 4 else 1073741824
theorem O7 (x:eh):4≤Uo x:=by unfold Uo;split<;>omega
instance:Wt eh:=⟨Uo,fun x=>af (by decide) (O7 x)⟩
abbrev aiO:World→XS→List Value→Int→Prop:=fun _ _ cs n=>cs=[I n]∧L5 n
theorem Jr:lq 3 aiO:=fun H enc W fuel cs x h=>by
 have ht:pg.underlying 3=some (.int .i64):=by kernel_rfl
 obtain⟨n,e,e2,hw⟩:=zC ht h;subst e;refine⟨n,⟨rfl,?_⟩,yD _⟩;simp only [Lit.wf,aY,decide_eq_true_eq] at hw;have h1:IntKind.i64.min= -9223372036854775808:=by kernel_rfl
 have h2:IntKind.i64.max=9223372036854775807:=by kernel_rfl
 rw [h1,h2] at hw;unfold L5;omega
abbrev adO:World→XS→List Value→aO→Prop:=fun _ _ cs x=>cs=x.l
abbrev agX:World→XS→List Value→eh→Prop:=fun _ _ cs x=>cs=x.l
theorem mC:lq 3 rdI:=aaM kQ
theorem FB:lq 41 afK:=acd kQ
theorem Xn:lq 4 rdB:=adN kQ
theorem Ej:lq 9 rdS:=afL kQ
theorem rl:lq 34 adO:=fun H enc W fuel cs x h=>by
 obtain⟨n,ds,hx,hf⟩:=iG [3,3,3] kQ h;obtain⟨_,_,_,_,a1,rfl,rfl,rfl,w1,hf⟩:=ct mC hf;obtain⟨_,_,_,_,a2,rfl,rfl,rfl,w2,hf⟩:=ct mC hf;obtain⟨_,_,_,_,a3,rfl,rfl,rfl,w3,rfl,rfl⟩:=ct mC hf;refine⟨⟨a1,a2,a3⟩,rfl,?_⟩;rw [hx];simp only [Rows.uptoBulk,Rows.uptoBulkAll,Wt.wt] at*;omega
theorem Up:lq 32 agX:=fun H enc W fuel cs x h=>by
 obtain⟨n,ds,hx,hf⟩:=iG [3,3,3] kQ h;obtain⟨_,_,_,_,a1,rfl,rfl,⟨rfl,q1⟩,w1,hf⟩:=ct Jr hf;obtain⟨_,_,_,_,a2,rfl,rfl,⟨rfl,q2⟩,w2,hf⟩:=ct Jr hf;obtain⟨_,_,_,_,a3,rfl,rfl,⟨rfl,q3⟩,w3,rfl,rfl⟩:=ct Jr hf;refine⟨⟨a1,a2,a3⟩,rfl,?_⟩;have e:Wt.wt (⟨a1,a2,a3⟩:eh)=4:=if_pos ⟨q1,q2,q3⟩;rw [hx,e];simp only [Rows.uptoBulk,Rows.uptoBulkAll,Wt.wt] at*;omega
instance:Wt nq:=⟨fun x=>Wt.wt x.kind+Wt.wt x.num+Wt.wt x.text+1,fun _=>by omega⟩
theorem NM:lq 116 (fun _ _ cs (x:nq)=>cs=x.l):=fun H enc W fuel cs x h=>by
 obtain⟨n,ds,hx,hf⟩:=iG [3,41,9] kQ h;obtain⟨_,_,_,_,a0,rfl,rfl,rfl,w0,hf⟩:=ct mC hf;obtain⟨_,_,_,_,a1,rfl,rfl,rfl,w1,hf⟩:=ct FB hf;obtain⟨_,_,_,_,a2,rfl,rfl,rfl,w2,rfl,rfl⟩:=ct Ej hf;refine⟨⟨a0,a1,a2⟩,rfl,?_⟩;rw [hx];simp only [Rows.uptoBulk,Rows.uptoBulkAll,Wt.wt] at*;omega
instance:Wt KV:=⟨fun x=>Wt.wt x.key+Wt.wt x.val+1,fun _=>by omega⟩
theorem agY:lq 118 (fun _ _ cs (x:KV)=>cs=x.l):=fun H enc W fuel cs x h=>by
 obtain⟨n,ds,hx,hf⟩:=iG [9,116] kQ h;obtain⟨_,_,_,_,a0,rfl,rfl,rfl,w0,hf⟩:=ct Ej hf;obtain⟨_,_,_,_,a1,rfl,rfl,rfl,w1,rfl,rfl⟩:=ct NM hf;refine⟨⟨a0,a1⟩,rfl,?_⟩;rw [hx];simp only [Rows.uptoBulk,Rows.uptoBulkAll,Wt.wt] at*;omega
theorem Uq:lq 37 (Gz 4 (fun _ _ cs (x:KV)=>cs=x.l)):=nU kQ kQ (by decide) agY
theorem afN:lq 205 (fun _ _ cs (x:KV)=>cs=x.l):=fun H enc W fuel cs x h=>by
 obtain⟨n,ds,hx,hf⟩:=iG [9,116] kQ h;obtain⟨_,_,_,_,a0,rfl,rfl,rfl,w0,hf⟩:=ct Ej hf;obtain⟨_,_,_,_,a1,rfl,rfl,rfl,w1,rfl,rfl⟩:=ct NM hf;refine⟨⟨a0,a1⟩,rfl,?_⟩;rw [hx];simp only [Rows.uptoBulk,Rows.uptoBulkAll,Wt.wt] at*;omega
theorem adP:lq 71 (Gz 4 (fun _ _ cs (x:KV)=>cs=x.l)):=nU kQ kQ (by decide) afN
instance:Wt ki:=⟨fun x=>Wt.wt x.aw+Wt.wt x.val+1,fun _=>by omega⟩
theorem afO:lq 227 (fun _ _ cs (x:ki)=>cs=x.l):=fun H enc W fuel cs x h=>by
 obtain⟨n,ds,hx,hf⟩:=iG [34,116] kQ h;obtain⟨_,_,_,_,a0,rfl,rfl,rfl,w0,hf⟩:=ct rl hf;obtain⟨_,_,_,_,a1,rfl,rfl,rfl,w1,rfl,rfl⟩:=ct NM hf;refine⟨⟨a0,a1⟩,rfl,?_⟩;rw [hx];simp only [Rows.uptoBulk,Rows.uptoBulkAll,Wt.wt] at*;omega
theorem Za:lq 35 (Gz 1 rdS):=nU kQ kQ (by decide) Ej
theorem adQ:lq 223 (Gz 6 (fun _ _ cs (x:ki)=>cs=x.l)):=nU kQ kQ (by decide) afO
theorem Zb:lq 38 (Gz 1 rdI):=nU kQ kQ (by decide) mC
instance:Wt iM:=⟨fun x=>Wt.wt x.key+Wt.wt x.kc+1,fun _=>by omega⟩
theorem adR:lq 225 iM.rd:=fun H enc W fuel cs x h=>by
 obtain⟨n,ds,hx,hf⟩:=iG [9,223] kQ h;obtain⟨_,_,_,_,a0,rfl,rfl,rfl,w0,hf⟩:=ct Ej hf;obtain⟨_,_,_,_,a1,rfl,rfl,⟨v1,rfl,r1⟩,w1,rfl,rfl⟩:=ct adQ hf;refine⟨⟨a0,a1⟩,⟨v1,rfl,r1.tt⟩,?_⟩;rw [hx];simp only [Rows.uptoBulk,Rows.uptoBulkAll,Wt.wt] at*;omega
theorem ace:lq 44 (Gz 2 iM.rd):=nU kQ kQ (by decide) adR
instance:Wt dB:=⟨fun x=>Wt.wt x.b6+Wt.wt x.aw+Wt.wt x.reads+Wt.wt x.writes+1,fun _=>by omega⟩
theorem adS:lq 182 dB.rd:=fun H enc W fuel cs x h=>by
 obtain⟨n,ds,hx,hf⟩:=iG [32,34,35,37] kQ h;obtain⟨_,_,_,_,a0,rfl,rfl,rfl,w0,hf⟩:=ct Up hf;obtain⟨_,_,_,_,a1,rfl,rfl,rfl,w1,hf⟩:=ct rl hf;obtain⟨_,_,_,_,a2,rfl,rfl,⟨v2,rfl,r2⟩,w2,hf⟩:=ct Za hf;obtain⟨_,_,_,_,a3,rfl,rfl,⟨v3,rfl,r3⟩,w3,rfl,rfl⟩:=ct Uq hf;refine⟨⟨a0,a1,a2,a3⟩,⟨v2,v3,rfl,r2.tt,r3.tt⟩,?_⟩;rw [hx];simp only [Rows.uptoBulk,Rows.uptoBulkAll,Wt.wt] at*;omega
theorem acf:lq 45 (Gz 8 dB.rd):=nU kQ kQ (by decide) adS
instance:Wt ju:=⟨fun x=>Wt.wt x.id+Wt.wt x.jo+Wt.wt x.lo+Wt.wt x.hi+1,fun _=>by omega⟩
theorem aaO:lq 43 (fun _ _ cs (x:ju)=>cs=x.l):=fun H enc W fuel cs x h=>by
 obtain⟨n,ds,hx,hf⟩:=iG [3,3,41,41] kQ h;obtain⟨_,_,_,_,a0,rfl,rfl,rfl,w0,hf⟩:=ct mC hf;obtain⟨_,_,_,_,a1,rfl,rfl,rfl,w1,hf⟩:=ct mC hf;obtain⟨_,_,_,_,a2,rfl,rfl,rfl,w2,hf⟩:=ct FB hf;obtain⟨_,_,_,_,a3,rfl,rfl,rfl,w3,rfl,rfl⟩:=ct FB hf;refine⟨⟨a0,a1,a2,a3⟩,rfl,?_⟩;rw [hx];simp only [Rows.uptoBulk,Rows.uptoBulkAll,Wt.wt] at*;omega
instance:Wt State:=⟨fun x=>Wt.wt x.range+Wt.wt x.floor+Wt.wt x.closed+Wt.wt x.gF+Wt.wt x.eK+1,fun _=>by omega⟩
theorem Ur:lq 47 State.rd:=fun H enc W fuel cs x h=>by
 obtain⟨n,ds,hx,hf⟩:=iG [43,34,34,44,45] kQ h;obtain⟨_,_,_,_,a0,rfl,rfl,rfl,w0,hf⟩:=ct aaO hf;obtain⟨_,_,_,_,a1,rfl,rfl,rfl,w1,hf⟩:=ct rl hf;obtain⟨_,_,_,_,a2,rfl,rfl,rfl,w2,hf⟩:=ct rl hf;obtain⟨_,_,_,_,a3,rfl,rfl,⟨v3,rfl,r3⟩,w3,hf⟩:=ct ace hf;obtain⟨_,_,_,_,a4,rfl,rfl,⟨v4,rfl,r4⟩,w4,rfl,rfl⟩:=ct acf hf;refine⟨⟨a0,a1,a2,a3,a4⟩,⟨v3,v4,rfl,r3,r4⟩,?_⟩;rw [hx];simp only [Rows.uptoBulk,Rows.uptoBulkAll,Wt.wt] at*;omega
instance:Wt Rec:=⟨fun x=>Wt.wt x.kind+Wt.wt x.b6+Wt.wt x.aw+Wt.wt x.prev+Wt.wt x.ij+Wt.wt x.n+Wt.wt x.jV+Wt.wt x.reads+Wt.wt x.writes+Wt.wt x.parts+Wt.wt x.qL+Wt.wt x.state+1,fun _=>by omega⟩
theorem afP:lq 73 Rec.rd:=fun H enc W fuel cs x h=>by
 obtain⟨n,ds,hx,hf⟩:=iG [3,32,34,34,4,3,41,35,37,38,71,47] kQ h;obtain⟨_,_,_,_,a0,rfl,rfl,rfl,w0,hf⟩:=ct mC hf;obtain⟨_,_,_,_,a1,rfl,rfl,rfl,w1,hf⟩:=ct Up hf;obtain⟨_,_,_,_,a2,rfl,rfl,rfl,w2,hf⟩:=ct rl hf;obtain⟨_,_,_,_,a3,rfl,rfl,rfl,w3,hf⟩:=ct rl hf;obtain⟨_,_,_,_,a4,rfl,rfl,rfl,w4,hf⟩:=ct Xn hf;obtain⟨_,_,_,_,a5,rfl,rfl,rfl,w5,hf⟩:=ct mC hf;obtain⟨_,_,_,_,a6,rfl,rfl,rfl,w6,hf⟩:=ct FB hf;obtain⟨_,_,_,_,a7,rfl,rfl,⟨v7,rfl,r7⟩,w7,hf⟩:=ct Za hf;obtain⟨_,_,_,_,a8,rfl,rfl,⟨v8,rfl,r8⟩,w8,hf⟩:=ct Uq hf;obtain⟨_,_,_,_,a9,rfl,rfl,⟨v9,rfl,r9⟩,w9,hf⟩:=ct Zb hf;obtain⟨_,_,_,_,a10,rfl,rfl,⟨v10,rfl,r10⟩,w10,hf⟩:=ct adP hf;obtain⟨_,_,_,_,a11,rfl,rfl,⟨vh,vp,rfl,aiP,aiQ⟩,w11,rfl,rfl⟩:=ct Ur hf;refine⟨⟨a0,a1,a2,a3,a4,a5,a6,a7,a8,a9,a10,a11⟩,⟨v7,v8,v9,v10,vh,vp,rfl,r7.tt,r8.tt,r9.tt,r10.tt,aiP,aiQ⟩,?_⟩;rw [hx];simp only [Rows.uptoBulk,Rows.uptoBulkAll,Wt.wt] at*;omega
end Go.Proofs.YtfndblbeikocdaaGreat
