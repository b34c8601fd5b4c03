/-
 Part 13 of the proof: what the last text leans on.
-/
import Derived.Test.YtpdkoaklobnegaaGreatRows
import Derived.WalkKit
import Derived.ProofKit
import Derived.Deep.Slices
import Derived.Carry
import Derived.Test.YtpdkoaklobnegaaGreatH12
open Go.DataW renaming trod → oB, trod_int → Ao
open List renaming range → dG, getElem?_eq_getElem → bB, map_cons → bc, getElem?_cons_zero → fP
open Nat renaming le_trans → ah, le_refl → bf
open Bool renaming and_eq_true → aA
open Option.some renaming injEq → aB
set_option linter.unusedVariables false
set_option linter.unusedSimpArgs false
namespace Go.Proofs.YtpdkoaklobnegaaGreat
open Go.Proofs.Tryz renaming prog → pg
open Go.dL
set_option maxRecDepth 100000
set_option maxHeartbeats 1000000
theorem SA {α:Type} [Inhabited α] {enc:α→List Value} {k:Nat} (hk: ∀x,(enc x).length=k) (h0:0<k): ∀(l:List α) (t:Nat),t<l.length*k→((l.map enc).flatten)[t]? =some ((enc l[t/k]!)[t % k]!)
 |[],t,h=>by simp at h
 |x::l,t,h=>by
  rw [bc,List.flatten_cons];by_cases ht:t<k
  ·rw [List.getElem?_append_left (by rw [hk];exact ht),Nat.div_eq_of_lt ht,Nat.mod_eq_of_lt ht];have:t<(enc x).length:=by rw [hk];exact ht
   simp [this]
  ·obtain⟨s,rfl⟩: ∃s,t=s+k:=⟨t-k,by omega⟩;rw [List.getElem?_append_right (by rw [hk];omega),hk,Nat.add_sub_cancel,Nat.add_div_right _ h0,Nat.add_mod_right];have hs:s<l.length*k:=by rw [List.length_cons,Nat.succ_mul] at h;omega
   rw [SA hk h0 l s hs];simp
class Wt (α:Type) where
 wt:α→Nat
 pos: ∀a,1≤wt a
instance:Wt Int:=⟨fun _=>1,fun _=>bf _⟩
def JL (n:Nat):Nat:=if n<18446744073709551616 then 1 else 1073741824
theorem aea (n:Nat):1≤JL n:=by unfold JL;split<;>omega
theorem agl {n:Nat} (h:JL n≤1048576):n<18446744073709551616:=by
 unfold JL at h;split at h
 ·assumption
 ·omega
instance:Wt Nat:=⟨JL,aea⟩
instance:Wt Bool:=⟨fun _=>1,fun _=>bf _⟩
instance:Wt BA:=⟨fun s=>s.size+1,fun _=>by omega⟩
instance {α:Type} [Wt α]:Wt (List α):=⟨fun l=>(l.map Wt.wt).sum+1,fun _=>by omega⟩
theorem acK {α:Type} [Wt α]: ∀l:List α,l.length≤(l.map Wt.wt).sum
 |[]=>by simp
 |x::l=>by have:=acK l;have:=Wt.pos x;simp;omega
theorem u4 {α:Type} [Wt α] {x:α} : ∀{l:List α},x∈l→Wt.wt x≤(l.map Wt.wt).sum
 |y::l,h=>by
  rcases List.mem_cons.1 h with rfl|h
  ·simp
  ·have:=u4 h;simp;omega
def l8 {α:Type} [Wt α] (t:TypeId) (rd:World→XS→List Value→α→Prop):Prop:=
 ∀(H:Type) (enc:TypeId×Value→H) (W:World) (fuel:Nat) (cs:List Value) (x:DataW H×List MemPlace),oB enc pg W 0 (fun _=>true) true fuel t cs=some x→ ∃a,rd W (ba W) cs a∧Wt.wt a≤Rows.uptoBulk x.1
theorem zr {H:Type} (d:DataW H):1≤Rows.uptoBulk d:=by
 cases d with
 |lit l=>cases l<;>simp [Rows.uptoBulk]
 |nil=>simp [Rows.uptoBulk]
 |ptr d=>simp [Rows.uptoBulk]
 |slice elems spare=>simp [Rows.uptoBulk]
 |agg parts=>simp [Rows.uptoBulk]
 |iface t d=>simp [Rows.uptoBulk]
 |map entries=>simp [Rows.uptoBulk]
 |held h=>simp [Rows.uptoBulk]
abbrev rdI:World→XS→List Value→Int→Prop:=fun _ _ cs n=>cs=[I n]
abbrev ahv:World→XS→List Value→Nat→Prop:=fun _ _ cs n=>cs=[.float .f64 n]
abbrev rdB:World→XS→List Value→Bool→Prop:=fun _ _ cs n=>cs=[B n]
abbrev rdS:World→XS→List Value→BA→Prop:=fun _ _ cs n=>cs=[.string n]
abbrev HX {α:Type} (k:Nat) (rd:World→XS→List Value→α→Prop):World→XS→List Value→List α→Prop:=fun w X cs xs=> ∃v,cs=[v]∧ic w X k v rd xs
theorem acL {t:TypeId} (ht:pg.underlying t=some (.int .i64)):l8 t rdI:=fun H enc W fuel cs x h=>by
 obtain⟨n,rfl,rfl,_⟩:=Ao ht h;exact⟨n,rfl,zr _⟩
theorem aeb {t:TypeId} (ht:pg.underlying t=some (.float .f64)):l8 t ahv:=fun H enc W fuel cs x h=>by
 cases fuel with
 |zero=>simp [oB] at h
 |succ n=>
  unfold oB at h;rw [ht] at h;split at h<;>simp_all
  obtain⟨⟨h1,h2⟩,h3⟩:=h;rename_i kk _ b he;subst he;have hb:b<18446744073709551616:=by simpa [Lit.wf] using h2
  show JL b≤_
  unfold JL;rw [if_pos hb];exact zr _
theorem agm {t:TypeId} (ht:pg.underlying t=some .bool):l8 t rdB:=fun H enc W fuel cs x h=>by
 obtain⟨n,rfl,rfl⟩:=DataW.trod_bool ht h;exact⟨n,rfl,zr _⟩
theorem ahw {t:TypeId} (ht:pg.underlying t=some .string):l8 t rdS:=fun H enc W fuel cs x h=>by
 obtain⟨s,rfl,rfl,_⟩:=DataW.trod_string ht h;refine⟨s,rfl,?_⟩
 show s.size+1≤s.data.toList.length+1
 rw [Array.length_toList];exact bf _
theorem acM {α H:Type} [Wt α] (f:Nat→α) (D:Nat→DataW H): ∀l:List Nat,(∀i∈l,Wt.wt (f i)≤Rows.uptoBulk (D i))→((l.map f).map Wt.wt).sum≤Rows.uptoBulkAll (l.map D)
 |[],_=>by simp
 |i::l,h=>by
  have h1:=acM f D l fun j hj=>h j (List.mem_cons_of_mem _ hj);have h2:=h i (by simp);simp only [bc,List.sum_cons,Rows.uptoBulkAll];omega
theorem SB {W:World} {a:Addr} {k:Nat} {cs:List Value} (h:W.cells? 0 a k=some cs):cs.length=k∧ ∀j v,cs[j]? =some v→W.cell? (a.add j)=some v:=by
 unfold World.cells? at h;rw [if_pos (Nat.zero_le _)] at h;have key: ∀(l:List Nat) (cs:List Value),(l.mapM (m:=Option) fun i=>W.cell? (a.add i))=some cs→cs.length=l.length∧ ∀(j:Nat) (v:Value),cs[j]? =some v→ ∃i:Nat,l[j]? =some i∧W.cell? (a.add i)=some v:=by
  intro l
  induction l with
  |nil=>intro cs h;simp at h;subst h;simp
  |cons i l ih=>
   intro cs h;simp only [List.mapM_cons,Option.bind_eq_bind,Option.bind_eq_some_iff,Option.pure_def,aB] at h;obtain⟨v,hv,vs,ZI,rfl⟩:=h;obtain⟨h1,h2⟩:=ih vs ZI;refine⟨by simp [h1],fun j u hj=>?_⟩;cases j with
   |zero=>simp only [fP,aB] at hj;subst hj;exact⟨i,rfl,hv⟩
   |succ j=>simpa using h2 j u (by simpa using hj)
 obtain⟨h1,h2⟩:=key _ _ h;refine⟨by simpa using h1,fun j v hj=>?_⟩;obtain⟨i,hi,hc⟩:=h2 j v hj;have:i=j:=by
  rw [List.getElem?_range (by simpa using (List.getElem?_eq_some_iff.1 hi).1)] at hi;simpa using hi.symm
 rw [←this];exact hc
theorem Vv (b o n:Nat):(⟨b,o,none⟩:Addr).add n=⟨b,o+n,none⟩:=by
 unfold Addr.add;split
 ·rename_i h;subst h;rfl
 ·rfl
theorem oL {α:Type} [Wt α] {t e k:Nat} {rd:World→XS→List Value→α→Prop} (ht:pg.underlying t=some (.slice e)) (hk:pg.cellsOf e=k) (h0:0<k) (he:l8 e rd):l8 t (HX k rd):=fun H enc W fuel cs x h=>by
 rcases Go.Deep.open_slice ht h with⟨rfl,rfl⟩|⟨a,len,cap,m,n,D,Pl,rfl,_,Vn,lA,hm,rfl,qt⟩
 ·exact⟨[],⟨_,rfl,ic.nil _ _ _⟩,zr _⟩
 ·rw [hk] at qt;have hm':m=cap:=by simpa using hm
  have ti: ∀i,i<len→ ∃(p:List Value×α),W.cells? 0 (a.add (i*k)) k=some p.1∧rd W (ba W) p.1 p.2∧Wt.wt p.2≤Rows.uptoBulk (D i):=fun i hi=>by
   obtain⟨mY,h1,h2⟩:=qt i zQ;obtain⟨b,h3,h4⟩:=he H enc W n mY _ h2;exact⟨⟨mY,b⟩,h1,h3,h4⟩
  by_cases hl0:len=0
  ·subst hl0;refine⟨[],⟨_,rfl,[],⟨by simp,by simp,some a,cap,rfl,by simp,by simp,by simp,ah lA (by decide)⟩,rfl,by simp⟩,zr _⟩
  obtain⟨p0,_⟩:=ti 0 zQ;have:Inhabited (List Value×α):=⟨p0⟩;obtain⟨f,hf⟩:=Go.Deep.choose_lt ti
  let row:Nat→List Value:=fun i=>if i<len then(f i).1 else List.replicate k undef
  have dA: ∀i,(row i).length=k:=fun i=>by
   show(if i<len then(f i).1 else List.replicate k undef).length=k
   split
   ·exact(SB (hf i (by assumption)).1).1
   ·simp
  have afM: ∀i,i<len→row i=(f i).1:=fun i hi=>if_pos hi;obtain⟨b,o,qS,c,ty,fr,hb,hc⟩: ∃b o,a=⟨b,o,none⟩∧ ∃c ty fr,W.heap[b]? =some (.cells c ty fr)∧ ∀i,i<len→ ∀j v,(row i)[j]? =some v→c[o+(i*k+j)]? =some v:=by
   obtain⟨b,o,sp⟩:=a;have h1: ∀i,i<len→ ∀j v,(row i)[j]? =some v→W.cell? (((⟨b,o,sp⟩:Addr).add (i*k)).add j)=some v:=fun i hi j v hj=>by
    rw [afM i hi] at hj;exact(SB (hf i hi).1).2 j v hj
   have hj: ∃v,(row 0)[0]? =some v:=⟨_,bB (by rw [dA];exact h0)⟩;obtain⟨v,hv⟩:=hj;have h2:=h1 0 zQ 0 v hv;rw [Nat.zero_mul] at h2;change W.cell? ⟨b,o,sp⟩=some v at h2;unfold World.cell? at h2;split at h2
   ·rename_i c ty fr hb;have Zn:sp=none:=by
     cases sp with
     |none=>rfl
     |some s=>simp at h2
    subst Zn;refine⟨b,o,rfl,c,ty,fr,hb,fun i hi j v hj=>?_⟩;have h3:=h1 i hi j v hj;rw [Vv,Vv] at h3;unfold World.cell? at h3;rw [hb] at h3;simpa [Nat.add_assoc] using h3
   ·cases h2
  subst qS;have cH:b<W.heap.size:=(Array.getElem?_eq_some_iff.1 hb).1;refine⟨(dG len).map fun i=>(f i).2,⟨_,rfl,(dG len).map row,⟨?_,?_,some ⟨b,o,none⟩,cap,?_,fun _=>⟨b,o,rfl,cH,c,ty,fr,hb,fun j v hj=>?_⟩,by simp,by simpa using Vn,ah lA (by decide)⟩,by simp,?_⟩,?_⟩
  ·intro r hr;obtain⟨i,_,rfl⟩:=List.mem_map.1 hr;exact dA i
  ·have:cap≤2^63-1:=ah lA (by decide);simp;omega
  ·simp
  ·have Fz:j<len*k:=by
    have h1:=(List.getElem?_eq_some_iff.1 hj).1;rw [tJ (k:=k) (by intro r hr;obtain⟨i,_,rfl⟩:=List.mem_map.1 hr;exact dA i)] at h1;simpa using h1
   have h2:=SA dA h0 (dG len) j (by simpa using Fz);rw [hj] at h2;have hd:j/k<len:=by rw [Nat.div_lt_iff_lt_mul h0];exact Fz
   have ahx:j % k<k:=Nat.mod_lt _ h0;have hr:(dG len)[j/k]! =j/k:=by simp [hd]
   rw [hr] at h2;have hv:(row (j/k))[j % k]? =some v:=by
    rw [bB (by rw [dA];exact ahx)];rw [getElem!_pos (row (j/k)) (j % k) (by rw [dA];exact ahx)] at h2;exact h2.symm
   have:=hc (j/k) hd (j % k) v hv;rw [Nat.mul_comm,Nat.div_add_mod] at this;exact this
  ·intro i r x hr hx;simp only [List.getElem?_map,Option.map_eq_some_iff] at hr hx;obtain⟨i1,h1,rfl⟩:=hr;obtain⟨i2,h2,rfl⟩:=hx;rw [h1] at h2;cases h2;have hi1:i1<len:=List.mem_range.1 (List.mem_of_getElem? h1);rw [afM i1 hi1];exact(hf i1 hi1).2.1
  ·have:=acM (fun i=>(f i).2) D (dG len) fun i hi=>(hf i (List.mem_range.1 hi)).2.2
   show((((dG len).map fun i=>(f i).2).map Wt.wt).sum+1)≤_
   simp only [Rows.uptoBulk];omega
theorem _root_.Go.dL.ic.ue {α:Type} {w:World} {X:XS} {k:Nat} {v:Value} {enc:α→List Value} {xs:List α} (h:ic w X k v (fun _ _ l x=>l=enc x) xs):Sl w X k v (xs.map enc):=by
 obtain⟨rows,h1,h2,h3⟩:=h;have:rows=xs.map enc:=by
  apply List.ext_getElem (by simpa using h2);intro i hi hj;have hx:i<xs.length:=by simpa using hj
  have:=h3 i rows[i] xs[i] (bB hi) (bB hx);simpa using this
 rw [←this];exact h1
def aaF (P:Program):List Field→Nat→Bool
 |[],_=>true
 |f::l,o=>f.offset==o&&aaF P l (o+P.cellsOf f.type)
def Vw (P:Program) (t:TypeId) (SC:List TypeId):Bool:=match P.underlying t with
 |some (.struct fs)=>fs.toList.map (·.type)==SC&&aaF P fs.toList 0&&P.cellsOf t==(SC.map P.cellsOf).sum
 |_=>false
def Vx {H:Type} (enc:TypeId×Value→H) (W:World) (n:Nat):List TypeId→List Value→List (DataW H)→Prop
 |[],cs,ds=>cs=[]∧ds=[]
 |t::ts,cs,ds=> ∃c1 c2 d ps JM,cs=c1++c2∧ds=d::JM∧oB enc pg W 0 (fun _=>true) true n t c1=some (d,ps)∧Vx enc W n ts c2 JM
theorem ZJ {H:Type} {enc:TypeId×Value→H} {W:World} {n:Nat} {cs:List Value} : ∀(l:List Field) (xs:List (DataW H×List MemPlace)) (o:Nat),aaF pg l o=true→cs.length=o+((l.map (·.type)).map pg.cellsOf).sum→
  xs.length=l.length→(∀(i:Nat) (f:Field),l[i]? =some f→oB enc pg W 0 (fun _=>true) true n f.type ((cs.drop f.offset).take (pg.cellsOf f.type))=xs[i]?)→Vx enc W n (l.map (·.type)) (cs.drop o) (xs.map (·.1))
 |[],[],o,_,hl,_,_=>⟨List.drop_of_length_le (by simp at hl;omega),rfl⟩
 |[],x::xs,o,_,_,hx,_=>by simp at hx
 |f::l,[],o,_,_,hx,_=>by simp at hx
 |f::l,x::xs,o,ho,hl,hx,h=>by
  simp only [aaF,aA,beq_iff_eq] at ho;obtain⟨s7,m7⟩:=ho;have h0:=h 0 f rfl;simp only [fP] at h0;refine⟨(cs.drop o).take (pg.cellsOf f.type),cs.drop (o+pg.cellsOf f.type),x.1,x.2,xs.map (·.1),?_,rfl,?_,?_⟩
  ·rw [←List.drop_drop,List.take_append_drop]
  ·rw [←s7];exact h0
  ·refine ZJ l xs _ m7 ?_ (by simpa using hx) fun i g hg=>?_
   ·simp only [bc,List.sum_cons] at hl;omega
   ·have:=h (i+1) g (by simpa using hg);simpa using this
theorem iU {t:TypeId} (SC:List TypeId) (lz:Vw pg t SC=true) {H:Type} {enc:TypeId×Value→H} {W:World} {fuel:Nat} {cs:List Value} {x:DataW H×List MemPlace}
  (h:oB enc pg W 0 (fun _=>true) true fuel t cs=some x): ∃n ds,x.1= .agg ds∧Vx enc W n SC cs ds:=by
 unfold Vw at lz;split at lz
 ·rename_i fs Bc;simp only [aA,beq_iff_eq] at lz;obtain⟨⟨rfl,h2⟩,h3⟩:=lz;obtain⟨xs,n,_,rfl,hl,hx,hf⟩:=DataW.trod_struct Bc h;refine⟨n,_,rfl,?_⟩;have:=ZJ (cs:=cs) (enc:=enc) (W:=W) (n:=n) fs.toList xs 0 h2 (by rw [hl,h3];simp) (by simpa using hx) fun i f hi=>hf i f (by simpa using hi);simpa using this
 ·cases lz
theorem b7 {α:Type} [Wt α] {t:TypeId} {ts:List TypeId} {rd:World→XS→List Value→α→Prop} (hr:l8 t rd) {H:Type} {enc:TypeId×Value→H} {W:World} {n:Nat} {cs:List Value} {ds:List (DataW H)} (h:Vx enc W n (t::ts) cs ds):
  ∃c1 c2 d JM a,cs=c1++c2∧ds=d::JM∧rd W (ba W) c1 a∧Wt.wt a≤Rows.uptoBulk d∧Vx enc W n ts c2 JM:=by
 obtain⟨c1,c2,d,ps,JM,rfl,rfl,h1,h2⟩:=h;obtain⟨a,h3,h4⟩:=hr H enc W n c1 _ h1;exact⟨c1,c2,d,JM,a,rfl,rfl,h3,h4,h2⟩
instance:Wt bE:=⟨fun x=>4,fun _=>by omega⟩
def EE (n:Int):Prop:= -9223372036854775808≤n∧n<9223372036854775808
instance (n:Int):Decidable (EE n):=by unfold EE;infer_instance
def GM (x:gf):Nat:=if EE x.jr∧EE x.mA∧EE x.sq then 4 else 1073741824
theorem QV (x:gf):4≤GM x:=by unfold GM;split<;>omega
theorem agn {x:gf} (h:GM x≤1048576):EE x.jr∧EE x.mA∧EE x.sq:=by
 unfold GM at h;split at h
 ·assumption
 ·omega
instance:Wt gf:=⟨GM,fun x=>ah (by decide) (QV x)⟩
abbrev ak2:World→XS→List Value→Int→Prop:=fun _ _ cs n=>cs=[I n]∧EE n
theorem Lt:l8 3 ak2:=fun H enc W fuel cs x h=>by
 have ht:pg.underlying 3=some (.int .i64):=by kernel_rfl
 obtain⟨n,e,e2,hw⟩:=Ao ht h;subst e;refine⟨n,⟨rfl,?_⟩,zr _⟩;simp only [Lit.wf,aA,decide_eq_true_eq] at hw;have h1:IntKind.i64.min= -9223372036854775808:=by kernel_rfl
 have h2:IntKind.i64.max=9223372036854775807:=by kernel_rfl
 rw [h1,h2] at hw;unfold EE;omega
abbrev ago:World→XS→List Value→bE→Prop:=fun _ _ cs x=>cs=x.l
abbrev ajL:World→XS→List Value→gf→Prop:=fun _ _ cs x=>cs=x.l
theorem mS:l8 3 rdI:=acL kQ
theorem GN:l8 40 ahv:=aeb kQ
theorem ZK:l8 4 rdB:=agm kQ
theorem FA:l8 9 rdS:=ahw kQ
theorem rH:l8 35 ago:=fun H enc W fuel cs x h=>by
 obtain⟨n,ds,hx,hf⟩:=iU [3,3,3] kQ h;obtain⟨_,_,_,_,a1,rfl,rfl,rfl,w1,hf⟩:=b7 mS hf;obtain⟨_,_,_,_,a2,rfl,rfl,rfl,w2,hf⟩:=b7 mS hf;obtain⟨_,_,_,_,a3,rfl,rfl,rfl,w3,rfl,rfl⟩:=b7 mS hf;refine⟨⟨a1,a2,a3⟩,rfl,?_⟩;rw [hx];simp only [Rows.uptoBulk,Rows.uptoBulkAll,Wt.wt] at*;omega
theorem Vy:l8 33 ajL:=fun H enc W fuel cs x h=>by
 obtain⟨n,ds,hx,hf⟩:=iU [3,3,3] kQ h;obtain⟨_,_,_,_,a1,rfl,rfl,⟨rfl,q1⟩,w1,hf⟩:=b7 Lt hf;obtain⟨_,_,_,_,a2,rfl,rfl,⟨rfl,q2⟩,w2,hf⟩:=b7 Lt hf;obtain⟨_,_,_,_,a3,rfl,rfl,⟨rfl,q3⟩,w3,rfl,rfl⟩:=b7 Lt hf;refine⟨⟨a1,a2,a3⟩,rfl,?_⟩;have e:Wt.wt (⟨a1,a2,a3⟩:gf)=4:=if_pos ⟨q1,q2,q3⟩;rw [hx,e];simp only [Rows.uptoBulk,Rows.uptoBulkAll,Wt.wt] at*;omega
instance:Wt eQ:=⟨fun x=>Wt.wt x.kind+Wt.wt x.num+Wt.wt x.text+1,fun _=>by omega⟩
theorem Pm:l8 51 (fun _ _ cs (x:eQ)=>cs=x.l):=fun H enc W fuel cs x h=>by
 obtain⟨n,ds,hx,hf⟩:=iU [3,40,9] kQ h;obtain⟨_,_,_,_,a0,rfl,rfl,rfl,w0,hf⟩:=b7 mS hf;obtain⟨_,_,_,_,a1,rfl,rfl,rfl,w1,hf⟩:=b7 GN hf;obtain⟨_,_,_,_,a2,rfl,rfl,rfl,w2,rfl,rfl⟩:=b7 FA hf;refine⟨⟨a0,a1,a2⟩,rfl,?_⟩;rw [hx];simp only [Rows.uptoBulk,Rows.uptoBulkAll,Wt.wt] at*;omega
instance:Wt KV:=⟨fun x=>Wt.wt x.key+Wt.wt x.val+1,fun _=>by omega⟩
theorem ajM:l8 53 (fun _ _ cs (x:KV)=>cs=x.l):=fun H enc W fuel cs x h=>by
 obtain⟨n,ds,hx,hf⟩:=iU [9,51] kQ h;obtain⟨_,_,_,_,a0,rfl,rfl,rfl,w0,hf⟩:=b7 FA hf;obtain⟨_,_,_,_,a1,rfl,rfl,rfl,w1,rfl,rfl⟩:=b7 Pm hf;refine⟨⟨a0,a1⟩,rfl,?_⟩;rw [hx];simp only [Rows.uptoBulk,Rows.uptoBulkAll,Wt.wt] at*;omega
theorem Vz:l8 23 (HX 4 (fun _ _ cs (x:KV)=>cs=x.l)):=oL kQ kQ (by decide) ajM
theorem ahy:l8 74 (fun _ _ cs (x:KV)=>cs=x.l):=fun H enc W fuel cs x h=>by
 obtain⟨n,ds,hx,hf⟩:=iU [9,51] kQ h;obtain⟨_,_,_,_,a0,rfl,rfl,rfl,w0,hf⟩:=b7 FA hf;obtain⟨_,_,_,_,a1,rfl,rfl,rfl,w1,rfl,rfl⟩:=b7 Pm hf;refine⟨⟨a0,a1⟩,rfl,?_⟩;rw [hx];simp only [Rows.uptoBulk,Rows.uptoBulkAll,Wt.wt] at*;omega
theorem agp:l8 54 (HX 4 (fun _ _ cs (x:KV)=>cs=x.l)):=oL kQ kQ (by decide) ahy
instance:Wt kZ:=⟨fun x=>Wt.wt x.aP+Wt.wt x.val+1,fun _=>by omega⟩
theorem ahz:l8 337 (fun _ _ cs (x:kZ)=>cs=x.l):=fun H enc W fuel cs x h=>by
 obtain⟨n,ds,hx,hf⟩:=iU [35,51] kQ h;obtain⟨_,_,_,_,a0,rfl,rfl,rfl,w0,hf⟩:=b7 rH hf;obtain⟨_,_,_,_,a1,rfl,rfl,rfl,w1,rfl,rfl⟩:=b7 Pm hf;refine⟨⟨a0,a1⟩,rfl,?_⟩;rw [hx];simp only [Rows.uptoBulk,Rows.uptoBulkAll,Wt.wt] at*;omega
theorem aaG:l8 36 (HX 1 rdS):=oL kQ kQ (by decide) FA
theorem agq:l8 286 (HX 6 (fun _ _ cs (x:kZ)=>cs=x.l)):=oL kQ kQ (by decide) ahz
theorem aaH:l8 22 (HX 1 rdI):=oL kQ kQ (by decide) mS
instance:Wt jl:=⟨fun x=>Wt.wt x.key+Wt.wt x.jV+1,fun _=>by omega⟩
theorem agr:l8 288 jl.rd:=fun H enc W fuel cs x h=>by
 obtain⟨n,ds,hx,hf⟩:=iU [9,286] kQ h;obtain⟨_,_,_,_,a0,rfl,rfl,rfl,w0,hf⟩:=b7 FA hf;obtain⟨_,_,_,_,a1,rfl,rfl,⟨v1,rfl,r1⟩,w1,rfl,rfl⟩:=b7 agq hf;refine⟨⟨a0,a1⟩,⟨v1,rfl,r1.ue⟩,?_⟩;rw [hx];simp only [Rows.uptoBulk,Rows.uptoBulkAll,Wt.wt] at*;omega
theorem aec:l8 43 (HX 2 jl.rd):=oL kQ kQ (by decide) agr
instance:Wt eG:=⟨fun x=>Wt.wt x.cB+Wt.wt x.aP+Wt.wt x.reads+Wt.wt x.writes+1,fun _=>by omega⟩
theorem ags:l8 229 eG.rd:=fun H enc W fuel cs x h=>by
 obtain⟨n,ds,hx,hf⟩:=iU [33,35,36,23] kQ h;obtain⟨_,_,_,_,a0,rfl,rfl,rfl,w0,hf⟩:=b7 Vy hf;obtain⟨_,_,_,_,a1,rfl,rfl,rfl,w1,hf⟩:=b7 rH hf;obtain⟨_,_,_,_,a2,rfl,rfl,⟨v2,rfl,r2⟩,w2,hf⟩:=b7 aaG hf;obtain⟨_,_,_,_,a3,rfl,rfl,⟨v3,rfl,r3⟩,w3,rfl,rfl⟩:=b7 Vz hf;refine⟨⟨a0,a1,a2,a3⟩,⟨v2,v3,rfl,r2.ue,r3.ue⟩,?_⟩;rw [hx];simp only [Rows.uptoBulk,Rows.uptoBulkAll,Wt.wt] at*;omega
theorem aed:l8 44 (HX 8 eG.rd):=oL kQ kQ (by decide) ags
instance:Wt l9:=⟨fun x=>Wt.wt x.id+Wt.wt x.ku+Wt.wt x.lo+Wt.wt x.hi+1,fun _=>by omega⟩
theorem acN:l8 42 (fun _ _ cs (x:l9)=>cs=x.l):=fun H enc W fuel cs x h=>by
 obtain⟨n,ds,hx,hf⟩:=iU [3,3,40,40] kQ h;obtain⟨_,_,_,_,a0,rfl,rfl,rfl,w0,hf⟩:=b7 mS hf;obtain⟨_,_,_,_,a1,rfl,rfl,rfl,w1,hf⟩:=b7 mS hf;obtain⟨_,_,_,_,a2,rfl,rfl,rfl,w2,hf⟩:=b7 GN hf;obtain⟨_,_,_,_,a3,rfl,rfl,rfl,w3,rfl,rfl⟩:=b7 GN hf;refine⟨⟨a0,a1,a2,a3⟩,rfl,?_⟩;rw [hx];simp only [Rows.uptoBulk,Rows.uptoBulkAll,Wt.wt] at*;omega
instance:Wt State:=⟨fun x=>Wt.wt x.range+Wt.wt x.floor+Wt.wt x.closed+Wt.wt x.ia+Wt.wt x.g8+1,fun _=>by omega⟩
theorem VA:l8 46 State.rd:=fun H enc W fuel cs x h=>by
 obtain⟨n,ds,hx,hf⟩:=iU [42,35,35,43,44] kQ h;obtain⟨_,_,_,_,a0,rfl,rfl,rfl,w0,hf⟩:=b7 acN hf;obtain⟨_,_,_,_,a1,rfl,rfl,rfl,w1,hf⟩:=b7 rH hf;obtain⟨_,_,_,_,a2,rfl,rfl,rfl,w2,hf⟩:=b7 rH hf;obtain⟨_,_,_,_,a3,rfl,rfl,⟨v3,rfl,r3⟩,w3,hf⟩:=b7 aec hf;obtain⟨_,_,_,_,a4,rfl,rfl,⟨v4,rfl,r4⟩,w4,rfl,rfl⟩:=b7 aed hf;refine⟨⟨a0,a1,a2,a3,a4⟩,⟨v3,v4,rfl,r3,r4⟩,?_⟩;rw [hx];simp only [Rows.uptoBulk,Rows.uptoBulkAll,Wt.wt] at*;omega
instance:Wt Rec:=⟨fun x=>Wt.wt x.kind+Wt.wt x.cB+Wt.wt x.aP+Wt.wt x.prev+Wt.wt x.jW+Wt.wt x.n+Wt.wt x.rq+Wt.wt x.reads+Wt.wt x.writes+Wt.wt x.parts+Wt.wt x.bF+Wt.wt x.state+1,fun _=>by omega⟩
theorem ahA:l8 117 Rec.rd:=fun H enc W fuel cs x h=>by
 obtain⟨n,ds,hx,hf⟩:=iU [3,33,35,35,4,3,40,36,23,22,54,46] kQ h;obtain⟨_,_,_,_,a0,rfl,rfl,rfl,w0,hf⟩:=b7 mS hf;obtain⟨_,_,_,_,a1,rfl,rfl,rfl,w1,hf⟩:=b7 Vy hf;obtain⟨_,_,_,_,a2,rfl,rfl,rfl,w2,hf⟩:=b7 rH hf;obtain⟨_,_,_,_,a3,rfl,rfl,rfl,w3,hf⟩:=b7 rH hf;obtain⟨_,_,_,_,a4,rfl,rfl,rfl,w4,hf⟩:=b7 ZK hf;obtain⟨_,_,_,_,a5,rfl,rfl,rfl,w5,hf⟩:=b7 mS hf;obtain⟨_,_,_,_,a6,rfl,rfl,rfl,w6,hf⟩:=b7 GN hf;obtain⟨_,_,_,_,a7,rfl,rfl,⟨v7,rfl,r7⟩,w7,hf⟩:=b7 aaG hf;obtain⟨_,_,_,_,a8,rfl,rfl,⟨v8,rfl,r8⟩,w8,hf⟩:=b7 Vz hf;obtain⟨_,_,_,_,a9,rfl,rfl,⟨v9,rfl,r9⟩,w9,hf⟩:=b7 aaH hf;obtain⟨_,_,_,_,a10,rfl,rfl,⟨v10,rfl,r10⟩,qz,hf⟩:=b7 agp hf;obtain⟨_,_,_,_,a11,rfl,rfl,⟨vh,vp,rfl,ak3,ak4⟩,HY,rfl,rfl⟩:=b7 VA hf;refine⟨⟨a0,a1,a2,a3,a4,a5,a6,a7,a8,a9,a10,a11⟩,⟨v7,v8,v9,v10,vh,vp,rfl,r7.ue,r8.ue,r9.ue,r10.ue,ak3,ak4⟩,?_⟩;rw [hx];simp only [Rows.uptoBulk,Rows.uptoBulkAll,Wt.wt] at*;omega
end Go.Proofs.YtpdkoaklobnegaaGreat
