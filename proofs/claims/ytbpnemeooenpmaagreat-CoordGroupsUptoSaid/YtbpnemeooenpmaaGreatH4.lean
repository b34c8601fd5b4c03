/-
 Part 4 of the proof: what the last text leans on.
-/
import Derived.Laws.Pointers
import Derived.Shelf.SlSortCmp.WholeK
import Derived.Shelf.SlSortCmp.NoneTotal
import Derived.Recover
import Derived.Laws.MakeOwn
import Derived.Laws.BytesArg
import Derived.Laws.Concat
import Derived.Lib.Overlaps
import Derived.Lib.AppendZerosOnto
import Derived.Laws.Externs
import Derived.Laws.Slices
import Derived.Laws.IdiomStrings
import Derived.KernelRfl
import Derived.Test.YtbpnemeooenpmaaGreatProg
import Derived.Test.YtbpnemeooenpmaaGreatH3
open Go.Value renaming cells → aa, agg → ai, ownBlock → gk, int → aA, tuple → aq
open Option.some renaming injEq → az
open Array renaming toList → ad, length_toList → ec, ext' → py, getD_eq_getD_getElem? → gw, size_append → rp, toList_append → oU, toList_map → jm, replicate → dH, getElem?_setIfInBounds → dQ, getElem?_append → iM, getElem?_replicate → hU
open Go.Instr renaming extract → aD, sliceAt → gf, alloc → xX, makeFunc → cp, panic → xY, makeSlice → yN, buildSlice → gF, makeInterface → jt
open Nat renaming le_refl → bg, le_trans → ah, lt_of_lt_of_le → aH, zero_add → eZ, add_mul → pz, add_zero → wo, zero_le → aG, mul_le_mul_right → oy
open Go.Sem renaming run_bind → bG, run_pure → bW
open Go.Result renaming andThen_ok → aZ
open List renaming all → ao, getElem?_map → dO, length → aj, length_append → av, mem_of_getElem? → cw, getElem?_eq_getElem → bE, append_assoc → aK, size_toArray → iR, take_left → mF, length_drop → k8, getD → jR, getElem_mem → nw, eq_nil_of_length_eq_zero → fD, length_take → bU, flatten_append → oV, drop_zero → jb, getElem?_drop → qn, mem_cons_of_mem → bA, flatten_cons → iQ, all_eq_true → jk, getElem?_zip_eq_some → lN, length_map → aI, nil_append → dG, getElem?_take → jN, getElem?_eq_none → iL, getElem_inj → xZ, ext_getElem? → wU, getElem?_eq_none_iff → qu, getElem?_of_mem → tM
open Option renaming map_some → bt, bind_some → cU, isNone_iff_eq_none → fA
open Go.Builtin renaming append_ → ej, zeroCells → ia, lenOf → mZ, min_ → j8, clear_ → tN, firstCells → vj, nextslicecap → tO
open Go.Region renaming wanted → bQ
open Prod.mk renaming injEq → cy
open Bool renaming and_eq_true → aW, not_eq_true' → cu
open Go.Oper renaming wp → ib, upon_value → sF, upon_defer → sG
open Go.Addr renaming add_lit → oz
open Go.Act renaming eval → fH
open Go.Op renaming unary → aY
open Go.UnOp renaming not → br
open Go.Deferred renaming ofValue → im
open Go.World renaming freeze → rP
open Go.Code renaming seq → ya, region → yb
open Go.Sort renaming grow → wq
open Go.Obj.cells renaming injEq → lT
open Go.Code.seq renaming injEq → Aa
set_option linter.unusedVariables false
set_option linter.unusedSimpArgs false
namespace Go.aR
open Go.Sort Go.Shelf Go.RowKit Go.Proofs
variable {P : Program} {ρ : Ren} {α : Type}
def yc (W w':World):Prop:= ∃q os,w'=wq (W.drewN q) os
theorem yc.refl (W:World):yc W W:=⟨0,#[],by rw [grow_empty];rfl⟩
theorem yc.alloc {W w:World} (h:yc W w) (o:Obj):yc W (w.alloc o):=by
 obtain⟨q,os,rfl⟩:=h;exact⟨q,os.push o,by simp [World.alloc,wq]⟩
theorem yc.trans {W w w':World} (h:yc W w) (k:yc w w'):yc W w':=by
 obtain⟨q,os,rfl⟩:=h;obtain⟨q',os',rfl⟩:=k;exact⟨q+q',os++os',by simp [World.drewN,wq,Nat.add_assoc]⟩
theorem yc.row {W w':World} (h:yc W w') {g:Nat} {o:Obj} (hg:W.heap[g]? =some o):w'.heap[g]? =some o:=by
 obtain⟨q,os,rfl⟩:=h
 show(W.heap++os)[g]? =some o
 rw [Array.getElem?_append_left (Array.getElem?_eq_some_iff.1 hg).1,hg]
end Go.aR
namespace Go.aR
variable {P : Program} {R : Ending → World → Prop} {X : XS} {w : World} {m : Bool}
section
variable {t ty e k bytes lo : Nat} {v x s : Value} {rows dL : List (List Value)} {row : List Value} {N : Value → World → XS → Prop}
theorem agJ (own:Own w X lo e k v rows) (hX: ∀k,X k→k<w.heap.size) (fp:lo≤w.heap.size) (he:mE P t e k bytes=true) (hx:x.cells.toList=row) (hk:(row.length==k)=true)
  (h1:row.all one=true) (hb:(rows.length+1)*bytes≤140737488355328) (hl:rows.length+1≤2^63-1)
  (n: ∀v' w' X',ez (cZ v) X w X' w'→Own w' X' lo e k v' (rows++[row])→(v'.ownBlock=v.ownBlock∨ ∃g,v'.ownBlock=some g∧w.heap.size≤g)→N v' w' X'):
  eV P R X w m (fC t e k 1 #[(0,x)]) fun s w1 X1=>eV P R X1 w1 true (e6 t e k bytes ty v s) N:=by
 obtain⟨hu,kE,pq,z,hi,hz,r9⟩:=jT he;have af:row.length=k:=by simpa using hk
 have HH:x.cells.size=k:=by rw [←af,←hx,ec]
 refine zj (rows:=[row]) x.cells z hX hu hz zQ zQ ?_ (by simpa using af) rfl (by simpa using hx) fun s w1 X1 au Pg=>?_
 ·simp only [Nat.one_mul];exact Cz HH (by simp)
 ·have Qv:lo≤w1.heap.size:=ah fp au.kp.size;refine z7 (dL:=[row]) z hu hi r9 kE au.has Qv (own.since au) Pg.sl (by simpa using h1) (by simpa using hb) (by simpa using hl) fun v2 w2 X2 hg ho ef=>?_;refine n v2 w2 X2 ((ez.rM au (cZ v)).trans (hg.fL.mono fun k _ hk=>hk.symm)) ho ?_;rcases ef with h|⟨g,h,dV⟩
  ·exact .inl h
  ·exact .inr ⟨g,h,ah au.kp.size dV⟩
theorem BI (own:Own w X lo e k v rows) (hX: ∀k,X k→k<w.heap.size) (fp:lo≤w.heap.size) (he:mE P t e k bytes=true) (src:Sl w X k s dL) (h1: ∀r∈dL,∀u∈r,one u=true)
  (hb:(rows.length+dL.length)*bytes≤140737488355328) (hl:rows.length+dL.length≤2^63-1)
  (n: ∀v' w' X',ez (cZ v) X w X' w'→Own w' X' lo e k v' (rows++dL)→(v'.ownBlock=v.ownBlock∨ ∃g,v'.ownBlock=some g∧w.heap.size≤g)→N v' w' X'):
  eV P R X w true (e6 t e k bytes ty v s) N:=by
 obtain⟨hu,kE,pq,z,hi,hz,r9⟩:=jT he;refine z7 (dL:=dL) z hu hi r9 kE hX fp own src h1 hb hl fun v2 w2 X2 hg ho ef=>?_;exact n v2 w2 X2 (hg.fL.mono fun k _ hk=>hk.symm) ho ef
end
def uu (s:ByteArray):List Value:=s.data.toList.map fun b=>.int .u8 b.toNat
theorem K8 (s:ByteArray):(uu s).length=s.size:=by unfold uu;rw [aI,ec];rfl
theorem JO (s:ByteArray):(vj 1 s.size (.string s))=(pure (uu s).toArray:Sem (Array Value)):=by
 have hx:(s.extract 0 s.size)=s:=by
  apply ByteArray.ext;simp [ByteArray.data_extract]
 show(pure ((s.extract 0 s.size).data.map fun b=>aA .u8 b.toNat):Sem (Array Value))=_
 rw [hx]
 congr 1
 apply py;simp [uu]
theorem H7 (t u ty e:TypeId) (i:TypeInfo) (ht:P.underlying t=some (.slice e)) (hu:P.underlying u=some .string) (hi:P.info? e=some i) (h1:i.size=1)
  (g js rq:Nat) (cur:Array Value) (hg:w.heap[g]? =some (.cells cur e (0,0))) (s:ByteArray) (qy:js+s.size≤rq) (Ax:js+s.size≤cur.size):
  (ej #[t,u] ty #[.slice (some ⟨g,0,none⟩) js rq,.string s]).run P w=
   .ok (.slice (some ⟨g,0,none⟩) (js+s.size) rq) (w.setRow g (cur.toList.take js++uu s++cur.toList.drop (js+s.size)).toArray):=by
 have ed:=run_storeCells_at P g js e (uu s) 0 cur w hg (by rw [K8];simpa using Ax) (fun v hv=>by
  unfold uu at hv;obtain⟨b,_,rfl⟩:=List.mem_map.1 hv;rfl)
 simp only [wo,K8] at ed;simp [ej,run_underlying ht,run_underlying hu,sizeOf,typeInfo,hi,mZ,qy,h1,JO,oz,ed]
theorem H8 (t u ty e:TypeId) (i:TypeInfo) (z:Value) (ht:P.underlying t=some (.slice e)) (hu:P.underlying u=some .string) (hi:P.info? e=some i) (hz:i.zero=some z) (h1:i.size=1)
  (b:Addr) (js rq:Nat) (aaI:List Value) (fp:aaI.length=js) (holds: ∀j v,aaI[j]? =some v→w.cell? (b.add j)=some v) (s:ByteArray)
  (hg:rq<js+s.size) (h63:((js+s.size:Nat):Int)≤9223372036854775807) (Ax:tO (js+s.size) rq*i.bytes≤281474976710656):
  (ej #[t,u] ty #[.slice (some b) js rq,.string s]).run P w=
   .ok (.slice (some ⟨w.heap.size,0,none⟩) (js+s.size) (grownCap w (js+s.size) rq e))
    (w.drew.alloc (.cells (aaI.toArray++(uu s).toArray++ia z.cells (grownCap w (js+s.size) rq e-(js+s.size))) e)):=by
 have hn: ¬(js+s.size≤rq):=by omega
 have alV: ¬(9223372036854775807<((js:Int)+(s.size:Int))):=by omega
 have alW: ¬(281474976710656<tO (js+s.size) rq*i.bytes):=by omega
 have hfo:=run_firstCells_some (P:=P) w.drew 1 js b js rq aaI zQ (by simpa using holds);simp [ej,run_underlying ht,run_underlying hu,sizeOf,typeInfo,zeroValue,hi,hz,mZ,hn,alV,alW,Question.forced,JO,h1,hfo,newRow,grownCap]
 congr 2
 apply py;simp [aK]
theorem JP (base:Nat) (t u ty e:TypeId) (i:TypeInfo) (z:Value) (bytes:Nat) (ht:P.underlying t=some (.slice e)) (hu:P.underlying u=some .string) (hi:P.info? e=some i) (hz:i.zero=some z)
  (h1:i.size=1) (hby:i.bytes=bytes) (r9:z.cells.size=1) (v:Value) (n:Nat) (xs:List Value) (sj:w.ownsRow base e 1 v n xs) (s:ByteArray)
  (h63:n+s.size≤maxLen) (acy:(n+s.size)*bytes≤140737488355328) (ZF:base≤w.heap.size):
  ∃v' w',(ej #[t,u] ty #[v,.string s]).run P w= .ok v' w'∧w'.ownsRow base e 1 v' (n+s.size) (xs++uu s)∧w.grownBy w' v.ownBlock∧(v'.ownBlock=v.ownBlock∨v'.ownBlock=some w.heap.size):=by
 subst hby;have Pd:n+s.size≤9223372036854775807:=by simp only [maxLen] at h63;omega
 have hl:=K8 s;have hxl:xs.length=n:=by simpa using sj.1
 have hlen:(xs++uu s).length=(n+s.size)*1:=by rw [av,hxl,hl];omega
 have grown: ∀(aV:Nat),aV<n+s.size→ ∀(row:Option Nat),
   (w.drew.alloc (.cells (xs.toArray++(uu s).toArray++ia z.cells (grownCap w (n+s.size) aV e-(n+s.size))) e)).ownsRow base e 1
    (.slice (some ⟨w.heap.size,0,none⟩) (n+s.size) (grownCap w (n+s.size) aV e)) (n+s.size) (xs++uu s)∧
   w.grownBy (w.drew.alloc (.cells (xs.toArray++(uu s).toArray++ia z.cells (grownCap w (n+s.size) aV e-(n+s.size))) e)) row:=by
  intro aV ho row;have dV:=grownCap_ge w (n+s.size) aV e;have lG:grownCap w (n+s.size) aV e≤maxLen:=grownCap_le_maxLen w (n+s.size) aV e h63;refine⟨⟨hlen,.inr ⟨w.heap.size,_,_,rfl,ZF,heap_alloc_new w.drew _,dV,lG,?_,?_⟩⟩,⟨rfl,rfl,rfl,by simp,fun k hk _=>by first|exact heap_alloc_old w.drew _ k hk|exact heap_alloc_old w.drew _ hk⟩⟩
  ·simp only [rp,iR,size_zeroCells,r9,hxl,hl];omega
  ·simp only [oU,aK];rw [←aK,←hlen];exact mF
 rcases sj.2 with⟨rfl,rfl⟩|⟨g,cap,cur,rfl,hbg,hg,xx,lG,jz,La⟩
 ·have hx:xs=[]:=fD hxl;subst hx;by_cases hm:s.size=0
  ·have hn:uu s=[]:=fD (by rw [hl,hm]);refine⟨.slice none 0 0,w,?_,by rw [hm,hn];exact World.ownsRow_nil w base e 1,⟨rfl,rfl,rfl,bg _,fun _ _ _=>rfl⟩,Or.inl rfl⟩;have hf:=JO s;rw [hm,hn] at hf;simp [ej,run_underlying ht,run_underlying hu,sizeOf,typeInfo,hi,mZ,hm,h1,hf]
  ·have hr:=run_append_nil_string (P:=P) w t u ty e i z ht hu hi hz s zQ zQ (by have hb:=acy;simp only [eZ] at hb;omega);have yF:=grown 0 zQ (gk (.slice none 0 0));have he:(s.data.map fun b:UInt8=>aA .u8 b.toNat)=(uu s).toArray:=by
    apply py;simp [uu]
   rw [he] at hr;simp only [eZ,dG,Array.empty_append] at yF⊢;exact⟨_,_,hr,yF.1,yF.2,Or.inr rfl⟩
 ·rw [Nat.mul_one] at jz La;by_cases qy:n+s.size≤cap
  ·have Ax:n+s.size≤cur.size:=by rw [jz];exact qy
   have hr:=H7 (P:=P) (w:=w) t u ty e i ht hu hi h1 g n cap cur hg s qy Ax;refine⟨_,_,hr,⟨hlen,.inr ⟨g,cap,_,rfl,hbg,setRow_heap w g cur _ e _ hg,qy,lG,?_,?_⟩⟩,⟨rfl,rfl,rfl,by simp,fun k _ hk=>setRow_other w g k _ (fun e=>hk (by simp [gk,e]))⟩,Or.inl rfl⟩
   ·simp only [iR,av,bU,k8,ec,hl];omega
   ·rw [La,←hlen];exact mF
  ·have holds: ∀j u,xs[j]? =some u→w.cell? ((⟨g,0,none⟩:Addr).add j)=some u:=sj.cells (g:=g) rfl;have hr:=H8 (P:=P) (w:=w) t u ty e i z ht hu hi hz h1 ⟨g,0,none⟩ n cap xs hxl holds s zQ zQ (growslice_fits zQ acy);have yF:=grown cap zQ (gk (.slice (some ⟨g,0,none⟩) n cap));exact⟨_,_,hr,yF.1,yF.2,Or.inr rfl⟩
theorem aiM {t u ty e bytes lo:Nat} {v:Value} {s:ByteArray} {rows:List (List Value)} {N:Value→World→XS→Prop} (own:Own w X lo e 1 v rows) (hX: ∀k,X k→k<w.heap.size) (fp:lo≤w.heap.size)
  (he:mE P t e 1 bytes=true) (hu:P.underlying u=some .string) (hb:(rows.length+s.size)*bytes≤140737488355328) (hl:rows.length+s.size≤2^63-1)
  (n: ∀v' w' X',ez (cZ v) X w X' w'→Own w' X' lo e 1 v' (rows++(uu s).map fun x=>[x])→(v'.ownBlock=v.ownBlock∨ ∃g,v'.ownBlock=some g∧w.heap.size≤g)→N v' w' X'):
  eV P R X w true (ej #[t,u] ty #[v,.string s]) N:=by
 obtain⟨ht,kE,pq,z,hi,hz,r9⟩:=jT he;intro wa hk;have own:=own.kp hk;cases hq:P.info? e with
 |none=>simp [hq] at hi
 |some ie=>
  cases lX:ie.zero with
  |none=>simp [hq,lX] at hi
  |some z'=>
   simp only [hq,lX,cU,bt,az,cy] at hi;obtain⟨h1,rfl,rfl⟩:=hi;unfold iF;obtain⟨v',w',hr,HG,hg,ef⟩:=JP (P:=P) (w:=wa) lo t u ty e ie z' ie.bytes ht hu hq lX h1 rfl r9 v rows.length rows.flatten own.2.1 s hl hb (ah fp hk.size);simp only [vS,bG,hr,aZ,bW];have iP:((uu s).map fun x=>[x]).flatten=uu s:=by
    induction uu s with
    |nil=>rfl
    |cons a l ih=>simp [ih]
   refine⟨⟨hg.os,hg.tape,hg.output,hg.size,fun k tv nB=>hg.block k tv fun e=>nB (own.2.2 k e.symm)⟩,n _ _ _ ?_ ⟨?_,?_,?_⟩ ?_⟩
   ·exact⟨hg.os.trans hk.os,hg.tape.trans hk.tape,hg.output.trans hk.output,ah hk.size hg.size,
     fun k hx du=>(hg.block k (aH (hX k hx) hk.size) fun e=>du e.symm).trans (hk.block k hx),fun k h=>.inl h,
     fun k h=>h.elim (fun h=>aH (hX k h) (ah hk.size hg.size)) (fun h=>h.2)⟩
   ·intro r hr;rcases List.mem_append.1 hr with h|h
    ·exact own.1 r h
    ·obtain⟨x,_,rfl⟩:=List.mem_map.1 h;rfl
   ·rw [av,aI,K8,oV,iP];exact HG
   ·intro g Hn;rcases ef with h|h
    ·exact .inl (own.2.2 g (h▸Hn))
    ·rw [Hn] at h;cases h;exact .inr ⟨bg _,(HG.lt _ Hn).2⟩
   ·rcases ef with h|h
    ·exact .inl h
    ·exact .inr ⟨_,h,hk.size⟩
theorem CA {f:FuncId} {a b:Value} {N:Value→World→XS→Prop} (h:eC P R X w m f #[a,b] N):eF P R X w m (.func (.func f) #[a] #[]) #[b] N:=by
 have e: ∀wa,(FE (.func (.func f) #[a] #[]) #[b]).run P wa=(callFunc f #[a,b]).run P wa:=by
  intro wa;simp [FE,im,invoke]
 intro wa hk;have:=h wa hk;rw [e wa];exact this
end Go.aR
set_option linter.unusedVariables false
set_option linter.unusedSimpArgs false
namespace Go.aR
variable {P : Program} {R : Ending → World → Prop} {X : XS} {w : World} {m : Bool}
def Ow (w:World) (X:XS) (e k:Nat) (v:Value) (rows:List (List Value)):Prop:=
 (∀r∈rows,r.length=k)∧((v= .slice none 0 0∧rows=[])∨ ∃g off cap cur,v= .slice (some ⟨g,off,none⟩) rows.length cap∧X g∧w.heap[g]? =some (.cells cur e (0,0))∧
  rows.length≤cap∧cap≤maxLen∧off+cap*k≤cur.size∧(cur.toList.drop off).take (rows.length*k)=rows.flatten)
theorem Ow.nil (w:World) (X:XS) (e k:Nat):Ow w X e k (.slice none 0 0) []:=⟨by simp,.inl ⟨rfl,rfl⟩⟩
theorem Own.ow {lo e k:Nat} {v:Value} {rows:List (List Value)} (h:Own w X lo e k v rows):Ow w X e k v rows:=by
 obtain⟨h1,h2,h3⟩:=h;refine⟨h1,?_⟩;rcases h2.2 with⟨rfl,hn⟩|⟨g,cap,cur,rfl,hb,hg,xx,lG,jz,ht⟩
 ·exact .inl ⟨rfl,fD hn⟩
 ·exact .inr ⟨g,0,cap,cur,rfl,h3 g rfl,hg,xx,lG,by omega,by rw [jb];exact ht⟩
theorem Ow.sl {e k:Nat} {v:Value} {rows:List (List Value)} (h:Ow w X e k v rows):Sl w X k v rows:=by
 obtain⟨h1,⟨rfl,rfl⟩|⟨g,off,cap,cur,rfl,hx,hg,xx,lG,jz,ht⟩⟩:=h
 ·exact Sl.nil w X k
 ·have hm:cap≤2^63-1:=lG;refine⟨h1,ah xx hm,_,cap,rfl,fun _=>⟨g,off,rfl,hx,cur,e,(0,0),hg,fun j v hj=>?_⟩,by simp,xx,hm⟩;rw [←ht,jN,qn] at hj;split at hj
  ·simpa using hj
  ·cases hj
theorem Ow.one {e k:Nat} {v:Value} {rows:List (List Value)} (h:Ow w X e k v rows):one v=true:=h.sl.one
theorem Ow.mono {e k:Nat} {v:Value} {rows:List (List Value)} {Y:XS} (h:Ow w X e k v rows) (hs: ∀k,X k→Y k):Ow w Y e k v rows:=by
 obtain⟨h1,h|⟨g,off,cap,cur,hv,hx,hr⟩⟩:=h
 ·exact⟨h1,.inl h⟩
 ·exact⟨h1,.inr ⟨g,off,cap,cur,hv,hs _ hx,hr⟩⟩
theorem Ow.mv {e k:Nat} {v:Value} {rows:List (List Value)} {w':World} {Y:XS} (h:Ow w X e k v rows) (m:Mv X w Y w'):Ow w' Y e k v rows:=by
 obtain⟨h1,h|⟨g,off,cap,cur,hv,hx,hg,hr⟩⟩:=h
 ·exact⟨h1,.inl h⟩
 ·obtain⟨m1,m2⟩:=m g hx (Array.getElem?_eq_some_iff.1 hg).1;exact⟨h1,.inr ⟨g,off,cap,cur,hv,m1,by rw [m2];exact hg,hr⟩⟩
theorem Ow.kp {e k:Nat} {v:Value} {rows:List (List Value)} {w':World} (h:Ow w X e k v rows) (hk:Kp X w w'):Ow w' X e k v rows:=by
 obtain⟨h1,h|⟨g,off,cap,cur,hv,hx,hg,hr⟩⟩:=h
 ·exact⟨h1,.inl h⟩
 ·exact⟨h1,.inr ⟨g,off,cap,cur,hv,hx,by rw [hk.block g hx];exact hg,hr⟩⟩
theorem Ow.bK {e k:Nat} {v:Value} {rows:List (List Value)} (h:Ow w X e k v rows) {g:Nat} (hg:v.ownBlock=some g):X g∧g<w.heap.size:=by
 obtain⟨h1,⟨rfl,_⟩|⟨g',off,cap,cur,rfl,hx,hb,hr⟩⟩:=h
 ·cases hg
 ·simp only [gk,az] at hg;subst hg;exact⟨hx,(Array.getElem?_eq_some_iff.1 hb).1⟩
theorem Ow.tag {e k:Nat} {v:Value} {rows:List (List Value)} (h:Ow w X e k v rows) {g:Nat} (hg:v.ownBlock=some g): ∃cs:List Value,w.heap[g]? =some (.cells cs.toArray e (0,0)):=by
 obtain⟨h1,⟨rfl,_⟩|⟨g',off,cap,cur,rfl,hx,hb,hr⟩⟩:=h
 ·cases hg
 ·simp only [gk,az] at hg;subst hg;exact⟨cur.toList,by simpa using hb⟩
theorem Ow.eA {Y:XS} {e e' k g:Nat} {v:Value} {rows:List (List Value)} {cs:List Value} (h:Ow w X e k v rows) (hr:a7 w Y g cs e') (he:decide (e≠e')=true):v.ownBlock≠some g:=fun hg=>by
 obtain⟨c,h1⟩:=h.tag hg;rw [hr.2] at h1;simp only [az,lT] at h1;exact of_decide_eq_true he h1.2.1.symm
theorem Ow.fL {F X':XS} {w':World} {e k:Nat} {v:Value} {rows:List (List Value)} (h:Ow w X e k v rows) (c:ez F X w X' w') (hd: ∀g,v.ownBlock=some g→ ¬F g):Ow w' X' e k v rows:=by
 obtain⟨h1,h|⟨g,off,cap,cur,rfl,hx,hg,hr⟩⟩:=h
 ·exact⟨h1,.inl h⟩
 ·exact⟨h1,.inr ⟨g,off,cap,cur,rfl,c.sub g hx,by rw [c.block g hx (hd g rfl)];exact hg,hr⟩⟩
theorem Ow.tight {e k:Nat} {v:Value} {rows:List (List Value)} (h:Ow w X e k v rows):Ow w (cZ v) e k v rows:=by
 obtain⟨h1,h|⟨g,off,cap,cur,rfl,hx,hr⟩⟩:=h
 ·exact⟨h1,.inl h⟩
 ·exact⟨h1,.inr ⟨g,off,cap,cur,rfl,rfl,hr⟩⟩
theorem wu (t ty e:TypeId) (i:TypeInfo) (ht:P.underlying t=some (.slice e)) (hi:P.info? e=some i)
  (g off js rq:Nat) (cur:Array Value) (hg:w.heap[g]? =some (.cells cur e (0,0)))
  (a:Addr) (m c:Nat) (news:List Value) (hl:news.length=m*i.size) (aka: ∀j u,news[j]? =some u→w.cell? (a.add j)=some u) (h1: ∀u∈news,u.oneCell'=true)
  (qy:js+m≤rq) (Ax:off+js*i.size+news.length≤cur.size):
  (ej #[t,t] ty #[.slice (some ⟨g,off,none⟩) js rq,.slice (some a) m c]).run P w=
   .ok (.slice (some ⟨g,off,none⟩) (js+m) rq) (w.setRow g (cur.toList.take (off+js*i.size)++news++cur.toList.drop (off+js*i.size+news.length)).toArray):=by
 have hf:=run_firstCells_some (P:=P) w i.size m a m c news hl aka;have ed:=run_storeCells_at P g (off+js*i.size) e news 0 cur w hg (by simpa using Ax) h1;simp only [wo] at ed;simp [ej,run_underlying ht,sizeOf,typeInfo,hi,mZ,qy,hf,oz,ed]
theorem wv (t ty e:TypeId) (i:TypeInfo) (ht:P.underlying t=some (.slice e)) (hi:P.info? e=some i)
  (b:Addr) (js rq:Nat) (qy:js≤rq):
  (ej #[t,t] ty #[.slice (some b) js rq,.slice none 0 0]).run P w= .ok (.slice (some b) js rq) w:=by
 simp [ej,run_underlying ht,sizeOf,typeInfo,hi,mZ,qy,vj,storeCells]
theorem Ph {t ty e k bytes:Nat} {v s:Value} {rows dL:List (List Value)} {N:Value→World→XS→Prop}
  (he:mE P t e k bytes=true)
  (hX: ∀k,X k→k<w.heap.size) (own:Ow w X e k v rows) (src:Sl w X k s dL) (h1: ∀r∈dL,∀u∈r,one u=true)
  (hb:(rows.length+dL.length)*bytes≤140737488355328) (hl:rows.length+dL.length≤2^63-1)
  (n: ∀v' w' X',ez (cZ v) X w X' w'→Ow w' X' e k v' (rows++dL)→(v'.ownBlock=v.ownBlock∨ ∃g,v'.ownBlock=some g∧w.heap.size≤g)→N v' w' X'):
  eV P R X w true (e6 t e k bytes ty v s) N:=by
 obtain⟨hu,kE,pq,z,hi,AN,r9⟩:=jT he;obtain⟨uZ,⟨rfl,rfl⟩|⟨g,off,cap,cur,rfl,hx,hg,xx,lG,jz,tt⟩⟩:=own
 ·exact z7 (rows:=[]) (dL:=dL) z hu hi r9 kE hX (aG _) (Own.nil w X 0 e k) src h1 hb hl fun v2 w2 X2 hg ho ef=>
   n v2 w2 X2 (hg.fL.mono fun k _ hk=>hk.symm) ho.ow ef
 ·intro wa hk;have ji:wa.heap[g]? =some (.cells cur e (0,0)):=by rw [hk.block g hx];exact hg
  have src:=src.kp hk;cases hq:P.info? e with
  |none=>simp [hq] at hi
  |some ie=>
   cases lX:ie.zero with
   |none=>simp [hq,lX] at hi
   |some z'=>
    simp only [hq,lX,cU,bt,az,cy] at hi;obtain⟨rfl,rfl,rfl⟩:=hi;unfold e6 iF;rcases src.src with⟨rfl,rfl⟩|⟨a,c,rfl,zC⟩
    ·have hr:=wv (P:=P) (w:=wa) t ty e ie hu hq ⟨g,off,none⟩ rows.length cap xx;simp only [vS,bG,hr,aZ,bW];have E6:=Ext.refl wa;have hs:=ak.eE hX hk E6;refine⟨Step.eE E6,n _ _ _ (ez.rM hs _) ?_ (.inl rfl)⟩;rw [List.append_nil];exact⟨uZ,.inr ⟨g,off,cap,cur,rfl,.inl hx,ji,xx,lG,jz,tt⟩⟩
    ·have oH:dL.flatten.length=dL.length*ie.size:=qi src.1;have TH:rows.flatten.length=rows.length*ie.size:=qi uZ;have tG: ∀u∈dL.flatten,u.oneCell'=true:=fun u hu=>by
      obtain⟨r,hr,hur⟩:=List.mem_flatten.1 hu;rw [←EB];exact h1 r hr u hur
     have zx: ∀r∈rows++dL,r.length=ie.size:=fun r hr=>by
      rcases List.mem_append.1 hr with h|h
      ·exact uZ r h
      ·exact src.1 r h
     have afD:rows.length+dL.length≤maxLen:=hl;by_cases qy:rows.length+dL.length≤cap
     ·have hmul:(rows.length+dL.length)*ie.size≤cap*ie.size:=oy _ qy;rw [pz] at hmul;have hr:=wu (P:=P) (w:=wa) t ty e ie hu hq g off rows.length cap cur ji a dL.length c dL.flatten oH zC tG qy zQ;simp only [vS,bG,hr,aZ,bW];have JQ: ∀k,k≠g→(wa.setRow g (cur.toList.take (off+rows.length*ie.size)++dL.flatten++cur.toList.drop (off+rows.length*ie.size+dL.flatten.length)).toArray).heap[k]? =wa.heap[k]? :=fun k hk=>setRow_other wa g k _ hk;refine⟨⟨rfl,rfl,rfl,by simp,fun k tv nB=>JQ k fun e=>nB (e▸hx)⟩,n _ _ _ ?_ ⟨zx,.inr ⟨g,off,cap,_,by rw [av],.inl hx,setRow_heap wa g cur _ e _ ji,by rw [av];exact qy,lG,?_,?_⟩⟩ (.inl rfl)⟩
      ·exact⟨hk.os,hk.tape,hk.output,by simpa using hk.size,fun k E6 du=>(JQ k fun e=>du (by rw [e];rfl)).trans (hk.block k E6),fun k h=>.inl h,
        fun k h=>h.elim (fun h=>by have:=hX k h;have:=hk.size;simp;omega) (fun h=>h.2)⟩
      ·simp only [iR,av,bU,k8,ec];omega
      ·have fK:off≤cur.toList.length:=by rw [ec (xs:=cur)];omega
       have e1:(cur.toList.take (off+rows.length*ie.size)).drop off=rows.flatten:=by
        rw [List.drop_take,show off+rows.length*ie.size-off=rows.length*ie.size by omega,tt]
       have RO:(cur.toList.take (off+rows.length*ie.size)).length=off+rows.length*ie.size:=by rw [bU,ec (xs:=cur)];omega
       rw [aK,List.drop_append_of_le_length zQ,e1,av,pz,oV,←aK,←TH,←oH,←av];exact mF
     ·have holds: ∀j u,rows.flatten[j]? =some u→wa.cell? ((⟨g,off,none⟩:Addr).add j)=some u:=fun j u hj=>by
       rw [←tt,jN,qn] at hj;split at hj
       ·rw [oz];simp only [World.cell?,ji];simpa using hj
       ·cases hj
      have hr:=run_append_grow (P:=P) wa t ty e ie z' hu hq lX ⟨g,off,none⟩ rows.length cap rows.flatten TH holds a dL.length c dL.flatten oH zC zQ (by simp only [maxLen] at afD;omega) (growslice_fits zQ hb);simp only [vS,bG,hr,aZ,bW];have dV:=grownCap_ge wa (rows.length+dL.length) cap e;have lG:grownCap wa (rows.length+dL.length) cap e≤maxLen:=grownCap_le_maxLen wa _ cap e afD;have hblk: ∀k,k<wa.heap.size→(wa.drew.alloc (.cells (rows.flatten.toArray++dL.flatten.toArray++ia z'.cells (grownCap wa (rows.length+dL.length) cap e-(rows.length+dL.length))) e)).heap[k]? =wa.heap[k]? :=fun k hk=>heap_alloc_old wa.drew _ hk;refine⟨⟨rfl,rfl,rfl,by simp,fun k tv _=>hblk k tv⟩,n _ _ _ ?_ ⟨zx,.inr ⟨wa.heap.size,0,_,_,by rw [av],.inr ⟨bg _,by simp⟩,heap_alloc_new wa.drew _,by rw [av];exact dV,lG,?_,?_⟩⟩ (.inr ⟨_,rfl,hk.size⟩)⟩
      ·exact⟨hk.os,hk.tape,hk.output,by have:=hk.size;simp;omega,fun k E6 _=>(hblk k (aH (hX k E6) hk.size)).trans (hk.block k E6),fun k h=>.inl h,
        fun k h=>h.elim (fun h=>by have:=hX k h;have:=hk.size;simp;omega) (fun h=>h.2)⟩
      ·simp only [rp,iR,size_zeroCells,r9,TH,oH,←pz];rw [eZ];apply oy;omega
      ·simp only [oU,jb,aK,oV];rw [←aK,av,pz,←TH,←oH,←av];exact mF
section
variable {t ty e k bytes : Nat} {v x s : Value} {rows dL : List (List Value)} {row : List Value} {N : Value → World → XS → Prop}
theorem acz (own:Ow w X e k v rows) (hX: ∀k,X k→k<w.heap.size) (he:mE P t e k bytes=true) (hx:x.cells.toList=row) (hk:(row.length==k)=true)
  (h1:row.all one=true) (hb:(rows.length+1)*bytes≤140737488355328) (hl:rows.length+1≤2^63-1)
  (n: ∀v' w' X',ez (cZ v) X w X' w'→Ow w' X' e k v' (rows++[row])→(v'.ownBlock=v.ownBlock∨ ∃g,v'.ownBlock=some g∧w.heap.size≤g)→N v' w' X'):
  eV P R X w m (fC t e k 1 #[(0,x)]) fun s w1 X1=>eV P R X1 w1 true (e6 t e k bytes ty v s) N:=by
 obtain⟨hu,kE,pq,z,hi,AN,r9⟩:=jT he;have af:row.length=k:=by simpa using hk
 have HH:x.cells.size=k:=by rw [←af,←hx,ec]
 refine zj (rows:=[row]) x.cells z hX hu AN zQ zQ ?_ (by simpa using af) rfl (by simpa using hx) fun s w1 X1 au Pg=>?_
 ·simp only [Nat.one_mul];exact Cz HH (by simp)
 ·refine Ph (dL:=[row]) he au.has (own.mv au.mv) Pg.sl (by simpa using h1) (by simpa using hb) (by simpa using hl) fun v2 w2 X2 hg ho ef=>?_;refine n v2 w2 X2 ((ez.rM au (cZ v)).trans hg) ho ?_;rcases ef with h|⟨g,h,dV⟩
  ·exact .inl h
  ·exact .inr ⟨g,h,ah au.kp.size dV⟩
end
theorem Sq {k:Nat} : ∀{rows:List (List Value)} (i:Nat),(∀r∈rows,r.length=k)→(rows.drop i).flatten=rows.flatten.drop (i*k)
 |_,0,_=>by simp
 |[],i+1,_=>by simp
 |r::rows,i+1,h=>by
  have hr:=h r (by simp);rw [List.drop_succ_cons,Sq i fun x hx=>h x (bA _ hx),iQ,Nat.succ_mul,Nat.add_comm,←List.drop_drop,List.drop_left' hr]
theorem nC {k:Nat} : ∀{rows:List (List Value)} (i:Nat),(∀r∈rows,r.length=k)→(rows.take i).flatten=rows.flatten.take (i*k)
 |_,0,_=>by simp
 |[],i+1,_=>by simp
 |r::rows,i+1,h=>by
  have hr:=h r (by simp);have e1:r.take (k+i*k)=r:=List.take_of_length_le zQ;rw [List.take_succ_cons,iQ,nC i fun x hx=>h x (bA _ hx),iQ,Nat.succ_mul,Nat.add_comm,List.take_append,hr,e1,show k+i*k-k=i*k by omega]
theorem dS.eA {κ α:Type} [DecidableEq κ] {A F:XS} {kv:κ→Value} {rd:World→XS→Value→α→Prop} {l:List (κ×α)} {b g:Nat} {cs:List Value} {e:TypeId} (h:dS w X A b kv rd l) (hr:a7 w F g cs e):b≠g:=by
 rintro rfl;obtain⟨es,c,h1,_⟩:=h;have:=h1.2.1;rw [hr.2] at this;cases this
theorem a7.eA {F:XS} {b g:Nat} {cs sN:List Value} {e e':TypeId} (h:a7 w X b cs e) (hr:a7 w F g sN e') (he:decide (e≠e')=true):b≠g:=by
 rintro rfl;have:=h.2;rw [hr.2] at this;simp only [az,lT] at this;exact of_decide_eq_true he this.2.1.symm
theorem dS.aeR {κ α:Type} [DecidableEq κ] {A F:XS} {kv:κ→Value} {rd:World→XS→Value→α→Prop} {l:List (κ×α)} {b e k:Nat} {v:Value} {rows:List (List Value)} (h:dS w X A b kv rd l) (hr:Ow w F e k v rows):v.ownBlock≠some b:=fun hg=>by
 obtain⟨cs,h2⟩:=hr.tag hg;obtain⟨es,c,h1,_⟩:=h;have:=h1.2.1;rw [h2] at this;cases this
section
variable {t : TypeId}
theorem Qw {l:List Value} {N:Value→World→XS→Prop} (hX: ∀k,X k→k<w.heap.size) (hz:(P.info? t).bind (·.zero)=some (.agg l.toArray))
  (n: ∀b w' X',w.heap.size≤b→ak X w X' w'→a7 w' X' b l t→N (ptr b 0) w' X'):eV P R X w m (xX t true (.tuple #[])) N:=by
 intro wa hk;unfold iF;have hzv: ∀w,(zeroValue t).run P w= .ok (.agg l.toArray) w:=by
  intro w;cases hi:P.info? t with
  |none=>simp [hi] at hz
  |some inf=>
   have CW:inf.zero=some (.agg l.toArray):=by simpa [hi] using hz
   simp [zeroValue,typeInfo,hi,CW]
 have hr:(xX t true (.tuple #[])).run P wa= .ok (ptr wa.heap.size 0) (wa.alloc (.cells l.toArray t)):=by simp [xX,hzv,newVar,newRow,aa]
 simp only [vS,bG,hr,aZ,bW];have hx:Ext wa (wa.alloc (.cells l.toArray t)):=Ext.alloc _ _;exact⟨Step.eE hx,n _ _ _ hk.size (ak.eE hX hk hx) ⟨.inr ⟨bg _,by simp⟩,by simpa using heap_alloc_new wa _⟩⟩
theorem acA {e k bytes c:Nat} {z:Int} {N:Value→World→XS→Prop} (hX: ∀k,X k→k<w.heap.size) (he:mE P t e k bytes=true) (hz:z=c) (hc:c≤2^32) (hb:bytes≤1024) (hk:k≤1024)
  (n: ∀v w' X',ak X w X' w'→Own w' X' w.heap.size e k v []→N v w' X'):eV P R X w m (yN t (I 0) (I z)) N:=by
 subst hz;obtain⟨hu,kE,pq,z,hi,AN,r9⟩:=jT he;intro wa af;unfold iF;cases hq:P.info? e with
 |none=>simp [hq] at hi
 |some ie=>
  cases lX:ie.zero with
  |none=>simp [hq,lX] at hi
  |some z'=>
   simp only [hq,lX,cU,bt,az,cy] at hi;obtain⟨h1,h2,h3⟩:=hi;have Ru:ie.bytes*c≤281474976710656:=by
    have:=Nat.mul_le_mul (show ie.bytes≤1024 by omega) hc;omega
   obtain⟨w',hr,HG,hg⟩:=run_make_own (P:=P) wa w.heap.size t e ie z' k hu hq lX h1 .i64 .i64 c Ru (by simp only [maxLen];omega) af.size;have qq:(yN t (I 0) (I (c:Int))).run P wa= .ok (.slice (some ⟨wa.heap.size,0,none⟩) 0 c) w':=hr;simp only [vS,bG,qq,aZ,bW];have hx:Ext wa w':=⟨hg.os,hg.tape,hg.output,hg.size,fun k hk _=>hg.block k hk (by simp)⟩;refine⟨Step.eE hx,n _ _ _ (ak.eE hX af hx) ⟨by simp,HG,fun g Hn=>?_⟩⟩;simp only [gk,az] at Hn;subst Hn;exact .inr ⟨bg _,(HG.lt _ rfl).2⟩
end
structure Ft (w0:World) (F0:XS) (w:World) (X F:XS):Prop where
 s:ak (out F0 w0) w0 X w
 bK: ∀k,F k→X k
 v: ∀k,F k→F0 k∨w0.heap.size≤k
section
variable {w0 w' : World} {F0 F F' G X' A : XS} {Q : Value → World → World → Prop} {N : Value → World → XS → Prop} {f : FuncId} {args : Array Value}
theorem Ft.init (h: ∀k,F0 k→k<w.heap.size):Ft w F0 w (aV w) F0:=⟨ak.out _ _,h,fun _ h=>.inl h⟩
theorem Ft.since (h:Ft w0 F0 w X F) (hs:ak X w X' w'):Ft w0 F0 w' X' F:=⟨h.s.trans hs,fun k hk=>hs.sub k (h.bK k hk),h.v⟩
theorem Ft.no (h:Ft w0 F0 w X F) {k:Nat} (hk:F k) (h0:out F0 w0 k):False:=by
 rcases h.v k hk with h1|h1
 ·exact h0.2 h1
 ·have:=h0.1;omega
theorem Ft.fL (h:Ft w0 F0 w X F) (c:ez G X w X' w') (hG: ∀k,G k→F k) (hF: ∀k,F' k→F k∨(X' k∧w.heap.size≤k)):Ft w0 F0 w' X' F':=by
 refine⟨h.s.fL c fun k h0 hk=>h.no (hG k hk) h0,fun k hk=>?_,fun k hk=>?_⟩
 ·rcases hF k hk with h1|h1
  ·exact c.sub k (h.bK k h1)
  ·exact h1.1
 ·rcases hF k hk with h1|h1
  ·exact h.v k h1
  ·right;have:=h1.2;have:=h.s.kp.size;omega
theorem Ft.less (h:Ft w0 F0 w X F) (hF: ∀k,F' k→F k):Ft w0 F0 w X F':=⟨h.s,fun k hk=>h.bK k (hF k hk),fun k hk=>h.v k (hF k hk)⟩
theorem Ft.more (h:Ft w0 F0 w X F) (hF: ∀k,F' k→F k∨(X k∧w0.heap.size≤k)):Ft w0 F0 w X F':=by
 refine⟨h.s,fun k hk=>?_,fun k hk=>?_⟩
 ·rcases hF k hk with h1|h1
  ·exact h.bK k h1
  ·exact h1.1
 ·rcases hF k hk with h1|h1
  ·exact h.v k h1
  ·exact .inr h1.2
theorem Ft.call (hT:Ft w0 F0 w X F) (h:Ct P f args w X G Q) (hf:enters P f=true) (hG: ∀k,G k→F k)
  (k: ∀v wa w' X',Q v wa w'→w.heap.size≤wa.heap.size→(∀k,made wa w' k→X' k)→Ft w0 F0 w' X' (fun k=>F k∨made wa w' k)→ez G X w X' w'→N v w' X'):eC P R X w true f args N:=by
 refine aeQ h hf hT.s.has (fun q hq=>hT.bK q (hG q hq)) fun v wa w' X' hq hle fO Mf hc=>k v wa w' X' hq hle fO ?_ hc;exact hT.fL hc hG fun q hq=>hq.imp id fun hm=>⟨fO q hm,ah hle hm.1⟩
theorem Ft.fin {v:Value} {Q:Value→World→Prop} (h:Ft w0 F0 w X F) (hq: ∀wa,Kp X w wa→Q v wa):fin (xv F0 w0 Q) X w v:=Y6 h.s hq
theorem Ft.gX (h:Ft w0 F0 w X F) {wa:World} (hk:Kp X w wa) (hF: ∀k,F' k→F k): ∀k,F' k→F0 k∨made w0 wa k:=fun k af=>by
 rcases h.v k (hF k af)with h1|h1
 ·exact .inl h1
 ·exact .inr ⟨h1,aH (h.s.has k (h.bK k (hF k af))) hk.size⟩
theorem Ft.kZ (h:Ft w0 nX w X F):ak (aR.aV w0) w0 X w:=
 ⟨⟨h.s.kp.os,h.s.kp.tape,h.s.kp.output,h.s.kp.size,fun k af=>h.s.kp.block k ⟨af,fun h=>h.elim⟩⟩,fun k af=>h.s.sub k ⟨af,fun h=>h.elim⟩,h.s.has⟩
def DI (w0:World) (X:XS):XS:=fun k=>X k∧w0.heap.size≤k
theorem Ft.new (h:Ft w0 F0 w X F):Ft w0 F0 w X (fun k=>F k∨DI w0 X k):=h.more fun k hk=>hk.imp id fun h=>h
theorem Ft.Qx (h:Ft w0 nX w X F):Ft w0 nX w X (DI w0 X):=h.more fun k hk=>.inr hk
theorem ez.fi (c:ez G X w X' w') (h: ∀k,A k→X k∧ ¬G k):Mv A w A w':=fun k hk _=>⟨hk,c.block k (h k hk).1 (h k hk).2⟩
theorem Kp.fi (hk:Kp X w w') (h: ∀k,A k→X k):Mv A w A w':=fun k af _=>⟨af,hk.block k (h k af)⟩
theorem ak.fZ (hs:ak X w X' w') (h: ∀k,A k→X k):Mv A w A w':=fun k af _=>⟨af,hs.kp.block k (h k af)⟩
end
theorem akb {w0:World} {t ty e k bytes:Nat} {v s:Value} {rows dL:List (List Value)} {N:Value→World→XS→Prop} (hT:Ft w0 nX w X (DI w0 X)) (hO:Ow w (DI w0 X) e k v rows) (he:mE P t e k bytes=true)
  (src:Sl w X k s dL) (h1: ∀r∈dL,∀u∈r,one u=true) (hb:(rows.length+dL.length)*bytes≤140737488355328) (hl:rows.length+dL.length≤2^63-1)
  (n: ∀v' w' X',Ft w0 nX w' X' (DI w0 X')→Ow w' (DI w0 X') e k v' (rows++dL)→ez (cZ v) X w X' w'→(v'.ownBlock=v.ownBlock∨ ∃g,v'.ownBlock=some g∧w.heap.size≤g)→N v' w' X'):
  eV P R X w true (e6 t e k bytes ty v s) N:=by
 refine Ph he hT.s.has (hO.mono hT.bK) src h1 hb hl fun v' w' X' c ho ef=>?_;have hT':Ft w0 nX w' X' (DI w0 X'):=Ft.Qx (F:=DI w0 X) (hT.fL c (fun k hk=>(hO.bK hk).1) fun k hk=>.inl hk);refine n v' w' X' hT' (ho.tight.mono fun k hk=>⟨(ho.bK hk).1,?_⟩) c ef;have af:v'.ownBlock=some k:=hk;rcases ef with e|⟨g,e,dV⟩
 ·exact(hO.bK (e▸af)).1.2
 ·rw [af] at e;have:k=g:=Option.some.inj e;have:=hT.s.kp.size;omega
def Dj (A B:XS):Prop:= ∀k,A k→B k→False
theorem Dj.symm {A B:XS} (h:Dj A B):Dj B A:=fun k a b=>h k b a
theorem Dj.grow {A B B' C:XS} (h:Dj A B) (hB: ∀k,B' k→B k∨C k) (hc:Dj A C):Dj A B':=fun k a b=>(hB k b).elim (h k a) (hc k a)
theorem Dj.less {A A' B B':XS} (h:Dj A B) (ha: ∀k,A' k→A k) (hb: ∀k,B' k→B k):Dj A' B':=fun k a b=>h k (ha k a) (hb k b)
end Go.aR
set_option linter.unusedVariables false
set_option linter.unusedSimpArgs false
namespace Go.aR
variable {P : Program} {R : Ending → World → Prop} {X : XS} {w : World} {m : Bool}
def GB (w:World) (X:XS) (b:Nat) (cs:List Value) (ty:TypeId):Prop:=X b∧w.heap[b]? =some (.cells cs.toArray ty (cs.length,cs.length+1))
theorem GB.cells {b:Nat} {cs:List Value} {ty:TypeId} (h:GB w X b cs ty):Cells w X b 0 cs:=⟨h.1,_,_,_,h.2,fun j v hj=>by simpa using hj⟩
theorem GB.since {b:Nat} {cs:List Value} {ty:TypeId} {Y:XS} {w':World} (h:GB w X b cs ty) (hs:ak X w Y w'):GB w' Y b cs ty:=⟨hs.sub _ h.1,by rw [hs.kp.block b h.1];exact h.2⟩
theorem XD (wa:World) (g n:Nat) (cs:Array Value) (e:TypeId) (h:wa.heap[g]? =some (.cells cs e (0,0))):(wa.freeze ⟨g,n,none⟩ 1).heap=wa.heap.setIfInBounds g (.cells cs e (n,n+1)):=by
 unfold rP;rw [if_neg (by decide)];obtain⟨hl,he⟩:=Array.getElem?_eq_some_iff.1 h;apply Array.ext
 ·simp
 ·intro i h1 h2;simp only [Array.getElem_modify,Array.getElem_setIfInBounds];split
  ·rename_i hi;subst hi;rw [he];simp
  ·rename_i hi;exact(Array.getElem_setIfInBounds_ne (by simpa using h2) hi).symm
theorem agK {t e g n c:Nat} {cs:List Value} {N:Value→World→XS→Prop} (h:a7 w X g cs e) (ht:P.underlying t=some (.slice e)) (he:P.underlying e=some (.int .u8)) (hX: ∀k,X k→k<w.heap.size)
  (k: ∀w' X',ez (· =g) X w X' w'→GB w' X' g cs e→N (.slice (some ⟨g,0,none⟩) n c) w' X'):eV P R X w true (convert t t (.slice (some ⟨g,0,none⟩) n c)) N:=by
 intro wa hk;have hb:=(h.kp hk).2;have dz:=(Array.getElem?_eq_some_iff.1 hb).1;have hsh:wa.shape? g=some (e,cs.length):=by unfold World.shape?;rw [hb];simp
 have hr:(convert t t (.slice (some ⟨g,0,none⟩) n c)).run P wa= .ok (.slice (some ⟨g,0,none⟩) n c) (wa.freeze ⟨g,cs.length,none⟩ 1):=by
  simp [convert,run_underlying ht,run_underlying he,markStringish,hsh]
 have hh:=XD wa g cs.length cs.toArray e hb;unfold iF;simp only [vS,bG,hr,aZ,bW];have EN:(wa.freeze ⟨g,cs.length,none⟩ 1).os=wa.os:=by unfold rP;rw [if_neg (by decide)]
 have htp:(wa.freeze ⟨g,cs.length,none⟩ 1).tape=wa.tape:=by unfold rP;rw [if_neg (by decide)]
 have sO:(wa.freeze ⟨g,cs.length,none⟩ 1).output=wa.output:=by unfold rP;rw [if_neg (by decide)]
 have fK:(wa.freeze ⟨g,cs.length,none⟩ 1).heap.size=wa.heap.size:=by rw [hh];simp
 have hblk: ∀q,q≠g→(wa.freeze ⟨g,cs.length,none⟩ 1).heap[q]? =wa.heap[q]? :=fun q hq=>by rw [hh,dQ,if_neg (Ne.symm hq)]
 refine⟨⟨EN,htp,sO,by rw [fK];exact bg _,fun q _ hx=>hblk q fun e=>hx (e▸h.1)⟩,k _ _ ?_ ⟨.inl h.1,by rw [hh,dQ,if_pos rfl,if_pos dz]⟩⟩;refine⟨EN.trans hk.os,htp.trans hk.tape,sO.trans hk.output,by rw [fK];exact hk.size,fun q hx du=>(hblk q du).trans (hk.block q hx),fun q h=>.inl h,fun q h=>?_⟩;rw [fK];exact h.elim (fun h=>aH (hX q h) hk.size) (fun h=>by have:=h.2;rwa [fK] at this)
theorem akc {t b o:Nat} {cs:List Value} {ty:TypeId} {v:Value} {N:Value→World→XS→Prop} (h:GB w X b cs ty) (ht:(P.info? t).map (·.size)=some 1)
  (hl:o<cs.length) (h1:one v=true) (hX: ∀k,X k→k<w.heap.size)
  (n: ∀w' X',ez (· =b) X w X' w'→GB w' X' b (cs.set o v) ty→N undef w' X'):eU P R X w true (st1 t 1 (ptr b o) v) N:=by
 intro wa hk;have hb:wa.heap[b]? =some (.cells cs.toArray ty (cs.length,cs.length+1)):=by rw [hk.block b h.1];exact h.2
 have dz:=(Array.getElem?_eq_some_iff.1 hb).1;have hv:v.cells= #[v]:=rz h1;have zC:wa.cell? ⟨b,o,none⟩=some cs[o]:=by simp [World.cell?,hb,hl]
 have alX:wa.frozen? ⟨b,o,none⟩=false:=by simp [World.frozen?,hb];omega
 have ed:(store ⟨b,o,none⟩ v).run P wa= .ok () (wa.setRow b (cs.toArray.setIfInBounds o v)):=by
  rw [run_store P wa _ v _ (by rw [←EB];exact h1),zC];simp [alX,setCell_eq_setRow wa b o cs.toArray ty _ v hb]
 have hr:(Instr.storeAt t (ptr b o) v).run P wa= .ok () (wa.setRow b (cs.toArray.setIfInBounds o v)):=by
  cases hi:P.info? t with
  |none=>simp [hi] at ht
  |some i=>
   simp only [hi,bt,az] at ht;simp [Instr.storeAt,Instr.sureAddr,dT,storeVar,sizeOf,typeInfo,hi,ht,hv,storeCells,oz];simpa using ed
 unfold st1 iF;simp only [uS,bG,hr,aZ,bW];have fK:(wa.setRow b (cs.toArray.setIfInBounds o v)).heap.size=wa.heap.size:=by simp
 refine⟨⟨rfl,rfl,rfl,by rw [fK];exact bg _,fun k _ hx=>setRow_other wa b k _ fun e=>hx (e▸h.1)⟩,n _ _ ?_ ⟨.inl h.1,?_⟩⟩
 ·refine⟨hk.os,hk.tape,hk.output,by rw [fK];exact hk.size,fun k hx du=>?_,fun k h=>.inl h,fun k h=>?_⟩
  ·rw [setRow_other wa b k _ du,hk.block k hx]
  ·rw [fK];exact h.elim (fun h=>aH (hX k h) hk.size) (fun h=>by have:=h.2;rwa [fK] at this)
 ·have:=setRow_heap wa b cs.toArray (cs.toArray.setIfInBounds o v) ty _ hb;rw [this,List.length_set];simp
def D6 (l:List Nat):ByteArray:=⟨(l.map UInt8.ofNat).toArray⟩
theorem Sr (l:List Nat):(D6 l).size=l.length:=by simp [D6,ByteArray.size]
theorem agL {src dst e b o cap len:Nat} {l:List Nat} {N:Value→World→XS→Prop} (hlen:len=l.length) (hc:Cells w X b o (l.map fun x:Nat=>aA .u8 x)) (hs:P.underlying src=some (.slice e)) (he:P.underlying e=some (.int .u8)) (hd:P.underlying dst=some .string)
  (hX: ∀k,X k→k<w.heap.size) (n: ∀w' X',ak X w X' w'→N (.string (D6 l)) w' X'):eV P R X w m (convert src dst (.slice (some ⟨b,o,none⟩) len cap)) N:=by
 subst hlen;intro wa hk;have hr:=run_convert_bytes_arg (P:=P) wa src e hs he b o l.length cap (l.map fun x:Nat=>(x:Int)) (by simp) (fun i hi=>by
  have:=(hc.kp hk).range i (.int .u8 ((l[i]:Nat):Int)) (by simp [hi]);rw [this];simp [jR,hi]) dst hd
 have e1:strOfNums (l.map fun x:Nat=>(x:Int))=D6 l:=by
  unfold strOfNums D6;simp
 rw [e1] at hr;unfold iF;simp only [vS,bG,hr,aZ,bW];have hx:=Ext.refl wa;exact⟨Step.eE hx,n _ _ (ak.eE hX hk hx)⟩
theorem VI {t:TypeId} {a b:ByteArray} {N:Value→Prop} (h:a.size+b.size≤2^62) (k:N (.string (a++b))):ae P X w (binOp .add t (.string a) (.string b)) N:=
 cd (fun wa=>by
  have:=run_string_add_sum (P:=P) wa a b zQ;simp [binOp,this]) k
theorem akd {t e k bytes ty:Nat} {s:Value} {rows:List (List Value)} {m':Bool} {N:Value→World→XS→Prop} (hX: ∀k,X k→k<w.heap.size) (he:mE P t e k bytes=true) (src:Sl w X k s rows) (h1: ∀r∈rows,∀u∈r,one u=true)
  (hb:rows.length*bytes≤140737488355328) (hl:rows.length≤2^63-1)
  (n: ∀v w' X',ak X w X' w'→Ow w' (DI w X') e k v rows→N v w' X'):eV P R X w m (fC t e k 0 #[]) fun a w1 X1=>eV P R X1 w1 m' (e6 t e k bytes ty a s) N:=by
 obtain⟨hu,kE,pq,z,hi,AN,r9⟩:=jT he;cases hq:P.info? e with
 |none=>simp [hq] at hi
 |some ie=>
  cases lX:ie.zero with
  |none=>simp [hq,lX] at hi
  |some z'=>
   simp only [hq,lX,cU,bt,az,cy] at hi;obtain⟨rfl,rfl,rfl⟩:=hi;intro wa hk;have hr:(gF t 0 #[]).run P wa= .ok (.slice (some ⟨wa.heap.size,0,none⟩) 0 0) (wa.alloc (.cells #[] e)):=by
    simp [gF,run_underlying hu,sizeOf,typeInfo,hq,Instr.fill,newRow];have L8: ∀f:Nat→Value,Array.map f (Array.range 0)= #[]:=fun f=>Array.eq_empty_of_size_eq_zero (by simp);rw [L8]
   unfold fC iF;simp only [vS,bG,hr,aZ,bW];have hx:Ext wa (wa.alloc (.cells #[] e)):=Ext.alloc _ _;have au:=ak.eE hX hk hx;refine⟨Step.eE hx,?_⟩;intro wb mN;unfold e6 iF;have alY:=(src.since au).kp mN;have IE:wb.heap[wa.heap.size]? =some (.cells #[] e (0,0)):=by
    rw [mN.block _ (.inr ⟨bg _,by simp⟩)];exact heap_alloc_new wa _
   have fK:=mN.size;have Zk:=au.kp.size;have am9:=(Array.getElem?_eq_some_iff.1 IE).1;rcases alY.src with⟨rfl,rfl⟩|⟨a,c,rfl,zC⟩
   ·have qY:=wv (P:=P) (w:=wb) t ty e ie hu hq ⟨wa.heap.size,0,none⟩ 0 0 (bg _);simp only [vS,bG,qY,aZ,bW];have bT:=ak.eE au.has mN (Ext.refl wb);exact⟨Step.eE (Ext.refl _),n _ _ _ (au.trans bT) ⟨by simp,.inr ⟨wa.heap.size,0,0,#[],rfl,⟨.inl (.inr ⟨bg _,by simp⟩),hk.size⟩,IE,bg _,aG _,by simp,by simp⟩⟩⟩
   ·have oH:rows.flatten.length=rows.length*ie.size:=qi src.1;by_cases h0:rows=[]
    ·subst h0;have qY:=wu (P:=P) (w:=wb) t ty e ie hu hq wa.heap.size 0 0 0 #[] IE a 0 c [] (by simp) (by simp) (by simp) (bg _) (by simp);have e0:wb.setRow wa.heap.size (#[].toList.take (0+0*ie.size)++[]++ #[].toList.drop (0+0*ie.size+([]:List Value).length)).toArray=wb:=by
      have:=setRow_self wb wa.heap.size #[] e (0,0) IE;simpa using this
     rw [e0] at qY;have sU:(ej #[t,t] ty #[.slice (some ⟨wa.heap.size,0,none⟩) 0 0,.slice (some a) ([]:List (List Value)).length c]).run P wb= .ok (.slice (some ⟨wa.heap.size,0,none⟩) 0 0) wb:=qY;simp only [vS,bG,sU,aZ,bW];have bT:=ak.eE au.has mN (Ext.refl wb);exact⟨Step.eE (Ext.refl _),n _ _ _ (au.trans bT) ⟨by simp,.inr ⟨wa.heap.size,0,0,#[],rfl,⟨.inl (.inr ⟨bg _,by simp⟩),hk.size⟩,IE,bg _,aG _,by simp,by simp⟩⟩⟩
    ·have aau:0<rows.length:=List.length_pos_iff.2 h0;have qY:=run_append_grow (P:=P) wb t ty e ie z' hu hq lX ⟨wa.heap.size,0,none⟩ 0 0 [] (by simp) (by simp) a rows.length c rows.flatten oH zC zQ zQ (growslice_fits zQ (by simpa using hb));simp only [eZ] at qY;simp only [vS,bG,qY,aZ,bW];have dV:=grownCap_ge wb rows.length 0 e;have lG:grownCap wb rows.length 0 e≤maxLen:=grownCap_le_maxLen wb _ 0 e hl;have YN:Ext wb (wb.drew.alloc (.cells ([].toArray++rows.flatten.toArray++ia z'.cells (grownCap wb rows.length 0 e-rows.length)) e)):=⟨rfl,rfl,rfl,by simp,fun k hk _=>heap_alloc_old wb.drew _ hk⟩;have bT:=ak.eE au.has mN YN;have fO:w.heap.size≤wb.heap.size:=ah Zk fK;refine⟨Step.eE YN,n _ _ _ (au.trans bT) ⟨src.1,.inr ⟨wb.heap.size,0,_,_,rfl,⟨.inr ⟨bg _,by simp⟩,fO⟩,heap_alloc_new wb.drew _,dV,lG,?_,?_⟩⟩⟩
     ·simp only [rp,iR,size_zeroCells,r9,oH,List.length_nil,eZ,←pz];apply oy;omega
     ·simp only [oU,jb,dG];rw [←oH];exact mF
theorem qv {t b o o':Nat} {cs:List Value} {ty:TypeId} {v:Value} {N:Value→World→XS→Prop} (h:a7 w X b cs ty) (VJ:o'=o) (ht:(P.info? t).map (·.size)=some 1)
  (hl:o<cs.length) (h1:one v=true) (hX: ∀k,X k→k<w.heap.size)
  (n: ∀w' X',ez (· =b) X w X' w'→a7 w' X' b (cV cs o [v]) ty→N undef w' X'):eU P R X w true (st1 t 1 (ptr b o') v) N:=by
 subst VJ;have hv:=rz h1;refine By h ht zQ (by rw [hv];rfl) (by rw [hv];simp [h1]) hX fun w' X' c hr=>n w' X' c ?_;rw [hv] at hr;exact hr
theorem FQ {t sz b o o':Nat} {cs:List Value} {ty:TypeId} {v:Value} {N:Value→World→XS→Prop} (h:a7 w X b cs ty) (VJ:o'=o) (ht:(P.info? t).map (·.size)=some sz)
  (hl:o+sz≤cs.length) (hv:v.cells.size=sz) (h1:v.cells.toList.all one=true) (hX: ∀k,X k→k<w.heap.size)
  (n: ∀w' X',ez (· =b) X w X' w'→a7 w' X' b (cV cs o v.cells.toList) ty→N undef w' X'):eU P R X w true (st1 t sz (ptr b o') v) N:=by
 subst VJ;exact By h ht hl hv h1 hX n
end Go.aR
set_option linter.unusedVariables false
set_option linter.unusedSimpArgs false
namespace Go.aR
variable {P : Program} {R : Ending → World → Prop} {X : XS} {w : World} {m : Bool}
theorem af5 {t:TypeId} {k:Nat} {v:Value} {z:Int} {i:Nat} {rows:List (List Value)} {N:Value→Prop} (h:Sl w X k v rows) (hz:z=i) (hi:i≤rows.length) (ht:P.underlying t=some (.slice (P.elem t))) (hs:(P.info? (P.elem t)).map (·.size)=some k)
  (n: ∀v',Sl w X k v' (rows.drop i)→N v'):ae P X w (gf t v (some (.int .i64 z)) none none) N:=by
 subst hz;obtain⟨h1,h2,base,cap,rfl,hc,hb,hlc,lG⟩:=h;have hq: ∃inf,P.info? (P.elem t)=some inf∧inf.size=k:=by
  cases hq:P.info? (P.elem t)with
  |none=>simp [hq] at hs
  |some inf=>exact⟨inf,rfl,by simpa [hq] using hs⟩
 obtain⟨inf,hq,fK⟩:=hq;have jI: ∀wa:World,(gf t (.slice base rows.length cap) (some (.int .i64 (i:Int))) none none).run P wa= .ok (sliced base i rows.length cap k) wa:=fun wa=>by
  rw [run_sliceAt_slice wa t _ _ _ _ ht,run_slice_l wa t _ _ cap ht .i64 i zQ zQ];simp [sizeOf,typeInfo,hq,fK]
 refine cd jI (n _ ?_);refine⟨fun r hr=>h1 r (List.mem_of_mem_drop hr),by rw [k8];omega,_,cap-i,by unfold sliced;rw [k8],fun du=>?_,fun AL=>?_,by rw [k8];omega,by omega⟩
 ·have AZ:i<rows.length:=by
   refine Nat.lt_of_not_le fun hle=>du (List.drop_of_length_le hle)
  obtain⟨b,o,rfl,jz⟩:=hc (by intro e;rw [e] at AZ;simp at AZ);refine⟨b,o+i*k,?_,?_⟩
  ·rw [if_neg zQ];simp only [bt,az];unfold Addr.add;split
   ·rename_i h0;rw [h0];rfl
   ·rfl
  ·rw [aR.Sq i h1];obtain⟨hx,c,ty,fr,eY,AM⟩:=jz;exact⟨hx,c,ty,fr,eY,fun j v hj=>by rw [qn] at hj;have:=AM _ _ hj;rwa [←Nat.add_assoc] at this⟩
 ·split at AL
  ·have:=hb AL;omega
  ·have:base=none:=by simpa using AL
   have:=hb this;omega
theorem af4 {t:TypeId} {a:Option Addr} {n cap i j q:Nat} {z z' z2:Int} {N:Value→Prop} (hz:z=i) (CW:z'=j) (AN:z2=q) (hi:i≤j) (hj:j≤q) (hq:q≤cap) (ht:P.underlying t=some (.slice (P.elem t))) (hs:((P.info? (P.elem t)).map (·.size)).isSome=true)
  (h: ∀v,N v):ae P X w (gf t (.slice a n cap) (some (.int .i64 z)) (some (.int .i64 z')) (some (.int .i64 z2))) N:=by
 subst hz;subst CW;subst AN;obtain⟨k,hk⟩:=Option.isSome_iff_exists.1 hs;refine cd (v:=sliced a i j q k) (fun wa=>?_) (h _);rw [run_sliceAt_slice wa t _ _ _ _ ht,run_slice_lhm wa t a n cap ht .i64 .i64 .i64 i j q zQ zQ zQ zQ];cases hq:P.info? (P.elem t)with
 |none=>simp [hq] at hk
 |some inf=>
  have:inf.size=k:=by simpa [hq] using hk
  simp [sizeOf,typeInfo,hq,this]
theorem ahP {t:TypeId} {k g off n cap i j:Nat} {z z':Int} {N:Value→Prop} (hz:z=i) (CW:z'=j) (hi:i≤j) (hj:j≤cap) (hic:i<cap) (ht:P.underlying t=some (.slice (P.elem t))) (hs:(P.info? (P.elem t)).map (·.size)=some k)
  (h:N (.slice (some ⟨g,off+i*k,none⟩) (j-i) (cap-i))):ae P X w (gf t (.slice (some ⟨g,off,none⟩) n cap) (some (.int .i64 z)) (some (.int .i64 z')) none) N:=by
 subst hz;subst CW;refine cd (fun wa=>?_) h;rw [run_sliceAt_slice wa t _ _ _ _ ht,run_slice_lh wa t _ n cap ht .i64 .i64 i j zQ zQ zQ];cases hq:P.info? (P.elem t)with
 |none=>simp [hq] at hs
 |some inf=>
  have:inf.size=k:=by simpa [hq] using hs
  have du: ¬cap=i:=by omega
  simp [sizeOf,typeInfo,hq,sliced,this,oz,du]
theorem adX {t ty e k bytes g off n cap:Nat} {s:Value} {cur:List Value} {dL:List (List Value)} {N:Value→World→XS→Prop} (he:mE P t e k bytes=true) (h:a7 w X g cur e) (src:Sl w X k s dL) (h1: ∀r∈dL,∀u∈r,one u=true)
  (qy:n+dL.length≤cap) (Ax:off+n*k+dL.length*k≤cur.length) (hX: ∀k,X k→k<w.heap.size)
  (nx: ∀w' X',ez (fun k=>k=g) X w X' w'→a7 w' X' g (cV cur (off+n*k) dL.flatten) e→N (.slice (some ⟨g,off,none⟩) (n+dL.length) cap) w' X'):
  eV P R X w true (e6 t e k bytes ty (.slice (some ⟨g,off,none⟩) n cap) s) N:=by
 obtain⟨hu,kE,pq,z,hi,AN,r9⟩:=jT he;intro wa hk;have hb:=(h.kp hk).2;have src:=src.kp hk;cases hq:P.info? e with
 |none=>simp [hq] at hi
 |some ie=>
  cases lX:ie.zero with
  |none=>simp [hq,lX] at hi
  |some z'=>
   simp only [hq,lX,cU,bt,az,cy] at hi;obtain⟨rfl,rfl,rfl⟩:=hi;unfold e6 iF;rcases src.src with⟨rfl,rfl⟩|⟨a,c,rfl,zC⟩
   ·have hr:=wv (P:=P) (w:=wa) t ty e ie hu hq ⟨g,off,none⟩ n cap (by simpa using qy);simp only [vS,bG,hr,aZ,bW];have E6:=Ext.refl wa;have hs:=ak.eE hX hk E6;refine⟨Step.eE E6,nx _ _ (ez.rM hs _) ?_⟩;have:cV cur (off+n*ie.size) ([]:List (List Value)).flatten=cur:=by simp [cV]
    rw [this];exact h.since hs
   ·have oH:dL.flatten.length=dL.length*ie.size:=qi src.1;have tG: ∀u∈dL.flatten,u.oneCell'=true:=fun u hu=>by
     obtain⟨r,hr,hur⟩:=List.mem_flatten.1 hu;rw [←EB];exact h1 r hr u hur
    have hr:=wu (P:=P) (w:=wa) t ty e ie hu hq g off n cap cur.toArray hb a dL.length c dL.flatten oH zC tG qy (by rw [oH,iR];exact Ax);simp only [vS,bG,hr,aZ,bW];have JQ: ∀k,k≠g→(wa.setRow g (cV cur (off+n*ie.size) dL.flatten).toArray).heap[k]? =wa.heap[k]? :=fun k hk=>setRow_other wa g k _ hk;refine⟨⟨rfl,rfl,rfl,by simp,fun k tv nB=>JQ k fun e=>nB (e▸h.1)⟩,nx _ _ ⟨hk.os,hk.tape,hk.output,by simpa using hk.size,fun k hx du=>(JQ k du).trans (hk.block k hx),fun k h=>.inl h,
     fun k h=>h.elim (fun h=>by have:=hX k h;have:=hk.size;simp;omega) (fun h=>h.2)⟩ ⟨.inl h.1,?_⟩⟩
    exact setRow_heap wa g cur.toArray _ e _ hb
def VK (P:Program) (e:TypeId):Bool:=match(P.info? e).bind (·.zero)with
 |some z=>z.cells.toList.all one
 |none=>false
theorem adY {t e ty k g o n cap:Nat} {cs:List Value} {tb:TypeId} {N:Value→World→XS→Prop} {bytes:Nat} (h:a7 w X g cs tb) (he:mE P t e k bytes=true) (hzo:VK P e=true) (h0:0<n) (hl:o+n*k≤cs.length) (hX: ∀k,X k→k<w.heap.size)
  (nx: ∀w' X' zs,zs.length=n*k→ez (fun k=>k=g) X w X' w'→a7 w' X' g (cV cs o zs) tb→N (.tuple #[]) w' X'):
  eV P R X w true (tN #[t] ty #[.slice (some ⟨g,o,none⟩) n cap]) N:=by
 obtain⟨hu,kE,pq,z,hi,AN,r9⟩:=jT he;intro wa hk;have hb:=(h.kp hk).2;cases hq:P.info? e with
 |none=>simp [hq] at hi
 |some ie=>
  cases lX:ie.zero with
  |none=>simp [hq,lX] at hi
  |some z'=>
   simp only [hq,lX,cU,bt,az,cy] at hi;obtain⟨rfl,rfl,rfl⟩:=hi;have hzv: ∀w,(zeroValue e).run P w= .ok z' w:=by
    intro w;simp [zeroValue,typeInfo,hq,lX]
   obtain⟨zs,aeS⟩: ∃zs,zs=(ia z'.cells n).toList:=⟨_,rfl⟩;have hzl:zs.length=n*ie.size:=by rw [aeS,ec,size_zeroCells,r9]
   have U6: ∀v∈zs,v.oneCell'=true:=fun v hv=>by
    rw [aeS] at hv;simp only [ia,jm,List.mem_map,Array.toList_range,List.mem_range] at hv;obtain⟨q,Sc,rfl⟩:=hv;have dz:q % z'.cells.size<z'.cells.size:=Nat.mod_lt _ (by rw [r9];exact kE);rw [getElem!_pos z'.cells _ dz];have:=hzo;simp only [VK,hq,cU,lX,jk] at this;rw [←EB];exact this _ (by simp)
   have ed:=run_storeCells_at P g o tb zs 0 cs.toArray wa hb (by simp [hzl];omega) U6;simp only [wo] at ed;obtain⟨q,rfl⟩: ∃q,n=q+1:=⟨n-1,by omega⟩;have hr:(tN #[t] ty #[.slice (some ⟨g,o,none⟩) (q+1) cap]).run P wa= .ok (.tuple #[]) (wa.setRow g (cV cs o zs).toArray):=by
    simp only [tN];simp [run_underlying hu,hzv,←aeS,ed,cV]
   unfold iF;simp only [vS,bG,hr,aZ,bW];have JQ: ∀k,k≠g→(wa.setRow g (cV cs o zs).toArray).heap[k]? =wa.heap[k]? :=fun k hk=>setRow_other wa g k _ hk;refine⟨⟨rfl,rfl,rfl,by simp,fun k tv nB=>JQ k fun e=>nB (e▸h.1)⟩,nx _ _ zs hzl ⟨hk.os,hk.tape,hk.output,by simpa using hk.size,fun k hx du=>(JQ k du).trans (hk.block k hx),fun k h=>.inl h,
    fun k h=>h.elim (fun h=>by have:=hX k h;have:=hk.size;simp;omega) (fun h=>h.2)⟩ ⟨.inl h.1,?_⟩⟩
   exact setRow_heap wa g cs.toArray _ tb _ hb
variable {P : Program}
theorem aeT {pl:bp} {fn:Func} {args:Array Value} {w:World} (hn:fn.ntmps=pl.n) (afA:args.size≤pl.n) (sE:(pl.boxes.all fun p=>decide (args.size≤p.1))=true):
  ek pl ⟨[],[]⟩ .start (kA args) (aV w) w { tmps:=args++dH (fn.ntmps-args.size) undef,defers:=[] } w:=by
 have aas:(args++dH (fn.ntmps-args.size) undef).size=pl.n:=by simp;omega
 have Nv: ∀s,s<pl.n→(args++dH (fn.ntmps-args.size) undef)[s]? =some (kA args s):=by
  intro s hs;rw [iM];split
  ·rename_i h1;simp [kA,jR,h1]
  ·rename_i h1;rw [hU,if_pos zQ];simp only [kA,jR];rw [iL (by simpa using h1)];rfl
 have JH: ∀b n,look pl.boxes b=some n→kA args b=undef:=by
  intro b n hb;have h1:=List.all_eq_true.1 sE _ (y8 hb);simp only [decide_eq_true_eq] at h1;simp only [kA,jR];rw [iL (by simpa using h1)];rfl
 exact {
  size:=aas
  defers:=rfl
  wC:=fun _ hp=>(by cases hp)
  ext:=Kp.refl _ _
  sM:=fun _ hk=>hk
  nP:=fun s hs=>Nv s (nz hs).1
  sig:=fun _ hp=>(by cases hp)
  box:=fun b n hb cells hc=>by rw [JH b n hb] at hc;cases hc
  inj:=fun b b' n n' hb eY h1=>by rw [JH b n hb] at h1;cases h1
  conv:=fun b n hb k hk=>by
   have h1:=List.all_eq_true.1 sE _ (y8 hb);simp only [decide_eq_true_eq] at h1;rw [iM,if_neg zQ,hU] at hk;split at hk
   ·cases hk
   ·cases hk
  live:=fun _ hp=>(by cases hp)
  ptr:=fun _ hp=>(by cases hp) }
theorem ek.defs {pl:bp} {ds:Bk} {AK:List Deferred} {cs:CS} {env:Env} {X:XS} {w0 w:World} {a:Act} (h:ek pl ds cs env X w0 a w):ek pl ⟨AK,ds.pins⟩ cs env X w0 { a with defers:=AK } w:=
 ⟨h.size,rfl,h.wC,h.ext,h.sM,h.nP,h.sig,h.box,h.inj,h.conv,h.live,h.ptr⟩
def ftE (P:Program) (pl:bp) (fn:Func):Option FT:=
 if fn.ntmps==pl.n then match fn.body with
  |some (.seq (.region _ GC false) (.seq (.region _ qo false) rest))=>match qo.toList with
   |[mk,df]=>match mk.op,mk.guard,mk.dst,df.op,df.guard,df.dst with
    | .makeFunc (.func _) ⟨[]⟩ _,none,some d',.defer ⟨.value (.tmp d),⟨[]⟩,_⟩,none,none=>match FG P pl GC GC.toList .start,iq P pl rest,Al P pl fn.results.toList with
     |some t0,some t2,some (r,n)=>if d'==d&&decide (d<pl.n)&&(look pl.boxes d).isNone&&!pl.ij d then some ⟨.seq (.BP t0) t2,r,n⟩else none
     |_,_,_=>none
    |_,_,_,_,_,_=>none
   |_=>none
  |_=>none
 else none
def Av (fn:Func):Option FuncId:=match fn.body with
 |some (.seq _ (.seq (.region _ qo _) _))=>match qo.toList with
  |[mk,_]=>match mk.op with
   | .makeFunc (.func g) _ _=>some g
   |_=>none
  |_=>none
 |_=>none
def Idle (P:Program) (g:FuncId):Prop:=enters P g=true∧ ∀eB w,CallsD P g eB .returning w fun e u' w'=>(∃x,e= .returned x)∧u'= .returning∧w'=w
theorem ek.aside {pl:bp} {ds:Bk} {env:Env} {X:XS} {w0 w:World} {a:Act} {d:Nat} {v:Value} (h:ek pl ds .start env X w0 a w) (hd:d<pl.n) (hb:look pl.boxes d=none) (hg:pl.ij d=false):
  ek pl ds .start env X w0 (a.put (some d) v) w:=by
 have ne: ∀b n,look pl.boxes b=some n→b≠d:=fun b n eY e=>by rw [e,hb] at eY;cases eY
 have fK:d<a.tmps.size:=by rw [h.size];exact hd
 exact {
  size:=by simp [Act.put,h.size]
  defers:=h.defers
  wC:=fun p hp=>by
   obtain⟨ht,h2⟩:=h.wC p hp;refine⟨?_,h2⟩;have du:p.1≠d:=fun e=>by
    rcases h2 with⟨n,_,hn,_⟩|ji
    ·exact ne p.1 n hn e
    ·rw [e,hg] at ji;cases ji
   rw [eG _ _ _ _ du];exact ht
  ext:=h.ext
  sM:=h.sM
  nP:=fun s hs=>by
   have wN:s≠d:=fun e=>by rw [e,hg] at hs;cases hs
   rw [eG _ _ _ _ wN];exact h.nP s hs
  sig:=fun _ hp=>(by cases hp)
  box:=fun b n eY cells hc=>by
   obtain⟨k,ty,h1,h2⟩:=h.box b n eY cells hc;exact⟨k,ty,by rw [eG _ _ _ _ (ne b n eY)];exact h1,h2⟩
  inj:=fun b b' n n' h1 h2 h3 h4 k h5 h6=>h.inj b b' n n' h1 h2 h3 h4 k (by rwa [eG _ _ _ _ (ne b n h1)] at h5) (by rwa [eG _ _ _ _ (ne b' n' h2)] at h6)
  conv:=fun b n eY k hk=>h.conv b n eY k (by rwa [eG _ _ _ _ (ne b n eY)] at hk)
  live:=fun _ hp=>(by cases hp)
  ptr:=fun _ hp=>(by cases hp) }
def isSimple:TI→Bool
 | .box .. =>true
 | .wY .. =>true
 | .uz _=>true
 | .set .. =>true
 |_=>false
def yd:List TI→Env→Env
 |[],e=>e
 | .box b _ x::l,e=>yd l (kI e b (.agg (x.ev e).cells))
 | .wY b x::l,e=>yd l (kI e b (.agg #[x.ev e]))
 | .set d x::l,e=>yd l (kI e d (x.ev e))
 |_::l,e=>yd l e
theorem vt {gg:List PanicEntry→Env→World→XS→Prop} {next:Env→World→XS→Prop} {w:World} {X:XS} : ∀(l:List TI) (env:Env),l.all isSimple=true→fN P gg next l env w X→
  fN P gg (fun e w' X'=>e=yd l env∧next e w' X') l env w X
 |[],env,_,h=>⟨rfl,h⟩
 |i::l,env,hs,h=>by
  rw [List.all_cons,aW] at hs;obtain⟨h1,h2⟩:=hs;cases i with
  |box b n x=>exact dk.2 ⟨(dk.1 h).1,vt l _ h2 (dk.1 h).2⟩
  |wY b x=>exact dk.2 ⟨(dk.1 h).1,vt l _ h2 (dk.1 h).2⟩
  |uz b=>exact dk.2 ⟨(dk.1 h).1,vt l _ h2 (dk.1 h).2⟩
  |set d x=>exact vt l _ h2 h
  |_=>cases h1
def qp:List Operand→Option (List Nat)
 |[]=>some []
 | .tmp b::l=>(qp l).map (b:: ·)
 |_::_=>none
def aiN:Value→Option Value
 | .agg ⟨[v]⟩=>some v
 |_=>none
def JR:List Nat→Bool
 |[]=>true
 |b::l=>!CU l b&&JR l
def aaJ (P:Program) (pl:bp) (fn:Func) (args:Array Value):Option (FuncId×List Nat×List (Option Value)):=
 match fn.body with
 |some (.seq (.region _ GC false) (.seq (.region _ qo false) rest))=>match qo.toList with
  |[mk,_]=>match mk.op with
   | .makeFunc (.func g) _ vL=>match qp vL.toList,FG P pl GC GC.toList .start,iq P pl rest with
    |some cb,some t0,some t2=>if t0.all isSimple&&JR cb&&cb.all (fun b=>(look pl.boxes b).isSome&&bH (yd t0 (kA args) b)&&!CU t2.mk b)then
      some (g,cb,cb.map fun b=>if CU t2.wr b then none else aiN (yd t0 (kA args) b))else none
    |_,_,_=>none
   |_=>none
  |_=>none
 |_=>none
theorem Ek: ∀{l:List Operand} {cb:List Nat},qp l=some cb→l=cb.map .tmp
 |[],cb,h=>by simp only [qp,az] at h;subst h;rfl
 |x::l,cb,h=>by
  cases x with
  |tmp b=>
   simp only [qp,Option.map_eq_some_iff] at h;obtain⟨c,h1,rfl⟩:=h;rw [Ek h1];rfl
  |const v=>simp [qp] at h
  |global v=>simp [qp] at h
  |func v=>simp [qp] at h
theorem Qy {tmps:Array Value} : ∀(cb:List Nat),(∀b∈cb,∃k,tmps[b]? =some (dT k 0))→ ∃ks:List Nat,ks.length=cb.length∧ ∀(i:Nat) b,cb[i]? =some b→ ∃k,ks[i]? =some k∧tmps[b]? =some (dT k 0)
 |[],_=>⟨[],rfl,fun i b h=>by simp at h⟩
 |b::cb,h=>by
  obtain⟨k,hk⟩:=h b (by simp);obtain⟨ks,h1,h2⟩:=Qy cb fun c hc=>h c (bA _ hc);refine⟨k::ks,by simp [h1],fun i c hc=>?_⟩;cases i with
  |zero=>simp only [List.getElem?_cons_zero,az] at hc;subst hc;exact⟨k,rfl,hk⟩
  |succ i=>simpa using h2 i c (by simpa using hc)
theorem El: ∀{l:List Nat},JR l=true→l.Nodup
 |[],_=>List.nodup_nil
 |b::l,h=>by
  simp only [JR,aW,cu] at h;exact List.nodup_cons.2 ⟨fun hm=>by
   rw [y6.2 hm] at h;exact absurd h.1 (by simp),El h.2⟩
theorem BM {α:Type} {cb:List Nat} {ks:List α} {p:Nat×α} (h:p∈cb.zip ks): ∃i:Nat,cb[i]? =some p.1∧ks[i]? =some p.2:=by
 obtain⟨i,hi,e⟩:=List.getElem_of_mem h;refine⟨i,?_⟩;have h2:(cb.zip ks)[i]? =some p:=by rw [bE hi,e]
 rw [lN] at h2;exact h2
structure Outside (ks:List Nat) (w wa:World):Prop where
 os:wa.os=w.os
 tape:wa.tape=w.tape
 output:wa.output=w.output
 size:w.heap.size≤wa.heap.size
 block: ∀k,k<w.heap.size→ ¬k∈ks→wa.heap[k]? =w.heap[k]?
theorem Outside.refl (ks:List Nat) (w:World):Outside ks w w:=⟨rfl,rfl,rfl,bg _,fun _ _ _=>rfl⟩
theorem Outside.trans {ks:List Nat} {a b c:World} (h:Outside ks a b) (k:Outside ks b c):Outside ks a c:=
 ⟨k.os.trans h.os,k.tape.trans h.tape,k.output.trans h.output,ah h.size k.size,fun i hl hi=>(k.block i (aH hl h.size) hi).trans (h.block i hl hi)⟩
theorem Outside.kp {ks:List Nat} {X:XS} {w0 w wa:World} (h:Outside ks w wa) (k:Kp X w0 w) (hl: ∀i,X i→i<w.heap.size) (hX: ∀i,i∈ks→ ¬X i):Kp X w0 wa:=
 ⟨h.os.trans k.os,h.tape.trans k.tape,h.output.trans k.output,ah k.size h.size,fun i hi=>(h.block i (hl i hi) fun hm=>hX i hm hi).trans (k.block i hi)⟩
def Dp (P:Program) (pl:bp) (fn:Func) (R:Ending→World→Prop) (g:FuncId) (cb:List Nat) (cv:List (Option Value)) (RP:List PanicEntry→World→Prop):Prop:=
 ∀(ks:List Nat) (IW:List (Array Value)) ch w',ks.length=cb.length→IW.length=cb.length→ks.Nodup→(∀(i:Nat) k cells,ks[i]? =some k→IW[i]? =some cells→ ∃ty,w'.heap[k]? =some (.cells cells ty (0,0)))→
  (∀(i:Nat) v cells,cv[i]? =some (some v)→IW[i]? =some cells→cells= #[v])→(∀(i:Nat) b n cells,cb[i]? =some b→look pl.boxes b=some n→IW[i]? =some cells→cells.size=n)→(∀wa,Outside ks w' wa→RP ch wa)→
  CallsD P g (ks.map fun k=>dT k 0).toArray (.panicking ch) w' fun e u jg=>(∃x,e= .returned x)∧settle u= .returning∧ ∃v,R (.returned v) jg∧
   ∀tmps:Array Value,(∀(i:Nat) b k,cb[i]? =some b→ks[i]? =some k→tmps[b]? =some (dT k 0))→(results fn tmps).run P jg= .ok v jg
def xA (R:Ending→World→Prop) (RP:List PanicEntry→World→Prop):Ending→World→Prop
 | .panicked ch,w=>RP ch w
 |e,w=>R e w
theorem vu {P:Program} {gg:List PanicEntry→Env→World→XS→Prop} {next:Env→World→XS→Prop} {w:World} {X:XS} : ∀(l:List TI) (env:Env),l.all isSimple=true→fN P gg next l env w X→
  fN P (fun _ _ _ _=>False) next l env w X
 |[],env,_,h=>h
 |i::l,env,hs,h=>by
  rw [List.all_cons,aW] at hs;obtain⟨h1,h2⟩:=hs;cases i with
  |box b n x=>exact dk.2 ⟨(dk.1 h).1,vu l _ h2 (dk.1 h).2⟩
  |wY b x=>exact dk.2 ⟨(dk.1 h).1,vu l _ h2 (dk.1 h).2⟩
  |uz b=>exact dk.2 ⟨(dk.1 h).1,vu l _ h2 (dk.1 h).2⟩
  |set d x=>exact vu l _ h2 h
  |_=>cases h1
theorem Ss {l:List Nat} (h: ∀(i j:Nat) k,l[i]? =some k→l[j]? =some k→i=j):l.Nodup:=
 List.pairwise_iff_getElem.2 fun i j hi hj hij e=>by
  have:=h i j l[i] (bE hi) (by rw [e];exact bE hj);omega
theorem JS {f:FuncId} {fn:Func} {pl:bp} {args:Array Value} {w:World} {R:Ending→World→Prop} {RP:List PanicEntry→World→Prop} {g0:FuncId} {cb:List Nat} {cv:List (Option Value)} {V:Prop} (hf:P.funcs[f]? =some fn)
  (hs:(decide (args.size≤pl.n)&&pl.boxes.all fun p=>decide (args.size≤p.1))=true) (ka: ∀g,Av fn=some g→Idle P g) (jx:aaJ P pl fn args=some (g0,cb,cv)) (tt:Dp P pl fn R g0 cb cv RP) (hv:V=Nu P (ftE P pl fn) (xA R RP) args w) (h:V):Calls P f args w R:=by
 subst hv;unfold Nu at h;simp only [aW,decide_eq_true_eq] at hs;split at h;case h_2=>exact h.elim
 rename_i ft hc;unfold ftE at hc;split at hc;case isFalse=>cases hc
 rename_i hn;have jh:fn.ntmps=pl.n:=by simpa using hn
 split at hc;case h_2=>cases hc
 rename_i _ id0 GC id1 qo rest hb;split at hc;case h_2=>cases hc
 rename_i _ mk df GD;split at hc;case h_2=>cases hc
 rename_i _ _ _ _ _ _ g vL d' d RL GF hmg hmd VL Pj TY;split at hc;case h_2=>cases hc
 rename_i _ _ _ t0 t2 r nd qI lF tD;split at hc;case isFalse=>cases hc
 rename_i mK;simp only [aW,beq_iff_eq,cu,decide_eq_true_eq,fA] at mK;obtain⟨⟨⟨Dr,iy⟩,RQ⟩,VM⟩:=mK;subst Dr;injection hc with hc
 subst hc;have hG:Av fn=some g:=by unfold Av;rw [hb];simp [GD,GF]
 obtain⟨VN,Pk⟩:=ka g hG;unfold aaJ at jx;rw [hb] at jx;dsimp only at jx;rw [GD] at jx;dsimp only at jx;rw [GF] at jx;dsimp only at jx;rw [qI,lF] at jx;split at jx;case h_2=>cases jx
 rename_i _ _ _ iA t0' t2' jz e0 e2;cases e0;cases e2;split at jx;case isFalse=>cases jx
 rename_i AM;simp only [aW,jk,cu] at AM;obtain⟨⟨afE,rR⟩,sE⟩:=AM;simp only [az,cy] at jx;obtain⟨rfl,rfl,rfl⟩:=jx;have VO:=Ek jz;have VP:=aeT (w:=w) jh hs.1 (by simpa using hs.2);refine calls_of_wp_defers hf hb ?_
 let K:=FI ⟨.seq (.BP t0) t2,r,nd⟩ (xA R RP)
 have h0:fN P (fun ch=>K (.panic ch)) (fun e w X=>den P t2 K e w X) t0 (kA args) w (aV w):=h;replace h0:=vt t0 _ (List.all_eq_true.2 afE) h0;have h0':fN P (fun _ _ _ _=>False) (fun e w' X'=>e=yd t0 (kA args)∧den P t2 K e w' X') t0 (kA args) w (aV w):=vu t0 _ (List.all_eq_true.2 afE) h0;refine wp_seq (wp_region_list (N9 (P:=P) (pl:=pl) (ds:=⟨[],[]⟩) ?_ ?_ GC.toList .start t0 _ _ _ _ _ qI (fun _ _ _ hp=>by cases hp) VP h0'));case refine_2=>exact fun ch a' w' dv X' dX _ hk _ hq=>hq.elim
 rintro Rs a1 w1 tL X1 St au ⟨aiO,EX⟩;replace au:=au.drop
 show(ya (yb id1 qo false) rest).wp P (bodyPostD P fn R) a1 w1
 have mN: ∀b∈iA,(∃n,look pl.boxes b=some n)∧ ∃k,a1.tmps[b]? =some (dT k 0):=fun b eY=>by
  have h1:=sE b eY;obtain⟨⟨h1,h2⟩,h3⟩:=h1;obtain⟨n,hn⟩:=Option.isSome_iff_exists.1 h1;rw [←aiO] at h2;obtain⟨cells,AO⟩:=qG.1 h2;obtain⟨k,ty,g1,_⟩:=au.box b n hn cells AO;exact⟨⟨n,hn⟩,k,g1⟩
 obtain⟨ks,tv,AS⟩:=Qy iA fun b eY=>(mN b eY).2;have aaK: ∀p,p∈iA.zip (ks.map fun k=>dT k 0)→a1.tmps[p.1]? =some p.2∧((∃n k,look pl.boxes p.1=some n∧p.2=dT k 0)∨pl.ij p.1=true):=fun p hp=>by
  obtain⟨i,g1,g2⟩:=BM hp;obtain⟨k,g3,g4⟩:=AS i p.1 g1;rw [dO,g3] at g2;simp only [bt,az] at g2;obtain⟨⟨n,hn⟩,_⟩:=mN p.1 (cw g1);exact⟨by rw [←g2];exact g4,.inl ⟨n,k,hn,g2.symm⟩⟩
 have aeU:ks.Nodup:=by
  have hcn:=El rR;refine Ss fun i j k hi hj=>?_;have AZ:i<iA.length:=by rw [←tv];exact(List.getElem?_eq_some_iff.1 hi).1
  have BY:j<iA.length:=by rw [←tv];exact(List.getElem?_eq_some_iff.1 hj).1
  have gi:iA[i]? =some iA[i]:=bE AZ;have gj:iA[j]? =some iA[j]:=bE BY;obtain⟨k1,e1,f1⟩:=AS i _ gi;obtain⟨k2,e2,f2⟩:=AS j _ gj;rw [hi] at e1;cases e1;rw [hj] at e2;cases e2;obtain⟨⟨m1,oM⟩,_⟩:=mN iA[i] (nw AZ);obtain⟨⟨m2,iv⟩,_⟩:=mN iA[j] (nw BY);have:=au.inj iA[i] iA[j] m1 m2 oM iv (au.conv _ _ oM _ f1) (au.conv _ _ iv _ f2) k f1 f2;exact(xZ hcn).1 this
 refine wp_seq (wp_region_list ?_);rw [GD];have Dz:bQ mk (yielded qo a1.tmps)=true:=by simp [bQ,hmg]
 have Pm:vL.map a1.eval=(ks.map fun k=>dT k 0).toArray:=by
  apply py;rw [jm,VO,List.map_map];refine wU fun i=>?_;rw [dO,dO];cases Rw:iA[i]? with
  |none=>
   have:ks[i]? =none:=by rw [qu] at Rw⊢;omega
   rw [this];rfl
  |some b=>
   obtain⟨k,g1,g2⟩:=AS i b Rw;rw [g1];simp [fH,gw,g2]
 have DJ:(execOp a1.eval mk).run P w1= .ok (.value (.func (.func g) #[] (ks.map fun k=>dT k 0).toArray)) w1:=by
  rw [←Pm];simp [execOp,GF,cp]
 have aaL: ∀b∈iA,b≠d':=fun b eY e=>by
  obtain⟨⟨n,hn⟩,_⟩:=mN b eY;rw [e,RQ] at hn;cases hn
 clear Pm;generalize hcg:(ks.map fun k=>dT k 0).toArray=eB at DJ;unfold wpList;rw [if_pos Dz];left;unfold ib;rw [DJ,sF,hmd];have bT:=au.aside (v:=.func (.func g) #[] eB) iy RQ VM;have CZ:(a1.put (some d') (.func (.func g) #[] eB)).eval (.tmp d')= .func (.func g) #[] eB:=by
  have:d'<a1.tmps.size:=by rw [au.size];exact iy
  simp [fH,Act.put,gw,this]
 have JU: ∀p,p∈iA.zip (ks.map fun k=>dT k 0)→(a1.put (some d') (.func (.func g) #[] eB)).tmps[p.1]? =some p.2∧((∃n k,look pl.boxes p.1=some n∧p.2=dT k 0)∨pl.ij p.1=true):=fun p hp=>by
  obtain⟨g1,g2⟩:=aaK p hp;obtain⟨i,g3,_⟩:=BM hp;exact⟨by rw [eG _ _ _ _ (aaL p.1 (cw g3))];exact g1,g2⟩
 generalize a1.put (some d') (.func (.func g) #[] eB)=a2 at bT CZ JU;have jI:(execOp a2.eval df).run P w1= .ok (.defer { target:=.fn (.func g) eB,args:= #[] }) w1:=by
  simp [execOp,VL,resolve,CZ,im]
 unfold wpList;have hw:bQ df (yielded qo a2.tmps)=true:=by simp [bQ,Pj]
 rw [if_pos hw];left;unfold ib;rw [jI,sG,TY]
 show rest.wp P (bodyPostD P fn R) { a2 with defers:= { target:=.fn (.func g) eB,args:= #[] } ::a2.defers } w1
 rw [bT.defers];have ea:ek pl ⟨[{ target:=.fn (.func g) eB,args:= #[] }],iA.zip (ks.map fun k=>dT k 0)⟩ .start tL X1 St { a2 with defers:=[{ target:=.fn (.func g) eB,args:= #[] }] } w1:=
  ⟨bT.size,rfl,JU,bT.ext,bT.sM,bT.nP,bT.sig,bT.box,bT.inj,bT.conv,bT.live,bT.ptr⟩
 have nS:=kr t2 (K':=fun ex e w' X'=>K ex e w' X'∧ ∀s,¬s∈t2.wr→e s=tL s) EX fun ex e w' X' _ he hk=>⟨hk,he⟩;refine wp_mono (E9 (pl:=pl) (ds:=⟨[{ target:=.fn (.func g) eB,args:= #[] }],iA.zip (ks.map fun k=>dT k 0)⟩) rest t2 _ tL X1 St _ w1 lF (fun b eY p hp e=>?_) ea nS) fun ex a' w' hq=>?_
 ·obtain⟨i,g1,_⟩:=BM hp;have h1:=(sE p.1 (cw g1)).2;rw [e,y6.2 eY] at h1;cases h1
 have JV: ∀w',(invoke (.fn (.func g) eB) #[]).run P w'= .ok (.enter g eB) w':=fun w'=>by
  simp only [invoke];have:=kM VN (#[]++eB) w';simpa using this
 have done:(∃env X w0,ek pl ⟨[{ target:=.fn (.func g) eB,args:= #[] }],iA.zip (ks.map fun k=>dT k 0)⟩ .start env X w0 a' w'∧K .ret env w0 X∧ ∀s,¬s∈t2.wr→env s=tL s)→Leaves P fn a'.tmps R a'.defers .returning w':=by
  rintro⟨e,X',dX,h5,h6,_⟩;have VQ:aB (nd.all fun b=>bH (e b)) (∀wa,Kp X' dX wa→R (.returned (MG r e)) wa):=h6;obtain⟨h7,h8⟩:=dk.1 VQ;rw [h5.defers];refine leaves_cons (by simp) (f:=g) (args:=eB) (JV w') ?_;refine(Pk eB w').mono ?_;rintro _ _ jg ⟨⟨x,rfl⟩,rfl,rfl⟩;exact⟨_,BK h5 tD (List.all_eq_true.1 h7),h8 jg h5.ext⟩
 cases ex with
 |normal=>exact done hq
 |ret=>exact done hq
 |panic ch=>
  obtain⟨h5,e,X',dX,h6,⟨h7,he⟩,vY⟩:=hq
  show Leaves P fn a'.tmps R a'.defers (.panicking ch) w'
  rw [h5];refine leaves_cons (by simp) (f:=g) (args:=eB) (JV w') ?_;have zU: ∀(i:Nat) b k,iA[i]? =some b→ks[i]? =some k→a'.tmps[b]? =some (dT k 0)∧ ∃n cells ty,look pl.boxes b=some n∧e b= .agg cells∧w'.heap[k]? =some (.cells cells ty (0,0))∧cells.size=n∧ ¬X' k:=fun i b k g1 g2=>
by
   obtain⟨q1,q2⟩:=vY.2 (b,dT k 0) (cw (i:=i) (by rw [lN];exact⟨g1,by rw [dO,g2];rfl⟩));refine⟨q1,?_⟩;rcases q2 with q2|⟨n,k',cells,ty,q3,q4⟩
   ·obtain⟨⟨n,hn⟩,_⟩:=mN b (cw g1);rw [(nz q2).2.1] at hn;cases hn
   ·have:k=k':=by simpa [dT] using q3
    subst this;exact⟨n,cells,ty,q4⟩
  have JE: ∀(i:Nat) b,iA[i]? =some b→bH (e b)=true:=fun i b g1=>by
   obtain⟨k,g2,_⟩:=AS i b g1;obtain⟨_,_,cells,_,_,g4,_⟩:=zU i b k g1 g2;rw [g4];rfl
  have hkX: ∀k,k∈ks→ ¬X' k:=fun k hm=>by
   obtain⟨i,g1⟩:=tM hm;have AZ:i<iA.length:=by rw [←tv];exact(List.getElem?_eq_some_iff.1 g1).1
   obtain⟨_,_,_,_,_,_,_,_,g9⟩:=zU i _ k (bE AZ) g1;exact g9
  rw [←hcg];refine(tt ks (iA.map fun b=>(e b).cells) ch w' tv (by simp) aeU (fun i k cells g1 g2=>?_) (fun i v cells g1 g2=>?_) (fun i b n cells g1 g2 g3=>?_) fun wa ho=>h7 wa (ho.kp h6 vY.1 hkX)).mono ?_
  ·rw [dO] at g2;obtain⟨b,g3,rfl⟩:=Option.map_eq_some_iff.1 g2;obtain⟨_,_,cells,ty,_,g4,g5,_⟩:=zU i b k g3 g1;rw [g4];exact⟨ty,g5⟩
  ·rw [dO] at g1 g2;obtain⟨b,g3,rfl⟩:=Option.map_eq_some_iff.1 g2;rw [g3] at g1;simp only [bt,az] at g1;split at g1
   ·cases g1
   ·rename_i hnw;have alZ: ¬b∈t2.wr:=fun hm=>hnw (y6.2 hm);rw [he b alZ,aiO];generalize yd t0 (kA args) b=u at g1;unfold aiN at g1;split at g1
    ·cases g1;rfl
    ·cases g1
  ·rw [dO,g1] at g3;simp only [bt,az] at g3;obtain⟨k,g4,_⟩:=AS i b g1;obtain⟨_,n',rS,ty,q1,q2,q3,q4,_⟩:=zU i b k g1 g4;rw [g2] at q1;cases q1;rw [←g3,q2];exact q4
  ·rintro e' u jg ⟨⟨x,rfl⟩,aeV,v,hR,aaM⟩
   show Leaves P fn a'.tmps R [] (settle u) jg
   rw [aeV];exact⟨v,aaM a'.tmps fun i b k g1 g2=>(zU i b k g1 g2).1,hR⟩
 |exit i=>obtain⟨e,X',dX,h5,h6,_⟩:=hq;exact h6.elim
 |goto i=>obtain⟨e,X',dX,h5,h6,_⟩:=hq;exact h6.elim
 |outgrown=>exact hq.elim
theorem JW {f:FuncId} {fn:Func} {pl:bp} {args:Array Value} {w:World} {R:Ending→World→Prop} {V:Prop} (hf:P.funcs[f]? =some fn)
  (hs:(decide (args.size≤pl.n)&&pl.boxes.all fun p=>decide (args.size≤p.1))=true) (ka: ∀g,Av fn=some g→Idle P g) (hR: ∀ch w,¬R (.panicked ch) w) (hv:V=Nu P (ftE P pl fn) R args w) (h:V):Calls P f args w R:=by
 subst hv;unfold Nu at h;simp only [aW,decide_eq_true_eq] at hs;split at h;case h_2=>exact h.elim
 rename_i ft hc;unfold ftE at hc;split at hc;case isFalse=>cases hc
 rename_i hn;have jh:fn.ntmps=pl.n:=by simpa using hn
 split at hc;case h_2=>cases hc
 rename_i _ id0 GC id1 qo rest hb;split at hc;case h_2=>cases hc
 rename_i _ mk df GD;split at hc;case h_2=>cases hc
 rename_i _ _ _ _ _ _ g vL d' d RL GF hmg hmd VL Pj TY;split at hc;case h_2=>cases hc
 rename_i _ _ _ t0 t2 r nd qI lF tD;split at hc;case isFalse=>cases hc
 rename_i mK;simp only [aW,beq_iff_eq,cu,decide_eq_true_eq,fA] at mK;obtain⟨⟨⟨Dr,iy⟩,RQ⟩,VM⟩:=mK;subst Dr;injection hc with hc
 subst hc;have hG:Av fn=some g:=by unfold Av;rw [hb];simp [GD,GF]
 obtain⟨VN,Pk⟩:=ka g hG;have VP:=aeT (w:=w) jh hs.1 (by simpa using hs.2);refine calls_of_wp_defers hf hb ?_
 let K:=FI ⟨.seq (.BP t0) t2,r,nd⟩ R
 have hKp: ∀ch env X w0 w',Kp X w0 w'→K (.panic ch) env w0 X→False:=fun ch env X w0 w' hk hq=>hR _ _ (hq w' hk);have h0:fN P (fun ch=>K (.panic ch)) (fun e w X=>den P t2 K e w X) t0 (kA args) w (aV w):=h;refine wp_seq (wp_region_list (N9 (P:=P) (pl:=pl) (ds:=⟨[],[]⟩) ?_ ?_ GC.toList .start t0 _ _ _ _ _ qI (fun _ _ _ hp=>by cases hp) VP h0));case refine_2=>exact fun ch a' w' dv X' dX _ hk _ hq=>(hKp _ _ _ _ _ hk hq).elim
 intro Rs a1 w1 tL X1 St au EX;replace au:=au.drop
 show(ya (yb id1 qo false) rest).wp P (bodyPostD P fn R) a1 w1
 refine wp_seq (wp_region_list ?_);rw [GD];have Dz:bQ mk (yielded qo a1.tmps)=true:=by simp [bQ,hmg]
 have DJ:(execOp a1.eval mk).run P w1= .ok (.value (.func (.func g) #[] (vL.map a1.eval))) w1:=by
  simp [execOp,GF,cp]
 generalize vL.map a1.eval=eB at DJ;unfold wpList;rw [if_pos Dz];left;unfold ib;rw [DJ,sF,hmd];have bT:=au.aside (v:=.func (.func g) #[] eB) iy RQ VM;have CZ:(a1.put (some d') (.func (.func g) #[] eB)).eval (.tmp d')= .func (.func g) #[] eB:=by
  have:d'<a1.tmps.size:=by rw [au.size];exact iy
  simp [fH,Act.put,gw,this]
 generalize a1.put (some d') (.func (.func g) #[] eB)=a2 at bT CZ;have jI:(execOp a2.eval df).run P w1= .ok (.defer { target:=.fn (.func g) eB,args:= #[] }) w1:=by
  simp [execOp,VL,resolve,CZ,im]
 unfold wpList;have hw:bQ df (yielded qo a2.tmps)=true:=by simp [bQ,Pj]
 rw [if_pos hw];left;unfold ib;rw [jI,sG,TY]
 show rest.wp P (bodyPostD P fn R) { a2 with defers:= { target:=.fn (.func g) eB,args:= #[] } ::a2.defers } w1
 rw [bT.defers];have ea:=bT.defs (AK:=[{ target:=.fn (.func g) eB,args:= #[] }]);refine wp_mono (E9 (pl:=pl) (ds:=⟨[{ target:=.fn (.func g) eB,args:= #[] }],[]⟩) rest t2 K tL X1 St _ w1 lF (fun _ _ _ hp=>by cases hp) ea EX) fun ex a' w' hq=>?_;have done:(∃env X w0,ek pl ⟨[{ target:=.fn (.func g) eB,args:= #[] }],[]⟩ .start env X w0 a' w'∧K .ret env w0 X)→Leaves P fn a'.tmps R a'.defers .returning w':=by
  rintro⟨e,X',dX,h5,h6⟩;have VQ:aB (nd.all fun b=>bH (e b)) (∀wa,Kp X' dX wa→R (.returned (MG r e)) wa):=h6;obtain⟨h7,h8⟩:=dk.1 VQ;rw [h5.defers];refine leaves_cons (by simp) (f:=g) (args:=eB) ?_ ?_
  ·simp only [invoke];have:=kM VN (#[]++eB) w';simpa using this
  ·refine(Pk eB w').mono ?_;rintro _ _ jg ⟨⟨x,rfl⟩,rfl,rfl⟩;exact⟨_,BK h5 tD (List.all_eq_true.1 h7),h8 jg h5.ext⟩
 cases ex with
 |normal=>exact done hq
 |ret=>exact done hq
 |panic ch=>obtain⟨h5,e,X',dX,h6,h7,_⟩:=hq;exact(hKp _ _ _ _ _ h6 h7).elim
 |exit i=>obtain⟨e,X',dX,h5,h6⟩:=hq;exact h6.elim
 |goto i=>obtain⟨e,X',dX,h5,h6⟩:=hq;exact h6.elim
 |outgrown=>exact hq.elim
end Go.aR
set_option linter.unusedVariables false
set_option linter.unusedSimpArgs false
namespace Go.aR
variable {P : Program} {R : Ending → World → Prop} {X F G : XS} {w w0 : World} {m : Bool}
def Ge (F:XS) (w0:World) (Q:Value→World→Prop) (QP:List PanicEntry→World→Prop):Ending→World→Prop:=fun e w'=>
 (∃v,e= .returned v∧Fr F w0 w'∧Q v w')∨ ∃ch,e= .panicked ch∧Fr F w0 w'∧QP ch w'
def RU (P:Program) (f:FuncId) (args:Array Value) (w:World) (X F:XS) (Q:Value→World→World→Prop) (QP:List PanicEntry→World→World→Prop):Prop:=
 ∀wa,Kp X w wa→Calls P f args wa (Ge F wa (fun v w'=>Q v wa w') fun ch w'=>QP ch wa w')
theorem RU.mono {f:FuncId} {args:Array Value} {Q Q':Value→World→World→Prop} {QP QP':List PanicEntry→World→World→Prop} (h:RU P f args w X F Q QP) (k: ∀v wa w',Kp X w wa→Q v wa w'→Q' v wa w') (kp: ∀ch wa w',Kp X w wa→QP ch wa w'→QP' ch wa w'):RU P f args w X F Q' QP':=
 fun wa hk=>(h wa hk).mono fun _ _ hq=>hq.imp (fun ⟨v,he,hf,hq⟩=>⟨v,he,hf,k v wa _ hk hq⟩) fun ⟨v,he,hf,hq⟩=>⟨v,he,hf,kp v wa _ hk hq⟩
theorem ake {f:FuncId} {args:Array Value} {N:Value→World→XS→Prop} {Q:Value→World→World→Prop} {QP:List PanicEntry→World→World→Prop}
  (h:RU P f args w X F Q QP) (hf:enters P f=true) (hX: ∀k,X k→k<w.heap.size) (hF: ∀k,F k→X k)
  (k: ∀v wa w' X',Q v wa w'→w.heap.size≤wa.heap.size→(∀k,made wa w' k→X' k)→Kp X w wa→ez F X w X' w'→N v w' X')
  (kp: ∀ch wa w' X',QP ch wa w'→w.heap.size≤wa.heap.size→(∀k,made wa w' k→X' k)→Kp X w wa→ez F X w X' w'→ ∀wb,Kp X' w' wb→R (.panicked ch) wb):eC P R X w true f args N:=by
 intro wa hk;unfold iF;rw [kM hf args wa];refine⟨rfl,(h wa hk).mono ?_⟩;rintro e w' (⟨v,rfl,Mn,hq⟩|⟨ch,rfl,Mn,hq⟩)
 ·exact⟨Mn.mono hF,k v wa w' _ hq hk.size (fun g hg=>.inr hg) hk (ez.aaG hX hk Mn)⟩
 ·exact⟨Mn.mono hF,kp ch wa w' _ hq hk.size (fun g hg=>.inr hg) hk (ez.aaG hX hk Mn)⟩
theorem Yy {t:TypeId} {x:Value} {N:Value→World→XS→Prop} (hX: ∀k,X k→k<w.heap.size) (h: ∀wa,Kp X w wa→R (.panicked [{ v:=.iface t x,recovered:=false }]) wa):eV P R X w m (xY (.iface t x)) N:=by
 intro wa hk;have hr:(vS (xY (.iface t x))).run P wa= .halt (.panic (.iface t x)) wa:=by simp [vS,xY,goPanic,Sem.run]
 unfold iF;rw [hr];refine⟨Step.eE (Ext.refl wa),fun wb hb=>h wb ⟨hb.os.trans hk.os,hb.tape.trans hk.tape,hb.output.trans hk.output,ah hk.size hb.size,fun k hx=>(hb.block k (.inl hx)).trans (hk.block k hx)⟩⟩
def isIface (P:Program) (t:TypeId):Bool:=match P.underlying t with
 |some (.interface _)=>true
 |some _=>false
 |none=>true
theorem Yw {t:TypeId} {x:Value} {N:Value→Prop} (ht:isIface P t=false) (h:N (.iface t x)):ae P X w (jt t x) N:=by
 unfold isIface at ht;cases hu:P.underlying t with
 |none=>simp [hu] at ht
 |some d=>refine cd (v:=.iface t x) (fun wa=>?_) h;cases d<;>simp_all [jt,run_underlying hu]
section
variable {F0 X' : XS} {Q : Value → World → World → Prop} {QP : List PanicEntry → World → World → Prop} {N : Value → World → XS → Prop} {f : FuncId} {args : Array Value}
theorem Ft.Tx (hT:Ft w0 F0 w X F) (h:RU P f args w X G Q QP) (hf:enters P f=true) (hG: ∀k,G k→F k)
  (k: ∀v wa w' X',Q v wa w'→w.heap.size≤wa.heap.size→(∀k,made wa w' k→X' k)→Ft w0 F0 w' X' (fun k=>F k∨made wa w' k)→ez G X w X' w'→N v w' X')
  (kp: ∀ch wa w' X',QP ch wa w'→w.heap.size≤wa.heap.size→(∀k,made wa w' k→X' k)→Ft w0 F0 w' X' (fun k=>F k∨made wa w' k)→ez G X w X' w'→ ∀wb,Kp X' w' wb→R (.panicked ch) wb):eC P R X w true f args N:=
 ake h hf hT.s.has (fun q hq=>hT.bK q (hG q hq)) (fun v wa w' X' hq hle fO _ hc=>k v wa w' X' hq hle fO (hT.fL hc hG fun q hq=>hq.imp id fun hm=>⟨fO q hm,ah hle hm.1⟩) hc)
  fun ch wa w' X' hq hle fO _ hc=>kp ch wa w' X' hq hle fO (hT.fL hc hG fun q hq=>hq.imp id fun hm=>⟨fO q hm,ah hle hm.1⟩) hc
theorem Ft.fr (h:Ft w0 F0 w X F) {wa:World} (hk:Kp X w wa):Fr F0 w0 wa:=
 ⟨hk.os.trans h.s.kp.os,hk.tape.trans h.s.kp.tape,hk.output.trans h.s.kp.output,ah h.s.kp.size hk.size,
  fun k hl hn=>(hk.block k (h.s.sub k ⟨hl,hn⟩)).trans (h.s.kp.block k ⟨hl,hn⟩)⟩
theorem Ft.adl {v:Value} {Q:Value→World→Prop} {QP:List PanicEntry→World→Prop} (h:Ft w0 F0 w X F) (hq: ∀wa,Kp X w wa→Q v wa):aR.fin (Ge F0 w0 Q QP) X w v:=
 fun wa hk=>.inl ⟨v,rfl,h.fr hk,hq wa hk⟩
theorem Ft.gg {ch:List PanicEntry} {Q:Value→World→Prop} {QP:List PanicEntry→World→Prop} (h:Ft w0 F0 w X F) {wa:World} (hk:Kp X w wa) (hq:QP ch wa):Ge F0 w0 Q QP (.panicked ch) wa:=.inr ⟨ch,rfl,h.fr hk,hq⟩
theorem acB {R:Ending→World→Prop} {RP:List PanicEntry→World→Prop} {v:Value} (h:aR.fin R X w v):aR.fin (xA R RP) X w v:=fun wa hk=>h wa hk
theorem Ft.ahl {v:Value} {Q:Value→World→Prop} {RP:List PanicEntry→World→Prop} (h:Ft w0 F0 w X F) (hq: ∀wa,Kp X w wa→Q v wa):aR.fin (xA (xv F0 w0 Q) RP) X w v:=
 acB (h.fin hq)
theorem Ft.ret {v:Value} {Q:Value→World→Prop} (h:Ft w0 F0 w X F) {wa:World} (hk:Kp X w wa) (hq:Q v wa):xv F0 w0 Q (.returned v) wa:=⟨v,rfl,h.fr hk,hq⟩
theorem Ct.Tx (hT:Ft w0 F0 w X F) (h:Ct P f args w X G Q) (hf:enters P f=true) (hG: ∀k,G k→F k)
  (k: ∀v wa w' X',Q v wa w'→w.heap.size≤wa.heap.size→(∀k,made wa w' k→X' k)→Ft w0 F0 w' X' (fun k=>F k∨made wa w' k)→ez G X w X' w'→N v w' X'):eC P R X w true f args N:=
 hT.call h hf hG k
end
end Go.aR
set_option linter.unusedVariables false
set_option linter.unusedSimpArgs false
namespace Go.aR
variable {P : Program}
def akf (ops:Array Oper):Bool:=match ops.toList with
 |[mk,df]=>match mk.op,mk.guard,mk.dst,df.op,df.guard,df.dst with
  | .makeFunc (.func _) ⟨[]⟩ _,none,some d',.defer ⟨.value (.tmp d),⟨[]⟩,_⟩,none,none=>d'==d
  |_,_,_,_,_,_=>false
 |_=>false
def Ab:Code→Option (Code×Nat×Array Oper×Code)
 | .seq (.region id ops false) rest=>if akf ops then some (.skip,id,ops,rest)else match Ab rest with
  |some (p,i,o,r)=>some (.seq (.region id ops false) p,i,o,r)
  |none=>none
 | .seq a b=>match Ab b with
  |some (p,i,o,r)=>some (.seq a p,i,o,r)
  |none=>none
 |_=>none
def VR (fn:Func):Option (Code×Nat×Array Oper×Code):=match fn.body with
 |some c=>Ab c
 |none=>none
def ftL (P:Program) (pl:bp) (fn:Func):Option FT:=
 if fn.ntmps==pl.n then match VR fn with
  |some (c1,_,qo,rest)=>match qo.toList with
   |[mk,df]=>match mk.op,mk.guard,mk.dst,df.op,df.guard,df.dst with
    | .makeFunc (.func _) ⟨[]⟩ vL,none,some d',.defer ⟨.value (.tmp d),⟨[]⟩,_⟩,none,none=>match iq P pl c1,qp vL.toList,iq P pl rest,Al P pl fn.results.toList with
     |some t1,some cb,some t2,some (r,n)=>if d'==d&&decide (d<pl.n)&&(look pl.boxes d).isNone&&!pl.ij d&&JR cb&&cb.all (fun b=>(look pl.boxes b).isSome&&!CU t2.mk b)then some ⟨.seq t1 (.seq (.BP (cb.map .uz)) t2),r,n⟩else none
     |_,_,_,_=>none
    |_,_,_,_,_,_=>none
   |_=>none
  |none=>none
 else none
def Vc (fn:Func):Option (FuncId×List Nat):=match VR fn with
 |some (_,_,qo,_)=>match qo.toList with
  |[mk,_]=>match mk.op with
   | .makeFunc (.func g) _ vL=>(qp vL.toList).map fun cb=>(g,cb)
   |_=>none
  |_=>none
 |none=>none
def noP (R:Ending→World→Prop):Ending→World→Prop
 | .panicked _,_=>False
 |e,w=>R e w
def aiP (P:Program) (o:Option FT) (R1 R2:Ending→World→Prop) (args:Array Value) (w:World):Prop:=match o with
 |some ft=>match ft.code with
  | .seq t1 t2=>den P t1 (jH.CT (fun e w X=>den P t2 (FI ft R2) e w X) (FI ft R1)) (kA args) w (aV w)
  |_=>False
 |none=>False
theorem aaN {pl:bp} {next:Env→World→XS→Prop} {K:jH} {Q:Exit→Act→World→Prop} {id:Nat} {o1:Array Oper} {rest:Code}
  (hn: ∀env X w0 a w,ek pl ⟨[],[]⟩ .start env X w0 a w→next env w0 X→(ya (yb id o1 false) rest).wp P Q a w)
  (hK: ∀ex a w,ex≠ .normal→QP pl ⟨[],[]⟩ K ex a w→Q ex a w): ∀(c c1:Code),Ab c=some (c1,id,o1,rest)→ ∀(t1:T) (env:Env) (X:XS) (w0:World) (a:Act) (w:World),
   iq P pl c1=some t1→ek pl ⟨[],[]⟩ .start env X w0 a w→den P t1 (jH.CT next K) env w0 X→c.wp P Q a w:=by
 intro c
 induction c with
 |seq x y ihx ihy=>
  intro c1 hs t1 env X w0 a w hc h hd;have key: ∀p,Ab y=some (p,id,o1,rest)→c1= .seq x p→(ya x y).wp P Q a w:=fun p hp On=>by
   subst On;simp only [iq] at hc;cases hx:iq P pl x with
   |none=>simp [hx] at hc
   |some tx=>
    cases hy:iq P pl p with
    |none=>simp [hx,hy] at hc
    |some ty=>
     simp only [hx,hy,az] at hc;have Dr:den P (.seq tx ty) (jH.CT next K) env w0 X:=by
      subst hc;split at hd
      ·exact hd
      ·show den P tx (jH.CT (fun e w X=>den P .skip (jH.CT next K) e w X) (jH.CT next K)) env w0 X
       refine kr tx hd fun ex e w' X' _ _ hq=>?_;cases ex<;>exact hq
      ·exact hd
     refine wp_seq (wp_mono (E9 (pl:=pl) (ds:=⟨[],[]⟩) x tx _ env X w0 a w hx (fun _ _ _ hp=>by cases hp) h Dr) fun ex a' w' hq=>?_);cases ex with
     |normal=>
      obtain⟨e,X',dX,h1,h2⟩:=hq;exact ihy p hp ty e X' dX a' w' hy h1 h2
     |exit i=>exact hK _ _ _ (by simp) hq
     |goto i=>exact hK _ _ _ (by simp) hq
     |ret=>exact hK _ _ _ (by simp) hq
     |panic c=>exact hK _ _ _ (by simp) hq
     |outgrown=>exact hK _ _ _ (by simp) hq
  unfold Ab at hs;split at hs
  ·rename_i id' ops amJ heq;simp only [Aa] at heq;obtain⟨rfl,rfl⟩:=heq;split at hs
   ·simp only [az,cy] at hs;obtain⟨rfl,rfl,rfl,rfl⟩:=hs;simp only [iq,az] at hc;subst hc;exact hn env X w0 a w h hd
   ·split at hs
    ·rename_i p i o r hp;simp only [az,cy] at hs;obtain⟨rfl,rfl,rfl,rfl⟩:=hs;exact key p hp rfl
    ·cases hs
  ·rename_i x' y' _ heq;simp only [Aa] at heq;obtain⟨rfl,rfl⟩:=heq;split at hs
   ·rename_i p i o r hp;simp only [az,cy] at hs;obtain⟨rfl,rfl,rfl,rfl⟩:=hs;exact key p hp rfl
   ·cases hs
  ·cases hs
 |_=>intro c1 hs;simp [Ab] at hs
theorem Su {K:Env→World→XS→Prop} {gg:List PanicEntry→Env→World→XS→Prop} {env:Env} {w:World} {X:XS} : ∀(l:List Nat),fN P gg K (l.map TI.uz) env w X→(∀b∈l,bH (env b)=true)∧K env w X
 |[],h=>⟨fun _ h=>(by cases h),h⟩
 |b::l,h=>by
  have h':=dk.1 h;have ih:=Su l h'.2;exact⟨fun c hc=>by
   rcases List.mem_cons.1 hc with rfl|hc
   ·exact h'.1
   ·exact ih.1 c hc,ih.2⟩
theorem ZX {pl:bp} {fn:Func} {R:Ending→World→Prop} {g:FuncId} {cb:List Nat} :Dp P pl fn R g cb [] fun _ _=>False:=
 fun ks IW ch w' _ _ _ _ _ _ h=>(h w' (Outside.refl _ _)).elim
theorem JX {f:FuncId} {fn:Func} {pl:bp} {args:Array Value} {w:World} {R:Ending→World→Prop} {RP:List PanicEntry→World→Prop} {g0:FuncId} {cb:List Nat} {V:Prop} (hf:P.funcs[f]? =some fn)
  (hs:(decide (args.size≤pl.n)&&pl.boxes.all fun p=>decide (args.size≤p.1))=true) (jx:Vc fn=some (g0,cb)) (ka:Idle P g0) (tt:Dp P pl fn R g0 cb [] RP) (hv:V=aiP P (ftL P pl fn) (noP R) (xA R RP) args w) (h:V):Calls P f args w R:=by
 subst hv;unfold aiP at h;simp only [aW,decide_eq_true_eq] at hs;split at h;case h_2=>exact h.elim
 rename_i ft hc;unfold ftL at hc;split at hc;case isFalse=>cases hc
 rename_i hn;have jh:fn.ntmps=pl.n:=by simpa using hn
 split at hc;case h_2=>cases hc
 rename_i _ c1 id1 qo rest C6;split at hc;case h_2=>cases hc
 rename_i _ mk df GD;split at hc;case h_2=>cases hc
 rename_i _ _ _ _ _ _ g vL d' d RL GF hmg hmd VL Pj TY;split at hc;case h_2=>cases hc
 rename_i _ _ _ _ t1 iA t2 r nd On jz lF tD;split at hc;case isFalse=>cases hc
 rename_i mK;simp only [aW,beq_iff_eq,cu,decide_eq_true_eq,fA,jk] at mK;obtain⟨⟨⟨⟨⟨Dr,iy⟩,RQ⟩,VM⟩,rR⟩,sE⟩:=mK;subst Dr;injection hc with hc
 subst hc;unfold Vc at jx;rw [C6] at jx;dsimp only at jx;rw [GD] at jx;dsimp only at jx;rw [GF] at jx;dsimp only at jx;rw [jz] at jx;simp only [bt,az,cy] at jx;obtain⟨rfl,rfl⟩:=jx;obtain⟨VN,Pk⟩:=ka;have VO:=Ek jz;have VP:=aeT (w:=w) jh hs.1 (by simpa using hs.2);have akg: ∃c,fn.body=some c∧Ab c=some (c1,id1,qo,rest):=by
  unfold VR at C6;split at C6
  ·rename_i c hb;exact⟨c,hb,C6⟩
  ·cases C6
 obtain⟨c,hb,al0⟩:=akg;refine calls_of_wp_defers hf hb ?_
 let K:=FI ⟨.seq t1 (.seq (.BP (iA.map .uz)) t2),r,nd⟩ (xA R RP)
 have h0:den P t1 (jH.CT (fun e w X=>den P (.seq (.BP (iA.map .uz)) t2) K e w X) (FI ⟨.seq t1 (.seq (.BP (iA.map .uz)) t2),r,nd⟩ (noP R))) (kA args) w (aV w):=h;refine aaN (P:=P) (pl:=pl) ?_ ?_ c c1 al0 t1 (kA args) (aV w) w _ w On VP h0;case refine_2=>
  intro ex a w hex hq;cases ex with
  |normal=>exact absurd rfl hex
  |ret=>
   obtain⟨e,X',dX,h5,h6⟩:=hq;have VQ:aB (nd.all fun b=>bH (e b)) (∀wa,Kp X' dX wa→R (.returned (MG r e)) wa):=h6;obtain⟨h7,h8⟩:=dk.1 VQ
   show Leaves P fn a.tmps R a.defers .returning w
   rw [h5.defers];exact⟨_,BK h5 tD (List.all_eq_true.1 h7),h8 w h5.ext⟩
  |panic ch=>obtain⟨_,e,X',dX,h6,h7,_⟩:=hq;exact(h7 w h6).elim
  |exit i=>obtain⟨e,X',dX,h5,h6⟩:=hq;exact h6.elim
  |goto i=>obtain⟨e,X',dX,h5,h6⟩:=hq;exact h6.elim
  |outgrown=>exact hq.elim
 intro tL X1 St a1 w1 au hd0;have al1:fN P (fun ch=>jH.CT (fun e w X=>den P t2 K e w X) K (.panic ch)) (fun e w X=>den P t2 K e w X) (iA.map .uz) tL St X1:=hd0;obtain⟨al2,EX⟩:=Su _ al1;have mN: ∀b∈iA,(∃n,look pl.boxes b=some n)∧ ∃k,a1.tmps[b]? =some (dT k 0):=fun b eY=>by
  obtain⟨n,hn⟩:=Option.isSome_iff_exists.1 (sE b eY).1;obtain⟨cells,AO⟩:=qG.1 (al2 b eY);obtain⟨k,ty,g1,_⟩:=au.box b n hn cells AO;exact⟨⟨n,hn⟩,k,g1⟩
 obtain⟨ks,tv,AS⟩:=Qy iA fun b eY=>(mN b eY).2;have aaK: ∀p,p∈iA.zip (ks.map fun k=>dT k 0)→a1.tmps[p.1]? =some p.2∧((∃n k,look pl.boxes p.1=some n∧p.2=dT k 0)∨pl.ij p.1=true):=fun p hp=>by
  obtain⟨i,g1,g2⟩:=BM hp;obtain⟨k,g3,g4⟩:=AS i p.1 g1;rw [dO,g3] at g2;simp only [bt,az] at g2;obtain⟨⟨n,hn⟩,_⟩:=mN p.1 (cw g1);exact⟨by rw [←g2];exact g4,.inl ⟨n,k,hn,g2.symm⟩⟩
 have aeU:ks.Nodup:=by
  have hcn:=El rR;refine Ss fun i j k hi hj=>?_;have AZ:i<iA.length:=by rw [←tv];exact(List.getElem?_eq_some_iff.1 hi).1
  have BY:j<iA.length:=by rw [←tv];exact(List.getElem?_eq_some_iff.1 hj).1
  have gi:iA[i]? =some iA[i]:=bE AZ;have gj:iA[j]? =some iA[j]:=bE BY;obtain⟨k1,e1,f1⟩:=AS i _ gi;obtain⟨k2,e2,f2⟩:=AS j _ gj;rw [hi] at e1;cases e1;rw [hj] at e2;cases e2;obtain⟨⟨m1,oM⟩,_⟩:=mN iA[i] (nw AZ);obtain⟨⟨m2,iv⟩,_⟩:=mN iA[j] (nw BY);have:=au.inj iA[i] iA[j] m1 m2 oM iv (au.conv _ _ oM _ f1) (au.conv _ _ iv _ f2) k f1 f2;exact(xZ hcn).1 this
 refine wp_seq (wp_region_list ?_);rw [GD];have Dz:bQ mk (yielded qo a1.tmps)=true:=by simp [bQ,hmg]
 have Pm:vL.map a1.eval=(ks.map fun k=>dT k 0).toArray:=by
  apply py;rw [jm,VO,List.map_map];refine wU fun i=>?_;rw [dO,dO];cases Rw:iA[i]? with
  |none=>
   have:ks[i]? =none:=by rw [qu] at Rw⊢;omega
   rw [this];rfl
  |some b=>
   obtain⟨k,g1,g2⟩:=AS i b Rw;rw [g1];simp [fH,gw,g2]
 have DJ:(execOp a1.eval mk).run P w1= .ok (.value (.func (.func g) #[] (ks.map fun k=>dT k 0).toArray)) w1:=by
  rw [←Pm];simp [execOp,GF,cp]
 have aaL: ∀b∈iA,b≠d':=fun b eY e=>by
  obtain⟨⟨n,hn⟩,_⟩:=mN b eY;rw [e,RQ] at hn;cases hn
 clear Pm;generalize hcg:(ks.map fun k=>dT k 0).toArray=eB at DJ;unfold wpList;rw [if_pos Dz];left;unfold ib;rw [DJ,sF,hmd];have bT:=au.aside (v:=.func (.func g) #[] eB) iy RQ VM;have CZ:(a1.put (some d') (.func (.func g) #[] eB)).eval (.tmp d')= .func (.func g) #[] eB:=by
  have:d'<a1.tmps.size:=by rw [au.size];exact iy
  simp [fH,Act.put,gw,this]
 have JU: ∀p,p∈iA.zip (ks.map fun k=>dT k 0)→(a1.put (some d') (.func (.func g) #[] eB)).tmps[p.1]? =some p.2∧((∃n k,look pl.boxes p.1=some n∧p.2=dT k 0)∨pl.ij p.1=true):=fun p hp=>by
  obtain⟨g1,g2⟩:=aaK p hp;obtain⟨i,g3,_⟩:=BM hp;exact⟨by rw [eG _ _ _ _ (aaL p.1 (cw g3))];exact g1,g2⟩
 generalize a1.put (some d') (.func (.func g) #[] eB)=a2 at bT CZ JU;have jI:(execOp a2.eval df).run P w1= .ok (.defer { target:=.fn (.func g) eB,args:= #[] }) w1:=by
  simp [execOp,VL,resolve,CZ,im]
 unfold wpList;have hw:bQ df (yielded qo a2.tmps)=true:=by simp [bQ,Pj]
 rw [if_pos hw];left;unfold ib;rw [jI,sG,TY]
 show rest.wp P (bodyPostD P fn R) { a2 with defers:= { target:=.fn (.func g) eB,args:= #[] } ::a2.defers } w1
 rw [bT.defers];have ea:ek pl ⟨[{ target:=.fn (.func g) eB,args:= #[] }],iA.zip (ks.map fun k=>dT k 0)⟩ .start tL X1 St { a2 with defers:=[{ target:=.fn (.func g) eB,args:= #[] }] } w1:=
  ⟨bT.size,rfl,JU,bT.ext,bT.sM,bT.nP,bT.sig,bT.box,bT.inj,bT.conv,bT.live,bT.ptr⟩
 have nS:=kr t2 (K':=fun ex e w' X'=>K ex e w' X'∧ ∀s,¬s∈t2.wr→e s=tL s) EX fun ex e w' X' _ he hk=>⟨hk,he⟩;refine wp_mono (E9 (pl:=pl) (ds:=⟨[{ target:=.fn (.func g) eB,args:= #[] }],iA.zip (ks.map fun k=>dT k 0)⟩) rest t2 _ tL X1 St _ w1 lF (fun b eY p hp e=>?_) ea nS) fun ex a' w' hq=>?_
 ·obtain⟨i,g1,_⟩:=BM hp;have h1:=(sE p.1 (cw g1)).2;rw [e,y6.2 eY] at h1;cases h1
 have JV: ∀w',(invoke (.fn (.func g) eB) #[]).run P w'= .ok (.enter g eB) w':=fun w'=>by
  simp only [invoke];have:=kM VN (#[]++eB) w';simpa using this
 have done:(∃env X w0,ek pl ⟨[{ target:=.fn (.func g) eB,args:= #[] }],iA.zip (ks.map fun k=>dT k 0)⟩ .start env X w0 a' w'∧K .ret env w0 X∧ ∀s,¬s∈t2.wr→env s=tL s)→Leaves P fn a'.tmps R a'.defers .returning w':=by
  rintro⟨e,X',dX,h5,h6,_⟩;have VQ:aB (nd.all fun b=>bH (e b)) (∀wa,Kp X' dX wa→R (.returned (MG r e)) wa):=h6;obtain⟨h7,h8⟩:=dk.1 VQ;rw [h5.defers];refine leaves_cons (by simp) (f:=g) (args:=eB) (JV w') ?_;refine(Pk eB w').mono ?_;rintro _ _ jg ⟨⟨x,rfl⟩,rfl,rfl⟩;exact⟨_,BK h5 tD (List.all_eq_true.1 h7),h8 jg h5.ext⟩
 cases ex with
 |normal=>exact done hq
 |ret=>exact done hq
 |panic ch=>
  obtain⟨h5,e,X',dX,h6,⟨h7,he⟩,vY⟩:=hq
  show Leaves P fn a'.tmps R a'.defers (.panicking ch) w'
  rw [h5];refine leaves_cons (by simp) (f:=g) (args:=eB) (JV w') ?_;have zU: ∀(i:Nat) b k,iA[i]? =some b→ks[i]? =some k→a'.tmps[b]? =some (dT k 0)∧ ∃n cells ty,look pl.boxes b=some n∧e b= .agg cells∧w'.heap[k]? =some (.cells cells ty (0,0))∧cells.size=n∧ ¬X' k:=fun i b k g1 g2=>
by
   obtain⟨q1,q2⟩:=vY.2 (b,dT k 0) (cw (i:=i) (by rw [lN];exact⟨g1,by rw [dO,g2];rfl⟩));refine⟨q1,?_⟩;rcases q2 with q2|⟨n,k',cells,ty,q3,q4⟩
   ·obtain⟨⟨n,hn⟩,_⟩:=mN b (cw g1);rw [(nz q2).2.1] at hn;cases hn
   ·have:k=k':=by simpa [dT] using q3
    subst this;exact⟨n,cells,ty,q4⟩
  have JE: ∀(i:Nat) b,iA[i]? =some b→bH (e b)=true:=fun i b g1=>by
   obtain⟨k,g2,_⟩:=AS i b g1;obtain⟨_,_,cells,_,_,g4,_⟩:=zU i b k g1 g2;rw [g4];rfl
  have hkX: ∀k,k∈ks→ ¬X' k:=fun k hm=>by
   obtain⟨i,g1⟩:=tM hm;have AZ:i<iA.length:=by rw [←tv];exact(List.getElem?_eq_some_iff.1 g1).1
   obtain⟨_,_,_,_,_,_,_,_,g9⟩:=zU i _ k (bE AZ) g1;exact g9
  rw [←hcg];refine(tt ks (iA.map fun b=>(e b).cells) ch w' tv (by simp) aeU (fun i k cells g1 g2=>?_) (fun i v cells g1 g2=>by simp at g1) (fun i b n cells g1 g2 g3=>?_) fun wa ho=>h7 wa (ho.kp h6 vY.1 hkX)).mono ?_
  ·rw [dO] at g2;obtain⟨b,g3,rfl⟩:=Option.map_eq_some_iff.1 g2;obtain⟨_,_,cells,ty,_,g4,g5,_⟩:=zU i b k g3 g1;rw [g4];exact⟨ty,g5⟩
  ·rw [dO,g1] at g3;simp only [bt,az] at g3;obtain⟨k,g4,_⟩:=AS i b g1;obtain⟨_,n',rS,ty,q1,q2,q3,q4,_⟩:=zU i b k g1 g4;rw [g2] at q1;cases q1;rw [←g3,q2];exact q4
  ·rintro e' u jg ⟨⟨x,rfl⟩,aeV,v,hR,aaM⟩
   show Leaves P fn a'.tmps R [] (settle u) jg
   rw [aeV];exact⟨v,aaM a'.tmps fun i b k g1 g2=>(zU i b k g1 g2).1,hR⟩
 |exit i=>obtain⟨e,X',dX,h5,h6,_⟩:=hq;exact h6.elim
 |goto i=>obtain⟨e,X',dX,h5,h6,_⟩:=hq;exact h6.elim
 |outgrown=>exact hq.elim
theorem Yz {R:Ending→World→Prop} {X:XS} {w:World} {v:Value} (h:aR.fin R X w v):aR.fin (noP R) X w v:=fun wa hk=>h wa hk
end Go.aR
set_option linter.unusedVariables false
set_option linter.unusedSimpArgs false
namespace Go.aR
variable {P : Program} {R : Ending → World → Prop} {X : XS} {w : World} {m : Bool}
structure Two (A B:Prop):Prop where
 a:A
 b:B
theorem q0t {A B p:Prop} (h:A→B→p):Two A B→p:=fun t=>h t.a t.b
theorem dM {A B:Prop} (a:A) (b:B):Two A B:=⟨a,b⟩
theorem q0b {p q:Prop} (h:q→p:=by first|(intro q9;first|(with_reducible first|apply agB|apply agC|apply acv|apply agy|apply agz|apply aeM|apply aeN|apply agA|apply aeO|apply aeP|apply aeB|apply aeC|apply ack|apply acm|apply aic|apply aci|apply acj|apply alP|apply alQ|apply ajQ|apply ajR|apply aiC|apply aiD|apply TE|apply agG|apply aj4);exact q9|(with_reducible apply agx);(case k=>exact q9);(· rfl)|(with_reducible apply aj1);(case k=>exact q9);(· exact qN)|(with_reducible apply aj2);(case k=>exact q9);(· exact qN)|(with_reducible apply Pe);(case k=>exact q9);(· exact qF);(· kernel_rfl);(· rfl)|(with_reducible apply ajY);(case k=>exact q9);(· exact qF);(· kernel_rfl);(· rfl);(· exact qN)|(with_reducible apply ZA);(case k=>exact q9);(· exact qF);(· exact qM);(· kernel_rfl);(· rfl)|(with_reducible apply ZR);(case k=>exact q9);(· exact qF);(· exact qM);(· kernel_rfl);(· rfl)|(with_reducible apply ajZ);(case n=>exact q9);(· exact qO);(· kernel_rfl)|(with_reducible apply aj0);(case n=>exact q9);(· assumption);(· kernel_rfl)|(with_reducible apply ajX);(case k=>exact q9);(· kernel_rfl)|(with_reducible apply afB);(case n=>exact q9);(· exact qO);(try (case hz=>rfl));(case hr=>first|assumption|(clear q9;exact List.getElem?_eq_getElem (by omega)));(try (case hz=>omega));(case ht=>kernel_rfl);(case hs=>kernel_rfl)|(with_reducible apply aaF);(case k=>exact q9);(· kernel_rfl)|(with_reducible apply aj3);(case h=>exact q9);(· rfl)|(with_reducible apply agH);(case k=>exact q9);(· kernel_rfl)|(with_reducible apply agI);(case k=>exact q9);(· kernel_rfl)|(with_reducible apply aiK);(case k=>exact q9);(· kernel_rfl)|(with_reducible apply aiL);(case k=>exact q9);(· kernel_rfl)|(with_reducible apply aiG);(case k=>exact q9);(case h=>exact qE)|(with_reducible apply aiH);(case k=>exact q9);(case h=>exact qE)|(with_reducible apply aay);(case k=>exact q9);(· exact qC)|(with_reducible apply Tz);(case h=>exact q9);(· omega);(· omega)|(with_reducible apply ajV);(case h=>exact q9);(· omega);(· omega)|(with_reducible apply aaH);(case h=>exact q9);(· kernel_rfl);(· kernel_rfl)|(with_reducible apply aj5);(case h=>exact q9);(· kernel_rfl);(· kernel_rfl)|(with_reducible apply aj8);(case k=>exact q9);(try (case hz=>rfl));(case hb=>assumption);(try (case hz=>omega));(case ht=>kernel_rfl)|(with_reducible apply aj6);(case k=>exact q9);(· kernel_rfl);(· kernel_rfl);(try (case hz=>rfl));(case hn=>omega);(case hl=>rfl)|(with_reducible apply aiJ);(case k=>exact q9);(case hf=>kernel_rfl);(case hg=>kernel_rfl);(case hlen=>rfl);(case hl=>exact qN)|(with_reducible apply aj9);(case h=>exact q9);(· rfl)|fail)|(apply q0t;intro a9 b9;first|(with_reducible first|apply aaz|apply aaD|apply aaE|apply aaA|apply aaB|apply aaC|apply aiq|apply air|apply ais|apply ait|apply aiu|apply aiv|apply aiw|apply aix|apply aiy|apply aiz|apply aiA|apply aiB|apply agu);(· exact a9);exact b9|(with_reducible apply aiF);(case hT=>exact a9);(case hF=>exact b9);(· exact qO);(· kernel_rfl)|fail)|fail):q→p:=h
theorem q0d {p q:Prop} (h:q→p:=by intro q9;first|(with_reducible refine aid ?_ ?_);rotate_left;exact q9;omega|(with_reducible refine aie ?_ ?_);rotate_left;exact q9;omega|(with_reducible refine aim ?_ ?_);rotate_left;exact q9;omega|(with_reducible refine ain ?_ ?_);rotate_left;exact q9;omega|(with_reducible refine aio ?_ ?_);rotate_left;exact q9;omega|(with_reducible refine aip ?_ ?_);rotate_left;exact q9;omega|(with_reducible refine aif ?_ ?_);rotate_left;exact q9;omega|(with_reducible refine aih ?_ ?_);rotate_left;exact q9;omega|(with_reducible refine aii ?_ ?_);rotate_left;exact q9;omega|(with_reducible refine aij ?_ ?_);rotate_left;exact q9;omega|(with_reducible refine aik ?_ ?_);rotate_left;exact q9;omega|(with_reducible refine ail ?_ ?_);rotate_left;exact q9;omega|fail):q→p:=h
theorem aL {p q:Prop} (k:q) (h:q→p:=by exact q0b):p:=h k
theorem bD {p q:Prop} (k:q) (h:q→p:=by first|exact q0d|exact q0b|fail):p:=h k
end Go.aR
namespace Go.Proofs.YtbpnemeooenpmaaGreat
open Go.Proofs.Tryz renaming prog → pg
open Go.aR
set_option maxRecDepth 100000
section
variable (R : Ending → World → Prop) (w0 : World) (X0 : XS)
noncomputable def CB:bp:=⟨210,[(9,(pg.cellsOf 27)),(10,(pg.cellsOf 56)),(15,(pg.cellsOf 44)),(19,(pg.cellsOf 38))],[74,87,93,99,103,110,137,139,144,146,151,153,158,162],[0,1,2,6,7,8,11,12,13,14,16,17,18,20,21,22,24,39,52,78,90,106,121,161,173,180],[28,29,30,31,32,33,35,36,37,38,49,50,51,54,55,56,68,69,70,71,73,75,76,77,80,81,82,136,138,140,141,143,145,147,148,150,152,154,155,157,159,160,169,170,171,172,182,183,184,185,186,194,195,196,198,199,200,201,202,204,205,206,207,208],[13,14,16,17,18]⟩
def tK (p0:Value) (p1:Int) (p2:Value):Prop:=
 (eC pg R X0 w0 true 4 #[] fun a b c=>
 ae pg c b (aY br a) fun d=>
 (ay d
 (fin R c b (B false))
 ((ae pg c b (cB 23 3 p2) fun e=>
 ae pg c b (binOp .gtr 3 e (I 100)) fun g=>
 un (aU g false p2) fun h=>
 aJ pg c b g false (vS (dw 46 #[(I 0),(I 0),(I 0),(I 0),(I 0),(I 0),(I 0),(I 0),(I 0),(I 0),(I 0),(I 0),(I 0),(I 0),(I 0),(I 0),(I 0),(I 0),(B false),(I 0),(I 0),(.slice none 0 0),(.slice none 0 0),(.slice none 0 0),(.slice none 0 0),(.slice none 0 0),(.slice none 0 0),(I 0),(I 0),(.float .f64 0),(.float .f64 0),(I 0),(I 0),(I 0),(I 0),(I 0),(I 0),(.slice none 0 0),(.slice none 0 0),h,(.slice none 0 0)] #[(4,h)])) fun i=>
 jn (fun (j:Value) (k:World) (l:XS)=>
 jn (fun (m:Value) (n:World) (o:XS)=>
 aJ pg o n g false (vS (aY br m)) fun q=>
 aC pg o n (aQ g (B true) q) fun r=>
 un (aU r false p0) fun s=>
 aJ pg o n r false (vS (cB 22 3 s)) fun t=>
 aJ pg o n r false (vS (binOp .gtr 3 t (I 100))) fun v=>
 aC pg o n (aQ r (B true) v) fun y=>
 (ay y
 (eC pg R o n true 4 #[] fun z A C=>
 (fin R C A z))
 ((eC pg R o n true 7 #[] fun D E F=>
 eC pg R F E true 6 #[D,(I 1),(I 4096),p0] fun G H L=>
 ae pg L H (aD G 0) fun M=>
 ae pg L H (aD G 1) fun N=>
 (ae pg L H (aE .neq 28 (.tmp 47) (.const (I 0)) N (I 0)) fun O=>
 un (aU O false M) fun Q=>
 aJ pg L H O false (vS (aE .eql 48 (.tmp 50) (.const (.pointer none)) Q (.pointer none))) fun S=>
 aC pg L H (aQ O (B true) S) fun T=>
 (ay T
 (eC pg R L H true 4 #[] fun U V Y=>
 un (aU U true M) fun Z=>
 aJ pg Y V U true (vS (aE .eql 48 (.tmp 55) (.const (.pointer none)) Z (.pointer none))) fun a0=>
 aC pg Y V (aQ U a0 (B false)) fun b0=>
 (fin R Y V b0))
 ((eC pg R L H true 8 #[M,(I p1),p2] fun c0 d0 e0=>
 ae pg e0 d0 (aD c0 0) fun g0=>
 ae pg e0 d0 (aD c0 1) fun h0=>
 ae pg e0 d0 (aD c0 2) fun i0=>
 un (ai (aa g0)) fun _=>
 aB (aj (ad (aa g0))==3) (aB (ao (ad (aa g0)) aR.one) (un (ai (aa h0)) fun j0=>
 aB (aj (ad (aa h0))==2) (aB (ao (ad (aa h0)) aR.one) ((ae pg e0 d0 (aE .neq 28 (.tmp 66) (.const (I 0)) i0 (I 0)) fun k0=>
 un (aU k0 false p2) fun l0=>
 jn (fun (m0:Value) (n0:World) (o0:XS)=>
 aJ pg o0 n0 k0 false (vS (aE .neq 28 (.tmp 70) (.const (I 0)) m0 (I 0))) fun q0=>
 aC pg o0 n0 (aQ k0 (B true) q0) fun r0=>
 aB (bH j0) (un (cellOf j0 1) fun s0=>
 un (aU r0 false s0) fun t0=>
 aJ pg o0 n0 r0 false (vS (cB 54 3 t0)) fun v0=>
 aJ pg o0 n0 r0 false (vS (binOp .gtr 3 v0 (I 0))) fun y0=>
 aC pg o0 n0 (aQ r0 (B true) y0) fun z0=>
 (ay z0
 (eC pg R o0 n0 true 4 #[] fun A0 C0 D0=>
 un (aU A0 true i0) fun E0=>
 aJ pg D0 C0 A0 true (vS (aE .eql 28 (.tmp 81) (.const (I 0)) E0 (I 0))) fun F0=>
 aC pg D0 C0 (aQ A0 F0 (B false)) fun G0=>
 (fin R D0 C0 G0))
 ((eC pg R o0 n0 true 10 #[p2] fun H0 L0 M0=>
 (((sQ M0 L0 (I 0) (I 0) undef undef undef 14 13 18 17 16 fun N0 O0 Q0 S0 _ _ _ T0 U0=>
 aB (bH j0) (un (cellOf j0 0) fun V0=>
 ae pg U0 T0 (cB 53 3 V0) fun Y0=>
 ae pg U0 T0 (binOp .lss 3 Q0 Y0) fun Z0=>
 (ay Z0
 ((aB (bH j0) (ae pg U0 T0 (dr 53 36 V0 Q0) fun a1=>
 ae pg U0 T0 (dY 44 36 a1) fun b1=>
 un (ai (aa b1)) fun c1=>
 aB (aj (ad (aa b1))==36) (aB (ao (ad (aa b1)) aR.one) (((aB (bH c1) (un (cellOf c1 18) fun d1=>
 eV pg R U0 T0 true (e6 31 9 1 16 31 (.slice none 0 0) d1) fun e1 g1 h1=>
 ((gS h1 g1 (I 0) e1 17 16 fun i1 j1 k1 l1 m1 n1=>
 aB (bH c1) (un (cellOf c1 20) fun o1=>
 ae pg n1 m1 (cB 33 3 o1) fun q1=>
 ae pg n1 m1 (binOp .lss 3 k1 q1) fun r1=>
 (ay r1
 ((aB (bH c1) (ae pg n1 m1 (dr 33 4 o1 k1) fun s1=>
 ae pg n1 m1 (aS 64 0 0 1 s1) fun t1=>
 ae pg n1 m1 (ld1 9 t1) fun v1=>
 eV pg R n1 m1 true (fC 31 9 1 1 #[(0,v1)]) fun y1 z1 A1=>
 eV pg R A1 z1 true (e6 31 9 1 16 31 l1 y1) fun C1 D1 E1=>
 ((ae pg E1 D1 (binOp .add 3 k1 (I 1)) fun F1=>
 gP i1 j1 F1 C1 D1 E1)))))
 ((((gG n1 m1 (I 0) 18 fun G1 H1 L1 M1 N1=>
 ae pg N1 M1 (cB 31 3 l1) fun O1=>
 ae pg N1 M1 (binOp .lss 3 L1 O1) fun Q1=>
 (ay Q1
 ((ae pg N1 M1 (dr 31 1 l1 L1) fun S1=>
 ae pg N1 M1 (ld1 9 S1) fun T1=>
 eC pg R N1 M1 true 12 #[T1] fun U1 V1 Y1=>
 eC pg R Y1 V1 true 11 #[p0,U1] fun Z1 a2 b2=>
 ae pg b2 a2 (aD Z1 0) fun c2=>
 ae pg b2 a2 (aD Z1 1) fun d2=>
 un (ai (aa c2)) fun e2=>
 aB (aj (ad (aa c2))==4) (aB (ao (ad (aa c2)) aR.one) ((ae pg b2 a2 (aY br d2) fun g2=>
 aB (bH e2) (un (cellOf e2 0) fun h2=>
 un (aU g2 false h2) fun i2=>
 aB (bH c1) (un (cellOf c1 2) fun j2=>
 un (aU g2 false j2) fun k2=>
 aJ pg b2 a2 g2 false (vS (aE .neq 3 (.tmp 138) (.tmp 140) i2 k2)) fun l2=>
 aC pg b2 a2 (aQ g2 (B true) l2) fun m2=>
 un (cellOf c1 6) fun n2=>
 un (aU m2 false n2) fun o2=>
 un (aU m2 false j2) fun q2=>
 aJ pg b2 a2 m2 false (vS (aE .neq 3 (.tmp 145) (.tmp 147) o2 q2)) fun r2=>
 aC pg b2 a2 (aQ m2 (B true) r2) fun s2=>
 un (cellOf c1 7) fun t2=>
 un (aU s2 false t2) fun v2=>
 un (cellOf e2 1) fun y2=>
 un (aU s2 false y2) fun z2=>
 aJ pg b2 a2 s2 false (vS (aE .neq 3 (.tmp 152) (.tmp 154) v2 z2)) fun A2=>
 aC pg b2 a2 (aQ s2 (B true) A2) fun C2=>
 un (cellOf c1 1) fun D2=>
 un (aU C2 false D2) fun E2=>
 aJ pg b2 a2 C2 false (vS (aE .neq 3 (.tmp 159) (.const (I 21)) E2 (I 21))) fun F2=>
 aC pg b2 a2 (aQ C2 (B true) F2) fun G2=>
 (ay G2
 (fin R b2 a2 (B false))
 (((ae pg b2 a2 (binOp .add 3 L1 (I 1)) fun H2=>
 gz G1 H1 H2 a2 b2)))))))))))
 (((aB (bH c1) (un (cellOf c1 0) fun L2=>
 ae pg N1 M1 (aE .eql 3 (.tmp 163) (.const (I 1)) L2 (I 1)) fun M2=>
 ae pg N1 M1 (cB 31 3 H0) fun N2=>
 ae pg N1 M1 (binOp .gtr 3 N2 (I 0)) fun O2=>
 ae pg N1 M1 (aE .neq 4 (.tmp 164) (.tmp 167) M2 O2) fun Q2=>
 un (aU Q2 false l1) fun S2=>
 aJ pg N1 M1 Q2 false (vS (cB 31 3 S2)) fun T2=>
 aJ pg N1 M1 Q2 false (vS (aE .eql 3 (.tmp 171) (.const (I 0)) T2 (I 0))) fun U2=>
 aC pg N1 M1 (aQ Q2 (B true) U2) fun V2=>
 (ay V2
 (fin R N1 M1 (B false))
 ((ae pg N1 M1 (cB 31 3 l1) fun Y2=>
 ae pg N1 M1 (binOp .add 3 S0 Y2) fun Z2=>
 ((ae pg N1 M1 (binOp .add 3 Q0 (I 1)) fun a3=>
 sR N0 O0 a3 Z2 L1 k1 l1 M1 N1))))))))))))))))))))))))))
 (((ae pg U0 T0 (cB 31 3 H0) fun b3=>
 ae pg U0 T0 (binOp .gtr 3 b3 (I 0)) fun c3=>
 (ay c3
 (eC pg R U0 T0 true 4 #[] fun d3 e3 g3=>
 un (aU d3 true S0) fun h3=>
 un (aU d3 true H0) fun i3=>
 aJ pg g3 e3 d3 true (vS (cB 31 3 i3)) fun j3=>
 aJ pg g3 e3 d3 true (vS (aE .eql 3 (.tmp 183) (.tmp 185) h3 j3)) fun k3=>
 aC pg g3 e3 (aQ d3 k3 (B false)) fun l3=>
 (fin R g3 e3 l3))
 ((eC pg R U0 T0 true 13 #[p2,(.slice none 0 0)] fun m3 n3 o3=>
 ae pg o3 n3 (aD m3 0) fun q3=>
 ae pg o3 n3 (aD m3 1) fun r3=>
 (eC pg R o3 n3 true 4 #[] fun s3 t3 v3=>
 un (aU s3 true r3) fun y3=>
 aJ pg v3 t3 s3 true (vS (aE .eql 28 (.tmp 195) (.const (I 0)) y3 (I 0))) fun z3=>
 aC pg v3 t3 (aQ s3 z3 (B false)) fun A3=>
 un (aU A3 true S0) fun C3=>
 un (aU A3 true q3) fun D3=>
 aJ pg v3 t3 A3 true (vS (cB 33 3 D3)) fun E3=>
 aJ pg v3 t3 A3 true (vS (aE .eql 3 (.tmp 199) (.tmp 201) C3 E3)) fun F3=>
 aC pg v3 t3 (aQ A3 F3 (B false)) fun G3=>
 un (aU G3 true M) fun H3=>
 jn (fun (L3:Value) (M3:World) (N3:XS)=>
 aJ pg N3 M3 G3 true (vS (cB 70 3 L3)) fun O3=>
 aJ pg N3 M3 G3 true (vS (aE .eql 3 (.tmp 207) (.const (I 1)) O3 (I 1))) fun Q3=>
 aC pg N3 M3 (aQ G3 Q3 (B false)) fun S3=>
 (fin R N3 M3 S3)) fun T3=>
 (gE G3 true (eC pg R v3 t3 true 14 #[H3] T3) (T3 undef t3 v3))))))))))))))))))) fun U3=>
 (gE k0 false (eC pg R e0 d0 true 9 #[l0] U3) (U3 undef d0 e0))))))))))))))) fun V3=>
 (gE g false (eC pg R l k true 5 #[j] V3) (V3 undef k l))) fun Y3=>
 (gE g false (eV pg R c b true (fC 47 46 41 1 #[(0,i)]) Y3) (Y3 undef b c))))))
def z6:Prop:=
 (eC pg R X0 w0 true 7 #[] fun a b c=>
 (ae pg c b (aE .eql 51 (.tmp 13) (.const (.pointer none)) a (.pointer none)) fun d=>
 (ay d
 (fin R c b (B false))
 ((eC pg R c b true 15 #[] fun e g h=>
 eC pg R h g true 6 #[a,(I 1),(I 4096),e] fun i j k=>
 ae pg k j (aD i 0) fun l=>
 ae pg k j (aD i 1) fun m=>
 (ae pg k j (aE .eql 48 (.tmp 21) (.const (.pointer none)) l (.pointer none)) fun n=>
 un (aU n false m) fun o=>
 aJ pg k j n false (vS (aE .neq 28 (.tmp 24) (.const (I 0)) o (I 0))) fun q=>
 aC pg k j (aQ n (B true) q) fun r=>
 (ay r
 (fin R k j (B false))
 ((ae pg k j (dw 62 #[(I 1),(.float .f64 4607182418800017408),(.string ⟨#[]⟩)] #[(0,(I 1)),(1,(.float .f64 4607182418800017408))]) fun s=>
 un (cellOf s 0) fun t=>
 un (cellOf s 1) fun v=>
 un (cellOf s 2) fun y=>
 ae pg k j (dw 75 #[(I 4),(.string ⟨#[]⟩),t,v,y] #[(0,(I 4)),(2,s)]) fun z=>
 ae pg k j (dw 75 #[(I 2),(.string { data:= #[107] }),(I 0),(.float .f64 0),(.string ⟨#[]⟩)] #[(0,(I 2)),(1,(.string { data:= #[107] }))]) fun A=>
 eV pg R k j true (fC 23 75 5 2 #[(0,z),(1,A)]) fun C D E=>
 eC pg R E D true 8 #[l,(I 5),C] fun F G H=>
 ae pg H G (aD F 0) fun L=>
 ae pg H G (aD F 1) fun M=>
 ae pg H G (aD F 2) fun N=>
 un (ai (aa L)) fun O=>
 aB (aj (ad (aa L))==3) (aB (ao (ad (aa L)) aR.one) (un (ai (aa M)) fun Q=>
 aB (aj (ad (aa M))==2) (aB (ao (ad (aa M)) aR.one) ((ae pg H G (dw 30 #[(I 7),(I 0),(I 1)] #[(0,(I 7)),(2,(I 1))]) fun S=>
 un (ai (aa S)) fun T=>
 aB (aj (ad (aa S))==3) (aB (ao (ad (aa S)) aR.one) ((aB (bH O) (aB (bH T) (un (cj O 0 3) fun U=>
 un (cj T 0 3) fun V=>
 un (cellOf U 0) fun Y=>
 un (cellOf U 1) fun Z=>
 un (cellOf U 2) fun a0=>
 un (cellOf V 0) fun b0=>
 un (cellOf V 1) fun c0=>
 un (cellOf V 2) fun d0=>
 ae pg H G (dw 44 #[(I 4),(I 1),(I 21),Y,Z,a0,(I 1),(I 0),(I 0),b0,c0,d0,(I 0),(I 0),(I 0),(B false),(I 0),(I 0),(.slice none 0 0),(.slice none 0 0),(.slice none 0 0),(.slice none 0 0),(.slice none 0 0),(.slice none 0 0),(I 0),(I 0),(.float .f64 0),(.float .f64 0),(I 0),(I 0),(I 0),(I 0),(I 0),(I 0),(.slice none 0 0),(.slice none 0 0)] #[(0,(I 4)),(1,(I 1)),(2,(I 21)),(3,U),(4,(I 1)),(7,V)]) fun e0=>
 eC pg R H G true 16 #[l,(I 5),e0] fun g0 h0 i0=>
 ae pg i0 h0 (aD g0 0) fun j0=>
 ae pg i0 h0 (aD g0 1) fun k0=>
 un (ai (aa j0)) fun l0=>
 aB (aj (ad (aa j0))==2) (aB (ao (ad (aa j0)) aR.one) ((aB (bH Q) (un (cellOf Q 0) fun m0=>
 ae pg i0 h0 (cB 53 3 m0) fun n0=>
 ae pg i0 h0 (aE .eql 3 (.tmp 48) (.const (I 1)) n0 (I 1)) fun o0=>
 un (aU o0 true m0) fun q0=>
 aJ pg i0 h0 o0 true (vS (dr 53 36 q0 (I 0))) fun r0=>
 aJ pg i0 h0 o0 true (vS (aS 44 0 0 1 r0)) fun s0=>
 aJ pg i0 h0 o0 true (vS (ld1 3 s0)) fun t0=>
 aJ pg i0 h0 o0 true (vS (aE .eql 3 (.tmp 55) (.const (I 3)) t0 (I 3))) fun v0=>
 aC pg i0 h0 (aQ o0 v0 (B false)) fun y0=>
 un (aU y0 true m0) fun z0=>
 aJ pg i0 h0 y0 true (vS (dr 53 36 z0 (I 0))) fun A0=>
 aJ pg i0 h0 y0 true (vS (aS 44 2 2 1 A0)) fun C0=>
 aJ pg i0 h0 y0 true (vS (ld1 3 C0)) fun D0=>
 aJ pg i0 h0 y0 true (vS (aE .eql 3 (.tmp 63) (.const (I 1)) D0 (I 1))) fun E0=>
 aC pg i0 h0 (aQ y0 E0 (B false)) fun F0=>
 un (cellOf Q 1) fun G0=>
 un (aU F0 true G0) fun H0=>
 aJ pg i0 h0 F0 true (vS (cB 54 3 H0)) fun L0=>
 aJ pg i0 h0 F0 true (vS (aE .eql 3 (.tmp 69) (.const (I 0)) L0 (I 0))) fun M0=>
 aC pg i0 h0 (aQ F0 M0 (B false)) fun N0=>
 (aB (bH l0) (un (cellOf l0 1) fun O0=>
 ae pg i0 h0 (cB 54 3 O0) fun Q0=>
 ae pg i0 h0 (aE .eql 3 (.tmp 74) (.const (I 1)) Q0 (I 1)) fun S0=>
 un (aU S0 true O0) fun T0=>
 aJ pg i0 h0 S0 true (vS (dr 54 9 T0 (I 0))) fun U0=>
 aJ pg i0 h0 S0 true (vS (aS 79 0 0 1 U0)) fun V0=>
 aJ pg i0 h0 S0 true (vS (ld1 28 V0)) fun Y0=>
 aJ pg i0 h0 S0 true (vS (aE .eql 28 (.tmp 81) (.const (I 0)) Y0 (I 0))) fun Z0=>
 aC pg i0 h0 (aQ S0 Z0 (B false)) fun a1=>
 un (aU a1 true O0) fun b1=>
 aJ pg i0 h0 a1 true (vS (dr 54 9 b1 (I 0))) fun c1=>
 aJ pg i0 h0 a1 true (vS (aS 79 2 4 3 c1)) fun d1=>
 aJ pg i0 h0 a1 true (vS (dY 30 3 d1)) fun e1=>
 aB (bH T) (un (aU a1 true V) fun g1=>
 aJ pg i0 h0 a1 true (vS (aE .eql 30 (.tmp 89) (.tmp 90) e1 g1)) fun h1=>
 aC pg i0 h0 (aQ a1 h1 (B false)) fun i1=>
 un (cellOf l0 0) fun j1=>
 un (aU i1 true j1) fun k1=>
 aJ pg i0 h0 i1 true (vS (cB 53 3 k1)) fun l1=>
 aJ pg i0 h0 i1 true (vS (aE .eql 3 (.tmp 96) (.const (I 1)) l1 (I 1))) fun m1=>
 aC pg i0 h0 (aQ i1 m1 (B false)) fun n1=>
 un (aU n1 true j1) fun o1=>
 aJ pg i0 h0 n1 true (vS (dr 53 36 o1 (I 0))) fun q1=>
 aJ pg i0 h0 n1 true (vS (aS 44 9 15 1 q1)) fun r1=>
 aJ pg i0 h0 n1 true (vS (ld1 4 r1)) fun s1=>
 aC pg i0 h0 (aQ n1 s1 (B false)) fun t1=>
 (ae pg i0 h0 (aE .eql 28 (.tmp 106) (.const (I 0)) N (I 0)) fun v1=>
 un (aU v1 true k0) fun y1=>
 aJ pg i0 h0 v1 true (vS (aE .eql 28 (.tmp 109) (.const (I 0)) y1 (I 0))) fun z1=>
 aC pg i0 h0 (aQ v1 z1 (B false)) fun A1=>
 aB (bH O) (un (aU A1 true U) fun C1=>
 aJ pg i0 h0 A1 true (vS (dw 27 #[(I 1),(I 1),(I 1)] #[(0,(I 1)),(1,(I 1)),(2,(I 1))])) fun D1=>
 aJ pg i0 h0 A1 true (vS (aE .eql 27 (.tmp 113) (.tmp 114) C1 D1)) fun E1=>
 aC pg i0 h0 (aQ A1 E1 (B false)) fun F1=>
 un (aU F1 true N0) fun G1=>
 aC pg i0 h0 (aQ F1 G1 (B false)) fun H1=>
 un (aU H1 true t1) fun L1=>
 aC pg i0 h0 (aQ H1 L1 (B false)) fun M1=>
 un (aU M1 true l) fun N1=>
 jn (fun (O1:Value) (Q1:World) (S1:XS)=>
 aJ pg S1 Q1 M1 true (vS (aE .eql 3 (.tmp 125) (.const (I 1)) O1 (I 1))) fun T1=>
 aC pg S1 Q1 (aQ M1 T1 (B false)) fun U1=>
 (fin R S1 Q1 U1)) fun V1=>
 (gE M1 true (eC pg R i0 h0 true 17 #[N1] V1) (V1 undef h0 i0))))))))))))))))))))))))))))))
def Cs (p0:Value):Prop:=
 (((qK X0 w0 (I 0) undef (I 0) 4 5 3 fun a b c _ d e g=>
 ae pg g e (cB 47 3 p0) fun h=>
 ae pg g e (binOp .lss 3 c h) fun i=>
 un (aU i true c) fun j=>
 aJ pg g e i true (vS (binOp .lss 3 j (I 120))) fun k=>
 aC pg g e (aQ i k (B false)) fun l=>
 un (aU l true d) fun m=>
 aJ pg g e l true (vS (binOp .leq 3 m (I 20000))) fun n=>
 aC pg g e (aQ l n (B false)) fun o=>
 (ay o
 ((ae pg g e (dr 47 41 p0 c) fun q=>
 ae pg g e (aS 46 3 3 36 q) fun r=>
 ae pg g e (dY 44 36 r) fun s=>
 eC pg R g e true 18 #[s,(I 20000)] fun t v y=>
 ae pg y v (binOp .add 3 d t) fun z=>
 (ae pg y v (dr 47 41 p0 c) fun A=>
 ae pg y v (aS 46 4 39 1 A) fun C=>
 ae pg y v (ld1 23 C) fun D=>
 ae pg y v (cB 23 3 D) fun E=>
 ae pg y v (binOp .gtr 3 E (I 100)) fun F=>
 (ay F
 (fin R y v (B false))
 (((gS y v (I 0) z 5 3 fun G H L M N O=>
 ae pg O N (dr 47 41 p0 c) fun Q=>
 ae pg O N (aS 46 4 39 1 Q) fun S=>
 ae pg O N (ld1 23 S) fun T=>
 ae pg O N (cB 23 3 T) fun U=>
 ae pg O N (binOp .lss 3 L U) fun V=>
 (ay V
 ((ae pg O N (binOp .add 3 M (I 1)) fun Y=>
 ae pg O N (dr 47 41 p0 c) fun Z=>
 ae pg O N (aS 46 4 39 1 Z) fun a0=>
 ae pg O N (ld1 23 a0) fun b0=>
 ae pg O N (dr 23 5 b0 L) fun c0=>
 ae pg O N (aS 75 1 1 1 c0) fun d0=>
 ae pg O N (ld1 9 d0) fun e0=>
 ae pg O N (kN 9 3 e0) fun g0=>
 ae pg O N (j8 #[3,3] 3 #[g0,(I 20001)]) fun h0=>
 ae pg O N (binOp .add 3 Y h0) fun i0=>
 ae pg O N (dr 47 41 p0 c) fun j0=>
 ae pg O N (aS 46 4 39 1 j0) fun k0=>
 ae pg O N (ld1 23 k0) fun l0=>
 ae pg O N (dr 23 5 l0 L) fun m0=>
 ae pg O N (aS 75 2 2 3 m0) fun n0=>
 ae pg O N (aS 62 2 2 1 n0) fun o0=>
 ae pg O N (ld1 9 o0) fun q0=>
 ae pg O N (kN 9 3 q0) fun r0=>
 ae pg O N (j8 #[3,3] 3 #[r0,(I 20001)]) fun s0=>
 ae pg O N (binOp .add 3 i0 s0) fun t0=>
 ((ae pg O N (binOp .add 3 L (I 1)) fun v0=>
 gP G H v0 t0 N O))))
 ((((ae pg O N (binOp .add 3 c (I 1)) fun y0=>
 qL a b y0 L M N O))))))))))))
 (((ae pg g e (cB 47 3 p0) fun z0=>
 ae pg g e (binOp .leq 3 z0 (I 120)) fun A0=>
 un (aU A0 true d) fun C0=>
 aJ pg g e A0 true (vS (binOp .leq 3 C0 (I 20000))) fun D0=>
 aC pg g e (aQ A0 D0 (B false)) fun E0=>
 (fin R g e E0))))))))
def Mq:Prop:=
 (eV pg R X0 w0 true (Instr.makeMap 107 none) fun a b c=>
 ae pg c b (dw 109 #[a,(I 0),(I 0),(I 0),(B false)] #[(0,a)]) fun d=>
 eV pg R c b true (Instr.box 109 d) fun e g h=>
 (fin R h g e))
def Ht (p0:Value):Prop:=
 (ae pg X0 w0 (cB 23 3 p0) fun a=>
 ae pg X0 w0 (binOp .gtr 3 a (I 40)) fun b=>
 (ay b
 (fin R X0 w0 (I 3))
 (((ae pg X0 w0 (cB 23 3 p0) fun c=>
 (gS X0 w0 (I 0) (I 0) 13 3 fun d e g h i j=>
 ae pg j i (binOp .lss 3 g c) fun k=>
 (ay k
 ((ae pg j i (dr 23 5 p0 g) fun l=>
 ae pg j i (dY 75 5 l) fun m=>
 un (ai (aa m)) fun n=>
 aB (aj (ad (aa m))==5) (aB (ao (ad (aa m)) aR.one) ((aB (bH n) (un (cellOf n 0) fun o=>
 eC pg R j i true 38 #[o] fun q r s=>
 ae pg s r (aD q 0) fun t=>
 ae pg s r (aD q 1) fun v=>
 un (ai (aa t)) fun y=>
 aB (aj (ad (aa t))==4) (aB (ao (ad (aa t)) aR.one) ((ae pg s r (aY br v) fun z=>
 (ay z
 (fin R s r (I 7))
 (aB (bH n) (aB (bH y) (un (cj n 0 5) fun A=>
 un (cellOf y 1) fun C=>
 eC pg R s r true 39 #[A,C] fun D E F=>
 ae pg F E (aY br D) fun G=>
 (ay G
 (fin R F E (I 4))
 (aB (bH y) (un (cellOf y 2) fun H=>
 ae pg F E (binOp .lss 3 h H) fun L=>
 (ay L
 (fin R F E (I 5))
 (((aB (bH y) (un (cellOf y 3) fun M=>
 ae pg F E (binOp .sub 3 M H) fun N=>
 ae pg F E (binOp .add 3 h N) fun O=>
 (ae pg F E (binOp .gtr 3 O (I 16)) fun Q=>
 (ay Q
 (fin R F E (I 2))
 (((ae pg F E (binOp .add 3 g (I 1)) fun S=>
 gP d e S O E F))))))))))))))))))))))))))
 (((eC pg R j i true 10 #[p0] fun T U V=>
 ae pg V U (cB 31 3 T) fun Y=>
 ae pg V U (binOp .gtr 3 Y (I 16)) fun Z=>
 un (aU Z false p0) fun a0=>
 jn (fun (b0:Value) (c0:World) (d0:XS)=>
 aJ pg d0 c0 Z false (vS (cB 31 3 b0)) fun e0=>
 aJ pg d0 c0 Z false (vS (binOp .gtr 3 e0 (I 16))) fun g0=>
 aC pg d0 c0 (aQ Z (B true) g0) fun h0=>
 (ay h0
 (fin R d0 c0 (I 3))
 (fin R d0 c0 (I 0)))) fun i0=>
 (gE Z false (eC pg R V U true 40 #[a0] i0) (i0 undef U V))))))))))))
def Hr (p0:Value):Prop:=
 (eC pg R X0 w0 true 41 #[p0,(I 1),(I 1)] fun a b c=>
 (fin R c b a))
noncomputable def SS:bp:=⟨20,[(4,(pg.cellsOf 38)),(7,(pg.cellsOf 38))],[],[0,1,5,8,9,10,11,16],[],[4,10]⟩
def HF (p0:Value) (p1:Nat):Prop:=
 (ae pg X0 w0 (cB 22 3 p0) fun a=>
 (gS X0 w0 (I 0) (.agg #[(I 0),(I 0),(.float .f64 0),(.float .f64 0)]) 10 4 fun b c d e g h=>
 ae pg h g (binOp .lss 3 d a) fun i=>
 (ay i
 ((ae pg h g (dr 22 4 p0 d) fun j=>
 ae pg h g (dY 38 4 j) fun k=>
 un (ai (aa k)) fun l=>
 aB (aj (ad (aa k))==4) (aB (ao (ad (aa k)) aR.one) ((aB (bH l) (un (cj l 0 4) fun m=>
 eC pg R h g true 42 #[m,(.float .f64 p1)] fun n o q=>
 (ay n
 (aB (bH l) (aB (bH e) (un (ai (aa m)) fun r=>
 aB (aj (ad (aa m))==4) (aB (ao (ad (aa m)) aR.one) ((un (cj r 0 4) fun s=>
 aB (ao [r] bH) (fin R q o (aq #[s,(B true)]))))))))
 (((ae pg q o (binOp .add 3 d (I 1)) fun t=>
 gP b c t e o q))))))))))
 (((ae pg h g (dw 38 #[(I 0),(I 0),(.float .f64 0),(.float .f64 0)] #[]) fun v=>
 aB (bH e) (un (ai (aa v)) fun y=>
 aB (aj (ad (aa v))==4) (aB (ao (ad (aa v)) aR.one) ((un (cj y 0 4) fun z=>
 aB (ao [y] bH) (fin R h g (aq #[z,(B false)]))))))))))))
noncomputable def XE:bp:=⟨8,[],[],[0,2],[],[]⟩
def Mr (p0:ByteArray):Prop:=
 (eC pg R X0 w0 true 43 #[(.string p0)] fun a b c=>
 ae pg c b (binOp .shr 130 a (aA IntKind.u64 11)) fun d=>
 ae pg c b (uK 130 36 d) fun e=>
 ae pg c b (binOp .quo 36 e (.float .f64 4845873199050653696)) fun g=>
 (fin R c b g))
def xO (p0:Value):Prop:=
 (aC pg X0 w0 (aF p0) fun a=>
 ae pg X0 w0 (aS 93 4 4 1 a) fun b=>
 ae pg X0 w0 (ld1 4 b) fun c=>
 (ay c
 (fin R X0 w0 (.slice none 0 0))
 ((aC pg X0 w0 (aF p0) fun d=>
 ae pg X0 w0 (aS 93 7 7 1 d) fun e=>
 ae pg X0 w0 (ld1 88 e) fun g=>
 eC pg R X0 w0 true 50 #[g] fun h i j=>
 eC pg R j i true 49 #[h,(Value.func (Fn.func 51) #[] #[])] fun k l m=>
 (fin R m l k)))))
def Cu:Prop:=
 (ae pg X0 w0 (dw 38 #[(I 1),(I 0),(.float .f64 0),(.float .f64 4602678819172646912)] #[(0,(I 1)),(3,(.float .f64 4602678819172646912))]) fun a=>
 ae pg X0 w0 (dw 38 #[(I 2),(I 0),(.float .f64 4602678819172646912),(.float .f64 4607182418800017408)] #[(0,(I 2)),(2,(.float .f64 4602678819172646912)),(3,(.float .f64 4607182418800017408))]) fun b=>
 eV pg R X0 w0 true (fC 22 38 4 2 #[(0,a),(1,b)]) fun c d e=>
 (fin R e d c))
def zY (p0:Value):Prop:=
 (aC pg X0 w0 (aF p0) fun a=>
 ae pg X0 w0 (aS 93 4 4 1 a) fun b=>
 ae pg X0 w0 (ld1 4 b) fun c=>
 (ay c
 (fin R X0 w0 (I 0))
 (aC pg X0 w0 (aF p0) fun d=>
 ae pg X0 w0 (aS 93 1 1 1 d) fun e=>
 ae pg X0 w0 (ld1 3 e) fun g=>
 (fin R X0 w0 g))))
noncomputable def H9:bp:=⟨72,[(2,(pg.cellsOf 44))],[7,11,18,25,34,43,55,66],[0,1,4,5,6,51],[47,48,49,50],[5,6]⟩
def yL (_p0_0 _p0_1 _p0_2 _p0_3 _p0_4 _p0_5 _p0_6 _p0_7 _p0_8 _p0_9 _p0_10 _p0_11 _p0_12 _p0_13 _p0_14:Int) (_p0_15:Bool) (_p0_16 _p0_17:Int) (cE cA cG cH cC cM:Value) (cD cI:Int) (cJ cK:Nat) (cL eI eJ eK eM eO:Int) (eP eQ:Value) (p1:Int):Prop:=
 (eC pg R X0 w0 false 60 #[cE,(I p1)] fun a b c=>
 eC pg R c b true 61 #[cA,(I p1)] fun d e g=>
 eC pg R g e true 59 #[a,d,(I p1)] fun h i j=>
 (eC pg R j i true 62 #[cG,(I p1)] fun k l m=>
 eC pg R m l true 59 #[h,k,(I p1)] fun n o q=>
 (ae pg q o (cB 34 3 cH) fun r=>
 ae pg q o (binOp .add 3 (I p1) (I 1)) fun s=>
 ae pg q o (j8 #[3,3] 3 #[r,s]) fun t=>
 eC pg R q o true 59 #[n,t,(I p1)] fun v y z=>
 (ae pg z y (cB 22 3 cC) fun A=>
 ae pg z y (binOp .add 3 (I p1) (I 1)) fun C=>
 ae pg z y (j8 #[3,3] 3 #[A,C]) fun D=>
 eC pg R z y true 59 #[v,D,(I p1)] fun E F G=>
 ((gS G F (I 0) E 6 5 fun H L M N O Q=>
 ae pg Q O (cB 35 3 cM) fun S=>
 ae pg Q O (binOp .lss 3 M S) fun T=>
 un (aU T true N) fun U=>
 un (aU T true (I p1)) fun V=>
 aJ pg Q O T true (vS (binOp .leq 3 U V)) fun Y=>
 aC pg Q O (aQ T Y (B false)) fun Z=>
 (ay Z
 ((ae pg Q O (dr 35 29 cM M) fun a0=>
 ae pg Q O (dY 99 29 a0) fun b0=>
 eC pg R Q O true 63 #[b0,(I p1)] fun c0 d0 e0=>
 eC pg R e0 d0 true 59 #[N,c0,(I p1)] fun g0 h0 i0=>
 ((ae pg i0 h0 (binOp .add 3 M (I 1)) fun j0=>
 gP H L j0 g0 h0 i0))))
 (((ae pg Q O (binOp .add 3 N (I 1)) fun k0=>
 eC pg R Q O true 64 #[(.agg #[(I cD),(I cI),(.float .f64 cJ),(.float .f64 cK),(I cL),(I eI),(I eJ),(I eK),(I eM),(I eO),eP,eQ]),(I p1)] fun l0 m0 n0=>
 eC pg R n0 m0 true 59 #[k0,l0,(I p1)] fun o0 q0 r0=>
 (fin R r0 q0 o0)))))))))))
def Oq (p0:Value):Prop:=
 (eC pg R X0 w0 true 65 #[p0] fun a b c=>
 (ae pg c b (aE .neq 28 (.tmp 8) (.const (I 0)) a (I 0)) fun d=>
 (ay d
 ((fin R c b (aq #[(.pointer none),a])))
 ((eV pg R c b true (Instr.makeMap 162 none) fun e g h=>
 ae pg h g (dw 164 #[e] #[(0,e)]) fun i=>
 eV pg R h g true (Instr.box 164 i) fun j k l=>
 (eC pg R l k true 66 #[j,p0] fun _ m n=>
 ((fin R n m (aq #[j,(I 0)])))))))))
end
end Go.Proofs.YtbpnemeooenpmaaGreat
