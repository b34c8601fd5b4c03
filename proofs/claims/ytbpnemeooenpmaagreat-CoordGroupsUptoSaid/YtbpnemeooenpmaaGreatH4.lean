/-
 Part 4 of the proof: what the last text leans on.
-/
import Derived.Laws.Pointers
import Derived.Shelf.SlSortCmp.WholeK
import Derived.Shelf.SlSortCmp.NoneTotal
import Derived.Recover
import Derived.Laws.MakeOwn
import Derived.Laws.BytesArg
import Derived.Laws.Concat
import Derived.Lib.Overlaps
import Derived.Lib.AppendZerosOnto
import Derived.Laws.Externs
import Derived.Laws.Slices
import Derived.Laws.IdiomStrings
import Derived.KernelRfl
import Derived.Test.YtbpnemeooenpmaaGreatProg
import Derived.Test.YtbpnemeooenpmaaGreatH3
open Go.Value renaming cells → aa, agg → ak, ownBlock → gk, int → aA, tuple → aw
open Option.some renaming injEq → ay
open Array renaming toList → ad, length_toList → ec, ext' → px, getD_eq_getD_getElem? → gw, size_append → ri, toList_append → oT, toList_map → jk, replicate → dH, getElem?_setIfInBounds → dQ, getElem?_append → iL, getElem?_replicate → gZ
open Go.Instr renaming extract → aL, sliceAt → gf, alloc → xV, makeFunc → cn, panic → xW, makeSlice → yL, buildSlice → gF, makeInterface → jr
open Nat renaming le_refl → ba, le_trans → ah, lt_of_lt_of_le → aG, zero_add → eZ, add_mul → py, add_zero → wm, zero_le → aF, mul_le_mul_right → ou
open Go.Sem renaming run_bind → bG, run_pure → bY
open Go.Result renaming andThen_ok → aZ
open List renaming all → aq, getElem?_map → dO, length → ai, length_append → au, mem_of_getElem? → cj, getElem?_eq_getElem → bE, append_assoc → aI, size_toArray → iQ, take_left → mE, length_drop → kZ, getD → jP, getElem_mem → nv, eq_nil_of_length_eq_zero → fC, length_take → bW, flatten_append → oU, drop_zero → tK, getElem?_drop → qm, mem_cons_of_mem → bz, flatten_cons → iP, all_eq_true → ji, getElem?_zip_eq_some → lL, length_map → aH, nil_append → dG, getElem?_take → jL, getElem?_eq_none → iK, getElem_inj → xX, ext_getElem? → wT, getElem?_eq_none_iff → qt, getElem?_of_mem → tL
open Option renaming map_some → bq, bind_some → cU, isNone_iff_eq_none → fA
open Go.Builtin renaming append_ → ej, zeroCells → hP, lenOf → mY, min_ → j6, clear_ → tM, firstCells → vi, nextslicecap → tN
open Go.Region renaming wanted → bQ
open Prod.mk renaming injEq → cx
open Bool renaming and_eq_true → aW, not_eq_true' → cu
open Go.Oper renaming wp → hU, upon_value → sE, upon_defer → sF
open Go.Addr renaming add_lit → oy
open Go.Act renaming eval → fG
open Go.Op renaming unary → aY
open Go.UnOp renaming not → bp
open Go.Deferred renaming ofValue → ik
open Go.World renaming freeze → rO
open Go.Code renaming seq → xY, region → xZ
open Go.Sort renaming grow → wo
open Go.Obj.cells renaming injEq → lS
open Go.Code.seq renaming injEq → z6
set_option linter.unusedVariables false
set_option linter.unusedSimpArgs false
namespace Go.aV
open Go.Sort Go.Shelf Go.RowKit Go.Proofs
variable {P : Program} {ρ : Ren} {α : Type}
def ya (W w':World):Prop:= ∃q os,w'=wo (W.drewN q) os
theorem ya.refl (W:World):ya W W:=⟨0,#[],by rw [grow_empty];rfl⟩
theorem ya.alloc {W w:World} (h:ya W w) (o:Obj):ya W (w.alloc o):=by
 obtain⟨q,os,rfl⟩:=h;exact⟨q,os.push o,by simp [World.alloc,wo]⟩
theorem ya.trans {W w w':World} (h:ya W w) (k:ya w w'):ya W w':=by
 obtain⟨q,os,rfl⟩:=h;obtain⟨q',os',rfl⟩:=k;exact⟨q+q',os++os',by simp [World.drewN,wo,Nat.add_assoc]⟩
theorem ya.row {W w':World} (h:ya W w') {g:Nat} {o:Obj} (hg:W.heap[g]? =some o):w'.heap[g]? =some o:=by
 obtain⟨q,os,rfl⟩:=h
 show(W.heap++os)[g]? =some o
 rw [Array.getElem?_append_left (Array.getElem?_eq_some_iff.1 hg).1,hg]
end Go.aV
namespace Go.aV
variable {P : Program} {R : Ending → World → Prop} {X : XS} {w : World} {m : Bool}
section
variable {t ty e k bytes lo : Nat} {v x s : Value} {rows dL : List (List Value)} {row : List Value} {N : Value → World → XS → Prop}
theorem agB (own:Own w X lo e k v rows) (hX: ∀k,X k→k<w.heap.size) (fp:lo≤w.heap.size) (he:mD P t e k bytes=true) (hx:x.cells.toList=row) (hk:(row.length==k)=true)
  (h1:row.all one=true) (hb:(rows.length+1)*bytes≤140737488355328) (hl:rows.length+1≤2^63-1)
  (n: ∀v' w' X',ez (cY v) X w X' w'→Own w' X' lo e k v' (rows++[row])→(v'.ownBlock=v.ownBlock∨ ∃g,v'.ownBlock=some g∧w.heap.size≤g)→N v' w' X'):
  eV P R X w m (fH t e k 1 #[(0,x)]) fun s w1 X1=>eV P R X1 w1 true (e7 t e k bytes ty v s) N:=by
 obtain⟨hu,kB,pj,z,hi,hz,r8⟩:=jR he;have af:row.length=k:=by simpa using hk
 have HE:x.cells.size=k:=by rw [←af,←hx,ec]
 refine zh (rows:=[row]) x.cells z hX hu hz zQ zQ ?_ (by simpa using af) rfl (by simpa using hx) fun s w1 X1 ao Pa=>?_
 ·simp only [Nat.one_mul];exact Cz HE (by simp)
 ·have Qn:lo≤w1.heap.size:=ah fp ao.kp.size;refine zZ (dL:=[row]) z hu hi r8 kB ao.has Qn (own.since ao) Pa.sl (by simpa using h1) (by simpa using hb) (by simpa using hl) fun v2 w2 X2 hg ho ef=>?_;refine n v2 w2 X2 ((ez.rL ao (cY v)).trans (hg.fM.mono fun k _ hk=>hk.symm)) ho ?_;rcases ef with h|⟨g,h,dV⟩
  ·exact .inl h
  ·exact .inr ⟨g,h,ah ao.kp.size dV⟩
theorem BH (own:Own w X lo e k v rows) (hX: ∀k,X k→k<w.heap.size) (fp:lo≤w.heap.size) (he:mD P t e k bytes=true) (src:Sl w X k s dL) (h1: ∀r∈dL,∀u∈r,one u=true)
  (hb:(rows.length+dL.length)*bytes≤140737488355328) (hl:rows.length+dL.length≤2^63-1)
  (n: ∀v' w' X',ez (cY v) X w X' w'→Own w' X' lo e k v' (rows++dL)→(v'.ownBlock=v.ownBlock∨ ∃g,v'.ownBlock=some g∧w.heap.size≤g)→N v' w' X'):
  eV P R X w true (e7 t e k bytes ty v s) N:=by
 obtain⟨hu,kB,pj,z,hi,hz,r8⟩:=jR he;refine zZ (dL:=dL) z hu hi r8 kB hX fp own src h1 hb hl fun v2 w2 X2 hg ho ef=>?_;exact n v2 w2 X2 (hg.fM.mono fun k _ hk=>hk.symm) ho ef
end
def uq (s:ByteArray):List Value:=s.data.toList.map fun b=>.int .u8 b.toNat
theorem KX (s:ByteArray):(uq s).length=s.size:=by unfold uq;rw [aH,ec];rfl
theorem JJ (s:ByteArray):(vi 1 s.size (.string s))=(pure (uq s).toArray:Sem (Array Value)):=by
 have hx:(s.extract 0 s.size)=s:=by
  apply ByteArray.ext;simp [ByteArray.data_extract]
 show(pure ((s.extract 0 s.size).data.map fun b=>aA .u8 b.toNat):Sem (Array Value))=_
 rw [hx]
 congr 1
 apply px;simp [uq]
theorem HX (t u ty e:TypeId) (i:TypeInfo) (ht:P.underlying t=some (.slice e)) (hu:P.underlying u=some .string) (hi:P.info? e=some i) (h1:i.size=1)
  (g jq rj:Nat) (cur:Array Value) (hg:w.heap[g]? =some (.cells cur e (0,0))) (s:ByteArray) (qx:jq+s.size≤rj) (Aw:jq+s.size≤cur.size):
  (ej #[t,u] ty #[.slice (some ⟨g,0,none⟩) jq rj,.string s]).run P w=
   .ok (.slice (some ⟨g,0,none⟩) (jq+s.size) rj) (w.setRow g (cur.toList.take jq++uq s++cur.toList.drop (jq+s.size)).toArray):=by
 have ed:=run_storeCells_at P g jq e (uq s) 0 cur w hg (by rw [KX];simpa using Aw) (fun v hv=>by
  unfold uq at hv;obtain⟨b,_,rfl⟩:=List.mem_map.1 hv;rfl)
 simp only [wm,KX] at ed;simp [ej,run_underlying ht,run_underlying hu,sizeOf,typeInfo,hi,mY,qx,h1,JJ,oy,ed]
theorem HY (t u ty e:TypeId) (i:TypeInfo) (z:Value) (ht:P.underlying t=some (.slice e)) (hu:P.underlying u=some .string) (hi:P.info? e=some i) (hz:i.zero=some z) (h1:i.size=1)
  (b:Addr) (jq rj:Nat) (aaA:List Value) (fp:aaA.length=jq) (holds: ∀j v,aaA[j]? =some v→w.cell? (b.add j)=some v) (s:ByteArray)
  (hg:rj<jq+s.size) (h63:((jq+s.size:Nat):Int)≤9223372036854775807) (Aw:tN (jq+s.size) rj*i.bytes≤281474976710656):
  (ej #[t,u] ty #[.slice (some b) jq rj,.string s]).run P w=
   .ok (.slice (some ⟨w.heap.size,0,none⟩) (jq+s.size) (grownCap w (jq+s.size) rj e))
    (w.drew.alloc (.cells (aaA.toArray++(uq s).toArray++hP z.cells (grownCap w (jq+s.size) rj e-(jq+s.size))) e)):=by
 have hn: ¬(jq+s.size≤rj):=by omega
 have alT: ¬(9223372036854775807<((jq:Int)+(s.size:Int))):=by omega
 have alU: ¬(281474976710656<tN (jq+s.size) rj*i.bytes):=by omega
 have hfo:=run_firstCells_some (P:=P) w.drew 1 jq b jq rj aaA zQ (by simpa using holds);simp [ej,run_underlying ht,run_underlying hu,sizeOf,typeInfo,zeroValue,hi,hz,mY,hn,alT,alU,Question.forced,JJ,h1,hfo,newRow,grownCap]
 congr 2
 apply px;simp [aI]
theorem JK (base:Nat) (t u ty e:TypeId) (i:TypeInfo) (z:Value) (bytes:Nat) (ht:P.underlying t=some (.slice e)) (hu:P.underlying u=some .string) (hi:P.info? e=some i) (hz:i.zero=some z)
  (h1:i.size=1) (hby:i.bytes=bytes) (r8:z.cells.size=1) (v:Value) (n:Nat) (xs:List Value) (si:w.ownsRow base e 1 v n xs) (s:ByteArray)
  (h63:n+s.size≤maxLen) (ack:(n+s.size)*bytes≤140737488355328) (Zw:base≤w.heap.size):
  ∃v' w',(ej #[t,u] ty #[v,.string s]).run P w= .ok v' w'∧w'.ownsRow base e 1 v' (n+s.size) (xs++uq s)∧w.grownBy w' v.ownBlock∧(v'.ownBlock=v.ownBlock∨v'.ownBlock=some w.heap.size):=by
 subst hby;have O7:n+s.size≤9223372036854775807:=by simp only [maxLen] at h63;omega
 have hl:=KX s;have hxl:xs.length=n:=by simpa using si.1
 have hlen:(xs++uq s).length=(n+s.size)*1:=by rw [au,hxl,hl];omega
 have grown: ∀(aR:Nat),aR<n+s.size→ ∀(row:Option Nat),
   (w.drew.alloc (.cells (xs.toArray++(uq s).toArray++hP z.cells (grownCap w (n+s.size) aR e-(n+s.size))) e)).ownsRow base e 1
    (.slice (some ⟨w.heap.size,0,none⟩) (n+s.size) (grownCap w (n+s.size) aR e)) (n+s.size) (xs++uq s)∧
   w.grownBy (w.drew.alloc (.cells (xs.toArray++(uq s).toArray++hP z.cells (grownCap w (n+s.size) aR e-(n+s.size))) e)) row:=by
  intro aR ho row;have dV:=grownCap_ge w (n+s.size) aR e;have lD:grownCap w (n+s.size) aR e≤maxLen:=grownCap_le_maxLen w (n+s.size) aR e h63;refine⟨⟨hlen,.inr ⟨w.heap.size,_,_,rfl,Zw,heap_alloc_new w.drew _,dV,lD,?_,?_⟩⟩,⟨rfl,rfl,rfl,by simp,fun k hk _=>by first|exact heap_alloc_old w.drew _ k hk|exact heap_alloc_old w.drew _ hk⟩⟩
  ·simp only [ri,iQ,size_zeroCells,r8,hxl,hl];omega
  ·simp only [oT,aI];rw [←aI,←hlen];exact mE
 rcases si.2 with⟨rfl,rfl⟩|⟨g,cap,cur,rfl,hbg,hg,xv,lD,jx,KY⟩
 ·have hx:xs=[]:=fC hxl;subst hx;by_cases hm:s.size=0
  ·have hn:uq s=[]:=fC (by rw [hl,hm]);refine⟨.slice none 0 0,w,?_,by rw [hm,hn];exact World.ownsRow_nil w base e 1,⟨rfl,rfl,rfl,ba _,fun _ _ _=>rfl⟩,Or.inl rfl⟩;have hf:=JJ s;rw [hm,hn] at hf;simp [ej,run_underlying ht,run_underlying hu,sizeOf,typeInfo,hi,mY,hm,h1,hf]
  ·have hr:=run_append_nil_string (P:=P) w t u ty e i z ht hu hi hz s zQ zQ (by have hb:=ack;simp only [eZ] at hb;omega);have yD:=grown 0 zQ (gk (.slice none 0 0));have he:(s.data.map fun b:UInt8=>aA .u8 b.toNat)=(uq s).toArray:=by
    apply px;simp [uq]
   rw [he] at hr;simp only [eZ,dG,Array.empty_append] at yD⊢;exact⟨_,_,hr,yD.1,yD.2,Or.inr rfl⟩
 ·rw [Nat.mul_one] at jx KY;by_cases qx:n+s.size≤cap
  ·have Aw:n+s.size≤cur.size:=by rw [jx];exact qx
   have hr:=HX (P:=P) (w:=w) t u ty e i ht hu hi h1 g n cap cur hg s qx Aw;refine⟨_,_,hr,⟨hlen,.inr ⟨g,cap,_,rfl,hbg,setRow_heap w g cur _ e _ hg,qx,lD,?_,?_⟩⟩,⟨rfl,rfl,rfl,by simp,fun k _ hk=>setRow_other w g k _ (fun e=>hk (by simp [gk,e]))⟩,Or.inl rfl⟩
   ·simp only [iQ,au,bW,kZ,ec,hl];omega
   ·rw [KY,←hlen];exact mE
  ·have holds: ∀j u,xs[j]? =some u→w.cell? ((⟨g,0,none⟩:Addr).add j)=some u:=si.cells (g:=g) rfl;have hr:=HY (P:=P) (w:=w) t u ty e i z ht hu hi hz h1 ⟨g,0,none⟩ n cap xs hxl holds s zQ zQ (growslice_fits zQ ack);have yD:=grown cap zQ (gk (.slice (some ⟨g,0,none⟩) n cap));exact⟨_,_,hr,yD.1,yD.2,Or.inr rfl⟩
theorem aiI {t u ty e bytes lo:Nat} {v:Value} {s:ByteArray} {rows:List (List Value)} {N:Value→World→XS→Prop} (own:Own w X lo e 1 v rows) (hX: ∀k,X k→k<w.heap.size) (fp:lo≤w.heap.size)
  (he:mD P t e 1 bytes=true) (hu:P.underlying u=some .string) (hb:(rows.length+s.size)*bytes≤140737488355328) (hl:rows.length+s.size≤2^63-1)
  (n: ∀v' w' X',ez (cY v) X w X' w'→Own w' X' lo e 1 v' (rows++(uq s).map fun x=>[x])→(v'.ownBlock=v.ownBlock∨ ∃g,v'.ownBlock=some g∧w.heap.size≤g)→N v' w' X'):
  eV P R X w true (ej #[t,u] ty #[v,.string s]) N:=by
 obtain⟨ht,kB,pj,z,hi,hz,r8⟩:=jR he;intro wa hk;have own:=own.kp hk;cases hq:P.info? e with
 |none=>simp [hq] at hi
 |some ie=>
  cases lW:ie.zero with
  |none=>simp [hq,lW] at hi
  |some z'=>
   simp only [hq,lW,cU,bq,ay,cx] at hi;obtain⟨h1,rfl,rfl⟩:=hi;unfold iE;obtain⟨v',w',hr,HD,hg,ef⟩:=JK (P:=P) (w:=wa) lo t u ty e ie z' ie.bytes ht hu hq lW h1 rfl r8 v rows.length rows.flatten own.2.1 s hl hb (ah fp hk.size);simp only [vS,bG,hr,aZ,bY];have iO:((uq s).map fun x=>[x]).flatten=uq s:=by
    induction uq s with
    |nil=>rfl
    |cons a l ih=>simp [ih]
   refine⟨⟨hg.os,hg.tape,hg.output,hg.size,fun k tt nB=>hg.block k tt fun e=>nB (own.2.2 k e.symm)⟩,n _ _ _ ?_ ⟨?_,?_,?_⟩ ?_⟩
   ·exact⟨hg.os.trans hk.os,hg.tape.trans hk.tape,hg.output.trans hk.output,ah hk.size hg.size,
     fun k hx du=>(hg.block k (aG (hX k hx) hk.size) fun e=>du e.symm).trans (hk.block k hx),fun k h=>.inl h,
     fun k h=>h.elim (fun h=>aG (hX k h) (ah hk.size hg.size)) (fun h=>h.2)⟩
   ·intro r hr;rcases List.mem_append.1 hr with h|h
    ·exact own.1 r h
    ·obtain⟨x,_,rfl⟩:=List.mem_map.1 h;rfl
   ·rw [au,aH,KX,oU,iO];exact HD
   ·intro g Hl;rcases ef with h|h
    ·exact .inl (own.2.2 g (h▸Hl))
    ·rw [Hl] at h;cases h;exact .inr ⟨ba _,(HD.lt _ Hl).2⟩
   ·rcases ef with h|h
    ·exact .inl h
    ·exact .inr ⟨_,h,hk.size⟩
theorem CA {f:FuncId} {a b:Value} {N:Value→World→XS→Prop} (h:eC P R X w m f #[a,b] N):eF P R X w m (.func (.func f) #[a] #[]) #[b] N:=by
 have e: ∀wa,(FB (.func (.func f) #[a] #[]) #[b]).run P wa=(callFunc f #[a,b]).run P wa:=by
  intro wa;simp [FB,ik,invoke]
 intro wa hk;have:=h wa hk;rw [e wa];exact this
end Go.aV
set_option linter.unusedVariables false
set_option linter.unusedSimpArgs false
namespace Go.aV
variable {P : Program} {R : Ending → World → Prop} {X : XS} {w : World} {m : Bool}
def Ow (w:World) (X:XS) (e k:Nat) (v:Value) (rows:List (List Value)):Prop:=
 (∀r∈rows,r.length=k)∧((v= .slice none 0 0∧rows=[])∨ ∃g off cap cur,v= .slice (some ⟨g,off,none⟩) rows.length cap∧X g∧w.heap[g]? =some (.cells cur e (0,0))∧
  rows.length≤cap∧cap≤maxLen∧off+cap*k≤cur.size∧(cur.toList.drop off).take (rows.length*k)=rows.flatten)
theorem Ow.nil (w:World) (X:XS) (e k:Nat):Ow w X e k (.slice none 0 0) []:=⟨by simp,.inl ⟨rfl,rfl⟩⟩
theorem Own.ow {lo e k:Nat} {v:Value} {rows:List (List Value)} (h:Own w X lo e k v rows):Ow w X e k v rows:=by
 obtain⟨h1,h2,h3⟩:=h;refine⟨h1,?_⟩;rcases h2.2 with⟨rfl,hn⟩|⟨g,cap,cur,rfl,hb,hg,xv,lD,jx,ht⟩
 ·exact .inl ⟨rfl,fC hn⟩
 ·exact .inr ⟨g,0,cap,cur,rfl,h3 g rfl,hg,xv,lD,by omega,by rw [tK];exact ht⟩
theorem Ow.sl {e k:Nat} {v:Value} {rows:List (List Value)} (h:Ow w X e k v rows):Sl w X k v rows:=by
 obtain⟨h1,⟨rfl,rfl⟩|⟨g,off,cap,cur,rfl,hx,hg,xv,lD,jx,ht⟩⟩:=h
 ·exact Sl.nil w X k
 ·have hm:cap≤2^63-1:=lD;refine⟨h1,ah xv hm,_,cap,rfl,fun _=>⟨g,off,rfl,hx,cur,e,(0,0),hg,fun j v hj=>?_⟩,by simp,xv,hm⟩;rw [←ht,jL,qm] at hj;split at hj
  ·simpa using hj
  ·cases hj
theorem Ow.one {e k:Nat} {v:Value} {rows:List (List Value)} (h:Ow w X e k v rows):one v=true:=h.sl.one
theorem Ow.mono {e k:Nat} {v:Value} {rows:List (List Value)} {Y:XS} (h:Ow w X e k v rows) (hs: ∀k,X k→Y k):Ow w Y e k v rows:=by
 obtain⟨h1,h|⟨g,off,cap,cur,hv,hx,hr⟩⟩:=h
 ·exact⟨h1,.inl h⟩
 ·exact⟨h1,.inr ⟨g,off,cap,cur,hv,hs _ hx,hr⟩⟩
theorem Ow.mv {e k:Nat} {v:Value} {rows:List (List Value)} {w':World} {Y:XS} (h:Ow w X e k v rows) (m:Mv X w Y w'):Ow w' Y e k v rows:=by
 obtain⟨h1,h|⟨g,off,cap,cur,hv,hx,hg,hr⟩⟩:=h
 ·exact⟨h1,.inl h⟩
 ·obtain⟨m1,m2⟩:=m g hx (Array.getElem?_eq_some_iff.1 hg).1;exact⟨h1,.inr ⟨g,off,cap,cur,hv,m1,by rw [m2];exact hg,hr⟩⟩
theorem Ow.kp {e k:Nat} {v:Value} {rows:List (List Value)} {w':World} (h:Ow w X e k v rows) (hk:Kp X w w'):Ow w' X e k v rows:=by
 obtain⟨h1,h|⟨g,off,cap,cur,hv,hx,hg,hr⟩⟩:=h
 ·exact⟨h1,.inl h⟩
 ·exact⟨h1,.inr ⟨g,off,cap,cur,hv,hx,by rw [hk.block g hx];exact hg,hr⟩⟩
theorem Ow.bK {e k:Nat} {v:Value} {rows:List (List Value)} (h:Ow w X e k v rows) {g:Nat} (hg:v.ownBlock=some g):X g∧g<w.heap.size:=by
 obtain⟨h1,⟨rfl,_⟩|⟨g',off,cap,cur,rfl,hx,hb,hr⟩⟩:=h
 ·cases hg
 ·simp only [gk,ay] at hg;subst hg;exact⟨hx,(Array.getElem?_eq_some_iff.1 hb).1⟩
theorem Ow.tag {e k:Nat} {v:Value} {rows:List (List Value)} (h:Ow w X e k v rows) {g:Nat} (hg:v.ownBlock=some g): ∃cs:List Value,w.heap[g]? =some (.cells cs.toArray e (0,0)):=by
 obtain⟨h1,⟨rfl,_⟩|⟨g',off,cap,cur,rfl,hx,hb,hr⟩⟩:=h
 ·cases hg
 ·simp only [gk,ay] at hg;subst hg;exact⟨cur.toList,by simpa using hb⟩
theorem Ow.eA {Y:XS} {e e' k g:Nat} {v:Value} {rows:List (List Value)} {cs:List Value} (h:Ow w X e k v rows) (hr:a7 w Y g cs e') (he:decide (e≠e')=true):v.ownBlock≠some g:=fun hg=>by
 obtain⟨c,h1⟩:=h.tag hg;rw [hr.2] at h1;simp only [ay,lS] at h1;exact of_decide_eq_true he h1.2.1.symm
theorem Ow.fM {F X':XS} {w':World} {e k:Nat} {v:Value} {rows:List (List Value)} (h:Ow w X e k v rows) (c:ez F X w X' w') (hd: ∀g,v.ownBlock=some g→ ¬F g):Ow w' X' e k v rows:=by
 obtain⟨h1,h|⟨g,off,cap,cur,rfl,hx,hg,hr⟩⟩:=h
 ·exact⟨h1,.inl h⟩
 ·exact⟨h1,.inr ⟨g,off,cap,cur,rfl,c.sub g hx,by rw [c.block g hx (hd g rfl)];exact hg,hr⟩⟩
theorem Ow.tight {e k:Nat} {v:Value} {rows:List (List Value)} (h:Ow w X e k v rows):Ow w (cY v) e k v rows:=by
 obtain⟨h1,h|⟨g,off,cap,cur,rfl,hx,hr⟩⟩:=h
 ·exact⟨h1,.inl h⟩
 ·exact⟨h1,.inr ⟨g,off,cap,cur,rfl,rfl,hr⟩⟩
theorem wq (t ty e:TypeId) (i:TypeInfo) (ht:P.underlying t=some (.slice e)) (hi:P.info? e=some i)
  (g off jq rj:Nat) (cur:Array Value) (hg:w.heap[g]? =some (.cells cur e (0,0)))
  (a:Addr) (m c:Nat) (news:List Value) (hl:news.length=m*i.size) (aj7: ∀j u,news[j]? =some u→w.cell? (a.add j)=some u) (h1: ∀u∈news,u.oneCell'=true)
  (qx:jq+m≤rj) (Aw:off+jq*i.size+news.length≤cur.size):
  (ej #[t,t] ty #[.slice (some ⟨g,off,none⟩) jq rj,.slice (some a) m c]).run P w=
   .ok (.slice (some ⟨g,off,none⟩) (jq+m) rj) (w.setRow g (cur.toList.take (off+jq*i.size)++news++cur.toList.drop (off+jq*i.size+news.length)).toArray):=by
 have hf:=run_firstCells_some (P:=P) w i.size m a m c news hl aj7;have ed:=run_storeCells_at P g (off+jq*i.size) e news 0 cur w hg (by simpa using Aw) h1;simp only [wm] at ed;simp [ej,run_underlying ht,sizeOf,typeInfo,hi,mY,qx,hf,oy,ed]
theorem wu (t ty e:TypeId) (i:TypeInfo) (ht:P.underlying t=some (.slice e)) (hi:P.info? e=some i)
  (b:Addr) (jq rj:Nat) (qx:jq≤rj):
  (ej #[t,t] ty #[.slice (some b) jq rj,.slice none 0 0]).run P w= .ok (.slice (some b) jq rj) w:=by
 simp [ej,run_underlying ht,sizeOf,typeInfo,hi,mY,qx,vi,storeCells]
theorem Pb {t ty e k bytes:Nat} {v s:Value} {rows dL:List (List Value)} {N:Value→World→XS→Prop}
  (he:mD P t e k bytes=true)
  (hX: ∀k,X k→k<w.heap.size) (own:Ow w X e k v rows) (src:Sl w X k s dL) (h1: ∀r∈dL,∀u∈r,one u=true)
  (hb:(rows.length+dL.length)*bytes≤140737488355328) (hl:rows.length+dL.length≤2^63-1)
  (n: ∀v' w' X',ez (cY v) X w X' w'→Ow w' X' e k v' (rows++dL)→(v'.ownBlock=v.ownBlock∨ ∃g,v'.ownBlock=some g∧w.heap.size≤g)→N v' w' X'):
  eV P R X w true (e7 t e k bytes ty v s) N:=by
 obtain⟨hu,kB,pj,z,hi,AM,r8⟩:=jR he;obtain⟨uY,⟨rfl,rfl⟩|⟨g,off,cap,cur,rfl,hx,hg,xv,lD,jx,xw⟩⟩:=own
 ·exact zZ (rows:=[]) (dL:=dL) z hu hi r8 kB hX (aF _) (Own.nil w X 0 e k) src h1 hb hl fun v2 w2 X2 hg ho ef=>
   n v2 w2 X2 (hg.fM.mono fun k _ hk=>hk.symm) ho.ow ef
 ·intro wa hk;have jg:wa.heap[g]? =some (.cells cur e (0,0)):=by rw [hk.block g hx];exact hg
  have src:=src.kp hk;cases hq:P.info? e with
  |none=>simp [hq] at hi
  |some ie=>
   cases lW:ie.zero with
   |none=>simp [hq,lW] at hi
   |some z'=>
    simp only [hq,lW,cU,bq,ay,cx] at hi;obtain⟨rfl,rfl,rfl⟩:=hi;unfold e7 iE;rcases src.src with⟨rfl,rfl⟩|⟨a,c,rfl,zA⟩
    ·have hr:=wu (P:=P) (w:=wa) t ty e ie hu hq ⟨g,off,none⟩ rows.length cap xv;simp only [vS,bG,hr,aZ,bY];have EY:=Ext.refl wa;have hs:=aj.eE hX hk EY;refine⟨Step.eE EY,n _ _ _ (ez.rL hs _) ?_ (.inl rfl)⟩;rw [List.append_nil];exact⟨uY,.inr ⟨g,off,cap,cur,rfl,.inl hx,jg,xv,lD,jx,xw⟩⟩
    ·have oG:dL.flatten.length=dL.length*ie.size:=qh src.1;have TB:rows.flatten.length=rows.length*ie.size:=qh uY;have tE: ∀u∈dL.flatten,u.oneCell'=true:=fun u hu=>by
      obtain⟨r,hr,hur⟩:=List.mem_flatten.1 hu;rw [←Ez];exact h1 r hr u hur
     have zv: ∀r∈rows++dL,r.length=ie.size:=fun r hr=>by
      rcases List.mem_append.1 hr with h|h
      ·exact uY r h
      ·exact src.1 r h
     have afw:rows.length+dL.length≤maxLen:=hl;by_cases qx:rows.length+dL.length≤cap
     ·have hmul:(rows.length+dL.length)*ie.size≤cap*ie.size:=ou _ qx;rw [py] at hmul;have hr:=wq (P:=P) (w:=wa) t ty e ie hu hq g off rows.length cap cur jg a dL.length c dL.flatten oG zA tE qx zQ;simp only [vS,bG,hr,aZ,bY];have JL: ∀k,k≠g→(wa.setRow g (cur.toList.take (off+rows.length*ie.size)++dL.flatten++cur.toList.drop (off+rows.length*ie.size+dL.flatten.length)).toArray).heap[k]? =wa.heap[k]? :=fun k hk=>setRow_other wa g k _ hk;refine⟨⟨rfl,rfl,rfl,by simp,fun k tt nB=>JL k fun e=>nB (e▸hx)⟩,n _ _ _ ?_ ⟨zv,.inr ⟨g,off,cap,_,by rw [au],.inl hx,setRow_heap wa g cur _ e _ jg,by rw [au];exact qx,lD,?_,?_⟩⟩ (.inl rfl)⟩
      ·exact⟨hk.os,hk.tape,hk.output,by simpa using hk.size,fun k EY du=>(JL k fun e=>du (by rw [e];rfl)).trans (hk.block k EY),fun k h=>.inl h,
        fun k h=>h.elim (fun h=>by have:=hX k h;have:=hk.size;simp;omega) (fun h=>h.2)⟩
      ·simp only [iQ,au,bW,kZ,ec];omega
      ·have fL:off≤cur.toList.length:=by rw [ec (xs:=cur)];omega
       have e1:(cur.toList.take (off+rows.length*ie.size)).drop off=rows.flatten:=by
        rw [List.drop_take,show off+rows.length*ie.size-off=rows.length*ie.size by omega,xw]
       have RG:(cur.toList.take (off+rows.length*ie.size)).length=off+rows.length*ie.size:=by rw [bW,ec (xs:=cur)];omega
       rw [aI,List.drop_append_of_le_length zQ,e1,au,py,oU,←aI,←TB,←oG,←au];exact mE
     ·have holds: ∀j u,rows.flatten[j]? =some u→wa.cell? ((⟨g,off,none⟩:Addr).add j)=some u:=fun j u hj=>by
       rw [←xw,jL,qm] at hj;split at hj
       ·rw [oy];simp only [World.cell?,jg];simpa using hj
       ·cases hj
      have hr:=run_append_grow (P:=P) wa t ty e ie z' hu hq lW ⟨g,off,none⟩ rows.length cap rows.flatten TB holds a dL.length c dL.flatten oG zA zQ (by simp only [maxLen] at afw;omega) (growslice_fits zQ hb);simp only [vS,bG,hr,aZ,bY];have dV:=grownCap_ge wa (rows.length+dL.length) cap e;have lD:grownCap wa (rows.length+dL.length) cap e≤maxLen:=grownCap_le_maxLen wa _ cap e afw;have hblk: ∀k,k<wa.heap.size→(wa.drew.alloc (.cells (rows.flatten.toArray++dL.flatten.toArray++hP z'.cells (grownCap wa (rows.length+dL.length) cap e-(rows.length+dL.length))) e)).heap[k]? =wa.heap[k]? :=fun k hk=>heap_alloc_old wa.drew _ hk;refine⟨⟨rfl,rfl,rfl,by simp,fun k tt _=>hblk k tt⟩,n _ _ _ ?_ ⟨zv,.inr ⟨wa.heap.size,0,_,_,by rw [au],.inr ⟨ba _,by simp⟩,heap_alloc_new wa.drew _,by rw [au];exact dV,lD,?_,?_⟩⟩ (.inr ⟨_,rfl,hk.size⟩)⟩
      ·exact⟨hk.os,hk.tape,hk.output,by have:=hk.size;simp;omega,fun k EY _=>(hblk k (aG (hX k EY) hk.size)).trans (hk.block k EY),fun k h=>.inl h,
        fun k h=>h.elim (fun h=>by have:=hX k h;have:=hk.size;simp;omega) (fun h=>h.2)⟩
      ·simp only [ri,iQ,size_zeroCells,r8,TB,oG,←py];rw [eZ];apply ou;omega
      ·simp only [oT,tK,aI,oU];rw [←aI,au,py,←TB,←oG,←au];exact mE
section
variable {t ty e k bytes : Nat} {v x s : Value} {rows dL : List (List Value)} {row : List Value} {N : Value → World → XS → Prop}
theorem acm (own:Ow w X e k v rows) (hX: ∀k,X k→k<w.heap.size) (he:mD P t e k bytes=true) (hx:x.cells.toList=row) (hk:(row.length==k)=true)
  (h1:row.all one=true) (hb:(rows.length+1)*bytes≤140737488355328) (hl:rows.length+1≤2^63-1)
  (n: ∀v' w' X',ez (cY v) X w X' w'→Ow w' X' e k v' (rows++[row])→(v'.ownBlock=v.ownBlock∨ ∃g,v'.ownBlock=some g∧w.heap.size≤g)→N v' w' X'):
  eV P R X w m (fH t e k 1 #[(0,x)]) fun s w1 X1=>eV P R X1 w1 true (e7 t e k bytes ty v s) N:=by
 obtain⟨hu,kB,pj,z,hi,AM,r8⟩:=jR he;have af:row.length=k:=by simpa using hk
 have HE:x.cells.size=k:=by rw [←af,←hx,ec]
 refine zh (rows:=[row]) x.cells z hX hu AM zQ zQ ?_ (by simpa using af) rfl (by simpa using hx) fun s w1 X1 ao Pa=>?_
 ·simp only [Nat.one_mul];exact Cz HE (by simp)
 ·refine Pb (dL:=[row]) he ao.has (own.mv ao.mv) Pa.sl (by simpa using h1) (by simpa using hb) (by simpa using hl) fun v2 w2 X2 hg ho ef=>?_;refine n v2 w2 X2 ((ez.rL ao (cY v)).trans hg) ho ?_;rcases ef with h|⟨g,h,dV⟩
  ·exact .inl h
  ·exact .inr ⟨g,h,ah ao.kp.size dV⟩
end
theorem Sg {k:Nat} : ∀{rows:List (List Value)} (i:Nat),(∀r∈rows,r.length=k)→(rows.drop i).flatten=rows.flatten.drop (i*k)
 |_,0,_=>by simp
 |[],i+1,_=>by simp
 |r::rows,i+1,h=>by
  have hr:=h r (by simp);rw [List.drop_succ_cons,Sg i fun x hx=>h x (bz _ hx),iP,Nat.succ_mul,Nat.add_comm,←List.drop_drop,List.drop_left' hr]
theorem nA {k:Nat} : ∀{rows:List (List Value)} (i:Nat),(∀r∈rows,r.length=k)→(rows.take i).flatten=rows.flatten.take (i*k)
 |_,0,_=>by simp
 |[],i+1,_=>by simp
 |r::rows,i+1,h=>by
  have hr:=h r (by simp);have e1:r.take (k+i*k)=r:=List.take_of_length_le zQ;rw [List.take_succ_cons,iP,nA i fun x hx=>h x (bz _ hx),iP,Nat.succ_mul,Nat.add_comm,List.take_append,hr,e1,show k+i*k-k=i*k by omega]
theorem dR.eA {κ α:Type} [DecidableEq κ] {A F:XS} {kv:κ→Value} {rd:World→XS→Value→α→Prop} {l:List (κ×α)} {b g:Nat} {cs:List Value} {e:TypeId} (h:dR w X A b kv rd l) (hr:a7 w F g cs e):b≠g:=by
 rintro rfl;obtain⟨es,c,h1,_⟩:=h;have:=h1.2.1;rw [hr.2] at this;cases this
theorem a7.eA {F:XS} {b g:Nat} {cs sM:List Value} {e e':TypeId} (h:a7 w X b cs e) (hr:a7 w F g sM e') (he:decide (e≠e')=true):b≠g:=by
 rintro rfl;have:=h.2;rw [hr.2] at this;simp only [ay,lS] at this;exact of_decide_eq_true he this.2.1.symm
theorem dR.aeJ {κ α:Type} [DecidableEq κ] {A F:XS} {kv:κ→Value} {rd:World→XS→Value→α→Prop} {l:List (κ×α)} {b e k:Nat} {v:Value} {rows:List (List Value)} (h:dR w X A b kv rd l) (hr:Ow w F e k v rows):v.ownBlock≠some b:=fun hg=>by
 obtain⟨cs,h2⟩:=hr.tag hg;obtain⟨es,c,h1,_⟩:=h;have:=h1.2.1;rw [h2] at this;cases this
section
variable {t : TypeId}
theorem Qo {l:List Value} {N:Value→World→XS→Prop} (hX: ∀k,X k→k<w.heap.size) (hz:(P.info? t).bind (·.zero)=some (.agg l.toArray))
  (n: ∀b w' X',w.heap.size≤b→aj X w X' w'→a7 w' X' b l t→N (ptr b 0) w' X'):eV P R X w m (xV t true (.tuple #[])) N:=by
 intro wa hk;unfold iE;have hzv: ∀w,(zeroValue t).run P w= .ok (.agg l.toArray) w:=by
  intro w;cases hi:P.info? t with
  |none=>simp [hi] at hz
  |some inf=>
   have CW:inf.zero=some (.agg l.toArray):=by simpa [hi] using hz
   simp [zeroValue,typeInfo,hi,CW]
 have hr:(xV t true (.tuple #[])).run P wa= .ok (ptr wa.heap.size 0) (wa.alloc (.cells l.toArray t)):=by simp [xV,hzv,newVar,newRow,aa]
 simp only [vS,bG,hr,aZ,bY];have hx:Ext wa (wa.alloc (.cells l.toArray t)):=Ext.alloc _ _;exact⟨Step.eE hx,n _ _ _ hk.size (aj.eE hX hk hx) ⟨.inr ⟨ba _,by simp⟩,by simpa using heap_alloc_new wa _⟩⟩
theorem acn {e k bytes c:Nat} {z:Int} {N:Value→World→XS→Prop} (hX: ∀k,X k→k<w.heap.size) (he:mD P t e k bytes=true) (hz:z=c) (hc:c≤2^32) (hb:bytes≤1024) (hk:k≤1024)
  (n: ∀v w' X',aj X w X' w'→Own w' X' w.heap.size e k v []→N v w' X'):eV P R X w m (yL t (I 0) (I z)) N:=by
 subst hz;obtain⟨hu,kB,pj,z,hi,AM,r8⟩:=jR he;intro wa af;unfold iE;cases hq:P.info? e with
 |none=>simp [hq] at hi
 |some ie=>
  cases lW:ie.zero with
  |none=>simp [hq,lW] at hi
  |some z'=>
   simp only [hq,lW,cU,bq,ay,cx] at hi;obtain⟨h1,h2,h3⟩:=hi;have Ro:ie.bytes*c≤281474976710656:=by
    have:=Nat.mul_le_mul (show ie.bytes≤1024 by omega) hc;omega
   obtain⟨w',hr,HD,hg⟩:=run_make_own (P:=P) wa w.heap.size t e ie z' k hu hq lW h1 .i64 .i64 c Ro (by simp only [maxLen];omega) af.size;have qp:(yL t (I 0) (I (c:Int))).run P wa= .ok (.slice (some ⟨wa.heap.size,0,none⟩) 0 c) w':=hr;simp only [vS,bG,qp,aZ,bY];have hx:Ext wa w':=⟨hg.os,hg.tape,hg.output,hg.size,fun k hk _=>hg.block k hk (by simp)⟩;refine⟨Step.eE hx,n _ _ _ (aj.eE hX af hx) ⟨by simp,HD,fun g Hl=>?_⟩⟩;simp only [gk,ay] at Hl;subst Hl;exact .inr ⟨ba _,(HD.lt _ rfl).2⟩
end
structure Ft (w0:World) (F0:XS) (w:World) (X F:XS):Prop where
 s:aj (out F0 w0) w0 X w
 bK: ∀k,F k→X k
 v: ∀k,F k→F0 k∨w0.heap.size≤k
section
variable {w0 w' : World} {F0 F F' G X' A : XS} {Q : Value → World → World → Prop} {N : Value → World → XS → Prop} {f : FuncId} {args : Array Value}
theorem Ft.init (h: ∀k,F0 k→k<w.heap.size):Ft w F0 w (aR w) F0:=⟨aj.out _ _,h,fun _ h=>.inl h⟩
theorem Ft.since (h:Ft w0 F0 w X F) (hs:aj X w X' w'):Ft w0 F0 w' X' F:=⟨h.s.trans hs,fun k hk=>hs.sub k (h.bK k hk),h.v⟩
theorem Ft.no (h:Ft w0 F0 w X F) {k:Nat} (hk:F k) (h0:out F0 w0 k):False:=by
 rcases h.v k hk with h1|h1
 ·exact h0.2 h1
 ·have:=h0.1;omega
theorem Ft.fM (h:Ft w0 F0 w X F) (c:ez G X w X' w') (hG: ∀k,G k→F k) (hF: ∀k,F' k→F k∨(X' k∧w.heap.size≤k)):Ft w0 F0 w' X' F':=by
 refine⟨h.s.fM c fun k h0 hk=>h.no (hG k hk) h0,fun k hk=>?_,fun k hk=>?_⟩
 ·rcases hF k hk with h1|h1
  ·exact c.sub k (h.bK k h1)
  ·exact h1.1
 ·rcases hF k hk with h1|h1
  ·exact h.v k h1
  ·right;have:=h1.2;have:=h.s.kp.size;omega
theorem Ft.less (h:Ft w0 F0 w X F) (hF: ∀k,F' k→F k):Ft w0 F0 w X F':=⟨h.s,fun k hk=>h.bK k (hF k hk),fun k hk=>h.v k (hF k hk)⟩
theorem Ft.more (h:Ft w0 F0 w X F) (hF: ∀k,F' k→F k∨(X k∧w0.heap.size≤k)):Ft w0 F0 w X F':=by
 refine⟨h.s,fun k hk=>?_,fun k hk=>?_⟩
 ·rcases hF k hk with h1|h1
  ·exact h.bK k h1
  ·exact h1.1
 ·rcases hF k hk with h1|h1
  ·exact h.v k h1
  ·exact .inr h1.2
theorem Ft.call (hT:Ft w0 F0 w X F) (h:Ct P f args w X G Q) (hf:enters P f=true) (hG: ∀k,G k→F k)
  (k: ∀v wa w' X',Q v wa w'→w.heap.size≤wa.heap.size→(∀k,made wa w' k→X' k)→Ft w0 F0 w' X' (fun k=>F k∨made wa w' k)→ez G X w X' w'→N v w' X'):eC P R X w true f args N:=by
 refine aeI h hf hT.s.has (fun q hq=>hT.bK q (hG q hq)) fun v wa w' X' hq hle fP Ma hc=>k v wa w' X' hq hle fP ?_ hc;exact hT.fM hc hG fun q hq=>hq.imp id fun hm=>⟨fP q hm,ah hle hm.1⟩
theorem Ft.fin {v:Value} {Q:Value→World→Prop} (h:Ft w0 F0 w X F) (hq: ∀wa,Kp X w wa→Q v wa):fin (xt F0 w0 Q) X w v:=YS h.s hq
theorem Ft.gU (h:Ft w0 F0 w X F) {wa:World} (hk:Kp X w wa) (hF: ∀k,F' k→F k): ∀k,F' k→F0 k∨made w0 wa k:=fun k af=>by
 rcases h.v k (hF k af)with h1|h1
 ·exact .inl h1
 ·exact .inr ⟨h1,aG (h.s.has k (h.bK k (hF k af))) hk.size⟩
theorem Ft.kW (h:Ft w0 nX w X F):aj (aV.aR w0) w0 X w:=
 ⟨⟨h.s.kp.os,h.s.kp.tape,h.s.kp.output,h.s.kp.size,fun k af=>h.s.kp.block k ⟨af,fun h=>h.elim⟩⟩,fun k af=>h.s.sub k ⟨af,fun h=>h.elim⟩,h.s.has⟩
def DH (w0:World) (X:XS):XS:=fun k=>X k∧w0.heap.size≤k
theorem Ft.new (h:Ft w0 F0 w X F):Ft w0 F0 w X (fun k=>F k∨DH w0 X k):=h.more fun k hk=>hk.imp id fun h=>h
theorem Ft.Qp (h:Ft w0 nX w X F):Ft w0 nX w X (DH w0 X):=h.more fun k hk=>.inr hk
theorem ez.fi (c:ez G X w X' w') (h: ∀k,A k→X k∧ ¬G k):Mv A w A w':=fun k hk _=>⟨hk,c.block k (h k hk).1 (h k hk).2⟩
theorem Kp.fi (hk:Kp X w w') (h: ∀k,A k→X k):Mv A w A w':=fun k af _=>⟨af,hk.block k (h k af)⟩
theorem aj.fZ (hs:aj X w X' w') (h: ∀k,A k→X k):Mv A w A w':=fun k af _=>⟨af,hs.kp.block k (h k af)⟩
end
theorem aj8 {w0:World} {t ty e k bytes:Nat} {v s:Value} {rows dL:List (List Value)} {N:Value→World→XS→Prop} (hT:Ft w0 nX w X (DH w0 X)) (hO:Ow w (DH w0 X) e k v rows) (he:mD P t e k bytes=true)
  (src:Sl w X k s dL) (h1: ∀r∈dL,∀u∈r,one u=true) (hb:(rows.length+dL.length)*bytes≤140737488355328) (hl:rows.length+dL.length≤2^63-1)
  (n: ∀v' w' X',Ft w0 nX w' X' (DH w0 X')→Ow w' (DH w0 X') e k v' (rows++dL)→ez (cY v) X w X' w'→(v'.ownBlock=v.ownBlock∨ ∃g,v'.ownBlock=some g∧w.heap.size≤g)→N v' w' X'):
  eV P R X w true (e7 t e k bytes ty v s) N:=by
 refine Pb he hT.s.has (hO.mono hT.bK) src h1 hb hl fun v' w' X' c ho ef=>?_;have hT':Ft w0 nX w' X' (DH w0 X'):=Ft.Qp (F:=DH w0 X) (hT.fM c (fun k hk=>(hO.bK hk).1) fun k hk=>.inl hk);refine n v' w' X' hT' (ho.tight.mono fun k hk=>⟨(ho.bK hk).1,?_⟩) c ef;have af:v'.ownBlock=some k:=hk;rcases ef with e|⟨g,e,dV⟩
 ·exact(hO.bK (e▸af)).1.2
 ·rw [af] at e;have:k=g:=Option.some.inj e;have:=hT.s.kp.size;omega
def Dj (A B:XS):Prop:= ∀k,A k→B k→False
theorem Dj.symm {A B:XS} (h:Dj A B):Dj B A:=fun k a b=>h k b a
theorem Dj.grow {A B B' C:XS} (h:Dj A B) (hB: ∀k,B' k→B k∨C k) (hc:Dj A C):Dj A B':=fun k a b=>(hB k b).elim (h k a) (hc k a)
theorem Dj.less {A A' B B':XS} (h:Dj A B) (ha: ∀k,A' k→A k) (hb: ∀k,B' k→B k):Dj A' B':=fun k a b=>h k (ha k a) (hb k b)
end Go.aV
set_option linter.unusedVariables false
set_option linter.unusedSimpArgs false
namespace Go.aV
variable {P : Program} {R : Ending → World → Prop} {X : XS} {w : World} {m : Bool}
def Gz (w:World) (X:XS) (b:Nat) (cs:List Value) (ty:TypeId):Prop:=X b∧w.heap[b]? =some (.cells cs.toArray ty (cs.length,cs.length+1))
theorem Gz.cells {b:Nat} {cs:List Value} {ty:TypeId} (h:Gz w X b cs ty):Cells w X b 0 cs:=⟨h.1,_,_,_,h.2,fun j v hj=>by simpa using hj⟩
theorem Gz.since {b:Nat} {cs:List Value} {ty:TypeId} {Y:XS} {w':World} (h:Gz w X b cs ty) (hs:aj X w Y w'):Gz w' Y b cs ty:=⟨hs.sub _ h.1,by rw [hs.kp.block b h.1];exact h.2⟩
theorem Xv (wa:World) (g n:Nat) (cs:Array Value) (e:TypeId) (h:wa.heap[g]? =some (.cells cs e (0,0))):(wa.freeze ⟨g,n,none⟩ 1).heap=wa.heap.setIfInBounds g (.cells cs e (n,n+1)):=by
 unfold rO;rw [if_neg (by decide)];obtain⟨hl,he⟩:=Array.getElem?_eq_some_iff.1 h;apply Array.ext
 ·simp
 ·intro i h1 h2;simp only [Array.getElem_modify,Array.getElem_setIfInBounds];split
  ·rename_i hi;subst hi;rw [he];simp
  ·rename_i hi;exact(Array.getElem_setIfInBounds_ne (by simpa using h2) hi).symm
theorem agC {t e g n c:Nat} {cs:List Value} {N:Value→World→XS→Prop} (h:a7 w X g cs e) (ht:P.underlying t=some (.slice e)) (he:P.underlying e=some (.int .u8)) (hX: ∀k,X k→k<w.heap.size)
  (k: ∀w' X',ez (· =g) X w X' w'→Gz w' X' g cs e→N (.slice (some ⟨g,0,none⟩) n c) w' X'):eV P R X w true (convert t t (.slice (some ⟨g,0,none⟩) n c)) N:=by
 intro wa hk;have hb:=(h.kp hk).2;have dy:=(Array.getElem?_eq_some_iff.1 hb).1;have hsh:wa.shape? g=some (e,cs.length):=by unfold World.shape?;rw [hb];simp
 have hr:(convert t t (.slice (some ⟨g,0,none⟩) n c)).run P wa= .ok (.slice (some ⟨g,0,none⟩) n c) (wa.freeze ⟨g,cs.length,none⟩ 1):=by
  simp [convert,run_underlying ht,run_underlying he,markStringish,hsh]
 have hh:=Xv wa g cs.length cs.toArray e hb;unfold iE;simp only [vS,bG,hr,aZ,bY];have EL:(wa.freeze ⟨g,cs.length,none⟩ 1).os=wa.os:=by unfold rO;rw [if_neg (by decide)]
 have htp:(wa.freeze ⟨g,cs.length,none⟩ 1).tape=wa.tape:=by unfold rO;rw [if_neg (by decide)]
 have sN:(wa.freeze ⟨g,cs.length,none⟩ 1).output=wa.output:=by unfold rO;rw [if_neg (by decide)]
 have fL:(wa.freeze ⟨g,cs.length,none⟩ 1).heap.size=wa.heap.size:=by rw [hh];simp
 have hblk: ∀q,q≠g→(wa.freeze ⟨g,cs.length,none⟩ 1).heap[q]? =wa.heap[q]? :=fun q hq=>by rw [hh,dQ,if_neg (Ne.symm hq)]
 refine⟨⟨EL,htp,sN,by rw [fL];exact ba _,fun q _ hx=>hblk q fun e=>hx (e▸h.1)⟩,k _ _ ?_ ⟨.inl h.1,by rw [hh,dQ,if_pos rfl,if_pos dy]⟩⟩;refine⟨EL.trans hk.os,htp.trans hk.tape,sN.trans hk.output,by rw [fL];exact hk.size,fun q hx du=>(hblk q du).trans (hk.block q hx),fun q h=>.inl h,fun q h=>?_⟩;rw [fL];exact h.elim (fun h=>aG (hX q h) hk.size) (fun h=>by have:=h.2;rwa [fL] at this)
theorem aj9 {t b o:Nat} {cs:List Value} {ty:TypeId} {v:Value} {N:Value→World→XS→Prop} (h:Gz w X b cs ty) (ht:(P.info? t).map (·.size)=some 1)
  (hl:o<cs.length) (h1:one v=true) (hX: ∀k,X k→k<w.heap.size)
  (n: ∀w' X',ez (· =b) X w X' w'→Gz w' X' b (cs.set o v) ty→N undef w' X'):eU P R X w true (st1 t 1 (ptr b o) v) N:=by
 intro wa hk;have hb:wa.heap[b]? =some (.cells cs.toArray ty (cs.length,cs.length+1)):=by rw [hk.block b h.1];exact h.2
 have dy:=(Array.getElem?_eq_some_iff.1 hb).1;have hv:v.cells= #[v]:=rr h1;have zA:wa.cell? ⟨b,o,none⟩=some cs[o]:=by simp [World.cell?,hb,hl]
 have alV:wa.frozen? ⟨b,o,none⟩=false:=by simp [World.frozen?,hb];omega
 have ed:(store ⟨b,o,none⟩ v).run P wa= .ok () (wa.setRow b (cs.toArray.setIfInBounds o v)):=by
  rw [run_store P wa _ v _ (by rw [←Ez];exact h1),zA];simp [alV,setCell_eq_setRow wa b o cs.toArray ty _ v hb]
 have hr:(Instr.storeAt t (ptr b o) v).run P wa= .ok () (wa.setRow b (cs.toArray.setIfInBounds o v)):=by
  cases hi:P.info? t with
  |none=>simp [hi] at ht
  |some i=>
   simp only [hi,bq,ay] at ht;simp [Instr.storeAt,Instr.sureAddr,dT,storeVar,sizeOf,typeInfo,hi,ht,hv,storeCells,oy];simpa using ed
 unfold st1 iE;simp only [uS,bG,hr,aZ,bY];have fL:(wa.setRow b (cs.toArray.setIfInBounds o v)).heap.size=wa.heap.size:=by simp
 refine⟨⟨rfl,rfl,rfl,by rw [fL];exact ba _,fun k _ hx=>setRow_other wa b k _ fun e=>hx (e▸h.1)⟩,n _ _ ?_ ⟨.inl h.1,?_⟩⟩
 ·refine⟨hk.os,hk.tape,hk.output,by rw [fL];exact hk.size,fun k hx du=>?_,fun k h=>.inl h,fun k h=>?_⟩
  ·rw [setRow_other wa b k _ du,hk.block k hx]
  ·rw [fL];exact h.elim (fun h=>aG (hX k h) hk.size) (fun h=>by have:=h.2;rwa [fL] at this)
 ·have:=setRow_heap wa b cs.toArray (cs.toArray.setIfInBounds o v) ty _ hb;rw [this,List.length_set];simp
def Eh (l:List Nat):ByteArray:=⟨(l.map UInt8.ofNat).toArray⟩
theorem Sh (l:List Nat):(Eh l).size=l.length:=by simp [Eh,ByteArray.size]
theorem agD {src dst e b o cap len:Nat} {l:List Nat} {N:Value→World→XS→Prop} (hlen:len=l.length) (hc:Cells w X b o (l.map fun x:Nat=>aA .u8 x)) (hs:P.underlying src=some (.slice e)) (he:P.underlying e=some (.int .u8)) (hd:P.underlying dst=some .string)
  (hX: ∀k,X k→k<w.heap.size) (n: ∀w' X',aj X w X' w'→N (.string (Eh l)) w' X'):eV P R X w m (convert src dst (.slice (some ⟨b,o,none⟩) len cap)) N:=by
 subst hlen;intro wa hk;have hr:=run_convert_bytes_arg (P:=P) wa src e hs he b o l.length cap (l.map fun x:Nat=>(x:Int)) (by simp) (fun i hi=>by
  have:=(hc.kp hk).range i (.int .u8 ((l[i]:Nat):Int)) (by simp [hi]);rw [this];simp [jP,hi]) dst hd
 have e1:strOfNums (l.map fun x:Nat=>(x:Int))=Eh l:=by
  unfold strOfNums Eh;simp
 rw [e1] at hr;unfold iE;simp only [vS,bG,hr,aZ,bY];have hx:=Ext.refl wa;exact⟨Step.eE hx,n _ _ (aj.eE hX hk hx)⟩
theorem Vx {t:TypeId} {a b:ByteArray} {N:Value→Prop} (h:a.size+b.size≤2^62) (k:N (.string (a++b))):ae P X w (binOp .add t (.string a) (.string b)) N:=
 cf (fun wa=>by
  have:=run_string_add_sum (P:=P) wa a b zQ;simp [binOp,this]) k
theorem aka {t e k bytes ty:Nat} {s:Value} {rows:List (List Value)} {m':Bool} {N:Value→World→XS→Prop} (hX: ∀k,X k→k<w.heap.size) (he:mD P t e k bytes=true) (src:Sl w X k s rows) (h1: ∀r∈rows,∀u∈r,one u=true)
  (hb:rows.length*bytes≤140737488355328) (hl:rows.length≤2^63-1)
  (n: ∀v w' X',aj X w X' w'→Ow w' (DH w X') e k v rows→N v w' X'):eV P R X w m (fH t e k 0 #[]) fun a w1 X1=>eV P R X1 w1 m' (e7 t e k bytes ty a s) N:=by
 obtain⟨hu,kB,pj,z,hi,AM,r8⟩:=jR he;cases hq:P.info? e with
 |none=>simp [hq] at hi
 |some ie=>
  cases lW:ie.zero with
  |none=>simp [hq,lW] at hi
  |some z'=>
   simp only [hq,lW,cU,bq,ay,cx] at hi;obtain⟨rfl,rfl,rfl⟩:=hi;intro wa hk;have hr:(gF t 0 #[]).run P wa= .ok (.slice (some ⟨wa.heap.size,0,none⟩) 0 0) (wa.alloc (.cells #[] e)):=by
    simp [gF,run_underlying hu,sizeOf,typeInfo,hq,Instr.fill,newRow];have LX: ∀f:Nat→Value,Array.map f (Array.range 0)= #[]:=fun f=>Array.eq_empty_of_size_eq_zero (by simp);rw [LX]
   unfold fH iE;simp only [vS,bG,hr,aZ,bY];have hx:Ext wa (wa.alloc (.cells #[] e)):=Ext.alloc _ _;have ao:=aj.eE hX hk hx;refine⟨Step.eE hx,?_⟩;intro wb mM;unfold e7 iE;have alW:=(src.since ao).kp mM;have JM:wb.heap[wa.heap.size]? =some (.cells #[] e (0,0)):=by
    rw [mM.block _ (.inr ⟨ba _,by simp⟩)];exact heap_alloc_new wa _
   have fL:=mM.size;have Zc:=ao.kp.size;have am7:=(Array.getElem?_eq_some_iff.1 JM).1;rcases alW.src with⟨rfl,rfl⟩|⟨a,c,rfl,zA⟩
   ·have qU:=wu (P:=P) (w:=wb) t ty e ie hu hq ⟨wa.heap.size,0,none⟩ 0 0 (ba _);simp only [vS,bG,qU,aZ,bY];have bU:=aj.eE ao.has mM (Ext.refl wb);exact⟨Step.eE (Ext.refl _),n _ _ _ (ao.trans bU) ⟨by simp,.inr ⟨wa.heap.size,0,0,#[],rfl,⟨.inl (.inr ⟨ba _,by simp⟩),hk.size⟩,JM,ba _,aF _,by simp,by simp⟩⟩⟩
   ·have oG:rows.flatten.length=rows.length*ie.size:=qh src.1;by_cases h0:rows=[]
    ·subst h0;have qU:=wq (P:=P) (w:=wb) t ty e ie hu hq wa.heap.size 0 0 0 #[] JM a 0 c [] (by simp) (by simp) (by simp) (ba _) (by simp);have e0:wb.setRow wa.heap.size (#[].toList.take (0+0*ie.size)++[]++ #[].toList.drop (0+0*ie.size+([]:List Value).length)).toArray=wb:=by
      have:=setRow_self wb wa.heap.size #[] e (0,0) JM;simpa using this
     rw [e0] at qU;have sT:(ej #[t,t] ty #[.slice (some ⟨wa.heap.size,0,none⟩) 0 0,.slice (some a) ([]:List (List Value)).length c]).run P wb= .ok (.slice (some ⟨wa.heap.size,0,none⟩) 0 0) wb:=qU;simp only [vS,bG,sT,aZ,bY];have bU:=aj.eE ao.has mM (Ext.refl wb);exact⟨Step.eE (Ext.refl _),n _ _ _ (ao.trans bU) ⟨by simp,.inr ⟨wa.heap.size,0,0,#[],rfl,⟨.inl (.inr ⟨ba _,by simp⟩),hk.size⟩,JM,ba _,aF _,by simp,by simp⟩⟩⟩
    ·have aam:0<rows.length:=List.length_pos_iff.2 h0;have qU:=run_append_grow (P:=P) wb t ty e ie z' hu hq lW ⟨wa.heap.size,0,none⟩ 0 0 [] (by simp) (by simp) a rows.length c rows.flatten oG zA zQ zQ (growslice_fits zQ (by simpa using hb));simp only [eZ] at qU;simp only [vS,bG,qU,aZ,bY];have dV:=grownCap_ge wb rows.length 0 e;have lD:grownCap wb rows.length 0 e≤maxLen:=grownCap_le_maxLen wb _ 0 e hl;have YC:Ext wb (wb.drew.alloc (.cells ([].toArray++rows.flatten.toArray++hP z'.cells (grownCap wb rows.length 0 e-rows.length)) e)):=⟨rfl,rfl,rfl,by simp,fun k hk _=>heap_alloc_old wb.drew _ hk⟩;have bU:=aj.eE ao.has mM YC;have fP:w.heap.size≤wb.heap.size:=ah Zc fL;refine⟨Step.eE YC,n _ _ _ (ao.trans bU) ⟨src.1,.inr ⟨wb.heap.size,0,_,_,rfl,⟨.inr ⟨ba _,by simp⟩,fP⟩,heap_alloc_new wb.drew _,dV,lD,?_,?_⟩⟩⟩
     ·simp only [ri,iQ,size_zeroCells,r8,oG,List.length_nil,eZ,←py];apply ou;omega
     ·simp only [oT,tK,dG];rw [←oG];exact mE
theorem qu {t b o o':Nat} {cs:List Value} {ty:TypeId} {v:Value} {N:Value→World→XS→Prop} (h:a7 w X b cs ty) (Vy:o'=o) (ht:(P.info? t).map (·.size)=some 1)
  (hl:o<cs.length) (h1:one v=true) (hX: ∀k,X k→k<w.heap.size)
  (n: ∀w' X',ez (· =b) X w X' w'→a7 w' X' b (dg cs o [v]) ty→N undef w' X'):eU P R X w true (st1 t 1 (ptr b o') v) N:=by
 subst Vy;have hv:=rr h1;refine By h ht zQ (by rw [hv];rfl) (by rw [hv];simp [h1]) hX fun w' X' c hr=>n w' X' c ?_;rw [hv] at hr;exact hr
theorem FO {t sz b o o':Nat} {cs:List Value} {ty:TypeId} {v:Value} {N:Value→World→XS→Prop} (h:a7 w X b cs ty) (Vy:o'=o) (ht:(P.info? t).map (·.size)=some sz)
  (hl:o+sz≤cs.length) (hv:v.cells.size=sz) (h1:v.cells.toList.all one=true) (hX: ∀k,X k→k<w.heap.size)
  (n: ∀w' X',ez (· =b) X w X' w'→a7 w' X' b (dg cs o v.cells.toList) ty→N undef w' X'):eU P R X w true (st1 t sz (ptr b o') v) N:=by
 subst Vy;exact By h ht hl hv h1 hX n
end Go.aV
set_option linter.unusedVariables false
set_option linter.unusedSimpArgs false
namespace Go.aV
variable {P : Program} {R : Ending → World → Prop} {X : XS} {w : World} {m : Bool}
theorem afX {t:TypeId} {k:Nat} {v:Value} {z:Int} {i:Nat} {rows:List (List Value)} {N:Value→Prop} (h:Sl w X k v rows) (hz:z=i) (hi:i≤rows.length) (ht:P.underlying t=some (.slice (P.elem t))) (hs:(P.info? (P.elem t)).map (·.size)=some k)
  (n: ∀v',Sl w X k v' (rows.drop i)→N v'):ae P X w (gf t v (some (.int .i64 z)) none none) N:=by
 subst hz;obtain⟨h1,h2,base,cap,rfl,hc,hb,hlc,lD⟩:=h;have hq: ∃inf,P.info? (P.elem t)=some inf∧inf.size=k:=by
  cases hq:P.info? (P.elem t)with
  |none=>simp [hq] at hs
  |some inf=>exact⟨inf,rfl,by simpa [hq] using hs⟩
 obtain⟨inf,hq,fL⟩:=hq;have jG: ∀wa:World,(gf t (.slice base rows.length cap) (some (.int .i64 (i:Int))) none none).run P wa= .ok (sliced base i rows.length cap k) wa:=fun wa=>by
  rw [run_sliceAt_slice wa t _ _ _ _ ht,run_slice_l wa t _ _ cap ht .i64 i zQ zQ];simp [sizeOf,typeInfo,hq,fL]
 refine cf jG (n _ ?_);refine⟨fun r hr=>h1 r (List.mem_of_mem_drop hr),by rw [kZ];omega,_,cap-i,by unfold sliced;rw [kZ],fun du=>?_,fun AK=>?_,by rw [kZ];omega,by omega⟩
 ·have AY:i<rows.length:=by
   refine Nat.lt_of_not_le fun hle=>du (List.drop_of_length_le hle)
  obtain⟨b,o,rfl,jx⟩:=hc (by intro e;rw [e] at AY;simp at AY);refine⟨b,o+i*k,?_,?_⟩
  ·rw [if_neg zQ];simp only [bq,ay];unfold Addr.add;split
   ·rename_i h0;rw [h0];rfl
   ·rfl
  ·rw [aV.Sg i h1];obtain⟨hx,c,ty,fr,eY,AL⟩:=jx;exact⟨hx,c,ty,fr,eY,fun j v hj=>by rw [qm] at hj;have:=AL _ _ hj;rwa [←Nat.add_assoc] at this⟩
 ·split at AK
  ·have:=hb AK;omega
  ·have:base=none:=by simpa using AK
   have:=hb this;omega
theorem afW {t:TypeId} {a:Option Addr} {n cap i j q:Nat} {z z' z2:Int} {N:Value→Prop} (hz:z=i) (CW:z'=j) (AM:z2=q) (hi:i≤j) (hj:j≤q) (hq:q≤cap) (ht:P.underlying t=some (.slice (P.elem t))) (hs:((P.info? (P.elem t)).map (·.size)).isSome=true)
  (h: ∀v,N v):ae P X w (gf t (.slice a n cap) (some (.int .i64 z)) (some (.int .i64 z')) (some (.int .i64 z2))) N:=by
 subst hz;subst CW;subst AM;obtain⟨k,hk⟩:=Option.isSome_iff_exists.1 hs;refine cf (v:=sliced a i j q k) (fun wa=>?_) (h _);rw [run_sliceAt_slice wa t _ _ _ _ ht,run_slice_lhm wa t a n cap ht .i64 .i64 .i64 i j q zQ zQ zQ zQ];cases hq:P.info? (P.elem t)with
 |none=>simp [hq] at hk
 |some inf=>
  have:inf.size=k:=by simpa [hq] using hk
  simp [sizeOf,typeInfo,hq,this]
theorem ahL {t:TypeId} {k g off n cap i j:Nat} {z z':Int} {N:Value→Prop} (hz:z=i) (CW:z'=j) (hi:i≤j) (hj:j≤cap) (hic:i<cap) (ht:P.underlying t=some (.slice (P.elem t))) (hs:(P.info? (P.elem t)).map (·.size)=some k)
  (h:N (.slice (some ⟨g,off+i*k,none⟩) (j-i) (cap-i))):ae P X w (gf t (.slice (some ⟨g,off,none⟩) n cap) (some (.int .i64 z)) (some (.int .i64 z')) none) N:=by
 subst hz;subst CW;refine cf (fun wa=>?_) h;rw [run_sliceAt_slice wa t _ _ _ _ ht,run_slice_lh wa t _ n cap ht .i64 .i64 i j zQ zQ zQ];cases hq:P.info? (P.elem t)with
 |none=>simp [hq] at hs
 |some inf=>
  have:inf.size=k:=by simpa [hq] using hs
  have du: ¬cap=i:=by omega
  simp [sizeOf,typeInfo,hq,sliced,this,oy,du]
theorem adP {t ty e k bytes g off n cap:Nat} {s:Value} {cur:List Value} {dL:List (List Value)} {N:Value→World→XS→Prop} (he:mD P t e k bytes=true) (h:a7 w X g cur e) (src:Sl w X k s dL) (h1: ∀r∈dL,∀u∈r,one u=true)
  (qx:n+dL.length≤cap) (Aw:off+n*k+dL.length*k≤cur.length) (hX: ∀k,X k→k<w.heap.size)
  (nx: ∀w' X',ez (fun k=>k=g) X w X' w'→a7 w' X' g (dg cur (off+n*k) dL.flatten) e→N (.slice (some ⟨g,off,none⟩) (n+dL.length) cap) w' X'):
  eV P R X w true (e7 t e k bytes ty (.slice (some ⟨g,off,none⟩) n cap) s) N:=by
 obtain⟨hu,kB,pj,z,hi,AM,r8⟩:=jR he;intro wa hk;have hb:=(h.kp hk).2;have src:=src.kp hk;cases hq:P.info? e with
 |none=>simp [hq] at hi
 |some ie=>
  cases lW:ie.zero with
  |none=>simp [hq,lW] at hi
  |some z'=>
   simp only [hq,lW,cU,bq,ay,cx] at hi;obtain⟨rfl,rfl,rfl⟩:=hi;unfold e7 iE;rcases src.src with⟨rfl,rfl⟩|⟨a,c,rfl,zA⟩
   ·have hr:=wu (P:=P) (w:=wa) t ty e ie hu hq ⟨g,off,none⟩ n cap (by simpa using qx);simp only [vS,bG,hr,aZ,bY];have EY:=Ext.refl wa;have hs:=aj.eE hX hk EY;refine⟨Step.eE EY,nx _ _ (ez.rL hs _) ?_⟩;have:dg cur (off+n*ie.size) ([]:List (List Value)).flatten=cur:=by simp [dg]
    rw [this];exact h.since hs
   ·have oG:dL.flatten.length=dL.length*ie.size:=qh src.1;have tE: ∀u∈dL.flatten,u.oneCell'=true:=fun u hu=>by
     obtain⟨r,hr,hur⟩:=List.mem_flatten.1 hu;rw [←Ez];exact h1 r hr u hur
    have hr:=wq (P:=P) (w:=wa) t ty e ie hu hq g off n cap cur.toArray hb a dL.length c dL.flatten oG zA tE qx (by rw [oG,iQ];exact Aw);simp only [vS,bG,hr,aZ,bY];have JL: ∀k,k≠g→(wa.setRow g (dg cur (off+n*ie.size) dL.flatten).toArray).heap[k]? =wa.heap[k]? :=fun k hk=>setRow_other wa g k _ hk;refine⟨⟨rfl,rfl,rfl,by simp,fun k tt nB=>JL k fun e=>nB (e▸h.1)⟩,nx _ _ ⟨hk.os,hk.tape,hk.output,by simpa using hk.size,fun k hx du=>(JL k du).trans (hk.block k hx),fun k h=>.inl h,
     fun k h=>h.elim (fun h=>by have:=hX k h;have:=hk.size;simp;omega) (fun h=>h.2)⟩ ⟨.inl h.1,?_⟩⟩
    exact setRow_heap wa g cur.toArray _ e _ hb
def Vz (P:Program) (e:TypeId):Bool:=match(P.info? e).bind (·.zero)with
 |some z=>z.cells.toList.all one
 |none=>false
theorem adQ {t e ty k g o n cap:Nat} {cs:List Value} {tb:TypeId} {N:Value→World→XS→Prop} {bytes:Nat} (h:a7 w X g cs tb) (he:mD P t e k bytes=true) (hzo:Vz P e=true) (h0:0<n) (hl:o+n*k≤cs.length) (hX: ∀k,X k→k<w.heap.size)
  (nx: ∀w' X' zs,zs.length=n*k→ez (fun k=>k=g) X w X' w'→a7 w' X' g (dg cs o zs) tb→N (.tuple #[]) w' X'):
  eV P R X w true (tM #[t] ty #[.slice (some ⟨g,o,none⟩) n cap]) N:=by
 obtain⟨hu,kB,pj,z,hi,AM,r8⟩:=jR he;intro wa hk;have hb:=(h.kp hk).2;cases hq:P.info? e with
 |none=>simp [hq] at hi
 |some ie=>
  cases lW:ie.zero with
  |none=>simp [hq,lW] at hi
  |some z'=>
   simp only [hq,lW,cU,bq,ay,cx] at hi;obtain⟨rfl,rfl,rfl⟩:=hi;have hzv: ∀w,(zeroValue e).run P w= .ok z' w:=by
    intro w;simp [zeroValue,typeInfo,hq,lW]
   obtain⟨zs,aeK⟩: ∃zs,zs=(hP z'.cells n).toList:=⟨_,rfl⟩;have hzl:zs.length=n*ie.size:=by rw [aeK,ec,size_zeroCells,r8]
   have UQ: ∀v∈zs,v.oneCell'=true:=fun v hv=>by
    rw [aeK] at hv;simp only [hP,jk,List.mem_map,Array.toList_range,List.mem_range] at hv;obtain⟨q,R4,rfl⟩:=hv;have dy:q % z'.cells.size<z'.cells.size:=Nat.mod_lt _ (by rw [r8];exact kB);rw [getElem!_pos z'.cells _ dy];have:=hzo;simp only [Vz,hq,cU,lW,ji] at this;rw [←Ez];exact this _ (by simp)
   have ed:=run_storeCells_at P g o tb zs 0 cs.toArray wa hb (by simp [hzl];omega) UQ;simp only [wm] at ed;obtain⟨q,rfl⟩: ∃q,n=q+1:=⟨n-1,by omega⟩;have hr:(tM #[t] ty #[.slice (some ⟨g,o,none⟩) (q+1) cap]).run P wa= .ok (.tuple #[]) (wa.setRow g (dg cs o zs).toArray):=by
    simp only [tM];simp [run_underlying hu,hzv,←aeK,ed,dg]
   unfold iE;simp only [vS,bG,hr,aZ,bY];have JL: ∀k,k≠g→(wa.setRow g (dg cs o zs).toArray).heap[k]? =wa.heap[k]? :=fun k hk=>setRow_other wa g k _ hk;refine⟨⟨rfl,rfl,rfl,by simp,fun k tt nB=>JL k fun e=>nB (e▸h.1)⟩,nx _ _ zs hzl ⟨hk.os,hk.tape,hk.output,by simpa using hk.size,fun k hx du=>(JL k du).trans (hk.block k hx),fun k h=>.inl h,
    fun k h=>h.elim (fun h=>by have:=hX k h;have:=hk.size;simp;omega) (fun h=>h.2)⟩ ⟨.inl h.1,?_⟩⟩
   exact setRow_heap wa g cs.toArray _ tb _ hb
variable {P : Program}
theorem aeL {pl:br} {fn:Func} {args:Array Value} {w:World} (hn:fn.ntmps=pl.n) (aft:args.size≤pl.n) (sD:(pl.boxes.all fun p=>decide (args.size≤p.1))=true):
  ek pl ⟨[],[]⟩ .start (ku args) (aR w) w { tmps:=args++dH (fn.ntmps-args.size) undef,defers:=[] } w:=by
 have aak:(args++dH (fn.ntmps-args.size) undef).size=pl.n:=by simp;omega
 have Nq: ∀s,s<pl.n→(args++dH (fn.ntmps-args.size) undef)[s]? =some (ku args s):=by
  intro s hs;rw [iL];split
  ·rename_i h1;simp [ku,jP,h1]
  ·rename_i h1;rw [gZ,if_pos zQ];simp only [ku,jP];rw [iK (by simpa using h1)];rfl
 have JC: ∀b n,look pl.boxes b=some n→ku args b=undef:=by
  intro b n hb;have h1:=List.all_eq_true.1 sD _ (y7 hb);simp only [decide_eq_true_eq] at h1;simp only [ku,jP];rw [iK (by simpa using h1)];rfl
 exact {
  size:=aak
  defers:=rfl
  wB:=fun _ hp=>(by cases hp)
  ext:=Kp.refl _ _
  sL:=fun _ hk=>hk
  nO:=fun s hs=>Nq s (ny hs).1
  sig:=fun _ hp=>(by cases hp)
  box:=fun b n hb cells hc=>by rw [JC b n hb] at hc;cases hc
  inj:=fun b b' n n' hb eY h1=>by rw [JC b n hb] at h1;cases h1
  conv:=fun b n hb k hk=>by
   have h1:=List.all_eq_true.1 sD _ (y7 hb);simp only [decide_eq_true_eq] at h1;rw [iL,if_neg zQ,gZ] at hk;split at hk
   ·cases hk
   ·cases hk
  live:=fun _ hp=>(by cases hp)
  ptr:=fun _ hp=>(by cases hp) }
theorem ek.defs {pl:br} {ds:Bk} {AJ:List Deferred} {cs:CS} {env:Env} {X:XS} {w0 w:World} {a:Act} (h:ek pl ds cs env X w0 a w):ek pl ⟨AJ,ds.pins⟩ cs env X w0 { a with defers:=AJ } w:=
 ⟨h.size,rfl,h.wB,h.ext,h.sL,h.nO,h.sig,h.box,h.inj,h.conv,h.live,h.ptr⟩
def ftE (P:Program) (pl:br) (fn:Func):Option FT:=
 if fn.ntmps==pl.n then match fn.body with
  |some (.seq (.region _ GA false) (.seq (.region _ qn false) rest))=>match qn.toList with
   |[mk,df]=>match mk.op,mk.guard,mk.dst,df.op,df.guard,df.dst with
    | .makeFunc (.func _) ⟨[]⟩ _,none,some d',.defer ⟨.value (.tmp d),⟨[]⟩,_⟩,none,none=>match FE P pl GA GA.toList .start,il P pl rest,Ak P pl fn.results.toList with
     |some t0,some t2,some (r,n)=>if d'==d&&decide (d<pl.n)&&(look pl.boxes d).isNone&&!pl.ic d then some ⟨.seq (.BP t0) t2,r,n⟩else none
     |_,_,_=>none
    |_,_,_,_,_,_=>none
   |_=>none
  |_=>none
 else none
def Au (fn:Func):Option FuncId:=match fn.body with
 |some (.seq _ (.seq (.region _ qn _) _))=>match qn.toList with
  |[mk,_]=>match mk.op with
   | .makeFunc (.func g) _ _=>some g
   |_=>none
  |_=>none
 |_=>none
def Idle (P:Program) (g:FuncId):Prop:=enters P g=true∧ ∀eB w,CallsD P g eB .returning w fun e u' w'=>(∃x,e= .returned x)∧u'= .returning∧w'=w
theorem ek.aside {pl:br} {ds:Bk} {env:Env} {X:XS} {w0 w:World} {a:Act} {d:Nat} {v:Value} (h:ek pl ds .start env X w0 a w) (hd:d<pl.n) (hb:look pl.boxes d=none) (hg:pl.ic d=false):
  ek pl ds .start env X w0 (a.put (some d) v) w:=by
 have ne: ∀b n,look pl.boxes b=some n→b≠d:=fun b n eY e=>by rw [e,hb] at eY;cases eY
 have fL:d<a.tmps.size:=by rw [h.size];exact hd
 exact {
  size:=by simp [Act.put,h.size]
  defers:=h.defers
  wB:=fun p hp=>by
   obtain⟨ht,h2⟩:=h.wB p hp;refine⟨?_,h2⟩;have du:p.1≠d:=fun e=>by
    rcases h2 with⟨n,_,hn,_⟩|jg
    ·exact ne p.1 n hn e
    ·rw [e,hg] at jg;cases jg
   rw [eG _ _ _ _ du];exact ht
  ext:=h.ext
  sL:=h.sL
  nO:=fun s hs=>by
   have wM:s≠d:=fun e=>by rw [e,hg] at hs;cases hs
   rw [eG _ _ _ _ wM];exact h.nO s hs
  sig:=fun _ hp=>(by cases hp)
  box:=fun b n eY cells hc=>by
   obtain⟨k,ty,h1,h2⟩:=h.box b n eY cells hc;exact⟨k,ty,by rw [eG _ _ _ _ (ne b n eY)];exact h1,h2⟩
  inj:=fun b b' n n' h1 h2 h3 h4 k h5 h6=>h.inj b b' n n' h1 h2 h3 h4 k (by rwa [eG _ _ _ _ (ne b n h1)] at h5) (by rwa [eG _ _ _ _ (ne b' n' h2)] at h6)
  conv:=fun b n eY k hk=>h.conv b n eY k (by rwa [eG _ _ _ _ (ne b n eY)] at hk)
  live:=fun _ hp=>(by cases hp)
  ptr:=fun _ hp=>(by cases hp) }
def isSimple:TI→Bool
 | .box .. =>true
 | .wX .. =>true
 | .uy _=>true
 | .set .. =>true
 |_=>false
def yb:List TI→Env→Env
 |[],e=>e
 | .box b _ x::l,e=>yb l (kF e b (.agg (x.ev e).cells))
 | .wX b x::l,e=>yb l (kF e b (.agg #[x.ev e]))
 | .set d x::l,e=>yb l (kF e d (x.ev e))
 |_::l,e=>yb l e
theorem vj {gg:List PanicEntry→Env→World→XS→Prop} {next:Env→World→XS→Prop} {w:World} {X:XS} : ∀(l:List TI) (env:Env),l.all isSimple=true→fO P gg next l env w X→
  fO P gg (fun e w' X'=>e=yb l env∧next e w' X') l env w X
 |[],env,_,h=>⟨rfl,h⟩
 |i::l,env,hs,h=>by
  rw [List.all_cons,aW] at hs;obtain⟨h1,h2⟩:=hs;cases i with
  |box b n x=>exact dk.2 ⟨(dk.1 h).1,vj l _ h2 (dk.1 h).2⟩
  |wX b x=>exact dk.2 ⟨(dk.1 h).1,vj l _ h2 (dk.1 h).2⟩
  |uy b=>exact dk.2 ⟨(dk.1 h).1,vj l _ h2 (dk.1 h).2⟩
  |set d x=>exact vj l _ h2 h
  |_=>cases h1
def qo:List Operand→Option (List Nat)
 |[]=>some []
 | .tmp b::l=>(qo l).map (b:: ·)
 |_::_=>none
def aiJ:Value→Option Value
 | .agg ⟨[v]⟩=>some v
 |_=>none
def JN:List Nat→Bool
 |[]=>true
 |b::l=>!CU l b&&JN l
def aaB (P:Program) (pl:br) (fn:Func) (args:Array Value):Option (FuncId×List Nat×List (Option Value)):=
 match fn.body with
 |some (.seq (.region _ GA false) (.seq (.region _ qn false) rest))=>match qn.toList with
  |[mk,_]=>match mk.op with
   | .makeFunc (.func g) _ vK=>match qo vK.toList,FE P pl GA GA.toList .start,il P pl rest with
    |some cb,some t0,some t2=>if t0.all isSimple&&JN cb&&cb.all (fun b=>(look pl.boxes b).isSome&&bP (yb t0 (ku args) b)&&!CU t2.mk b)then
      some (g,cb,cb.map fun b=>if CU t2.wr b then none else aiJ (yb t0 (ku args) b))else none
    |_,_,_=>none
   |_=>none
  |_=>none
 |_=>none
theorem Ei: ∀{l:List Operand} {cb:List Nat},qo l=some cb→l=cb.map .tmp
 |[],cb,h=>by simp only [qo,ay] at h;subst h;rfl
 |x::l,cb,h=>by
  cases x with
  |tmp b=>
   simp only [qo,Option.map_eq_some_iff] at h;obtain⟨c,h1,rfl⟩:=h;rw [Ei h1];rfl
  |const v=>simp [qo] at h
  |global v=>simp [qo] at h
  |func v=>simp [qo] at h
theorem Qq {tmps:Array Value} : ∀(cb:List Nat),(∀b∈cb,∃k,tmps[b]? =some (dT k 0))→ ∃ks:List Nat,ks.length=cb.length∧ ∀(i:Nat) b,cb[i]? =some b→ ∃k,ks[i]? =some k∧tmps[b]? =some (dT k 0)
 |[],_=>⟨[],rfl,fun i b h=>by simp at h⟩
 |b::cb,h=>by
  obtain⟨k,hk⟩:=h b (by simp);obtain⟨ks,h1,h2⟩:=Qq cb fun c hc=>h c (bz _ hc);refine⟨k::ks,by simp [h1],fun i c hc=>?_⟩;cases i with
  |zero=>simp only [List.getElem?_cons_zero,ay] at hc;subst hc;exact⟨k,rfl,hk⟩
  |succ i=>simpa using h2 i c (by simpa using hc)
theorem Ej: ∀{l:List Nat},JN l=true→l.Nodup
 |[],_=>List.nodup_nil
 |b::l,h=>by
  simp only [JN,aW,cu] at h;exact List.nodup_cons.2 ⟨fun hm=>by
   rw [yZ.2 hm] at h;exact absurd h.1 (by simp),Ej h.2⟩
theorem BL {α:Type} {cb:List Nat} {ks:List α} {p:Nat×α} (h:p∈cb.zip ks): ∃i:Nat,cb[i]? =some p.1∧ks[i]? =some p.2:=by
 obtain⟨i,hi,e⟩:=List.getElem_of_mem h;refine⟨i,?_⟩;have h2:(cb.zip ks)[i]? =some p:=by rw [bE hi,e]
 rw [lL] at h2;exact h2
structure Outside (ks:List Nat) (w wa:World):Prop where
 os:wa.os=w.os
 tape:wa.tape=w.tape
 output:wa.output=w.output
 size:w.heap.size≤wa.heap.size
 block: ∀k,k<w.heap.size→ ¬k∈ks→wa.heap[k]? =w.heap[k]?
theorem Outside.refl (ks:List Nat) (w:World):Outside ks w w:=⟨rfl,rfl,rfl,ba _,fun _ _ _=>rfl⟩
theorem Outside.trans {ks:List Nat} {a b c:World} (h:Outside ks a b) (k:Outside ks b c):Outside ks a c:=
 ⟨k.os.trans h.os,k.tape.trans h.tape,k.output.trans h.output,ah h.size k.size,fun i hl hi=>(k.block i (aG hl h.size) hi).trans (h.block i hl hi)⟩
theorem Outside.kp {ks:List Nat} {X:XS} {w0 w wa:World} (h:Outside ks w wa) (k:Kp X w0 w) (hl: ∀i,X i→i<w.heap.size) (hX: ∀i,i∈ks→ ¬X i):Kp X w0 wa:=
 ⟨h.os.trans k.os,h.tape.trans k.tape,h.output.trans k.output,ah k.size h.size,fun i hi=>(h.block i (hl i hi) fun hm=>hX i hm hi).trans (k.block i hi)⟩
def KO (P:Program) (pl:br) (fn:Func) (R:Ending→World→Prop) (g:FuncId) (cb:List Nat) (cv:List (Option Value)) (RP:List PanicEntry→World→Prop):Prop:=
 ∀(ks:List Nat) (IQ:List (Array Value)) ch w',ks.length=cb.length→IQ.length=cb.length→ks.Nodup→(∀(i:Nat) k cells,ks[i]? =some k→IQ[i]? =some cells→ ∃ty,w'.heap[k]? =some (.cells cells ty (0,0)))→
  (∀(i:Nat) v cells,cv[i]? =some (some v)→IQ[i]? =some cells→cells= #[v])→(∀(i:Nat) b n cells,cb[i]? =some b→look pl.boxes b=some n→IQ[i]? =some cells→cells.size=n)→(∀wa,Outside ks w' wa→RP ch wa)→
  CallsD P g (ks.map fun k=>dT k 0).toArray (.panicking ch) w' fun e u je=>(∃x,e= .returned x)∧settle u= .returning∧ ∃v,R (.returned v) je∧
   ∀tmps:Array Value,(∀(i:Nat) b k,cb[i]? =some b→ks[i]? =some k→tmps[b]? =some (dT k 0))→(results fn tmps).run P je= .ok v je
def Br (R:Ending→World→Prop) (RP:List PanicEntry→World→Prop):Ending→World→Prop
 | .panicked ch,w=>RP ch w
 |e,w=>R e w
theorem vt {P:Program} {gg:List PanicEntry→Env→World→XS→Prop} {next:Env→World→XS→Prop} {w:World} {X:XS} : ∀(l:List TI) (env:Env),l.all isSimple=true→fO P gg next l env w X→
  fO P (fun _ _ _ _=>False) next l env w X
 |[],env,_,h=>h
 |i::l,env,hs,h=>by
  rw [List.all_cons,aW] at hs;obtain⟨h1,h2⟩:=hs;cases i with
  |box b n x=>exact dk.2 ⟨(dk.1 h).1,vt l _ h2 (dk.1 h).2⟩
  |wX b x=>exact dk.2 ⟨(dk.1 h).1,vt l _ h2 (dk.1 h).2⟩
  |uy b=>exact dk.2 ⟨(dk.1 h).1,vt l _ h2 (dk.1 h).2⟩
  |set d x=>exact vt l _ h2 h
  |_=>cases h1
theorem Si {l:List Nat} (h: ∀(i j:Nat) k,l[i]? =some k→l[j]? =some k→i=j):l.Nodup:=
 List.pairwise_iff_getElem.2 fun i j hi hj hij e=>by
  have:=h i j l[i] (bE hi) (by rw [e];exact bE hj);omega
theorem JO {f:FuncId} {fn:Func} {pl:br} {args:Array Value} {w:World} {R:Ending→World→Prop} {RP:List PanicEntry→World→Prop} {g0:FuncId} {cb:List Nat} {cv:List (Option Value)} {V:Prop} (hf:P.funcs[f]? =some fn)
  (hs:(decide (args.size≤pl.n)&&pl.boxes.all fun p=>decide (args.size≤p.1))=true) (lP: ∀g,Au fn=some g→Idle P g) (k6:aaB P pl fn args=some (g0,cb,cv)) (xw:KO P pl fn R g0 cb cv RP) (hv:V=Np P (ftE P pl fn) (Br R RP) args w) (h:V):Calls P f args w R:=by
 subst hv;unfold Np at h;simp only [aW,decide_eq_true_eq] at hs;split at h;case h_2=>exact h.elim
 rename_i ft hc;unfold ftE at hc;split at hc;case isFalse=>cases hc
 rename_i hn;have jf:fn.ntmps=pl.n:=by simpa using hn
 split at hc;case h_2=>cases hc
 rename_i _ id0 GA id1 qn rest hb;split at hc;case h_2=>cases hc
 rename_i _ mk df GB;split at hc;case h_2=>cases hc
 rename_i _ _ _ _ _ _ g vK d' d RD GC hmg hmd VA Pc TS;split at hc;case h_2=>cases hc
 rename_i _ _ _ t0 t2 r nd qH lH tB;split at hc;case isFalse=>cases hc
 rename_i mJ;simp only [aW,beq_iff_eq,cu,decide_eq_true_eq,fA] at mJ;obtain⟨⟨⟨Dp,iv⟩,RH⟩,VB⟩:=mJ;subst Dp;injection hc with hc
 subst hc;have hG:Au fn=some g:=by unfold Au;rw [hb];simp [GB,GC]
 obtain⟨VC,Pd⟩:=lP g hG;unfold aaB at k6;rw [hb] at k6;dsimp only at k6;rw [GB] at k6;dsimp only at k6;rw [GC] at k6;dsimp only at k6;rw [qH,lH] at k6;split at k6;case h_2=>cases k6
 rename_i _ _ _ iy t0' t2' jx e0 e2;cases e0;cases e2;split at k6;case isFalse=>cases k6
 rename_i AL;simp only [aW,ji,cu] at AL;obtain⟨⟨afx,rQ⟩,sD⟩:=AL;simp only [ay,cx] at k6;obtain⟨rfl,rfl,rfl⟩:=k6;have VD:=Ei jx;have VE:=aeL (w:=w) jf hs.1 (by simpa using hs.2);refine calls_of_wp_defers hf hb ?_
 let K:=FG ⟨.seq (.BP t0) t2,r,nd⟩ (Br R RP)
 have h0:fO P (fun ch=>K (.panic ch)) (fun e w X=>den P t2 K e w X) t0 (ku args) w (aR w):=h;replace h0:=vj t0 _ (List.all_eq_true.2 afx) h0;have h0':fO P (fun _ _ _ _=>False) (fun e w' X'=>e=yb t0 (ku args)∧den P t2 K e w' X') t0 (ku args) w (aR w):=vt t0 _ (List.all_eq_true.2 afx) h0;refine wp_seq (wp_region_list (NX (P:=P) (pl:=pl) (ds:=⟨[],[]⟩) ?_ ?_ GA.toList .start t0 _ _ _ _ _ qH (fun _ _ _ hp=>by cases hp) VE h0'));case refine_2=>exact fun ch a' w' dv X' dX _ hk _ hq=>hq.elim
 rintro Rm a1 w1 tJ X1 Sj ao ⟨aiK,EV⟩;replace ao:=ao.drop
 show(xY (xZ id1 qn false) rest).wp P (bodyPostD P fn R) a1 w1
 have mM: ∀b∈iy,(∃n,look pl.boxes b=some n)∧ ∃k,a1.tmps[b]? =some (dT k 0):=fun b eY=>by
  have h1:=sD b eY;obtain⟨⟨h1,h2⟩,h3⟩:=h1;obtain⟨n,hn⟩:=Option.isSome_iff_exists.1 h1;rw [←aiK] at h2;obtain⟨cells,AN⟩:=qD.1 h2;obtain⟨k,ty,g1,_⟩:=ao.box b n hn cells AN;exact⟨⟨n,hn⟩,k,g1⟩
 obtain⟨ks,tt,AR⟩:=Qq iy fun b eY=>(mM b eY).2;have aaC: ∀p,p∈iy.zip (ks.map fun k=>dT k 0)→a1.tmps[p.1]? =some p.2∧((∃n k,look pl.boxes p.1=some n∧p.2=dT k 0)∨pl.ic p.1=true):=fun p hp=>by
  obtain⟨i,g1,g2⟩:=BL hp;obtain⟨k,g3,g4⟩:=AR i p.1 g1;rw [dO,g3] at g2;simp only [bq,ay] at g2;obtain⟨⟨n,hn⟩,_⟩:=mM p.1 (cj g1);exact⟨by rw [←g2];exact g4,.inl ⟨n,k,hn,g2.symm⟩⟩
 have aeM:ks.Nodup:=by
  have hcn:=Ej rQ;refine Si fun i j k hi hj=>?_;have AY:i<iy.length:=by rw [←tt];exact(List.getElem?_eq_some_iff.1 hi).1
  have BY:j<iy.length:=by rw [←tt];exact(List.getElem?_eq_some_iff.1 hj).1
  have gi:iy[i]? =some iy[i]:=bE AY;have gj:iy[j]? =some iy[j]:=bE BY;obtain⟨k1,e1,f1⟩:=AR i _ gi;obtain⟨k2,e2,f2⟩:=AR j _ gj;rw [hi] at e1;cases e1;rw [hj] at e2;cases e2;obtain⟨⟨m1,oL⟩,_⟩:=mM iy[i] (nv AY);obtain⟨⟨m2,ir⟩,_⟩:=mM iy[j] (nv BY);have:=ao.inj iy[i] iy[j] m1 m2 oL ir (ao.conv _ _ oL _ f1) (ao.conv _ _ ir _ f2) k f1 f2;exact(xX hcn).1 this
 refine wp_seq (wp_region_list ?_);rw [GB];have Dx:bQ mk (yielded qn a1.tmps)=true:=by simp [bQ,hmg]
 have Pe:vK.map a1.eval=(ks.map fun k=>dT k 0).toArray:=by
  apply px;rw [jk,VD,List.map_map];refine wT fun i=>?_;rw [dO,dO];cases Rq:iy[i]? with
  |none=>
   have:ks[i]? =none:=by rw [qt] at Rq⊢;omega
   rw [this];rfl
  |some b=>
   obtain⟨k,g1,g2⟩:=AR i b Rq;rw [g1];simp [fG,gw,g2]
 have DI:(execOp a1.eval mk).run P w1= .ok (.value (.func (.func g) #[] (ks.map fun k=>dT k 0).toArray)) w1:=by
  rw [←Pe];simp [execOp,GC,cn]
 have aaD: ∀b∈iy,b≠d':=fun b eY e=>by
  obtain⟨⟨n,hn⟩,_⟩:=mM b eY;rw [e,RH] at hn;cases hn
 clear Pe;generalize hcg:(ks.map fun k=>dT k 0).toArray=eB at DI;unfold wpList;rw [if_pos Dx];left;unfold hU;rw [DI,sE,hmd];have bU:=ao.aside (v:=.func (.func g) #[] eB) iv RH VB;have CZ:(a1.put (some d') (.func (.func g) #[] eB)).eval (.tmp d')= .func (.func g) #[] eB:=by
  have:d'<a1.tmps.size:=by rw [ao.size];exact iv
  simp [fG,Act.put,gw,this]
 have JP: ∀p,p∈iy.zip (ks.map fun k=>dT k 0)→(a1.put (some d') (.func (.func g) #[] eB)).tmps[p.1]? =some p.2∧((∃n k,look pl.boxes p.1=some n∧p.2=dT k 0)∨pl.ic p.1=true):=fun p hp=>by
  obtain⟨g1,g2⟩:=aaC p hp;obtain⟨i,g3,_⟩:=BL hp;exact⟨by rw [eG _ _ _ _ (aaD p.1 (cj g3))];exact g1,g2⟩
 generalize a1.put (some d') (.func (.func g) #[] eB)=a2 at bU CZ JP;have jG:(execOp a2.eval df).run P w1= .ok (.defer { target:=.fn (.func g) eB,args:= #[] }) w1:=by
  simp [execOp,VA,resolve,CZ,ik]
 unfold wpList;have hw:bQ df (yielded qn a2.tmps)=true:=by simp [bQ,Pc]
 rw [if_pos hw];left;unfold hU;rw [jG,sF,TS]
 show rest.wp P (bodyPostD P fn R) { a2 with defers:= { target:=.fn (.func g) eB,args:= #[] } ::a2.defers } w1
 rw [bU.defers];have ea:ek pl ⟨[{ target:=.fn (.func g) eB,args:= #[] }],iy.zip (ks.map fun k=>dT k 0)⟩ .start tJ X1 Sj { a2 with defers:=[{ target:=.fn (.func g) eB,args:= #[] }] } w1:=
  ⟨bU.size,rfl,JP,bU.ext,bU.sL,bU.nO,bU.sig,bU.box,bU.inj,bU.conv,bU.live,bU.ptr⟩
 have nR:=kl t2 (K':=fun ex e w' X'=>K ex e w' X'∧ ∀s,¬s∈t2.wr→e s=tJ s) EV fun ex e w' X' _ he hk=>⟨hk,he⟩;refine wp_mono (E7 (pl:=pl) (ds:=⟨[{ target:=.fn (.func g) eB,args:= #[] }],iy.zip (ks.map fun k=>dT k 0)⟩) rest t2 _ tJ X1 Sj _ w1 lH (fun b eY p hp e=>?_) ea nR) fun ex a' w' hq=>?_
 ·obtain⟨i,g1,_⟩:=BL hp;have h1:=(sD p.1 (cj g1)).2;rw [e,yZ.2 eY] at h1;cases h1
 have JQ: ∀w',(invoke (.fn (.func g) eB) #[]).run P w'= .ok (.enter g eB) w':=fun w'=>by
  simp only [invoke];have:=kJ VC (#[]++eB) w';simpa using this
 have done:(∃env X w0,ek pl ⟨[{ target:=.fn (.func g) eB,args:= #[] }],iy.zip (ks.map fun k=>dT k 0)⟩ .start env X w0 a' w'∧K .ret env w0 X∧ ∀s,¬s∈t2.wr→env s=tJ s)→Leaves P fn a'.tmps R a'.defers .returning w':=by
  rintro⟨e,X',dX,h5,h6,_⟩;have VF:aC (nd.all fun b=>bP (e b)) (∀wa,Kp X' dX wa→R (.returned (MB r e)) wa):=h6;obtain⟨h7,h8⟩:=dk.1 VF;rw [h5.defers];refine leaves_cons (by simp) (f:=g) (args:=eB) (JQ w') ?_;refine(Pd eB w').mono ?_;rintro _ _ je ⟨⟨x,rfl⟩,rfl,rfl⟩;exact⟨_,BJ h5 tB (List.all_eq_true.1 h7),h8 je h5.ext⟩
 cases ex with
 |normal=>exact done hq
 |ret=>exact done hq
 |panic ch=>
  obtain⟨h5,e,X',dX,h6,⟨h7,he⟩,vX⟩:=hq
  show Leaves P fn a'.tmps R a'.defers (.panicking ch) w'
  rw [h5];refine leaves_cons (by simp) (f:=g) (args:=eB) (JQ w') ?_;have zS: ∀(i:Nat) b k,iy[i]? =some b→ks[i]? =some k→a'.tmps[b]? =some (dT k 0)∧ ∃n cells ty,look pl.boxes b=some n∧e b= .agg cells∧w'.heap[k]? =some (.cells cells ty (0,0))∧cells.size=n∧ ¬X' k:=fun i b k g1 g2=>
by
   obtain⟨q1,q2⟩:=vX.2 (b,dT k 0) (cj (i:=i) (by rw [lL];exact⟨g1,by rw [dO,g2];rfl⟩));refine⟨q1,?_⟩;rcases q2 with q2|⟨n,k',cells,ty,q3,q4⟩
   ·obtain⟨⟨n,hn⟩,_⟩:=mM b (cj g1);rw [(ny q2).2.1] at hn;cases hn
   ·have:k=k':=by simpa [dT] using q3
    subst this;exact⟨n,cells,ty,q4⟩
  have Jz: ∀(i:Nat) b,iy[i]? =some b→bP (e b)=true:=fun i b g1=>by
   obtain⟨k,g2,_⟩:=AR i b g1;obtain⟨_,_,cells,_,_,g4,_⟩:=zS i b k g1 g2;rw [g4];rfl
  have hkX: ∀k,k∈ks→ ¬X' k:=fun k hm=>by
   obtain⟨i,g1⟩:=tL hm;have AY:i<iy.length:=by rw [←tt];exact(List.getElem?_eq_some_iff.1 g1).1
   obtain⟨_,_,_,_,_,_,_,_,g9⟩:=zS i _ k (bE AY) g1;exact g9
  rw [←hcg];refine(xw ks (iy.map fun b=>(e b).cells) ch w' tt (by simp) aeM (fun i k cells g1 g2=>?_) (fun i v cells g1 g2=>?_) (fun i b n cells g1 g2 g3=>?_) fun wa ho=>h7 wa (ho.kp h6 vX.1 hkX)).mono ?_
  ·rw [dO] at g2;obtain⟨b,g3,rfl⟩:=Option.map_eq_some_iff.1 g2;obtain⟨_,_,cells,ty,_,g4,g5,_⟩:=zS i b k g3 g1;rw [g4];exact⟨ty,g5⟩
  ·rw [dO] at g1 g2;obtain⟨b,g3,rfl⟩:=Option.map_eq_some_iff.1 g2;rw [g3] at g1;simp only [bq,ay] at g1;split at g1
   ·cases g1
   ·rename_i hnw;have alX: ¬b∈t2.wr:=fun hm=>hnw (yZ.2 hm);rw [he b alX,aiK];generalize yb t0 (ku args) b=u at g1;unfold aiJ at g1;split at g1
    ·cases g1;rfl
    ·cases g1
  ·rw [dO,g1] at g3;simp only [bq,ay] at g3;obtain⟨k,g4,_⟩:=AR i b g1;obtain⟨_,n',rR,ty,q1,q2,q3,q4,_⟩:=zS i b k g1 g4;rw [g2] at q1;cases q1;rw [←g3,q2];exact q4
  ·rintro e' u je ⟨⟨x,rfl⟩,aeN,v,hR,aaE⟩
   show Leaves P fn a'.tmps R [] (settle u) je
   rw [aeN];exact⟨v,aaE a'.tmps fun i b k g1 g2=>(zS i b k g1 g2).1,hR⟩
 |exit i=>obtain⟨e,X',dX,h5,h6,_⟩:=hq;exact h6.elim
 |goto i=>obtain⟨e,X',dX,h5,h6,_⟩:=hq;exact h6.elim
 |outgrown=>exact hq.elim
theorem JR {f:FuncId} {fn:Func} {pl:br} {args:Array Value} {w:World} {R:Ending→World→Prop} {V:Prop} (hf:P.funcs[f]? =some fn)
  (hs:(decide (args.size≤pl.n)&&pl.boxes.all fun p=>decide (args.size≤p.1))=true) (lP: ∀g,Au fn=some g→Idle P g) (hR: ∀ch w,¬R (.panicked ch) w) (hv:V=Np P (ftE P pl fn) R args w) (h:V):Calls P f args w R:=by
 subst hv;unfold Np at h;simp only [aW,decide_eq_true_eq] at hs;split at h;case h_2=>exact h.elim
 rename_i ft hc;unfold ftE at hc;split at hc;case isFalse=>cases hc
 rename_i hn;have jf:fn.ntmps=pl.n:=by simpa using hn
 split at hc;case h_2=>cases hc
 rename_i _ id0 GA id1 qn rest hb;split at hc;case h_2=>cases hc
 rename_i _ mk df GB;split at hc;case h_2=>cases hc
 rename_i _ _ _ _ _ _ g vK d' d RD GC hmg hmd VA Pc TS;split at hc;case h_2=>cases hc
 rename_i _ _ _ t0 t2 r nd qH lH tB;split at hc;case isFalse=>cases hc
 rename_i mJ;simp only [aW,beq_iff_eq,cu,decide_eq_true_eq,fA] at mJ;obtain⟨⟨⟨Dp,iv⟩,RH⟩,VB⟩:=mJ;subst Dp;injection hc with hc
 subst hc;have hG:Au fn=some g:=by unfold Au;rw [hb];simp [GB,GC]
 obtain⟨VC,Pd⟩:=lP g hG;have VE:=aeL (w:=w) jf hs.1 (by simpa using hs.2);refine calls_of_wp_defers hf hb ?_
 let K:=FG ⟨.seq (.BP t0) t2,r,nd⟩ R
 have hKp: ∀ch env X w0 w',Kp X w0 w'→K (.panic ch) env w0 X→False:=fun ch env X w0 w' hk hq=>hR _ _ (hq w' hk);have h0:fO P (fun ch=>K (.panic ch)) (fun e w X=>den P t2 K e w X) t0 (ku args) w (aR w):=h;refine wp_seq (wp_region_list (NX (P:=P) (pl:=pl) (ds:=⟨[],[]⟩) ?_ ?_ GA.toList .start t0 _ _ _ _ _ qH (fun _ _ _ hp=>by cases hp) VE h0));case refine_2=>exact fun ch a' w' dv X' dX _ hk _ hq=>(hKp _ _ _ _ _ hk hq).elim
 intro Rm a1 w1 tJ X1 Sj ao EV;replace ao:=ao.drop
 show(xY (xZ id1 qn false) rest).wp P (bodyPostD P fn R) a1 w1
 refine wp_seq (wp_region_list ?_);rw [GB];have Dx:bQ mk (yielded qn a1.tmps)=true:=by simp [bQ,hmg]
 have DI:(execOp a1.eval mk).run P w1= .ok (.value (.func (.func g) #[] (vK.map a1.eval))) w1:=by
  simp [execOp,GC,cn]
 generalize vK.map a1.eval=eB at DI;unfold wpList;rw [if_pos Dx];left;unfold hU;rw [DI,sE,hmd];have bU:=ao.aside (v:=.func (.func g) #[] eB) iv RH VB;have CZ:(a1.put (some d') (.func (.func g) #[] eB)).eval (.tmp d')= .func (.func g) #[] eB:=by
  have:d'<a1.tmps.size:=by rw [ao.size];exact iv
  simp [fG,Act.put,gw,this]
 generalize a1.put (some d') (.func (.func g) #[] eB)=a2 at bU CZ;have jG:(execOp a2.eval df).run P w1= .ok (.defer { target:=.fn (.func g) eB,args:= #[] }) w1:=by
  simp [execOp,VA,resolve,CZ,ik]
 unfold wpList;have hw:bQ df (yielded qn a2.tmps)=true:=by simp [bQ,Pc]
 rw [if_pos hw];left;unfold hU;rw [jG,sF,TS]
 show rest.wp P (bodyPostD P fn R) { a2 with defers:= { target:=.fn (.func g) eB,args:= #[] } ::a2.defers } w1
 rw [bU.defers];have ea:=bU.defs (AJ:=[{ target:=.fn (.func g) eB,args:= #[] }]);refine wp_mono (E7 (pl:=pl) (ds:=⟨[{ target:=.fn (.func g) eB,args:= #[] }],[]⟩) rest t2 K tJ X1 Sj _ w1 lH (fun _ _ _ hp=>by cases hp) ea EV) fun ex a' w' hq=>?_;have done:(∃env X w0,ek pl ⟨[{ target:=.fn (.func g) eB,args:= #[] }],[]⟩ .start env X w0 a' w'∧K .ret env w0 X)→Leaves P fn a'.tmps R a'.defers .returning w':=by
  rintro⟨e,X',dX,h5,h6⟩;have VF:aC (nd.all fun b=>bP (e b)) (∀wa,Kp X' dX wa→R (.returned (MB r e)) wa):=h6;obtain⟨h7,h8⟩:=dk.1 VF;rw [h5.defers];refine leaves_cons (by simp) (f:=g) (args:=eB) ?_ ?_
  ·simp only [invoke];have:=kJ VC (#[]++eB) w';simpa using this
  ·refine(Pd eB w').mono ?_;rintro _ _ je ⟨⟨x,rfl⟩,rfl,rfl⟩;exact⟨_,BJ h5 tB (List.all_eq_true.1 h7),h8 je h5.ext⟩
 cases ex with
 |normal=>exact done hq
 |ret=>exact done hq
 |panic ch=>obtain⟨h5,e,X',dX,h6,h7,_⟩:=hq;exact(hKp _ _ _ _ _ h6 h7).elim
 |exit i=>obtain⟨e,X',dX,h5,h6⟩:=hq;exact h6.elim
 |goto i=>obtain⟨e,X',dX,h5,h6⟩:=hq;exact h6.elim
 |outgrown=>exact hq.elim
end Go.aV
set_option linter.unusedVariables false
set_option linter.unusedSimpArgs false
namespace Go.aV
variable {P : Program} {R : Ending → World → Prop} {X F G : XS} {w w0 : World} {m : Bool}
def Gc (F:XS) (w0:World) (Q:Value→World→Prop) (QP:List PanicEntry→World→Prop):Ending→World→Prop:=fun e w'=>
 (∃v,e= .returned v∧Fr F w0 w'∧Q v w')∨ ∃ch,e= .panicked ch∧Fr F w0 w'∧QP ch w'
def RK (P:Program) (f:FuncId) (args:Array Value) (w:World) (X F:XS) (Q:Value→World→World→Prop) (QP:List PanicEntry→World→World→Prop):Prop:=
 ∀wa,Kp X w wa→Calls P f args wa (Gc F wa (fun v w'=>Q v wa w') fun ch w'=>QP ch wa w')
theorem RK.mono {f:FuncId} {args:Array Value} {Q Q':Value→World→World→Prop} {QP QP':List PanicEntry→World→World→Prop} (h:RK P f args w X F Q QP) (k: ∀v wa w',Kp X w wa→Q v wa w'→Q' v wa w') (kp: ∀ch wa w',Kp X w wa→QP ch wa w'→QP' ch wa w'):RK P f args w X F Q' QP':=
 fun wa hk=>(h wa hk).mono fun _ _ hq=>hq.imp (fun ⟨v,he,hf,hq⟩=>⟨v,he,hf,k v wa _ hk hq⟩) fun ⟨v,he,hf,hq⟩=>⟨v,he,hf,kp v wa _ hk hq⟩
theorem akb {f:FuncId} {args:Array Value} {N:Value→World→XS→Prop} {Q:Value→World→World→Prop} {QP:List PanicEntry→World→World→Prop}
  (h:RK P f args w X F Q QP) (hf:enters P f=true) (hX: ∀k,X k→k<w.heap.size) (hF: ∀k,F k→X k)
  (k: ∀v wa w' X',Q v wa w'→w.heap.size≤wa.heap.size→(∀k,made wa w' k→X' k)→Kp X w wa→ez F X w X' w'→N v w' X')
  (kp: ∀ch wa w' X',QP ch wa w'→w.heap.size≤wa.heap.size→(∀k,made wa w' k→X' k)→Kp X w wa→ez F X w X' w'→ ∀wb,Kp X' w' wb→R (.panicked ch) wb):eC P R X w true f args N:=by
 intro wa hk;unfold iE;rw [kJ hf args wa];refine⟨rfl,(h wa hk).mono ?_⟩;rintro e w' (⟨v,rfl,Mi,hq⟩|⟨ch,rfl,Mi,hq⟩)
 ·exact⟨Mi.mono hF,k v wa w' _ hq hk.size (fun g hg=>.inr hg) hk (ez.aay hX hk Mi)⟩
 ·exact⟨Mi.mono hF,kp ch wa w' _ hq hk.size (fun g hg=>.inr hg) hk (ez.aay hX hk Mi)⟩
theorem Yo {t:TypeId} {x:Value} {N:Value→World→XS→Prop} (hX: ∀k,X k→k<w.heap.size) (h: ∀wa,Kp X w wa→R (.panicked [{ v:=.iface t x,recovered:=false }]) wa):eV P R X w m (xW (.iface t x)) N:=by
 intro wa hk;have hr:(vS (xW (.iface t x))).run P wa= .halt (.panic (.iface t x)) wa:=by simp [vS,xW,goPanic,Sem.run]
 unfold iE;rw [hr];refine⟨Step.eE (Ext.refl wa),fun wb hb=>h wb ⟨hb.os.trans hk.os,hb.tape.trans hk.tape,hb.output.trans hk.output,ah hk.size hb.size,fun k hx=>(hb.block k (.inl hx)).trans (hk.block k hx)⟩⟩
def isIface (P:Program) (t:TypeId):Bool:=match P.underlying t with
 |some (.interface _)=>true
 |some _=>false
 |none=>true
theorem Yn {t:TypeId} {x:Value} {N:Value→Prop} (ht:isIface P t=false) (h:N (.iface t x)):ae P X w (jr t x) N:=by
 unfold isIface at ht;cases hu:P.underlying t with
 |none=>simp [hu] at ht
 |some d=>refine cf (v:=.iface t x) (fun wa=>?_) h;cases d<;>simp_all [jr,run_underlying hu]
section
variable {F0 X' : XS} {Q : Value → World → World → Prop} {QP : List PanicEntry → World → World → Prop} {N : Value → World → XS → Prop} {f : FuncId} {args : Array Value}
theorem Ft.Tr (hT:Ft w0 F0 w X F) (h:RK P f args w X G Q QP) (hf:enters P f=true) (hG: ∀k,G k→F k)
  (k: ∀v wa w' X',Q v wa w'→w.heap.size≤wa.heap.size→(∀k,made wa w' k→X' k)→Ft w0 F0 w' X' (fun k=>F k∨made wa w' k)→ez G X w X' w'→N v w' X')
  (kp: ∀ch wa w' X',QP ch wa w'→w.heap.size≤wa.heap.size→(∀k,made wa w' k→X' k)→Ft w0 F0 w' X' (fun k=>F k∨made wa w' k)→ez G X w X' w'→ ∀wb,Kp X' w' wb→R (.panicked ch) wb):eC P R X w true f args N:=
 akb h hf hT.s.has (fun q hq=>hT.bK q (hG q hq)) (fun v wa w' X' hq hle fP _ hc=>k v wa w' X' hq hle fP (hT.fM hc hG fun q hq=>hq.imp id fun hm=>⟨fP q hm,ah hle hm.1⟩) hc)
  fun ch wa w' X' hq hle fP _ hc=>kp ch wa w' X' hq hle fP (hT.fM hc hG fun q hq=>hq.imp id fun hm=>⟨fP q hm,ah hle hm.1⟩) hc
theorem Ft.fr (h:Ft w0 F0 w X F) {wa:World} (hk:Kp X w wa):Fr F0 w0 wa:=
 ⟨hk.os.trans h.s.kp.os,hk.tape.trans h.s.kp.tape,hk.output.trans h.s.kp.output,ah h.s.kp.size hk.size,
  fun k hl hn=>(hk.block k (h.s.sub k ⟨hl,hn⟩)).trans (h.s.kp.block k ⟨hl,hn⟩)⟩
theorem Ft.ada {v:Value} {Q:Value→World→Prop} {QP:List PanicEntry→World→Prop} (h:Ft w0 F0 w X F) (hq: ∀wa,Kp X w wa→Q v wa):aV.fin (Gc F0 w0 Q QP) X w v:=
 fun wa hk=>.inl ⟨v,rfl,h.fr hk,hq wa hk⟩
theorem Ft.gg {ch:List PanicEntry} {Q:Value→World→Prop} {QP:List PanicEntry→World→Prop} (h:Ft w0 F0 w X F) {wa:World} (hk:Kp X w wa) (hq:QP ch wa):Gc F0 w0 Q QP (.panicked ch) wa:=.inr ⟨ch,rfl,h.fr hk,hq⟩
theorem aco {R:Ending→World→Prop} {RP:List PanicEntry→World→Prop} {v:Value} (h:aV.fin R X w v):aV.fin (Br R RP) X w v:=fun wa hk=>h wa hk
theorem Ft.ahh {v:Value} {Q:Value→World→Prop} {RP:List PanicEntry→World→Prop} (h:Ft w0 F0 w X F) (hq: ∀wa,Kp X w wa→Q v wa):aV.fin (Br (xt F0 w0 Q) RP) X w v:=
 aco (h.fin hq)
theorem Ft.ret {v:Value} {Q:Value→World→Prop} (h:Ft w0 F0 w X F) {wa:World} (hk:Kp X w wa) (hq:Q v wa):xt F0 w0 Q (.returned v) wa:=⟨v,rfl,h.fr hk,hq⟩
theorem Ct.Tr (hT:Ft w0 F0 w X F) (h:Ct P f args w X G Q) (hf:enters P f=true) (hG: ∀k,G k→F k)
  (k: ∀v wa w' X',Q v wa w'→w.heap.size≤wa.heap.size→(∀k,made wa w' k→X' k)→Ft w0 F0 w' X' (fun k=>F k∨made wa w' k)→ez G X w X' w'→N v w' X'):eC P R X w true f args N:=
 hT.call h hf hG k
end
end Go.aV
set_option linter.unusedVariables false
set_option linter.unusedSimpArgs false
namespace Go.aV
variable {P : Program}
def akc (ops:Array Oper):Bool:=match ops.toList with
 |[mk,df]=>match mk.op,mk.guard,mk.dst,df.op,df.guard,df.dst with
  | .makeFunc (.func _) ⟨[]⟩ _,none,some d',.defer ⟨.value (.tmp d),⟨[]⟩,_⟩,none,none=>d'==d
  |_,_,_,_,_,_=>false
 |_=>false
def z7:Code→Option (Code×Nat×Array Oper×Code)
 | .seq (.region id ops false) rest=>if akc ops then some (.skip,id,ops,rest)else match z7 rest with
  |some (p,i,o,r)=>some (.seq (.region id ops false) p,i,o,r)
  |none=>none
 | .seq a b=>match z7 b with
  |some (p,i,o,r)=>some (.seq a p,i,o,r)
  |none=>none
 |_=>none
def VG (fn:Func):Option (Code×Nat×Array Oper×Code):=match fn.body with
 |some c=>z7 c
 |none=>none
def ftL (P:Program) (pl:br) (fn:Func):Option FT:=
 if fn.ntmps==pl.n then match VG fn with
  |some (c1,_,qn,rest)=>match qn.toList with
   |[mk,df]=>match mk.op,mk.guard,mk.dst,df.op,df.guard,df.dst with
    | .makeFunc (.func _) ⟨[]⟩ vK,none,some d',.defer ⟨.value (.tmp d),⟨[]⟩,_⟩,none,none=>match il P pl c1,qo vK.toList,il P pl rest,Ak P pl fn.results.toList with
     |some t1,some cb,some t2,some (r,n)=>if d'==d&&decide (d<pl.n)&&(look pl.boxes d).isNone&&!pl.ic d&&JN cb&&cb.all (fun b=>(look pl.boxes b).isSome&&!CU t2.mk b)then some ⟨.seq t1 (.seq (.BP (cb.map .uy)) t2),r,n⟩else none
     |_,_,_,_=>none
    |_,_,_,_,_,_=>none
   |_=>none
  |none=>none
 else none
def adG (fn:Func):Option (FuncId×List Nat):=match VG fn with
 |some (_,_,qn,_)=>match qn.toList with
  |[mk,_]=>match mk.op with
   | .makeFunc (.func g) _ vK=>(qo vK.toList).map fun cb=>(g,cb)
   |_=>none
  |_=>none
 |none=>none
def noP (R:Ending→World→Prop):Ending→World→Prop
 | .panicked _,_=>False
 |e,w=>R e w
def aiL (P:Program) (o:Option FT) (R1 R2:Ending→World→Prop) (args:Array Value) (w:World):Prop:=match o with
 |some ft=>match ft.code with
  | .seq t1 t2=>den P t1 (jF.CT (fun e w X=>den P t2 (FG ft R2) e w X) (FG ft R1)) (ku args) w (aR w)
  |_=>False
 |none=>False
theorem aaF {pl:br} {next:Env→World→XS→Prop} {K:jF} {Q:Exit→Act→World→Prop} {id:Nat} {o1:Array Oper} {rest:Code}
  (hn: ∀env X w0 a w,ek pl ⟨[],[]⟩ .start env X w0 a w→next env w0 X→(xY (xZ id o1 false) rest).wp P Q a w)
  (hK: ∀ex a w,ex≠ .normal→QP pl ⟨[],[]⟩ K ex a w→Q ex a w): ∀(c c1:Code),z7 c=some (c1,id,o1,rest)→ ∀(t1:T) (env:Env) (X:XS) (w0:World) (a:Act) (w:World),
   il P pl c1=some t1→ek pl ⟨[],[]⟩ .start env X w0 a w→den P t1 (jF.CT next K) env w0 X→c.wp P Q a w:=by
 intro c
 induction c with
 |seq x y ihx ihy=>
  intro c1 hs t1 env X w0 a w hc h hd;have key: ∀p,z7 y=some (p,id,o1,rest)→c1= .seq x p→(xY x y).wp P Q a w:=fun p hp Og=>by
   subst Og;simp only [il] at hc;cases hx:il P pl x with
   |none=>simp [hx] at hc
   |some tx=>
    cases hy:il P pl p with
    |none=>simp [hx,hy] at hc
    |some ty=>
     simp only [hx,hy,ay] at hc;have Dp:den P (.seq tx ty) (jF.CT next K) env w0 X:=by
      subst hc;split at hd
      ·exact hd
      ·show den P tx (jF.CT (fun e w X=>den P .skip (jF.CT next K) e w X) (jF.CT next K)) env w0 X
       refine kl tx hd fun ex e w' X' _ _ hq=>?_;cases ex<;>exact hq
      ·exact hd
     refine wp_seq (wp_mono (E7 (pl:=pl) (ds:=⟨[],[]⟩) x tx _ env X w0 a w hx (fun _ _ _ hp=>by cases hp) h Dp) fun ex a' w' hq=>?_);cases ex with
     |normal=>
      obtain⟨e,X',dX,h1,h2⟩:=hq;exact ihy p hp ty e X' dX a' w' hy h1 h2
     |exit i=>exact hK _ _ _ (by simp) hq
     |goto i=>exact hK _ _ _ (by simp) hq
     |ret=>exact hK _ _ _ (by simp) hq
     |panic c=>exact hK _ _ _ (by simp) hq
     |outgrown=>exact hK _ _ _ (by simp) hq
  unfold z7 at hs;split at hs
  ·rename_i id' ops amH heq;simp only [z6] at heq;obtain⟨rfl,rfl⟩:=heq;split at hs
   ·simp only [ay,cx] at hs;obtain⟨rfl,rfl,rfl,rfl⟩:=hs;simp only [il,ay] at hc;subst hc;exact hn env X w0 a w h hd
   ·split at hs
    ·rename_i p i o r hp;simp only [ay,cx] at hs;obtain⟨rfl,rfl,rfl,rfl⟩:=hs;exact key p hp rfl
    ·cases hs
  ·rename_i x' y' _ heq;simp only [z6] at heq;obtain⟨rfl,rfl⟩:=heq;split at hs
   ·rename_i p i o r hp;simp only [ay,cx] at hs;obtain⟨rfl,rfl,rfl,rfl⟩:=hs;exact key p hp rfl
   ·cases hs
  ·cases hs
 |_=>intro c1 hs;simp [z7] at hs
theorem Sk {K:Env→World→XS→Prop} {gg:List PanicEntry→Env→World→XS→Prop} {env:Env} {w:World} {X:XS} : ∀(l:List Nat),fO P gg K (l.map TI.uy) env w X→(∀b∈l,bP (env b)=true)∧K env w X
 |[],h=>⟨fun _ h=>(by cases h),h⟩
 |b::l,h=>by
  have h':=dk.1 h;have ih:=Sk l h'.2;exact⟨fun c hc=>by
   rcases List.mem_cons.1 hc with rfl|hc
   ·exact h'.1
   ·exact ih.1 c hc,ih.2⟩
theorem ZP {pl:br} {fn:Func} {R:Ending→World→Prop} {g:FuncId} {cb:List Nat} :KO P pl fn R g cb [] fun _ _=>False:=
 fun ks IQ ch w' _ _ _ _ _ _ h=>(h w' (Outside.refl _ _)).elim
theorem aiM {f:FuncId} {fn:Func} {pl:br} {args:Array Value} {w:World} {R:Ending→World→Prop} {RP:List PanicEntry→World→Prop} {g0:FuncId} {cb:List Nat} {V:Prop} (hf:P.funcs[f]? =some fn)
  (hs:(decide (args.size≤pl.n)&&pl.boxes.all fun p=>decide (args.size≤p.1))=true) (k6:adG fn=some (g0,cb)) (lP:Idle P g0) (xw:KO P pl fn R g0 cb [] RP) (hv:V=aiL P (ftL P pl fn) (noP R) (Br R RP) args w) (h:V):Calls P f args w R:=by
 subst hv;unfold aiL at h;simp only [aW,decide_eq_true_eq] at hs;split at h;case h_2=>exact h.elim
 rename_i ft hc;unfold ftL at hc;split at hc;case isFalse=>cases hc
 rename_i hn;have jf:fn.ntmps=pl.n:=by simpa using hn
 split at hc;case h_2=>cases hc
 rename_i _ c1 id1 qn rest C6;split at hc;case h_2=>cases hc
 rename_i _ mk df GB;split at hc;case h_2=>cases hc
 rename_i _ _ _ _ _ _ g vK d' d RD GC hmg hmd VA Pc TS;split at hc;case h_2=>cases hc
 rename_i _ _ _ _ t1 iy t2 r nd Og jx lH tB;split at hc;case isFalse=>cases hc
 rename_i mJ;simp only [aW,beq_iff_eq,cu,decide_eq_true_eq,fA,ji] at mJ;obtain⟨⟨⟨⟨⟨Dp,iv⟩,RH⟩,VB⟩,rQ⟩,sD⟩:=mJ;subst Dp;injection hc with hc
 subst hc;unfold adG at k6;rw [C6] at k6;dsimp only at k6;rw [GB] at k6;dsimp only at k6;rw [GC] at k6;dsimp only at k6;rw [jx] at k6;simp only [bq,ay,cx] at k6;obtain⟨rfl,rfl⟩:=k6;obtain⟨VC,Pd⟩:=lP;have VD:=Ei jx;have VE:=aeL (w:=w) jf hs.1 (by simpa using hs.2);have akd: ∃c,fn.body=some c∧z7 c=some (c1,id1,qn,rest):=by
  unfold VG at C6;split at C6
  ·rename_i c hb;exact⟨c,hb,C6⟩
  ·cases C6
 obtain⟨c,hb,alY⟩:=akd;refine calls_of_wp_defers hf hb ?_
 let K:=FG ⟨.seq t1 (.seq (.BP (iy.map .uy)) t2),r,nd⟩ (Br R RP)
 have h0:den P t1 (jF.CT (fun e w X=>den P (.seq (.BP (iy.map .uy)) t2) K e w X) (FG ⟨.seq t1 (.seq (.BP (iy.map .uy)) t2),r,nd⟩ (noP R))) (ku args) w (aR w):=h;refine aaF (P:=P) (pl:=pl) ?_ ?_ c c1 alY t1 (ku args) (aR w) w _ w Og VE h0;case refine_2=>
  intro ex a w hex hq;cases ex with
  |normal=>exact absurd rfl hex
  |ret=>
   obtain⟨e,X',dX,h5,h6⟩:=hq;have VF:aC (nd.all fun b=>bP (e b)) (∀wa,Kp X' dX wa→R (.returned (MB r e)) wa):=h6;obtain⟨h7,h8⟩:=dk.1 VF
   show Leaves P fn a.tmps R a.defers .returning w
   rw [h5.defers];exact⟨_,BJ h5 tB (List.all_eq_true.1 h7),h8 w h5.ext⟩
  |panic ch=>obtain⟨_,e,X',dX,h6,h7,_⟩:=hq;exact(h7 w h6).elim
  |exit i=>obtain⟨e,X',dX,h5,h6⟩:=hq;exact h6.elim
  |goto i=>obtain⟨e,X',dX,h5,h6⟩:=hq;exact h6.elim
  |outgrown=>exact hq.elim
 intro tJ X1 Sj a1 w1 ao hd0;have alZ:fO P (fun ch=>jF.CT (fun e w X=>den P t2 K e w X) K (.panic ch)) (fun e w X=>den P t2 K e w X) (iy.map .uy) tJ Sj X1:=hd0;obtain⟨al0,EV⟩:=Sk _ alZ;have mM: ∀b∈iy,(∃n,look pl.boxes b=some n)∧ ∃k,a1.tmps[b]? =some (dT k 0):=fun b eY=>by
  obtain⟨n,hn⟩:=Option.isSome_iff_exists.1 (sD b eY).1;obtain⟨cells,AN⟩:=qD.1 (al0 b eY);obtain⟨k,ty,g1,_⟩:=ao.box b n hn cells AN;exact⟨⟨n,hn⟩,k,g1⟩
 obtain⟨ks,tt,AR⟩:=Qq iy fun b eY=>(mM b eY).2;have aaC: ∀p,p∈iy.zip (ks.map fun k=>dT k 0)→a1.tmps[p.1]? =some p.2∧((∃n k,look pl.boxes p.1=some n∧p.2=dT k 0)∨pl.ic p.1=true):=fun p hp=>by
  obtain⟨i,g1,g2⟩:=BL hp;obtain⟨k,g3,g4⟩:=AR i p.1 g1;rw [dO,g3] at g2;simp only [bq,ay] at g2;obtain⟨⟨n,hn⟩,_⟩:=mM p.1 (cj g1);exact⟨by rw [←g2];exact g4,.inl ⟨n,k,hn,g2.symm⟩⟩
 have aeM:ks.Nodup:=by
  have hcn:=Ej rQ;refine Si fun i j k hi hj=>?_;have AY:i<iy.length:=by rw [←tt];exact(List.getElem?_eq_some_iff.1 hi).1
  have BY:j<iy.length:=by rw [←tt];exact(List.getElem?_eq_some_iff.1 hj).1
  have gi:iy[i]? =some iy[i]:=bE AY;have gj:iy[j]? =some iy[j]:=bE BY;obtain⟨k1,e1,f1⟩:=AR i _ gi;obtain⟨k2,e2,f2⟩:=AR j _ gj;rw [hi] at e1;cases e1;rw [hj] at e2;cases e2;obtain⟨⟨m1,oL⟩,_⟩:=mM iy[i] (nv AY);obtain⟨⟨m2,ir⟩,_⟩:=mM iy[j] (nv BY);have:=ao.inj iy[i] iy[j] m1 m2 oL ir (ao.conv _ _ oL _ f1) (ao.conv _ _ ir _ f2) k f1 f2;exact(xX hcn).1 this
 refine wp_seq (wp_region_list ?_);rw [GB];have Dx:bQ mk (yielded qn a1.tmps)=true:=by simp [bQ,hmg]
 have Pe:vK.map a1.eval=(ks.map fun k=>dT k 0).toArray:=by
  apply px;rw [jk,VD,List.map_map];refine wT fun i=>?_;rw [dO,dO];cases Rq:iy[i]? with
  |none=>
   have:ks[i]? =none:=by rw [qt] at Rq⊢;omega
   rw [this];rfl
  |some b=>
   obtain⟨k,g1,g2⟩:=AR i b Rq;rw [g1];simp [fG,gw,g2]
 have DI:(execOp a1.eval mk).run P w1= .ok (.value (.func (.func g) #[] (ks.map fun k=>dT k 0).toArray)) w1:=by
  rw [←Pe];simp [execOp,GC,cn]
 have aaD: ∀b∈iy,b≠d':=fun b eY e=>by
  obtain⟨⟨n,hn⟩,_⟩:=mM b eY;rw [e,RH] at hn;cases hn
 clear Pe;generalize hcg:(ks.map fun k=>dT k 0).toArray=eB at DI;unfold wpList;rw [if_pos Dx];left;unfold hU;rw [DI,sE,hmd];have bU:=ao.aside (v:=.func (.func g) #[] eB) iv RH VB;have CZ:(a1.put (some d') (.func (.func g) #[] eB)).eval (.tmp d')= .func (.func g) #[] eB:=by
  have:d'<a1.tmps.size:=by rw [ao.size];exact iv
  simp [fG,Act.put,gw,this]
 have JP: ∀p,p∈iy.zip (ks.map fun k=>dT k 0)→(a1.put (some d') (.func (.func g) #[] eB)).tmps[p.1]? =some p.2∧((∃n k,look pl.boxes p.1=some n∧p.2=dT k 0)∨pl.ic p.1=true):=fun p hp=>by
  obtain⟨g1,g2⟩:=aaC p hp;obtain⟨i,g3,_⟩:=BL hp;exact⟨by rw [eG _ _ _ _ (aaD p.1 (cj g3))];exact g1,g2⟩
 generalize a1.put (some d') (.func (.func g) #[] eB)=a2 at bU CZ JP;have jG:(execOp a2.eval df).run P w1= .ok (.defer { target:=.fn (.func g) eB,args:= #[] }) w1:=by
  simp [execOp,VA,resolve,CZ,ik]
 unfold wpList;have hw:bQ df (yielded qn a2.tmps)=true:=by simp [bQ,Pc]
 rw [if_pos hw];left;unfold hU;rw [jG,sF,TS]
 show rest.wp P (bodyPostD P fn R) { a2 with defers:= { target:=.fn (.func g) eB,args:= #[] } ::a2.defers } w1
 rw [bU.defers];have ea:ek pl ⟨[{ target:=.fn (.func g) eB,args:= #[] }],iy.zip (ks.map fun k=>dT k 0)⟩ .start tJ X1 Sj { a2 with defers:=[{ target:=.fn (.func g) eB,args:= #[] }] } w1:=
  ⟨bU.size,rfl,JP,bU.ext,bU.sL,bU.nO,bU.sig,bU.box,bU.inj,bU.conv,bU.live,bU.ptr⟩
 have nR:=kl t2 (K':=fun ex e w' X'=>K ex e w' X'∧ ∀s,¬s∈t2.wr→e s=tJ s) EV fun ex e w' X' _ he hk=>⟨hk,he⟩;refine wp_mono (E7 (pl:=pl) (ds:=⟨[{ target:=.fn (.func g) eB,args:= #[] }],iy.zip (ks.map fun k=>dT k 0)⟩) rest t2 _ tJ X1 Sj _ w1 lH (fun b eY p hp e=>?_) ea nR) fun ex a' w' hq=>?_
 ·obtain⟨i,g1,_⟩:=BL hp;have h1:=(sD p.1 (cj g1)).2;rw [e,yZ.2 eY] at h1;cases h1
 have JQ: ∀w',(invoke (.fn (.func g) eB) #[]).run P w'= .ok (.enter g eB) w':=fun w'=>by
  simp only [invoke];have:=kJ VC (#[]++eB) w';simpa using this
 have done:(∃env X w0,ek pl ⟨[{ target:=.fn (.func g) eB,args:= #[] }],iy.zip (ks.map fun k=>dT k 0)⟩ .start env X w0 a' w'∧K .ret env w0 X∧ ∀s,¬s∈t2.wr→env s=tJ s)→Leaves P fn a'.tmps R a'.defers .returning w':=by
  rintro⟨e,X',dX,h5,h6,_⟩;have VF:aC (nd.all fun b=>bP (e b)) (∀wa,Kp X' dX wa→R (.returned (MB r e)) wa):=h6;obtain⟨h7,h8⟩:=dk.1 VF;rw [h5.defers];refine leaves_cons (by simp) (f:=g) (args:=eB) (JQ w') ?_;refine(Pd eB w').mono ?_;rintro _ _ je ⟨⟨x,rfl⟩,rfl,rfl⟩;exact⟨_,BJ h5 tB (List.all_eq_true.1 h7),h8 je h5.ext⟩
 cases ex with
 |normal=>exact done hq
 |ret=>exact done hq
 |panic ch=>
  obtain⟨h5,e,X',dX,h6,⟨h7,he⟩,vX⟩:=hq
  show Leaves P fn a'.tmps R a'.defers (.panicking ch) w'
  rw [h5];refine leaves_cons (by simp) (f:=g) (args:=eB) (JQ w') ?_;have zS: ∀(i:Nat) b k,iy[i]? =some b→ks[i]? =some k→a'.tmps[b]? =some (dT k 0)∧ ∃n cells ty,look pl.boxes b=some n∧e b= .agg cells∧w'.heap[k]? =some (.cells cells ty (0,0))∧cells.size=n∧ ¬X' k:=fun i b k g1 g2=>
by
   obtain⟨q1,q2⟩:=vX.2 (b,dT k 0) (cj (i:=i) (by rw [lL];exact⟨g1,by rw [dO,g2];rfl⟩));refine⟨q1,?_⟩;rcases q2 with q2|⟨n,k',cells,ty,q3,q4⟩
   ·obtain⟨⟨n,hn⟩,_⟩:=mM b (cj g1);rw [(ny q2).2.1] at hn;cases hn
   ·have:k=k':=by simpa [dT] using q3
    subst this;exact⟨n,cells,ty,q4⟩
  have Jz: ∀(i:Nat) b,iy[i]? =some b→bP (e b)=true:=fun i b g1=>by
   obtain⟨k,g2,_⟩:=AR i b g1;obtain⟨_,_,cells,_,_,g4,_⟩:=zS i b k g1 g2;rw [g4];rfl
  have hkX: ∀k,k∈ks→ ¬X' k:=fun k hm=>by
   obtain⟨i,g1⟩:=tL hm;have AY:i<iy.length:=by rw [←tt];exact(List.getElem?_eq_some_iff.1 g1).1
   obtain⟨_,_,_,_,_,_,_,_,g9⟩:=zS i _ k (bE AY) g1;exact g9
  rw [←hcg];refine(xw ks (iy.map fun b=>(e b).cells) ch w' tt (by simp) aeM (fun i k cells g1 g2=>?_) (fun i v cells g1 g2=>by simp at g1) (fun i b n cells g1 g2 g3=>?_) fun wa ho=>h7 wa (ho.kp h6 vX.1 hkX)).mono ?_
  ·rw [dO] at g2;obtain⟨b,g3,rfl⟩:=Option.map_eq_some_iff.1 g2;obtain⟨_,_,cells,ty,_,g4,g5,_⟩:=zS i b k g3 g1;rw [g4];exact⟨ty,g5⟩
  ·rw [dO,g1] at g3;simp only [bq,ay] at g3;obtain⟨k,g4,_⟩:=AR i b g1;obtain⟨_,n',rR,ty,q1,q2,q3,q4,_⟩:=zS i b k g1 g4;rw [g2] at q1;cases q1;rw [←g3,q2];exact q4
  ·rintro e' u je ⟨⟨x,rfl⟩,aeN,v,hR,aaE⟩
   show Leaves P fn a'.tmps R [] (settle u) je
   rw [aeN];exact⟨v,aaE a'.tmps fun i b k g1 g2=>(zS i b k g1 g2).1,hR⟩
 |exit i=>obtain⟨e,X',dX,h5,h6,_⟩:=hq;exact h6.elim
 |goto i=>obtain⟨e,X',dX,h5,h6,_⟩:=hq;exact h6.elim
 |outgrown=>exact hq.elim
theorem Yp {R:Ending→World→Prop} {X:XS} {w:World} {v:Value} (h:aV.fin R X w v):aV.fin (noP R) X w v:=fun wa hk=>h wa hk
end Go.aV
set_option linter.unusedVariables false
set_option linter.unusedSimpArgs false
namespace Go.aV
variable {P : Program} {R : Ending → World → Prop} {X : XS} {w : World} {m : Bool}
structure Two (A B:Prop):Prop where
 a:A
 b:B
theorem q0t {A B p:Prop} (h:A→B→p):Two A B→p:=fun t=>h t.a t.b
theorem dM {A B:Prop} (a:A) (b:B):Two A B:=⟨a,b⟩
theorem q0b {p q:Prop} (h:q→p:=by first|(intro q9;first|(with_reducible first|apply agt|apply agu|apply ach|apply agq|apply agr|apply aeE|apply aeF|apply ags|apply aeG|apply aeH|apply aet|apply aeu|apply ab7|apply ab8|apply ah8|apply ab4|apply ab5|apply alN|apply alO|apply ajN|apply ajO|apply aiy|apply aiz|apply Ty|apply agy|apply aj1);exact q9|(with_reducible apply agp);(case k=>exact q9);(· rfl)|(with_reducible apply ajY);(case k=>exact q9);(· exact qN)|(with_reducible apply ajZ);(case k=>exact q9);(· exact qN)|(with_reducible apply O8);(case k=>exact q9);(· exact qF);(· kernel_rfl);(· rfl)|(with_reducible apply ajV);(case k=>exact q9);(· exact qF);(· kernel_rfl);(· rfl);(· exact qN)|(with_reducible apply Zs);(case k=>exact q9);(· exact qF);(· exact qM);(· kernel_rfl);(· rfl)|(with_reducible apply ZJ);(case k=>exact q9);(· exact qF);(· exact qM);(· kernel_rfl);(· rfl)|(with_reducible apply ajW);(case n=>exact q9);(· exact qO);(· kernel_rfl)|(with_reducible apply ajX);(case n=>exact q9);(· assumption);(· kernel_rfl)|(with_reducible apply ajU);(case k=>exact q9);(· kernel_rfl)|(with_reducible apply afu);(case n=>exact q9);(· exact qO);(try (case hz=>rfl));(case hr=>first|assumption|(clear q9;exact List.getElem?_eq_getElem (by omega)));(try (case hz=>omega));(case ht=>kernel_rfl);(case hs=>kernel_rfl)|(with_reducible apply aax);(case k=>exact q9);(· kernel_rfl)|(with_reducible apply aj0);(case h=>exact q9);(· rfl)|(with_reducible apply agz);(case k=>exact q9);(· kernel_rfl)|(with_reducible apply agA);(case k=>exact q9);(· kernel_rfl)|(with_reducible apply aiG);(case k=>exact q9);(· kernel_rfl)|(with_reducible apply aiH);(case k=>exact q9);(· kernel_rfl)|(with_reducible apply aiC);(case k=>exact q9);(case h=>exact qE)|(with_reducible apply aiD);(case k=>exact q9);(case h=>exact qE)|(with_reducible apply aaq);(case k=>exact q9);(· exact qC)|(with_reducible apply Tt);(case h=>exact q9);(· omega);(· omega)|(with_reducible apply ajS);(case h=>exact q9);(· omega);(· omega)|(with_reducible apply aaz);(case h=>exact q9);(· kernel_rfl);(· kernel_rfl)|(with_reducible apply aj2);(case h=>exact q9);(· kernel_rfl);(· kernel_rfl)|(with_reducible apply aj5);(case k=>exact q9);(try (case hz=>rfl));(case hb=>assumption);(try (case hz=>omega));(case ht=>kernel_rfl)|(with_reducible apply aj3);(case k=>exact q9);(· kernel_rfl);(· kernel_rfl);(try (case hz=>rfl));(case hn=>omega);(case hl=>rfl)|(with_reducible apply aiF);(case k=>exact q9);(case hf=>kernel_rfl);(case hg=>kernel_rfl);(case hlen=>rfl);(case hl=>exact qN)|(with_reducible apply aj6);(case h=>exact q9);(· rfl)|fail)|(apply q0t;intro a9 b9;first|(with_reducible first|apply aar|apply aav|apply aaw|apply aas|apply aat|apply aau|apply aim|apply ain|apply aio|apply aip|apply aiq|apply air|apply ais|apply ait|apply aiu|apply aiv|apply aiw|apply aix|apply agm);(· exact a9);exact b9|(with_reducible apply aiB);(case hT=>exact a9);(case hF=>exact b9);(· exact qO);(· kernel_rfl)|fail)|fail):q→p:=h
theorem q0d {p q:Prop} (h:q→p:=by intro q9;first|(with_reducible refine ah9 ?_ ?_);rotate_left;exact q9;omega|(with_reducible refine aia ?_ ?_);rotate_left;exact q9;omega|(with_reducible refine aii ?_ ?_);rotate_left;exact q9;omega|(with_reducible refine aij ?_ ?_);rotate_left;exact q9;omega|(with_reducible refine aik ?_ ?_);rotate_left;exact q9;omega|(with_reducible refine ail ?_ ?_);rotate_left;exact q9;omega|(with_reducible refine aib ?_ ?_);rotate_left;exact q9;omega|(with_reducible refine aic ?_ ?_);rotate_left;exact q9;omega|(with_reducible refine aid ?_ ?_);rotate_left;exact q9;omega|(with_reducible refine aie ?_ ?_);rotate_left;exact q9;omega|(with_reducible refine aif ?_ ?_);rotate_left;exact q9;omega|(with_reducible refine aih ?_ ?_);rotate_left;exact q9;omega|fail):q→p:=h
theorem aJ {p q:Prop} (k:q) (h:q→p:=by exact q0b):p:=h k
theorem bD {p q:Prop} (k:q) (h:q→p:=by first|exact q0d|exact q0b|fail):p:=h k
end Go.aV
namespace Go.Proofs.YtbpnemeooenpmaaGreat
open Go.Proofs.Tryz renaming prog → pg
open Go.aV
set_option maxRecDepth 100000
section
variable (R : Ending → World → Prop) (w0 : World) (X0 : XS)
noncomputable def CB:br:=⟨210,[(9,(pg.cellsOf 27)),(10,(pg.cellsOf 56)),(15,(pg.cellsOf 44)),(19,(pg.cellsOf 38))],[74,87,93,99,103,110,137,139,144,146,151,153,158,162],[0,1,2,6,7,8,11,12,13,14,16,17,18,20,21,22,24,39,52,78,90,106,121,161,173,180],[28,29,30,31,32,33,35,36,37,38,49,50,51,54,55,56,68,69,70,71,73,75,76,77,80,81,82,136,138,140,141,143,145,147,148,150,152,154,155,157,159,160,169,170,171,172,182,183,184,185,186,194,195,196,198,199,200,201,202,204,205,206,207,208],[13,14,16,17,18]⟩
def tI (p0:Value) (p1:Int) (p2:Value):Prop:=
 (eC pg R X0 w0 true 4 #[] fun a b c=>
 ae pg c b (aY bp a) fun d=>
 (az d
 (fin R c b (B false))
 ((ae pg c b (cD 23 3 p2) fun e=>
 ae pg c b (binOp .gtr 3 e (I 100)) fun g=>
 un (aU g false p2) fun h=>
 aK pg c b g false (vS (dC 46 #[(I 0),(I 0),(I 0),(I 0),(I 0),(I 0),(I 0),(I 0),(I 0),(I 0),(I 0),(I 0),(I 0),(I 0),(I 0),(I 0),(I 0),(I 0),(B false),(I 0),(I 0),(.slice none 0 0),(.slice none 0 0),(.slice none 0 0),(.slice none 0 0),(.slice none 0 0),(.slice none 0 0),(I 0),(I 0),(.float .f64 0),(.float .f64 0),(I 0),(I 0),(I 0),(I 0),(I 0),(I 0),(.slice none 0 0),(.slice none 0 0),h,(.slice none 0 0)] #[(4,h)])) fun i=>
 jn (fun (j:Value) (k:World) (l:XS)=>
 jn (fun (m:Value) (n:World) (o:XS)=>
 aK pg o n g false (vS (aY bp m)) fun q=>
 aB pg o n (aP g (B true) q) fun r=>
 un (aU r false p0) fun s=>
 aK pg o n r false (vS (cD 22 3 s)) fun t=>
 aK pg o n r false (vS (binOp .gtr 3 t (I 100))) fun v=>
 aB pg o n (aP r (B true) v) fun y=>
 (az y
 (eC pg R o n true 4 #[] fun z A C=>
 (fin R C A z))
 ((eC pg R o n true 7 #[] fun D E F=>
 eC pg R F E true 6 #[D,(I 1),(I 4096),p0] fun G H L=>
 ae pg L H (aL G 0) fun M=>
 ae pg L H (aL G 1) fun N=>
 (ae pg L H (aD .neq 28 (.tmp 47) (.const (I 0)) N (I 0)) fun O=>
 un (aU O false M) fun Q=>
 aK pg L H O false (vS (aD .eql 48 (.tmp 50) (.const (.pointer none)) Q (.pointer none))) fun S=>
 aB pg L H (aP O (B true) S) fun T=>
 (az T
 (eC pg R L H true 4 #[] fun U V Y=>
 un (aU U true M) fun Z=>
 aK pg Y V U true (vS (aD .eql 48 (.tmp 55) (.const (.pointer none)) Z (.pointer none))) fun a0=>
 aB pg Y V (aP U a0 (B false)) fun b0=>
 (fin R Y V b0))
 ((eC pg R L H true 8 #[M,(I p1),p2] fun c0 d0 e0=>
 ae pg e0 d0 (aL c0 0) fun g0=>
 ae pg e0 d0 (aL c0 1) fun h0=>
 ae pg e0 d0 (aL c0 2) fun i0=>
 un (ak (aa g0)) fun _=>
 aC (ai (ad (aa g0))==3) (aC (aq (ad (aa g0)) aV.one) (un (ak (aa h0)) fun j0=>
 aC (ai (ad (aa h0))==2) (aC (aq (ad (aa h0)) aV.one) ((ae pg e0 d0 (aD .neq 28 (.tmp 66) (.const (I 0)) i0 (I 0)) fun k0=>
 un (aU k0 false p2) fun l0=>
 jn (fun (m0:Value) (n0:World) (o0:XS)=>
 aK pg o0 n0 k0 false (vS (aD .neq 28 (.tmp 70) (.const (I 0)) m0 (I 0))) fun q0=>
 aB pg o0 n0 (aP k0 (B true) q0) fun r0=>
 aC (bP j0) (un (cellOf j0 1) fun s0=>
 un (aU r0 false s0) fun t0=>
 aK pg o0 n0 r0 false (vS (cD 54 3 t0)) fun v0=>
 aK pg o0 n0 r0 false (vS (binOp .gtr 3 v0 (I 0))) fun y0=>
 aB pg o0 n0 (aP r0 (B true) y0) fun z0=>
 (az z0
 (eC pg R o0 n0 true 4 #[] fun A0 C0 D0=>
 un (aU A0 true i0) fun E0=>
 aK pg D0 C0 A0 true (vS (aD .eql 28 (.tmp 81) (.const (I 0)) E0 (I 0))) fun F0=>
 aB pg D0 C0 (aP A0 F0 (B false)) fun G0=>
 (fin R D0 C0 G0))
 ((eC pg R o0 n0 true 10 #[p2] fun H0 L0 M0=>
 (((sP M0 L0 (I 0) (I 0) undef undef undef 14 13 18 17 16 fun N0 O0 Q0 S0 _ _ _ T0 U0=>
 aC (bP j0) (un (cellOf j0 0) fun V0=>
 ae pg U0 T0 (cD 53 3 V0) fun Y0=>
 ae pg U0 T0 (binOp .lss 3 Q0 Y0) fun Z0=>
 (az Z0
 ((aC (bP j0) (ae pg U0 T0 (dt 53 36 V0 Q0) fun a1=>
 ae pg U0 T0 (dY 44 36 a1) fun b1=>
 un (ak (aa b1)) fun c1=>
 aC (ai (ad (aa b1))==36) (aC (aq (ad (aa b1)) aV.one) (((aC (bP c1) (un (cellOf c1 18) fun d1=>
 eV pg R U0 T0 true (e7 31 9 1 16 31 (.slice none 0 0) d1) fun e1 g1 h1=>
 ((gW h1 g1 (I 0) e1 17 16 fun i1 j1 k1 l1 m1 n1=>
 aC (bP c1) (un (cellOf c1 20) fun o1=>
 ae pg n1 m1 (cD 33 3 o1) fun q1=>
 ae pg n1 m1 (binOp .lss 3 k1 q1) fun r1=>
 (az r1
 ((aC (bP c1) (ae pg n1 m1 (dt 33 4 o1 k1) fun s1=>
 ae pg n1 m1 (aS 64 0 0 1 s1) fun t1=>
 ae pg n1 m1 (ld1 9 t1) fun v1=>
 eV pg R n1 m1 true (fH 31 9 1 1 #[(0,v1)]) fun y1 z1 A1=>
 eV pg R A1 z1 true (e7 31 9 1 16 31 l1 y1) fun C1 D1 E1=>
 ((ae pg E1 D1 (binOp .add 3 k1 (I 1)) fun F1=>
 gR i1 j1 F1 C1 D1 E1)))))
 ((((gO n1 m1 (I 0) 18 fun G1 H1 L1 M1 N1=>
 ae pg N1 M1 (cD 31 3 l1) fun O1=>
 ae pg N1 M1 (binOp .lss 3 L1 O1) fun Q1=>
 (az Q1
 ((ae pg N1 M1 (dt 31 1 l1 L1) fun S1=>
 ae pg N1 M1 (ld1 9 S1) fun T1=>
 eC pg R N1 M1 true 12 #[T1] fun U1 V1 Y1=>
 eC pg R Y1 V1 true 11 #[p0,U1] fun Z1 a2 b2=>
 ae pg b2 a2 (aL Z1 0) fun c2=>
 ae pg b2 a2 (aL Z1 1) fun d2=>
 un (ak (aa c2)) fun e2=>
 aC (ai (ad (aa c2))==4) (aC (aq (ad (aa c2)) aV.one) ((ae pg b2 a2 (aY bp d2) fun g2=>
 aC (bP e2) (un (cellOf e2 0) fun h2=>
 un (aU g2 false h2) fun i2=>
 aC (bP c1) (un (cellOf c1 2) fun j2=>
 un (aU g2 false j2) fun k2=>
 aK pg b2 a2 g2 false (vS (aD .neq 3 (.tmp 138) (.tmp 140) i2 k2)) fun l2=>
 aB pg b2 a2 (aP g2 (B true) l2) fun m2=>
 un (cellOf c1 6) fun n2=>
 un (aU m2 false n2) fun o2=>
 un (aU m2 false j2) fun q2=>
 aK pg b2 a2 m2 false (vS (aD .neq 3 (.tmp 145) (.tmp 147) o2 q2)) fun r2=>
 aB pg b2 a2 (aP m2 (B true) r2) fun s2=>
 un (cellOf c1 7) fun t2=>
 un (aU s2 false t2) fun v2=>
 un (cellOf e2 1) fun y2=>
 un (aU s2 false y2) fun z2=>
 aK pg b2 a2 s2 false (vS (aD .neq 3 (.tmp 152) (.tmp 154) v2 z2)) fun A2=>
 aB pg b2 a2 (aP s2 (B true) A2) fun C2=>
 un (cellOf c1 1) fun D2=>
 un (aU C2 false D2) fun E2=>
 aK pg b2 a2 C2 false (vS (aD .neq 3 (.tmp 159) (.const (I 21)) E2 (I 21))) fun F2=>
 aB pg b2 a2 (aP C2 (B true) F2) fun G2=>
 (az G2
 (fin R b2 a2 (B false))
 (((ae pg b2 a2 (binOp .add 3 L1 (I 1)) fun H2=>
 gB G1 H1 H2 a2 b2)))))))))))
 (((aC (bP c1) (un (cellOf c1 0) fun L2=>
 ae pg N1 M1 (aD .eql 3 (.tmp 163) (.const (I 1)) L2 (I 1)) fun M2=>
 ae pg N1 M1 (cD 31 3 H0) fun N2=>
 ae pg N1 M1 (binOp .gtr 3 N2 (I 0)) fun O2=>
 ae pg N1 M1 (aD .neq 4 (.tmp 164) (.tmp 167) M2 O2) fun Q2=>
 un (aU Q2 false l1) fun S2=>
 aK pg N1 M1 Q2 false (vS (cD 31 3 S2)) fun T2=>
 aK pg N1 M1 Q2 false (vS (aD .eql 3 (.tmp 171) (.const (I 0)) T2 (I 0))) fun U2=>
 aB pg N1 M1 (aP Q2 (B true) U2) fun V2=>
 (az V2
 (fin R N1 M1 (B false))
 ((ae pg N1 M1 (cD 31 3 l1) fun Y2=>
 ae pg N1 M1 (binOp .add 3 S0 Y2) fun Z2=>
 ((ae pg N1 M1 (binOp .add 3 Q0 (I 1)) fun a3=>
 sQ N0 O0 a3 Z2 L1 k1 l1 M1 N1))))))))))))))))))))))))))
 (((ae pg U0 T0 (cD 31 3 H0) fun b3=>
 ae pg U0 T0 (binOp .gtr 3 b3 (I 0)) fun c3=>
 (az c3
 (eC pg R U0 T0 true 4 #[] fun d3 e3 g3=>
 un (aU d3 true S0) fun h3=>
 un (aU d3 true H0) fun i3=>
 aK pg g3 e3 d3 true (vS (cD 31 3 i3)) fun j3=>
 aK pg g3 e3 d3 true (vS (aD .eql 3 (.tmp 183) (.tmp 185) h3 j3)) fun k3=>
 aB pg g3 e3 (aP d3 k3 (B false)) fun l3=>
 (fin R g3 e3 l3))
 ((eC pg R U0 T0 true 13 #[p2,(.slice none 0 0)] fun m3 n3 o3=>
 ae pg o3 n3 (aL m3 0) fun q3=>
 ae pg o3 n3 (aL m3 1) fun r3=>
 (eC pg R o3 n3 true 4 #[] fun s3 t3 v3=>
 un (aU s3 true r3) fun y3=>
 aK pg v3 t3 s3 true (vS (aD .eql 28 (.tmp 195) (.const (I 0)) y3 (I 0))) fun z3=>
 aB pg v3 t3 (aP s3 z3 (B false)) fun A3=>
 un (aU A3 true S0) fun C3=>
 un (aU A3 true q3) fun D3=>
 aK pg v3 t3 A3 true (vS (cD 33 3 D3)) fun E3=>
 aK pg v3 t3 A3 true (vS (aD .eql 3 (.tmp 199) (.tmp 201) C3 E3)) fun F3=>
 aB pg v3 t3 (aP A3 F3 (B false)) fun G3=>
 un (aU G3 true M) fun H3=>
 jn (fun (L3:Value) (M3:World) (N3:XS)=>
 aK pg N3 M3 G3 true (vS (cD 70 3 L3)) fun O3=>
 aK pg N3 M3 G3 true (vS (aD .eql 3 (.tmp 207) (.const (I 1)) O3 (I 1))) fun Q3=>
 aB pg N3 M3 (aP G3 Q3 (B false)) fun S3=>
 (fin R N3 M3 S3)) fun T3=>
 (gE G3 true (eC pg R v3 t3 true 14 #[H3] T3) (T3 undef t3 v3))))))))))))))))))) fun U3=>
 (gE k0 false (eC pg R e0 d0 true 9 #[l0] U3) (U3 undef d0 e0))))))))))))))) fun V3=>
 (gE g false (eC pg R l k true 5 #[j] V3) (V3 undef k l))) fun Y3=>
 (gE g false (eV pg R c b true (fH 47 46 41 1 #[(0,i)]) Y3) (Y3 undef b c))))))
def zY:Prop:=
 (eC pg R X0 w0 true 7 #[] fun a b c=>
 (ae pg c b (aD .eql 51 (.tmp 13) (.const (.pointer none)) a (.pointer none)) fun d=>
 (az d
 (fin R c b (B false))
 ((eC pg R c b true 15 #[] fun e g h=>
 eC pg R h g true 6 #[a,(I 1),(I 4096),e] fun i j k=>
 ae pg k j (aL i 0) fun l=>
 ae pg k j (aL i 1) fun m=>
 (ae pg k j (aD .eql 48 (.tmp 21) (.const (.pointer none)) l (.pointer none)) fun n=>
 un (aU n false m) fun o=>
 aK pg k j n false (vS (aD .neq 28 (.tmp 24) (.const (I 0)) o (I 0))) fun q=>
 aB pg k j (aP n (B true) q) fun r=>
 (az r
 (fin R k j (B false))
 ((ae pg k j (dC 62 #[(I 1),(.float .f64 4607182418800017408),(.string ⟨#[]⟩)] #[(0,(I 1)),(1,(.float .f64 4607182418800017408))]) fun s=>
 un (cellOf s 0) fun t=>
 un (cellOf s 1) fun v=>
 un (cellOf s 2) fun y=>
 ae pg k j (dC 75 #[(I 4),(.string ⟨#[]⟩),t,v,y] #[(0,(I 4)),(2,s)]) fun z=>
 ae pg k j (dC 75 #[(I 2),(.string { data:= #[107] }),(I 0),(.float .f64 0),(.string ⟨#[]⟩)] #[(0,(I 2)),(1,(.string { data:= #[107] }))]) fun A=>
 eV pg R k j true (fH 23 75 5 2 #[(0,z),(1,A)]) fun C D E=>
 eC pg R E D true 8 #[l,(I 5),C] fun F G H=>
 ae pg H G (aL F 0) fun L=>
 ae pg H G (aL F 1) fun M=>
 ae pg H G (aL F 2) fun N=>
 un (ak (aa L)) fun O=>
 aC (ai (ad (aa L))==3) (aC (aq (ad (aa L)) aV.one) (un (ak (aa M)) fun Q=>
 aC (ai (ad (aa M))==2) (aC (aq (ad (aa M)) aV.one) ((ae pg H G (dC 30 #[(I 7),(I 0),(I 1)] #[(0,(I 7)),(2,(I 1))]) fun S=>
 un (ak (aa S)) fun T=>
 aC (ai (ad (aa S))==3) (aC (aq (ad (aa S)) aV.one) ((aC (bP O) (aC (bP T) (un (cq O 0 3) fun U=>
 un (cq T 0 3) fun V=>
 un (cellOf U 0) fun Y=>
 un (cellOf U 1) fun Z=>
 un (cellOf U 2) fun a0=>
 un (cellOf V 0) fun b0=>
 un (cellOf V 1) fun c0=>
 un (cellOf V 2) fun d0=>
 ae pg H G (dC 44 #[(I 4),(I 1),(I 21),Y,Z,a0,(I 1),(I 0),(I 0),b0,c0,d0,(I 0),(I 0),(I 0),(B false),(I 0),(I 0),(.slice none 0 0),(.slice none 0 0),(.slice none 0 0),(.slice none 0 0),(.slice none 0 0),(.slice none 0 0),(I 0),(I 0),(.float .f64 0),(.float .f64 0),(I 0),(I 0),(I 0),(I 0),(I 0),(I 0),(.slice none 0 0),(.slice none 0 0)] #[(0,(I 4)),(1,(I 1)),(2,(I 21)),(3,U),(4,(I 1)),(7,V)]) fun e0=>
 eC pg R H G true 16 #[l,(I 5),e0] fun g0 h0 i0=>
 ae pg i0 h0 (aL g0 0) fun j0=>
 ae pg i0 h0 (aL g0 1) fun k0=>
 un (ak (aa j0)) fun l0=>
 aC (ai (ad (aa j0))==2) (aC (aq (ad (aa j0)) aV.one) ((aC (bP Q) (un (cellOf Q 0) fun m0=>
 ae pg i0 h0 (cD 53 3 m0) fun n0=>
 ae pg i0 h0 (aD .eql 3 (.tmp 48) (.const (I 1)) n0 (I 1)) fun o0=>
 un (aU o0 true m0) fun q0=>
 aK pg i0 h0 o0 true (vS (dt 53 36 q0 (I 0))) fun r0=>
 aK pg i0 h0 o0 true (vS (aS 44 0 0 1 r0)) fun s0=>
 aK pg i0 h0 o0 true (vS (ld1 3 s0)) fun t0=>
 aK pg i0 h0 o0 true (vS (aD .eql 3 (.tmp 55) (.const (I 3)) t0 (I 3))) fun v0=>
 aB pg i0 h0 (aP o0 v0 (B false)) fun y0=>
 un (aU y0 true m0) fun z0=>
 aK pg i0 h0 y0 true (vS (dt 53 36 z0 (I 0))) fun A0=>
 aK pg i0 h0 y0 true (vS (aS 44 2 2 1 A0)) fun C0=>
 aK pg i0 h0 y0 true (vS (ld1 3 C0)) fun D0=>
 aK pg i0 h0 y0 true (vS (aD .eql 3 (.tmp 63) (.const (I 1)) D0 (I 1))) fun E0=>
 aB pg i0 h0 (aP y0 E0 (B false)) fun F0=>
 un (cellOf Q 1) fun G0=>
 un (aU F0 true G0) fun H0=>
 aK pg i0 h0 F0 true (vS (cD 54 3 H0)) fun L0=>
 aK pg i0 h0 F0 true (vS (aD .eql 3 (.tmp 69) (.const (I 0)) L0 (I 0))) fun M0=>
 aB pg i0 h0 (aP F0 M0 (B false)) fun N0=>
 (aC (bP l0) (un (cellOf l0 1) fun O0=>
 ae pg i0 h0 (cD 54 3 O0) fun Q0=>
 ae pg i0 h0 (aD .eql 3 (.tmp 74) (.const (I 1)) Q0 (I 1)) fun S0=>
 un (aU S0 true O0) fun T0=>
 aK pg i0 h0 S0 true (vS (dt 54 9 T0 (I 0))) fun U0=>
 aK pg i0 h0 S0 true (vS (aS 79 0 0 1 U0)) fun V0=>
 aK pg i0 h0 S0 true (vS (ld1 28 V0)) fun Y0=>
 aK pg i0 h0 S0 true (vS (aD .eql 28 (.tmp 81) (.const (I 0)) Y0 (I 0))) fun Z0=>
 aB pg i0 h0 (aP S0 Z0 (B false)) fun a1=>
 un (aU a1 true O0) fun b1=>
 aK pg i0 h0 a1 true (vS (dt 54 9 b1 (I 0))) fun c1=>
 aK pg i0 h0 a1 true (vS (aS 79 2 4 3 c1)) fun d1=>
 aK pg i0 h0 a1 true (vS (dY 30 3 d1)) fun e1=>
 aC (bP T) (un (aU a1 true V) fun g1=>
 aK pg i0 h0 a1 true (vS (aD .eql 30 (.tmp 89) (.tmp 90) e1 g1)) fun h1=>
 aB pg i0 h0 (aP a1 h1 (B false)) fun i1=>
 un (cellOf l0 0) fun j1=>
 un (aU i1 true j1) fun k1=>
 aK pg i0 h0 i1 true (vS (cD 53 3 k1)) fun l1=>
 aK pg i0 h0 i1 true (vS (aD .eql 3 (.tmp 96) (.const (I 1)) l1 (I 1))) fun m1=>
 aB pg i0 h0 (aP i1 m1 (B false)) fun n1=>
 un (aU n1 true j1) fun o1=>
 aK pg i0 h0 n1 true (vS (dt 53 36 o1 (I 0))) fun q1=>
 aK pg i0 h0 n1 true (vS (aS 44 9 15 1 q1)) fun r1=>
 aK pg i0 h0 n1 true (vS (ld1 4 r1)) fun s1=>
 aB pg i0 h0 (aP n1 s1 (B false)) fun t1=>
 (ae pg i0 h0 (aD .eql 28 (.tmp 106) (.const (I 0)) N (I 0)) fun v1=>
 un (aU v1 true k0) fun y1=>
 aK pg i0 h0 v1 true (vS (aD .eql 28 (.tmp 109) (.const (I 0)) y1 (I 0))) fun z1=>
 aB pg i0 h0 (aP v1 z1 (B false)) fun A1=>
 aC (bP O) (un (aU A1 true U) fun C1=>
 aK pg i0 h0 A1 true (vS (dC 27 #[(I 1),(I 1),(I 1)] #[(0,(I 1)),(1,(I 1)),(2,(I 1))])) fun D1=>
 aK pg i0 h0 A1 true (vS (aD .eql 27 (.tmp 113) (.tmp 114) C1 D1)) fun E1=>
 aB pg i0 h0 (aP A1 E1 (B false)) fun F1=>
 un (aU F1 true N0) fun G1=>
 aB pg i0 h0 (aP F1 G1 (B false)) fun H1=>
 un (aU H1 true t1) fun L1=>
 aB pg i0 h0 (aP H1 L1 (B false)) fun M1=>
 un (aU M1 true l) fun N1=>
 jn (fun (O1:Value) (Q1:World) (S1:XS)=>
 aK pg S1 Q1 M1 true (vS (aD .eql 3 (.tmp 125) (.const (I 1)) O1 (I 1))) fun T1=>
 aB pg S1 Q1 (aP M1 T1 (B false)) fun U1=>
 (fin R S1 Q1 U1)) fun V1=>
 (gE M1 true (eC pg R i0 h0 true 17 #[N1] V1) (V1 undef h0 i0))))))))))))))))))))))))))))))
def Cs (p0:Value):Prop:=
 (((ry X0 w0 (I 0) undef (I 0) 4 5 3 fun a b c _ d e g=>
 ae pg g e (cD 47 3 p0) fun h=>
 ae pg g e (binOp .lss 3 c h) fun i=>
 un (aU i true c) fun j=>
 aK pg g e i true (vS (binOp .lss 3 j (I 120))) fun k=>
 aB pg g e (aP i k (B false)) fun l=>
 un (aU l true d) fun m=>
 aK pg g e l true (vS (binOp .leq 3 m (I 20000))) fun n=>
 aB pg g e (aP l n (B false)) fun o=>
 (az o
 ((ae pg g e (dt 47 41 p0 c) fun q=>
 ae pg g e (aS 46 3 3 36 q) fun r=>
 ae pg g e (dY 44 36 r) fun s=>
 eC pg R g e true 18 #[s,(I 20000)] fun t v y=>
 ae pg y v (binOp .add 3 d t) fun z=>
 (ae pg y v (dt 47 41 p0 c) fun A=>
 ae pg y v (aS 46 4 39 1 A) fun C=>
 ae pg y v (ld1 23 C) fun D=>
 ae pg y v (cD 23 3 D) fun E=>
 ae pg y v (binOp .gtr 3 E (I 100)) fun F=>
 (az F
 (fin R y v (B false))
 (((gW y v (I 0) z 5 3 fun G H L M N O=>
 ae pg O N (dt 47 41 p0 c) fun Q=>
 ae pg O N (aS 46 4 39 1 Q) fun S=>
 ae pg O N (ld1 23 S) fun T=>
 ae pg O N (cD 23 3 T) fun U=>
 ae pg O N (binOp .lss 3 L U) fun V=>
 (az V
 ((ae pg O N (binOp .add 3 M (I 1)) fun Y=>
 ae pg O N (dt 47 41 p0 c) fun Z=>
 ae pg O N (aS 46 4 39 1 Z) fun a0=>
 ae pg O N (ld1 23 a0) fun b0=>
 ae pg O N (dt 23 5 b0 L) fun c0=>
 ae pg O N (aS 75 1 1 1 c0) fun d0=>
 ae pg O N (ld1 9 d0) fun e0=>
 ae pg O N (kK 9 3 e0) fun g0=>
 ae pg O N (j6 #[3,3] 3 #[g0,(I 20001)]) fun h0=>
 ae pg O N (binOp .add 3 Y h0) fun i0=>
 ae pg O N (dt 47 41 p0 c) fun j0=>
 ae pg O N (aS 46 4 39 1 j0) fun k0=>
 ae pg O N (ld1 23 k0) fun l0=>
 ae pg O N (dt 23 5 l0 L) fun m0=>
 ae pg O N (aS 75 2 2 3 m0) fun n0=>
 ae pg O N (aS 62 2 2 1 n0) fun o0=>
 ae pg O N (ld1 9 o0) fun q0=>
 ae pg O N (kK 9 3 q0) fun r0=>
 ae pg O N (j6 #[3,3] 3 #[r0,(I 20001)]) fun s0=>
 ae pg O N (binOp .add 3 i0 s0) fun t0=>
 ((ae pg O N (binOp .add 3 L (I 1)) fun v0=>
 gR G H v0 t0 N O))))
 ((((ae pg O N (binOp .add 3 c (I 1)) fun y0=>
 rz a b y0 L M N O))))))))))))
 (((ae pg g e (cD 47 3 p0) fun z0=>
 ae pg g e (binOp .leq 3 z0 (I 120)) fun A0=>
 un (aU A0 true d) fun C0=>
 aK pg g e A0 true (vS (binOp .leq 3 C0 (I 20000))) fun D0=>
 aB pg g e (aP A0 D0 (B false)) fun E0=>
 (fin R g e E0))))))))
def Ml:Prop:=
 (eV pg R X0 w0 true (Instr.makeMap 107 none) fun a b c=>
 ae pg c b (dC 109 #[a,(I 0),(I 0),(I 0),(B false)] #[(0,a)]) fun d=>
 eV pg R c b true (Instr.box 109 d) fun e g h=>
 (fin R h g e))
def Hr (p0:Value):Prop:=
 (ae pg X0 w0 (cD 23 3 p0) fun a=>
 ae pg X0 w0 (binOp .gtr 3 a (I 40)) fun b=>
 (az b
 (fin R X0 w0 (I 3))
 (((ae pg X0 w0 (cD 23 3 p0) fun c=>
 (gW X0 w0 (I 0) (I 0) 13 3 fun d e g h i j=>
 ae pg j i (binOp .lss 3 g c) fun k=>
 (az k
 ((ae pg j i (dt 23 5 p0 g) fun l=>
 ae pg j i (dY 75 5 l) fun m=>
 un (ak (aa m)) fun n=>
 aC (ai (ad (aa m))==5) (aC (aq (ad (aa m)) aV.one) ((aC (bP n) (un (cellOf n 0) fun o=>
 eC pg R j i true 38 #[o] fun q r s=>
 ae pg s r (aL q 0) fun t=>
 ae pg s r (aL q 1) fun v=>
 un (ak (aa t)) fun y=>
 aC (ai (ad (aa t))==4) (aC (aq (ad (aa t)) aV.one) ((ae pg s r (aY bp v) fun z=>
 (az z
 (fin R s r (I 7))
 (aC (bP n) (aC (bP y) (un (cq n 0 5) fun A=>
 un (cellOf y 1) fun C=>
 eC pg R s r true 39 #[A,C] fun D E F=>
 ae pg F E (aY bp D) fun G=>
 (az G
 (fin R F E (I 4))
 (aC (bP y) (un (cellOf y 2) fun H=>
 ae pg F E (binOp .lss 3 h H) fun L=>
 (az L
 (fin R F E (I 5))
 (((aC (bP y) (un (cellOf y 3) fun M=>
 ae pg F E (binOp .sub 3 M H) fun N=>
 ae pg F E (binOp .add 3 h N) fun O=>
 (ae pg F E (binOp .gtr 3 O (I 16)) fun Q=>
 (az Q
 (fin R F E (I 2))
 (((ae pg F E (binOp .add 3 g (I 1)) fun S=>
 gR d e S O E F))))))))))))))))))))))))))
 (((eC pg R j i true 10 #[p0] fun T U V=>
 ae pg V U (cD 31 3 T) fun Y=>
 ae pg V U (binOp .gtr 3 Y (I 16)) fun Z=>
 un (aU Z false p0) fun a0=>
 jn (fun (b0:Value) (c0:World) (d0:XS)=>
 aK pg d0 c0 Z false (vS (cD 31 3 b0)) fun e0=>
 aK pg d0 c0 Z false (vS (binOp .gtr 3 e0 (I 16))) fun g0=>
 aB pg d0 c0 (aP Z (B true) g0) fun h0=>
 (az h0
 (fin R d0 c0 (I 3))
 (fin R d0 c0 (I 0)))) fun i0=>
 (gE Z false (eC pg R V U true 40 #[a0] i0) (i0 undef U V))))))))))))
def Hp (p0:Value):Prop:=
 (eC pg R X0 w0 true 41 #[p0,(I 1),(I 1)] fun a b c=>
 (fin R c b a))
noncomputable def SM:br:=⟨20,[(4,(pg.cellsOf 38)),(7,(pg.cellsOf 38))],[],[0,1,5,8,9,10,11,16],[],[4,10]⟩
def HC (p0:Value) (p1:Nat):Prop:=
 (ae pg X0 w0 (cD 22 3 p0) fun a=>
 (gW X0 w0 (I 0) (.agg #[(I 0),(I 0),(.float .f64 0),(.float .f64 0)]) 10 4 fun b c d e g h=>
 ae pg h g (binOp .lss 3 d a) fun i=>
 (az i
 ((ae pg h g (dt 22 4 p0 d) fun j=>
 ae pg h g (dY 38 4 j) fun k=>
 un (ak (aa k)) fun l=>
 aC (ai (ad (aa k))==4) (aC (aq (ad (aa k)) aV.one) ((aC (bP l) (un (cq l 0 4) fun m=>
 eC pg R h g true 42 #[m,(.float .f64 p1)] fun n o q=>
 (az n
 (aC (bP l) (aC (bP e) (un (ak (aa m)) fun r=>
 aC (ai (ad (aa m))==4) (aC (aq (ad (aa m)) aV.one) ((un (cq r 0 4) fun s=>
 aC (aq [r] bP) (fin R q o (aw #[s,(B true)]))))))))
 (((ae pg q o (binOp .add 3 d (I 1)) fun t=>
 gR b c t e o q))))))))))
 (((ae pg h g (dC 38 #[(I 0),(I 0),(.float .f64 0),(.float .f64 0)] #[]) fun v=>
 aC (bP e) (un (ak (aa v)) fun y=>
 aC (ai (ad (aa v))==4) (aC (aq (ad (aa v)) aV.one) ((un (cq y 0 4) fun z=>
 aC (aq [y] bP) (fin R h g (aw #[z,(B false)]))))))))))))
noncomputable def Xw:br:=⟨8,[],[],[0,2],[],[]⟩
def Mm (p0:ByteArray):Prop:=
 (eC pg R X0 w0 true 43 #[(.string p0)] fun a b c=>
 ae pg c b (binOp .shr 130 a (aA IntKind.u64 11)) fun d=>
 ae pg c b (uJ 130 36 d) fun e=>
 ae pg c b (binOp .quo 36 e (.float .f64 4845873199050653696)) fun g=>
 (fin R c b g))
def xM (p0:Value):Prop:=
 (aB pg X0 w0 (aE p0) fun a=>
 ae pg X0 w0 (aS 93 4 4 1 a) fun b=>
 ae pg X0 w0 (ld1 4 b) fun c=>
 (az c
 (fin R X0 w0 (.slice none 0 0))
 ((aB pg X0 w0 (aE p0) fun d=>
 ae pg X0 w0 (aS 93 7 7 1 d) fun e=>
 ae pg X0 w0 (ld1 88 e) fun g=>
 eC pg R X0 w0 true 50 #[g] fun h i j=>
 eC pg R j i true 49 #[h,(Value.func (Fn.func 51) #[] #[])] fun k l m=>
 (fin R m l k)))))
def Cu:Prop:=
 (ae pg X0 w0 (dC 38 #[(I 1),(I 0),(.float .f64 0),(.float .f64 4602678819172646912)] #[(0,(I 1)),(3,(.float .f64 4602678819172646912))]) fun a=>
 ae pg X0 w0 (dC 38 #[(I 2),(I 0),(.float .f64 4602678819172646912),(.float .f64 4607182418800017408)] #[(0,(I 2)),(2,(.float .f64 4602678819172646912)),(3,(.float .f64 4607182418800017408))]) fun b=>
 eV pg R X0 w0 true (fH 22 38 4 2 #[(0,a),(1,b)]) fun c d e=>
 (fin R e d c))
def zW (p0:Value):Prop:=
 (aB pg X0 w0 (aE p0) fun a=>
 ae pg X0 w0 (aS 93 4 4 1 a) fun b=>
 ae pg X0 w0 (ld1 4 b) fun c=>
 (az c
 (fin R X0 w0 (I 0))
 (aB pg X0 w0 (aE p0) fun d=>
 ae pg X0 w0 (aS 93 1 1 1 d) fun e=>
 ae pg X0 w0 (ld1 3 e) fun g=>
 (fin R X0 w0 g))))
noncomputable def HZ:br:=⟨72,[(2,(pg.cellsOf 44))],[7,11,18,25,34,43,55,66],[0,1,4,5,6,51],[47,48,49,50],[5,6]⟩
def yJ (_p0_0 _p0_1 _p0_2 _p0_3 _p0_4 _p0_5 _p0_6 _p0_7 _p0_8 _p0_9 _p0_10 _p0_11 _p0_12 _p0_13 _p0_14:Int) (_p0_15:Bool) (_p0_16 _p0_17:Int) (cE cz cG cH cA cM:Value) (cB cI:Int) (cJ cK:Nat) (cL eI eJ eK eM eO:Int) (eP eQ:Value) (p1:Int):Prop:=
 (eC pg R X0 w0 false 60 #[cE,(I p1)] fun a b c=>
 eC pg R c b true 61 #[cz,(I p1)] fun d e g=>
 eC pg R g e true 59 #[a,d,(I p1)] fun h i j=>
 (eC pg R j i true 62 #[cG,(I p1)] fun k l m=>
 eC pg R m l true 59 #[h,k,(I p1)] fun n o q=>
 (ae pg q o (cD 34 3 cH) fun r=>
 ae pg q o (binOp .add 3 (I p1) (I 1)) fun s=>
 ae pg q o (j6 #[3,3] 3 #[r,s]) fun t=>
 eC pg R q o true 59 #[n,t,(I p1)] fun v y z=>
 (ae pg z y (cD 22 3 cA) fun A=>
 ae pg z y (binOp .add 3 (I p1) (I 1)) fun C=>
 ae pg z y (j6 #[3,3] 3 #[A,C]) fun D=>
 eC pg R z y true 59 #[v,D,(I p1)] fun E F G=>
 ((gW G F (I 0) E 6 5 fun H L M N O Q=>
 ae pg Q O (cD 35 3 cM) fun S=>
 ae pg Q O (binOp .lss 3 M S) fun T=>
 un (aU T true N) fun U=>
 un (aU T true (I p1)) fun V=>
 aK pg Q O T true (vS (binOp .leq 3 U V)) fun Y=>
 aB pg Q O (aP T Y (B false)) fun Z=>
 (az Z
 ((ae pg Q O (dt 35 29 cM M) fun a0=>
 ae pg Q O (dY 99 29 a0) fun b0=>
 eC pg R Q O true 63 #[b0,(I p1)] fun c0 d0 e0=>
 eC pg R e0 d0 true 59 #[N,c0,(I p1)] fun g0 h0 i0=>
 ((ae pg i0 h0 (binOp .add 3 M (I 1)) fun j0=>
 gR H L j0 g0 h0 i0))))
 (((ae pg Q O (binOp .add 3 N (I 1)) fun k0=>
 eC pg R Q O true 64 #[(.agg #[(I cB),(I cI),(.float .f64 cJ),(.float .f64 cK),(I cL),(I eI),(I eJ),(I eK),(I eM),(I eO),eP,eQ]),(I p1)] fun l0 m0 n0=>
 eC pg R n0 m0 true 59 #[k0,l0,(I p1)] fun o0 q0 r0=>
 (fin R r0 q0 o0)))))))))))
def Oi (p0:Value):Prop:=
 (eC pg R X0 w0 true 65 #[p0] fun a b c=>
 (ae pg c b (aD .neq 28 (.tmp 8) (.const (I 0)) a (I 0)) fun d=>
 (az d
 ((fin R c b (aw #[(.pointer none),a])))
 ((eV pg R c b true (Instr.makeMap 162 none) fun e g h=>
 ae pg h g (dC 164 #[e] #[(0,e)]) fun i=>
 eV pg R h g true (Instr.box 164 i) fun j k l=>
 (eC pg R l k true 66 #[j,p0] fun _ m n=>
 ((fin R n m (aw #[j,(I 0)])))))))))
end
end Go.Proofs.YtbpnemeooenpmaaGreat
