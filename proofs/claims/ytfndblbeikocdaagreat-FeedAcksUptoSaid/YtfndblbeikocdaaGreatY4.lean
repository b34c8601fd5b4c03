/-
 Part 4 of the proof: what the last text leans on.
-/
import Derived.Laws.Pointers
import Derived.Shelf.SlSortCmp.WholeK
import Derived.Shelf.SlSortCmp.NoneTotal
import Derived.Recover
import Derived.Laws.MakeOwn
import Derived.Laws.BytesArg
import Derived.Laws.Concat
import Derived.Lib.Overlaps
import Derived.Lib.AppendZerosOnto
import Derived.Laws.Externs
import Derived.Laws.Slices
import Derived.Laws.IdiomStrings
import Derived.KernelRfl
import Derived.Test.YtfndblbeikocdaaGreatProg
import Derived.Test.YtfndblbeikocdaaGreatY3
open Go.Value renaming cells → aa, agg → aj, tuple → aG, ownBlock → ec
open Array renaming toList → ab, length_toList → dJ, getElem?_append_left → kL, getElem?_toList → mM, ext' → wM, size_append → pK, toList_append → nY, getElem?_eq_getElem → o9, getElem?_modify → rN
open List renaming all → av, length → ao, length_append → ae, append_assoc → aB, length_drop → dM, size_toArray → iW, take_left → mc, toArray → aR, flatten_cons → dP, getElem?_drop → lP, length_map → ay, eq_nil_of_length_eq_zero → fD, length_take → aW, flatten_append → gJ, getElem?_append_left → pa, getElem?_append_right → gM, ext_getElem? → vi, getElem?_eq_none → iU, take_of_length_le → aY, getElem?_take → jN, mem_cons_of_mem → bG
open Go.Instr renaming extract → aC, sliceAt → cp, lookup → ck, box → cE, makeMap → gZ, alloc → kM, makeFunc → ct, makeSlice → xO, mapUpdate → dE
open Go.Op renaming unary → aX
open Go.UnOp renaming not → bm
open Go.Builtin renaming append_ → dL, zeroCells → ez, lenOf → kS, firstCells → jO, clear_ → e6, min_ → je, nextslicecap → nC, copy_ → ia, cap_ → Bn
open Option.some renaming injEq → ax
open Go.Sem renaming run_bind → bL, run_pure → cH
open Go.Result renaming andThen_ok → bk
open Nat renaming le_refl → bK, le_trans → af, lt_of_lt_of_le → aI, mul_le_mul_right → eN, add_mul → oH, zero_add → ee, succ_mul → uC, add_zero → uD
open Option renaming bind_some → cJ, map_some → bH
open Prod.mk renaming injEq → dr
open Go.Addr renaming add_lit → nD
open Go.Value.slice renaming injEq → mq
open Go.Sort renaming grow → eu
open Go.World renaming frozen? → tB
open Go.Obj.cells renaming injEq → xP
open Go.Extern.SlicesOverlaps renaming overlaps → tC
set_option linter.unusedVariables false
set_option linter.unusedSimpArgs false
namespace Go.bu
open Go.Sort Go.Shelf Go.RowKit Go.Proofs
variable {P : Program} {ρ : Ren} {α : Type}
def iX (W w':World):Prop:= ∃q os,w'=eu (W.drewN q) os
theorem iX.refl (W:World):iX W W:=⟨0,#[],by rw [grow_empty];rfl⟩
theorem iX.alloc {W w:World} (h:iX W w) (o:Obj):iX W (w.alloc o):=by
 obtain⟨q,os,rfl⟩:=h;exact⟨q,os.push o,by simp [World.alloc,eu]⟩
theorem iX.trans {W w w':World} (h:iX W w) (k:iX w w'):iX W w':=by
 obtain⟨q,os,rfl⟩:=h;obtain⟨q',GK,rfl⟩:=k;exact⟨q+q',os++GK,by simp [World.drewN,eu,Nat.add_assoc]⟩
theorem iX.row {W w':World} (h:iX W w') {g:Nat} {o:Obj} (hg:W.heap[g]? =some o):w'.heap[g]? =some o:=by
 obtain⟨q,os,rfl⟩:=h
 show(W.heap++os)[g]? =some o
 rw [kL (Array.getElem?_eq_some_iff.1 hg).1,hg]
theorem flat_get [Inhabited α] {enc:α→List Value} {k:Nat} (hk: ∀x,(enc x).length=k) (h0:0<k): ∀(l:List α) (t:Nat),t<l.length*k→((l.map enc).flatten)[t]? =some ((enc l[t/k]!)[t % k]!)
 |[],t,h=>by simp at h
 |x::l,t,h=>by
  rw [List.map_cons,dP];by_cases ht:t<k
  ·rw [pa (by rw [hk];exact ht),Nat.div_eq_of_lt ht,Nat.mod_eq_of_lt ht];have:t<(enc x).length:=by rw [hk];exact ht
   simp [this]
  ·obtain⟨s,rfl⟩: ∃s,t=s+k:=⟨t-k,by omega⟩;rw [gM (by rw [hk];omega),hk,Nat.add_sub_cancel,Nat.add_div_right _ h0,Nat.add_mod_right];have hs:s<l.length*k:=by rw [List.length_cons,uC] at h;omega
   rw [flat_get hk h0 l s hs];simp
theorem Xo [Inhabited α] {enc:α→List Value} {k:Nat} (hk: ∀x,(enc x).length=k) (h0:0<k) (l:List α):(flatK enc k l.toArray).toList=(l.map enc).flatten:=by
 have hl:((l.map enc).flatten).length=l.length*k:=by
  rw [gQ (k:=k) (by intro r hr;obtain⟨x,_,rfl⟩:=List.mem_map.1 hr;exact hk x)];simp
 apply vi;intro t;by_cases ht:t<l.length*k
 ·rw [flat_get hk h0 l t ht];have h1:t<(flatK enc k l.toArray).size:=by simpa using ht
  have h2:=get_flatK enc k l.toArray t (by simpa using ht);rw [getElem!_pos (flatK enc k l.toArray) t h1] at h2;rw [mM,o9 h1,h2];simp
 ·rw [iU (by simp;omega),iU zQ]
theorem PT (F cs:Array Value) (h:F.size≤cs.size):(putCells id 0 F cs).toList=F.toList++cs.toList.drop F.size:=by
 apply vi;intro t;unfold putCells;rw [mM,Array.getElem?_mapIdx];by_cases ht:t<F.size
 ·rw [pa (by simpa using ht),o9 zQ];simp [ht]
 ·rw [gM (by simpa using (by omega:F.size≤t)),lP];simp only [dJ,mM];rw [show F.size+(t-F.size)=t by omega];cases cs[t]? with
  |none=>rfl
  |some x=>simp;intro h;omega
theorem aaH [Inhabited α] (L:SlLaysF0.n6 P ρ) {k:Nat} (h0:0<k) {e:TypeId} (aE: ∀w,(isAgg (ρ.t 24)).run P w= .ok true w) (zE: ∀w,(Go.sizeOf (ρ.t 24)).run P w= .ok k w) {enc:α→List Value} (hk: ∀x,(enc x).length=k)
  (h1: ∀x,∀v∈enc x,v.oneCell'=true) {cf:α→α→Int} (hO:SWO (ltOf cf)) {g:Nat} (eg: ∀args w,(callFunc g args).run P w= .ok (.enter g args) w)
  (ahS: ∀x y W,Calls P g #[.agg (enc x).toArray,.agg (enc y).toArray] W fun e w'=>e= .returned (.int .i64 (cf x y))∧iX W w')
  {w:World} {X:XS} {lo:Nat} {v:Value} {xs:List α} (own:Own w X lo e k v (xs.map enc)) (hb:xs.length<2^61):
  Ct P (ρ.f 6) #[v,.func (.func g) #[] #[]] w X (dK v) fun r _ w'=>r= .tuple #[]∧ ∃ys:List α,ys.Perm xs∧ys.Pairwise (fun a b=>ltOf cf b a=false)∧Own w' (dK v) lo e k v (ys.map enc):=by
 intro w0 l8;have Eb:=own.mv l8.mv;have emp: ∀(p:Option Addr) (cap:Nat),v= .slice p 0 cap→xs=[]→Calls P (ρ.f 6) #[v,.func (.func g) #[] #[]] w0 (AP (dK v) w0 fun r w'=>r= .tuple #[]∧ ∃ys:List α,ys.Perm xs∧ys.Pairwise (fun a b=>ltOf cf b a=false)∧Own w' (dK v) lo e k v (ys.map enc)):=by
  intro p cap hv hx;have ho:Own w0 (dK v) lo e k v (xs.map enc):=⟨Eb.1,Eb.2.1,fun _ hg=>hg⟩;subst hx;rw [hv] at ho⊢;exact(AnyF.slices_SortFunc_none L p cap (.func (.func g) #[] #[]) w0).mono fun e w' ⟨he,hw⟩=>⟨_,he,by subst hw;exact⟨rfl,rfl,rfl,bK _,fun _ _ _=>rfl⟩,rfl,[],List.Perm.refl _,List.Pairwise.nil,by subst hw;exact ho⟩
 rcases Eb.row with⟨hv,he⟩|⟨b,cap,cs,hv,eo,bE,jh,iB,oz,iE⟩
 ·exact emp none 0 hv (by simpa using he)
 ·rw [ay] at hv jh iE;by_cases hx:xs=[]
  ·exact emp _ cap (by rw [hv,hx];rfl) hx
  have hH:HoldsK enc k w0 b 0 xs.toArray:=by
   intro j hj;have hj':j<xs.length*k:=by simpa using hj
   have cK:j<cs.length:=by
    rw [oz];exact aI hj' (eN _ jh)
   have hf:=flat_get hk h0 xs j hj';rw [←iE,List.getElem?_take_of_lt hj'] at hf;refine⟨?_,?_⟩
   ·unfold World.cell?;rw [bE.2];simp only [ee,Option.isSome_none,Bool.false_eq_true,if_false,id];rw [get_flatK enc k _ _ (by simpa using hj')];simpa using hf
   ·unfold tB;rw [bE.2];simp
  have hc:=AnyQ.slices_SortFunc L k aE zE enc hk h1 cf hO g #[] b 0 cap xs.toArray w0 eg (fun m os dk _ x y=>(ahS x y _).mono fun _ _ ⟨he,q,GK,hw⟩=>⟨he,q,GK,hw⟩) hH bE.lt (by simp;omega);rw [show xs.toArray.size=xs.length by simp] at hc;rw [hv];refine hc.mono ?_;rintro _ w' ⟨rfl,d',n,os,hp,hs,rfl⟩;obtain⟨J5,_,VA⟩:=hp;have J5:d'.size=xs.length:=by simpa using J5
  have hblk: ∀q,q<w0.heap.size→ ¬dK (.slice (some ⟨b,0,none⟩) xs.length cap) q→q≠b:=fun q _ hq e=>hq (by rw [e];rfl);have Pv:=bE.lt;have Xp:(sortWorldK enc k w0 b 0 n d' os).heap=(w0.heap.modify b (onCells (putCells id 0 (flatK enc k d'))))++os:=rfl;have hF:(flatK enc k d').toList=(d'.toList.map enc).flatten:=by
   have:=Xo hk h0 d'.toList;simpa using this
  have hFs:(flatK enc k d').size=xs.length*k:=by rw [size_flatK,J5]
  refine⟨_,rfl,⟨rfl,rfl,rfl,?_,?_⟩,rfl,d'.toList,?_,?_,?_⟩
  ·rw [Xp];simp
  ·intro q hq hn;have bW:=hblk q hq hn;rw [Xp,kL (by simpa using hq),rN,if_neg (Ne.symm bW)]
  ·have h3:(d'.extract 0 xs.length)=d':=by rw [←J5];simp
   have h4:(xs.toArray.extract 0 xs.length)=xs.toArray:=by simp
   rw [h3,h4] at VA;simpa using VA
  ·rw [List.pairwise_iff_getElem];intro i j hi hj yK;have:=hs i j (Nat.zero_le _) yK (by rw [←J5];simpa using hj);rw [getElem!_pos d' j (by simpa using hj),getElem!_pos d' i (by simpa using hi)] at this;simpa using this
  ·have np:(sortWorldK enc k w0 b 0 n d' os).heap[b]? =some (.cells (putCells id 0 (flatK enc k d') cs.toArray) e (0,0)):=by
    rw [Xp,kL (by simpa using Pv),rN,if_pos rfl,bE.2];rfl
   have hle:xs.length*k≤cs.length:=by rw [oz];exact eN _ jh
   have B6:=PT (flatK enc k d') cs.toArray (by rw [hFs];simpa using hle);have QA:bI (sortWorldK enc k w0 b 0 n d' os) (dK (.slice (some ⟨b,0,none⟩) xs.length cap)) b (putCells id 0 (flatK enc k d') cs.toArray).toList e:=⟨rfl,by rw [np]⟩;refine Own.vM QA eo (by intro r hr;obtain⟨x,_,rfl⟩:=List.mem_map.1 hr;exact hk x) (by simpa using J5) jh iB ?_ ?_
   ·rw [B6,ae,dM,dJ,hFs];simp;omega
   ·rw [B6,List.take_append_of_le_length (by simp [J5]),aY (by simp [J5]),hF]
end Go.bu
namespace Go.bu
variable {P : Program} {R : Ending → World → Prop} {X : XS} {w : World} {m : Bool}
section
variable {t ty e k bytes lo : Nat} {v x s : Value} {rows dq : List (List Value)} {row : List Value} {N : Value → World → XS → Prop}
theorem adK (own:Own w X lo e k v rows) (hX: ∀k,X k→k<w.heap.size) (eo:lo≤w.heap.size) (he:mE P t e k bytes=true) (hx:x.cells.toList=row) (hk:(row.length==k)=true)
  (h1:row.all one=true) (hb:(rows.length+1)*bytes≤140737488355328) (hl:rows.length+1≤2^63-1)
  (n: ∀v' w' X',ef (dK v) X w X' w'→Own w' X' lo e k v' (rows++[row])→(v'.ownBlock=v.ownBlock∨ ∃g,v'.ownBlock=some g∧w.heap.size≤g)→N v' w' X'):
  eV P R X w m (gq t e k 1 #[(0,x)]) fun s w1 X1=>eV P R X1 w1 true (fW t e k bytes ty v s) N:=by
 obtain⟨hu,nS,tS,z,hi,hz,oD⟩:=kK he;have ah:row.length=k:=by simpa using hk
 have wh:x.cells.size=k:=by rw [←ah,←hx,dJ]
 refine EB (rows:=[row]) x.cells z hX hu hz zQ zQ ?_ (by simpa using ah) rfl (by simpa using hx) fun s w1 X1 aq Po=>?_
 ·simp only [Nat.one_mul];exact K4 wh (by simp)
 ·have Nq:lo≤w1.heap.size:=af eo aq.kp.size;refine y4 (dq:=[row]) z hu hi oD nS aq.has Nq (own.since aq) Po.sl (by simpa using h1) (by simpa using hb) (by simpa using hl) fun v2 w2 X2 hg ho fm=>?_;refine n v2 w2 X2 ((ef.qk aq (dK v)).trans (hg.dF.mono fun k _ hk=>hk.symm)) ho ?_;rcases fm with h|⟨g,h,dU⟩
  ·exact .inl h
  ·exact .inr ⟨g,h,af aq.kp.size dU⟩
theorem qG (own:Own w X lo e k v rows) (hX: ∀k,X k→k<w.heap.size) (eo:lo≤w.heap.size) (he:mE P t e k bytes=true) (src:Sl w X k s dq) (h1: ∀r∈dq,∀u∈r,one u=true)
  (hb:(rows.length+dq.length)*bytes≤140737488355328) (hl:rows.length+dq.length≤2^63-1)
  (n: ∀v' w' X',ef (dK v) X w X' w'→Own w' X' lo e k v' (rows++dq)→(v'.ownBlock=v.ownBlock∨ ∃g,v'.ownBlock=some g∧w.heap.size≤g)→N v' w' X'):
  eV P R X w true (fW t e k bytes ty v s) N:=by
 obtain⟨hu,nS,tS,z,hi,hz,oD⟩:=kK he;refine y4 (dq:=dq) z hu hi oD nS hX eo own src h1 hb hl fun v2 w2 X2 hg ho fm=>?_;exact n v2 w2 X2 (hg.dF.mono fun k _ hk=>hk.symm) ho fm
end
def tm (s:ByteArray):List Value:=s.data.toList.map fun b=>.int .u8 b.toNat
theorem IC (s:ByteArray):(tm s).length=s.size:=by unfold tm;rw [ay,dJ];rfl
theorem Hj (s:ByteArray):(jO 1 s.size (.string s))=(pure (tm s).toArray:Sem (Array Value)):=by
 have hx:(s.extract 0 s.size)=s:=by
  apply ByteArray.ext;simp [ByteArray.data_extract]
 show(pure ((s.extract 0 s.size).data.map fun b=>Value.int .u8 b.toNat):Sem (Array Value))=_
 rw [hx]
 congr 1
 apply wM;simp [tm]
theorem Ga (t u ty e:TypeId) (i:TypeInfo) (ht:P.underlying t=some (.slice e)) (hu:P.underlying u=some .string) (hi:P.info? e=some i) (h1:i.size=1)
  (g gA my:Nat) (cur:Array Value) (hg:w.heap[g]? =some (.cells cur e (0,0))) (s:ByteArray) (kC:gA+s.size≤my) (qX:gA+s.size≤cur.size):
  (dL #[t,u] ty #[.slice (some ⟨g,0,none⟩) gA my,.string s]).run P w=
   .ok (.slice (some ⟨g,0,none⟩) (gA+s.size) my) (w.setRow g (cur.toList.take gA++tm s++cur.toList.drop (gA+s.size)).toArray):=by
 have fV:=run_storeCells_at P g gA e (tm s) 0 cur w hg (by rw [IC];simpa using qX) (fun v hv=>by
  unfold tm at hv;obtain⟨b,_,rfl⟩:=List.mem_map.1 hv;rfl)
 simp only [uD,IC] at fV;simp [dL,run_underlying ht,run_underlying hu,sizeOf,typeInfo,hi,kS,kC,h1,Hj,nD,fV]
theorem Gb (t u ty e:TypeId) (i:TypeInfo) (z:Value) (ht:P.underlying t=some (.slice e)) (hu:P.underlying u=some .string) (hi:P.info? e=some i) (hz:i.zero=some z) (h1:i.size=1)
  (b:Addr) (gA my:Nat) (Xq:List Value) (eo:Xq.length=gA) (holds: ∀j v,Xq[j]? =some v→w.cell? (b.add j)=some v) (s:ByteArray)
  (hg:my<gA+s.size) (h63:((gA+s.size:Nat):Int)≤9223372036854775807) (qX:nC (gA+s.size) my*i.bytes≤281474976710656):
  (dL #[t,u] ty #[.slice (some b) gA my,.string s]).run P w=
   .ok (.slice (some ⟨w.heap.size,0,none⟩) (gA+s.size) (grownCap w (gA+s.size) my e))
    (w.drew.alloc (.cells (Xq.toArray++(tm s).toArray++ez z.cells (grownCap w (gA+s.size) my e-(gA+s.size))) e)):=by
 have hn: ¬(gA+s.size≤my):=by omega
 have ahT: ¬(9223372036854775807<((gA:Int)+(s.size:Int))):=by omega
 have ahU: ¬(281474976710656<nC (gA+s.size) my*i.bytes):=by omega
 have hfo:=run_firstCells_some (P:=P) w.drew 1 gA b gA my Xq zQ (by simpa using holds);simp [dL,run_underlying ht,run_underlying hu,sizeOf,typeInfo,zeroValue,hi,hz,kS,hn,ahT,ahU,Question.forced,Hj,h1,hfo,newRow,grownCap]
 congr 2
 apply wM;simp [aB]
theorem Hk (base:Nat) (t u ty e:TypeId) (i:TypeInfo) (z:Value) (bytes:Nat) (ht:P.underlying t=some (.slice e)) (hu:P.underlying u=some .string) (hi:P.info? e=some i) (hz:i.zero=some z)
  (h1:i.size=1) (hby:i.bytes=bytes) (oD:z.cells.size=1) (v:Value) (n:Nat) (xs:List Value) (lA:w.ownsRow base e 1 v n xs) (s:ByteArray)
  (h63:n+s.size≤maxLen) (Z5:(n+s.size)*bytes≤140737488355328) (agy:base≤w.heap.size):
  ∃v' w',(dL #[t,u] ty #[v,.string s]).run P w= .ok v' w'∧w'.ownsRow base e 1 v' (n+s.size) (xs++tm s)∧w.grownBy w' v.ownBlock∧(v'.ownBlock=v.ownBlock∨v'.ownBlock=some w.heap.size):=by
 subst hby;have Mj:n+s.size≤9223372036854775807:=by simp only [maxLen] at h63;omega
 have hl:=IC s;have RU:xs.length=n:=by simpa using lA.1
 have hlen:(xs++tm s).length=(n+s.size)*1:=by rw [ae,RU,hl];omega
 have grown: ∀(aS:Nat),aS<n+s.size→ ∀(row:Option Nat),
   (w.drew.alloc (.cells (xs.toArray++(tm s).toArray++ez z.cells (grownCap w (n+s.size) aS e-(n+s.size))) e)).ownsRow base e 1
    (.slice (some ⟨w.heap.size,0,none⟩) (n+s.size) (grownCap w (n+s.size) aS e)) (n+s.size) (xs++tm s)∧
   w.grownBy (w.drew.alloc (.cells (xs.toArray++(tm s).toArray++ez z.cells (grownCap w (n+s.size) aS e-(n+s.size))) e)) row:=by
  intro aS ho row;have dU:=grownCap_ge w (n+s.size) aS e;have iB:grownCap w (n+s.size) aS e≤maxLen:=grownCap_le_maxLen w (n+s.size) aS e h63;refine⟨⟨hlen,.inr ⟨w.heap.size,_,_,rfl,agy,heap_alloc_new w.drew _,dU,iB,?_,?_⟩⟩,⟨rfl,rfl,rfl,by simp,fun k hk _=>by first|exact heap_alloc_old w.drew _ k hk|exact heap_alloc_old w.drew _ hk⟩⟩
  ·simp only [pK,iW,size_zeroCells,oD,RU,hl];omega
  ·simp only [nY,aB];rw [←aB,←hlen];exact mc
 rcases lA.2 with⟨rfl,rfl⟩|⟨g,cap,cur,rfl,hbg,hg,jh,iB,lR,rD⟩
 ·have hx:xs=[]:=fD RU;subst hx;by_cases hm:s.size=0
  ·have hn:tm s=[]:=fD (by rw [hl,hm]);refine⟨.slice none 0 0,w,?_,by rw [hm,hn];exact World.ownsRow_nil w base e 1,⟨rfl,rfl,rfl,bK _,fun _ _ _=>rfl⟩,Or.inl rfl⟩;have hf:=Hj s;rw [hm,hn] at hf;simp [dL,run_underlying ht,run_underlying hu,sizeOf,typeInfo,hi,kS,hm,h1,hf]
  ·have hr:=run_append_nil_string (P:=P) w t u ty e i z ht hu hi hz s zQ zQ (by have hb:=Z5;simp only [ee] at hb;omega);have JK:=grown 0 zQ (ec (.slice none 0 0));have he:(s.data.map fun b:UInt8=>Value.int .u8 b.toNat)=(tm s).toArray:=by
    apply wM;simp [tm]
   rw [he] at hr;simp only [ee,List.nil_append,Array.empty_append] at JK⊢;exact⟨_,_,hr,JK.1,JK.2,Or.inr rfl⟩
 ·rw [Nat.mul_one] at lR rD;by_cases kC:n+s.size≤cap
  ·have qX:n+s.size≤cur.size:=by rw [lR];exact kC
   have hr:=Ga (P:=P) (w:=w) t u ty e i ht hu hi h1 g n cap cur hg s kC qX;refine⟨_,_,hr,⟨hlen,.inr ⟨g,cap,_,rfl,hbg,setRow_heap w g cur _ e _ hg,kC,iB,?_,?_⟩⟩,⟨rfl,rfl,rfl,by simp,fun k _ hk=>setRow_other w g k _ (fun e=>hk (by simp [ec,e]))⟩,Or.inl rfl⟩
   ·simp only [iW,ae,aW,dM,dJ,hl];omega
   ·rw [rD,←hlen];exact mc
  ·have holds: ∀j u,xs[j]? =some u→w.cell? ((⟨g,0,none⟩:Addr).add j)=some u:=lA.cells (g:=g) rfl;have hr:=Gb (P:=P) (w:=w) t u ty e i z ht hu hi hz h1 ⟨g,0,none⟩ n cap xs RU holds s zQ zQ (growslice_fits zQ Z5);have JK:=grown cap zQ (ec (.slice (some ⟨g,0,none⟩) n cap));exact⟨_,_,hr,JK.1,JK.2,Or.inr rfl⟩
theorem afq {t u ty e bytes lo:Nat} {v:Value} {s:ByteArray} {rows:List (List Value)} {N:Value→World→XS→Prop} (own:Own w X lo e 1 v rows) (hX: ∀k,X k→k<w.heap.size) (eo:lo≤w.heap.size)
  (he:mE P t e 1 bytes=true) (hu:P.underlying u=some .string) (hb:(rows.length+s.size)*bytes≤140737488355328) (hl:rows.length+s.size≤2^63-1)
  (n: ∀v' w' X',ef (dK v) X w X' w'→Own w' X' lo e 1 v' (rows++(tm s).map fun x=>[x])→(v'.ownBlock=v.ownBlock∨ ∃g,v'.ownBlock=some g∧w.heap.size≤g)→N v' w' X'):
  eV P R X w true (dL #[t,u] ty #[v,.string s]) N:=by
 obtain⟨ht,nS,tS,z,hi,hz,oD⟩:=kK he;intro wa hk;have own:=own.kp hk;cases hq:P.info? e with
 |none=>simp [hq] at hi
 |some ie=>
  cases lH:ie.zero with
  |none=>simp [hq,lH] at hi
  |some z'=>
   simp only [hq,lH,cJ,bH,ax,dr] at hi;obtain⟨h1,rfl,rfl⟩:=hi;unfold jt;obtain⟨v',w',hr,zH,hg,fm⟩:=Hk (P:=P) (w:=wa) lo t u ty e ie z' ie.bytes ht hu hq lH h1 rfl oD v rows.length rows.flatten own.2.1 s hl hb (af eo hk.size);simp only [vS,bL,hr,bk,cH];have fC:((tm s).map fun x=>[x]).flatten=tm s:=by
    induction tm s with
    |nil=>rfl
    |cons a l ih=>simp [ih]
   refine⟨⟨hg.os,hg.tape,hg.output,hg.size,fun k Ka nk=>hg.block k Ka fun e=>nk (own.2.2 k e.symm)⟩,n _ _ _ ?_ ⟨?_,?_,?_⟩ ?_⟩
   ·exact⟨hg.os.trans hk.os,hg.tape.trans hk.tape,hg.output.trans hk.output,af hk.size hg.size,
     fun k hx bW=>(hg.block k (aI (hX k hx) hk.size) fun e=>bW e.symm).trans (hk.block k hx),fun k h=>.inl h,
     fun k h=>h.elim (fun h=>aI (hX k h) (af hk.size hg.size)) (fun h=>h.2)⟩
   ·intro r hr;rcases List.mem_append.1 hr with h|h
    ·exact own.1 r h
    ·obtain⟨x,_,rfl⟩:=List.mem_map.1 h;rfl
   ·rw [ae,ay,IC,gJ,fC];exact zH
   ·intro g Fh;rcases fm with h|h
    ·exact .inl (own.2.2 g (h▸Fh))
    ·rw [Fh] at h;cases h;exact .inr ⟨bK _,(zH.lt _ Fh).2⟩
   ·rcases fm with h|h
    ·exact .inl h
    ·exact .inr ⟨_,h,hk.size⟩
theorem Bo {f:FuncId} {a b:Value} {N:Value→World→XS→Prop} (h:eC P R X w m f #[a,b] N):eF P R X w m (.func (.func f) #[a] #[]) #[b] N:=by
 have e: ∀wa,(D4 (.func (.func f) #[a] #[]) #[b]).run P wa=(callFunc f #[a,b]).run P wa:=by
  intro wa;simp [D4,Deferred.ofValue,invoke]
 intro wa hk;have:=h wa hk;rw [e wa];exact this
end Go.bu
set_option linter.unusedVariables false
set_option linter.unusedSimpArgs false
namespace Go.bu
variable {P : Program} {R : Ending → World → Prop} {X : XS} {w : World} {m : Bool}
def Ow (w:World) (X:XS) (e k:Nat) (v:Value) (rows:List (List Value)):Prop:=
 (∀r∈rows,r.length=k)∧((v= .slice none 0 0∧rows=[])∨ ∃g off cap cur,v= .slice (some ⟨g,off,none⟩) rows.length cap∧X g∧w.heap[g]? =some (.cells cur e (0,0))∧
  rows.length≤cap∧cap≤maxLen∧off+cap*k≤cur.size∧(cur.toList.drop off).take (rows.length*k)=rows.flatten)
theorem Ow.nil (w:World) (X:XS) (e k:Nat):Ow w X e k (.slice none 0 0) []:=⟨by simp,.inl ⟨rfl,rfl⟩⟩
theorem Own.ow {lo e k:Nat} {v:Value} {rows:List (List Value)} (h:Own w X lo e k v rows):Ow w X e k v rows:=by
 obtain⟨h1,h2,h3⟩:=h;refine⟨h1,?_⟩;rcases h2.2 with⟨rfl,hn⟩|⟨g,cap,cur,rfl,hb,hg,jh,iB,lR,ht⟩
 ·exact .inl ⟨rfl,fD hn⟩
 ·exact .inr ⟨g,0,cap,cur,rfl,h3 g rfl,hg,jh,iB,by omega,by rw [List.drop_zero];exact ht⟩
theorem Ow.sl {e k:Nat} {v:Value} {rows:List (List Value)} (h:Ow w X e k v rows):Sl w X k v rows:=by
 obtain⟨h1,⟨rfl,rfl⟩|⟨g,off,cap,cur,rfl,hx,hg,jh,iB,lR,ht⟩⟩:=h
 ·exact Sl.nil w X k
 ·have hm:cap≤2^63-1:=iB;refine⟨h1,af jh hm,_,cap,rfl,fun _=>⟨g,off,rfl,hx,cur,e,(0,0),hg,fun j v hj=>?_⟩,by simp,jh,hm⟩;rw [←ht,jN,lP] at hj;split at hj
  ·simpa using hj
  ·cases hj
theorem Ow.one {e k:Nat} {v:Value} {rows:List (List Value)} (h:Ow w X e k v rows):one v=true:=h.sl.one
theorem Ow.mono {e k:Nat} {v:Value} {rows:List (List Value)} {Y:XS} (h:Ow w X e k v rows) (hs: ∀k,X k→Y k):Ow w Y e k v rows:=by
 obtain⟨h1,h|⟨g,off,cap,cur,hv,hx,hr⟩⟩:=h
 ·exact⟨h1,.inl h⟩
 ·exact⟨h1,.inr ⟨g,off,cap,cur,hv,hs _ hx,hr⟩⟩
theorem Ow.mv {e k:Nat} {v:Value} {rows:List (List Value)} {w':World} {Y:XS} (h:Ow w X e k v rows) (m:Mv X w Y w'):Ow w' Y e k v rows:=by
 obtain⟨h1,h|⟨g,off,cap,cur,hv,hx,hg,hr⟩⟩:=h
 ·exact⟨h1,.inl h⟩
 ·obtain⟨m1,m2⟩:=m g hx (Array.getElem?_eq_some_iff.1 hg).1;exact⟨h1,.inr ⟨g,off,cap,cur,hv,m1,by rw [m2];exact hg,hr⟩⟩
theorem Ow.kp {e k:Nat} {v:Value} {rows:List (List Value)} {w':World} (h:Ow w X e k v rows) (hk:Kp X w w'):Ow w' X e k v rows:=by
 obtain⟨h1,h|⟨g,off,cap,cur,hv,hx,hg,hr⟩⟩:=h
 ·exact⟨h1,.inl h⟩
 ·exact⟨h1,.inr ⟨g,off,cap,cur,hv,hx,by rw [hk.block g hx];exact hg,hr⟩⟩
theorem Ow.bg {e k:Nat} {v:Value} {rows:List (List Value)} (h:Ow w X e k v rows) {g:Nat} (hg:v.ownBlock=some g):X g∧g<w.heap.size:=by
 obtain⟨h1,⟨rfl,_⟩|⟨g',off,cap,cur,rfl,hx,hb,hr⟩⟩:=h
 ·cases hg
 ·simp only [ec,ax] at hg;subst hg;exact⟨hx,(Array.getElem?_eq_some_iff.1 hb).1⟩
theorem Ow.tag {e k:Nat} {v:Value} {rows:List (List Value)} (h:Ow w X e k v rows) {g:Nat} (hg:v.ownBlock=some g): ∃cs:List Value,w.heap[g]? =some (.cells cs.toArray e (0,0)):=by
 obtain⟨h1,⟨rfl,_⟩|⟨g',off,cap,cur,rfl,hx,hb,hr⟩⟩:=h
 ·cases hg
 ·simp only [ec,ax] at hg;subst hg;exact⟨cur.toList,by simpa using hb⟩
theorem Ow.gd {Y:XS} {e e' k g:Nat} {v:Value} {rows:List (List Value)} {cs:List Value} (h:Ow w X e k v rows) (hr:bI w Y g cs e') (he:decide (e≠e')=true):v.ownBlock≠some g:=fun hg=>by
 obtain⟨c,h1⟩:=h.tag hg;rw [hr.2] at h1;simp only [ax,xP] at h1;exact of_decide_eq_true he h1.2.1.symm
theorem Ow.dF {F X':XS} {w':World} {e k:Nat} {v:Value} {rows:List (List Value)} (h:Ow w X e k v rows) (c:ef F X w X' w') (hd: ∀g,v.ownBlock=some g→ ¬F g):Ow w' X' e k v rows:=by
 obtain⟨h1,h|⟨g,off,cap,cur,rfl,hx,hg,hr⟩⟩:=h
 ·exact⟨h1,.inl h⟩
 ·exact⟨h1,.inr ⟨g,off,cap,cur,rfl,c.sub g hx,by rw [c.block g hx (hd g rfl)];exact hg,hr⟩⟩
theorem Ow.tight {e k:Nat} {v:Value} {rows:List (List Value)} (h:Ow w X e k v rows):Ow w (dK v) e k v rows:=by
 obtain⟨h1,h|⟨g,off,cap,cur,rfl,hx,hr⟩⟩:=h
 ·exact⟨h1,.inl h⟩
 ·exact⟨h1,.inr ⟨g,off,cap,cur,rfl,rfl,hr⟩⟩
theorem Bp (t ty e:TypeId) (i:TypeInfo) (ht:P.underlying t=some (.slice e)) (hi:P.info? e=some i)
  (g off gA my:Nat) (cur:Array Value) (hg:w.heap[g]? =some (.cells cur e (0,0)))
  (a:Addr) (m c:Nat) (news:List Value) (hl:news.length=m*i.size) (agz: ∀j u,news[j]? =some u→w.cell? (a.add j)=some u) (h1: ∀u∈news,u.oneCell'=true)
  (kC:gA+m≤my) (qX:off+gA*i.size+news.length≤cur.size):
  (dL #[t,t] ty #[.slice (some ⟨g,off,none⟩) gA my,.slice (some a) m c]).run P w=
   .ok (.slice (some ⟨g,off,none⟩) (gA+m) my) (w.setRow g (cur.toList.take (off+gA*i.size)++news++cur.toList.drop (off+gA*i.size+news.length)).toArray):=by
 have hf:=run_firstCells_some (P:=P) w i.size m a m c news hl agz;have fV:=run_storeCells_at P g (off+gA*i.size) e news 0 cur w hg (by simpa using qX) h1;simp only [uD] at fV;simp [dL,run_underlying ht,sizeOf,typeInfo,hi,kS,kC,hf,nD,fV]
theorem Bq (t ty e:TypeId) (i:TypeInfo) (ht:P.underlying t=some (.slice e)) (hi:P.info? e=some i)
  (b:Addr) (gA my:Nat) (kC:gA≤my):
  (dL #[t,t] ty #[.slice (some b) gA my,.slice none 0 0]).run P w= .ok (.slice (some b) gA my) w:=by
 simp [dL,run_underlying ht,sizeOf,typeInfo,hi,kS,kC,jO,storeCells]
theorem Mq {t ty e k bytes:Nat} {v s:Value} {rows dq:List (List Value)} {N:Value→World→XS→Prop}
  (he:mE P t e k bytes=true)
  (hX: ∀k,X k→k<w.heap.size) (own:Ow w X e k v rows) (src:Sl w X k s dq) (h1: ∀r∈dq,∀u∈r,one u=true)
  (hb:(rows.length+dq.length)*bytes≤140737488355328) (hl:rows.length+dq.length≤2^63-1)
  (n: ∀v' w' X',ef (dK v) X w X' w'→Ow w' X' e k v' (rows++dq)→(v'.ownBlock=v.ownBlock∨ ∃g,v'.ownBlock=some g∧w.heap.size≤g)→N v' w' X'):
  eV P R X w true (fW t e k bytes ty v s) N:=by
 obtain⟨hu,nS,tS,z,hi,JN,oD⟩:=kK he;obtain⟨vH,⟨rfl,rfl⟩|⟨g,off,cap,cur,rfl,hx,hg,jh,iB,lR,iE⟩⟩:=own
 ·exact y4 (rows:=[]) (dq:=dq) z hu hi oD nS hX (Nat.zero_le _) (Own.nil w X 0 e k) src h1 hb hl fun v2 w2 X2 hg ho fm=>
   n v2 w2 X2 (hg.dF.mono fun k _ hk=>hk.symm) ho.ow fm
 ·intro wa hk;have gl:wa.heap[g]? =some (.cells cur e (0,0)):=by rw [hk.block g hx];exact hg
  have src:=src.kp hk;cases hq:P.info? e with
  |none=>simp [hq] at hi
  |some ie=>
   cases lH:ie.zero with
   |none=>simp [hq,lH] at hi
   |some z'=>
    simp only [hq,lH,cJ,bH,ax,dr] at hi;obtain⟨rfl,rfl,rfl⟩:=hi;unfold fW jt;rcases src.src with⟨rfl,rfl⟩|⟨a,c,rfl,B2⟩
    ·have hr:=Bq (P:=P) (w:=wa) t ty e ie hu hq ⟨g,off,none⟩ rows.length cap jh;simp only [vS,bL,hr,bk,cH];have Kb:=Ext.refl wa;have hs:=ak.fk hX hk Kb;refine⟨Step.fk Kb,n _ _ _ (ef.qk hs _) ?_ (.inl rfl)⟩;rw [List.append_nil];exact⟨vH,.inr ⟨g,off,cap,cur,rfl,.inl hx,gl,jh,iB,lR,iE⟩⟩
    ·have qe:dq.flatten.length=dq.length*ie.size:=gQ src.1;have QF:rows.flatten.length=rows.length*ie.size:=gQ vH;have tt: ∀u∈dq.flatten,u.oneCell'=true:=fun u hu=>by
      obtain⟨r,hr,SD⟩:=List.mem_flatten.1 hu;rw [←AE];exact h1 r hr u SD
     have EC: ∀r∈rows++dq,r.length=ie.size:=fun r hr=>by
      rcases List.mem_append.1 hr with h|h
      ·exact vH r h
      ·exact src.1 r h
     have acw:rows.length+dq.length≤maxLen:=hl;by_cases kC:rows.length+dq.length≤cap
     ·have hmul:(rows.length+dq.length)*ie.size≤cap*ie.size:=eN _ kC;rw [oH] at hmul;have hr:=Bp (P:=P) (w:=wa) t ty e ie hu hq g off rows.length cap cur gl a dq.length c dq.flatten qe B2 tt kC zQ;simp only [vS,bL,hr,bk,cH];have Br: ∀k,k≠g→(wa.setRow g (cur.toList.take (off+rows.length*ie.size)++dq.flatten++cur.toList.drop (off+rows.length*ie.size+dq.flatten.length)).toArray).heap[k]? =wa.heap[k]? :=fun k hk=>setRow_other wa g k _ hk;refine⟨⟨rfl,rfl,rfl,by simp,fun k Ka nk=>Br k fun e=>nk (e▸hx)⟩,n _ _ _ ?_ ⟨EC,.inr ⟨g,off,cap,_,by rw [ae],.inl hx,setRow_heap wa g cur _ e _ gl,by rw [ae];exact kC,iB,?_,?_⟩⟩ (.inl rfl)⟩
      ·exact⟨hk.os,hk.tape,hk.output,by simpa using hk.size,fun k Kb bW=>(Br k fun e=>bW (by rw [e];rfl)).trans (hk.block k Kb),fun k h=>.inl h,
        fun k h=>h.elim (fun h=>by have:=hX k h;have:=hk.size;simp;omega) (fun h=>h.2)⟩
      ·simp only [iW,ae,aW,dM,dJ];omega
      ·have fB:off≤cur.toList.length:=by rw [dJ (xs:=cur)];omega
       have e1:(cur.toList.take (off+rows.length*ie.size)).drop off=rows.flatten:=by
        rw [List.drop_take,show off+rows.length*ie.size-off=rows.length*ie.size by omega,iE]
       have Zl:(cur.toList.take (off+rows.length*ie.size)).length=off+rows.length*ie.size:=by rw [aW,dJ (xs:=cur)];omega
       rw [aB,List.drop_append_of_le_length zQ,e1,ae,oH,gJ,←aB,←QF,←qe,←ae];exact mc
     ·have holds: ∀j u,rows.flatten[j]? =some u→wa.cell? ((⟨g,off,none⟩:Addr).add j)=some u:=fun j u hj=>by
       rw [←iE,jN,lP] at hj;split at hj
       ·rw [nD];simp only [World.cell?,gl];simpa using hj
       ·cases hj
      have hr:=run_append_grow (P:=P) wa t ty e ie z' hu hq lH ⟨g,off,none⟩ rows.length cap rows.flatten QF holds a dq.length c dq.flatten qe B2 zQ (by simp only [maxLen] at acw;omega) (growslice_fits zQ hb);simp only [vS,bL,hr,bk,cH];have dU:=grownCap_ge wa (rows.length+dq.length) cap e;have iB:grownCap wa (rows.length+dq.length) cap e≤maxLen:=grownCap_le_maxLen wa _ cap e acw;have hblk: ∀k,k<wa.heap.size→(wa.drew.alloc (.cells (rows.flatten.toArray++dq.flatten.toArray++ez z'.cells (grownCap wa (rows.length+dq.length) cap e-(rows.length+dq.length))) e)).heap[k]? =wa.heap[k]? :=fun k hk=>heap_alloc_old wa.drew _ hk;refine⟨⟨rfl,rfl,rfl,by simp,fun k Ka _=>hblk k Ka⟩,n _ _ _ ?_ ⟨EC,.inr ⟨wa.heap.size,0,_,_,by rw [ae],.inr ⟨bK _,by simp⟩,heap_alloc_new wa.drew _,by rw [ae];exact dU,iB,?_,?_⟩⟩ (.inr ⟨_,rfl,hk.size⟩)⟩
      ·exact⟨hk.os,hk.tape,hk.output,by have:=hk.size;simp;omega,fun k Kb _=>(hblk k (aI (hX k Kb) hk.size)).trans (hk.block k Kb),fun k h=>.inl h,
        fun k h=>h.elim (fun h=>by have:=hX k h;have:=hk.size;simp;omega) (fun h=>h.2)⟩
      ·simp only [pK,iW,size_zeroCells,oD,QF,qe,←oH];rw [ee];apply eN;omega
      ·simp only [nY,List.drop_zero,aB,gJ];rw [←aB,ae,oH,←QF,←qe,←ae];exact mc
section
variable {t ty e k bytes : Nat} {v x s : Value} {rows dq : List (List Value)} {row : List Value} {N : Value → World → XS → Prop}
end
theorem Pw {k:Nat} : ∀{rows:List (List Value)} (i:Nat),(∀r∈rows,r.length=k)→(rows.drop i).flatten=rows.flatten.drop (i*k)
 |_,0,_=>by simp
 |[],i+1,_=>by simp
 |r::rows,i+1,h=>by
  have hr:=h r (by simp);rw [List.drop_succ_cons,Pw i fun x hx=>h x (bG _ hx),dP,uC,Nat.add_comm,←List.drop_drop,List.drop_left' hr]
theorem oI {k:Nat} : ∀{rows:List (List Value)} (i:Nat),(∀r∈rows,r.length=k)→(rows.take i).flatten=rows.flatten.take (i*k)
 |_,0,_=>by simp
 |[],i+1,_=>by simp
 |r::rows,i+1,h=>by
  have hr:=h r (by simp);have e1:r.take (k+i*k)=r:=aY zQ;rw [List.take_succ_cons,dP,oI i fun x hx=>h x (bG _ hx),dP,uC,Nat.add_comm,List.take_append,hr,e1,show k+i*k-k=i*k by omega]
theorem fy.gd {κ α:Type} [DecidableEq κ] {A F:XS} {kv:κ→Value} {rd:World→XS→Value→α→Prop} {l:List (κ×α)} {b g:Nat} {cs:List Value} {e:TypeId} (h:fy w X A b kv rd l) (hr:bI w F g cs e):b≠g:=by
 rintro rfl;obtain⟨es,c,h1,_⟩:=h;have:=h1.2.1;rw [hr.2] at this;cases this
theorem bI.gd {F:XS} {b g:Nat} {cs rn:List Value} {e e':TypeId} (h:bI w X b cs e) (hr:bI w F g rn e') (he:decide (e≠e')=true):b≠g:=by
 rintro rfl;have:=h.2;rw [hr.2] at this;simp only [ax,xP] at this;exact of_decide_eq_true he this.2.1.symm
theorem fy.M4 {κ α:Type} [DecidableEq κ] {A F:XS} {kv:κ→Value} {rd:World→XS→Value→α→Prop} {l:List (κ×α)} {b e k:Nat} {v:Value} {rows:List (List Value)} (h:fy w X A b kv rd l) (hr:Ow w F e k v rows):v.ownBlock≠some b:=fun hg=>by
 obtain⟨cs,h2⟩:=hr.tag hg;obtain⟨es,c,h1,_⟩:=h;have:=h1.2.1;rw [h2] at this;cases this
section
variable {t : TypeId}
theorem Nr {l:List Value} {N:Value→World→XS→Prop} (hX: ∀k,X k→k<w.heap.size) (hz:(P.info? t).bind (·.zero)=some (.agg l.toArray))
  (n: ∀b w' X',w.heap.size≤b→ak X w X' w'→bI w' X' b l t→N (ptr b 0) w' X'):eV P R X w m (kM t true (.tuple #[])) N:=by
 intro wa hk;unfold jt;have Z3: ∀w,(zeroValue t).run P w= .ok (.agg l.toArray) w:=by
  intro w;cases hi:P.info? t with
  |none=>simp [hi] at hz
  |some inf=>
   have AB:inf.zero=some (.agg l.toArray):=by simpa [hi] using hz
   simp [zeroValue,typeInfo,hi,AB]
 have hr:(kM t true (.tuple #[])).run P wa= .ok (ptr wa.heap.size 0) (wa.alloc (.cells l.toArray t)):=by simp [kM,Z3,newVar,newRow,aa]
 simp only [vS,bL,hr,bk,cH];have hx:Ext wa (wa.alloc (.cells l.toArray t)):=Ext.alloc _ _;exact⟨Step.fk hx,n _ _ _ hk.size (ak.fk hX hk hx) ⟨.inr ⟨bK _,by simp⟩,by simpa using heap_alloc_new wa _⟩⟩
theorem Z6 {e k bytes c:Nat} {z:Int} {N:Value→World→XS→Prop} (hX: ∀k,X k→k<w.heap.size) (he:mE P t e k bytes=true) (hz:z=c) (hc:c≤2^32) (hb:bytes≤1024) (hk:k≤1024)
  (n: ∀v w' X',ak X w X' w'→Own w' X' w.heap.size e k v []→N v w' X'):eV P R X w m (xO t (I 0) (I z)) N:=by
 subst hz;obtain⟨hu,nS,tS,z,hi,JN,oD⟩:=kK he;intro wa ah;unfold jt;cases hq:P.info? e with
 |none=>simp [hq] at hi
 |some ie=>
  cases lH:ie.zero with
  |none=>simp [hq,lH] at hi
  |some z'=>
   simp only [hq,lH,cJ,bH,ax,dr] at hi;obtain⟨h1,h2,h3⟩:=hi;have Yz:ie.bytes*c≤281474976710656:=by
    have:=Nat.mul_le_mul (show ie.bytes≤1024 by omega) hc;omega
   obtain⟨w',hr,zH,hg⟩:=run_make_own (P:=P) wa w.heap.size t e ie z' k hu hq lH h1 .i64 .i64 c Yz (by simp only [maxLen];omega) ah.size;have jm:(xO t (I 0) (I (c:Int))).run P wa= .ok (.slice (some ⟨wa.heap.size,0,none⟩) 0 c) w':=hr;simp only [vS,bL,jm,bk,cH];have hx:Ext wa w':=⟨hg.os,hg.tape,hg.output,hg.size,fun k hk _=>hg.block k hk (by simp)⟩;refine⟨Step.fk hx,n _ _ _ (ak.fk hX ah hx) ⟨by simp,zH,fun g Fh=>?_⟩⟩;simp only [ec,ax] at Fh;subst Fh;exact .inr ⟨bK _,(zH.lt _ rfl).2⟩
end
structure Ft (w0:World) (F0:XS) (w:World) (X F:XS):Prop where
 s:ak (out F0 w0) w0 X w
 bg: ∀k,F k→X k
 v: ∀k,F k→F0 k∨w0.heap.size≤k
section
variable {w0 w' : World} {F0 F F' G X' A : XS} {Q : Value → World → World → Prop} {N : Value → World → XS → Prop} {f : FuncId} {args : Array Value}
theorem Ft.init (h: ∀k,F0 k→k<w.heap.size):Ft w F0 w (aS w) F0:=⟨ak.out _ _,h,fun _ h=>.inl h⟩
theorem Ft.since (h:Ft w0 F0 w X F) (hs:ak X w X' w'):Ft w0 F0 w' X' F:=⟨h.s.trans hs,fun k hk=>hs.sub k (h.bg k hk),h.v⟩
theorem Ft.no (h:Ft w0 F0 w X F) {k:Nat} (hk:F k) (h0:out F0 w0 k):False:=by
 rcases h.v k hk with h1|h1
 ·exact h0.2 h1
 ·have:=h0.1;omega
theorem Ft.dF (h:Ft w0 F0 w X F) (c:ef G X w X' w') (hG: ∀k,G k→F k) (hF: ∀k,F' k→F k∨(X' k∧w.heap.size≤k)):Ft w0 F0 w' X' F':=by
 refine⟨h.s.dF c fun k h0 hk=>h.no (hG k hk) h0,fun k hk=>?_,fun k hk=>?_⟩
 ·rcases hF k hk with h1|h1
  ·exact c.sub k (h.bg k h1)
  ·exact h1.1
 ·rcases hF k hk with h1|h1
  ·exact h.v k h1
  ·right;have:=h1.2;have:=h.s.kp.size;omega
theorem Ft.less (h:Ft w0 F0 w X F) (hF: ∀k,F' k→F k):Ft w0 F0 w X F':=⟨h.s,fun k hk=>h.bg k (hF k hk),fun k hk=>h.v k (hF k hk)⟩
theorem Ft.more (h:Ft w0 F0 w X F) (hF: ∀k,F' k→F k∨(X k∧w0.heap.size≤k)):Ft w0 F0 w X F':=by
 refine⟨h.s,fun k hk=>?_,fun k hk=>?_⟩
 ·rcases hF k hk with h1|h1
  ·exact h.bg k h1
  ·exact h1.1
 ·rcases hF k hk with h1|h1
  ·exact h.v k h1
  ·exact .inr h1.2
theorem Ft.call (hT:Ft w0 F0 w X F) (h:Ct P f args w X G Q) (hf:enters P f=true) (hG: ∀k,G k→F k)
  (k: ∀v wa w' X',Q v wa w'→w.heap.size≤wa.heap.size→(∀k,made wa w' k→X' k)→Ft w0 F0 w' X' (fun k=>F k∨made wa w' k)→ef G X w X' w'→N v w' X'):eC P R X w true f args N:=by
 refine Nc h hf hT.s.has (fun q hq=>hT.bg q (hG q hq)) fun v wa w' X' hq hle eD l8 hc=>k v wa w' X' hq hle eD ?_ hc;exact hT.dF hc hG fun q hq=>hq.imp id fun hm=>⟨eD q hm,af hle hm.1⟩
theorem Ft.fin {v:Value} {Q:Value→World→Prop} (h:Ft w0 F0 w X F) (hq: ∀wa,Kp X w wa→Q v wa):fin (AP F0 w0 Q) X w v:=mX h.s hq
theorem Ft.nV (h:Ft w0 F0 w X F) {wa:World} (hk:Kp X w wa) (hF: ∀k,F' k→F k): ∀k,F' k→F0 k∨made w0 wa k:=fun k ah=>by
 rcases h.v k (hF k ah)with h1|h1
 ·exact .inl h1
 ·exact .inr ⟨h1,aI (h.s.has k (h.bg k (hF k ah))) hk.size⟩
theorem Ft.SI (h:Ft w0 nX w X F):ak (bu.aS w0) w0 X w:=
 ⟨⟨h.s.kp.os,h.s.kp.tape,h.s.kp.output,h.s.kp.size,fun k ah=>h.s.kp.block k ⟨ah,fun h=>h.elim⟩⟩,fun k ah=>h.s.sub k ⟨ah,fun h=>h.elim⟩,h.s.has⟩
def Dv (w0:World) (X:XS):XS:=fun k=>X k∧w0.heap.size≤k
theorem Ft.new (h:Ft w0 F0 w X F):Ft w0 F0 w X (fun k=>F k∨Dv w0 X k):=h.more fun k hk=>hk.imp id fun h=>h
theorem Ft.Ns (h:Ft w0 nX w X F):Ft w0 nX w X (Dv w0 X):=h.more fun k hk=>.inr hk
theorem ef.j6 (c:ef G X w X' w') (h: ∀k,A k→X k∧ ¬G k):Mv A w A w':=fun k hk _=>⟨hk,c.block k (h k hk).1 (h k hk).2⟩
theorem Kp.j6 (hk:Kp X w w') (h: ∀k,A k→X k):Mv A w A w':=fun k ah _=>⟨ah,hk.block k (h k ah)⟩
theorem ak.jB (hs:ak X w X' w') (h: ∀k,A k→X k):Mv A w A w':=fun k ah _=>⟨ah,hs.kp.block k (h k ah)⟩
end
theorem agA {w0:World} {t ty e k bytes:Nat} {v s:Value} {rows dq:List (List Value)} {N:Value→World→XS→Prop} (hT:Ft w0 nX w X (Dv w0 X)) (hO:Ow w (Dv w0 X) e k v rows) (he:mE P t e k bytes=true)
  (src:Sl w X k s dq) (h1: ∀r∈dq,∀u∈r,one u=true) (hb:(rows.length+dq.length)*bytes≤140737488355328) (hl:rows.length+dq.length≤2^63-1)
  (n: ∀v' w' X',Ft w0 nX w' X' (Dv w0 X')→Ow w' (Dv w0 X') e k v' (rows++dq)→ef (dK v) X w X' w'→(v'.ownBlock=v.ownBlock∨ ∃g,v'.ownBlock=some g∧w.heap.size≤g)→N v' w' X'):
  eV P R X w true (fW t e k bytes ty v s) N:=by
 refine Mq he hT.s.has (hO.mono hT.bg) src h1 hb hl fun v' w' X' c ho fm=>?_;have Vz:Ft w0 nX w' X' (Dv w0 X'):=Ft.Ns (F:=Dv w0 X) (hT.dF c (fun k hk=>(hO.bg hk).1) fun k hk=>.inl hk);refine n v' w' X' Vz (ho.tight.mono fun k hk=>⟨(ho.bg hk).1,?_⟩) c fm;have ah:v'.ownBlock=some k:=hk;rcases fm with e|⟨g,e,dU⟩
 ·exact(hO.bg (e▸ah)).1.2
 ·rw [ah] at e;have:k=g:=Option.some.inj e;have:=hT.s.kp.size;omega
def Dj (A B:XS):Prop:= ∀k,A k→B k→False
theorem Dj.symm {A B:XS} (h:Dj A B):Dj B A:=fun k a b=>h k b a
theorem Dj.grow {A B B' C:XS} (h:Dj A B) (hB: ∀k,B' k→B k∨C k) (hc:Dj A C):Dj A B':=fun k a b=>(hB k b).elim (h k a) (hc k a)
theorem Dj.less {A A' B B':XS} (h:Dj A B) (ha: ∀k,A' k→A k) (hb: ∀k,B' k→B k):Dj A' B':=fun k a b=>h k (ha k a) (hb k b)
end Go.bu
set_option linter.unusedVariables false
set_option linter.unusedSimpArgs false
namespace Go.bu
variable {P : Program} {R : Ending → World → Prop} {X : XS} {w : World} {m : Bool}
def SJ (w:World) (X:XS) (b:Nat) (cs:List Value) (ty:TypeId):Prop:=X b∧w.heap[b]? =some (.cells cs.toArray ty (cs.length,cs.length+1))
theorem SJ.cells {b:Nat} {cs:List Value} {ty:TypeId} (h:SJ w X b cs ty):Cells w X b 0 cs:=⟨h.1,_,_,_,h.2,fun j v hj=>by simpa using hj⟩
theorem SJ.since {b:Nat} {cs:List Value} {ty:TypeId} {Y:XS} {w':World} (h:SJ w X b cs ty) (hs:ak X w Y w'):SJ w' Y b cs ty:=⟨hs.sub _ h.1,by rw [hs.kp.block b h.1];exact h.2⟩
theorem Af {t b o o':Nat} {cs:List Value} {ty:TypeId} {v:Value} {N:Value→World→XS→Prop} (h:bI w X b cs ty) (SK:o'=o) (ht:(P.info? t).map (·.size)=some 1)
  (hl:o<cs.length) (h1:one v=true) (hX: ∀k,X k→k<w.heap.size)
  (n: ∀w' X',ef (· =b) X w X' w'→bI w' X' b (cz cs o [v]) ty→N undef w' X'):eU P R X w true (st1 t 1 (ptr b o') v) N:=by
 subst SK;have hv:=uM h1;refine qh h ht zQ (by rw [hv];rfl) (by rw [hv];simp [h1]) hX fun w' X' c hr=>n w' X' c ?_;rw [hv] at hr;exact hr
theorem Io {t sz b o o':Nat} {cs:List Value} {ty:TypeId} {v:Value} {N:Value→World→XS→Prop} (h:bI w X b cs ty) (SK:o'=o) (ht:(P.info? t).map (·.size)=some sz)
  (hl:o+sz≤cs.length) (hv:v.cells.size=sz) (h1:v.cells.toList.all one=true) (hX: ∀k,X k→k<w.heap.size)
  (n: ∀w' X',ef (· =b) X w X' w'→bI w' X' b (cz cs o v.cells.toList) ty→N undef w' X'):eU P R X w true (st1 t sz (ptr b o') v) N:=by
 subst SK;exact qh h ht hl hv h1 hX n
end Go.bu
set_option linter.unusedVariables false
set_option linter.unusedSimpArgs false
namespace Go.bu
variable {P : Program} {R : Ending → World → Prop} {X : XS} {w : World} {m : Bool}
theorem PU (w:World) (dT sT ty elem:TypeId) (k g o Bs Xr:Nat) (a:Addr) (gA my:Nat) (cur:Array Value) (t:TypeId) (cs:List Value)
  (hu:P.underlying dT=some (.slice elem)) (hs:(P.info? elem).map (·.size)=some k)
  (hg:w.heap[g]? =some (.cells cur t (0,0))) (hn:cs.length=min gA Bs*k)
  (abL: ∀j v,cs[j]? =some v→w.cell? (a.add j)=some v) (qX:o+cs.length≤cur.size) (h1: ∀v∈cs,v.oneCell'=true):
  (ia #[dT,sT] ty #[.slice (some ⟨g,o,none⟩) Bs Xr,.slice (some a) gA my]).run P w=
   .ok (goInt (min gA Bs:Nat)) (w.setRow g (cur.toList.take o++cs++cur.toList.drop (o+cs.length)).toArray):=by
 have hl:=run_loadCells_list (P:=P) w a cs abL;have fV:=run_storeCells_at P g o t cs 0 cur w hg (by simpa using qX) h1;cases hq:P.info? elem with
 |none=>simp [hq] at hs
 |some i=>
  have hi:i.size=k:=by simpa [hq] using hs
  rw [hn] at hl;have hmn:min gA Bs=if gA≤Bs then gA else Bs:=Nat.min_def
  rw [hmn] at hl⊢;simp [ia,run_underlying hu,kS,jO,sizeOf,typeInfo,hq,hi,hl,fV,Nat.min_def]
theorem ID {t ty e k g o Bs Xr gA my:Nat} {a:Addr} {cur cs:List Value} {tb:TypeId} {N:Value→World→XS→Prop} (h:bI w X g cur tb) (hu:P.underlying t=some (.slice e)) (hs:(P.info? e).map (·.size)=some k)
  (hn:cs.length=min gA Bs*k) (abL: ∀wa,Kp X w wa→ ∀j v,cs[j]? =some v→wa.cell? (a.add j)=some v) (qX:o+cs.length≤cur.length) (h1: ∀v∈cs,one v=true) (hX: ∀k,X k→k<w.heap.size)
  (n: ∀w' X',ef (fun k=>k=g) X w X' w'→bI w' X' g (cz cur o cs) tb→N (.int .i64 (min gA Bs:Nat)) w' X'):
  eV P R X w true (ia #[t,t] ty #[.slice (some ⟨g,o,none⟩) Bs Xr,.slice (some a) gA my]) N:=by
 intro wa hk;have hb:=(h.kp hk).2;have hr:=PU (P:=P) wa t t ty e k g o Bs Xr a gA my cur.toArray tb cs hu hs hb hn (abL wa hk) (by simpa using qX) (fun v hv=>by rw [←AE];exact h1 v hv);unfold jt;simp only [vS,bL,hr,bk,cH];have Br: ∀k,k≠g→(wa.setRow g (cz cur o cs).toArray).heap[k]? =wa.heap[k]? :=fun k hk=>setRow_other wa g k _ hk;refine⟨⟨rfl,rfl,rfl,by simp,fun k Ka nk=>Br k fun e=>nk (e▸h.1)⟩,n _ _ ⟨hk.os,hk.tape,hk.output,by simpa using hk.size,fun k hx bW=>(Br k bW).trans (hk.block k hx),fun k h=>.inl h,
  fun k h=>h.elim (fun h=>by have:=hX k h;have:=hk.size;simp;omega) (fun h=>h.2)⟩ ⟨.inl h.1,?_⟩⟩
 exact setRow_heap wa g cur.toArray _ tb _ hb
theorem yh {t:TypeId} {k g off n cap:Nat} {z:Int} {i:Nat} {N:Value→Prop} (hz:z=i) (hi:i≤n) (hc:n≤cap) (ht:P.underlying t=some (.slice (P.elem t))) (hs:(P.info? (P.elem t)).map (·.size)=some k)
  (h:N (.slice (some (if cap=i then⟨g,off,none⟩else⟨g,off+i*k,none⟩)) (n-i) (cap-i))):
  ad P X w (cp t (.slice (some ⟨g,off,none⟩) n cap) (some (.int .i64 z)) none none) N:=by
 subst hz;refine cx (fun wa=>?_) h;rw [run_sliceAt_slice wa t _ _ _ _ ht,run_slice_l wa t _ n cap ht .i64 i zQ zQ];cases hq:P.info? (P.elem t)with
 |none=>simp [hq] at hs
 |some inf=>
  have:inf.size=k:=by simpa [hq] using hs
  by_cases Q5:cap=i
  ·simp [sizeOf,typeInfo,hq,sliced,this,Q5]
  ·simp [sizeOf,typeInfo,hq,sliced,this,nD,Q5]
theorem acx {t ty e:TypeId} {b:Option Addr} {n cap:Nat} {N:Value→Prop} (ht:P.underlying t=some (.slice e)) (h:N (.int .i64 cap)):ad P X w (Bn #[t] ty #[.slice b n cap]) N:=
 cx (fun wa=>by simp [Bn,goInt,run_underlying ht]) h
theorem Xs {f:FuncId} {fn:Func} {t bt e:TypeId} {k g g2 o o2 la ca lb cb:Nat} {c1 c2:List Value} {t1 t2:TypeId} {N:Value→World→XS→Prop} (hf:P.funcs[f]? =some fn) (Mb:(fn.name== "runtime.NumGoroutine")=false)
  (hb:fn.body.isNone=true) (hn:Extern.findNext fn=none) (he:Extern.find fn=some (tC #[t,t] #[bt])) (hu:P.underlying t=some (.slice e)) (hs:(P.info? e).map (·.size)=some k)
  (h1:bI w X g c1 t1) (h2:bI w X g2 c2 t2) (bW:g≠g2) (hl:0<c2.length) (hX: ∀k,X k→k<w.heap.size) (n: ∀w' X',ak X w X' w'→N (.bool false) w' X'):
  eC P R X w m f #[.slice (some ⟨g,o,none⟩) la ca,.slice (some ⟨g2,o2,none⟩) lb cb] N:=by
 intro wa hk;have q1:=(h1.kp hk).2;have q2:=(h2.kp hk).2;have hz: ∀w,(sizeOf e).run P w= .ok k w:=fun w=>by
  cases hq:P.info? e with
  |none=>simp [hq] at hs
  |some inf=>
   have:inf.size=k:=by simpa [hq] using hs
   simp [sizeOf,typeInfo,hq,this]
 have hr:=Lib.run_overlaps_apart (P:=P) wa t bt e hu k hz ⟨g,o,none⟩ ⟨g2,o2,none⟩ la ca lb cb bW t1 t2 c1.length c2.length (by simp [World.shape?,q1]) (by simp [World.shape?,q2]) zQ (by simp [tB,q1]) (by simp [tB,q1]);rw [run_callFunc_extern hf Mb hb hn he,hr];have hx:=Ext.refl wa;have rE:=ak.fk hX hk hx;exact⟨Step.fk hx,n _ _ rE⟩
theorem agB {t ty e k bytes:Nat} {kq kn:IntKind} {tn:TypeId} {v:Value} {c:Nat} {z:Int} {rows:List (List Value)} {N:Value→World→XS→Prop} (he:mE P t e k bytes=true) (htn:P.underlying tn=some (.int kn))
  (hX: ∀k,X k→k<w.heap.size) (src:Sl w X k v rows) (hzc:z=c) (h0:0<c) (Xt: ∃b n cap,v= .slice b n cap∧cap<rows.length+c) (hb:(rows.length+c)*bytes≤140737488355328) (hl:rows.length+c≤2^63-1)
  (n: ∀g cap cur w' X',w.heap.size≤g→ak X w X' w'→bI w' X' g cur e→rows.length+c≤cap→cap≤maxLen→cur.length=cap*k→cur.take (rows.length*k)=rows.flatten→N (.slice (some ⟨g,0,none⟩) (rows.length+c) cap) w' X'):
  eV P R X w m (dL #[t,tn] ty #[v,.int kq z]) N:=by
 subst hzc;obtain⟨hu,nS,tS,z',hi,JN,oD⟩:=kK he;intro wa hk;have src:=src.kp hk;obtain⟨b,n',cap,rfl,Xt⟩:=Xt;cases hq:P.info? e with
 |none=>simp [hq] at hi
 |some ie=>
  cases lH:ie.zero with
  |none=>simp [hq,lH] at hi
  |some z2=>
   simp only [hq,lH,cJ,bH,ax,dr] at hi;obtain⟨rfl,rfl,rfl⟩:=hi;have hn:n'=rows.length:=by
    rcases src.src with⟨h,h2⟩|⟨a,c,h,_⟩
    ·simp only [mq] at h;rw [h.2.1,h2];rfl
    ·simp only [mq] at h;exact h.2.1
   subst hn;have hlen:rows.flatten.length=rows.length*ie.size:=gQ src.1;have hold:(jO ie.size rows.length (.slice b rows.length cap)).run P wa.drew= .ok rows.flatten.toArray wa.drew:=by
    rcases src.src with⟨h,h2⟩|⟨a,c,h,B2⟩
    ·simp only [mq] at h;obtain⟨rfl,_,_⟩:=h;subst h2;simp [jO]
    ·simp only [mq] at h;obtain⟨rfl,_,rfl⟩:=h;exact run_firstCells_some (P:=P) wa.drew ie.size rows.length a rows.length cap rows.flatten hlen B2
   have qX:nC (rows.length+c) cap*ie.bytes≤281474976710656:=growslice_fits Xt hb;have ahV:c*ie.bytes≤281474976710656:=by
    have:=eN ie.bytes (Nat.le_add_left c rows.length);omega
   have hr:=Lib.run_append_grow_zeros (P:=P) wa t tn ty e ie z2 kq kn hu htn hq lH b rows.length cap rows.flatten hold c h0 nS Xt zQ ahV qX;unfold jt;simp only [vS,bL,hr,bk,cH];have hx:Ext wa (wa.drew.alloc (.cells (rows.flatten.toArray++ez z2.cells c++ez z2.cells (grownCap wa (rows.length+c) cap e-(rows.length+c))) e)):=⟨rfl,rfl,rfl,by simp,fun k hk _=>heap_alloc_old wa.drew _ hk⟩;have hs:=ak.fk hX hk hx;have dU:=grownCap_ge wa (rows.length+c) cap e;have iB:grownCap wa (rows.length+c) cap e≤maxLen:=grownCap_le_maxLen wa _ cap e hl;have fB:=hk.size;refine⟨Step.fk hx,n _ _ (rows.flatten.toArray++ez z2.cells c++ez z2.cells (grownCap wa (rows.length+c) cap e-(rows.length+c))).toList _ _ fB hs ⟨.inr ⟨bK _,by simp⟩,?_⟩ dU iB ?_ ?_⟩
   ·rw [Array.toArray_toList];exact heap_alloc_new wa.drew _
   ·simp only [dJ,pK,iW,size_zeroCells,oD,hlen,←oH]
    congr 1;omega
   ·simp only [nY,aB];rw [←hlen];exact mc
theorem Vf {t:TypeId} {k:Nat} {v:Value} {z:Int} {i:Nat} {rows:List (List Value)} {N:Value→Prop} (h:Sl w X k v rows) (hz:z=i) (hi:i≤rows.length) (ht:P.underlying t=some (.slice (P.elem t))) (hs:(P.info? (P.elem t)).map (·.size)=some k)
  (n: ∀v',Sl w X k v' (rows.drop i)→N v'):ad P X w (cp t v (some (.int .i64 z)) none none) N:=by
 subst hz;obtain⟨h1,h2,base,cap,rfl,hc,hb,hlc,iB⟩:=h;have hq: ∃inf,P.info? (P.elem t)=some inf∧inf.size=k:=by
  cases hq:P.info? (P.elem t)with
  |none=>simp [hq] at hs
  |some inf=>exact⟨inf,rfl,by simpa [hq] using hs⟩
 obtain⟨inf,hq,fB⟩:=hq;have GH: ∀wa:World,(cp t (.slice base rows.length cap) (some (.int .i64 (i:Int))) none none).run P wa= .ok (sliced base i rows.length cap k) wa:=fun wa=>by
  rw [run_sliceAt_slice wa t _ _ _ _ ht,run_slice_l wa t _ _ cap ht .i64 i zQ zQ];simp [sizeOf,typeInfo,hq,fB]
 refine cx GH (n _ ?_);refine⟨fun r hr=>h1 r (List.mem_of_mem_drop hr),by rw [dM];omega,_,cap-i,by unfold sliced;rw [dM],fun bW=>?_,fun L7=>?_,by rw [dM];omega,by omega⟩
 ·have tL:i<rows.length:=by
   refine Nat.lt_of_not_le fun hle=>bW (List.drop_of_length_le hle)
  obtain⟨b,o,rfl,lR⟩:=hc (by intro e;rw [e] at tL;simp at tL);refine⟨b,o+i*k,?_,?_⟩
  ·rw [if_neg zQ];simp only [bH,ax];unfold Addr.add;split
   ·rename_i h0;rw [h0];rfl
   ·rfl
  ·rw [bu.Pw i h1];obtain⟨hx,c,ty,fr,fF,hcc⟩:=lR;exact⟨hx,c,ty,fr,fF,fun j v hj=>by rw [lP] at hj;have:=hcc _ _ hj;rwa [←Nat.add_assoc] at this⟩
 ·split at L7
  ·have:=hb L7;omega
  ·have:base=none:=by simpa using L7
   have:=hb this;omega
theorem Ve {t:TypeId} {a:Option Addr} {n cap i j q:Nat} {z z' z2:Int} {N:Value→Prop} (hz:z=i) (AB:z'=j) (JN:z2=q) (hi:i≤j) (hj:j≤q) (hq:q≤cap) (ht:P.underlying t=some (.slice (P.elem t))) (hs:((P.info? (P.elem t)).map (·.size)).isSome=true)
  (h: ∀v,N v):ad P X w (cp t (.slice a n cap) (some (.int .i64 z)) (some (.int .i64 z')) (some (.int .i64 z2))) N:=by
 subst hz;subst AB;subst JN;obtain⟨k,hk⟩:=Option.isSome_iff_exists.1 hs;refine cx (v:=sliced a i j q k) (fun wa=>?_) (h _);rw [run_sliceAt_slice wa t _ _ _ _ ht,run_slice_lhm wa t a n cap ht .i64 .i64 .i64 i j q zQ zQ zQ zQ];cases hq:P.info? (P.elem t)with
 |none=>simp [hq] at hk
 |some inf=>
  have:inf.size=k:=by simpa [hq] using hk
  simp [sizeOf,typeInfo,hq,this]
theorem adV {t:TypeId} {k g off n cap i j:Nat} {z z':Int} {N:Value→Prop} (hz:z=i) (AB:z'=j) (hi:i≤j) (hj:j≤cap) (hic:i<cap) (ht:P.underlying t=some (.slice (P.elem t))) (hs:(P.info? (P.elem t)).map (·.size)=some k)
  (h:N (.slice (some ⟨g,off+i*k,none⟩) (j-i) (cap-i))):ad P X w (cp t (.slice (some ⟨g,off,none⟩) n cap) (some (.int .i64 z)) (some (.int .i64 z')) none) N:=by
 subst hz;subst AB;refine cx (fun wa=>?_) h;rw [run_sliceAt_slice wa t _ _ _ _ ht,run_slice_lh wa t _ n cap ht .i64 .i64 i j zQ zQ zQ];cases hq:P.info? (P.elem t)with
 |none=>simp [hq] at hs
 |some inf=>
  have:inf.size=k:=by simpa [hq] using hs
  have bW: ¬cap=i:=by omega
  simp [sizeOf,typeInfo,hq,sliced,this,nD,bW]
theorem aay {t ty e k bytes g off n cap:Nat} {s:Value} {cur:List Value} {dq:List (List Value)} {N:Value→World→XS→Prop} (he:mE P t e k bytes=true) (h:bI w X g cur e) (src:Sl w X k s dq) (h1: ∀r∈dq,∀u∈r,one u=true)
  (kC:n+dq.length≤cap) (qX:off+n*k+dq.length*k≤cur.length) (hX: ∀k,X k→k<w.heap.size)
  (nx: ∀w' X',ef (fun k=>k=g) X w X' w'→bI w' X' g (cz cur (off+n*k) dq.flatten) e→N (.slice (some ⟨g,off,none⟩) (n+dq.length) cap) w' X'):
  eV P R X w true (fW t e k bytes ty (.slice (some ⟨g,off,none⟩) n cap) s) N:=by
 obtain⟨hu,nS,tS,z,hi,JN,oD⟩:=kK he;intro wa hk;have hb:=(h.kp hk).2;have src:=src.kp hk;cases hq:P.info? e with
 |none=>simp [hq] at hi
 |some ie=>
  cases lH:ie.zero with
  |none=>simp [hq,lH] at hi
  |some z'=>
   simp only [hq,lH,cJ,bH,ax,dr] at hi;obtain⟨rfl,rfl,rfl⟩:=hi;unfold fW jt;rcases src.src with⟨rfl,rfl⟩|⟨a,c,rfl,B2⟩
   ·have hr:=Bq (P:=P) (w:=wa) t ty e ie hu hq ⟨g,off,none⟩ n cap (by simpa using kC);simp only [vS,bL,hr,bk,cH];have Kb:=Ext.refl wa;have hs:=ak.fk hX hk Kb;refine⟨Step.fk Kb,nx _ _ (ef.qk hs _) ?_⟩;have:cz cur (off+n*ie.size) ([]:List (List Value)).flatten=cur:=by simp [cz]
    rw [this];exact h.since hs
   ·have qe:dq.flatten.length=dq.length*ie.size:=gQ src.1;have tt: ∀u∈dq.flatten,u.oneCell'=true:=fun u hu=>by
     obtain⟨r,hr,SD⟩:=List.mem_flatten.1 hu;rw [←AE];exact h1 r hr u SD
    have hr:=Bp (P:=P) (w:=wa) t ty e ie hu hq g off n cap cur.toArray hb a dq.length c dq.flatten qe B2 tt kC (by rw [qe,iW];exact qX);simp only [vS,bL,hr,bk,cH];have Br: ∀k,k≠g→(wa.setRow g (cz cur (off+n*ie.size) dq.flatten).toArray).heap[k]? =wa.heap[k]? :=fun k hk=>setRow_other wa g k _ hk;refine⟨⟨rfl,rfl,rfl,by simp,fun k Ka nk=>Br k fun e=>nk (e▸h.1)⟩,nx _ _ ⟨hk.os,hk.tape,hk.output,by simpa using hk.size,fun k hx bW=>(Br k bW).trans (hk.block k hx),fun k h=>.inl h,
     fun k h=>h.elim (fun h=>by have:=hX k h;have:=hk.size;simp;omega) (fun h=>h.2)⟩ ⟨.inl h.1,?_⟩⟩
    exact setRow_heap wa g cur.toArray _ e _ hb
def SL (P:Program) (e:TypeId):Bool:=match(P.info? e).bind (·.zero)with
 |some z=>z.cells.toList.all one
 |none=>false
theorem KB {t e ty k g o n cap:Nat} {cs:List Value} {tb:TypeId} {N:Value→World→XS→Prop} {bytes:Nat} (h:bI w X g cs tb) (he:mE P t e k bytes=true) (hzo:SL P e=true) (h0:0<n) (hl:o+n*k≤cs.length) (hX: ∀k,X k→k<w.heap.size)
  (nx: ∀w' X' zs,zs.length=n*k→ef (fun k=>k=g) X w X' w'→bI w' X' g (cz cs o zs) tb→N (.tuple #[]) w' X'):
  eV P R X w true (e6 #[t] ty #[.slice (some ⟨g,o,none⟩) n cap]) N:=by
 obtain⟨hu,nS,tS,z,hi,JN,oD⟩:=kK he;intro wa hk;have hb:=(h.kp hk).2;cases hq:P.info? e with
 |none=>simp [hq] at hi
 |some ie=>
  cases lH:ie.zero with
  |none=>simp [hq,lH] at hi
  |some z'=>
   simp only [hq,lH,cJ,bH,ax,dr] at hi;obtain⟨rfl,rfl,rfl⟩:=hi;have Z3: ∀w,(zeroValue e).run P w= .ok z' w:=by
    intro w;simp [zeroValue,typeInfo,hq,lH]
   obtain⟨zs,abM⟩: ∃zs,zs=(ez z'.cells n).toList:=⟨_,rfl⟩;have Dd:zs.length=n*ie.size:=by rw [abM,dJ,size_zeroCells,oD]
   have RQ: ∀v∈zs,v.oneCell'=true:=fun v hv=>by
    rw [abM] at hv;simp only [ez,Array.toList_map,List.mem_map,Array.toList_range,List.mem_range] at hv;obtain⟨q,hq1,rfl⟩:=hv;have cK:q % z'.cells.size<z'.cells.size:=Nat.mod_lt _ (by rw [oD];exact nS);rw [getElem!_pos z'.cells _ cK];have:=hzo;simp only [SL,hq,cJ,lH,List.all_eq_true] at this;rw [←AE];exact this _ (by simp)
   have fV:=run_storeCells_at P g o tb zs 0 cs.toArray wa hb (by simp [Dd];omega) RQ;simp only [uD] at fV;obtain⟨q,rfl⟩: ∃q,n=q+1:=⟨n-1,by omega⟩;have hr:(e6 #[t] ty #[.slice (some ⟨g,o,none⟩) (q+1) cap]).run P wa= .ok (.tuple #[]) (wa.setRow g (cz cs o zs).toArray):=by
    simp only [e6];simp [run_underlying hu,Z3,←abM,fV,cz]
   unfold jt;simp only [vS,bL,hr,bk,cH];have Br: ∀k,k≠g→(wa.setRow g (cz cs o zs).toArray).heap[k]? =wa.heap[k]? :=fun k hk=>setRow_other wa g k _ hk;refine⟨⟨rfl,rfl,rfl,by simp,fun k Ka nk=>Br k fun e=>nk (e▸h.1)⟩,nx _ _ zs Dd ⟨hk.os,hk.tape,hk.output,by simpa using hk.size,fun k hx bW=>(Br k bW).trans (hk.block k hx),fun k h=>.inl h,
    fun k h=>h.elim (fun h=>by have:=hX k h;have:=hk.size;simp;omega) (fun h=>h.2)⟩ ⟨.inl h.1,?_⟩⟩
   exact setRow_heap wa g cs.toArray _ tb _ hb
end Go.bu
set_option linter.unusedVariables false
set_option linter.unusedSimpArgs false
namespace Go.bu
variable {P : Program} {R : Ending → World → Prop} {X : XS} {w : World} {m : Bool}
structure Two (A B:Prop):Prop where
 a:A
 b:B
theorem q0t {A B p:Prop} (h:A→B→p):Two A B→p:=fun t=>h t.a t.b
theorem dD {A B:Prop} (a:A) (b:B):Two A B:=⟨a,b⟩
theorem q0b {p q:Prop} (h:q→p:=by first|(intro q9;first|(with_reducible first|apply adE|apply adF|apply ZV|apply adB|apply adC|apply abH|apply abI|apply adD|apply abJ|apply abK|apply abw|apply abx|apply ZL|apply ZM|apply aeW|apply ZJ|apply ZK|apply ahL|apply ahM|apply agb|apply agc|apply ahR|apply afi|apply afj|apply QB|apply adG|apply agr);exact q9|(with_reducible apply adA);(case k=>exact q9);(· rfl)|(with_reducible apply ago);(case k=>exact q9);(· exact qN)|(with_reducible apply agp);(case k=>exact q9);(· exact qN)|(with_reducible apply Ml);(case k=>exact q9);(· exact qF);(· kernel_rfl);(· rfl)|(with_reducible apply agj);(case k=>exact q9);(· exact qF);(· kernel_rfl);(· rfl);(· exact qN)|(with_reducible apply agk);(case k=>exact q9);(· exact qF);(· exact qM);(· kernel_rfl);(· rfl)|(with_reducible apply acv);(case k=>exact q9);(· exact qF);(· exact qM);(· kernel_rfl);(· rfl)|(with_reducible apply agl);(case n=>exact q9);(· exact qO);(· kernel_rfl)|(with_reducible apply agm);(case n=>exact q9);(· assumption);(· kernel_rfl)|(with_reducible apply agi);(case k=>exact q9);(· kernel_rfl)|(with_reducible apply agn);(case n=>exact q9);(· exact qO);(try (case hz=>rfl));(case hr=>first|assumption|(clear q9;exact List.getElem?_eq_getElem (by omega)));(try (case hz=>omega));(case ht=>kernel_rfl);(case hs=>kernel_rfl)|(with_reducible apply Xl);(case k=>exact q9);(· kernel_rfl)|(with_reducible apply agq);(case h=>exact q9);(· rfl)|(with_reducible apply adI);(case k=>exact q9);(· kernel_rfl)|(with_reducible apply adJ);(case k=>exact q9);(· kernel_rfl)|(with_reducible apply afo);(case k=>exact q9);(· kernel_rfl)|(with_reducible apply afp);(case k=>exact q9);(· kernel_rfl)|(with_reducible apply afl);(case k=>exact q9);(case h=>exact qE)|(with_reducible apply afm);(case k=>exact q9);(case h=>exact qE)|(with_reducible apply Xd);(case k=>exact q9);(· exact qC)|(with_reducible apply acr);(case h=>exact q9);(· omega);(· omega)|(with_reducible apply acs);(case h=>exact q9);(· omega);(· omega)|(with_reducible apply Xm);(case h=>exact q9);(· kernel_rfl);(· kernel_rfl)|(with_reducible apply ags);(case h=>exact q9);(· kernel_rfl);(· kernel_rfl)|(with_reducible apply agv);(case k=>exact q9);(try (case hz=>rfl));(case hb=>assumption);(try (case hz=>omega));(case ht=>kernel_rfl)|(with_reducible apply agt);(case k=>exact q9);(· kernel_rfl);(· kernel_rfl);(try (case hz=>rfl));(case hn=>omega);(case hl=>rfl)|(with_reducible apply afn);(case k=>exact q9);(case hf=>kernel_rfl);(case hg=>kernel_rfl);(case hlen=>rfl);(case hl=>exact qN)|(with_reducible apply agw);(case h=>exact q9);(· rfl)|fail)|(apply q0t;intro a9 b9;first|(with_reducible first|apply Xe|apply Xj|apply Xk|apply Xg|apply Xh|apply Xi|apply ae9|apply afa|apply afb|apply afc|apply afd|apply afe|apply aff|apply afg|apply afh|apply adw);(· exact a9);exact b9|(with_reducible apply afk);(case hT=>exact a9);(case hF=>exact b9);(· exact qO);(· kernel_rfl)|fail)|fail):q→p:=h
theorem q0d {p q:Prop} (h:q→p:=by intro q9;first|(with_reducible refine aeX ?_ ?_);rotate_left;exact q9;omega|(with_reducible refine aeY ?_ ?_);rotate_left;exact q9;omega|(with_reducible refine ae5 ?_ ?_);rotate_left;exact q9;omega|(with_reducible refine ae6 ?_ ?_);rotate_left;exact q9;omega|(with_reducible refine ae7 ?_ ?_);rotate_left;exact q9;omega|(with_reducible refine ae8 ?_ ?_);rotate_left;exact q9;omega|(with_reducible refine aeZ ?_ ?_);rotate_left;exact q9;omega|(with_reducible refine ae0 ?_ ?_);rotate_left;exact q9;omega|(with_reducible refine ae1 ?_ ?_);rotate_left;exact q9;omega|(with_reducible refine ae2 ?_ ?_);rotate_left;exact q9;omega|(with_reducible refine ae3 ?_ ?_);rotate_left;exact q9;omega|(with_reducible refine ae4 ?_ ?_);rotate_left;exact q9;omega|fail):q→p:=h
theorem aD {p q:Prop} (k:q) (h:q→p:=by exact q0b):p:=h k
theorem bO {p q:Prop} (k:q) (h:q→p:=by first|exact q0d|exact q0b|fail):p:=h k
end Go.bu
namespace Go.Proofs.YtfndblbeikocdaaGreat
open Go.Proofs.Tryz renaming prog → pg
open Go.bu
set_option maxRecDepth 100000
section
variable (R : Ending → World → Prop) (w0 : World) (X0 : XS)
noncomputable def Dw:bz:=⟨151,[(11,(pg.cellsOf 49)),(12,(pg.cellsOf 34)),(17,(pg.cellsOf 34))],[74,115,119,137],[0,1,2,6,7,8,9,10,13,14,15,16,18,20,23,41,53,61,86,90,109,149],[33,34,35,37,38,39,40,43,44,45,46,47,48,101,102,103,104,105,106,107,108,118,120,121,122,124,125,126,127,128,129,130,131,132,133,134,135,136,138,139,140,141,142,143,144,145,146,147,148],[10,17,18]⟩
def u7 (p0 p1:Int) (p2:Value):Prop:=
 (eC pg R X0 w0 true 5 #[] fun a b c=>
 ad pg c b (aX bm a) fun d=>
 (au d
 (fin R c b (B false))
 ((eC pg R c b true 6 #[] fun e g h=>
 (ad pg h g (aH .eql 24 (.tmp 22) (.const (.pointer none)) e (.pointer none)) fun i=>
 (au i
 (fin R h g (B false))
 ((eC pg R h g true 7 #[e,(I p0),(I p1)] fun j k l=>
 ad pg l k (aC j 0) fun m=>
 ad pg l k (aC j 1) fun n=>
 (ad pg l k (aH .neq 27 (.tmp 31) (.const (I 0)) n (I 0)) fun o=>
 un (aP o false m) fun q=>
 aJ pg l k o false (vS (aH .eql 26 (.tmp 34) (.const (.pointer none)) q (.pointer none))) fun r=>
 az pg l k (aQ o (B true) r) fun s=>
 un (aP s false p2) fun t=>
 jn (fun (v:Value) (y:World) (z:XS)=>
 aJ pg z y s false (vS (aX bm v)) fun A=>
 az pg z y (aQ s (B true) A) fun C=>
 (au C
 (eC pg R z y true 5 #[] fun D E F=>
 un (aP D true n) fun G=>
 aJ pg F E D true (vS (aH .eql 27 (.tmp 44) (.const (I 0)) G (I 0))) fun H=>
 un (aP D true m) fun L=>
 aJ pg F E D true (vS (aH .neq 26 (.tmp 46) (.const (.pointer none)) L (.pointer none))) fun M=>
 aJ pg F E D true (vS (aH .eql 4 (.tmp 45) (.tmp 47) H M)) fun N=>
 az pg F E (aQ D N (B false)) fun O=>
 (fin R F E O))
 (((pR z y (I 0) undef undef 10 18 17 fun Q S T U V Y Z=>
 ad pg Z Y (cB 22 3 p2) fun a0=>
 ad pg Z Y (binOp .lss 3 T a0) fun b0=>
 (au b0
 (((jn (fun (c0 d0:Value) (e0:World) (g0:XS)=>
 (ad pg g0 e0 (binOp .add 3 T (I 1)) fun h0=>
 pS Q S h0 d0 c0 e0 g0)) fun i0=>
 ad pg Z Y (dt 22 39 p2 T) fun j0=>
 ad pg Z Y (aT 51 0 0 1 j0) fun k0=>
 ad pg Z Y (ld1 3 k0) fun l0=>
 ad pg Z Y (aH .neq 3 (.tmp 60) (.const (I 1)) l0 (I 1)) fun m0=>
 (au m0
 (i0 V U Y Z)
 ((ad pg Z Y (dt 22 39 p2 T) fun n0=>
 ad pg Z Y (aT 51 2 2 36 n0) fun o0=>
 ad pg Z Y (ew 49 36 o0) fun q0=>
 un (aj (aa q0)) fun r0=>
 aF (ao (ab (aa q0))==36) (aF (av (ab (aa q0)) bu.one) ((eC pg R Z Y true 16 #[m] fun s0 t0 v0=>
 un (aj (aa s0)) fun y0=>
 aF (ao (ab (aa s0))==3) (aF (av (ab (aa s0)) bu.one) ((aF (cd r0) (eC pg R v0 t0 false 17 #[m] fun z0 A0 C0=>
 eC pg R C0 A0 false 18 #[m] fun D0 E0 F0=>
 un (cellOf r0 6) fun G0=>
 eC pg R F0 E0 true 19 #[m,G0] fun H0 L0 M0=>
 (aF (cd r0) (un (b7 r0 0 36) fun N0=>
 eC pg R M0 L0 true 9 #[m,N0] fun _ O0 Q0=>
 (eC pg R Q0 O0 true 17 #[m] fun S0 T0 U0=>
 (eC pg R U0 T0 true 16 #[m] fun V0 Y0 Z0=>
 un (aj (aa V0)) fun a1=>
 aF (ao (ab (aa V0))==3) (aF (av (ab (aa V0)) bu.one) ((aF (cd a1) (aF (cd y0) (un (b7 a1 0 3) fun b1=>
 un (b7 y0 0 3) fun c1=>
 eC pg R Z0 Y0 true 20 #[b1,c1] fun d1 e1 g1=>
 (au d1
 (fin R g1 e1 (B false))
 (((il g1 e1 (I 0) a1 18 17 fun h1 i1 j1 k1 l1 m1=>
 ad pg m1 l1 (cB 63 3 S0) fun n1=>
 ad pg m1 l1 (binOp .lss 3 j1 n1) fun o1=>
 (au o1
 ((aF (cd k1) (ad pg m1 l1 (dt 63 7 S0 j1) fun q1=>
 ad pg m1 l1 (aT 69 1 3 3 q1) fun r1=>
 ad pg m1 l1 (ew 34 3 r1) fun s1=>
 un (b7 k1 0 3) fun t1=>
 eC pg R m1 l1 true 20 #[t1,s1] fun v1 y1 z1=>
 ad pg z1 y1 (aX bm v1) fun A1=>
 un (aP A1 false S0) fun C1=>
 un (aP A1 false j1) fun D1=>
 aJ pg z1 y1 A1 false (vS (dt 63 7 C1 D1)) fun E1=>
 aJ pg z1 y1 A1 false (vS (aT 69 2 6 1 E1)) fun F1=>
 aJ pg z1 y1 A1 false (vS (ld1 37 F1)) fun G1=>
 aJ pg z1 y1 A1 false (vS (cB 37 3 G1)) fun H1=>
 aJ pg z1 y1 A1 false (vS (aH .eql 3 (.tmp 107) (.const (I 0)) H1 (I 0))) fun L1=>
 az pg z1 y1 (aQ A1 (B true) L1) fun M1=>
 (au M1
 (fin R z1 y1 (B false))
 ((ad pg z1 y1 (dt 63 7 S0 j1) fun N1=>
 ad pg z1 y1 (aT 69 1 3 3 N1) fun O1=>
 ad pg z1 y1 (ew 34 3 O1) fun Q1=>
 aF (cd k1) (un (aj (aa Q1)) fun S1=>
 aF (ao (ab (aa Q1))==3) (aF (av (ab (aa Q1)) bu.one) (((ad pg z1 y1 (binOp .add 3 j1 (I 1)) fun T1=>
 im h1 i1 T1 S1 y1 z1)))))))))))
 (((aF (cd r0) (un (cellOf r0 0) fun U1=>
 ad pg m1 l1 (aH .eql 3 (.tmp 116) (.const (I 9)) U1 (I 9)) fun V1=>
 un (cellOf r0 16) fun Y1=>
 un (aP V1 true Y1) fun Z1=>
 un (aP V1 true H0) fun a2=>
 aJ pg m1 l1 V1 true (vS (aH .neq 3 (.tmp 120) (.tmp 121) Z1 a2)) fun b2=>
 az pg m1 l1 (aQ V1 b2 (B false)) fun c2=>
 un (aP c2 true z0) fun d2=>
 un (aP c2 true S0) fun e2=>
 jn (fun (g2:Value) (h2:World) (i2:XS)=>
 aJ pg i2 h2 c2 true (vS (aX bm g2)) fun j2=>
 un (aP c2 true j2) fun k2=>
 un (aP k2 false m) fun l2=>
 un (aP k2 false D0) fun m2=>
 jn (fun (n2:Value) (o2:World) (q2:XS)=>
 aJ pg q2 o2 k2 false (vS (aH .neq 3 (.tmp 131) (.tmp 132) n2 m2)) fun r2=>
 aJ pg q2 o2 c2 true (aQ k2 (B true) r2) fun s2=>
 un (aP c2 true s2) fun t2=>
 un (aP t2 false m) fun v2=>
 un (aP t2 false G0) fun y2=>
 un (aP t2 false H0) fun z2=>
 jn (fun (A2:Value) (C2:World) (D2:XS)=>
 aJ pg D2 C2 t2 false (vS (aH .neq 3 (.tmp 139) (.tmp 140) A2 z2)) fun E2=>
 aJ pg D2 C2 c2 true (aQ t2 (B true) E2) fun F2=>
 un (aP c2 true F2) fun G2=>
 un (aP G2 false m) fun H2=>
 aF (cd y0) (un (aP G2 false c1) fun L2=>
 jn (fun (M2:Value) (N2:World) (O2:XS)=>
 aJ pg O2 N2 G2 false (vS (aH .neq 34 (.tmp 145) (.tmp 146) M2 L2)) fun Q2=>
 aJ pg O2 N2 c2 true (aQ G2 (B true) Q2) fun S2=>
 az pg O2 N2 (aQ c2 S2 (B false)) fun T2=>
 (au T2
 (fin R O2 N2 (B false))
 (i0 k1 j1 N2 O2))) fun U2=>
 (gE G2 false (eC pg R D2 C2 true 16 #[H2] U2) (U2 undef C2 D2)))) fun V2=>
 (gE t2 false (eC pg R q2 o2 true 19 #[v2,y2] V2) (V2 undef o2 q2))) fun Y2=>
 (gE k2 false (eC pg R i2 h2 true 18 #[l2] Y2) (Y2 undef h2 i2))) fun Z2=>
 (gE c2 true (eC pg R m1 l1 true 21 #[d2,e2] Z2) (Z2 undef l1 m1)))))))))))))))))))))))))))))))))
 (eC pg R Z Y true 5 #[] fun a3 b3 c3=>
 (fin R c3 b3 a3)))))))) fun d3=>
 (gE s false (eC pg R l k true 8 #[t] d3) (d3 undef k l)))))))))))
def yX:Prop:=
 (eC pg R X0 w0 true 6 #[] fun a b c=>
 (ad pg c b (aH .eql 24 (.tmp 14) (.const (.pointer none)) a (.pointer none)) fun d=>
 (au d
 (fin R c b (B false))
 ((eC pg R c b true 7 #[a,(I 2),(I 8)] fun e g h=>
 ad pg h g (aC e 0) fun i=>
 ad pg h g (aC e 1) fun j=>
 (ad pg h g (aH .eql 26 (.tmp 21) (.const (.pointer none)) i (.pointer none)) fun k=>
 un (aP k false j) fun l=>
 aJ pg h g k false (vS (aH .neq 27 (.tmp 24) (.const (I 0)) l (I 0))) fun m=>
 az pg h g (aQ k (B true) m) fun n=>
 (au n
 (fin R h g (B false))
 ((eC pg R h g true 14 #[i] fun o q r=>
 ad pg r q (aC o 0) fun s=>
 ad pg r q (aC o 1) fun t=>
 (ad pg r q (dV 43 #[(I 1),(I 0),(.float .f64 0),(.float .f64 4602678819172646912)] #[(0,(I 1)),(3,(.float .f64 4602678819172646912))]) fun v=>
 un (cellOf v 0) fun y=>
 un (cellOf v 1) fun z=>
 un (cellOf v 2) fun A=>
 un (cellOf v 3) fun C=>
 ad pg r q (dV 47 #[y,z,A,C,(I 0),(I 0),(I 0),(I 0),(I 0),(I 0),(.slice none 0 0),(.slice none 0 0)] #[(0,v)]) fun D=>
 un (cellOf D 0) fun E=>
 un (cellOf D 1) fun F=>
 un (cellOf D 2) fun G=>
 un (cellOf D 3) fun H=>
 un (cellOf D 4) fun L=>
 un (cellOf D 5) fun M=>
 un (cellOf D 6) fun N=>
 un (cellOf D 7) fun O=>
 un (cellOf D 8) fun Q=>
 un (cellOf D 9) fun S=>
 un (cellOf D 10) fun T=>
 un (cellOf D 11) fun U=>
 ad pg r q (dV 73 #[(I 1),(I 0),(I 0),(I 0),(I 0),(I 0),(I 0),(I 0),(I 0),(I 0),(B false),(I 0),(.float .f64 0),(.slice none 0 0),(.slice none 0 0),(.slice none 0 0),(.slice none 0 0),E,F,G,H,L,M,N,O,Q,S,T,U] #[(0,(I 1)),(11,D)]) fun V=>
 ad pg r q (dV 34 #[(I 5),(I 0),(I 1)] #[(0,(I 5)),(2,(I 1))]) fun Y=>
 un (cellOf Y 0) fun Z=>
 un (cellOf Y 1) fun a0=>
 un (cellOf Y 2) fun b0=>
 ad pg r q (dV 73 #[(I 5),(I 0),(I 0),(I 0),Z,a0,b0,(I 0),(I 0),(I 0),(B false),(I 0),(.float .f64 0),(.slice none 0 0),(.slice none 0 0),(.slice none 0 0),(.slice none 0 0),(I 0),(I 0),(.float .f64 0),(.float .f64 0),(I 0),(I 0),(I 0),(I 0),(I 0),(I 0),(.slice none 0 0),(.slice none 0 0)] #[(0,(I 5)),(2,Y)]) fun c0=>
 eV pg R r q true (gq 40 73 29 2 #[(0,V),(1,c0)]) fun d0 e0 g0=>
 ad pg g0 e0 (dV 49 #[(I 9),(I 1),(I 31),(I 0),(I 0),(I 0),(I 1),(I 0),(I 0),(I 0),(I 0),(I 0),(I 0),(I 0),(I 0),(B false),(I 1),(I 0),(.slice none 0 0),(.slice none 0 0),(.slice none 0 0),(.slice none 0 0),(.slice none 0 0),d0,(I 0),(I 0),(.float .f64 0),(.float .f64 0),(I 0),(I 0),(I 0),(I 0),(I 0),(I 0),(.slice none 0 0),(.slice none 0 0)] #[(0,(I 9)),(1,(I 1)),(2,(I 31)),(4,(I 1)),(10,(I 1)),(17,d0)]) fun h0=>
 un (aj (aa h0)) fun i0=>
 aF (ao (ab (aa h0))==36) (aF (av (ab (aa h0)) bu.one) ((aF (cd i0) (un (b7 i0 0 36) fun j0=>
 eC pg R g0 e0 true 9 #[i,j0] fun k0 l0 m0=>
 (aF (cd i0) (eC pg R m0 l0 true 9 #[i,j0] fun n0 o0 q0=>
 (eC pg R q0 o0 true 22 #[i,(I 1)] fun r0 s0 t0=>
 ad pg t0 s0 (aC r0 0) fun v0=>
 ad pg t0 s0 (aC r0 1) fun y0=>
 un (aj (aa v0)) fun z0=>
 aF (ao (ab (aa v0))==3) (aF (av (ab (aa v0)) bu.one) ((eC pg R t0 s0 true 23 #[i] fun A0 C0 D0=>
 (eC pg R D0 C0 true 13 #[i,(I 1)] fun E0 F0 G0=>
 (ad pg G0 F0 (aH .eql 27 (.tmp 54) (.const (I 0)) t (I 0)) fun H0=>
 un (aP H0 true s) fun L0=>
 aJ pg G0 F0 H0 true (vS (cB 57 3 L0)) fun M0=>
 aJ pg G0 F0 H0 true (vS (aH .eql 3 (.tmp 58) (.const (I 3)) M0 (I 3))) fun N0=>
 az pg G0 F0 (aQ H0 N0 (B false)) fun O0=>
 un (aP O0 true s) fun Q0=>
 aJ pg G0 F0 O0 true (vS (dt 57 36 Q0 (I 0))) fun S0=>
 aJ pg G0 F0 O0 true (vS (aT 49 0 0 1 S0)) fun T0=>
 aJ pg G0 F0 O0 true (vS (ld1 3 T0)) fun U0=>
 aJ pg G0 F0 O0 true (vS (aH .eql 3 (.tmp 65) (.const (I 13)) U0 (I 13))) fun V0=>
 az pg G0 F0 (aQ O0 V0 (B false)) fun Y0=>
 un (aP Y0 true s) fun Z0=>
 aJ pg G0 F0 Y0 true (vS (dt 57 36 Z0 (I 2))) fun a1=>
 aJ pg G0 F0 Y0 true (vS (aT 49 0 0 1 a1)) fun b1=>
 aJ pg G0 F0 Y0 true (vS (ld1 3 b1)) fun c1=>
 aJ pg G0 F0 Y0 true (vS (aH .eql 3 (.tmp 72) (.const (I 8)) c1 (I 8))) fun d1=>
 az pg G0 F0 (aQ Y0 d1 (B false)) fun e1=>
 un (aP e1 true s) fun g1=>
 aJ pg G0 F0 e1 true (vS (dt 57 36 g1 (I 2))) fun h1=>
 aJ pg G0 F0 e1 true (vS (aT 49 11 17 1 h1)) fun i1=>
 aJ pg G0 F0 e1 true (vS (ld1 3 i1)) fun j1=>
 aJ pg G0 F0 e1 true (vS (aH .eql 3 (.tmp 79) (.const (I 8)) j1 (I 8))) fun k1=>
 az pg G0 F0 (aQ e1 k1 (B false)) fun l1=>
 un (aP l1 true k0) fun m1=>
 aJ pg G0 F0 l1 true (vS (aH .eql 27 (.tmp 83) (.const (I 0)) m1 (I 0))) fun n1=>
 az pg G0 F0 (aQ l1 n1 (B false)) fun o1=>
 un (aP o1 true n0) fun q1=>
 aJ pg G0 F0 o1 true (vS (aH .eql 27 (.tmp 87) (.const (I 0)) q1 (I 0))) fun r1=>
 az pg G0 F0 (aQ o1 r1 (B false)) fun s1=>
 un (aP s1 true y0) fun t1=>
 az pg G0 F0 (aQ s1 t1 (B false)) fun v1=>
 aF (cd z0) (un (cellOf z0 0) fun y1=>
 un (aP v1 true y1) fun z1=>
 aJ pg G0 F0 v1 true (vS (aH .eql 3 (.tmp 95) (.const (I 5)) z1 (I 5))) fun A1=>
 az pg G0 F0 (aQ v1 A1 (B false)) fun C1=>
 un (aP C1 true i) fun D1=>
 jn (fun (E1:Value) (F1:World) (G1:XS)=>
 aJ pg G1 F1 C1 true (vS (aH .eql 3 (.tmp 100) (.const (I 3)) E1 (I 3))) fun H1=>
 az pg G1 F1 (aQ C1 H1 (B false)) fun L1=>
 un (aP L1 true A0) fun M1=>
 aJ pg G1 F1 L1 true (vS (aH .eql 27 (.tmp 104) (.const (I 0)) M1 (I 0))) fun N1=>
 az pg G1 F1 (aQ L1 N1 (B false)) fun O1=>
 un (aP O1 true E0) fun Q1=>
 aJ pg G1 F1 O1 true (vS (aH .eql 27 (.tmp 108) (.const (I 0)) Q1 (I 0))) fun S1=>
 az pg G1 F1 (aQ O1 S1 (B false)) fun T1=>
 (fin R G1 F1 T1)) fun U1=>
 (gE C1 true (eC pg R G0 F0 true 19 #[D1,(I 1)] U1) (U1 undef F0 G0)))))))))))))))))))))))))
def Kc:Prop:=
 (eV pg R X0 w0 true (gZ 77 none) fun a b c=>
 ad pg c b (dV 79 #[a,(I 0),(I 0),(I 0),(B false)] #[(0,a)]) fun d=>
 eV pg R c b true (cE 79 d) fun e g h=>
 (fin R h g e))
noncomputable def SM:bz:=⟨93,[(10,(pg.cellsOf 85)),(15,(pg.cellsOf 89))],[46,53,61,63,70,77,85,87],[0,1,2,6,7,9,11,12,13,16,23,33,41,42,43,44,56,78,79,80,81],[19,20,21],[10,43,80]⟩
def G9 (p0:Value) (p1 p2:Int):Prop:=
 (ad pg X0 w0 (binOp .lss 3 (I p1) (I 1)) fun a=>
 un (aP a false (I p1)) fun b=>
 aJ pg X0 w0 a false (vS (binOp .gtr 3 b (I 12))) fun c=>
 az pg X0 w0 (aQ a (B true) c) fun d=>
 (au d
 ((fin R X0 w0 (aG #[(.pointer none),(I 1)])))
 (eC pg R X0 w0 true 24 #[p0] fun e g h=>
 (au e
 ((fin R h g (aG #[(.pointer none),(I 12)])))
 (((ad pg h g (dV 34 #[(I 0),(I 0),(I 0)] #[]) fun i=>
 eC pg R h g true 25 #[(I p2),i] fun j k l=>
 ad pg l k (aC j 0) fun _=>
 ad pg l k (aC j 1) fun m=>
 (ad pg l k (aH .neq 27 (.tmp 32) (.const (I 0)) m (I 0)) fun n=>
 (au n
 ((fin R l k (aG #[(.pointer none),m])))
 ((eC pg R l k true 26 #[p0] fun o q r=>
 ad pg r q (aC o 0) fun s=>
 ad pg r q (aC o 1) fun t=>
 un (aj (aa s)) fun v=>
 aF (ao (ab (aa s))==4) (aF (av (ab (aa s)) bu.one) (((jn (fun (y:Value) (z:World) (A:XS)=>
 aF (cd y) (eV pg R A z true (gZ 90 none) fun C D E=>
 un (b7 y 0 4) fun F=>
 un (b7 y 0 3) fun G=>
 un (cellOf F 0) fun H=>
 un (cellOf F 1) fun L=>
 un (cellOf F 2) fun M=>
 un (cellOf F 3) fun N=>
 un (cellOf G 0) fun O=>
 un (cellOf G 1) fun Q=>
 un (cellOf G 2) fun S=>
 ad pg E D (dV 93 #[p0,H,L,M,N,(.pointer none),C,O,Q,S,(B false),(.slice none 0 0),(.slice none 0 0),O,Q,S,(B false)] #[(0,p0),(1,F),(3,C),(4,G),(8,G)]) fun T=>
 eV pg R E D true (cE 93 T) fun U V Y=>
 (aF (cd y) (eC pg R Y V true 25 #[(I p2),G] fun Z a0 b0=>
 ad pg b0 a0 (aC Z 0) fun c0=>
 ad pg b0 a0 (aC Z 1) fun _=>
 az pg b0 a0 (aM U) fun d0=>
 ad pg b0 a0 (aT 93 2 5 1 d0) fun e0=>
 eU pg R b0 a0 true (st1 80 1 e0 c0) fun _ g0 h0=>
 (aF (cd y) (un (cellOf y 3) fun i0=>
 ad pg h0 g0 (cB 83 3 i0) fun j0=>
 (gp h0 g0 (I 0) 80 fun k0 l0 m0 n0 o0=>
 ad pg o0 n0 (binOp .lss 3 m0 j0) fun q0=>
 (au q0
 ((ad pg o0 n0 (dt 83 2 i0 m0) fun r0=>
 ad pg o0 n0 (ew 89 2 r0) fun s0=>
 un (aj (aa s0)) fun t0=>
 aF (ao (ab (aa s0))==2) (aF (av (ab (aa s0)) bu.one) ((aF (cd t0) (ad pg o0 n0 (dV 34 #[(I 0),(I 0),(I 0)] #[]) fun v0=>
 un (cellOf t0 0) fun y0=>
 un (cellOf t0 1) fun z0=>
 eC pg R o0 n0 true 27 #[U,y0,z0,v0] fun _ A0 C0=>
 ((ad pg C0 A0 (binOp .add 3 m0 (I 1)) fun D0=>
 gm k0 l0 D0 A0 C0))))))))
 ((((fin R o0 n0 (aG #[U,(I 0)]))))))))))))) fun E0=>
 ad pg r q (aH .eql 27 (.tmp 40) (.const (I 8)) t (I 8)) fun F0=>
 (au F0
 ((il r q (I 0) v 43 10 fun G0 H0 L0 M0 N0 O0=>
 ad pg O0 N0 (binOp .lss 3 L0 (I p1)) fun Q0=>
 (au Q0
 (((aF (cd M0) (ad pg O0 N0 (binOp .add 3 L0 (I 1)) fun S0=>
 ad pg O0 N0 (dV 89 #[S0,(I 1)] #[(0,S0),(1,(I 1))]) fun T0=>
 eV pg R O0 N0 true (gq 83 89 2 1 #[(0,T0)]) fun U0 V0 Y0=>
 un (cellOf M0 3) fun Z0=>
 eV pg R Y0 V0 true (fW 83 89 2 16 83 Z0 U0) fun a1 b1 c1=>
 un (aj (aR (cz (ab (aa M0)) 3 [a1]))) fun d1=>
 aF (bu.one a1) (((ad pg c1 b1 (binOp .add 3 L0 (I 1)) fun e1=>
 im G0 H0 e1 d1 b1 c1)))))))
 (E0 M0 N0 O0))))
 (ad pg r q (aH .neq 27 (.tmp 55) (.const (I 0)) t (I 0)) fun g1=>
 (au g1
 ((fin R r q (aG #[(.pointer none),t])))
 (E0 v q r)))))))))))))))))))
def Bg (p0:Value):Prop:=
 (((il X0 w0 (I 0) (I 0) 4 3 fun a b c d e g=>
 ad pg g e (cB 22 3 p0) fun h=>
 ad pg g e (binOp .lss 3 c h) fun i=>
 un (aP i true c) fun j=>
 aJ pg g e i true (vS (binOp .lss 3 j (I 200))) fun k=>
 az pg g e (aQ i k (B false)) fun l=>
 un (aP l true d) fun m=>
 aJ pg g e l true (vS (binOp .leq 3 m (I 20000))) fun n=>
 az pg g e (aQ l n (B false)) fun o=>
 (au o
 ((ad pg g e (dt 22 39 p0 c) fun q=>
 ad pg g e (aT 51 2 2 36 q) fun r=>
 ad pg g e (ew 49 36 r) fun s=>
 eC pg R g e true 28 #[s,(I 20000)] fun t v y=>
 ad pg y v (binOp .add 3 d t) fun z=>
 ((ad pg y v (binOp .add 3 c (I 1)) fun A=>
 im a b A z v y))))
 (((ad pg g e (cB 22 3 p0) fun C=>
 ad pg g e (binOp .leq 3 C (I 200)) fun D=>
 un (aP D true d) fun E=>
 aJ pg g e D true (vS (binOp .leq 3 E (I 20000))) fun F=>
 az pg g e (aQ D F (B false)) fun G=>
 (fin R g e G))))))))
noncomputable def I4:bz:=⟨61,[(3,(pg.cellsOf 49))],[15,20,27,38],[0,1,2,4,5,10,19,26],[14,16,17,1000049,1000058],[]⟩
def zz (p0:Value) (cm cu cq eJ ff fH fi fj ij wN rO rP sL sM sN:Int) (sO:Bool) (qs sP:Int) (sQ sR sS sU sV pr:Value) (sW sX:Int) (sY sZ:Nat) (s4 B7 B8 B9 Ca Cb:Int) (Cc Cd:Value):Prop:=
 eV pg R X0 w0 true (cE 26 p0) fun a b c=>
 ((jn (fun (d:World) (e:XS)=>
 (fin R e d (I 0))) fun g=>
 ad pg c b (ld1 26 a) fun h=>
 az pg c b (aM h) fun i=>
 ad pg c b (aT 93 9 16 1 i) fun j=>
 ad pg c b (ld1 4 j) fun k=>
 (au k
 (fin R c b (I 12))
 (eC pg R c b true 29 #[(.agg #[(I cm),(I cu),(I cq),(I eJ),(I ff),(I fH),(I fi),(I fj),(I ij),(I wN),(I rO),(I rP),(I sL),(I sM),(I sN),(B sO),(I qs),(I sP),sQ,sR,sS,sU,sV,pr,(I sW),(I sX),(.float .f64 sY),(.float .f64 sZ),(I s4),(I B7),(I B8),(I B9),(I Ca),(I Cb),Cc,Cd])] fun l m n=>
 ad pg n m (aH .neq 27 (.tmp 12) (.const (I 0)) l (I 0)) fun o=>
 un (aP o false (I cq)) fun q=>
 aJ pg n m o false (vS (aH .neq 3 (.tmp 16) (.const (I 31)) q (I 31))) fun r=>
 az pg n m (aQ o (B true) r) fun s=>
 (au s
 (g m n)
 (ad pg n m (aH .eql 3 (.tmp 21) (.const (I 9)) (I cm) (I 9)) fun t=>
 (au t
 (ad pg n m (ld1 26 a) fun v=>
 eC pg R n m true 30 #[v,(.agg #[(I cm),(I cu),(I cq),(I eJ),(I ff),(I fH),(I fi),(I fj),(I ij),(I wN),(I rO),(I rP),(I sL),(I sM),(I sN),(B sO),(I qs),(I sP),sQ,sR,sS,sU,sV,pr,(I sW),(I sX),(.float .f64 sY),(.float .f64 sZ),(I s4),(I B7),(I B8),(I B9),(I Ca),(I Cb),Cc,Cd])] fun _ y z=>
 (g y z))
 (ad pg n m (aH .eql 3 (.tmp 28) (.const (I 14)) (I cm) (I 14)) fun A=>
 (au A
 (ad pg n m (ld1 26 a) fun C=>
 az pg n m (aM C) fun D=>
 ad pg n m (aT 93 5 10 1 D) fun E=>
 eU pg R n m true (st1 4 1 E (B true)) fun _ F G=>
 (ad pg G F (ld1 26 a) fun H=>
 ad pg G F (ld1 26 a) fun L=>
 az pg G F (aM L) fun M=>
 ad pg G F (aT 93 4 7 3 M) fun N=>
 ad pg G F (ew 34 3 N) fun O=>
 eC pg R G F false 31 #[O,(.agg #[(I wN),(I rO),(I rP)])] fun Q S T=>
 az pg T S (aM H) fun U=>
 ad pg T S (aT 93 4 7 3 U) fun V=>
 eU pg R T S true (st1 34 3 V Q) fun _ Y Z=>
 ((jn (fun (a0:World) (b0:XS)=>
 ad pg b0 a0 (ld1 26 a) fun c0=>
 (az pg b0 a0 (aM c0) fun d0=>
 (ad pg b0 a0 (aT 93 7 12 1 d0) fun e0=>
 (ad pg b0 a0 (ld1 91 e0) fun g0=>
 (ad pg b0 a0 (ct (Fn.func 36) #[] #[a]) fun h0=>
 (And
 (ad pg b0 a0 (ld1 26 a) fun i0=>
 (eC pg R b0 a0 true 35 #[g0,h0] fun j0 k0 l0=>
 (az pg l0 k0 (aM i0) fun m0=>
 (ad pg l0 k0 (aT 93 7 12 1 m0) fun n0=>
 (eU pg R l0 k0 true (st1 91 1 n0 j0) fun _ o0 q0=>
 (g o0 q0))))))
 (eC pg R b0 a0 true 35 #[g0,h0] fun r0 s0 t0=>
 (ad pg t0 s0 (ld1 26 a) fun v0=>
 (az pg t0 s0 (aM v0) fun y0=>
 (ad pg t0 s0 (aT 93 7 12 1 y0) fun z0=>
 (eU pg R t0 s0 true (st1 91 1 z0 r0) fun _ A0 C0=>
 (g A0 C0)))))))))))) fun D0=>
 ad pg Z Y (ld1 26 a) fun E0=>
 (az pg Z Y (aM E0) fun F0=>
 (ad pg Z Y (aT 93 6 11 1 F0) fun G0=>
 (ad pg Z Y (ld1 63 G0) fun H0=>
 (ad pg Z Y (ct (Fn.func 33) #[] #[a]) fun L0=>
 (And
 (ad pg Z Y (ld1 26 a) fun M0=>
 (eC pg R Z Y true 32 #[H0,L0] fun N0 O0 Q0=>
 (az pg Q0 O0 (aM M0) fun S0=>
 (ad pg Q0 O0 (aT 93 6 11 1 S0) fun T0=>
 (eU pg R Q0 O0 true (st1 63 1 T0 N0) fun _ U0 V0=>
 (D0 U0 V0))))))
 (eC pg R Z Y true 32 #[H0,L0] fun Y0 Z0 a1=>
 (ad pg a1 Z0 (ld1 26 a) fun b1=>
 (az pg a1 Z0 (aM b1) fun c1=>
 (ad pg a1 Z0 (aT 93 6 11 1 c1) fun d1=>
 (eU pg R a1 Z0 true (st1 63 1 d1 Y0) fun _ e1 g1=>
 (D0 e1 g1)))))))))))))))
 (g m n))))))))))
noncomputable def I5:bz:=⟨49,[(7,(pg.cellsOf 89))],[31,35],[0,1,4,5,8,13,25,26,27,28,34],[],[5,27]⟩
def zC (p0:Value) (p1:Int):Prop:=
 (az pg X0 w0 (aM p0) fun a=>
 ad pg X0 w0 (aT 93 9 16 1 a) fun b=>
 ad pg X0 w0 (ld1 4 b) fun c=>
 (au c
 (fin R X0 w0 (I 12))
 (az pg X0 w0 (aM p0) fun d=>
 ad pg X0 w0 (aT 93 3 6 1 d) fun e=>
 ad pg X0 w0 (ld1 90 e) fun g=>
 ad pg X0 w0 (ck 90 g (I p1) false) fun h=>
 ad pg X0 w0 (aH .eql 111 (.tmp 19) (.const (.pointer none)) h (.pointer none)) fun i=>
 (au i
 (fin R X0 w0 (I 8))
 ((((az pg X0 w0 (aM p0) fun j=>
 ad pg X0 w0 (aT 93 1 1 4 j) fun k=>
 ad pg X0 w0 (aT 85 1 3 1 k) fun l=>
 ad pg X0 w0 (ld1 83 l) fun m=>
 ad pg X0 w0 (cB 83 3 m) fun n=>
 (il X0 w0 (I 0) (I 1) 27 5 fun o q r s t v=>
 ad pg v t (binOp .lss 3 r n) fun y=>
 (au y
 (((jn (fun (z:Value)=>
 (ad pg v t (binOp .add 3 r (I 1)) fun A=>
 im o q A z t v)) fun C=>
 ad pg v t (dt 83 2 m r) fun D=>
 ad pg v t (ew 89 2 D) fun E=>
 un (aj (aa E)) fun F=>
 aF (ao (ab (aa E))==2) (aF (av (ab (aa E)) bu.one) ((aF (cd F) (un (cellOf F 0) fun G=>
 ad pg v t (aH .eql 3 (.tmp 32) (.tmp 33) G (I p1)) fun H=>
 (au H
 (aF (cd F) (un (cellOf F 1) fun L=>
 (C L)))
 (C s)))))))))
 (((az pg v t (aM p0) fun M=>
 ad pg v t (aT 93 3 6 1 M) fun N=>
 ad pg v t (ld1 90 N) fun O=>
 eC pg R v t false 44 #[(I p1),s] fun Q S T=>
 ad pg T S (aC Q 0) fun U=>
 ad pg T S (aC Q 1) fun _=>
 eU pg R T S true (dE 90 O (I p1) U) fun _ V Y=>
 (fin R Y V (I 0)))))))))))))))
def zD (p0:Value):Prop:=
 (az pg X0 w0 (aM p0) fun a=>
 ad pg X0 w0 (aT 93 9 16 1 a) fun b=>
 ad pg X0 w0 (ld1 4 b) fun c=>
 (au c
 ((fin R X0 w0 (aG #[(.slice none 0 0),(I 12)])))
 ((((jn (fun (d:Value) (e:World) (g:XS)=>
 az pg g e (aM p0) fun h=>
 ad pg g e (aT 93 3 6 1 h) fun i=>
 ad pg g e (ld1 90 i) fun j=>
 eC pg R g e true 47 #[j] fun k l m=>
 eC pg R m l true 46 #[k] fun n o q=>
 ad pg q o (cB 38 3 n) fun r=>
 (il q o (I 0) d 66 4 fun s t v y z A=>
 ad pg A z (binOp .lss 3 v r) fun C=>
 (au C
 ((ad pg A z (dt 38 1 n v) fun D=>
 ad pg A z (ld1 3 D) fun E=>
 ((jn (fun (F:Value) (G:World) (H:XS)=>
 (jn (fun (L:Value) (M:World) (N:XS)=>
 aF (cd L) (un (b7 L 0 36) fun O=>
 eV pg R N M true (gq 57 49 36 1 #[(0,O)]) fun Q S T=>
 eV pg R T S true (fW 57 49 36 416 57 y Q) fun U V Y=>
 ((ad pg Y V (binOp .add 3 v (I 1)) fun Z=>
 im s t Z U V Y)))) fun a0=>
 az pg H G (aM p0) fun b0=>
 ad pg H G (aT 93 2 5 1 b0) fun c0=>
 ad pg H G (ld1 80 c0) fun d0=>
 az pg H G (aM p0) fun e0=>
 ad pg H G (aT 93 6 11 1 e0) fun g0=>
 ad pg H G (ld1 63 g0) fun h0=>
 ad pg H G (cB 63 3 h0) fun i0=>
 eC pg R H G true 49 #[d0,E,i0] fun j0 k0 l0=>
 (au j0
 (aF (cd F) (un (aj (aR (cz (ab (aa F)) 17 [(I 0)]))) fun m0=>
 (a0 m0 k0 l0)))
 (a0 F k0 l0)))) fun n0=>
 (((az pg A z (aM p0) fun o0=>
 (ad pg A z (aT 93 3 6 1 o0) fun q0=>
 (ad pg A z (ld1 90 q0) fun r0=>
 ((ad pg A z (ck 90 r0 E false) fun s0=>
 ((az pg A z (aM p0) fun t0=>
 (ad pg A z (aT 93 8 13 3 t0) fun v0=>
 (ad pg A z (ew 34 3 v0) fun y0=>
 (And
 (eC pg R A z false 48 #[s0] fun z0 A0 C0=>
 (un (cellOf y0 0) fun D0=>
 un (cellOf y0 1) fun E0=>
 un (cellOf y0 2) fun F0=>
 ad pg C0 A0 (dV 49 #[(I 8),(I 31),E,(I 0),(I 0),(I 0),E,(I 0),(I 0),D0,E0,F0,(I 0),(I 0),(I 0),(B false),z0,(I 8),(.slice none 0 0),(.slice none 0 0),(.slice none 0 0),(.slice none 0 0),(.slice none 0 0),(.slice none 0 0),(I 0),(I 0),(.float .f64 0),(.float .f64 0),(I 0),(I 0),(I 0),(I 0),(I 0),(I 0),(.slice none 0 0),(.slice none 0 0)] #[(0,(I 8)),(1,(I 31)),(2,E),(4,E),(10,z0),(11,(I 8)),(7,y0)]) fun G0=>
 ((un (aj (aa G0)) fun H0=>
 aF (ao (ab (aa G0))==36) (aF (av (ab (aa G0)) bu.one) (n0 H0 A0 C0))))))
 ((eC pg R A z false 48 #[s0] fun L0 M0 N0=>
 (un (cellOf y0 0) fun O0=>
 un (cellOf y0 1) fun Q0=>
 un (cellOf y0 2) fun S0=>
 ad pg N0 M0 (dV 49 #[(I 8),(I 31),E,(I 0),(I 0),(I 0),E,(I 0),(I 0),O0,Q0,S0,(I 0),(I 0),(I 0),(B false),L0,(I 8),(.slice none 0 0),(.slice none 0 0),(.slice none 0 0),(.slice none 0 0),(.slice none 0 0),(.slice none 0 0),(I 0),(I 0),(.float .f64 0),(.float .f64 0),(I 0),(I 0),(I 0),(I 0),(I 0),(I 0),(.slice none 0 0),(.slice none 0 0)] #[(0,(I 8)),(1,(I 31)),(2,E),(4,E),(10,L0),(11,(I 8)),(7,y0)]) fun T0=>
 (un (aj (aa T0)) fun U0=>
 aF (ao (ab (aa T0))==36) (aF (av (ab (aa T0)) bu.one) (n0 U0 M0 N0))))))))))))))))))))))
 ((((fin R A z (aG #[y,(I 0)])))))))) fun V0=>
 az pg X0 w0 (aM p0) fun Y0=>
 ad pg X0 w0 (aT 93 5 10 1 Y0) fun Z0=>
 ad pg X0 w0 (ld1 4 Z0) fun a1=>
 ad pg X0 w0 (aX bm a1) fun b1=>
 (au b1
 (ad pg X0 w0 (dV 49 #[(I 13),(I 31),(I 32),(I 0),(I 0),(I 0),(I 0),(I 0),(I 0),(I 0),(I 0),(I 0),(I 0),(I 0),(I 0),(B false),(I 0),(I 0),(.slice none 0 0),(.slice none 0 0),(.slice none 0 0),(.slice none 0 0),(.slice none 0 0),(.slice none 0 0),(I 0),(I 0),(.float .f64 0),(.float .f64 0),(I 0),(I 0),(I 0),(I 0),(I 0),(I 0),(.slice none 0 0),(.slice none 0 0)] #[(0,(I 13)),(1,(I 31)),(2,(I 32))]) fun c1=>
 eV pg R X0 w0 true (gq 57 49 36 1 #[(0,c1)]) fun d1 e1 g1=>
 eV pg R g1 e1 true (fW 57 49 36 416 57 (.slice none 0 0) d1) fun h1 i1 j1=>
 (V0 h1 i1 j1))
 (az pg X0 w0 (aM p0) fun k1=>
 ad pg X0 w0 (aT 93 4 7 3 k1) fun l1=>
 ad pg X0 w0 (ew 34 3 l1) fun m1=>
 un (aj (aa m1)) fun n1=>
 aF (ao (ab (aa m1))==3) (aF (av (ab (aa m1)) bu.one) ((az pg X0 w0 (aM p0) fun o1=>
 ad pg X0 w0 (aT 93 6 11 1 o1) fun q1=>
 ad pg X0 w0 (ld1 63 q1) fun r1=>
 az pg X0 w0 (aM p0) fun s1=>
 ad pg X0 w0 (aT 93 6 11 1 s1) fun t1=>
 ad pg X0 w0 (ld1 63 t1) fun v1=>
 ad pg X0 w0 (cB 63 3 v1) fun y1=>
 ad pg X0 w0 (je #[3,3] 3 #[y1,(I 8)]) fun z1=>
 ad pg X0 w0 (cp 63 r1 none (some z1) none) fun A1=>
 ad pg X0 w0 (cB 63 3 A1) fun C1=>
 (pR X0 w0 (I 0) n1 (.slice none 0 0) 40 5 4 fun D1 E1 F1 G1 H1 L1 M1=>
 ad pg M1 L1 (binOp .lss 3 F1 C1) fun N1=>
 (au N1
 ((ad pg M1 L1 (dt 63 7 A1 F1) fun O1=>
 ad pg M1 L1 (ew 69 7 O1) fun Q1=>
 un (aj (aa Q1)) fun S1=>
 aF (ao (ab (aa Q1))==7) (aF (av (ab (aa Q1)) bu.one) ((aF (cd G1) (aF (cd S1) (un (cellOf S1 6) fun T1=>
 eC pg R M1 L1 false 45 #[T1] fun U1 V1 Y1=>
 un (b7 G1 0 3) fun Z1=>
 un (b7 S1 3 3) fun a2=>
 un (b7 S1 0 3) fun b2=>
 un (cellOf Z1 0) fun c2=>
 un (cellOf Z1 1) fun d2=>
 un (cellOf Z1 2) fun e2=>
 un (cellOf a2 0) fun g2=>
 un (cellOf a2 1) fun h2=>
 un (cellOf a2 2) fun i2=>
 un (cellOf b2 0) fun j2=>
 un (cellOf b2 1) fun k2=>
 un (cellOf b2 2) fun l2=>
 ad pg Y1 V1 (dV 49 #[(I 12),(I 31),(I 32),j2,k2,l2,(I 0),(I 0),(I 0),g2,h2,i2,c2,d2,e2,(B false),(I 0),(I 0),(.slice none 0 0),(.slice none 0 0),U1,(.slice none 0 0),(.slice none 0 0),(.slice none 0 0),(I 0),(I 0),(.float .f64 0),(.float .f64 0),(I 0),(I 0),(I 0),(I 0),(I 0),(I 0),(.slice none 0 0),(.slice none 0 0)] #[(0,(I 12)),(1,(I 31)),(2,(I 32)),(8,Z1),(7,a2),(3,b2),(14,U1)]) fun m2=>
 eV pg R Y1 V1 true (gq 57 49 36 1 #[(0,m2)]) fun n2 o2 q2=>
 eV pg R q2 o2 true (fW 57 49 36 416 57 H1 n2) fun r2 s2 t2=>
 (aF (cd S1) (aF (cd G1) (un (aj (aa a2)) fun v2=>
 aF (ao (ab (aa a2))==3) (aF (av (ab (aa a2)) bu.one) (((ad pg t2 s2 (binOp .add 3 F1 (I 1)) fun y2=>
 pS D1 E1 y2 v2 r2 s2 t2))))))))))))))
 (V0 H1 L1 M1))))))))))))))
def yT (p0:Value):Prop:=
 (az pg X0 w0 (aM p0) fun a=>
 ad pg X0 w0 (aT 93 4 7 3 a) fun b=>
 ad pg X0 w0 (ew 34 3 b) fun c=>
 un (aj (aa c)) fun d=>
 aF (ao (ab (aa c))==3) (aF (av (ab (aa c)) bu.one) (un (b7 d 0 3) fun e=>
 aF (av [d] cd) (fin R X0 w0 e))))
def wg (p0:Value):Prop:=
 ((az pg X0 w0 (aM p0) fun a=>
 ad pg X0 w0 (aT 93 6 11 1 a) fun b=>
 ad pg X0 w0 (ld1 63 b) fun c=>
 ad pg X0 w0 (cB 63 3 c) fun d=>
 (il X0 w0 (I 0) (.slice none 0 0) 11 3 fun e g h i j k=>
 ad pg k j (binOp .lss 3 h d) fun l=>
 (au l
 ((ad pg k j (dt 63 7 c h) fun m=>
 ad pg k j (ew 69 7 m) fun n=>
 un (aj (aa n)) fun o=>
 aF (ao (ab (aa n))==7) (aF (av (ab (aa n)) bu.one) ((aF (cd o) (un (cellOf o 6) fun q=>
 eC pg R k j true 45 #[q] fun r s t=>
 un (aj (aR (cz (ab (aa o)) 6 [r]))) fun v=>
 aF (bu.one r) ((aF (cd v) (un (b7 v 0 7) fun y=>
 eV pg R t s true (gq 63 69 7 1 #[(0,y)]) fun z A C=>
 eV pg R C A true (fW 63 69 7 72 63 i z) fun D E F=>
 ((ad pg F E (binOp .add 3 h (I 1)) fun G=>
 im e g G D E F)))))))))))
 (fin R k j i)))))
def zA (p0:Value):Prop:=
 (az pg X0 w0 (aM p0) fun a=>
 ad pg X0 w0 (aT 93 2 5 1 a) fun b=>
 ad pg X0 w0 (ld1 80 b) fun c=>
 az pg X0 w0 (aM c) fun d=>
 ad pg X0 w0 (aT 128 0 0 1 d) fun e=>
 ad pg X0 w0 (ld1 125 e) fun g=>
 eC pg R X0 w0 true 51 #[g] fun h i j=>
 (fin R j i h))
noncomputable def I6:bz:=⟨16,[],[],[0,1,4,5,13],[],[]⟩
def zB (p0:Value) (p1:Int):Prop:=
 (az pg X0 w0 (aM p0) fun a=>
 ad pg X0 w0 (aT 93 3 6 1 a) fun b=>
 ad pg X0 w0 (ld1 90 b) fun c=>
 ad pg X0 w0 (ck 90 c (I p1) false) fun d=>
 (ad pg X0 w0 (aH .neq 111 (.tmp 12) (.const (.pointer none)) d (.pointer none)) fun e=>
 (au e
 (eC pg R X0 w0 true 48 #[d] fun g h i=>
 (fin R i h g))
 (fin R X0 w0 (I 0)))))
noncomputable def K5:bz:=⟨9,[(2,(pg.cellsOf 34)),(3,(pg.cellsOf 34))],[],[0,1,4],[],[]⟩
def Bf (aO aZ ba cm cu cq:Int):Prop:=
 (eC pg R X0 w0 true 52 #[(.agg #[(I aO),(I aZ),(I ba)]),(.agg #[(I cm),(I cu),(I cq)])] fun a b c=>
 ad pg c b (binOp .lss 3 a (I 0)) fun d=>
 (fin R c b d))
def yY (p0 p1:Value):Prop:=
 (ad pg X0 w0 (cB 63 3 p0) fun a=>
 ad pg X0 w0 (cB 63 3 p1) fun b=>
 ad pg X0 w0 (aH .neq 3 (.tmp 7) (.tmp 9) a b) fun c=>
 (au c
 (fin R X0 w0 (B false))
 (((gp X0 w0 (I 0) 5 fun d e g h i=>
 ad pg i h (cB 63 3 p0) fun j=>
 ad pg i h (binOp .lss 3 g j) fun k=>
 (au k
 ((ad pg i h (dt 63 7 p0 g) fun l=>
 ad pg i h (aT 69 0 0 3 l) fun m=>
 ad pg i h (ew 32 3 m) fun n=>
 ad pg i h (dt 63 7 p1 g) fun o=>
 ad pg i h (aT 69 0 0 3 o) fun q=>
 ad pg i h (ew 32 3 q) fun r=>
 ad pg i h (aH .neq 32 (.tmp 21) (.tmp 26) n r) fun s=>
 un (aP s false p0) fun t=>
 un (aP s false g) fun v=>
 aJ pg i h s false (vS (dt 63 7 t v)) fun y=>
 aJ pg i h s false (vS (aT 69 1 3 3 y)) fun z=>
 aJ pg i h s false (vS (ew 34 3 z)) fun A=>
 un (aP s false p1) fun C=>
 aJ pg i h s false (vS (dt 63 7 C v)) fun D=>
 aJ pg i h s false (vS (aT 69 1 3 3 D)) fun E=>
 aJ pg i h s false (vS (ew 34 3 E)) fun F=>
 aJ pg i h s false (vS (aH .neq 34 (.tmp 33) (.tmp 38) A F)) fun G=>
 az pg i h (aQ s (B true) G) fun H=>
 un (aP H false p0) fun L=>
 un (aP H false g) fun M=>
 aJ pg i h H false (vS (dt 63 7 L M)) fun N=>
 aJ pg i h H false (vS (aT 69 2 6 1 N)) fun O=>
 aJ pg i h H false (vS (ld1 37 O)) fun Q=>
 un (aP H false p1) fun S=>
 aJ pg i h H false (vS (dt 63 7 S M)) fun T=>
 aJ pg i h H false (vS (aT 69 2 6 1 T)) fun U=>
 aJ pg i h H false (vS (ld1 37 U)) fun V=>
 jn (fun (Y:Value) (Z:World) (a0:XS)=>
 aJ pg a0 Z H false (vS (aX bm Y)) fun b0=>
 az pg a0 Z (aQ H (B true) b0) fun c0=>
 (au c0
 (fin R a0 Z (B false))
 (((ad pg a0 Z (binOp .add 3 g (I 1)) fun d0=>
 gm d e d0 Z a0))))) fun e0=>
 (gE H false (eC pg R i h true 39 #[Q,V] e0) (e0 undef h i))))
 (fin R i h (B true))))))))
noncomputable def Dx:bz:=⟨14,[(4,(pg.cellsOf 34))],[],[0,1,5],[],[]⟩
def uZ (p0:Value) (p1:Int):Prop:=
 (az pg X0 w0 (aM p0) fun a=>
 ad pg X0 w0 (aT 93 2 5 1 a) fun b=>
 ad pg X0 w0 (ld1 80 b) fun c=>
 eC pg R X0 w0 true 53 #[c,(I p1)] fun d e g=>
 ad pg g e (aC d 0) fun h=>
 ad pg g e (aC d 1) fun i=>
 un (aj (aa h)) fun j=>
 aF (ao (ab (aa h))==3) (aF (av (ab (aa h)) bu.one) ((un (b7 j 0 3) fun k=>
 aF (av [j] cd) (fin R g e (aG #[k,i]))))))
def zK (p0:Value):Prop:=
 (az pg X0 w0 (aM p0) fun a=>
 ad pg X0 w0 (aT 93 9 16 1 a) fun b=>
 ad pg X0 w0 (ld1 4 b) fun c=>
 (au c
 (fin R X0 w0 (I 12))
 ((az pg X0 w0 (aM p0) fun d=>
 ad pg X0 w0 (aT 93 4 7 3 d) fun e=>
 ad pg X0 w0 (ew 34 3 e) fun g=>
 un (cellOf g 0) fun h=>
 un (cellOf g 1) fun i=>
 un (cellOf g 2) fun j=>
 ad pg X0 w0 (dV 85 #[h,i,j,(.slice none 0 0)] #[(0,g)]) fun k=>
 un (aj (aa k)) fun l=>
 aF (ao (ab (aa k))==4) (aF (av (ab (aa k)) bu.one) ((az pg X0 w0 (aM p0) fun m=>
 ad pg X0 w0 (aT 93 3 6 1 m) fun n=>
 ad pg X0 w0 (ld1 90 n) fun o=>
 eC pg R X0 w0 true 47 #[o] fun q r s=>
 eC pg R s r true 46 #[q] fun t v y=>
 ad pg y v (cB 38 3 t) fun z=>
 (uO y v (I 0) l undef undef 26 3 42 6 fun A C D E _ _ F G=>
 ad pg G F (binOp .lss 3 D z) fun H=>
 (au H
 ((ad pg G F (dt 38 1 t D) fun L=>
 ad pg G F (ld1 3 L) fun M=>
 (az pg G F (aM p0) fun N=>
 ad pg G F (aT 93 3 6 1 N) fun O=>
 ad pg G F (ld1 90 O) fun Q=>
 ad pg G F (ck 90 Q M false) fun S=>
 eC pg R G F true 54 #[S] fun T U V=>
 (az pg V U (aM p0) fun Y=>
 ad pg V U (aT 93 7 12 1 Y) fun Z=>
 ad pg V U (ld1 91 Z) fun a0=>
 ad pg V U (cB 91 3 a0) fun b0=>
 (il V U (I 0) T 42 6 fun c0 d0 e0 g0 h0 i0=>
 ad pg i0 h0 (binOp .lss 3 e0 b0) fun j0=>
 (au j0
 (((jn (fun (k0:Value)=>
 (ad pg i0 h0 (binOp .add 3 e0 (I 1)) fun l0=>
 im c0 d0 l0 k0 h0 i0)) fun m0=>
 ad pg i0 h0 (dt 91 5 a0 e0) fun n0=>
 ad pg i0 h0 (ew 102 5 n0) fun o0=>
 un (aj (aa o0)) fun q0=>
 aF (ao (ab (aa o0))==5) (aF (av (ab (aa o0)) bu.one) ((aF (cd q0) (un (cellOf q0 0) fun r0=>
 ad pg i0 h0 (aH .eql 3 (.tmp 47) (.tmp 48) r0 M) fun s0=>
 (au s0
 (aF (cd q0) (un (cellOf q0 1) fun t0=>
 ad pg i0 h0 (je #[3,3] 3 #[g0,t0]) fun v0=>
 (m0 v0)))
 (m0 g0)))))))))
 (((aF (cd E) (ad pg i0 h0 (dV 89 #[M,g0] #[(0,M),(1,g0)]) fun y0=>
 eV pg R i0 h0 true (gq 83 89 2 1 #[(0,y0)]) fun z0 A0 C0=>
 un (cellOf E 3) fun D0=>
 eV pg R C0 A0 true (fW 83 89 2 16 83 D0 z0) fun E0 F0 G0=>
 un (aj (aR (cz (ab (aa E)) 3 [E0]))) fun H0=>
 aF (bu.one E0) (((ad pg G0 F0 (binOp .add 3 D (I 1)) fun L0=>
 uP A C L0 H0 e0 g0 F0 G0)))))))))))))
 (((az pg G F (aM p0) fun M0=>
 ad pg G F (aT 93 0 0 1 M0) fun N0=>
 ad pg G F (ld1 24 N0) fun O0=>
 aF (cd E) (un (b7 E 0 4) fun Q0=>
 eC pg R G F true 55 #[O0,Q0] fun S0 T0 U0=>
 (((jn (fun (V0:World) (Y0:XS)=>
 (fin R Y0 V0 S0)) fun Z0=>
 ad pg U0 T0 (aH .eql 27 (.tmp 70) (.const (I 0)) S0 (I 0)) fun a1=>
 (au a1
 (aF (cd E) (az pg U0 T0 (aM p0) fun b1=>
 ad pg U0 T0 (aT 93 1 1 4 b1) fun c1=>
 eU pg R U0 T0 true (st1 85 4 c1 Q0) fun _ d1 e1=>
 (Z0 d1 e1)))
 (ad pg U0 T0 (aH .eql 27 (.tmp 70) (.const (I 12)) S0 (I 12)) fun g1=>
 (au g1
 (eC pg R U0 T0 true 56 #[p0] fun _ h1 i1=>
 (Z0 h1 i1))
 (Z0 T0 U0))))))))))))))))))))
def zO (p0:Value):Prop:=
 (az pg X0 w0 (aM p0) fun a=>
 ad pg X0 w0 (aT 79 4 4 1 a) fun b=>
 ad pg X0 w0 (ld1 4 b) fun c=>
 (fin R X0 w0 c))
noncomputable def SN:bz:=⟨23,[(3,(pg.cellsOf 34))],[],[0,1,4,5,6,13],[9,10,11],[]⟩
def GQ (p0 cm cu cq:Int):Prop:=
 (ad pg X0 w0 (binOp .lss 3 (I p0) (I 1)) fun a=>
 un (aP a false (I p0)) fun b=>
 aJ pg X0 w0 a false (vS (binOp .gtr 3 b (I 64))) fun c=>
 az pg X0 w0 (aQ a (B true) c) fun d=>
 (au d
 ((fin R X0 w0 (aG #[(.pointer none),(I 1)])))
 (eC pg R X0 w0 true 57 #[(.agg #[(I cm),(I cu),(I cq)])] fun e g h=>
 ad pg h g (aX bm e) fun i=>
 (au i
 ((fin R h g (aG #[(.pointer none),(I 17)])))
 ((((jn (fun (j:Value) (k:World) (l:XS)=>
 fin R l k (aG #[j,(I 0)])) fun m=>
 ((And
 (eC pg R h g false 58 #[] fun n o q=>
 (eV pg R q o false (gZ 126 none) fun r s t=>
 (ad pg t s (dV 128 #[n,(I p0),(I cm),(I cu),(I cq),r] #[(0,n),(1,(I p0)),(2,(.agg #[(I cm),(I cu),(I cq)])),(3,r)]) fun v=>
 (eV pg R t s true (cE 128 v) fun y z A=>
 (m y z A)))))
 (eV pg R h g false (gZ 126 none) fun C D E=>
 (eC pg R E D false 58 #[] fun F G H=>
 (ad pg H G (dV 128 #[F,(I p0),(I cm),(I cu),(I cq),C] #[(0,F),(1,(I p0)),(2,(.agg #[(I cm),(I cu),(I cq)])),(3,C)]) fun L=>
 (eV pg R H G true (cE 128 L) fun M N O=>
 (m M N O)))))))))))))))
def G3 (p0:Value):Prop:=
 (eC pg R X0 w0 true 59 #[p0,(.string { data:= #[109,97,114,107] })] fun a b c=>
 ad pg c b (aC a 0) fun d=>
 ad pg c b (aC a 1) fun e=>
 (ad pg c b (aH .neq 27 (.tmp 17) (.const (I 0)) e (I 0)) fun g=>
 (au g
 (ad pg c b (dV 85 #[(I 0),(I 0),(I 0),(.slice none 0 0)] #[]) fun h=>
 un (aj (aa h)) fun i=>
 aF (ao (ab (aa h))==4) (aF (av (ab (aa h)) bu.one) ((un (b7 i 0 4) fun j=>
 aF (av [i] cd) (fin R c b (aG #[j,(I 8)]))))))
 ((eC pg R c b true 60 #[d] fun k l m=>
 ad pg m l (aC k 0) fun n=>
 ad pg m l (aC k 1) fun o=>
 (ad pg m l (cB 135 3 n) fun q=>
 ad pg m l (aH .neq 3 (.tmp 26) (.const (I 1)) q (I 1)) fun r=>
 un (aP r false o) fun s=>
 un (aP r false d) fun t=>
 aJ pg m l r false (vS (cB 132 3 t)) fun v=>
 aJ pg m l r false (vS (aH .neq 3 (.tmp 29) (.tmp 31) s v)) fun y=>
 az pg m l (aQ r (B true) y) fun z=>
 (au z
 (ad pg m l (dV 85 #[(I 0),(I 0),(I 0),(.slice none 0 0)] #[]) fun A=>
 un (aj (aa A)) fun C=>
 aF (ao (ab (aa A))==4) (aF (av (ab (aa A)) bu.one) ((un (b7 C 0 4) fun D=>
 aF (av [C] cd) (fin R m l (aG #[D,(I 13)]))))))
 ((ad pg m l (dt 135 1 n (I 0)) fun E=>
 ad pg m l (ld1 132 E) fun F=>
 eC pg R m l true 61 #[F] fun G H L=>
 (eC pg R L H true 62 #[G] fun M N O=>
 eC pg R O N true 62 #[G] fun Q S T=>
 eC pg R T S true 62 #[G] fun U V Y=>
 ad pg Y V (dV 34 #[M,Q,U] #[(0,M),(1,Q),(2,U)]) fun Z=>
 un (cellOf Z 0) fun a0=>
 un (cellOf Z 1) fun b0=>
 un (cellOf Z 2) fun c0=>
 ad pg Y V (dV 85 #[a0,b0,c0,(.slice none 0 0)] #[(0,Z)]) fun d0=>
 un (aj (aa d0)) fun e0=>
 aF (ao (ab (aa d0))==4) (aF (av (ab (aa d0)) bu.one) ((eC pg R Y V true 63 #[G,(I 12)] fun g0 h0 i0=>
 (il i0 h0 (I 0) e0 49 9 fun j0 k0 l0 m0 n0 o0=>
 ad pg o0 n0 (binOp .lss 3 l0 g0) fun q0=>
 (au q0
 ((aF (cd m0) (un (cellOf m0 3) fun r0=>
 eC pg R o0 n0 false 62 #[G] fun s0 t0 v0=>
 eC pg R v0 t0 false 62 #[G] fun y0 z0 A0=>
 ad pg A0 z0 (dV 89 #[s0,y0] #[(0,s0),(1,y0)]) fun C0=>
 eV pg R A0 z0 false (gq 83 89 2 1 #[(0,C0)]) fun D0 E0 F0=>
 eV pg R F0 E0 true (fW 83 89 2 16 83 r0 D0) fun G0 H0 L0=>
 un (aj (aR (cz (ab (aa m0)) 3 [G0]))) fun M0=>
 aF (bu.one G0) (((ad pg L0 H0 (binOp .add 3 l0 (I 1)) fun N0=>
 im j0 k0 N0 M0 H0 L0))))))
 (((eC pg R o0 n0 true 64 #[G] fun O0 Q0 S0=>
 ad pg S0 Q0 (aC O0 0) fun T0=>
 ad pg S0 Q0 (aC O0 1) fun _=>
 (ad pg S0 Q0 (aH .neq 27 (.tmp 67) (.const (I 0)) T0 (I 0)) fun U0=>
 aF (cd m0) (un (b7 m0 0 4) fun V0=>
 un (aP U0 false V0) fun Y0=>
 jn (fun (Z0:Value) (a1:World) (b1:XS)=>
 aJ pg b1 a1 U0 false (vS (aX bm Z0)) fun c1=>
 az pg b1 a1 (aQ U0 (B true) c1) fun d1=>
 un (aP d1 false V0) fun e1=>
 un (aP d1 false n) fun g1=>
 aJ pg b1 a1 d1 false (vS (dt 135 1 g1 (I 0))) fun h1=>
 aJ pg b1 a1 d1 false (vS (ld1 132 h1)) fun i1=>
 jn (fun (j1:Value) (k1:World) (l1:XS)=>
 jn (fun (m1:Value) (n1:World) (o1:XS)=>
 aJ pg o1 n1 d1 false (vS (aX bm m1)) fun q1=>
 az pg o1 n1 (aQ d1 (B true) q1) fun r1=>
 (au r1
 (ad pg o1 n1 (dV 85 #[(I 0),(I 0),(I 0),(.slice none 0 0)] #[]) fun s1=>
 un (aj (aa s1)) fun t1=>
 aF (ao (ab (aa s1))==4) (aF (av (ab (aa s1)) bu.one) ((un (b7 t1 0 4) fun v1=>
 aF (av [t1] cd) (fin R o1 n1 (aG #[v1,(I 13)]))))))
 ((aF (cd m0) (un (aj (aa V0)) fun y1=>
 aF (ao (ab (aa V0))==4) (aF (av (ab (aa V0)) bu.one) ((un (b7 y1 0 4) fun z1=>
 aF (av [y1] cd) (fin R o1 n1 (aG #[z1,(I 0)])))))))))) fun A1=>
 (gE d1 false (eC pg R l1 k1 true 66 #[j1,i1] A1) (A1 undef k1 l1))) fun C1=>
 (gE d1 false (eC pg R b1 a1 false 67 #[e1] C1) (C1 undef a1 b1))) fun D1=>
 (gE U0 false (eC pg R S0 Q0 true 65 #[Y0] D1) (D1 undef Q0 S0))))))))))))))))))))))
noncomputable def I7:bz:=⟨26,[(7,(pg.cellsOf 34))],[],[0,1,2,3],[],[]⟩
def zy (p0:Value) (p1 p2 Xu Xv Xw:Int):Prop:=
 (az pg X0 w0 (aM p0) fun a=>
 ad pg X0 w0 (aT 93 3 6 1 a) fun b=>
 ad pg X0 w0 (ld1 90 b) fun c=>
 eC pg R X0 w0 false 44 #[(I p1),(I p2)] fun d e g=>
 ad pg g e (aC d 0) fun h=>
 ad pg g e (aC d 1) fun _=>
 eU pg R g e true (dE 90 c (I p1) h) fun _ i j=>
 (az pg j i (aM p0) fun k=>
 ad pg j i (aT 93 2 5 1 k) fun l=>
 ad pg j i (ld1 80 l) fun m=>
 eC pg R j i true 68 #[m,(I p1),(.agg #[(I Xu),(I Xv),(I Xw)])] fun _ n o=>
 fin R o n (aG #[])))
noncomputable def Gc:bz:=⟨72,[(2,(pg.cellsOf 49))],[7,11,18,25,34,43,55,66],[0,1,4,5,6,51],[47,48,49,50],[5,6]⟩
def xM (_p0_0 _p0_1 _p0_2 _p0_3 _p0_4 _p0_5 _p0_6 _p0_7 _p0_8 _p0_9 _p0_10 _p0_11 _p0_12 _p0_13 _p0_14:Int) (_p0_15:Bool) (_p0_16 _p0_17:Int) (cO cM cP cQ cR cX:Value) (cS cT:Int) (cU cV:Nat) (cW fI fJ fK fL fM:Int) (fN fO:Value) (p1:Int):Prop:=
 (eC pg R X0 w0 false 70 #[cO,(I p1)] fun a b c=>
 eC pg R c b true 71 #[cM,(I p1)] fun d e g=>
 eC pg R g e true 69 #[a,d,(I p1)] fun h i j=>
 (eC pg R j i true 72 #[cP,(I p1)] fun k l m=>
 eC pg R m l true 69 #[h,k,(I p1)] fun n o q=>
 (ad pg q o (cB 38 3 cQ) fun r=>
 ad pg q o (binOp .add 3 (I p1) (I 1)) fun s=>
 ad pg q o (je #[3,3] 3 #[r,s]) fun t=>
 eC pg R q o true 69 #[n,t,(I p1)] fun v y z=>
 (ad pg z y (cB 39 3 cR) fun A=>
 ad pg z y (binOp .add 3 (I p1) (I 1)) fun C=>
 ad pg z y (je #[3,3] 3 #[A,C]) fun D=>
 eC pg R z y true 69 #[v,D,(I p1)] fun E F G=>
 ((il G F (I 0) E 6 5 fun H L M N O Q=>
 ad pg Q O (cB 40 3 cX) fun S=>
 ad pg Q O (binOp .lss 3 M S) fun T=>
 un (aP T true N) fun U=>
 un (aP T true (I p1)) fun V=>
 aJ pg Q O T true (vS (binOp .leq 3 U V)) fun Y=>
 az pg Q O (aQ T Y (B false)) fun Z=>
 (au Z
 ((ad pg Q O (dt 40 29 cX M) fun a0=>
 ad pg Q O (ew 73 29 a0) fun b0=>
 eC pg R Q O true 73 #[b0,(I p1)] fun c0 d0 e0=>
 eC pg R e0 d0 true 69 #[N,c0,(I p1)] fun g0 h0 i0=>
 ((ad pg i0 h0 (binOp .add 3 M (I 1)) fun j0=>
 im H L j0 g0 h0 i0))))
 (((ad pg Q O (binOp .add 3 N (I 1)) fun k0=>
 eC pg R Q O true 74 #[(.agg #[(I cS),(I cT),(.float .f64 cU),(.float .f64 cV),(I cW),(I fI),(I fJ),(I fK),(I fL),(I fM),fN,fO]),(I p1)] fun l0 m0 n0=>
 eC pg R n0 m0 true 69 #[k0,l0,(I p1)] fun o0 q0 r0=>
 (fin R r0 q0 o0)))))))))))
noncomputable def Uv:bz:=⟨34,[(1,(pg.cellsOf 49)),(3,(pg.cellsOf 49))],[14,19],[0,2,4,10,13],[18,20,21,22,24,25,26,27,29,30,31,32],[]⟩
def Kd (aO aZ ba bA bN bQ bV b6 cI dg cn cj du da cY:Int) (cZ:Bool) (dc dh:Int) (cO cM cP cQ cR cX:Value) (cS cT:Int) (cU cV:Nat) (cW fI fJ fK fL fM:Int) (fN fO:Value):Prop:=
 (eC pg R X0 w0 true 75 #[(.agg #[(I aO),(I aZ),(I ba),(I bA),(I bN),(I bQ),(I bV),(I b6),(I cI),(I dg),(I cn),(I cj),(I du),(I da),(I cY),(B cZ),(I dc),(I dh),cO,cM,cP,cQ,cR,cX,(I cS),(I cT),(.float .f64 cU),(.float .f64 cV),(I cW),(I fI),(I fJ),(I fK),(I fL),(I fM),fN,fO])] fun a b c=>
 ad pg c b (aC a 0) fun d=>
 ad pg c b (aC a 1) fun e=>
 un (aj (aa d)) fun g=>
 aF (ao (ab (aa d))==36) (aF (av (ab (aa d)) bu.one) ((ad pg c b (aX bm e) fun h=>
 (au h
 (fin R c b (I 7))
 (eC pg R c b true 76 #[(I aZ)] fun i j k=>
 ad pg k j (aX bm i) fun l=>
 un (aP l false (I ba)) fun m=>
 jn (fun (n:Value) (o:World) (q:XS)=>
 aJ pg q o l false (vS (aX bm n)) fun r=>
 az pg q o (aQ l (B true) r) fun s=>
 aF (cd g) (un (b7 g 0 36) fun t=>
 un (aP s false t) fun v=>
 jn (fun (y:Value) (z:World) (A:XS)=>
 aJ pg A z s false (vS (aX bm y)) fun C=>
 az pg A z (aQ s (B true) C) fun D=>
 un (aP D false (.agg #[(I aO),(I aZ),(I ba),(I bA),(I bN),(I bQ),(I bV),(I b6),(I cI),(I dg),(I cn),(I cj),(I du),(I da),(I cY),(B cZ),(I dc),(I dh),cO,cM,cP,cQ,cR,cX,(I cS),(I cT),(.float .f64 cU),(.float .f64 cV),(I cW),(I fI),(I fJ),(I fK),(I fL),(I fM),fN,fO])) fun E=>
 jn (fun (F:Value) (G:World) (H:XS)=>
 aJ pg H G D false (vS (aX bm F)) fun L=>
 az pg H G (aQ D (B true) L) fun M=>
 (au M
 (fin R H G (I 4))
 (fin R H G (I 0)))) fun N=>
 (gE D false (eC pg R A z true 78 #[E] N) (N undef z A))) fun O=>
 (gE s false (eC pg R q o true 77 #[v] O) (O undef o q)))) fun Q=>
 (gE l false (eC pg R k j true 76 #[m] Q) (Q undef j k))))))))
noncomputable def Hl:bz:=⟨107,[(3,(pg.cellsOf 49)),(6,(pg.cellsOf 73)),(7,(pg.cellsOf 158)),(10,(pg.cellsOf 69))],[15,23,27,45,49,53,61,67,69,77,93],[0,1,4,8,26,28,29,30,31,43,44,52,86,87,88,89,95],[20,21,22,24,25,56,57,58,59,60,62,63,64],[30,88]⟩
def yS (p0:Value) (_p1_0 _p1_1 _p1_2 _p1_3 _p1_4 _p1_5 fi _p1_7 _p1_8 _p1_9 _p1_10 _p1_11 _p1_12 _p1_13 _p1_14:Int) (_p1_15:Bool) (qs _p1_17:Int) (_p1_18 _p1_19 _p1_20 _p1_21 _p1_22 pr:Value) (_p1_24 _p1_25:Int) (_p1_26 _p1_27:Nat) (_p1_28 _p1_29 _p1_30 _p1_31 _p1_32 _p1_33:Int) (_p1_34 _p1_35:Value):Prop:=
 (az pg X0 w0 (aM p0) fun a=>
 ad pg X0 w0 (aT 93 3 6 1 a) fun b=>
 ad pg X0 w0 (ld1 90 b) fun c=>
 ad pg X0 w0 (ck 90 c (I fi) false) fun d=>
 (ad pg X0 w0 (aH .eql 111 (.tmp 18) (.const (.pointer none)) d (.pointer none)) fun e=>
 un (aP e false d) fun g=>
 un (aP e false (I qs)) fun h=>
 jn (fun (i:Value) (j:World) (k:XS)=>
 aJ pg k j e false (vS (aH .neq 3 (.tmp 22) (.tmp 24) i h)) fun l=>
 az pg k j (aQ e (B true) l) fun m=>
 (au m
 (fin R k j (aG #[]))
 ((ad pg k j (cB 40 3 pr) fun n=>
 ((jn (fun (o:World) (q:XS)=>
 (az pg q o (aM p0) fun r=>
 ad pg q o (aT 93 2 5 1 r) fun s=>
 ad pg q o (ld1 80 s) fun t=>
 eC pg R q o false 82 #[d] fun v y z=>
 eC pg R z y true 81 #[t,(I fi),v] fun _ A C=>
 (az pg C A (aM p0) fun D=>
 ad pg C A (aT 93 2 5 1 D) fun E=>
 ad pg C A (ld1 80 E) fun F=>
 eC pg R C A true 83 #[F] fun G H L=>
 ad pg L H (cB 63 3 G) fun M=>
 (gp L H (I 0) 88 fun N O Q S T=>
 ad pg T S (binOp .lss 3 Q M) fun U=>
 (au U
 (((jn (fun (V:World) (Y:XS)=>
 (ad pg Y V (binOp .add 3 Q (I 1)) fun Z=>
 gm N O Z V Y)) fun a0=>
 ad pg T S (dt 63 7 G Q) fun b0=>
 ad pg T S (ew 69 7 b0) fun c0=>
 un (aj (aa c0)) fun d0=>
 aF (ao (ab (aa c0))==7) (aF (av (ab (aa c0)) bu.one) ((aF (cd d0) (un (b7 d0 3 3) fun e0=>
 eC pg R T S true 34 #[p0,e0] fun g0 h0 i0=>
 (au g0
 (az pg i0 h0 (aM p0) fun j0=>
 ad pg i0 h0 (aT 93 6 11 1 j0) fun k0=>
 ad pg i0 h0 (ld1 63 k0) fun l0=>
 aF (cd d0) (un (b7 d0 0 7) fun m0=>
 eV pg R i0 h0 false (gq 63 69 7 1 #[(0,m0)]) fun n0 o0 q0=>
 eV pg R q0 o0 true (fW 63 69 7 72 63 l0 n0) fun r0 s0 t0=>
 az pg t0 s0 (aM p0) fun v0=>
 ad pg t0 s0 (aT 93 6 11 1 v0) fun y0=>
 eU pg R t0 s0 true (st1 63 1 y0 r0) fun _ z0 A0=>
 (a0 z0 A0)))
 (a0 h0 i0)))))))))
 (fin R T S (aG #[]))))))) fun C0=>
 gp k j (I 0) 30 fun D0 E0 F0 G0 H0=>
 ad pg H0 G0 (binOp .lss 3 F0 n) fun L0=>
 (au L0
 ((ad pg H0 G0 (dt 40 29 pr F0) fun M0=>
 ad pg H0 G0 (ew 73 29 M0) fun N0=>
 un (aj (aa N0)) fun O0=>
 aF (ao (ab (aa N0))==29) (aF (av (ab (aa N0)) bu.one) (((jn (fun (Q0 S0:Value) (T0:World) (U0:XS)=>
 ad pg U0 T0 (aH .neq 27 (.tmp 42) (.const (I 0)) S0 (I 0)) fun V0=>
 (au V0
 (C0 T0 U0)
 (((jn (fun (Y0:World) (Z0:XS)=>
 ((ad pg Z0 Y0 (binOp .add 3 F0 (I 1)) fun a1=>
 gm D0 E0 a1 Y0 Z0))) fun b1=>
 aF (cd Q0) (un (cellOf Q0 0) fun c1=>
 ad pg U0 T0 (aH .eql 3 (.tmp 46) (.const (I 1)) c1 (I 1)) fun d1=>
 (au d1
 (aF (cd Q0) (un (b7 Q0 1 9) fun e1=>
 eC pg R U0 T0 true 80 #[p0,e1] fun _ g1 h1=>
 (b1 g1 h1)))
 (aF (cd Q0) (ad pg U0 T0 (aH .eql 3 (.tmp 54) (.const (I 2)) c1 (I 2)) fun i1=>
 un (aP i1 true p0) fun j1=>
 aJ pg U0 T0 i1 true (aM j1) fun k1=>
 aJ pg U0 T0 i1 true (vS (aT 93 3 6 1 k1)) fun l1=>
 aJ pg U0 T0 i1 true (vS (ld1 90 l1)) fun m1=>
 un (cellOf Q0 10) fun n1=>
 un (aP i1 true n1) fun o1=>
 aJ pg U0 T0 i1 true (vS (ck 90 m1 o1 false)) fun q1=>
 aJ pg U0 T0 i1 true (vS (aH .eql 111 (.tmp 63) (.const (.pointer none)) q1 (.pointer none))) fun r1=>
 az pg U0 T0 (aQ i1 r1 (B false)) fun s1=>
 (au s1
 (aF (cd Q0) (un (b7 Q0 11 3) fun t1=>
 eC pg R U0 T0 true 27 #[p0,n1,(I 1),t1] fun _ v1 y1=>
 (b1 v1 y1)))
 (b1 T0 U0))))))))))) fun z1=>
 ((aF (cd O0) ((And
 (eC pg R H0 G0 true 48 #[d] fun A1 C1 D1=>
 (And
 (un (b7 O0 0 29) fun E1=>
 eC pg R D1 C1 true 79 #[d,A1,E1] fun F1 G1 H1=>
 ((ad pg H1 G1 (aC F1 0) fun L1=>
 (ad pg H1 G1 (aC F1 1) fun M1=>
 ((un (aj (aa L1)) fun N1=>
 aF (ao (ab (aa L1))==14) (aF (av (ab (aa L1)) bu.one) (z1 N1 M1 G1 H1))))))))
 ((un (b7 O0 0 29) fun O1=>
 eC pg R D1 C1 true 79 #[d,A1,O1] fun Q1 S1 T1=>
 ((ad pg T1 S1 (aC Q1 0) fun U1=>
 (ad pg T1 S1 (aC Q1 1) fun V1=>
 (un (aj (aa U1)) fun Y1=>
 aF (ao (ab (aa U1))==14) (aF (av (ab (aa U1)) bu.one) (z1 Y1 V1 S1 T1))))))))))
 ((eC pg R H0 G0 true 48 #[d] fun Z1 a2 b2=>
 (un (b7 O0 0 29) fun c2=>
 eC pg R b2 a2 true 79 #[d,Z1,c2] fun d2 e2 g2=>
 ((ad pg g2 e2 (aC d2 0) fun h2=>
 (ad pg g2 e2 (aC d2 1) fun i2=>
 (un (aj (aa h2)) fun j2=>
 aF (ao (ab (aa h2))==14) (aF (av (ab (aa h2)) bu.one) (z1 j2 i2 e2 g2)))))))))))))))))))
 (C0 G0 H0)))))))) fun k2=>
 (gE e false (eC pg R X0 w0 false 48 #[g] k2) (k2 undef w0 X0))))
noncomputable def SO:bz:=⟨11,[(2,(pg.cellsOf 34)),(3,(pg.cellsOf 34)),(4,(pg.cellsOf 34))],[],[0,1,8],[],[]⟩
def Hm (aO aZ ba cm cu cq:Int):Prop:=
 (eC pg R X0 w0 true 84 #[(.agg #[(I aO),(I aZ),(I ba)]),(.agg #[(I cm),(I cu),(I cq)])] fun a b c=>
 ad pg c b (binOp .lss 3 a (I 0)) fun d=>
 (au d
 ((fin R c b (.agg #[(I cm),(I cu),(I cq)])))
 (((fin R c b (.agg #[(I aO),(I aZ),(I ba)]))))))
def jV (p0 p1:Value):Prop:=
 (eC pg R X0 w0 true 85 #[p0,p1] fun a b c=>
 (ad pg c b (aH .eql 3 (.tmp 11) (.const (I (-1))) a (I (-1))) fun d=>
 (au d
 (fin R c b p0)
 ((ad pg c b (binOp .add 3 a (I 1)) fun e=>
 (il c b e a 6 5 fun g h i j k l=>
 ad pg l k (cB 63 3 p0) fun m=>
 ad pg l k (binOp .lss 3 i m) fun n=>
 (au n
 (((jn (fun (o:Value) (q:World) (r:XS)=>
 (ad pg r q (binOp .add 3 i (I 1)) fun s=>
 im g h s o q r)) fun t=>
 ad pg l k (dt 63 7 p0 i) fun v=>
 ad pg l k (ew 69 7 v) fun y=>
 un (aj (aa y)) fun z=>
 aF (ao (ab (aa y))==7) (aF (av (ab (aa y)) bu.one) ((aF (cd z) (un (b7 z 0 7) fun A=>
 eF pg R l k true p1 #[A] fun C D E=>
 ad pg E D (aX bm C) fun F=>
 (au F
 (aF (cd z) (ad pg E D (dt 63 7 p0 j) fun G=>
 eU pg R E D true (st1 69 7 G A) fun _ H L=>
 (ad pg L H (binOp .add 3 j (I 1)) fun M=>
 (t M H L))))
 (t j D E)))))))))
 (((ad pg l k (cp 63 p0 (some j) none none) fun N=>
 eV pg R l k true (e6 #[63] 0 #[N]) fun _ O Q=>
 (ad pg Q O (cp 63 p0 none (some j) none) fun S=>
 (fin R Q O S))))))))))))
noncomputable def ED:bz:=⟨9,[(2,(pg.cellsOf 69))],[5],[0,1,3],[],[]⟩
def wc (_p0_0 _p0_1 _p0_2 bA bN bQ:Int) (_p0_6 c0:Value):Prop:=
 (ad pg X0 w0 (ld1 26 c0) fun a=>
 eC pg R X0 w0 true 34 #[a,(.agg #[(I bA),(I bN),(I bQ)])] fun b c d=>
 ad pg d c (aX bm b) fun e=>
 (fin R d c e))
noncomputable def K6:bz:=⟨12,[(3,(pg.cellsOf 34))],[],[0,1,4],[],[]⟩
def AW (p0:Value) (cm cu cq:Int):Prop:=
 (az pg X0 w0 (aM p0) fun a=>
 ad pg X0 w0 (aT 93 4 7 3 a) fun b=>
 ad pg X0 w0 (ew 34 3 b) fun c=>
 eC pg R X0 w0 true 84 #[(.agg #[(I cm),(I cu),(I cq)]),c] fun d e g=>
 ad pg g e (binOp .gtr 3 d (I 0)) fun h=>
 (fin R g e h))
def jW (p0 p1:Value):Prop:=
 (eC pg R X0 w0 true 86 #[p0,p1] fun a b c=>
 (ad pg c b (aH .eql 3 (.tmp 11) (.const (I (-1))) a (I (-1))) fun d=>
 (au d
 (fin R c b p0)
 ((ad pg c b (binOp .add 3 a (I 1)) fun e=>
 (il c b e a 6 5 fun g h i j k l=>
 ad pg l k (cB 91 3 p0) fun m=>
 ad pg l k (binOp .lss 3 i m) fun n=>
 (au n
 (((jn (fun (o:Value) (q:World) (r:XS)=>
 (ad pg r q (binOp .add 3 i (I 1)) fun s=>
 im g h s o q r)) fun t=>
 ad pg l k (dt 91 5 p0 i) fun v=>
 ad pg l k (ew 102 5 v) fun y=>
 un (aj (aa y)) fun z=>
 aF (ao (ab (aa y))==5) (aF (av (ab (aa y)) bu.one) ((aF (cd z) (un (b7 z 0 5) fun A=>
 eF pg R l k true p1 #[A] fun C D E=>
 ad pg E D (aX bm C) fun F=>
 (au F
 (aF (cd z) (ad pg E D (dt 91 5 p0 j) fun G=>
 eU pg R E D true (st1 102 5 G A) fun _ H L=>
 (ad pg L H (binOp .add 3 j (I 1)) fun M=>
 (t M H L))))
 (t j D E)))))))))
 (((ad pg l k (cp 91 p0 (some j) none none) fun N=>
 eV pg R l k true (e6 #[91] 0 #[N]) fun _ O Q=>
 (ad pg Q O (cp 91 p0 none (some j) none) fun S=>
 (fin R Q O S))))))))))))
noncomputable def EE:bz:=⟨9,[(2,(pg.cellsOf 102))],[5],[0,1,3],[],[]⟩
def we (_p0_0 _p0_1 ba bA bN:Int) (c0:Value):Prop:=
 (ad pg X0 w0 (ld1 26 c0) fun a=>
 eC pg R X0 w0 true 34 #[a,(.agg #[(I ba),(I bA),(I bN)])] fun b c d=>
 ad pg d c (aX bm b) fun e=>
 (fin R d c e))
def zP (p0 p1:Value):Prop:=
 (ad pg X0 w0 (cB 37 3 p0) fun a=>
 ad pg X0 w0 (cB 37 3 p1) fun b=>
 ad pg X0 w0 (aH .neq 3 (.tmp 7) (.tmp 9) a b) fun c=>
 (au c
 (fin R X0 w0 (B false))
 (((gp X0 w0 (I 0) 5 fun d e g h i=>
 ad pg i h (cB 37 3 p0) fun j=>
 ad pg i h (binOp .lss 3 g j) fun k=>
 (au k
 ((ad pg i h (dt 37 4 p0 g) fun l=>
 ad pg i h (aT 118 0 0 1 l) fun m=>
 ad pg i h (ld1 9 m) fun n=>
 ad pg i h (dt 37 4 p1 g) fun o=>
 ad pg i h (aT 118 0 0 1 o) fun q=>
 ad pg i h (ld1 9 q) fun r=>
 ad pg i h (aH .neq 9 (.tmp 21) (.tmp 26) n r) fun s=>
 un (aP s false p0) fun t=>
 un (aP s false g) fun v=>
 aJ pg i h s false (vS (dt 37 4 t v)) fun y=>
 aJ pg i h s false (vS (aT 118 1 1 3 y)) fun z=>
 aJ pg i h s false (vS (ew 116 3 z)) fun A=>
 un (aP s false p1) fun C=>
 aJ pg i h s false (vS (dt 37 4 C v)) fun D=>
 aJ pg i h s false (vS (aT 118 1 1 3 D)) fun E=>
 aJ pg i h s false (vS (ew 116 3 E)) fun F=>
 jn (fun (G:Value) (H:World) (L:XS)=>
 aJ pg L H s false (vS (aX bm G)) fun M=>
 az pg L H (aQ s (B true) M) fun N=>
 (au N
 (fin R L H (B false))
 (((ad pg L H (binOp .add 3 g (I 1)) fun O=>
 gm d e O H L))))) fun Q=>
 (gE s false (eC pg R i h true 88 #[A,F] Q) (Q undef h i))))
 (fin R i h (B true))))))))
noncomputable def Uw:bz:=⟨25,[],[],[0,1,4,5,19],[8,9,10,12,13,14,16,17,18],[]⟩
def Ke (p0 p1:Int):Prop:=
 (ad pg X0 w0 (binOp .lss 3 (I p0) (I 1)) fun a=>
 un (aP a false (I p0)) fun b=>
 aJ pg X0 w0 a false (vS (binOp .gtr 3 b (I 12))) fun c=>
 az pg X0 w0 (aQ a (B true) c) fun d=>
 un (aP d false (I p1)) fun e=>
 aJ pg X0 w0 d false (vS (binOp .lss 3 e (I 1))) fun g=>
 az pg X0 w0 (aQ d (B true) g) fun h=>
 un (aP h false (I p1)) fun i=>
 aJ pg X0 w0 h false (vS (binOp .gtr 3 i (I 100000000))) fun j=>
 az pg X0 w0 (aQ h (B true) j) fun k=>
 (au k
 ((fin R X0 w0 (aG #[(.pointer none),(I 1)])))
 ((eV pg R X0 w0 true (gZ 172 none) fun l m n=>
 ad pg n m (dV 174 #[(I p0),(I p1),(I 0),(I 0),(I 0),l] #[(0,(I p0)),(1,(I p1)),(3,l)]) fun o=>
 eV pg R n m true (cE 174 o) fun q r s=>
 (fin R s r (aG #[q,(I 0)]))))))
def lu (p0:Value):Prop:=
 (ad pg X0 w0 (aH .eql 37 (.tmp 3) (.const (.slice none 0 0)) p0 (.slice none 0 0)) fun a=>
 (au a
 (fin R X0 w0 (.slice none 0 0))
 (eV pg R X0 w0 true (gq 37 118 4 0 #[]) fun b c d=>
 eV pg R d c true (fW 37 118 4 48 37 b p0) fun e g h=>
 (fin R h g e))))
def jM (p0:Value):Prop:=
 eV pg R X0 w0 true (cE 90 p0) fun a b c=>
 (ad pg c b (ct (Fn.func 95) #[] #[a]) fun d=>
 (fin R c b d))
def zR (p0:Value):Prop:=
 (az pg X0 w0 (aM p0) fun a=>
 ad pg X0 w0 (aT 174 1 1 1 a) fun b=>
 ad pg X0 w0 (ld1 3 b) fun c=>
 (fin R X0 w0 c))
noncomputable def CH:bz:=⟨47,[(7,(pg.cellsOf 34)),(9,(pg.cellsOf 34))],[],[0,1,2,6,8],[26,27,28,29,30,31,32,33,34,35,36,37,38,39,41,42,43,44,45],[]⟩
def tQ (p0:Value) (p1 p2:Int):Prop:=
 (az pg X0 w0 (aM p0) fun a=>
 ad pg X0 w0 (aT 128 3 5 1 a) fun b=>
 ad pg X0 w0 (ld1 126 b) fun c=>
 ad pg X0 w0 (ck 126 c (I p1) true) fun d=>
 ad pg X0 w0 (aC d 0) fun e=>
 ad pg X0 w0 (aC d 1) fun g=>
 un (aj (aa e)) fun h=>
 aF (ao (ab (aa e))==3) (aF (av (ab (aa e)) bu.one) ((eC pg R X0 w0 true 96 #[p0] fun i j k=>
 ad pg k j (aC i 0) fun l=>
 ad pg k j (aC i 1) fun _=>
 un (aj (aa l)) fun m=>
 aF (ao (ab (aa l))==3) (aF (av (ab (aa l)) bu.one) ((un (aP g true (I p2)) fun n=>
 aJ pg k j g true (vS (Builtin.max_ #[3,3] 3 #[n,(I 0)])) fun o=>
 un (aP g true p0) fun q=>
 aJ pg k j g true (aM q) fun r=>
 aJ pg k j g true (vS (aT 128 1 1 1 r)) fun s=>
 aJ pg k j g true (vS (ld1 3 s)) fun t=>
 aJ pg k j g true (aM q) fun v=>
 aJ pg k j g true (vS (aT 128 0 0 1 v)) fun y=>
 aJ pg k j g true (vS (ld1 125 y)) fun z=>
 jn (fun (A:Value) (C:World) (D:XS)=>
 aJ pg D C g true (vS (binOp .sub 3 t A)) fun E=>
 aJ pg D C g true (vS (binOp .geq 3 o E)) fun F=>
 az pg D C (aQ g F (B false)) fun G=>
 aF (cd h) (un (b7 h 0 3) fun H=>
 un (aP G true H) fun L=>
 aF (cd m) (un (b7 m 0 3) fun M=>
 un (aP G true M) fun N=>
 jn (fun (O:Value) (Q:World) (S:XS)=>
 aJ pg S Q G true (vS (binOp .gtr 3 O (I 0))) fun T=>
 az pg S Q (aQ G T (B false)) fun U=>
 (fin R S Q U)) fun V=>
 (gE G true (eC pg R D C true 84 #[L,N] V) (V undef C D))))) fun Y=>
 (gE g true (eC pg R k j false 51 #[z] Y) (Y undef j k)))))))))
def Bt (p0:Value):Prop:=
 (az pg X0 w0 (aM p0) fun a=>
 ad pg X0 w0 (aT 179 0 0 1 a) fun b=>
 ad pg X0 w0 (ld1 177 b) fun c=>
 ad pg X0 w0 (cB 177 3 c) fun d=>
 (fin R X0 w0 d))
noncomputable def Gd:bz:=⟨26,[(2,(pg.cellsOf 34)),(3,(pg.cellsOf 34))],[6,8,13,15,20,22],[0,1,4,5,12,19],[],[]⟩
def xL (aO aZ ba cm cu cq:Int):Prop:=
 (eC pg R X0 w0 true 98 #[(I aO),(I cm)] fun a b c=>
 ((jn (fun (d:Value) (e:World) (g:XS)=>
 (jn (fun (h:Value) (i:World) (j:XS)=>
 (fin R j i h)) fun k=>
 ad pg g e (aH .eql 3 (.tmp 18) (.const (I 0)) d (I 0)) fun l=>
 (au l
 (eC pg R g e true 98 #[(I ba),(I cq)] fun m n o=>
 (k m n o))
 (k d e g)))) fun q=>
 ad pg c b (aH .eql 3 (.tmp 11) (.const (I 0)) a (I 0)) fun r=>
 (au r
 (eC pg R c b true 98 #[(I aZ),(I cu)] fun s t v=>
 (q s t v))
 (q a b c)))))
noncomputable def Bu:bz:=⟨19,[(4,(pg.cellsOf 34)),(6,(pg.cellsOf 34))],[],[0,1,5,7],[],[]⟩
def sd (p0:Value) (p1:Int):Prop:=
 (az pg X0 w0 (aM p0) fun a=>
 ad pg X0 w0 (aT 128 3 5 1 a) fun b=>
 ad pg X0 w0 (ld1 126 b) fun c=>
 ad pg X0 w0 (ck 126 c (I p1) true) fun d=>
 ad pg X0 w0 (aC d 0) fun e=>
 ad pg X0 w0 (aC d 1) fun g=>
 un (aj (aa e)) fun h=>
 aF (ao (ab (aa e))==3) (aF (av (ab (aa e)) bu.one) ((aF (cd h) (un (b7 h 0 3) fun i=>
 un (aj (aa i)) fun j=>
 aF (ao (ab (aa i))==3) (aF (av (ab (aa i)) bu.one) ((un (b7 j 0 3) fun k=>
 aF (av [j] cd) (fin R X0 w0 (aG #[k,g]))))))))))
def zS (p0:Value):Prop:=
 (az pg X0 w0 (aM p0) fun a=>
 ad pg X0 w0 (aT 174 1 1 1 a) fun b=>
 ad pg X0 w0 (ld1 3 b) fun c=>
 (az pg X0 w0 (aM p0) fun d=>
 ad pg X0 w0 (aT 174 3 5 1 d) fun e=>
 ad pg X0 w0 (ld1 172 e) fun g=>
 eV pg R X0 w0 true (Instr.range 172 g) fun h i j=>
 (gp j i c 3 fun k l m n o=>
 eV pg R o n true (Instr.next h false 0) fun q r s=>
 ad pg s r (aC q 0) fun t=>
 (au t
 ((eV pg R s r true (Instr.entry h) fun v y z=>
 ad pg z y (aC v 1) fun A=>
 un (aj (aa A)) fun C=>
 aF (ao (ab (aa A))==9) (aF (av (ab (aa A)) bu.one) ((aF (cd C) (un (cellOf C 8) fun D=>
 ad pg z y (je #[3,3] 3 #[m,D]) fun E=>
 (gm k l E y z)))))))
 (fin R s r m)))))
noncomputable def SP:bz:=⟨50,[(3,(pg.cellsOf 85))],[],[0,1,4,5,6,7,9,10,11,14,20,24,29,41,46],[],[]⟩
def G7 (p0:Value) (cm cu cq:Int) (eJ:Value):Prop:=
 (eC pg R X0 w0 true 24 #[p0] fun a b c=>
 (au a
 (fin R c b (I 12))
 (eC pg R c b true 65 #[(.agg #[(I cm),(I cu),(I cq),eJ])] fun d e g=>
 ad pg g e (aX bm d) fun h=>
 (au h
 (fin R g e (I 4))
 ((((jn (fun (i:World) (j:XS)=>
 eC pg R j i true 102 #[p0,(.string { data:= #[109,97,114,107,46,110,101,119] })] fun k l m=>
 (ad pg m l (aH .neq 27 (.tmp 28) (.const (I 0)) k (I 0)) fun n=>
 (au n
 (fin R m l k)
 ((eC pg R m l true 67 #[(.agg #[(I cm),(I cu),(I cq),eJ])] fun o q r=>
 eC pg R r q true 103 #[o] fun s t v=>
 ad pg v t (aC s 0) fun y=>
 ad pg v t (aC s 1) fun _=>
 (eC pg R v t true 104 #[p0,(.string { data:= #[109,97,114,107,46,110,101,119] }),y] fun z A C=>
 (ad pg C A (aH .neq 27 (.tmp 40) (.const (I 0)) z (I 0)) fun D=>
 (au D
 (fin R C A z)
 ((eC pg R C A true 105 #[p0,(.string { data:= #[109,97,114,107,46,110,101,119] })] fun E F G=>
 (ad pg G F (aH .neq 27 (.tmp 45) (.const (I 0)) E (I 0)) fun H=>
 (au H
 (fin R G F E)
 (eC pg R G F true 106 #[p0,(.string { data:= #[109,97,114,107,46,110,101,119] }),(.string { data:= #[109,97,114,107] })] fun L M N=>
 (fin R N M L)))))))))))))) fun O=>
 eC pg R g e true 100 #[p0] fun Q S T=>
 eC pg R T S true 99 #[Q,(.string { data:= #[109,97,114,107,46,110,101,119] })] fun U V Y=>
 (au U
 (eC pg R Y V true 101 #[p0,(.string { data:= #[109,97,114,107,46,110,101,119] })] fun Z a0 b0=>
 (ad pg b0 a0 (aH .neq 27 (.tmp 23) (.const (I 0)) Z (I 0)) fun c0=>
 (au c0
 (fin R b0 a0 Z)
 (O a0 b0))))
 (O V Y))))))))))
noncomputable def Xx:bz:=⟨31,[(1,(pg.cellsOf 34))],[3,7,12,17,22,27],[0,2],[6,8,9,11,13,14,16,18,19,21,23,24,26,28,29],[]⟩
def Mr (aO aZ ba:Int):Prop:=
 (ad pg X0 w0 (binOp .geq 3 (I aO) (I 0)) fun a=>
 un (aP a true (I aO)) fun b=>
 aJ pg X0 w0 a true (vS (binOp .leq 3 b (I 281474976710656))) fun c=>
 az pg X0 w0 (aQ a c (B false)) fun d=>
 un (aP d true (I aZ)) fun e=>
 aJ pg X0 w0 d true (vS (binOp .geq 3 e (I 0))) fun g=>
 az pg X0 w0 (aQ d g (B false)) fun h=>
 un (aP h true (I aZ)) fun i=>
 aJ pg X0 w0 h true (vS (binOp .leq 3 i (I 65535))) fun j=>
 az pg X0 w0 (aQ h j (B false)) fun k=>
 un (aP k true (I ba)) fun l=>
 aJ pg X0 w0 k true (vS (binOp .geq 3 l (I 0))) fun m=>
 az pg X0 w0 (aQ k m (B false)) fun n=>
 un (aP n true (I ba)) fun o=>
 aJ pg X0 w0 n true (vS (binOp .leq 3 o (I 63))) fun q=>
 az pg X0 w0 (aQ n q (B false)) fun r=>
 (fin R X0 w0 r))
def Kf:Prop:=
 (ad pg X0 w0 (dV 179 #[(.slice none 0 0)] #[]) fun a=>
 eV pg R X0 w0 true (cE 179 a) fun b c d=>
 (fin R d c b))
noncomputable def I8:bz:=⟨21,[],[],[0,1,4,5,6,14],[],[]⟩
def zG (p0:Value) (p1:ByteArray):Prop:=
 (az pg X0 w0 (aM p0) fun a=>
 ad pg X0 w0 (aT 79 0 0 1 a) fun b=>
 ad pg X0 w0 (ld1 77 b) fun c=>
 ad pg X0 w0 (ck 77 c (.string p1) false) fun d=>
 (ad pg X0 w0 (aH .eql 191 (.tmp 13) (.const (.pointer none)) d (.pointer none)) fun e=>
 (au e
 ((fin R X0 w0 (aG #[(.slice none 0 0),(I 8)])))
 ((eV pg R X0 w0 true (gq 132 5 1 0 #[]) fun g h i=>
 az pg i h (aM d) fun j=>
 ad pg i h (aT 193 0 0 1 j) fun k=>
 ad pg i h (ld1 132 k) fun l=>
 eV pg R i h true (fW 132 5 1 1 132 g l) fun m n o=>
 (fin R o n (aG #[m,(I 0)])))))))
noncomputable def Ux:bz:=⟨51,[(1,(pg.cellsOf 85)),(4,(pg.cellsOf 89))],[5,13,17,22,27,35,42,48],[0,2,3,6,7,8,9,46],[16,18,19,21,23,24,26,28,29,31,32,33,34,36,37,38,39,40,41,43,44,45],[8]⟩
def JO (aO aZ ba:Int) (bA:Value):Prop:=
 (ad pg X0 w0 (cB 83 3 bA) fun a=>
 (gp X0 w0 (I 0) 8 fun b c d e g=>
 ad pg g e (binOp .lss 3 d a) fun h=>
 (au h
 ((ad pg g e (dt 83 2 bA d) fun i=>
 ad pg g e (ew 89 2 i) fun j=>
 un (aj (aa j)) fun k=>
 aF (ao (ab (aa j))==2) (aF (av (ab (aa j)) bu.one) ((aF (cd k) (un (cellOf k 0) fun l=>
 ad pg g e (binOp .lss 3 l (I 1)) fun m=>
 un (aP m false l) fun n=>
 aJ pg g e m false (vS (binOp .gtr 3 n (I 12))) fun o=>
 az pg g e (aQ m (B true) o) fun q=>
 un (cellOf k 1) fun r=>
 un (aP q false r) fun s=>
 aJ pg g e q false (vS (binOp .lss 3 s (I 1))) fun t=>
 az pg g e (aQ q (B true) t) fun v=>
 un (aP v false r) fun y=>
 aJ pg g e v false (vS (binOp .gtr 3 y (I 100000000))) fun z=>
 az pg g e (aQ v (B true) z) fun A=>
 un (aP A false d) fun C=>
 aJ pg g e A false (vS (binOp .gtr 3 C (I 0))) fun D=>
 un (aP A false D) fun E=>
 un (aP E true bA) fun F=>
 un (aP E true d) fun G=>
 aJ pg g e E true (vS (binOp .sub 3 G (I 1))) fun H=>
 aJ pg g e E true (vS (dt 83 2 F H)) fun L=>
 aJ pg g e E true (vS (aT 89 0 0 1 L)) fun M=>
 aJ pg g e E true (vS (ld1 3 M)) fun N=>
 un (aP E true l) fun O=>
 aJ pg g e E true (vS (binOp .geq 3 N O)) fun Q=>
 aJ pg g e A false (aQ E Q (B false)) fun S=>
 az pg g e (aQ A (B true) S) fun T=>
 (au T
 (fin R g e (B false))
 (((ad pg g e (binOp .add 3 d (I 1)) fun U=>
 gm b c U e g))))))))))
 (((eC pg R g e true 57 #[(.agg #[(I aO),(I aZ),(I ba)])] fun V Y Z=>
 (fin R Z Y V)))))))
end
end Go.Proofs.YtfndblbeikocdaaGreat
