/-
 Part 4 of the proof: what the last text leans on.
-/
import Derived.Laws.Pointers
import Derived.Shelf.SlSortCmp.WholeK
import Derived.Shelf.SlSortCmp.NoneTotal
import Derived.Recover
import Derived.Laws.MakeOwn
import Derived.Laws.BytesArg
import Derived.Laws.Concat
import Derived.Lib.Overlaps
import Derived.Lib.AppendZerosOnto
import Derived.Laws.Externs
import Derived.Laws.Slices
import Derived.Laws.IdiomStrings
import Derived.KernelRfl
import Derived.Test.YtfndblbeikocdaaGreatW3
open List renaming length_append → ae, append_assoc → aC, length_drop → dR, size_toArray → jb, take_left → mD, flatten_cons → dU, getElem?_drop → mc, length_map → aA, eq_nil_of_length_eq_zero → cT, length_take → aX, flatten_append → gQ, getElem?_append_left → pO, getElem?_append_right → gW, ext_getElem? → vQ, getElem?_eq_none → ja, take_of_length_le → ba, getElem?_take → jT, mem_cons_of_mem → bK
open Go.Builtin renaming append_ → dQ, zeroCells → eL, lenOf → lj, firstCells → jU, nextslicecap → nV, copy_ → iv, clear_ → eY, cap_ → B7
open Option.some renaming injEq → az
open Go.Sem renaming run_bind → bR, run_pure → cS
open Go.Result renaming andThen_ok → bo
open Array renaming length_toList → dO, getElem?_append_left → kZ, getElem?_toList → nf, ext' → xD, size_append → qo, toList_append → oV, getElem?_eq_getElem → pP, getElem?_modify → sF
open Nat renaming le_refl → bP, le_trans → af, lt_of_lt_of_le → aN, mul_le_mul_right → e6, add_mul → px, zero_add → ed, succ_mul → u9, add_zero → ve
open Option renaming bind_some → cU, map_some → bL
open Go.Value renaming ownBlock → dY
open Prod.mk renaming injEq → dx
open Go.Addr renaming add_lit → nW
open Go.Instr renaming sliceAt → cy, alloc → xE, makeSlice → yh
open Go.Value.slice renaming injEq → mL
open Go.Sort renaming grow → eD
open Go.World renaming frozen? → ua
open Go.Obj.cells renaming injEq → yi
open Go.Extern.SlicesOverlaps renaming overlaps → ub
set_option linter.unusedVariables false
set_option linter.unusedSimpArgs false
namespace Go.bB
open Go.Sort Go.Shelf Go.RowKit Go.Proofs
variable {P : Program} {ρ : Ren} {α : Type}
def jc (W w':World):Prop:= ∃q os,w'=eD (W.drewN q) os
theorem jc.refl (W:World):jc W W:=⟨0,#[],by rw [grow_empty];rfl⟩
theorem jc.alloc {W w:World} (h:jc W w) (o:Obj):jc W (w.alloc o):=by
 obtain⟨q,os,rfl⟩:=h;exact⟨q,os.push o,by simp [World.alloc,eD]⟩
theorem jc.trans {W w w':World} (h:jc W w) (k:jc w w'):jc W w':=by
 obtain⟨q,os,rfl⟩:=h;obtain⟨q',H8,rfl⟩:=k;exact⟨q+q',os++H8,by simp [World.drewN,eD,Nat.add_assoc]⟩
theorem jc.row {W w':World} (h:jc W w') {g:Nat} {o:Obj} (hg:W.heap[g]? =some o):w'.heap[g]? =some o:=by
 obtain⟨q,os,rfl⟩:=h
 show(W.heap++os)[g]? =some o
 rw [kZ (Array.getElem?_eq_some_iff.1 hg).1,hg]
theorem flat_get [Inhabited α] {enc:α→List Value} {k:Nat} (hk: ∀x,(enc x).length=k) (h0:0<k): ∀(l:List α) (t:Nat),t<l.length*k→((l.map enc).flatten)[t]? =some ((enc l[t/k]!)[t % k]!)
 |[],t,h=>by simp at h
 |x::l,t,h=>by
  rw [List.map_cons,dU];by_cases ht:t<k
  ·rw [pO (by rw [hk];exact ht),Nat.div_eq_of_lt ht,Nat.mod_eq_of_lt ht];have:t<(enc x).length:=by rw [hk];exact ht
   simp [this]
  ·obtain⟨s,rfl⟩: ∃s,t=s+k:=⟨t-k,by omega⟩;rw [gW (by rw [hk];omega),hk,Nat.add_sub_cancel,Nat.add_div_right _ h0,Nat.add_mod_right];have hs:s<l.length*k:=by rw [List.length_cons,u9] at h;omega
   rw [flat_get hk h0 l s hs];simp
theorem Zq [Inhabited α] {enc:α→List Value} {k:Nat} (hk: ∀x,(enc x).length=k) (h0:0<k) (l:List α):(flatK enc k l.toArray).toList=(l.map enc).flatten:=by
 have hl:((l.map enc).flatten).length=l.length*k:=by
  rw [gZ (k:=k) (by intro r hr;obtain⟨x,_,rfl⟩:=List.mem_map.1 hr;exact hk x)];simp
 apply vQ;intro t;by_cases ht:t<l.length*k
 ·rw [flat_get hk h0 l t ht];have h1:t<(flatK enc k l.toArray).size:=by simpa using ht
  have h2:=get_flatK enc k l.toArray t (by simpa using ht);rw [getElem!_pos (flatK enc k l.toArray) t h1] at h2;rw [nf,pP h1,h2];simp
 ·rw [ja (by simp;omega),ja zQ]
theorem Rp (F cs:Array Value) (h:F.size≤cs.size):(putCells id 0 F cs).toList=F.toList++cs.toList.drop F.size:=by
 apply vQ;intro t;unfold putCells;rw [nf,Array.getElem?_mapIdx];by_cases ht:t<F.size
 ·rw [pO (by simpa using ht),pP zQ];simp [ht]
 ·rw [gW (by simpa using (by omega:F.size≤t)),mc];simp only [dO,nf];rw [show F.size+(t-F.size)=t by omega];cases cs[t]? with
  |none=>rfl
  |some x=>simp;intro h;omega
theorem abN [Inhabited α] (L:SlLaysF0.n6 P ρ) {k:Nat} (h0:0<k) {e:TypeId} (aE: ∀w,(isAgg (ρ.t 24)).run P w= .ok true w) (zE: ∀w,(Go.sizeOf (ρ.t 24)).run P w= .ok k w) {enc:α→List Value} (hk: ∀x,(enc x).length=k)
  (h1: ∀x,∀v∈enc x,v.oneCell'=true) {cf:α→α→Int} (hO:SWO (ltOf cf)) {g:Nat} (eg: ∀args w,(callFunc g args).run P w= .ok (.enter g args) w)
  (aiY: ∀x y W,Calls P g #[.agg (enc x).toArray,.agg (enc y).toArray] W fun e w'=>e= .returned (.int .i64 (cf x y))∧jc W w')
  {w:World} {X:XS} {lo:Nat} {v:Value} {xs:List α} (own:Own w X lo e k v (xs.map enc)) (hb:xs.length<2^61):
  Ct P (ρ.f 6) #[v,.func (.func g) #[] #[]] w X (dP v) fun r _ w'=>r= .tuple #[]∧ ∃ys:List α,ys.Perm xs∧ys.Pairwise (fun a b=>ltOf cf b a=false)∧Own w' (dP v) lo e k v (ys.map enc):=by
 intro w0 kM;have Fg:=own.mv kM.mv;have emp: ∀(p:Option Addr) (cap:Nat),v= .slice p 0 cap→xs=[]→Calls P (ρ.f 6) #[v,.func (.func g) #[] #[]] w0 (Bs (dP v) w0 fun r w'=>r= .tuple #[]∧ ∃ys:List α,ys.Perm xs∧ys.Pairwise (fun a b=>ltOf cf b a=false)∧Own w' (dP v) lo e k v (ys.map enc)):=by
  intro p cap hv hx;have ho:Own w0 (dP v) lo e k v (xs.map enc):=⟨Fg.1,Fg.2.1,fun _ hg=>hg⟩;subst hx;rw [hv] at ho⊢;exact(AnyF.slices_SortFunc_none L p cap (.func (.func g) #[] #[]) w0).mono fun e w' ⟨he,hw⟩=>⟨_,he,by subst hw;exact⟨rfl,rfl,rfl,bP _,fun _ _ _=>rfl⟩,rfl,[],List.Perm.refl _,List.Pairwise.nil,by subst hw;exact ho⟩
 rcases Fg.row with⟨hv,he⟩|⟨b,cap,cs,hv,ez,bH,jk,iK,o9,gN⟩
 ·exact emp none 0 hv (by simpa using he)
 ·rw [aA] at hv jk gN;by_cases hx:xs=[]
  ·exact emp _ cap (by rw [hv,hx];rfl) hx
  have hH:HoldsK enc k w0 b 0 xs.toArray:=by
   intro j hj;have hj':j<xs.length*k:=by simpa using hj
   have cI:j<cs.length:=by
    rw [o9];exact aN hj' (e6 _ jk)
   have hf:=flat_get hk h0 xs j hj';rw [←gN,List.getElem?_take_of_lt hj'] at hf;refine⟨?_,?_⟩
   ·unfold World.cell?;rw [bH.2];simp only [ed,Option.isSome_none,Bool.false_eq_true,if_false,id];rw [get_flatK enc k _ _ (by simpa using hj')];simpa using hf
   ·unfold ua;rw [bH.2];simp
  have hc:=AnyQ.slices_SortFunc L k aE zE enc hk h1 cf hO g #[] b 0 cap xs.toArray w0 eg (fun m os dk _ x y=>(aiY x y _).mono fun _ _ ⟨he,q,H8,hw⟩=>⟨he,q,H8,hw⟩) hH bH.lt (by simp;omega);rw [show xs.toArray.size=xs.length by simp] at hc;rw [hv];refine hc.mono ?_;rintro _ w' ⟨rfl,d',n,os,hp,hs,rfl⟩;obtain⟨Lg,_,Xc⟩:=hp;have Lg:d'.size=xs.length:=by simpa using Lg
  have hblk: ∀q,q<w0.heap.size→ ¬dP (.slice (some ⟨b,0,none⟩) xs.length cap) q→q≠b:=fun q _ hq e=>hq (by rw [e];rfl);have PS:=bH.lt;have Zr:(sortWorldK enc k w0 b 0 n d' os).heap=(w0.heap.modify b (onCells (putCells id 0 (flatK enc k d'))))++os:=rfl;have hF:(flatK enc k d').toList=(d'.toList.map enc).flatten:=by
   have:=Zq hk h0 d'.toList;simpa using this
  have hFs:(flatK enc k d').size=xs.length*k:=by rw [size_flatK,Lg]
  refine⟨_,rfl,⟨rfl,rfl,rfl,?_,?_⟩,rfl,d'.toList,?_,?_,?_⟩
  ·rw [Zr];simp
  ·intro q hq hn;have cn:=hblk q hq hn;rw [Zr,kZ (by simpa using hq),sF,if_neg (Ne.symm cn)]
  ·have h3:(d'.extract 0 xs.length)=d':=by rw [←Lg];simp
   have h4:(xs.toArray.extract 0 xs.length)=xs.toArray:=by simp
   rw [h3,h4] at Xc;simpa using Xc
  ·rw [List.pairwise_iff_getElem];intro i j hi hj y8;have:=hs i j (Nat.zero_le _) y8 (by rw [←Lg];simpa using hj);rw [getElem!_pos d' j (by simpa using hj),getElem!_pos d' i (by simpa using hi)] at this;simpa using this
  ·have nK:(sortWorldK enc k w0 b 0 n d' os).heap[b]? =some (.cells (putCells id 0 (flatK enc k d') cs.toArray) e (0,0)):=by
    rw [Zr,kZ (by simpa using PS),sF,if_pos rfl,bH.2];rfl
   have hle:xs.length*k≤cs.length:=by rw [o9];exact e6 _ jk
   have Cy:=Rp (flatK enc k d') cs.toArray (by rw [hFs];simpa using hle);have RX:bN (sortWorldK enc k w0 b 0 n d' os) (dP (.slice (some ⟨b,0,none⟩) xs.length cap)) b (putCells id 0 (flatK enc k d') cs.toArray).toList e:=⟨rfl,by rw [nK]⟩;refine Own.wC RX ez (by intro r hr;obtain⟨x,_,rfl⟩:=List.mem_map.1 hr;exact hk x) (by simpa using Lg) jk iK ?_ ?_
   ·rw [Cy,ae,dR,dO,hFs];simp;omega
   ·rw [Cy,List.take_append_of_le_length (by simp [Lg]),ba (by simp [Lg]),hF]
end Go.bB
namespace Go.bB
variable {P : Program} {R : Ending → World → Prop} {X : XS} {w : World} {m : Bool}
section
variable {t ty e k bytes lo : Nat} {v x s : Value} {rows dw : List (List Value)} {row : List Value} {N : Value → World → XS → Prop}
theorem adw (own:Own w X lo e k v rows) (hX: ∀k,X k→k<w.heap.size) (ez:lo≤w.heap.size) (he:mW P t e k bytes=true) (hx:x.cells.toList=row) (hk:(row.length==k)=true)
  (h1:row.all one=true) (hb:(rows.length+1)*bytes≤140737488355328) (hl:rows.length+1≤2^63-1)
  (n: ∀v' w' X',eo (dP v) X w X' w'→Own w' X' lo e k v' (rows++[row])→(v'.ownBlock=v.ownBlock∨ ∃g,v'.ownBlock=some g∧w.heap.size≤g)→N v' w' X'):
  eV P R X w m (gG t e k 1 #[(0,x)]) fun s w1 X1=>eV P R X1 w1 true (ga t e k bytes ty v s) N:=by
 obtain⟨hu,oP,uj,z,hi,hz,pq⟩:=kY he;have ah:row.length=k:=by simpa using hk
 have wD:x.cells.size=k:=by rw [←ah,←hx,dO]
 refine FC (rows:=[row]) x.cells z hX hu hz zQ zQ ?_ (by simpa using ah) rfl (by simpa using hx) fun s w1 X1 ao hso=>?_
 ·simp only [Nat.one_mul];exact Mc wD (by simp)
 ·have Oo:lo≤w1.heap.size:=af ez ao.kp.size;refine zD (dw:=[row]) z hu hi pq oP ao.has Oo (own.since ao) hso.sl (by simpa using h1) (by simpa using hb) (by simpa using hl) fun v2 w2 X2 hg ho fH=>?_;refine n v2 w2 X2 ((eo.qW ao (dP v)).trans (hg.dK.mono fun k _ hk=>hk.symm)) ho ?_;rcases fH with h|⟨g,h,dV⟩
  ·exact .inl h
  ·exact .inr ⟨g,h,af ao.kp.size dV⟩
theorem rG (own:Own w X lo e k v rows) (hX: ∀k,X k→k<w.heap.size) (ez:lo≤w.heap.size) (he:mW P t e k bytes=true) (src:Sl w X k s dw) (h1: ∀r∈dw,∀u∈r,one u=true)
  (hb:(rows.length+dw.length)*bytes≤140737488355328) (hl:rows.length+dw.length≤2^63-1)
  (n: ∀v' w' X',eo (dP v) X w X' w'→Own w' X' lo e k v' (rows++dw)→(v'.ownBlock=v.ownBlock∨ ∃g,v'.ownBlock=some g∧w.heap.size≤g)→N v' w' X'):
  eV P R X w true (ga t e k bytes ty v s) N:=by
 obtain⟨hu,oP,uj,z,hi,hz,pq⟩:=kY he;refine zD (dw:=dw) z hu hi pq oP hX ez own src h1 hb hl fun v2 w2 X2 hg ho fH=>?_;exact n v2 w2 X2 (hg.dK.mono fun k _ hk=>hk.symm) ho fH
end
def tK (s:ByteArray):List Value:=s.data.toList.map fun b=>.int .u8 b.toNat
theorem Jw (s:ByteArray):(tK s).length=s.size:=by unfold tK;rw [aA,dO];rfl
theorem IB (s:ByteArray):(jU 1 s.size (.string s))=(pure (tK s).toArray:Sem (Array Value)):=by
 have hx:(s.extract 0 s.size)=s:=by
  apply ByteArray.ext;simp [ByteArray.data_extract]
 show(pure ((s.extract 0 s.size).data.map fun b=>Value.int .u8 b.toNat):Sem (Array Value))=_
 rw [hx]
 congr 1
 apply xD;simp [tK]
theorem G4 (t u ty e:TypeId) (i:TypeInfo) (ht:P.underlying t=some (.slice e)) (hu:P.underlying u=some .string) (hi:P.info? e=some i) (h1:i.size=1)
  (g gK mQ:Nat) (cur:Array Value) (hg:w.heap[g]? =some (.cells cur e (0,0))) (s:ByteArray) (kS:gK+s.size≤mQ) (rQ:gK+s.size≤cur.size):
  (dQ #[t,u] ty #[.slice (some ⟨g,0,none⟩) gK mQ,.string s]).run P w=
   .ok (.slice (some ⟨g,0,none⟩) (gK+s.size) mQ) (w.setRow g (cur.toList.take gK++tK s++cur.toList.drop (gK+s.size)).toArray):=by
 have fZ:=run_storeCells_at P g gK e (tK s) 0 cur w hg (by rw [Jw];simpa using rQ) (fun v hv=>by
  unfold tK at hv;obtain⟨b,_,rfl⟩:=List.mem_map.1 hv;rfl)
 simp only [ve,Jw] at fZ;simp [dQ,run_underlying ht,run_underlying hu,sizeOf,typeInfo,hi,lj,kS,h1,IB,nW,fZ]
theorem G5 (t u ty e:TypeId) (i:TypeInfo) (z:Value) (ht:P.underlying t=some (.slice e)) (hu:P.underlying u=some .string) (hi:P.info? e=some i) (hz:i.zero=some z) (h1:i.size=1)
  (b:Addr) (gK mQ:Nat) (Zs:List Value) (ez:Zs.length=gK) (holds: ∀j v,Zs[j]? =some v→w.cell? (b.add j)=some v) (s:ByteArray)
  (hg:mQ<gK+s.size) (h63:((gK+s.size:Nat):Int)≤9223372036854775807) (rQ:nV (gK+s.size) mQ*i.bytes≤281474976710656):
  (dQ #[t,u] ty #[.slice (some b) gK mQ,.string s]).run P w=
   .ok (.slice (some ⟨w.heap.size,0,none⟩) (gK+s.size) (grownCap w (gK+s.size) mQ e))
    (w.drew.alloc (.cells (Zs.toArray++(tK s).toArray++eL z.cells (grownCap w (gK+s.size) mQ e-(gK+s.size))) e)):=by
 have hn: ¬(gK+s.size≤mQ):=by omega
 have aiZ: ¬(9223372036854775807<((gK:Int)+(s.size:Int))):=by omega
 have ai0: ¬(281474976710656<nV (gK+s.size) mQ*i.bytes):=by omega
 have hfo:=run_firstCells_some (P:=P) w.drew 1 gK b gK mQ Zs zQ (by simpa using holds);simp [dQ,run_underlying ht,run_underlying hu,sizeOf,typeInfo,zeroValue,hi,hz,lj,hn,aiZ,ai0,Question.forced,IB,h1,hfo,newRow,grownCap]
 congr 2
 apply xD;simp [aC]
theorem IC (base:Nat) (t u ty e:TypeId) (i:TypeInfo) (z:Value) (bytes:Nat) (ht:P.underlying t=some (.slice e)) (hu:P.underlying u=some .string) (hi:P.info? e=some i) (hz:i.zero=some z)
  (h1:i.size=1) (hby:i.bytes=bytes) (pq:z.cells.size=1) (v:Value) (n:Nat) (xs:List Value) (lN:w.ownsRow base e 1 v n xs) (s:ByteArray)
  (h63:n+s.size≤maxLen) (aa4:(n+s.size)*bytes≤140737488355328) (ahq:base≤w.heap.size):
  ∃v' w',(dQ #[t,u] ty #[v,.string s]).run P w= .ok v' w'∧w'.ownsRow base e 1 v' (n+s.size) (xs++tK s)∧w.grownBy w' v.ownBlock∧(v'.ownBlock=v.ownBlock∨v'.ownBlock=some w.heap.size):=by
 subst hby;have NP:n+s.size≤9223372036854775807:=by simp only [maxLen] at h63;omega
 have hl:=Jw s;have Tq:xs.length=n:=by simpa using lN.1
 have hlen:(xs++tK s).length=(n+s.size)*1:=by rw [ae,Tq,hl];omega
 have grown: ∀(aR:Nat),aR<n+s.size→ ∀(row:Option Nat),
   (w.drew.alloc (.cells (xs.toArray++(tK s).toArray++eL z.cells (grownCap w (n+s.size) aR e-(n+s.size))) e)).ownsRow base e 1
    (.slice (some ⟨w.heap.size,0,none⟩) (n+s.size) (grownCap w (n+s.size) aR e)) (n+s.size) (xs++tK s)∧
   w.grownBy (w.drew.alloc (.cells (xs.toArray++(tK s).toArray++eL z.cells (grownCap w (n+s.size) aR e-(n+s.size))) e)) row:=by
  intro aR ho row;have dV:=grownCap_ge w (n+s.size) aR e;have iK:grownCap w (n+s.size) aR e≤maxLen:=grownCap_le_maxLen w (n+s.size) aR e h63;refine⟨⟨hlen,.inr ⟨w.heap.size,_,_,rfl,ahq,heap_alloc_new w.drew _,dV,iK,?_,?_⟩⟩,⟨rfl,rfl,rfl,by simp,fun k hk _=>by first|exact heap_alloc_old w.drew _ k hk|exact heap_alloc_old w.drew _ hk⟩⟩
  ·simp only [qo,jb,size_zeroCells,pq,Tq,hl];omega
  ·simp only [oV,aC];rw [←aC,←hlen];exact mD
 rcases lN.2 with⟨rfl,rfl⟩|⟨g,cap,cur,rfl,hbg,hg,jk,iK,mg,sf⟩
 ·have hx:xs=[]:=cT Tq;subst hx;by_cases hm:s.size=0
  ·have hn:tK s=[]:=cT (by rw [hl,hm]);refine⟨.slice none 0 0,w,?_,by rw [hm,hn];exact World.ownsRow_nil w base e 1,⟨rfl,rfl,rfl,bP _,fun _ _ _=>rfl⟩,Or.inl rfl⟩;have hf:=IB s;rw [hm,hn] at hf;simp [dQ,run_underlying ht,run_underlying hu,sizeOf,typeInfo,hi,lj,hm,h1,hf]
  ·have hr:=run_append_nil_string (P:=P) w t u ty e i z ht hu hi hz s zQ zQ (by have hb:=aa4;simp only [ed] at hb;omega);have K4:=grown 0 zQ (dY (.slice none 0 0));have he:(s.data.map fun b:UInt8=>Value.int .u8 b.toNat)=(tK s).toArray:=by
    apply xD;simp [tK]
   rw [he] at hr;simp only [ed,List.nil_append,Array.empty_append] at K4⊢;exact⟨_,_,hr,K4.1,K4.2,Or.inr rfl⟩
 ·rw [Nat.mul_one] at mg sf;by_cases kS:n+s.size≤cap
  ·have rQ:n+s.size≤cur.size:=by rw [mg];exact kS
   have hr:=G4 (P:=P) (w:=w) t u ty e i ht hu hi h1 g n cap cur hg s kS rQ;refine⟨_,_,hr,⟨hlen,.inr ⟨g,cap,_,rfl,hbg,setRow_heap w g cur _ e _ hg,kS,iK,?_,?_⟩⟩,⟨rfl,rfl,rfl,by simp,fun k _ hk=>setRow_other w g k _ (fun e=>hk (by simp [dY,e]))⟩,Or.inl rfl⟩
   ·simp only [jb,ae,aX,dR,dO,hl];omega
   ·rw [sf,←hlen];exact mD
  ·have holds: ∀j u,xs[j]? =some u→w.cell? ((⟨g,0,none⟩:Addr).add j)=some u:=lN.cells (g:=g) rfl;have hr:=G5 (P:=P) (w:=w) t u ty e i z ht hu hi hz h1 ⟨g,0,none⟩ n cap xs Tq holds s zQ zQ (growslice_fits zQ aa4);have K4:=grown cap zQ (dY (.slice (some ⟨g,0,none⟩) n cap));exact⟨_,_,hr,K4.1,K4.2,Or.inr rfl⟩
theorem aeM {t u ty e bytes lo:Nat} {v:Value} {s:ByteArray} {rows:List (List Value)} {N:Value→World→XS→Prop} (own:Own w X lo e 1 v rows) (hX: ∀k,X k→k<w.heap.size) (ez:lo≤w.heap.size)
  (he:mW P t e 1 bytes=true) (hu:P.underlying u=some .string) (hb:(rows.length+s.size)*bytes≤140737488355328) (hl:rows.length+s.size≤2^63-1)
  (n: ∀v' w' X',eo (dP v) X w X' w'→Own w' X' lo e 1 v' (rows++(tK s).map fun x=>[x])→(v'.ownBlock=v.ownBlock∨ ∃g,v'.ownBlock=some g∧w.heap.size≤g)→N v' w' X'):
  eV P R X w true (dQ #[t,u] ty #[v,.string s]) N:=by
 obtain⟨ht,oP,uj,z,hi,hz,pq⟩:=kY he;intro wa hk;have own:=own.kp hk;cases hq:P.info? e with
 |none=>simp [hq] at hi
 |some ie=>
  cases lU:ie.zero with
  |none=>simp [hq,lU] at hi
  |some z'=>
   simp only [hq,lU,cU,bL,az,dx] at hi;obtain⟨h1,rfl,rfl⟩:=hi;unfold jy;obtain⟨v',w',hr,Aq,hg,fH⟩:=IC (P:=P) (w:=wa) lo t u ty e ie z' ie.bytes ht hu hq lU h1 rfl pq v rows.length rows.flatten own.2.1 s hl hb (af ez hk.size);simp only [vS,bR,hr,bo,cS];have fF:((tK s).map fun x=>[x]).flatten=tK s:=by
    induction tK s with
    |nil=>rfl
    |cons a l ih=>simp [ih]
   refine⟨⟨hg.os,hg.tape,hg.output,hg.size,fun k KC nJ=>hg.block k KC fun e=>nJ (own.2.2 k e.symm)⟩,n _ _ _ ?_ ⟨?_,?_,?_⟩ ?_⟩
   ·exact⟨hg.os.trans hk.os,hg.tape.trans hk.tape,hg.output.trans hk.output,af hk.size hg.size,
     fun k hx cn=>(hg.block k (aN (hX k hx) hk.size) fun e=>cn e.symm).trans (hk.block k hx),fun k h=>.inl h,
     fun k h=>h.elim (fun h=>aN (hX k h) (af hk.size hg.size)) (fun h=>h.2)⟩
   ·intro r hr;rcases List.mem_append.1 hr with h|h
    ·exact own.1 r h
    ·obtain⟨x,_,rfl⟩:=List.mem_map.1 h;rfl
   ·rw [ae,aA,Jw,gQ,fF];exact Aq
   ·intro g Gu;rcases fH with h|h
    ·exact .inl (own.2.2 g (h▸Gu))
    ·rw [Gu] at h;cases h;exact .inr ⟨bP _,(Aq.lt _ Gu).2⟩
   ·rcases fH with h|h
    ·exact .inl h
    ·exact .inr ⟨_,h,hk.size⟩
theorem Bw {f:FuncId} {a b:Value} {N:Value→World→XS→Prop} (h:eC P R X w m f #[a,b] N):eF P R X w m (.func (.func f) #[a] #[]) #[b] N:=by
 have e: ∀wa,(EG (.func (.func f) #[a] #[]) #[b]).run P wa=(callFunc f #[a,b]).run P wa:=by
  intro wa;simp [EG,Deferred.ofValue,invoke]
 intro wa hk;have:=h wa hk;rw [e wa];exact this
end Go.bB
set_option linter.unusedVariables false
set_option linter.unusedSimpArgs false
namespace Go.bB
variable {P : Program} {R : Ending → World → Prop} {X : XS} {w : World} {m : Bool}
def Ow (w:World) (X:XS) (e k:Nat) (v:Value) (rows:List (List Value)):Prop:=
 (∀r∈rows,r.length=k)∧((v= .slice none 0 0∧rows=[])∨ ∃g off cap cur,v= .slice (some ⟨g,off,none⟩) rows.length cap∧X g∧w.heap[g]? =some (.cells cur e (0,0))∧
  rows.length≤cap∧cap≤maxLen∧off+cap*k≤cur.size∧(cur.toList.drop off).take (rows.length*k)=rows.flatten)
theorem Ow.nil (w:World) (X:XS) (e k:Nat):Ow w X e k (.slice none 0 0) []:=⟨by simp,.inl ⟨rfl,rfl⟩⟩
theorem Own.ow {lo e k:Nat} {v:Value} {rows:List (List Value)} (h:Own w X lo e k v rows):Ow w X e k v rows:=by
 obtain⟨h1,h2,h3⟩:=h;refine⟨h1,?_⟩;rcases h2.2 with⟨rfl,hn⟩|⟨g,cap,cur,rfl,hb,hg,jk,iK,mg,ht⟩
 ·exact .inl ⟨rfl,cT hn⟩
 ·exact .inr ⟨g,0,cap,cur,rfl,h3 g rfl,hg,jk,iK,by omega,by rw [List.drop_zero];exact ht⟩
theorem Ow.sl {e k:Nat} {v:Value} {rows:List (List Value)} (h:Ow w X e k v rows):Sl w X k v rows:=by
 obtain⟨h1,⟨rfl,rfl⟩|⟨g,off,cap,cur,rfl,hx,hg,jk,iK,mg,ht⟩⟩:=h
 ·exact Sl.nil w X k
 ·have hm:cap≤2^63-1:=iK;refine⟨h1,af jk hm,_,cap,rfl,fun _=>⟨g,off,rfl,hx,cur,e,(0,0),hg,fun j v hj=>?_⟩,by simp,jk,hm⟩;rw [←ht,jT,mc] at hj;split at hj
  ·simpa using hj
  ·cases hj
theorem Ow.one {e k:Nat} {v:Value} {rows:List (List Value)} (h:Ow w X e k v rows):one v=true:=h.sl.one
theorem Ow.mono {e k:Nat} {v:Value} {rows:List (List Value)} {Y:XS} (h:Ow w X e k v rows) (hs: ∀k,X k→Y k):Ow w Y e k v rows:=by
 obtain⟨h1,h|⟨g,off,cap,cur,hv,hx,hr⟩⟩:=h
 ·exact⟨h1,.inl h⟩
 ·exact⟨h1,.inr ⟨g,off,cap,cur,hv,hs _ hx,hr⟩⟩
theorem Ow.mv {e k:Nat} {v:Value} {rows:List (List Value)} {w':World} {Y:XS} (h:Ow w X e k v rows) (m:Mv X w Y w'):Ow w' Y e k v rows:=by
 obtain⟨h1,h|⟨g,off,cap,cur,hv,hx,hg,hr⟩⟩:=h
 ·exact⟨h1,.inl h⟩
 ·obtain⟨m1,m2⟩:=m g hx (Array.getElem?_eq_some_iff.1 hg).1;exact⟨h1,.inr ⟨g,off,cap,cur,hv,m1,by rw [m2];exact hg,hr⟩⟩
theorem Ow.kp {e k:Nat} {v:Value} {rows:List (List Value)} {w':World} (h:Ow w X e k v rows) (hk:Kp X w w'):Ow w' X e k v rows:=by
 obtain⟨h1,h|⟨g,off,cap,cur,hv,hx,hg,hr⟩⟩:=h
 ·exact⟨h1,.inl h⟩
 ·exact⟨h1,.inr ⟨g,off,cap,cur,hv,hx,by rw [hk.block g hx];exact hg,hr⟩⟩
theorem Ow.bm {e k:Nat} {v:Value} {rows:List (List Value)} (h:Ow w X e k v rows) {g:Nat} (hg:v.ownBlock=some g):X g∧g<w.heap.size:=by
 obtain⟨h1,⟨rfl,_⟩|⟨g',off,cap,cur,rfl,hx,hb,hr⟩⟩:=h
 ·cases hg
 ·simp only [dY,az] at hg;subst hg;exact⟨hx,(Array.getElem?_eq_some_iff.1 hb).1⟩
theorem Ow.tag {e k:Nat} {v:Value} {rows:List (List Value)} (h:Ow w X e k v rows) {g:Nat} (hg:v.ownBlock=some g): ∃cs:List Value,w.heap[g]? =some (.cells cs.toArray e (0,0)):=by
 obtain⟨h1,⟨rfl,_⟩|⟨g',off,cap,cur,rfl,hx,hb,hr⟩⟩:=h
 ·cases hg
 ·simp only [dY,az] at hg;subst hg;exact⟨cur.toList,by simpa using hb⟩
theorem Ow.gi {Y:XS} {e e' k g:Nat} {v:Value} {rows:List (List Value)} {cs:List Value} (h:Ow w X e k v rows) (hr:bN w Y g cs e') (he:decide (e≠e')=true):v.ownBlock≠some g:=fun hg=>by
 obtain⟨c,h1⟩:=h.tag hg;rw [hr.2] at h1;simp only [az,yi] at h1;exact of_decide_eq_true he h1.2.1.symm
theorem Ow.dK {F X':XS} {w':World} {e k:Nat} {v:Value} {rows:List (List Value)} (h:Ow w X e k v rows) (c:eo F X w X' w') (hd: ∀g,v.ownBlock=some g→ ¬F g):Ow w' X' e k v rows:=by
 obtain⟨h1,h|⟨g,off,cap,cur,rfl,hx,hg,hr⟩⟩:=h
 ·exact⟨h1,.inl h⟩
 ·exact⟨h1,.inr ⟨g,off,cap,cur,rfl,c.sub g hx,by rw [c.block g hx (hd g rfl)];exact hg,hr⟩⟩
theorem Ow.tight {e k:Nat} {v:Value} {rows:List (List Value)} (h:Ow w X e k v rows):Ow w (dP v) e k v rows:=by
 obtain⟨h1,h|⟨g,off,cap,cur,rfl,hx,hr⟩⟩:=h
 ·exact⟨h1,.inl h⟩
 ·exact⟨h1,.inr ⟨g,off,cap,cur,rfl,rfl,hr⟩⟩
theorem B8 (t ty e:TypeId) (i:TypeInfo) (ht:P.underlying t=some (.slice e)) (hi:P.info? e=some i)
  (g off gK mQ:Nat) (cur:Array Value) (hg:w.heap[g]? =some (.cells cur e (0,0)))
  (a:Addr) (m c:Nat) (news:List Value) (hl:news.length=m*i.size) (ahr: ∀j u,news[j]? =some u→w.cell? (a.add j)=some u) (h1: ∀u∈news,u.oneCell'=true)
  (kS:gK+m≤mQ) (rQ:off+gK*i.size+news.length≤cur.size):
  (dQ #[t,t] ty #[.slice (some ⟨g,off,none⟩) gK mQ,.slice (some a) m c]).run P w=
   .ok (.slice (some ⟨g,off,none⟩) (gK+m) mQ) (w.setRow g (cur.toList.take (off+gK*i.size)++news++cur.toList.drop (off+gK*i.size+news.length)).toArray):=by
 have hf:=run_firstCells_some (P:=P) w i.size m a m c news hl ahr;have fZ:=run_storeCells_at P g (off+gK*i.size) e news 0 cur w hg (by simpa using rQ) h1;simp only [ve] at fZ;simp [dQ,run_underlying ht,sizeOf,typeInfo,hi,lj,kS,hf,nW,fZ]
theorem B9 (t ty e:TypeId) (i:TypeInfo) (ht:P.underlying t=some (.slice e)) (hi:P.info? e=some i)
  (b:Addr) (gK mQ:Nat) (kS:gK≤mQ):
  (dQ #[t,t] ty #[.slice (some b) gK mQ,.slice none 0 0]).run P w= .ok (.slice (some b) gK mQ) w:=by
 simp [dQ,run_underlying ht,sizeOf,typeInfo,hi,lj,kS,jU,storeCells]
theorem M7 {t ty e k bytes:Nat} {v s:Value} {rows dw:List (List Value)} {N:Value→World→XS→Prop}
  (he:mW P t e k bytes=true)
  (hX: ∀k,X k→k<w.heap.size) (own:Ow w X e k v rows) (src:Sl w X k s dw) (h1: ∀r∈dw,∀u∈r,one u=true)
  (hb:(rows.length+dw.length)*bytes≤140737488355328) (hl:rows.length+dw.length≤2^63-1)
  (n: ∀v' w' X',eo (dP v) X w X' w'→Ow w' X' e k v' (rows++dw)→(v'.ownBlock=v.ownBlock∨ ∃g,v'.ownBlock=some g∧w.heap.size≤g)→N v' w' X'):
  eV P R X w true (ga t e k bytes ty v s) N:=by
 obtain⟨hu,oP,uj,z,hi,K8,pq⟩:=kY he;obtain⟨wu,⟨rfl,rfl⟩|⟨g,off,cap,cur,rfl,hx,hg,jk,iK,mg,gN⟩⟩:=own
 ·exact zD (rows:=[]) (dw:=dw) z hu hi pq oP hX (Nat.zero_le _) (Own.nil w X 0 e k) src h1 hb hl fun v2 w2 X2 hg ho fH=>
   n v2 w2 X2 (hg.dK.mono fun k _ hk=>hk.symm) ho.ow fH
 ·intro wa hk;have gA:wa.heap[g]? =some (.cells cur e (0,0)):=by rw [hk.block g hx];exact hg
  have src:=src.kp hk;cases hq:P.info? e with
  |none=>simp [hq] at hi
  |some ie=>
   cases lU:ie.zero with
   |none=>simp [hq,lU] at hi
   |some z'=>
    simp only [hq,lU,cU,bL,az,dx] at hi;obtain⟨rfl,rfl,rfl⟩:=hi;unfold ga jy;rcases src.src with⟨rfl,rfl⟩|⟨a,c,rfl,CT⟩
    ·have hr:=B9 (P:=P) (w:=wa) t ty e ie hu hq ⟨g,off,none⟩ rows.length cap jk;simp only [vS,bR,hr,bo,cS];have Li:=Ext.refl wa;have hs:=aj.fG hX hk Li;refine⟨Step.fG Li,n _ _ _ (eo.qW hs _) ?_ (.inl rfl)⟩;rw [List.append_nil];exact⟨wu,.inr ⟨g,off,cap,cur,rfl,.inl hx,gA,jk,iK,mg,gN⟩⟩
    ·have re:dw.flatten.length=dw.length*ie.size:=gZ src.1;have RZ:rows.flatten.length=rows.length*ie.size:=gZ wu;have tW: ∀u∈dw.flatten,u.oneCell'=true:=fun u hu=>by
      obtain⟨r,hr,Ts⟩:=List.mem_flatten.1 hu;rw [←Bb];exact h1 r hr u Ts
     have FD: ∀r∈rows++dw,r.length=ie.size:=fun r hr=>by
      rcases List.mem_append.1 hr with h|h
      ·exact wu r h
      ·exact src.1 r h
     have adn:rows.length+dw.length≤maxLen:=hl;by_cases kS:rows.length+dw.length≤cap
     ·have hmul:(rows.length+dw.length)*ie.size≤cap*ie.size:=e6 _ kS;rw [px] at hmul;have hr:=B8 (P:=P) (w:=wa) t ty e ie hu hq g off rows.length cap cur gA a dw.length c dw.flatten re CT tW kS zQ;simp only [vS,bR,hr,bo,cS];have Ca: ∀k,k≠g→(wa.setRow g (cur.toList.take (off+rows.length*ie.size)++dw.flatten++cur.toList.drop (off+rows.length*ie.size+dw.flatten.length)).toArray).heap[k]? =wa.heap[k]? :=fun k hk=>setRow_other wa g k _ hk;refine⟨⟨rfl,rfl,rfl,by simp,fun k KC nJ=>Ca k fun e=>nJ (e▸hx)⟩,n _ _ _ ?_ ⟨FD,.inr ⟨g,off,cap,_,by rw [ae],.inl hx,setRow_heap wa g cur _ e _ gA,by rw [ae];exact kS,iK,?_,?_⟩⟩ (.inl rfl)⟩
      ·exact⟨hk.os,hk.tape,hk.output,by simpa using hk.size,fun k Li cn=>(Ca k fun e=>cn (by rw [e];rfl)).trans (hk.block k Li),fun k h=>.inl h,
        fun k h=>h.elim (fun h=>by have:=hX k h;have:=hk.size;simp;omega) (fun h=>h.2)⟩
      ·simp only [jb,ae,aX,dR,dO];omega
      ·have fN:off≤cur.toList.length:=by rw [dO (xs:=cur)];omega
       have e1:(cur.toList.take (off+rows.length*ie.size)).drop off=rows.flatten:=by
        rw [List.drop_take,show off+rows.length*ie.size-off=rows.length*ie.size by omega,gN]
       have Z5:(cur.toList.take (off+rows.length*ie.size)).length=off+rows.length*ie.size:=by rw [aX,dO (xs:=cur)];omega
       rw [aC,List.drop_append_of_le_length zQ,e1,ae,px,gQ,←aC,←RZ,←re,←ae];exact mD
     ·have holds: ∀j u,rows.flatten[j]? =some u→wa.cell? ((⟨g,off,none⟩:Addr).add j)=some u:=fun j u hj=>by
       rw [←gN,jT,mc] at hj;split at hj
       ·rw [nW];simp only [World.cell?,gA];simpa using hj
       ·cases hj
      have hr:=run_append_grow (P:=P) wa t ty e ie z' hu hq lU ⟨g,off,none⟩ rows.length cap rows.flatten RZ holds a dw.length c dw.flatten re CT zQ (by simp only [maxLen] at adn;omega) (growslice_fits zQ hb);simp only [vS,bR,hr,bo,cS];have dV:=grownCap_ge wa (rows.length+dw.length) cap e;have iK:grownCap wa (rows.length+dw.length) cap e≤maxLen:=grownCap_le_maxLen wa _ cap e adn;have hblk: ∀k,k<wa.heap.size→(wa.drew.alloc (.cells (rows.flatten.toArray++dw.flatten.toArray++eL z'.cells (grownCap wa (rows.length+dw.length) cap e-(rows.length+dw.length))) e)).heap[k]? =wa.heap[k]? :=fun k hk=>heap_alloc_old wa.drew _ hk;refine⟨⟨rfl,rfl,rfl,by simp,fun k KC _=>hblk k KC⟩,n _ _ _ ?_ ⟨FD,.inr ⟨wa.heap.size,0,_,_,by rw [ae],.inr ⟨bP _,by simp⟩,heap_alloc_new wa.drew _,by rw [ae];exact dV,iK,?_,?_⟩⟩ (.inr ⟨_,rfl,hk.size⟩)⟩
      ·exact⟨hk.os,hk.tape,hk.output,by have:=hk.size;simp;omega,fun k Li _=>(hblk k (aN (hX k Li) hk.size)).trans (hk.block k Li),fun k h=>.inl h,
        fun k h=>h.elim (fun h=>by have:=hX k h;have:=hk.size;simp;omega) (fun h=>h.2)⟩
      ·simp only [qo,jb,size_zeroCells,pq,RZ,re,←px];rw [ed];apply e6;omega
      ·simp only [oV,List.drop_zero,aC,gQ];rw [←aC,ae,px,←RZ,←re,←ae];exact mD
section
variable {t ty e k bytes : Nat} {v x s : Value} {rows dw : List (List Value)} {row : List Value} {N : Value → World → XS → Prop}
end
theorem QS {k:Nat} : ∀{rows:List (List Value)} (i:Nat),(∀r∈rows,r.length=k)→(rows.drop i).flatten=rows.flatten.drop (i*k)
 |_,0,_=>by simp
 |[],i+1,_=>by simp
 |r::rows,i+1,h=>by
  have hr:=h r (by simp);rw [List.drop_succ_cons,QS i fun x hx=>h x (bK _ hx),dU,u9,Nat.add_comm,←List.drop_drop,List.drop_left' hr]
theorem pc {k:Nat} : ∀{rows:List (List Value)} (i:Nat),(∀r∈rows,r.length=k)→(rows.take i).flatten=rows.flatten.take (i*k)
 |_,0,_=>by simp
 |[],i+1,_=>by simp
 |r::rows,i+1,h=>by
  have hr:=h r (by simp);have e1:r.take (k+i*k)=r:=ba zQ;rw [List.take_succ_cons,dU,pc i fun x hx=>h x (bK _ hx),dU,u9,Nat.add_comm,List.take_append,hr,e1,show k+i*k-k=i*k by omega]
theorem fL.gi {κ α:Type} [DecidableEq κ] {A F:XS} {kv:κ→Value} {rd:World→XS→Value→α→Prop} {l:List (κ×α)} {b g:Nat} {cs:List Value} {e:TypeId} (h:fL w X A b kv rd l) (hr:bN w F g cs e):b≠g:=by
 rintro rfl;obtain⟨es,c,h1,_⟩:=h;have:=h1.2.1;rw [hr.2] at this;cases this
theorem bN.gi {F:XS} {b g:Nat} {cs sc:List Value} {e e':TypeId} (h:bN w X b cs e) (hr:bN w F g sc e') (he:decide (e≠e')=true):b≠g:=by
 rintro rfl;have:=h.2;rw [hr.2] at this;simp only [az,yi] at this;exact of_decide_eq_true he this.2.1.symm
theorem fL.OC {κ α:Type} [DecidableEq κ] {A F:XS} {kv:κ→Value} {rd:World→XS→Value→α→Prop} {l:List (κ×α)} {b e k:Nat} {v:Value} {rows:List (List Value)} (h:fL w X A b kv rd l) (hr:Ow w F e k v rows):v.ownBlock≠some b:=fun hg=>by
 obtain⟨cs,h2⟩:=hr.tag hg;obtain⟨es,c,h1,_⟩:=h;have:=h1.2.1;rw [h2] at this;cases this
section
variable {t : TypeId}
theorem Oq {l:List Value} {N:Value→World→XS→Prop} (hX: ∀k,X k→k<w.heap.size) (hz:(P.info? t).bind (·.zero)=some (.agg l.toArray))
  (n: ∀b w' X',w.heap.size≤b→aj X w X' w'→bN w' X' b l t→N (ptr b 0) w' X'):eV P R X w m (xE t true (.tuple #[])) N:=by
 intro wa hk;unfold jy;have hzv: ∀w,(zeroValue t).run P w= .ok (.agg l.toArray) w:=by
  intro w;cases hi:P.info? t with
  |none=>simp [hi] at hz
  |some inf=>
   have A9:inf.zero=some (.agg l.toArray):=by simpa [hi] using hz
   simp [zeroValue,typeInfo,hi,A9]
 have hr:(xE t true (.tuple #[])).run P wa= .ok (ptr wa.heap.size 0) (wa.alloc (.cells l.toArray t)):=by simp [xE,hzv,newVar,newRow,Value.cells]
 simp only [vS,bR,hr,bo,cS];have hx:Ext wa (wa.alloc (.cells l.toArray t)):=Ext.alloc _ _;exact⟨Step.fG hx,n _ _ _ hk.size (aj.fG hX hk hx) ⟨.inr ⟨bP _,by simp⟩,by simpa using heap_alloc_new wa _⟩⟩
theorem aan {e k bytes c:Nat} {z:Int} {N:Value→World→XS→Prop} (hX: ∀k,X k→k<w.heap.size) (he:mW P t e k bytes=true) (hz:z=c) (hc:c≤2^32) (hb:bytes≤1024) (hk:k≤1024)
  (n: ∀v w' X',aj X w X' w'→Own w' X' w.heap.size e k v []→N v w' X'):eV P R X w m (yh t (I 0) (I z)) N:=by
 subst hz;obtain⟨hu,oP,uj,z,hi,K8,pq⟩:=kY he;intro wa ah;unfold jy;cases hq:P.info? e with
 |none=>simp [hq] at hi
 |some ie=>
  cases lU:ie.zero with
  |none=>simp [hq,lU] at hi
  |some z'=>
   simp only [hq,lU,cU,bL,az,dx] at hi;obtain⟨h1,h2,h3⟩:=hi;have hbb:ie.bytes*c≤281474976710656:=by
    have:=Nat.mul_le_mul (show ie.bytes≤1024 by omega) hc;omega
   obtain⟨w',hr,Aq,hg⟩:=run_make_own (P:=P) wa w.heap.size t e ie z' k hu hq lU h1 .i64 .i64 c hbb (by simp only [maxLen];omega) ah.size;have jt:(yh t (I 0) (I (c:Int))).run P wa= .ok (.slice (some ⟨wa.heap.size,0,none⟩) 0 c) w':=hr;simp only [vS,bR,jt,bo,cS];have hx:Ext wa w':=⟨hg.os,hg.tape,hg.output,hg.size,fun k hk _=>hg.block k hk (by simp)⟩;refine⟨Step.fG hx,n _ _ _ (aj.fG hX ah hx) ⟨by simp,Aq,fun g Gu=>?_⟩⟩;simp only [dY,az] at Gu;subst Gu;exact .inr ⟨bP _,(Aq.lt _ rfl).2⟩
end
structure Ft (w0:World) (F0:XS) (w:World) (X F:XS):Prop where
 s:aj (out F0 w0) w0 X w
 bm: ∀k,F k→X k
 v: ∀k,F k→F0 k∨w0.heap.size≤k
section
variable {w0 w' : World} {F0 F F' G X' A : XS} {Q : Value → World → World → Prop} {N : Value → World → XS → Prop} {f : FuncId} {args : Array Value}
theorem Ft.init (h: ∀k,F0 k→k<w.heap.size):Ft w F0 w (aR w) F0:=⟨aj.out _ _,h,fun _ h=>.inl h⟩
theorem Ft.since (h:Ft w0 F0 w X F) (hs:aj X w X' w'):Ft w0 F0 w' X' F:=⟨h.s.trans hs,fun k hk=>hs.sub k (h.bm k hk),h.v⟩
theorem Ft.no (h:Ft w0 F0 w X F) {k:Nat} (hk:F k) (h0:out F0 w0 k):False:=by
 rcases h.v k hk with h1|h1
 ·exact h0.2 h1
 ·have:=h0.1;omega
theorem Ft.dK (h:Ft w0 F0 w X F) (c:eo G X w X' w') (hG: ∀k,G k→F k) (hF: ∀k,F' k→F k∨(X' k∧w.heap.size≤k)):Ft w0 F0 w' X' F':=by
 refine⟨h.s.dK c fun k h0 hk=>h.no (hG k hk) h0,fun k hk=>?_,fun k hk=>?_⟩
 ·rcases hF k hk with h1|h1
  ·exact c.sub k (h.bm k h1)
  ·exact h1.1
 ·rcases hF k hk with h1|h1
  ·exact h.v k h1
  ·right;have:=h1.2;have:=h.s.kp.size;omega
theorem Ft.less (h:Ft w0 F0 w X F) (hF: ∀k,F' k→F k):Ft w0 F0 w X F':=⟨h.s,fun k hk=>h.bm k (hF k hk),fun k hk=>h.v k (hF k hk)⟩
theorem Ft.more (h:Ft w0 F0 w X F) (hF: ∀k,F' k→F k∨(X k∧w0.heap.size≤k)):Ft w0 F0 w X F':=by
 refine⟨h.s,fun k hk=>?_,fun k hk=>?_⟩
 ·rcases hF k hk with h1|h1
  ·exact h.bm k h1
  ·exact h1.1
 ·rcases hF k hk with h1|h1
  ·exact h.v k h1
  ·exact .inr h1.2
theorem Ft.call (hT:Ft w0 F0 w X F) (h:Ct P f args w X G Q) (hf:enters P f=true) (hG: ∀k,G k→F k)
  (k: ∀v wa w' X',Q v wa w'→w.heap.size≤wa.heap.size→(∀k,made wa w' k→X' k)→Ft w0 F0 w' X' (fun k=>F k∨made wa w' k)→eo G X w X' w'→N v w' X'):eC P R X w true f args N:=by
 refine Ol h hf hT.s.has (fun q hq=>hT.bm q (hG q hq)) fun v wa w' X' hq hle eH kM hc=>k v wa w' X' hq hle eH ?_ hc;exact hT.dK hc hG fun q hq=>hq.imp id fun hm=>⟨eH q hm,af hle hm.1⟩
theorem Ft.fin {v:Value} {Q:Value→World→Prop} (h:Ft w0 F0 w X F) (hq: ∀wa,Kp X w wa→Q v wa):fin (Bs F0 w0 Q) X w v:=nB h.s hq
theorem Ft.oT (h:Ft w0 F0 w X F) {wa:World} (hk:Kp X w wa) (hF: ∀k,F' k→F k): ∀k,F' k→F0 k∨made w0 wa k:=fun k ah=>by
 rcases h.v k (hF k ah)with h1|h1
 ·exact .inl h1
 ·exact .inr ⟨h1,aN (h.s.has k (h.bm k (hF k ah))) hk.size⟩
theorem Ft.Tl (h:Ft w0 nX w X F):aj (bB.aR w0) w0 X w:=
 ⟨⟨h.s.kp.os,h.s.kp.tape,h.s.kp.output,h.s.kp.size,fun k ah=>h.s.kp.block k ⟨ah,fun h=>h.elim⟩⟩,fun k ah=>h.s.sub k ⟨ah,fun h=>h.elim⟩,h.s.has⟩
def DZ (w0:World) (X:XS):XS:=fun k=>X k∧w0.heap.size≤k
theorem Ft.new (h:Ft w0 F0 w X F):Ft w0 F0 w X (fun k=>F k∨DZ w0 X k):=h.more fun k hk=>hk.imp id fun h=>h
theorem Ft.OH (h:Ft w0 nX w X F):Ft w0 nX w X (DZ w0 X):=h.more fun k hk=>.inr hk
theorem eo.kf (c:eo G X w X' w') (h: ∀k,A k→X k∧ ¬G k):Mv A w A w':=fun k hk _=>⟨hk,c.block k (h k hk).1 (h k hk).2⟩
theorem Kp.kf (hk:Kp X w w') (h: ∀k,A k→X k):Mv A w A w':=fun k ah _=>⟨ah,hk.block k (h k ah)⟩
theorem aj.jQ (hs:aj X w X' w') (h: ∀k,A k→X k):Mv A w A w':=fun k ah _=>⟨ah,hs.kp.block k (h k ah)⟩
end
theorem agI {w0:World} {t ty e k bytes:Nat} {v s:Value} {rows dw:List (List Value)} {N:Value→World→XS→Prop} (hT:Ft w0 nX w X (DZ w0 X)) (hO:Ow w (DZ w0 X) e k v rows) (he:mW P t e k bytes=true)
  (src:Sl w X k s dw) (h1: ∀r∈dw,∀u∈r,one u=true) (hb:(rows.length+dw.length)*bytes≤140737488355328) (hl:rows.length+dw.length≤2^63-1)
  (n: ∀v' w' X',Ft w0 nX w' X' (DZ w0 X')→Ow w' (DZ w0 X') e k v' (rows++dw)→eo (dP v) X w X' w'→(v'.ownBlock=v.ownBlock∨ ∃g,v'.ownBlock=some g∧w.heap.size≤g)→N v' w' X'):
  eV P R X w true (ga t e k bytes ty v s) N:=by
 refine M7 he hT.s.has (hO.mono hT.bm) src h1 hb hl fun v' w' X' c ho fH=>?_;have WM:Ft w0 nX w' X' (DZ w0 X'):=Ft.OH (F:=DZ w0 X) (hT.dK c (fun k hk=>(hO.bm hk).1) fun k hk=>.inl hk);refine n v' w' X' WM (ho.tight.mono fun k hk=>⟨(ho.bm hk).1,?_⟩) c fH;have ah:v'.ownBlock=some k:=hk;rcases fH with e|⟨g,e,dV⟩
 ·exact(hO.bm (e▸ah)).1.2
 ·rw [ah] at e;have:k=g:=Option.some.inj e;have:=hT.s.kp.size;omega
def Dj (A B:XS):Prop:= ∀k,A k→B k→False
theorem Dj.symm {A B:XS} (h:Dj A B):Dj B A:=fun k a b=>h k b a
theorem Dj.grow {A B B' C:XS} (h:Dj A B) (hB: ∀k,B' k→B k∨C k) (hc:Dj A C):Dj A B':=fun k a b=>(hB k b).elim (h k a) (hc k a)
theorem Dj.less {A A' B B':XS} (h:Dj A B) (ha: ∀k,A' k→A k) (hb: ∀k,B' k→B k):Dj A' B':=fun k a b=>h k (ha k a) (hb k b)
end Go.bB
set_option linter.unusedVariables false
set_option linter.unusedSimpArgs false
namespace Go.bB
variable {P : Program} {R : Ending → World → Prop} {X : XS} {w : World} {m : Bool}
def UK (w:World) (X:XS) (b:Nat) (cs:List Value) (ty:TypeId):Prop:=X b∧w.heap[b]? =some (.cells cs.toArray ty (cs.length,cs.length+1))
theorem UK.cells {b:Nat} {cs:List Value} {ty:TypeId} (h:UK w X b cs ty):Cells w X b 0 cs:=⟨h.1,_,_,_,h.2,fun j v hj=>by simpa using hj⟩
theorem UK.since {b:Nat} {cs:List Value} {ty:TypeId} {Y:XS} {w':World} (h:UK w X b cs ty) (hs:aj X w Y w'):UK w' Y b cs ty:=⟨hs.sub _ h.1,by rw [hs.kp.block b h.1];exact h.2⟩
theorem AN {t b o o':Nat} {cs:List Value} {ty:TypeId} {v:Value} {N:Value→World→XS→Prop} (h:bN w X b cs ty) (SP:o'=o) (ht:(P.info? t).map (·.size)=some 1)
  (hl:o<cs.length) (h1:one v=true) (hX: ∀k,X k→k<w.heap.size)
  (n: ∀w' X',eo (· =b) X w X' w'→bN w' X' b (cH cs o [v]) ty→N undef w' X'):eU P R X w true (st1 t 1 (ptr b o') v) N:=by
 subst SP;have hv:=vu h1;refine qS h ht zQ (by rw [hv];rfl) (by rw [hv];simp [h1]) hX fun w' X' c hr=>n w' X' c ?_;rw [hv] at hr;exact hr
theorem Je {t sz b o o':Nat} {cs:List Value} {ty:TypeId} {v:Value} {N:Value→World→XS→Prop} (h:bN w X b cs ty) (SP:o'=o) (ht:(P.info? t).map (·.size)=some sz)
  (hl:o+sz≤cs.length) (hv:v.cells.size=sz) (h1:v.cells.toList.all one=true) (hX: ∀k,X k→k<w.heap.size)
  (n: ∀w' X',eo (· =b) X w X' w'→bN w' X' b (cH cs o v.cells.toList) ty→N undef w' X'):eU P R X w true (st1 t sz (ptr b o') v) N:=by
 subst SP;exact qS h ht hl hv h1 hX n
end Go.bB
set_option linter.unusedVariables false
set_option linter.unusedSimpArgs false
namespace Go.bB
variable {P : Program} {R : Ending → World → Prop} {X : XS} {w : World} {m : Bool}
theorem Rq (w:World) (dT sT ty elem:TypeId) (k g o Cb Zt:Nat) (a:Addr) (gK mQ:Nat) (cur:Array Value) (t:TypeId) (cs:List Value)
  (hu:P.underlying dT=some (.slice elem)) (hs:(P.info? elem).map (·.size)=some k)
  (hg:w.heap[g]? =some (.cells cur t (0,0))) (hn:cs.length=min gK Cb*k)
  (acM: ∀j v,cs[j]? =some v→w.cell? (a.add j)=some v) (rQ:o+cs.length≤cur.size) (h1: ∀v∈cs,v.oneCell'=true):
  (iv #[dT,sT] ty #[.slice (some ⟨g,o,none⟩) Cb Zt,.slice (some a) gK mQ]).run P w=
   .ok (goInt (min gK Cb:Nat)) (w.setRow g (cur.toList.take o++cs++cur.toList.drop (o+cs.length)).toArray):=by
 have hl:=run_loadCells_list (P:=P) w a cs acM;have fZ:=run_storeCells_at P g o t cs 0 cur w hg (by simpa using rQ) h1;cases hq:P.info? elem with
 |none=>simp [hq] at hs
 |some i=>
  have hi:i.size=k:=by simpa [hq] using hs
  rw [hn] at hl;have hmn:min gK Cb=if gK≤Cb then gK else Cb:=Nat.min_def
  rw [hmn] at hl⊢;simp [iv,run_underlying hu,lj,jU,sizeOf,typeInfo,hq,hi,hl,fZ,Nat.min_def]
theorem Jl {t ty e k g o Cb Zt gK mQ:Nat} {a:Addr} {cur cs:List Value} {tb:TypeId} {N:Value→World→XS→Prop} (h:bN w X g cur tb) (hu:P.underlying t=some (.slice e)) (hs:(P.info? e).map (·.size)=some k)
  (hn:cs.length=min gK Cb*k) (acM: ∀wa,Kp X w wa→ ∀j v,cs[j]? =some v→wa.cell? (a.add j)=some v) (rQ:o+cs.length≤cur.length) (h1: ∀v∈cs,one v=true) (hX: ∀k,X k→k<w.heap.size)
  (n: ∀w' X',eo (fun k=>k=g) X w X' w'→bN w' X' g (cH cur o cs) tb→N (.int .i64 (min gK Cb:Nat)) w' X'):
  eV P R X w true (iv #[t,t] ty #[.slice (some ⟨g,o,none⟩) Cb Zt,.slice (some a) gK mQ]) N:=by
 intro wa hk;have hb:=(h.kp hk).2;have hr:=Rq (P:=P) wa t t ty e k g o Cb Zt a gK mQ cur.toArray tb cs hu hs hb hn (acM wa hk) (by simpa using rQ) (fun v hv=>by rw [←Bb];exact h1 v hv);unfold jy;simp only [vS,bR,hr,bo,cS];have Ca: ∀k,k≠g→(wa.setRow g (cH cur o cs).toArray).heap[k]? =wa.heap[k]? :=fun k hk=>setRow_other wa g k _ hk;refine⟨⟨rfl,rfl,rfl,by simp,fun k KC nJ=>Ca k fun e=>nJ (e▸h.1)⟩,n _ _ ⟨hk.os,hk.tape,hk.output,by simpa using hk.size,fun k hx cn=>(Ca k cn).trans (hk.block k hx),fun k h=>.inl h,
  fun k h=>h.elim (fun h=>by have:=hX k h;have:=hk.size;simp;omega) (fun h=>h.2)⟩ ⟨.inl h.1,?_⟩⟩
 exact setRow_heap wa g cur.toArray _ tb _ hb
theorem yy {t:TypeId} {k g off n cap:Nat} {z:Int} {i:Nat} {N:Value→Prop} (hz:z=i) (hi:i≤n) (hc:n≤cap) (ht:P.underlying t=some (.slice (P.elem t))) (hs:(P.info? (P.elem t)).map (·.size)=some k)
  (h:N (.slice (some (if cap=i then⟨g,off,none⟩else⟨g,off+i*k,none⟩)) (n-i) (cap-i))):
  ab P X w (cy t (.slice (some ⟨g,off,none⟩) n cap) (some (.int .i64 z)) none none) N:=by
 subst hz;refine cB (fun wa=>?_) h;rw [run_sliceAt_slice wa t _ _ _ _ ht,run_slice_l wa t _ n cap ht .i64 i zQ zQ];cases hq:P.info? (P.elem t)with
 |none=>simp [hq] at hs
 |some inf=>
  have:inf.size=k:=by simpa [hq] using hs
  by_cases Sh:cap=i
  ·simp [sizeOf,typeInfo,hq,sliced,this,Sh]
  ·simp [sizeOf,typeInfo,hq,sliced,this,nW,Sh]
theorem ac6 {t ty e:TypeId} {b:Option Addr} {n cap:Nat} {N:Value→Prop} (ht:P.underlying t=some (.slice e)) (h:N (.int .i64 cap)):ab P X w (B7 #[t] ty #[.slice b n cap]) N:=
 cB (fun wa=>by simp [B7,goInt,run_underlying ht]) h
theorem Yl {f:FuncId} {fn:Func} {t bt e:TypeId} {k g g2 o o2 la ca lb cb:Nat} {c1 c2:List Value} {t1 t2:TypeId} {N:Value→World→XS→Prop} (hf:P.funcs[f]? =some fn) (NB:(fn.name== "runtime.NumGoroutine")=false)
  (hb:fn.body.isNone=true) (hn:Extern.findNext fn=none) (he:Extern.find fn=some (ub #[t,t] #[bt])) (hu:P.underlying t=some (.slice e)) (hs:(P.info? e).map (·.size)=some k)
  (h1:bN w X g c1 t1) (h2:bN w X g2 c2 t2) (cn:g≠g2) (hl:0<c2.length) (hX: ∀k,X k→k<w.heap.size) (n: ∀w' X',aj X w X' w'→N (.bool false) w' X'):
  eC P R X w m f #[.slice (some ⟨g,o,none⟩) la ca,.slice (some ⟨g2,o2,none⟩) lb cb] N:=by
 intro wa hk;have q1:=(h1.kp hk).2;have q2:=(h2.kp hk).2;have hz: ∀w,(sizeOf e).run P w= .ok k w:=fun w=>by
  cases hq:P.info? e with
  |none=>simp [hq] at hs
  |some inf=>
   have:inf.size=k:=by simpa [hq] using hs
   simp [sizeOf,typeInfo,hq,this]
 have hr:=Lib.run_overlaps_apart (P:=P) wa t bt e hu k hz ⟨g,o,none⟩ ⟨g2,o2,none⟩ la ca lb cb cn t1 t2 c1.length c2.length (by simp [World.shape?,q1]) (by simp [World.shape?,q2]) zQ (by simp [ua,q1]) (by simp [ua,q1]);rw [run_callFunc_extern hf NB hb hn he,hr];have hx:=Ext.refl wa;have si:=aj.fG hX hk hx;exact⟨Step.fG hx,n _ _ si⟩
theorem agJ {t ty e k bytes:Nat} {kq kn:IntKind} {tn:TypeId} {v:Value} {c:Nat} {z:Int} {rows:List (List Value)} {N:Value→World→XS→Prop} (he:mW P t e k bytes=true) (htn:P.underlying tn=some (.int kn))
  (hX: ∀k,X k→k<w.heap.size) (src:Sl w X k v rows) (hzc:z=c) (h0:0<c) (Zu: ∃b n cap,v= .slice b n cap∧cap<rows.length+c) (hb:(rows.length+c)*bytes≤140737488355328) (hl:rows.length+c≤2^63-1)
  (n: ∀g cap cur w' X',w.heap.size≤g→aj X w X' w'→bN w' X' g cur e→rows.length+c≤cap→cap≤maxLen→cur.length=cap*k→cur.take (rows.length*k)=rows.flatten→N (.slice (some ⟨g,0,none⟩) (rows.length+c) cap) w' X'):
  eV P R X w m (dQ #[t,tn] ty #[v,.int kq z]) N:=by
 subst hzc;obtain⟨hu,oP,uj,z',hi,K8,pq⟩:=kY he;intro wa hk;have src:=src.kp hk;obtain⟨b,n',cap,rfl,Zu⟩:=Zu;cases hq:P.info? e with
 |none=>simp [hq] at hi
 |some ie=>
  cases lU:ie.zero with
  |none=>simp [hq,lU] at hi
  |some z2=>
   simp only [hq,lU,cU,bL,az,dx] at hi;obtain⟨rfl,rfl,rfl⟩:=hi;have hn:n'=rows.length:=by
    rcases src.src with⟨h,h2⟩|⟨a,c,h,_⟩
    ·simp only [mL] at h;rw [h.2.1,h2];rfl
    ·simp only [mL] at h;exact h.2.1
   subst hn;have hlen:rows.flatten.length=rows.length*ie.size:=gZ src.1;have hold:(jU ie.size rows.length (.slice b rows.length cap)).run P wa.drew= .ok rows.flatten.toArray wa.drew:=by
    rcases src.src with⟨h,h2⟩|⟨a,c,h,CT⟩
    ·simp only [mL] at h;obtain⟨rfl,_,_⟩:=h;subst h2;simp [jU]
    ·simp only [mL] at h;obtain⟨rfl,_,rfl⟩:=h;exact run_firstCells_some (P:=P) wa.drew ie.size rows.length a rows.length cap rows.flatten hlen CT
   have rQ:nV (rows.length+c) cap*ie.bytes≤281474976710656:=growslice_fits Zu hb;have ai1:c*ie.bytes≤281474976710656:=by
    have:=e6 ie.bytes (Nat.le_add_left c rows.length);omega
   have hr:=Lib.run_append_grow_zeros (P:=P) wa t tn ty e ie z2 kq kn hu htn hq lU b rows.length cap rows.flatten hold c h0 oP Zu zQ ai1 rQ;unfold jy;simp only [vS,bR,hr,bo,cS];have hx:Ext wa (wa.drew.alloc (.cells (rows.flatten.toArray++eL z2.cells c++eL z2.cells (grownCap wa (rows.length+c) cap e-(rows.length+c))) e)):=⟨rfl,rfl,rfl,by simp,fun k hk _=>heap_alloc_old wa.drew _ hk⟩;have hs:=aj.fG hX hk hx;have dV:=grownCap_ge wa (rows.length+c) cap e;have iK:grownCap wa (rows.length+c) cap e≤maxLen:=grownCap_le_maxLen wa _ cap e hl;have fN:=hk.size;refine⟨Step.fG hx,n _ _ (rows.flatten.toArray++eL z2.cells c++eL z2.cells (grownCap wa (rows.length+c) cap e-(rows.length+c))).toList _ _ fN hs ⟨.inr ⟨bP _,by simp⟩,?_⟩ dV iK ?_ ?_⟩
   ·rw [Array.toArray_toList];exact heap_alloc_new wa.drew _
   ·simp only [dO,qo,jb,size_zeroCells,pq,hlen,←px]
    congr 1;omega
   ·simp only [oV,aC];rw [←hlen];exact mD
theorem WU {t:TypeId} {k:Nat} {v:Value} {z:Int} {i:Nat} {rows:List (List Value)} {N:Value→Prop} (h:Sl w X k v rows) (hz:z=i) (hi:i≤rows.length) (ht:P.underlying t=some (.slice (P.elem t))) (hs:(P.info? (P.elem t)).map (·.size)=some k)
  (n: ∀v',Sl w X k v' (rows.drop i)→N v'):ab P X w (cy t v (some (.int .i64 z)) none none) N:=by
 subst hz;obtain⟨h1,h2,base,cap,rfl,hc,hb,hlc,iK⟩:=h;have hq: ∃inf,P.info? (P.elem t)=some inf∧inf.size=k:=by
  cases hq:P.info? (P.elem t)with
  |none=>simp [hq] at hs
  |some inf=>exact⟨inf,rfl,by simpa [hq] using hs⟩
 obtain⟨inf,hq,fN⟩:=hq;have Hq: ∀wa:World,(cy t (.slice base rows.length cap) (some (.int .i64 (i:Int))) none none).run P wa= .ok (sliced base i rows.length cap k) wa:=fun wa=>by
  rw [run_sliceAt_slice wa t _ _ _ _ ht,run_slice_l wa t _ _ cap ht .i64 i zQ zQ];simp [sizeOf,typeInfo,hq,fN]
 refine cB Hq (n _ ?_);refine⟨fun r hr=>h1 r (List.mem_of_mem_drop hr),by rw [dR];omega,_,cap-i,by unfold sliced;rw [dR],fun cn=>?_,fun Ny=>?_,by rw [dR];omega,by omega⟩
 ·have ug:i<rows.length:=by
   refine Nat.lt_of_not_le fun hle=>cn (List.drop_of_length_le hle)
  obtain⟨b,o,rfl,mg⟩:=hc (by intro e;rw [e] at ug;simp at ug);refine⟨b,o+i*k,?_,?_⟩
  ·rw [if_neg zQ];simp only [bL,az];unfold Addr.add;split
   ·rename_i h0;rw [h0];rfl
   ·rfl
  ·rw [bB.QS i h1];obtain⟨hx,c,ty,fr,fP,hcc⟩:=mg;exact⟨hx,c,ty,fr,fP,fun j v hj=>by rw [mc] at hj;have:=hcc _ _ hj;rwa [←Nat.add_assoc] at this⟩
 ·split at Ny
  ·have:=hb Ny;omega
  ·have:base=none:=by simpa using Ny
   have:=hb this;omega
theorem WW {t:TypeId} {a:Option Addr} {n cap i j q:Nat} {z z' z2:Int} {N:Value→Prop} (hz:z=i) (A9:z'=j) (K8:z2=q) (hi:i≤j) (hj:j≤q) (hq:q≤cap) (ht:P.underlying t=some (.slice (P.elem t))) (hs:((P.info? (P.elem t)).map (·.size)).isSome=true)
  (h: ∀v,N v):ab P X w (cy t (.slice a n cap) (some (.int .i64 z)) (some (.int .i64 z')) (some (.int .i64 z2))) N:=by
 subst hz;subst A9;subst K8;obtain⟨k,hk⟩:=Option.isSome_iff_exists.1 hs;refine cB (v:=sliced a i j q k) (fun wa=>?_) (h _);rw [run_sliceAt_slice wa t _ _ _ _ ht,run_slice_lhm wa t a n cap ht .i64 .i64 .i64 i j q zQ zQ zQ zQ];cases hq:P.info? (P.elem t)with
 |none=>simp [hq] at hk
 |some inf=>
  have:inf.size=k:=by simpa [hq] using hk
  simp [sizeOf,typeInfo,hq,this]
theorem aeY {t:TypeId} {k g off n cap i j:Nat} {z z':Int} {N:Value→Prop} (hz:z=i) (A9:z'=j) (hi:i≤j) (hj:j≤cap) (hic:i<cap) (ht:P.underlying t=some (.slice (P.elem t))) (hs:(P.info? (P.elem t)).map (·.size)=some k)
  (h:N (.slice (some ⟨g,off+i*k,none⟩) (j-i) (cap-i))):ab P X w (cy t (.slice (some ⟨g,off,none⟩) n cap) (some (.int .i64 z)) (some (.int .i64 z')) none) N:=by
 subst hz;subst A9;refine cB (fun wa=>?_) h;rw [run_sliceAt_slice wa t _ _ _ _ ht,run_slice_lh wa t _ n cap ht .i64 .i64 i j zQ zQ zQ];cases hq:P.info? (P.elem t)with
 |none=>simp [hq] at hs
 |some inf=>
  have:inf.size=k:=by simpa [hq] using hs
  have cn: ¬cap=i:=by omega
  simp [sizeOf,typeInfo,hq,sliced,this,nW,cn]
theorem abF {t ty e k bytes g off n cap:Nat} {s:Value} {cur:List Value} {dw:List (List Value)} {N:Value→World→XS→Prop} (he:mW P t e k bytes=true) (h:bN w X g cur e) (src:Sl w X k s dw) (h1: ∀r∈dw,∀u∈r,one u=true)
  (kS:n+dw.length≤cap) (rQ:off+n*k+dw.length*k≤cur.length) (hX: ∀k,X k→k<w.heap.size)
  (nx: ∀w' X',eo (fun k=>k=g) X w X' w'→bN w' X' g (cH cur (off+n*k) dw.flatten) e→N (.slice (some ⟨g,off,none⟩) (n+dw.length) cap) w' X'):
  eV P R X w true (ga t e k bytes ty (.slice (some ⟨g,off,none⟩) n cap) s) N:=by
 obtain⟨hu,oP,uj,z,hi,K8,pq⟩:=kY he;intro wa hk;have hb:=(h.kp hk).2;have src:=src.kp hk;cases hq:P.info? e with
 |none=>simp [hq] at hi
 |some ie=>
  cases lU:ie.zero with
  |none=>simp [hq,lU] at hi
  |some z'=>
   simp only [hq,lU,cU,bL,az,dx] at hi;obtain⟨rfl,rfl,rfl⟩:=hi;unfold ga jy;rcases src.src with⟨rfl,rfl⟩|⟨a,c,rfl,CT⟩
   ·have hr:=B9 (P:=P) (w:=wa) t ty e ie hu hq ⟨g,off,none⟩ n cap (by simpa using kS);simp only [vS,bR,hr,bo,cS];have Li:=Ext.refl wa;have hs:=aj.fG hX hk Li;refine⟨Step.fG Li,nx _ _ (eo.qW hs _) ?_⟩;have:cH cur (off+n*ie.size) ([]:List (List Value)).flatten=cur:=by simp [cH]
    rw [this];exact h.since hs
   ·have re:dw.flatten.length=dw.length*ie.size:=gZ src.1;have tW: ∀u∈dw.flatten,u.oneCell'=true:=fun u hu=>by
     obtain⟨r,hr,Ts⟩:=List.mem_flatten.1 hu;rw [←Bb];exact h1 r hr u Ts
    have hr:=B8 (P:=P) (w:=wa) t ty e ie hu hq g off n cap cur.toArray hb a dw.length c dw.flatten re CT tW kS (by rw [re,jb];exact rQ);simp only [vS,bR,hr,bo,cS];have Ca: ∀k,k≠g→(wa.setRow g (cH cur (off+n*ie.size) dw.flatten).toArray).heap[k]? =wa.heap[k]? :=fun k hk=>setRow_other wa g k _ hk;refine⟨⟨rfl,rfl,rfl,by simp,fun k KC nJ=>Ca k fun e=>nJ (e▸h.1)⟩,nx _ _ ⟨hk.os,hk.tape,hk.output,by simpa using hk.size,fun k hx cn=>(Ca k cn).trans (hk.block k hx),fun k h=>.inl h,
     fun k h=>h.elim (fun h=>by have:=hX k h;have:=hk.size;simp;omega) (fun h=>h.2)⟩ ⟨.inl h.1,?_⟩⟩
    exact setRow_heap wa g cur.toArray _ e _ hb
def UL (P:Program) (e:TypeId):Bool:=match(P.info? e).bind (·.zero)with
 |some z=>z.cells.toList.all one
 |none=>false
theorem LF {t e ty k g o n cap:Nat} {cs:List Value} {tb:TypeId} {N:Value→World→XS→Prop} {bytes:Nat} (h:bN w X g cs tb) (he:mW P t e k bytes=true) (hzo:UL P e=true) (h0:0<n) (hl:o+n*k≤cs.length) (hX: ∀k,X k→k<w.heap.size)
  (nx: ∀w' X' zs,zs.length=n*k→eo (fun k=>k=g) X w X' w'→bN w' X' g (cH cs o zs) tb→N (.tuple #[]) w' X'):
  eV P R X w true (eY #[t] ty #[.slice (some ⟨g,o,none⟩) n cap]) N:=by
 obtain⟨hu,oP,uj,z,hi,K8,pq⟩:=kY he;intro wa hk;have hb:=(h.kp hk).2;cases hq:P.info? e with
 |none=>simp [hq] at hi
 |some ie=>
  cases lU:ie.zero with
  |none=>simp [hq,lU] at hi
  |some z'=>
   simp only [hq,lU,cU,bL,az,dx] at hi;obtain⟨rfl,rfl,rfl⟩:=hi;have hzv: ∀w,(zeroValue e).run P w= .ok z' w:=by
    intro w;simp [zeroValue,typeInfo,hq,lU]
   obtain⟨zs,acN⟩: ∃zs,zs=(eL z'.cells n).toList:=⟨_,rfl⟩;have D6:zs.length=n*ie.size:=by rw [acN,dO,size_zeroCells,pq]
   have SU: ∀v∈zs,v.oneCell'=true:=fun v hv=>by
    rw [acN] at hv;simp only [eL,Array.toList_map,List.mem_map,Array.toList_range,List.mem_range] at hv;obtain⟨q,hq1,rfl⟩:=hv;have cI:q % z'.cells.size<z'.cells.size:=Nat.mod_lt _ (by rw [pq];exact oP);rw [getElem!_pos z'.cells _ cI];have:=hzo;simp only [UL,hq,cU,lU,List.all_eq_true] at this;rw [←Bb];exact this _ (by simp)
   have fZ:=run_storeCells_at P g o tb zs 0 cs.toArray wa hb (by simp [D6];omega) SU;simp only [ve] at fZ;obtain⟨q,rfl⟩: ∃q,n=q+1:=⟨n-1,by omega⟩;have hr:(eY #[t] ty #[.slice (some ⟨g,o,none⟩) (q+1) cap]).run P wa= .ok (.tuple #[]) (wa.setRow g (cH cs o zs).toArray):=by
    simp only [eY];simp [run_underlying hu,hzv,←acN,fZ,cH]
   unfold jy;simp only [vS,bR,hr,bo,cS];have Ca: ∀k,k≠g→(wa.setRow g (cH cs o zs).toArray).heap[k]? =wa.heap[k]? :=fun k hk=>setRow_other wa g k _ hk;refine⟨⟨rfl,rfl,rfl,by simp,fun k KC nJ=>Ca k fun e=>nJ (e▸h.1)⟩,nx _ _ zs D6 ⟨hk.os,hk.tape,hk.output,by simpa using hk.size,fun k hx cn=>(Ca k cn).trans (hk.block k hx),fun k h=>.inl h,
    fun k h=>h.elim (fun h=>by have:=hX k h;have:=hk.size;simp;omega) (fun h=>h.2)⟩ ⟨.inl h.1,?_⟩⟩
   exact setRow_heap wa g cs.toArray _ tb _ hb
end Go.bB
set_option linter.unusedVariables false
set_option linter.unusedSimpArgs false
namespace Go.bB
variable {P : Program} {R : Ending → World → Prop} {X : XS} {w : World} {m : Bool}
structure Two (A B:Prop):Prop where
 a:A
 b:B
theorem q0t {A B p:Prop} (h:A→B→p):Two A B→p:=fun t=>h t.a t.b
theorem dj {A B:Prop} (a:A) (b:B):Two A B:=⟨a,b⟩
theorem q0b {p q:Prop} (h:q→p:=by first|(intro q9;first|(with_reducible first|apply aeo|apply aep|apply aal|apply tq|apply Xh|apply Ug|apply pK|apply aen|apply B1|apply acL|apply acB|apply acC|apply vL|apply aaT|apply af1|apply s7|apply qI|apply afE|apply aiS|apply ag5|apply adj|apply aiX|apply ago|apply agp|apply RL|apply aeq|apply ahj);exact q9|(with_reducible apply aem);(case k=>exact q9);(· rfl)|(with_reducible apply ahg);(case k=>exact q9);(· exact qN)|(with_reducible apply ahh);(case k=>exact q9);(· exact qN)|(with_reducible apply MP);(case k=>exact q9);(· exact qF);(· kernel_rfl);(· rfl)|(with_reducible apply ahb);(case k=>exact q9);(· exact qF);(· kernel_rfl);(· rfl);(· exact qN)|(with_reducible apply ahc);(case k=>exact q9);(· exact qF);(· exact qM);(· kernel_rfl);(· rfl)|(with_reducible apply ac3);(case k=>exact q9);(· exact qF);(· exact qM);(· kernel_rfl);(· rfl)|(with_reducible apply ahd);(case n=>exact q9);(· exact qO);(· kernel_rfl)|(with_reducible apply ahe);(case n=>exact q9);(· assumption);(· kernel_rfl)|(with_reducible apply aha);(case k=>exact q9);(· kernel_rfl)|(with_reducible apply ahf);(case n=>exact q9);(· exact qO);(try (case hz=>rfl));(case hr=>first|assumption|(clear q9;exact List.getElem?_eq_getElem (by omega)));(try (case hz=>omega));(case ht=>kernel_rfl);(case hs=>kernel_rfl)|(with_reducible apply XT);(case k=>exact q9);(· kernel_rfl)|(with_reducible apply ahi);(case h=>exact q9);(· rfl)|(with_reducible apply aer);(case k=>exact q9);(· kernel_rfl)|(with_reducible apply aes);(case k=>exact q9);(· kernel_rfl)|(with_reducible apply agu);(case k=>exact q9);(· kernel_rfl)|(with_reducible apply agv);(case k=>exact q9);(· kernel_rfl)|(with_reducible apply agr);(case k=>exact q9);(case h=>exact qE)|(with_reducible apply ags);(case k=>exact q9);(case h=>exact qE)|(with_reducible apply Zi);(case k=>exact q9);(· exact qC)|(with_reducible apply adl);(case h=>exact q9);(· omega);(· omega)|(with_reducible apply adm);(case h=>exact q9);(· omega);(· omega)|(with_reducible apply XR);(case h=>exact q9);(· kernel_rfl);(· kernel_rfl)|(with_reducible apply ahk);(case h=>exact q9);(· kernel_rfl);(· kernel_rfl)|(with_reducible apply ahn);(case k=>exact q9);(try (case hz=>rfl));(case hb=>assumption);(try (case hz=>omega));(case ht=>kernel_rfl)|(with_reducible apply ahl);(case k=>exact q9);(· kernel_rfl);(· kernel_rfl);(try (case hz=>rfl));(case hn=>omega);(case hl=>rfl)|(with_reducible apply agt);(case k=>exact q9);(case hf=>kernel_rfl);(case hg=>kernel_rfl);(case hlen=>rfl);(case hl=>exact qN)|(with_reducible apply aho);(case h=>exact q9);(· rfl)|fail)|(apply q0t;intro a9 b9;first|(with_reducible first|apply Zj|apply Zn|apply Zo|apply Zk|apply Zl|apply Zm|apply age|apply agf|apply agh|apply agi|apply agj|apply agk|apply agl|apply agm|apply agn|apply aei);(· exact a9);exact b9|(with_reducible apply agq);(case hT=>exact a9);(case hF=>exact b9);(· exact qO);(· kernel_rfl)|fail)|fail):q→p:=h
theorem q0d {p q:Prop} (h:q→p:=by intro q9;first|(with_reducible refine af2 ?_ ?_);rotate_left;exact q9;omega|(with_reducible refine af3 ?_ ?_);rotate_left;exact q9;omega|(with_reducible refine aga ?_ ?_);rotate_left;exact q9;omega|(with_reducible refine agb ?_ ?_);rotate_left;exact q9;omega|(with_reducible refine agc ?_ ?_);rotate_left;exact q9;omega|(with_reducible refine agd ?_ ?_);rotate_left;exact q9;omega|(with_reducible refine af4 ?_ ?_);rotate_left;exact q9;omega|(with_reducible refine af5 ?_ ?_);rotate_left;exact q9;omega|(with_reducible refine af6 ?_ ?_);rotate_left;exact q9;omega|(with_reducible refine af7 ?_ ?_);rotate_left;exact q9;omega|(with_reducible refine af8 ?_ ?_);rotate_left;exact q9;omega|(with_reducible refine af9 ?_ ?_);rotate_left;exact q9;omega|fail):q→p:=h
theorem aG {p q:Prop} (k:q) (h:q→p:=by exact q0b):p:=h k
theorem bQ {p q:Prop} (k:q) (h:q→p:=by first|exact q0d|exact q0b|fail):p:=h k
end Go.bB
