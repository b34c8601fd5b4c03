/-
 Part 4 of the proof: what the last text leans on.
-/
import Derived.Laws.Pointers
import Derived.Shelf.SlSortCmp.WholeK
import Derived.Shelf.SlSortCmp.NoneTotal
import Derived.Recover
import Derived.Laws.MakeOwn
import Derived.Laws.BytesArg
import Derived.Laws.Concat
import Derived.Laws.Slices
import Derived.Laws.IdiomStrings
import Derived.KernelRfl
import Derived.Test.YteomdhcbhmaiaaaGreatProg
import Derived.Test.YteomdhcbhmaiaaaGreatW3
open Go.Value renaming cells → aa, agg → ai, tuple → ay, ownBlock → fz, int → aF
open Array renaming toList → ab, length_toList → dv, ext' → oQ, getElem?_append_left → jm, getElem?_toList → kA, size_append → mZ, toList_append → lA, replicate → de, getD_eq_getD_getElem? → iZ, getElem?_eq_getElem → mq, getElem?_modify → oR, getElem?_setIfInBounds → dr, getElem?_append → gK, getElem?_replicate → gg
open Go.Instr renaming extract → aB, alloc → ta, box → dR, makeSlice → tU, buildSlice → fM, makeFunc → cL
open List renaming all → aq, length → ao, length_append → ah, append_assoc → aH, getElem?_map → dP, getElem?_eq_getElem → bk, size_toArray → iR, take_left → jW, mem_of_getElem? → cC, toArray → aI, getElem?_eq_none → fy, getD → iG, flatten_cons → gN, ext_getElem? → na, getElem?_drop → mh, length_map → bm, length_drop → nM, eq_nil_of_length_eq_zero → eA, length_take → dx, flatten_append → lB, drop_zero → gu, getElem?_append_left → mr, getElem?_append_right → lP, take_of_length_le → cd, nil_append → dG, getElem?_take → iB, mem_cons_of_mem → dc, getElem?_zip_eq_some → mu, getElem_mem → tc
open Nat renaming le_refl → bF, le_trans → af, lt_of_lt_of_le → aA, zero_add → eh, mul_le_mul_right → hP, add_mul → lQ, zero_le → aP
open Go.Op renaming unary → aQ
open Go.UnOp renaming not → aT
open Option.some renaming injEq → av
open Go.Sem renaming run_bind → bI, run_pure → bZ
open Go.Result renaming andThen_ok → aV
open Go.Builtin renaming append_ → dH, lenOf → kj, zeroCells → iS, firstCells → qq, nextslicecap → py, min_ → gZ
open Option renaming map_some → bc, bind_some → dd, isNone_iff_eq_none → fu
open Bool renaming and_eq_true → aO, not_eq_true' → bX
open Go.Region renaming wanted → bT
open Prod.mk renaming injEq → da
open Go.Sort renaming grow → nN
open Go.Addr renaming add_lit → nO
open Go.World renaming freeze → nP, cell? → td
open Go.Oper renaming wp → ib, upon_value → tV, upon_defer → tW
open Go.Deferred renaming ofValue → ij
open Go.Obj.cells renaming injEq → tX
set_option linter.unusedVariables false
set_option linter.unusedSimpArgs false
namespace Go.aX
open Go.Sort Go.Shelf Go.RowKit Go.Proofs
variable {P : Program} {ρ : Ren} {α : Type}
def UE (W w':World):Prop:= ∃TV,w'=nN W TV
def qL (W w':World):Prop:= ∃q os,w'=nN (W.drewN q) os
theorem qL.refl (W:World):qL W W:=⟨0,#[],by rw [grow_empty];rfl⟩
theorem qL.alloc {W w:World} (h:qL W w) (o:Obj):qL W (w.alloc o):=by
 obtain⟨q,os,rfl⟩:=h;exact⟨q,os.push o,by simp [World.alloc,nN]⟩
theorem qL.trans {W w w':World} (h:qL W w) (k:qL w w'):qL W w':=by
 obtain⟨q,os,rfl⟩:=h;obtain⟨q',TV,rfl⟩:=k;exact⟨q+q',os++TV,by simp [World.drewN,nN,Nat.add_assoc]⟩
theorem qL.row {W w':World} (h:qL W w') {g:Nat} {o:Obj} (hg:W.heap[g]? =some o):w'.heap[g]? =some o:=by
 obtain⟨q,os,rfl⟩:=h
 show(W.heap++os)[g]? =some o
 rw [jm (Array.getElem?_eq_some_iff.1 hg).1,hg]
theorem flat_get [Inhabited α] {enc:α→List Value} {k:Nat} (hk: ∀x,(enc x).length=k) (h0:0<k): ∀(l:List α) (t:Nat),t<l.length*k→((l.map enc).flatten)[t]? =some ((enc l[t/k]!)[t % k]!)
 |[],t,h=>by simp at h
 |x::l,t,h=>by
  rw [List.map_cons,gN];by_cases ht:t<k
  ·rw [mr (by rw [hk];exact ht),Nat.div_eq_of_lt ht,Nat.mod_eq_of_lt ht];have:t<(enc x).length:=by rw [hk];exact ht
   simp [this]
  ·obtain⟨s,rfl⟩: ∃s,t=s+k:=⟨t-k,by omega⟩;rw [lP (by rw [hk];omega),hk,Nat.add_sub_cancel,Nat.add_div_right _ h0,Nat.add_mod_right];have hs:s<l.length*k:=by rw [List.length_cons,Nat.succ_mul] at h;omega
   rw [flat_get hk h0 l s hs];simp
theorem R0 [Inhabited α] {enc:α→List Value} {k:Nat} (hk: ∀x,(enc x).length=k) (h0:0<k) (l:List α):(flatK enc k l.toArray).toList=(l.map enc).flatten:=by
 have hl:((l.map enc).flatten).length=l.length*k:=by
  rw [nI (k:=k) (by intro r hr;obtain⟨x,_,rfl⟩:=List.mem_map.1 hr;exact hk x)];simp
 apply na;intro t;by_cases ht:t<l.length*k
 ·rw [flat_get hk h0 l t ht];have h1:t<(flatK enc k l.toArray).size:=by simpa using ht
  have h2:=get_flatK enc k l.toArray t (by simpa using ht);rw [getElem!_pos (flatK enc k l.toArray) t h1] at h2;rw [kA,mq h1,h2];simp
 ·rw [fy (by simp;omega),fy zQ]
theorem Lf (F cs:Array Value) (h:F.size≤cs.size):(putCells id 0 F cs).toList=F.toList++cs.toList.drop F.size:=by
 apply na;intro t;unfold putCells;rw [kA,Array.getElem?_mapIdx];by_cases ht:t<F.size
 ·rw [mr (by simpa using ht),mq zQ];simp [ht]
 ·rw [lP (by simpa using (by omega:F.size≤t)),mh];simp only [dv,kA];rw [show F.size+(t-F.size)=t by omega];cases cs[t]? with
  |none=>rfl
  |some x=>simp;intro h;omega
theorem VL [Inhabited α] (L:SlLaysF0.n6 P ρ) {k:Nat} (h0:0<k) {e:TypeId} (aE: ∀w,(isAgg (ρ.t 24)).run P w= .ok true w) (zE: ∀w,(Go.sizeOf (ρ.t 24)).run P w= .ok k w) {enc:α→List Value} (hk: ∀x,(enc x).length=k)
  (h1: ∀x,∀v∈enc x,v.oneCell'=true) {cf:α→α→Int} (hO:SWO (ltOf cf)) {g:Nat} (eg: ∀args w,(callFunc g args).run P w= .ok (.enter g args) w)
  (VM: ∀x y W,Calls P g #[.agg (enc x).toArray,.agg (enc y).toArray] W fun e w'=>e= .returned (.int .i64 (cf x y))∧qL W w')
  {w:World} {X:XS} {lo:Nat} {v:Value} {xs:List α} (own:Own w X lo e k v (xs.map enc)) (hb:xs.length<2^61):
  Ct P (ρ.f 6) #[v,.func (.func g) #[] #[]] w X (fV v) fun r _ w'=>r= .tuple #[]∧ ∃ys:List α,ys.Perm xs∧ys.Pairwise (fun a b=>ltOf cf b a=false)∧Own w' (fV v) lo e k v (ys.map enc):=by
 intro w0 WH;have VN:=own.mv WH.mv;have emp: ∀(p:Option Addr) (cap:Nat),v= .slice p 0 cap→xs=[]→Calls P (ρ.f 6) #[v,.func (.func g) #[] #[]] w0 (Ih (fV v) w0 fun r w'=>r= .tuple #[]∧ ∃ys:List α,ys.Perm xs∧ys.Pairwise (fun a b=>ltOf cf b a=false)∧Own w' (fV v) lo e k v (ys.map enc)):=by
  intro p cap hv hx;have ho:Own w0 (fV v) lo e k v (xs.map enc):=⟨VN.1,VN.2.1,fun _ hg=>hg⟩;subst hx;rw [hv] at ho⊢;exact(AnyF.slices_SortFunc_none L p cap (.func (.func g) #[] #[]) w0).mono fun e w' ⟨he,hw⟩=>⟨_,he,by subst hw;exact⟨rfl,rfl,rfl,bF _,fun _ _ _=>rfl⟩,rfl,[],List.Perm.refl _,List.Pairwise.nil,by subst hw;exact ho⟩
 rcases VN.row with⟨hv,he⟩|⟨b,cap,cs,hv,eo,bK,oN,oo,Dd,tY⟩
 ·exact emp none 0 hv (by simpa using he)
 ·rw [bm] at hv oN tY;by_cases hx:xs=[]
  ·exact emp _ cap (by rw [hv,hx];rfl) hx
  have hH:HoldsK enc k w0 b 0 xs.toArray:=by
   intro j hj;have Xd:j<xs.length*k:=by simpa using hj
   have dA:j<cs.length:=by
    rw [Dd];exact aA Xd (hP _ oN)
   have hf:=flat_get hk h0 xs j Xd;rw [←tY,List.getElem?_take_of_lt Xd] at hf;refine⟨?_,?_⟩
   ·unfold td;rw [bK.2];simp only [eh,Option.isSome_none,Bool.false_eq_true,if_false,id];rw [get_flatK enc k _ _ (by simpa using Xd)];simpa using hf
   ·unfold World.frozen?;rw [bK.2];simp
  have hc:=AnyQ.slices_SortFunc L k aE zE enc hk h1 cf hO g #[] b 0 cap xs.toArray w0 eg (fun m os dk _ x y=>(VM x y _).mono fun _ _ ⟨he,q,TV,hw⟩=>⟨he,q,TV,hw⟩) hH bK.lt (by simp;omega);rw [show xs.toArray.size=xs.length by simp] at hc;rw [hv];refine hc.mono ?_;rintro _ w' ⟨rfl,d',n,os,hp,hs,rfl⟩;obtain⟨F9,_,hpp⟩:=hp;have F9:d'.size=xs.length:=by simpa using F9
  have hblk: ∀q,q<w0.heap.size→ ¬fV (.slice (some ⟨b,0,none⟩) xs.length cap) q→q≠b:=fun q _ hq e=>hq (by rw [e];rfl);have Ky:=bK.lt;have R1:(sortWorldK enc k w0 b 0 n d' os).heap=(w0.heap.modify b (onCells (putCells id 0 (flatK enc k d'))))++os:=rfl;have hF:(flatK enc k d').toList=(d'.toList.map enc).flatten:=by
   have:=R0 hk h0 d'.toList;simpa using this
  have hFs:(flatK enc k d').size=xs.length*k:=by rw [size_flatK,F9]
  refine⟨_,rfl,⟨rfl,rfl,rfl,?_,?_⟩,rfl,d'.toList,?_,?_,?_⟩
  ·rw [R1];simp
  ·intro q hq hn;have dO:=hblk q hq hn;rw [R1,jm (by simpa using hq),oR,if_neg (Ne.symm dO)]
  ·have h3:(d'.extract 0 xs.length)=d':=by rw [←F9];simp
   have h4:(xs.toArray.extract 0 xs.length)=xs.toArray:=by simp
   rw [h3,h4] at hpp;simpa using hpp
  ·rw [List.pairwise_iff_getElem];intro i j hi hj WB;have:=hs i j (aP _) WB (by rw [←F9];simpa using hj);rw [getElem!_pos d' j (by simpa using hj),getElem!_pos d' i (by simpa using hi)] at this;simpa using this
  ·have yU:(sortWorldK enc k w0 b 0 n d' os).heap[b]? =some (.cells (putCells id 0 (flatK enc k d') cs.toArray) e (0,0)):=by
    rw [R1,jm (by simpa using Ky),oR,if_pos rfl,bK.2];rfl
   have hle:xs.length*k≤cs.length:=by rw [Dd];exact hP _ oN
   have CP:=Lf (flatK enc k d') cs.toArray (by rw [hFs];simpa using hle);have LQ:bq (sortWorldK enc k w0 b 0 n d' os) (fV (.slice (some ⟨b,0,none⟩) xs.length cap)) b (putCells id 0 (flatK enc k d') cs.toArray).toList e:=⟨rfl,by rw [yU]⟩;refine Own.aaY LQ eo (by intro r hr;obtain⟨x,_,rfl⟩:=List.mem_map.1 hr;exact hk x) (by simpa using F9) oN oo ?_ ?_
   ·rw [CP,ah,nM,dv,hFs];simp;omega
   ·rw [CP,List.take_append_of_le_length (by simp [F9]),cd (by simp [F9]),hF]
theorem XF [Inhabited α] (L:SlLaysF0.n6 P ρ) {k:Nat} (h0:0<k) {e:TypeId} (aE: ∀w,(isAgg (ρ.t 24)).run P w= .ok true w) (zE: ∀w,(Go.sizeOf (ρ.t 24)).run P w= .ok k w) {enc:α→List Value} (hk: ∀x,(enc x).length=k)
  (h1: ∀x,∀v∈enc x,v.oneCell'=true) {cf:α→α→Int} (hO:SWO (ltOf cf)) {g:Nat} (eg: ∀args w,(callFunc g args).run P w= .ok (.enter g args) w)
  (VM: ∀x y W,Calls P g #[.agg (enc x).toArray,.agg (enc y).toArray] W fun e w'=>e= .returned (.int .i64 (cf x y))∧UE W w')
  {w:World} {X:XS} {lo:Nat} {v:Value} {xs:List α} (own:Own w X lo e k v (xs.map enc)) (hb:xs.length<2^61):
  Ct P (ρ.f 6) #[v,.func (.func g) #[] #[]] w X (fV v) fun r _ w'=>r= .tuple #[]∧ ∃ys:List α,ys.Perm xs∧ys.Pairwise (fun a b=>ltOf cf b a=false)∧Own w' (fV v) lo e k v (ys.map enc):=
 VL L h0 aE zE hk h1 hO eg (fun x y W=>(VM x y W).mono fun _ _ ⟨he,os,hw⟩=>⟨he,0,os,hw⟩) own hb
end Go.aX
namespace Go.aX
variable {P : Program} {R : Ending → World → Prop} {X : XS} {w : World} {m : Bool}
section
variable {t ty e k bytes lo : Nat} {v x s : Value} {rows dY : List (List Value)} {row : List Value} {N : Value → World → XS → Prop}
theorem YI (own:Own w X lo e k v rows) (hX: ∀k,X k→k<w.heap.size) (eo:lo≤w.heap.size) (he:lO P t e k bytes=true) (hx:x.cells.toList=row) (hk:(row.length==k)=true)
  (h1:row.all one=true) (hb:(rows.length+1)*bytes≤140737488355328) (hl:rows.length+1≤2^63-1)
  (n: ∀v' w' X',fb (fV v) X w X' w'→Own w' X' lo e k v' (rows++[row])→(v'.ownBlock=v.ownBlock∨ ∃g,v'.ownBlock=some g∧w.heap.size≤g)→N v' w' X'):
  eV P R X w m (fR t e k 1 #[(0,x)]) fun s w1 X1=>eV P R X1 w1 true (gf t e k bytes ty v s) N:=by
 obtain⟨hu,js,xG,z,hi,hz,sY⟩:=ku he;have ae:row.length=k:=by simpa using hk
 have qj:x.cells.size=k:=by rw [←ae,←hx,dv]
 refine uE (rows:=[row]) x.cells z hX hu hz zQ zQ ?_ (by simpa using ae) rfl (by simpa using hx) fun s w1 X1 ax Iu=>?_
 ·simp only [Nat.one_mul];exact xP qj (by simp)
 ·have Jt:lo≤w1.heap.size:=af eo ax.kp.size;refine yr (dY:=[row]) z hu hi sY js ax.has Jt (own.since ax) Iu.sl (by simpa using h1) (by simpa using hb) (by simpa using hl) fun v2 w2 X2 hg ho fe=>?_;refine n v2 w2 X2 ((fb.rI ax (fV v)).trans (hg.fF.mono fun k _ hk=>hk.symm)) ho ?_;rcases fe with h|⟨g,h,ec⟩
  ·exact .inl h
  ·exact .inr ⟨g,h,af ax.kp.size ec⟩
end
def pY (s:ByteArray):List Value:=s.data.toList.map fun b=>.int .u8 b.toNat
theorem EL (s:ByteArray):(pY s).length=s.size:=by unfold pY;rw [bm,dv];rfl
theorem DB (s:ByteArray):(qq 1 s.size (.string s))=(pure (pY s).toArray:Sem (Array Value)):=by
 have hx:(s.extract 0 s.size)=s:=by
  apply ByteArray.ext;simp [ByteArray.data_extract]
 show(pure ((s.extract 0 s.size).data.map fun b=>aF .u8 b.toNat):Sem (Array Value))=_
 rw [hx]
 congr 1
 apply oQ;simp [pY]
theorem B8 (t u ty e:TypeId) (i:TypeInfo) (ht:P.underlying t=some (.slice e)) (hu:P.underlying u=some .string) (hi:P.info? e=some i) (h1:i.size=1)
  (g il nc:Nat) (cur:Array Value) (hg:w.heap[g]? =some (.cells cur e (0,0))) (s:ByteArray) (pM:il+s.size≤nc) (yV:il+s.size≤cur.size):
  (dH #[t,u] ty #[.slice (some ⟨g,0,none⟩) il nc,.string s]).run P w=
   .ok (.slice (some ⟨g,0,none⟩) (il+s.size) nc) (w.setRow g (cur.toList.take il++pY s++cur.toList.drop (il+s.size)).toArray):=by
 have fv:=run_storeCells_at P g il e (pY s) 0 cur w hg (by rw [EL];simpa using yV) (fun v hv=>by
  unfold pY at hv;obtain⟨b,_,rfl⟩:=List.mem_map.1 hv;rfl)
 simp only [Nat.add_zero,EL] at fv;simp [dH,run_underlying ht,run_underlying hu,sizeOf,typeInfo,hi,kj,pM,h1,DB,nO,fv]
theorem B9 (t u ty e:TypeId) (i:TypeInfo) (z:Value) (ht:P.underlying t=some (.slice e)) (hu:P.underlying u=some .string) (hi:P.info? e=some i) (hz:i.zero=some z) (h1:i.size=1)
  (b:Addr) (il nc:Nat) (R2:List Value) (eo:R2.length=il) (holds: ∀j v,R2[j]? =some v→w.cell? (b.add j)=some v) (s:ByteArray)
  (hg:nc<il+s.size) (h63:((il+s.size:Nat):Int)≤9223372036854775807) (yV:py (il+s.size) nc*i.bytes≤281474976710656):
  (dH #[t,u] ty #[.slice (some b) il nc,.string s]).run P w=
   .ok (.slice (some ⟨w.heap.size,0,none⟩) (il+s.size) (grownCap w (il+s.size) nc e))
    (w.drew.alloc (.cells (R2.toArray++(pY s).toArray++iS z.cells (grownCap w (il+s.size) nc e-(il+s.size))) e)):=by
 have hn: ¬(il+s.size≤nc):=by omega
 have ac6: ¬(9223372036854775807<((il:Int)+(s.size:Int))):=by omega
 have ac7: ¬(281474976710656<py (il+s.size) nc*i.bytes):=by omega
 have hfo:=run_firstCells_some (P:=P) w.drew 1 il b il nc R2 zQ (by simpa using holds);simp [dH,run_underlying ht,run_underlying hu,sizeOf,typeInfo,zeroValue,hi,hz,kj,hn,ac6,ac7,Question.forced,DB,h1,hfo,newRow,grownCap]
 congr 2
 apply oQ;simp [aH]
theorem DC (base:Nat) (t u ty e:TypeId) (i:TypeInfo) (z:Value) (bytes:Nat) (ht:P.underlying t=some (.slice e)) (hu:P.underlying u=some .string) (hi:P.info? e=some i) (hz:i.zero=some z)
  (h1:i.size=1) (hby:i.bytes=bytes) (sY:z.cells.size=1) (v:Value) (n:Nat) (xs:List Value) (Aq:w.ownsRow base e 1 v n xs) (s:ByteArray)
  (h63:n+s.size≤maxLen) (TW:(n+s.size)*bytes≤140737488355328) (ab6:base≤w.heap.size):
  ∃v' w',(dH #[t,u] ty #[v,.string s]).run P w= .ok v' w'∧w'.ownsRow base e 1 v' (n+s.size) (xs++pY s)∧w.grownBy w' v.ownBlock∧(v'.ownBlock=v.ownBlock∨v'.ownBlock=some w.heap.size):=by
 subst hby;have Ip:n+s.size≤9223372036854775807:=by simp only [maxLen] at h63;omega
 have hl:=EL s;have Xe:xs.length=n:=by simpa using Aq.1
 have hlen:(xs++pY s).length=(n+s.size)*1:=by rw [ah,Xe,hl];omega
 have grown: ∀(aS:Nat),aS<n+s.size→ ∀(row:Option Nat),
   (w.drew.alloc (.cells (xs.toArray++(pY s).toArray++iS z.cells (grownCap w (n+s.size) aS e-(n+s.size))) e)).ownsRow base e 1
    (.slice (some ⟨w.heap.size,0,none⟩) (n+s.size) (grownCap w (n+s.size) aS e)) (n+s.size) (xs++pY s)∧
   w.grownBy (w.drew.alloc (.cells (xs.toArray++(pY s).toArray++iS z.cells (grownCap w (n+s.size) aS e-(n+s.size))) e)) row:=by
  intro aS ho row;have ec:=grownCap_ge w (n+s.size) aS e;have oo:grownCap w (n+s.size) aS e≤maxLen:=grownCap_le_maxLen w (n+s.size) aS e h63;refine⟨⟨hlen,.inr ⟨w.heap.size,_,_,rfl,ab6,heap_alloc_new w.drew _,ec,oo,?_,?_⟩⟩,⟨rfl,rfl,rfl,by simp,fun k hk _=>by first|exact heap_alloc_old w.drew _ k hk|exact heap_alloc_old w.drew _ hk⟩⟩
  ·simp only [mZ,iR,size_zeroCells,sY,Xe,hl];omega
  ·simp only [lA,aH];rw [←aH,←hlen];exact jW
 rcases Aq.2 with⟨rfl,rfl⟩|⟨g,cap,cur,rfl,ZK,hg,oN,oo,jZ,EM⟩
 ·have hx:xs=[]:=eA Xe;subst hx;by_cases hm:s.size=0
  ·have hn:pY s=[]:=eA (by rw [hl,hm]);refine⟨.slice none 0 0,w,?_,by rw [hm,hn];exact World.ownsRow_nil w base e 1,⟨rfl,rfl,rfl,bF _,fun _ _ _=>rfl⟩,Or.inl rfl⟩;have hf:=DB s;rw [hm,hn] at hf;simp [dH,run_underlying ht,run_underlying hu,sizeOf,typeInfo,hi,kj,hm,h1,hf]
  ·have hr:=run_append_nil_string (P:=P) w t u ty e i z ht hu hi hz s zQ zQ (by have hb:=TW;simp only [eh] at hb;omega);have QU:=grown 0 zQ (fz (.slice none 0 0));have he:(s.data.map fun b:UInt8=>aF .u8 b.toNat)=(pY s).toArray:=by
    apply oQ;simp [pY]
   rw [he] at hr;simp only [eh,dG,Array.empty_append] at QU⊢;exact⟨_,_,hr,QU.1,QU.2,Or.inr rfl⟩
 ·rw [Nat.mul_one] at jZ EM;by_cases pM:n+s.size≤cap
  ·have yV:n+s.size≤cur.size:=by rw [jZ];exact pM
   have hr:=B8 (P:=P) (w:=w) t u ty e i ht hu hi h1 g n cap cur hg s pM yV;refine⟨_,_,hr,⟨hlen,.inr ⟨g,cap,_,rfl,ZK,setRow_heap w g cur _ e _ hg,pM,oo,?_,?_⟩⟩,⟨rfl,rfl,rfl,by simp,fun k _ hk=>setRow_other w g k _ (fun e=>hk (by simp [fz,e]))⟩,Or.inl rfl⟩
   ·simp only [iR,ah,dx,nM,dv,hl];omega
   ·rw [EM,←hlen];exact jW
  ·have holds: ∀j u,xs[j]? =some u→w.cell? ((⟨g,0,none⟩:Addr).add j)=some u:=Aq.cells (g:=g) rfl;have hr:=B9 (P:=P) (w:=w) t u ty e i z ht hu hi hz h1 ⟨g,0,none⟩ n cap xs Xe holds s zQ zQ (growslice_fits zQ TW);have QU:=grown cap zQ (fz (.slice (some ⟨g,0,none⟩) n cap));exact⟨_,_,hr,QU.1,QU.2,Or.inr rfl⟩
theorem aa1 {t u ty e bytes lo:Nat} {v:Value} {s:ByteArray} {rows:List (List Value)} {N:Value→World→XS→Prop} (own:Own w X lo e 1 v rows) (hX: ∀k,X k→k<w.heap.size) (eo:lo≤w.heap.size)
  (he:lO P t e 1 bytes=true) (hu:P.underlying u=some .string) (hb:(rows.length+s.size)*bytes≤140737488355328) (hl:rows.length+s.size≤2^63-1)
  (n: ∀v' w' X',fb (fV v) X w X' w'→Own w' X' lo e 1 v' (rows++(pY s).map fun x=>[x])→(v'.ownBlock=v.ownBlock∨ ∃g,v'.ownBlock=some g∧w.heap.size≤g)→N v' w' X'):
  eV P R X w true (dH #[t,u] ty #[v,.string s]) N:=by
 obtain⟨ht,js,xG,z,hi,hz,sY⟩:=ku he;intro wa hk;have own:=own.kp hk;cases hq:P.info? e with
 |none=>simp [hq] at hi
 |some ie=>
  cases mn:ie.zero with
  |none=>simp [hq,mn] at hi
  |some z'=>
   simp only [hq,mn,dd,bc,av,da] at hi;obtain⟨h1,rfl,rfl⟩:=hi;unfold iy;obtain⟨v',w',hr,BK,hg,fe⟩:=DC (P:=P) (w:=wa) lo t u ty e ie z' ie.bytes ht hu hq mn h1 rfl sY v rows.length rows.flatten own.2.1 s hl hb (af eo hk.size);simp only [vS,bI,hr,aV,bZ];have gL:((pY s).map fun x=>[x]).flatten=pY s:=by
    induction pY s with
    |nil=>rfl
    |cons a l ih=>simp [ih]
   refine⟨⟨hg.os,hg.tape,hg.output,hg.size,fun k zs sQ=>hg.block k zs fun e=>sQ (own.2.2 k e.symm)⟩,n _ _ _ ?_ ⟨?_,?_,?_⟩ ?_⟩
   ·exact⟨hg.os.trans hk.os,hg.tape.trans hk.tape,hg.output.trans hk.output,af hk.size hg.size,
     fun k hx dO=>(hg.block k (aA (hX k hx) hk.size) fun e=>dO e.symm).trans (hk.block k hx),fun k h=>.inl h,
     fun k h=>h.elim (fun h=>aA (hX k h) (af hk.size hg.size)) (fun h=>h.2)⟩
   ·intro r hr;rcases List.mem_append.1 hr with h|h
    ·exact own.1 r h
    ·obtain⟨x,_,rfl⟩:=List.mem_map.1 h;rfl
   ·rw [ah,bm,EL,lB,gL];exact BK
   ·intro g Gc;rcases fe with h|h
    ·exact .inl (own.2.2 g (h▸Gc))
    ·rw [Gc] at h;cases h;exact .inr ⟨bF _,(BK.lt _ Gc).2⟩
   ·rcases fe with h|h
    ·exact .inl h
    ·exact .inr ⟨_,h,hk.size⟩
theorem xQ {f:FuncId} {a b:Value} {N:Value→World→XS→Prop} (h:eC P R X w m f #[a,b] N):eF P R X w m (.func (.func f) #[a] #[]) #[b] N:=by
 have e: ∀wa,(Ai (.func (.func f) #[a] #[]) #[b]).run P wa=(callFunc f #[a,b]).run P wa:=by
  intro wa;simp [Ai,ij,invoke]
 intro wa hk;have:=h wa hk;rw [e wa];exact this
end Go.aX
set_option linter.unusedVariables false
set_option linter.unusedSimpArgs false
namespace Go.aX
variable {P : Program} {R : Ending → World → Prop} {X : XS} {w : World} {m : Bool}
def Ow (w:World) (X:XS) (e k:Nat) (v:Value) (rows:List (List Value)):Prop:=
 (∀r∈rows,r.length=k)∧((v= .slice none 0 0∧rows=[])∨ ∃g off cap cur,v= .slice (some ⟨g,off,none⟩) rows.length cap∧X g∧w.heap[g]? =some (.cells cur e (0,0))∧
  rows.length≤cap∧cap≤maxLen∧off+cap*k≤cur.size∧(cur.toList.drop off).take (rows.length*k)=rows.flatten)
theorem Ow.nil (w:World) (X:XS) (e k:Nat):Ow w X e k (.slice none 0 0) []:=⟨by simp,.inl ⟨rfl,rfl⟩⟩
theorem Own.ow {lo e k:Nat} {v:Value} {rows:List (List Value)} (h:Own w X lo e k v rows):Ow w X e k v rows:=by
 obtain⟨h1,h2,h3⟩:=h;refine⟨h1,?_⟩;rcases h2.2 with⟨rfl,hn⟩|⟨g,cap,cur,rfl,hb,hg,oN,oo,jZ,ht⟩
 ·exact .inl ⟨rfl,eA hn⟩
 ·exact .inr ⟨g,0,cap,cur,rfl,h3 g rfl,hg,oN,oo,by omega,by rw [gu];exact ht⟩
theorem Ow.sl {e k:Nat} {v:Value} {rows:List (List Value)} (h:Ow w X e k v rows):Sl w X k v rows:=by
 obtain⟨h1,⟨rfl,rfl⟩|⟨g,off,cap,cur,rfl,hx,hg,oN,oo,jZ,ht⟩⟩:=h
 ·exact Sl.nil w X k
 ·have hm:cap≤2^63-1:=oo;refine⟨h1,af oN hm,_,cap,rfl,fun _=>⟨g,off,rfl,hx,cur,e,(0,0),hg,fun j v hj=>?_⟩,by simp,oN,hm⟩;rw [←ht,iB,mh] at hj;split at hj
  ·simpa using hj
  ·cases hj
theorem Ow.one {e k:Nat} {v:Value} {rows:List (List Value)} (h:Ow w X e k v rows):one v=true:=h.sl.one
theorem Ow.mono {e k:Nat} {v:Value} {rows:List (List Value)} {Y:XS} (h:Ow w X e k v rows) (hs: ∀k,X k→Y k):Ow w Y e k v rows:=by
 obtain⟨h1,h|⟨g,off,cap,cur,hv,hx,hr⟩⟩:=h
 ·exact⟨h1,.inl h⟩
 ·exact⟨h1,.inr ⟨g,off,cap,cur,hv,hs _ hx,hr⟩⟩
theorem Ow.mv {e k:Nat} {v:Value} {rows:List (List Value)} {w':World} {Y:XS} (h:Ow w X e k v rows) (m:Mv X w Y w'):Ow w' Y e k v rows:=by
 obtain⟨h1,h|⟨g,off,cap,cur,hv,hx,hg,hr⟩⟩:=h
 ·exact⟨h1,.inl h⟩
 ·obtain⟨m1,m2⟩:=m g hx (Array.getElem?_eq_some_iff.1 hg).1;exact⟨h1,.inr ⟨g,off,cap,cur,hv,m1,by rw [m2];exact hg,hr⟩⟩
theorem Ow.kp {e k:Nat} {v:Value} {rows:List (List Value)} {w':World} (h:Ow w X e k v rows) (hk:Kp X w w'):Ow w' X e k v rows:=by
 obtain⟨h1,h|⟨g,off,cap,cur,hv,hx,hg,hr⟩⟩:=h
 ·exact⟨h1,.inl h⟩
 ·exact⟨h1,.inr ⟨g,off,cap,cur,hv,hx,by rw [hk.block g hx];exact hg,hr⟩⟩
theorem Ow.bN {e k:Nat} {v:Value} {rows:List (List Value)} (h:Ow w X e k v rows) {g:Nat} (hg:v.ownBlock=some g):X g∧g<w.heap.size:=by
 obtain⟨h1,⟨rfl,_⟩|⟨g',off,cap,cur,rfl,hx,hb,hr⟩⟩:=h
 ·cases hg
 ·simp only [fz,av] at hg;subst hg;exact⟨hx,(Array.getElem?_eq_some_iff.1 hb).1⟩
theorem Ow.tag {e k:Nat} {v:Value} {rows:List (List Value)} (h:Ow w X e k v rows) {g:Nat} (hg:v.ownBlock=some g): ∃cs:List Value,w.heap[g]? =some (.cells cs.toArray e (0,0)):=by
 obtain⟨h1,⟨rfl,_⟩|⟨g',off,cap,cur,rfl,hx,hb,hr⟩⟩:=h
 ·cases hg
 ·simp only [fz,av] at hg;subst hg;exact⟨cur.toList,by simpa using hb⟩
theorem Ow.dX {Y:XS} {e e' k g:Nat} {v:Value} {rows:List (List Value)} {cs:List Value} (h:Ow w X e k v rows) (hr:bq w Y g cs e') (he:decide (e≠e')=true):v.ownBlock≠some g:=fun hg=>by
 obtain⟨c,h1⟩:=h.tag hg;rw [hr.2] at h1;simp only [av,tX] at h1;exact of_decide_eq_true he h1.2.1.symm
theorem Ow.fF {F X':XS} {w':World} {e k:Nat} {v:Value} {rows:List (List Value)} (h:Ow w X e k v rows) (c:fb F X w X' w') (hd: ∀g,v.ownBlock=some g→ ¬F g):Ow w' X' e k v rows:=by
 obtain⟨h1,h|⟨g,off,cap,cur,rfl,hx,hg,hr⟩⟩:=h
 ·exact⟨h1,.inl h⟩
 ·exact⟨h1,.inr ⟨g,off,cap,cur,rfl,c.sub g hx,by rw [c.block g hx (hd g rfl)];exact hg,hr⟩⟩
theorem Ow.tight {e k:Nat} {v:Value} {rows:List (List Value)} (h:Ow w X e k v rows):Ow w (fV v) e k v rows:=by
 obtain⟨h1,h|⟨g,off,cap,cur,rfl,hx,hr⟩⟩:=h
 ·exact⟨h1,.inl h⟩
 ·exact⟨h1,.inr ⟨g,off,cap,cur,rfl,rfl,hr⟩⟩
theorem xR (t ty e:TypeId) (i:TypeInfo) (ht:P.underlying t=some (.slice e)) (hi:P.info? e=some i)
  (g off il nc:Nat) (cur:Array Value) (hg:w.heap[g]? =some (.cells cur e (0,0)))
  (a:Addr) (m c:Nat) (news:List Value) (hl:news.length=m*i.size) (ab7: ∀j u,news[j]? =some u→w.cell? (a.add j)=some u) (h1: ∀u∈news,u.oneCell'=true)
  (pM:il+m≤nc) (yV:off+il*i.size+news.length≤cur.size):
  (dH #[t,t] ty #[.slice (some ⟨g,off,none⟩) il nc,.slice (some a) m c]).run P w=
   .ok (.slice (some ⟨g,off,none⟩) (il+m) nc) (w.setRow g (cur.toList.take (off+il*i.size)++news++cur.toList.drop (off+il*i.size+news.length)).toArray):=by
 have hf:=run_firstCells_some (P:=P) w i.size m a m c news hl ab7;have fv:=run_storeCells_at P g (off+il*i.size) e news 0 cur w hg (by simpa using yV) h1;simp only [Nat.add_zero] at fv;simp [dH,run_underlying ht,sizeOf,typeInfo,hi,kj,pM,hf,nO,fv]
theorem xS (t ty e:TypeId) (i:TypeInfo) (ht:P.underlying t=some (.slice e)) (hi:P.info? e=some i)
  (b:Addr) (il nc:Nat) (pM:il≤nc):
  (dH #[t,t] ty #[.slice (some b) il nc,.slice none 0 0]).run P w= .ok (.slice (some b) il nc) w:=by
 simp [dH,run_underlying ht,sizeOf,typeInfo,hi,kj,pM,qq,storeCells]
theorem Ix {t ty e k bytes:Nat} {v s:Value} {rows dY:List (List Value)} {N:Value→World→XS→Prop}
  (he:lO P t e k bytes=true)
  (hX: ∀k,X k→k<w.heap.size) (own:Ow w X e k v rows) (src:Sl w X k s dY) (h1: ∀r∈dY,∀u∈r,one u=true)
  (hb:(rows.length+dY.length)*bytes≤140737488355328) (hl:rows.length+dY.length≤2^63-1)
  (n: ∀v' w' X',fb (fV v) X w X' w'→Ow w' X' e k v' (rows++dY)→(v'.ownBlock=v.ownBlock∨ ∃g,v'.ownBlock=some g∧w.heap.size≤g)→N v' w' X'):
  eV P R X w true (gf t e k bytes ty v s) N:=by
 obtain⟨hu,js,xG,z,hi,Ic,sY⟩:=ku he;obtain⟨Iy,⟨rfl,rfl⟩|⟨g,off,cap,cur,rfl,hx,hg,oN,oo,jZ,tY⟩⟩:=own
 ·exact yr (rows:=[]) (dY:=dY) z hu hi sY js hX (aP _) (Own.nil w X 0 e k) src h1 hb hl fun v2 w2 X2 hg ho fe=>
   n v2 w2 X2 (hg.fF.mono fun k _ hk=>hk.symm) ho.ow fe
 ·intro wa hk;have qi:wa.heap[g]? =some (.cells cur e (0,0)):=by rw [hk.block g hx];exact hg
  have src:=src.kp hk;cases hq:P.info? e with
  |none=>simp [hq] at hi
  |some ie=>
   cases mn:ie.zero with
   |none=>simp [hq,mn] at hi
   |some z'=>
    simp only [hq,mn,dd,bc,av,da] at hi;obtain⟨rfl,rfl,rfl⟩:=hi;unfold gf iy;rcases src.src with⟨rfl,rfl⟩|⟨a,c,rfl,yt⟩
    ·have hr:=xS (P:=P) (w:=wa) t ty e ie hu hq ⟨g,off,none⟩ rows.length cap oN;simp only [vS,bI,hr,aV,bZ];have NX:=Ext.refl wa;have hs:=ak.ej hX hk NX;refine⟨Step.ej NX,n _ _ _ (fb.rI hs _) ?_ (.inl rfl)⟩;rw [List.append_nil];exact⟨Iy,.inr ⟨g,off,cap,cur,rfl,.inl hx,qi,oN,oo,jZ,tY⟩⟩
    ·have pJ:dY.flatten.length=dY.length*ie.size:=nI src.1;have LV:rows.flatten.length=rows.length*ie.size:=nI Iy;have Ju: ∀u∈dY.flatten,u.oneCell'=true:=fun u hu=>by
      obtain⟨r,hr,hur⟩:=List.mem_flatten.1 hu;rw [←HE];exact h1 r hr u hur
     have AF: ∀r∈rows++dY,r.length=ie.size:=fun r hr=>by
      rcases List.mem_append.1 hr with h|h
      ·exact Iy r h
      ·exact src.1 r h
     have Xf:rows.length+dY.length≤maxLen:=hl;by_cases pM:rows.length+dY.length≤cap
     ·have hmul:(rows.length+dY.length)*ie.size≤cap*ie.size:=hP _ pM;rw [lQ] at hmul;have hr:=xR (P:=P) (w:=wa) t ty e ie hu hq g off rows.length cap cur qi a dY.length c dY.flatten pJ yt Ju pM zQ;simp only [vS,bI,hr,aV,bZ];have aa2: ∀k,k≠g→(wa.setRow g (cur.toList.take (off+rows.length*ie.size)++dY.flatten++cur.toList.drop (off+rows.length*ie.size+dY.flatten.length)).toArray).heap[k]? =wa.heap[k]? :=fun k hk=>setRow_other wa g k _ hk;refine⟨⟨rfl,rfl,rfl,by simp,fun k zs sQ=>aa2 k fun e=>sQ (e▸hx)⟩,n _ _ _ ?_ ⟨AF,.inr ⟨g,off,cap,_,by rw [ah],.inl hx,setRow_heap wa g cur _ e _ qi,by rw [ah];exact pM,oo,?_,?_⟩⟩ (.inl rfl)⟩
      ·exact⟨hk.os,hk.tape,hk.output,by simpa using hk.size,fun k NX dO=>(aa2 k fun e=>dO (by rw [e];rfl)).trans (hk.block k NX),fun k h=>.inl h,
        fun k h=>h.elim (fun h=>by have:=hX k h;have:=hk.size;simp;omega) (fun h=>h.2)⟩
      ·simp only [iR,ah,dx,nM,dv];omega
      ·have gy:off≤cur.toList.length:=by rw [dv (xs:=cur)];omega
       have e1:(cur.toList.take (off+rows.length*ie.size)).drop off=rows.flatten:=by
        rw [List.drop_take,show off+rows.length*ie.size-off=rows.length*ie.size by omega,tY]
       have Ib:(cur.toList.take (off+rows.length*ie.size)).length=off+rows.length*ie.size:=by rw [dx,dv (xs:=cur)];omega
       rw [aH,List.drop_append_of_le_length zQ,e1,ah,lQ,lB,←aH,←LV,←pJ,←ah];exact jW
     ·have holds: ∀j u,rows.flatten[j]? =some u→wa.cell? ((⟨g,off,none⟩:Addr).add j)=some u:=fun j u hj=>by
       rw [←tY,iB,mh] at hj;split at hj
       ·rw [nO];simp only [td,qi];simpa using hj
       ·cases hj
      have hr:=run_append_grow (P:=P) wa t ty e ie z' hu hq mn ⟨g,off,none⟩ rows.length cap rows.flatten LV holds a dY.length c dY.flatten pJ yt zQ (by simp only [maxLen] at Xf;omega) (growslice_fits zQ hb);simp only [vS,bI,hr,aV,bZ];have ec:=grownCap_ge wa (rows.length+dY.length) cap e;have oo:grownCap wa (rows.length+dY.length) cap e≤maxLen:=grownCap_le_maxLen wa _ cap e Xf;have hblk: ∀k,k<wa.heap.size→(wa.drew.alloc (.cells (rows.flatten.toArray++dY.flatten.toArray++iS z'.cells (grownCap wa (rows.length+dY.length) cap e-(rows.length+dY.length))) e)).heap[k]? =wa.heap[k]? :=fun k hk=>heap_alloc_old wa.drew _ hk;refine⟨⟨rfl,rfl,rfl,by simp,fun k zs _=>hblk k zs⟩,n _ _ _ ?_ ⟨AF,.inr ⟨wa.heap.size,0,_,_,by rw [ah],.inr ⟨bF _,by simp⟩,heap_alloc_new wa.drew _,by rw [ah];exact ec,oo,?_,?_⟩⟩ (.inr ⟨_,rfl,hk.size⟩)⟩
      ·exact⟨hk.os,hk.tape,hk.output,by have:=hk.size;simp;omega,fun k NX _=>(hblk k (aA (hX k NX) hk.size)).trans (hk.block k NX),fun k h=>.inl h,
        fun k h=>h.elim (fun h=>by have:=hX k h;have:=hk.size;simp;omega) (fun h=>h.2)⟩
      ·simp only [mZ,iR,size_zeroCells,sY,LV,pJ,←lQ];rw [eh];apply hP;omega
      ·simp only [lA,gu,aH,lB];rw [←aH,ah,lQ,←LV,←pJ,←ah];exact jW
section
variable {t ty e k bytes : Nat} {v x s : Value} {rows dY : List (List Value)} {row : List Value} {N : Value → World → XS → Prop}
theorem TX (own:Ow w X e k v rows) (hX: ∀k,X k→k<w.heap.size) (he:lO P t e k bytes=true) (hx:x.cells.toList=row) (hk:(row.length==k)=true)
  (h1:row.all one=true) (hb:(rows.length+1)*bytes≤140737488355328) (hl:rows.length+1≤2^63-1)
  (n: ∀v' w' X',fb (fV v) X w X' w'→Ow w' X' e k v' (rows++[row])→(v'.ownBlock=v.ownBlock∨ ∃g,v'.ownBlock=some g∧w.heap.size≤g)→N v' w' X'):
  eV P R X w m (fR t e k 1 #[(0,x)]) fun s w1 X1=>eV P R X1 w1 true (gf t e k bytes ty v s) N:=by
 obtain⟨hu,js,xG,z,hi,Ic,sY⟩:=ku he;have ae:row.length=k:=by simpa using hk
 have qj:x.cells.size=k:=by rw [←ae,←hx,dv]
 refine uE (rows:=[row]) x.cells z hX hu Ic zQ zQ ?_ (by simpa using ae) rfl (by simpa using hx) fun s w1 X1 ax Iu=>?_
 ·simp only [Nat.one_mul];exact xP qj (by simp)
 ·refine Ix (dY:=[row]) he ax.has (own.mv ax.mv) Iu.sl (by simpa using h1) (by simpa using hb) (by simpa using hl) fun v2 w2 X2 hg ho fe=>?_;refine n v2 w2 X2 ((fb.rI ax (fV v)).trans hg) ho ?_;rcases fe with h|⟨g,h,ec⟩
  ·exact .inl h
  ·exact .inr ⟨g,h,af ax.kp.size ec⟩
end
theorem lR {k:Nat} : ∀{rows:List (List Value)} (i:Nat),(∀r∈rows,r.length=k)→(rows.take i).flatten=rows.flatten.take (i*k)
 |_,0,_=>by simp
 |[],i+1,_=>by simp
 |r::rows,i+1,h=>by
  have hr:=h r (by simp);have e1:r.take (k+i*k)=r:=cd zQ;rw [List.take_succ_cons,gN,lR i fun x hx=>h x (dc _ hx),gN,Nat.succ_mul,Nat.add_comm,List.take_append,hr,e1,show k+i*k-k=i*k by omega]
theorem ik.dX {κ α:Type} [DecidableEq κ] {A F:XS} {kv:κ→Value} {rd:World→XS→Value→α→Prop} {l:List (κ×α)} {b g:Nat} {cs:List Value} {e:TypeId} (h:ik w X A b kv rd l) (hr:bq w F g cs e):b≠g:=by
 rintro rfl;obtain⟨es,c,h1,_⟩:=h;have:=h1.2.1;rw [hr.2] at this;cases this
theorem bq.dX {F:XS} {b g:Nat} {cs pR:List Value} {e e':TypeId} (h:bq w X b cs e) (hr:bq w F g pR e') (he:decide (e≠e')=true):b≠g:=by
 rintro rfl;have:=h.2;rw [hr.2] at this;simp only [av,tX] at this;exact of_decide_eq_true he this.2.1.symm
theorem ik.VO {κ α:Type} [DecidableEq κ] {A F:XS} {kv:κ→Value} {rd:World→XS→Value→α→Prop} {l:List (κ×α)} {b e k:Nat} {v:Value} {rows:List (List Value)} (h:ik w X A b kv rd l) (hr:Ow w F e k v rows):v.ownBlock≠some b:=fun hg=>by
 obtain⟨cs,h2⟩:=hr.tag hg;obtain⟨es,c,h1,_⟩:=h;have:=h1.2.1;rw [h2] at this;cases this
section
variable {t : TypeId}
theorem Jv {l:List Value} {N:Value→World→XS→Prop} (hX: ∀k,X k→k<w.heap.size) (hz:(P.info? t).bind (·.zero)=some (.agg l.toArray))
  (n: ∀b w' X',w.heap.size≤b→ak X w X' w'→bq w' X' b l t→N (ptr b 0) w' X'):eV P R X w m (ta t true (.tuple #[])) N:=by
 intro wa hk;unfold iy;have hzv: ∀w,(zeroValue t).run P w= .ok (.agg l.toArray) w:=by
  intro w;cases hi:P.info? t with
  |none=>simp [hi] at hz
  |some inf=>
   have Hy:inf.zero=some (.agg l.toArray):=by simpa [hi] using hz
   simp [zeroValue,typeInfo,hi,Hy]
 have hr:(ta t true (.tuple #[])).run P wa= .ok (ptr wa.heap.size 0) (wa.alloc (.cells l.toArray t)):=by simp [ta,hzv,newVar,newRow,aa]
 simp only [vS,bI,hr,aV,bZ];have hx:Ext wa (wa.alloc (.cells l.toArray t)):=Ext.alloc _ _;exact⟨Step.ej hx,n _ _ _ hk.size (ak.ej hX hk hx) ⟨.inr ⟨bF _,by simp⟩,by simpa using heap_alloc_new wa _⟩⟩
theorem TY {e k bytes c:Nat} {z:Int} {N:Value→World→XS→Prop} (hX: ∀k,X k→k<w.heap.size) (he:lO P t e k bytes=true) (hz:z=c) (hc:c≤2^32) (hb:bytes≤1024) (hk:k≤1024)
  (n: ∀v w' X',ak X w X' w'→Own w' X' w.heap.size e k v []→N v w' X'):eV P R X w m (tU t (I 0) (I z)) N:=by
 subst hz;obtain⟨hu,js,xG,z,hi,Ic,sY⟩:=ku he;intro wa ae;unfold iy;cases hq:P.info? e with
 |none=>simp [hq] at hi
 |some ie=>
  cases mn:ie.zero with
  |none=>simp [hq,mn] at hi
  |some z'=>
   simp only [hq,mn,dd,bc,av,da] at hi;obtain⟨h1,h2,h3⟩:=hi;have hbb:ie.bytes*c≤281474976710656:=by
    have:=Nat.mul_le_mul (show ie.bytes≤1024 by omega) hc;omega
   obtain⟨w',hr,BK,hg⟩:=run_make_own (P:=P) wa w.heap.size t e ie z' k hu hq mn h1 .i64 .i64 c hbb (by simp only [maxLen];omega) ae.size;have HA:(tU t (I 0) (I (c:Int))).run P wa= .ok (.slice (some ⟨wa.heap.size,0,none⟩) 0 c) w':=hr;simp only [vS,bI,HA,aV,bZ];have hx:Ext wa w':=⟨hg.os,hg.tape,hg.output,hg.size,fun k hk _=>hg.block k hk (by simp)⟩;refine⟨Step.ej hx,n _ _ _ (ak.ej hX ae hx) ⟨by simp,BK,fun g Gc=>?_⟩⟩;simp only [fz,av] at Gc;subst Gc;exact .inr ⟨bF _,(BK.lt _ rfl).2⟩
end
structure Ft (w0:World) (F0:XS) (w:World) (X F:XS):Prop where
 s:ak (out F0 w0) w0 X w
 bN: ∀k,F k→X k
 v: ∀k,F k→F0 k∨w0.heap.size≤k
section
variable {w0 w' : World} {F0 F F' G X' A : XS} {Q : Value → World → World → Prop} {N : Value → World → XS → Prop} {f : FuncId} {args : Array Value}
theorem Ft.init (h: ∀k,F0 k→k<w.heap.size):Ft w F0 w (aS w) F0:=⟨ak.out _ _,h,fun _ h=>.inl h⟩
theorem Ft.since (h:Ft w0 F0 w X F) (hs:ak X w X' w'):Ft w0 F0 w' X' F:=⟨h.s.trans hs,fun k hk=>hs.sub k (h.bN k hk),h.v⟩
theorem Ft.no (h:Ft w0 F0 w X F) {k:Nat} (hk:F k) (h0:out F0 w0 k):False:=by
 rcases h.v k hk with h1|h1
 ·exact h0.2 h1
 ·have:=h0.1;omega
theorem Ft.fF (h:Ft w0 F0 w X F) (c:fb G X w X' w') (hG: ∀k,G k→F k) (hF: ∀k,F' k→F k∨(X' k∧w.heap.size≤k)):Ft w0 F0 w' X' F':=by
 refine⟨h.s.fF c fun k h0 hk=>h.no (hG k hk) h0,fun k hk=>?_,fun k hk=>?_⟩
 ·rcases hF k hk with h1|h1
  ·exact c.sub k (h.bN k h1)
  ·exact h1.1
 ·rcases hF k hk with h1|h1
  ·exact h.v k h1
  ·right;have:=h1.2;have:=h.s.kp.size;omega
theorem Ft.less (h:Ft w0 F0 w X F) (hF: ∀k,F' k→F k):Ft w0 F0 w X F':=⟨h.s,fun k hk=>h.bN k (hF k hk),fun k hk=>h.v k (hF k hk)⟩
theorem Ft.more (h:Ft w0 F0 w X F) (hF: ∀k,F' k→F k∨(X k∧w0.heap.size≤k)):Ft w0 F0 w X F':=by
 refine⟨h.s,fun k hk=>?_,fun k hk=>?_⟩
 ·rcases hF k hk with h1|h1
  ·exact h.bN k h1
  ·exact h1.1
 ·rcases hF k hk with h1|h1
  ·exact h.v k h1
  ·exact .inr h1.2
theorem Ft.call (hT:Ft w0 F0 w X F) (h:Ct P f args w X G Q) (hf:enters P f=true) (hG: ∀k,G k→F k)
  (k: ∀v wa w' X',Q v wa w'→w.heap.size≤wa.heap.size→(∀k,made wa w' k→X' k)→Ft w0 F0 w' X' (fun k=>F k∨made wa w' k)→fb G X w X' w'→N v w' X'):eC P R X w true f args N:=by
 refine Rp h hf hT.s.has (fun q hq=>hT.bN q (hG q hq)) fun v wa w' X' hq hle gF WH hc=>k v wa w' X' hq hle gF ?_ hc;exact hT.fF hc hG fun q hq=>hq.imp id fun hm=>⟨gF q hm,af hle hm.1⟩
theorem Ft.fin {v:Value} {Q:Value→World→Prop} (h:Ft w0 F0 w X F) (hq: ∀wa,Kp X w wa→Q v wa):fin (Ih F0 w0 Q) X w v:=QT h.s hq
theorem Ft.jf (h:Ft w0 F0 w X F) {wa:World} (hk:Kp X w wa) (hF: ∀k,F' k→F k): ∀k,F' k→F0 k∨made w0 wa k:=fun k ae=>by
 rcases h.v k (hF k ae)with h1|h1
 ·exact .inl h1
 ·exact .inr ⟨h1,aA (h.s.has k (h.bN k (hF k ae))) hk.size⟩
theorem Ft.lK (h:Ft w0 nX w X F):ak (aX.aS w0) w0 X w:=
 ⟨⟨h.s.kp.os,h.s.kp.tape,h.s.kp.output,h.s.kp.size,fun k ae=>h.s.kp.block k ⟨ae,fun h=>h.elim⟩⟩,fun k ae=>h.s.sub k ⟨ae,fun h=>h.elim⟩,h.s.has⟩
def yw (w0:World) (X:XS):XS:=fun k=>X k∧w0.heap.size≤k
theorem Ft.new (h:Ft w0 F0 w X F):Ft w0 F0 w X (fun k=>F k∨yw w0 X k):=h.more fun k hk=>hk.imp id fun h=>h
theorem Ft.Jw (h:Ft w0 nX w X F):Ft w0 nX w X (yw w0 X):=h.more fun k hk=>.inr hk
theorem fb.fW (c:fb G X w X' w') (h: ∀k,A k→X k∧ ¬G k):Mv A w A w':=fun k hk _=>⟨hk,c.block k (h k hk).1 (h k hk).2⟩
theorem Kp.fW (hk:Kp X w w') (h: ∀k,A k→X k):Mv A w A w':=fun k ae _=>⟨ae,hk.block k (h k ae)⟩
theorem ak.lr (hs:ak X w X' w') (h: ∀k,A k→X k):Mv A w A w':=fun k ae _=>⟨ae,hs.kp.block k (h k ae)⟩
end
theorem ab8 {w0:World} {t ty e k bytes:Nat} {v s:Value} {rows dY:List (List Value)} {N:Value→World→XS→Prop} (hT:Ft w0 nX w X (yw w0 X)) (hO:Ow w (yw w0 X) e k v rows) (he:lO P t e k bytes=true)
  (src:Sl w X k s dY) (h1: ∀r∈dY,∀u∈r,one u=true) (hb:(rows.length+dY.length)*bytes≤140737488355328) (hl:rows.length+dY.length≤2^63-1)
  (n: ∀v' w' X',Ft w0 nX w' X' (yw w0 X')→Ow w' (yw w0 X') e k v' (rows++dY)→fb (fV v) X w X' w'→(v'.ownBlock=v.ownBlock∨ ∃g,v'.ownBlock=some g∧w.heap.size≤g)→N v' w' X'):
  eV P R X w true (gf t e k bytes ty v s) N:=by
 refine Ix he hT.s.has (hO.mono hT.bN) src h1 hb hl fun v' w' X' c ho fe=>?_;have hT':Ft w0 nX w' X' (yw w0 X'):=Ft.Jw (F:=yw w0 X) (hT.fF c (fun k hk=>(hO.bN hk).1) fun k hk=>.inl hk);refine n v' w' X' hT' (ho.tight.mono fun k hk=>⟨(ho.bN hk).1,?_⟩) c fe;have ae:v'.ownBlock=some k:=hk;rcases fe with e|⟨g,e,ec⟩
 ·exact(hO.bN (e▸ae)).1.2
 ·rw [ae] at e;have:k=g:=Option.some.inj e;have:=hT.s.kp.size;omega
def Dj (A B:XS):Prop:= ∀k,A k→B k→False
theorem Dj.symm {A B:XS} (h:Dj A B):Dj B A:=fun k a b=>h k b a
theorem Dj.grow {A B B' C:XS} (h:Dj A B) (hB: ∀k,B' k→B k∨C k) (hc:Dj A C):Dj A B':=fun k a b=>(hB k b).elim (h k a) (hc k a)
theorem Dj.less {A A' B B':XS} (h:Dj A B) (ha: ∀k,A' k→A k) (hb: ∀k,B' k→B k):Dj A' B':=fun k a b=>h k (ha k a) (hb k b)
end Go.aX
set_option linter.unusedVariables false
set_option linter.unusedSimpArgs false
namespace Go.aX
variable {P : Program} {R : Ending → World → Prop} {X : XS} {w : World} {m : Bool}
def AH (w:World) (X:XS) (b:Nat) (cs:List Value) (ty:TypeId):Prop:=X b∧w.heap[b]? =some (.cells cs.toArray ty (cs.length,cs.length+1))
theorem AH.cells {b:Nat} {cs:List Value} {ty:TypeId} (h:AH w X b cs ty):Cells w X b 0 cs:=⟨h.1,_,_,_,h.2,fun j v hj=>by simpa using hj⟩
theorem AH.since {b:Nat} {cs:List Value} {ty:TypeId} {Y:XS} {w':World} (h:AH w X b cs ty) (hs:ak X w Y w'):AH w' Y b cs ty:=⟨hs.sub _ h.1,by rw [hs.kp.block b h.1];exact h.2⟩
theorem PQ (wa:World) (g n:Nat) (cs:Array Value) (e:TypeId) (h:wa.heap[g]? =some (.cells cs e (0,0))):(wa.freeze ⟨g,n,none⟩ 1).heap=wa.heap.setIfInBounds g (.cells cs e (n,n+1)):=by
 unfold nP;rw [if_neg (by decide)];obtain⟨hl,he⟩:=Array.getElem?_eq_some_iff.1 h;apply Array.ext
 ·simp
 ·intro i h1 h2;simp only [Array.getElem_modify,Array.getElem_setIfInBounds];split
  ·rename_i hi;subst hi;rw [he];simp
  ·rename_i hi;exact(Array.getElem_setIfInBounds_ne (by simpa using h2) hi).symm
theorem YJ {t e g n c:Nat} {cs:List Value} {N:Value→World→XS→Prop} (h:bq w X g cs e) (ht:P.underlying t=some (.slice e)) (he:P.underlying e=some (.int .u8)) (hX: ∀k,X k→k<w.heap.size)
  (k: ∀w' X',fb (· =g) X w X' w'→AH w' X' g cs e→N (.slice (some ⟨g,0,none⟩) n c) w' X'):eV P R X w true (convert t t (.slice (some ⟨g,0,none⟩) n c)) N:=by
 intro wa hk;have hb:=(h.kp hk).2;have dA:=(Array.getElem?_eq_some_iff.1 hb).1;have hsh:wa.shape? g=some (e,cs.length):=by unfold World.shape?;rw [hb];simp
 have hr:(convert t t (.slice (some ⟨g,0,none⟩) n c)).run P wa= .ok (.slice (some ⟨g,0,none⟩) n c) (wa.freeze ⟨g,cs.length,none⟩ 1):=by
  simp [convert,run_underlying ht,run_underlying he,markStringish,hsh]
 have hh:=PQ wa g cs.length cs.toArray e hb;unfold iy;simp only [vS,bI,hr,aV,bZ];have hos:(wa.freeze ⟨g,cs.length,none⟩ 1).os=wa.os:=by unfold nP;rw [if_neg (by decide)]
 have htp:(wa.freeze ⟨g,cs.length,none⟩ 1).tape=wa.tape:=by unfold nP;rw [if_neg (by decide)]
 have xe:(wa.freeze ⟨g,cs.length,none⟩ 1).output=wa.output:=by unfold nP;rw [if_neg (by decide)]
 have gy:(wa.freeze ⟨g,cs.length,none⟩ 1).heap.size=wa.heap.size:=by rw [hh];simp
 have hblk: ∀q,q≠g→(wa.freeze ⟨g,cs.length,none⟩ 1).heap[q]? =wa.heap[q]? :=fun q hq=>by rw [hh,dr,if_neg (Ne.symm hq)]
 refine⟨⟨hos,htp,xe,by rw [gy];exact bF _,fun q _ hx=>hblk q fun e=>hx (e▸h.1)⟩,k _ _ ?_ ⟨.inl h.1,by rw [hh,dr,if_pos rfl,if_pos dA]⟩⟩;refine⟨hos.trans hk.os,htp.trans hk.tape,xe.trans hk.output,by rw [gy];exact hk.size,fun q hx dO=>(hblk q dO).trans (hk.block q hx),fun q h=>.inl h,fun q h=>?_⟩;rw [gy];exact h.elim (fun h=>aA (hX q h) hk.size) (fun h=>by have:=h.2;rwa [gy] at this)
theorem ab9 {t b o:Nat} {cs:List Value} {ty:TypeId} {v:Value} {N:Value→World→XS→Prop} (h:AH w X b cs ty) (ht:(P.info? t).map (·.size)=some 1)
  (hl:o<cs.length) (h1:one v=true) (hX: ∀k,X k→k<w.heap.size)
  (n: ∀w' X',fb (· =b) X w X' w'→AH w' X' b (cs.set o v) ty→N undef w' X'):eU P R X w true (st1 t 1 (ptr b o) v) N:=by
 intro wa hk;have hb:wa.heap[b]? =some (.cells cs.toArray ty (cs.length,cs.length+1)):=by rw [hk.block b h.1];exact h.2
 have dA:=(Array.getElem?_eq_some_iff.1 hb).1;have hv:v.cells= #[v]:=ns h1;have yt:wa.cell? ⟨b,o,none⟩=some cs[o]:=by simp [td,hb,hl]
 have ac8:wa.frozen? ⟨b,o,none⟩=false:=by simp [World.frozen?,hb];omega
 have fv:(store ⟨b,o,none⟩ v).run P wa= .ok () (wa.setRow b (cs.toArray.setIfInBounds o v)):=by
  rw [run_store P wa _ v _ (by rw [←HE];exact h1),yt];simp [ac8,setCell_eq_setRow wa b o cs.toArray ty _ v hb]
 have hr:(Instr.storeAt t (ptr b o) v).run P wa= .ok () (wa.setRow b (cs.toArray.setIfInBounds o v)):=by
  cases hi:P.info? t with
  |none=>simp [hi] at ht
  |some i=>
   simp only [hi,bc,av] at ht;simp [Instr.storeAt,Instr.sureAddr,dV,storeVar,sizeOf,typeInfo,hi,ht,hv,storeCells,nO];simpa using fv
 unfold st1 iy;simp only [uS,bI,hr,aV,bZ];have gy:(wa.setRow b (cs.toArray.setIfInBounds o v)).heap.size=wa.heap.size:=by simp
 refine⟨⟨rfl,rfl,rfl,by rw [gy];exact bF _,fun k _ hx=>setRow_other wa b k _ fun e=>hx (e▸h.1)⟩,n _ _ ?_ ⟨.inl h.1,?_⟩⟩
 ·refine⟨hk.os,hk.tape,hk.output,by rw [gy];exact hk.size,fun k hx dO=>?_,fun k h=>.inl h,fun k h=>?_⟩
  ·rw [setRow_other wa b k _ dO,hk.block k hx]
  ·rw [gy];exact h.elim (fun h=>aA (hX k h) hk.size) (fun h=>by have:=h.2;rwa [gy] at this)
 ·have:=setRow_heap wa b cs.toArray (cs.toArray.setIfInBounds o v) ty _ hb;rw [this,List.length_set];simp
def yW (l:List Nat):ByteArray:=⟨(l.map UInt8.ofNat).toArray⟩
theorem KQ (l:List Nat):(yW l).size=l.length:=by simp [yW,ByteArray.size]
theorem YK {src dst e b o cap len:Nat} {l:List Nat} {N:Value→World→XS→Prop} (hlen:len=l.length) (hc:Cells w X b o (l.map fun x:Nat=>aF .u8 x)) (hs:P.underlying src=some (.slice e)) (he:P.underlying e=some (.int .u8)) (hd:P.underlying dst=some .string)
  (hX: ∀k,X k→k<w.heap.size) (n: ∀w' X',ak X w X' w'→N (.string (yW l)) w' X'):eV P R X w m (convert src dst (.slice (some ⟨b,o,none⟩) len cap)) N:=by
 subst hlen;intro wa hk;have hr:=run_convert_bytes_arg (P:=P) wa src e hs he b o l.length cap (l.map fun x:Nat=>(x:Int)) (by simp) (fun i hi=>by
  have:=(hc.kp hk).range i (.int .u8 ((l[i]:Nat):Int)) (by simp [hi]);rw [this];simp [iG,hi]) dst hd
 have e1:strOfNums (l.map fun x:Nat=>(x:Int))=yW l:=by
  unfold strOfNums yW;simp
 rw [e1] at hr;unfold iy;simp only [vS,bI,hr,aV,bZ];have hx:=Ext.refl wa;exact⟨Step.ej hx,n _ _ (ak.ej hX hk hx)⟩
theorem NY {t:TypeId} {a b:ByteArray} {N:Value→Prop} (h:a.size+b.size≤2^62) (k:N (.string (a++b))):ad P X w (binOp .add t (.string a) (.string b)) N:=
 cg (fun wa=>by
  have:=run_string_add_sum (P:=P) wa a b zQ;simp [binOp,this]) k
theorem aca {t e k bytes ty:Nat} {s:Value} {rows:List (List Value)} {m':Bool} {N:Value→World→XS→Prop} (hX: ∀k,X k→k<w.heap.size) (he:lO P t e k bytes=true) (src:Sl w X k s rows) (h1: ∀r∈rows,∀u∈r,one u=true)
  (hb:rows.length*bytes≤140737488355328) (hl:rows.length≤2^63-1)
  (n: ∀v w' X',ak X w X' w'→Ow w' (yw w X') e k v rows→N v w' X'):eV P R X w m (fR t e k 0 #[]) fun a w1 X1=>eV P R X1 w1 m' (gf t e k bytes ty a s) N:=by
 obtain⟨hu,js,xG,z,hi,Ic,sY⟩:=ku he;cases hq:P.info? e with
 |none=>simp [hq] at hi
 |some ie=>
  cases mn:ie.zero with
  |none=>simp [hq,mn] at hi
  |some z'=>
   simp only [hq,mn,dd,bc,av,da] at hi;obtain⟨rfl,rfl,rfl⟩:=hi;intro wa hk;have hr:(fM t 0 #[]).run P wa= .ok (.slice (some ⟨wa.heap.size,0,none⟩) 0 0) (wa.alloc (.cells #[] e)):=by
    simp [fM,run_underlying hu,sizeOf,typeInfo,hq,Instr.fill,newRow];have Na: ∀f:Nat→Value,Array.map f (Array.range 0)= #[]:=fun f=>Array.eq_empty_of_size_eq_zero (by simp);rw [Na]
   unfold fR iy;simp only [vS,bI,hr,aV,bZ];have hx:Ext wa (wa.alloc (.cells #[] e)):=Ext.alloc _ _;have ax:=ak.ej hX hk hx;refine⟨Step.ej hx,?_⟩;intro wb sd;unfold gf iy;have ac9:=(src.since ax).kp sd;have yU:wb.heap[wa.heap.size]? =some (.cells #[] e (0,0)):=by
    rw [sd.block _ (.inr ⟨bF _,by simp⟩)];exact heap_alloc_new wa _
   have gy:=sd.size;have MU:=ax.kp.size;have adX:=(Array.getElem?_eq_some_iff.1 yU).1;rcases ac9.src with⟨rfl,rfl⟩|⟨a,c,rfl,yt⟩
   ·have pV:=xS (P:=P) (w:=wb) t ty e ie hu hq ⟨wa.heap.size,0,none⟩ 0 0 (bF _);simp only [vS,bI,pV,aV,bZ];have dJ:=ak.ej ax.has sd (Ext.refl wb);exact⟨Step.ej (Ext.refl _),n _ _ _ (ax.trans dJ) ⟨by simp,.inr ⟨wa.heap.size,0,0,#[],rfl,⟨.inl (.inr ⟨bF _,by simp⟩),hk.size⟩,yU,bF _,aP _,by simp,by simp⟩⟩⟩
   ·have pJ:rows.flatten.length=rows.length*ie.size:=nI src.1;by_cases h0:rows=[]
    ·subst h0;have pV:=xR (P:=P) (w:=wb) t ty e ie hu hq wa.heap.size 0 0 0 #[] yU a 0 c [] (by simp) (by simp) (by simp) (bF _) (by simp);have e0:wb.setRow wa.heap.size (#[].toList.take (0+0*ie.size)++[]++ #[].toList.drop (0+0*ie.size+([]:List Value).length)).toArray=wb:=by
      have:=setRow_self wb wa.heap.size #[] e (0,0) yU;simpa using this
     rw [e0] at pV;have ql:(dH #[t,t] ty #[.slice (some ⟨wa.heap.size,0,none⟩) 0 0,.slice (some a) ([]:List (List Value)).length c]).run P wb= .ok (.slice (some ⟨wa.heap.size,0,none⟩) 0 0) wb:=pV;simp only [vS,bI,ql,aV,bZ];have dJ:=ak.ej ax.has sd (Ext.refl wb);exact⟨Step.ej (Ext.refl _),n _ _ _ (ax.trans dJ) ⟨by simp,.inr ⟨wa.heap.size,0,0,#[],rfl,⟨.inl (.inr ⟨bF _,by simp⟩),hk.size⟩,yU,bF _,aP _,by simp,by simp⟩⟩⟩
    ·have RK:0<rows.length:=List.length_pos_iff.2 h0;have pV:=run_append_grow (P:=P) wb t ty e ie z' hu hq mn ⟨wa.heap.size,0,none⟩ 0 0 [] (by simp) (by simp) a rows.length c rows.flatten pJ yt zQ zQ (growslice_fits zQ (by simpa using hb));simp only [eh] at pV;simp only [vS,bI,pV,aV,bZ];have ec:=grownCap_ge wb rows.length 0 e;have oo:grownCap wb rows.length 0 e≤maxLen:=grownCap_le_maxLen wb _ 0 e hl;have hx2:Ext wb (wb.drew.alloc (.cells ([].toArray++rows.flatten.toArray++iS z'.cells (grownCap wb rows.length 0 e-rows.length)) e)):=⟨rfl,rfl,rfl,by simp,fun k hk _=>heap_alloc_old wb.drew _ hk⟩;have dJ:=ak.ej ax.has sd hx2;have gF:w.heap.size≤wb.heap.size:=af MU gy;refine⟨Step.ej hx2,n _ _ _ (ax.trans dJ) ⟨src.1,.inr ⟨wb.heap.size,0,_,_,rfl,⟨.inr ⟨bF _,by simp⟩,gF⟩,heap_alloc_new wb.drew _,ec,oo,?_,?_⟩⟩⟩
     ·simp only [mZ,iR,size_zeroCells,sY,pJ,List.length_nil,eh,←lQ];apply hP;omega
     ·simp only [lA,gu,dG];rw [←pJ];exact jW
theorem yj {t b o o':Nat} {cs:List Value} {ty:TypeId} {v:Value} {N:Value→World→XS→Prop} (h:bq w X b cs ty) (NZ:o'=o) (ht:(P.info? t).map (·.size)=some 1)
  (hl:o<cs.length) (h1:one v=true) (hX: ∀k,X k→k<w.heap.size)
  (n: ∀w' X',fb (· =b) X w X' w'→bq w' X' b (cP cs o [v]) ty→N undef w' X'):eU P R X w true (st1 t 1 (ptr b o') v) N:=by
 subst NZ;have hv:=ns h1;refine wK h ht zQ (by rw [hv];rfl) (by rw [hv];simp [h1]) hX fun w' X' c hr=>n w' X' c ?_;rw [hv] at hr;exact hr
theorem yh {t sz b o o':Nat} {cs:List Value} {ty:TypeId} {v:Value} {N:Value→World→XS→Prop} (h:bq w X b cs ty) (NZ:o'=o) (ht:(P.info? t).map (·.size)=some sz)
  (hl:o+sz≤cs.length) (hv:v.cells.size=sz) (h1:v.cells.toList.all one=true) (hX: ∀k,X k→k<w.heap.size)
  (n: ∀w' X',fb (· =b) X w X' w'→bq w' X' b (cP cs o v.cells.toList) ty→N undef w' X'):eU P R X w true (st1 t sz (ptr b o') v) N:=by
 subst NZ;exact wK h ht hl hv h1 hX n
variable {P : Program}
theorem aa3 {pl:ba} {fn:Func} {args:Array Value} {w:World} (hn:fn.ntmps=pl.n) (W1:args.size≤pl.n) (rH:(pl.boxes.all fun p=>decide (args.size≤p.1))=true):
  dQ pl ⟨[],[]⟩ .start (jJ args) (aS w) w { tmps:=args++de (fn.ntmps-args.size) undef,defers:=[] } w:=by
 have RI:(args++de (fn.ntmps-args.size) undef).size=pl.n:=by simp;omega
 have GS: ∀s,s<pl.n→(args++de (fn.ntmps-args.size) undef)[s]? =some (jJ args s):=by
  intro s hs;rw [gK];split
  ·rename_i h1;simp [jJ,iG,h1]
  ·rename_i h1;rw [gg,if_pos zQ];simp only [jJ,iG];rw [fy (by simpa using h1)];rfl
 have Du: ∀b n,look pl.boxes b=some n→jJ args b=undef:=by
  intro b n hb;have h1:=List.all_eq_true.1 rH _ (uu hb);simp only [decide_eq_true_eq] at h1;simp only [jJ,iG];rw [fy (by simpa using h1)];rfl
 exact {
  size:=RI
  defers:=rfl
  rP:=fun _ hp=>(by cases hp)
  ext:=Kp.refl _ _
  oZ:=fun _ hk=>hk
  lx:=fun s hs=>GS s (lY hs).1
  sig:=fun _ hp=>(by cases hp)
  box:=fun b n hb cells hc=>by rw [Du b n hb] at hc;cases hc
  inj:=fun b b' n n' hb fp h1=>by rw [Du b n hb] at h1;cases h1
  conv:=fun b n hb k hk=>by
   have h1:=List.all_eq_true.1 rH _ (uu hb);simp only [decide_eq_true_eq] at h1;rw [gK,if_neg zQ,gg] at hk;split at hk
   ·cases hk
   ·cases hk
  live:=fun _ hp=>(by cases hp)
  ptr:=fun _ hp=>(by cases hp) }
theorem dQ.defs {pl:ba} {ds:Bk} {Dr:List Deferred} {cs:CS} {env:Env} {X:XS} {w0 w:World} {a:Act} (h:dQ pl ds cs env X w0 a w):dQ pl ⟨Dr,ds.pins⟩ cs env X w0 { a with defers:=Dr } w:=
 ⟨h.size,rfl,h.rP,h.ext,h.oZ,h.lx,h.sig,h.box,h.inj,h.conv,h.live,h.ptr⟩
def Xg (P:Program) (pl:ba) (fn:Func):Option FT:=
 if fn.ntmps==pl.n then match fn.body with
  |some (.seq (.region _ AI false) (.seq (.region _ uI false) rest))=>match uI.toList with
   |[mk,df]=>match mk.op,mk.guard,mk.dst,df.op,df.guard,df.dst with
    | .makeFunc (.func _) ⟨[]⟩ _,none,some d',.defer ⟨.value (.tmp d),⟨[]⟩,_⟩,none,none=>match Ak P pl AI AI.toList .start,iX P pl rest,wY P pl fn.results.toList with
     |some t0,some t2,some (r,n)=>if d'==d&&decide (d<pl.n)&&(look pl.boxes d).isNone&&!pl.gS d then some ⟨.seq (.Cz t0) t2,r,n⟩else none
     |_,_,_=>none
    |_,_,_,_,_,_=>none
   |_=>none
  |_=>none
 else none
def mg (fn:Func):Option FuncId:=match fn.body with
 |some (.seq _ (.seq (.region _ uI _) _))=>match uI.toList with
  |[mk,_]=>match mk.op with
   | .makeFunc (.func g) _ _=>some g
   |_=>none
  |_=>none
 |_=>none
def Idle (P:Program) (g:FuncId):Prop:=enters P g=true∧ ∀fh w,CallsD P g fh .returning w fun e u' w'=>(∃x,e= .returned x)∧u'= .returning∧w'=w
theorem dQ.aside {pl:ba} {ds:Bk} {env:Env} {X:XS} {w0 w:World} {a:Act} {d:Nat} {v:Value} (h:dQ pl ds .start env X w0 a w) (hd:d<pl.n) (hb:look pl.boxes d=none) (hg:pl.gS d=false):
  dQ pl ds .start env X w0 (a.put (some d) v) w:=by
 have ne: ∀b n,look pl.boxes b=some n→b≠d:=fun b n fp e=>by rw [e,hb] at fp;cases fp
 have gy:d<a.tmps.size:=by rw [h.size];exact hd
 exact {
  size:=by simp [Act.put,h.size]
  defers:=h.defers
  rP:=fun p hp=>by
   obtain⟨ht,h2⟩:=h.rP p hp;refine⟨?_,h2⟩;have dO:p.1≠d:=fun e=>by
    rcases h2 with⟨n,_,hn,_⟩|qi
    ·exact ne p.1 n hn e
    ·rw [e,hg] at qi;cases qi
   rw [eb _ _ _ _ dO];exact ht
  ext:=h.ext
  oZ:=h.oZ
  lx:=fun s hs=>by
   have yy:s≠d:=fun e=>by rw [e,hg] at hs;cases hs
   rw [eb _ _ _ _ yy];exact h.lx s hs
  sig:=fun _ hp=>(by cases hp)
  box:=fun b n fp cells hc=>by
   obtain⟨k,ty,h1,h2⟩:=h.box b n fp cells hc;exact⟨k,ty,by rw [eb _ _ _ _ (ne b n fp)];exact h1,h2⟩
  inj:=fun b b' n n' h1 h2 h3 h4 k h5 h6=>h.inj b b' n n' h1 h2 h3 h4 k (by rwa [eb _ _ _ _ (ne b n h1)] at h5) (by rwa [eb _ _ _ _ (ne b' n' h2)] at h6)
  conv:=fun b n fp k hk=>h.conv b n fp k (by rwa [eb _ _ _ _ (ne b n fp)] at hk)
  live:=fun _ hp=>(by cases hp)
  ptr:=fun _ hp=>(by cases hp) }
def isSimple:TI→Bool
 | .box .. =>true
 | .sj .. =>true
 | .yP _=>true
 | .set .. =>true
 |_=>false
def te:List TI→Env→Env
 |[],e=>e
 | .box b _ x::l,e=>te l (jd e b (.agg (x.ev e).cells))
 | .sj b x::l,e=>te l (jd e b (.agg #[x.ev e]))
 | .set d x::l,e=>te l (jd e d (x.ev e))
 |_::l,e=>te l e
theorem qs {fI:List PanicEntry→Env→World→XS→Prop} {next:Env→World→XS→Prop} {w:World} {X:XS} : ∀(l:List TI) (env:Env),l.all isSimple=true→fg P fI next l env w X→
  fg P fI (fun e w' X'=>e=te l env∧next e w' X') l env w X
 |[],env,_,h=>⟨rfl,h⟩
 |i::l,env,hs,h=>by
  rw [List.all_cons,aO] at hs;obtain⟨h1,h2⟩:=hs;cases i with
  |box b n x=>exact cX.2 ⟨(cX.1 h).1,qs l _ h2 (cX.1 h).2⟩
  |sj b x=>exact cX.2 ⟨(cX.1 h).1,qs l _ h2 (cX.1 h).2⟩
  |yP b=>exact cX.2 ⟨(cX.1 h).1,qs l _ h2 (cX.1 h).2⟩
  |set d x=>exact qs l _ h2 h
  |_=>cases h1
def pz:List Operand→Option (List Nat)
 |[]=>some []
 | .tmp b::l=>(pz l).map (b:: ·)
 |_::_=>none
def aa4:Value→Option Value
 | .agg ⟨[v]⟩=>some v
 |_=>none
def Iz:List Nat→Bool
 |[]=>true
 |b::l=>!zj l b&&Iz l
def Jx (P:Program) (pl:ba) (fn:Func) (args:Array Value):Option (FuncId×List Nat×List (Option Value)):=
 match fn.body with
 |some (.seq (.region _ AI false) (.seq (.region _ uI false) rest))=>match uI.toList with
  |[mk,_]=>match mk.op with
   | .makeFunc (.func g) _ EN=>match pz EN.toList,Ak P pl AI AI.toList .start,iX P pl rest with
    |some cb,some t0,some t2=>if t0.all isSimple&&Iz cb&&cb.all (fun b=>(look pl.boxes b).isSome&&bP (te t0 (jJ args) b)&&!zj t2.mk b)then
      some (g,cb,cb.map fun b=>if zj t2.wr b then none else aa4 (te t0 (jJ args) b))else none
    |_,_,_=>none
   |_=>none
  |_=>none
 |_=>none
theorem Gd: ∀{l:List Operand} {cb:List Nat},pz l=some cb→l=cb.map .tmp
 |[],cb,h=>by simp only [pz,av] at h;subst h;rfl
 |x::l,cb,h=>by
  cases x with
  |tmp b=>
   simp only [pz,Option.map_eq_some_iff] at h;obtain⟨c,h1,rfl⟩:=h;rw [Gd h1];rfl
  |const v=>simp [pz] at h
  |global v=>simp [pz] at h
  |func v=>simp [pz] at h
theorem QV {tmps:Array Value} : ∀(cb:List Nat),(∀b∈cb,∃k,tmps[b]? =some (dV k 0))→ ∃ks:List Nat,ks.length=cb.length∧ ∀(i:Nat) b,cb[i]? =some b→ ∃k,ks[i]? =some k∧tmps[b]? =some (dV k 0)
 |[],_=>⟨[],rfl,fun i b h=>by simp at h⟩
 |b::cb,h=>by
  obtain⟨k,hk⟩:=h b (by simp);obtain⟨ks,h1,h2⟩:=QV cb fun c hc=>h c (dc _ hc);refine⟨k::ks,by simp [h1],fun i c hc=>?_⟩;cases i with
  |zero=>simp only [List.getElem?_cons_zero,av] at hc;subst hc;exact⟨k,rfl,hk⟩
  |succ i=>simpa using h2 i c (by simpa using hc)
theorem Ge: ∀{l:List Nat},Iz l=true→l.Nodup
 |[],_=>List.nodup_nil
 |b::l,h=>by
  simp only [Iz,aO,bX] at h;exact List.nodup_cons.2 ⟨fun hm=>by
   rw [wT.2 hm] at h;exact absurd h.1 (by simp),Ge h.2⟩
theorem Jy {α:Type} {cb:List Nat} {ks:List α} {p:Nat×α} (h:p∈cb.zip ks): ∃i:Nat,cb[i]? =some p.1∧ks[i]? =some p.2:=by
 obtain⟨i,hi,e⟩:=List.getElem_of_mem h;refine⟨i,?_⟩;have h2:(cb.zip ks)[i]? =some p:=by rw [bk hi,e]
 rw [mu] at h2;exact h2
structure Outside (ks:List Nat) (w wa:World):Prop where
 os:wa.os=w.os
 tape:wa.tape=w.tape
 output:wa.output=w.output
 size:w.heap.size≤wa.heap.size
 block: ∀k,k<w.heap.size→ ¬k∈ks→wa.heap[k]? =w.heap[k]?
theorem Outside.refl (ks:List Nat) (w:World):Outside ks w w:=⟨rfl,rfl,rfl,bF _,fun _ _ _=>rfl⟩
theorem Outside.trans {ks:List Nat} {a b c:World} (h:Outside ks a b) (k:Outside ks b c):Outside ks a c:=
 ⟨k.os.trans h.os,k.tape.trans h.tape,k.output.trans h.output,af h.size k.size,fun i hl hi=>(k.block i (aA hl h.size) hi).trans (h.block i hl hi)⟩
theorem Outside.kp {ks:List Nat} {X:XS} {w0 w wa:World} (h:Outside ks w wa) (k:Kp X w0 w) (hl: ∀i,X i→i<w.heap.size) (hX: ∀i,i∈ks→ ¬X i):Kp X w0 wa:=
 ⟨h.os.trans k.os,h.tape.trans k.tape,h.output.trans k.output,af k.size h.size,fun i hi=>(h.block i (hl i hi) fun hm=>hX i hm hi).trans (k.block i hi)⟩
def IA (P:Program) (pl:ba) (fn:Func) (R:Ending→World→Prop) (g:FuncId) (cb:List Nat) (cv:List (Option Value)) (RP:List PanicEntry→World→Prop):Prop:=
 ∀(ks:List Nat) (R3:List (Array Value)) ch w',ks.length=cb.length→R3.length=cb.length→ks.Nodup→(∀(i:Nat) k cells,ks[i]? =some k→R3[i]? =some cells→ ∃ty,w'.heap[k]? =some (.cells cells ty (0,0)))→
  (∀(i:Nat) v cells,cv[i]? =some (some v)→R3[i]? =some cells→cells= #[v])→(∀(i:Nat) b n cells,cb[i]? =some b→look pl.boxes b=some n→R3[i]? =some cells→cells.size=n)→(∀wa,Outside ks w' wa→RP ch wa)→
  CallsD P g (ks.map fun k=>dV k 0).toArray (.panicking ch) w' fun e u iH=>(∃x,e= .returned x)∧settle u= .returning∧ ∃v,R (.returned v) iH∧
   ∀tmps:Array Value,(∀(i:Nat) b k,cb[i]? =some b→ks[i]? =some k→tmps[b]? =some (dV k 0))→(results fn tmps).run P iH= .ok v iH
def EO (R:Ending→World→Prop) (RP:List PanicEntry→World→Prop):Ending→World→Prop
 | .panicked ch,w=>RP ch w
 |e,w=>R e w
theorem qt {P:Program} {fI:List PanicEntry→Env→World→XS→Prop} {next:Env→World→XS→Prop} {w:World} {X:XS} : ∀(l:List TI) (env:Env),l.all isSimple=true→fg P fI next l env w X→
  fg P (fun _ _ _ _=>False) next l env w X
 |[],env,_,h=>h
 |i::l,env,hs,h=>by
  rw [List.all_cons,aO] at hs;obtain⟨h1,h2⟩:=hs;cases i with
  |box b n x=>exact cX.2 ⟨(cX.1 h).1,qt l _ h2 (cX.1 h).2⟩
  |sj b x=>exact cX.2 ⟨(cX.1 h).1,qt l _ h2 (cX.1 h).2⟩
  |yP b=>exact cX.2 ⟨(cX.1 h).1,qt l _ h2 (cX.1 h).2⟩
  |set d x=>exact qt l _ h2 h
  |_=>cases h1
theorem TZ {l:List Nat} (h: ∀(i j:Nat) k,l[i]? =some k→l[j]? =some k→i=j):l.Nodup:=
 List.pairwise_iff_getElem.2 fun i j hi hj WB e=>by
  have:=h i j l[i] (bk hi) (by rw [e];exact bk hj);omega
theorem tf {f:FuncId} {fn:Func} {pl:ba} {args:Array Value} {w:World} {R:Ending→World→Prop} {RP:List PanicEntry→World→Prop} {g0:FuncId} {cb:List Nat} {cv:List (Option Value)} {V:Prop} (hf:P.funcs[f]? =some fn)
  (hs:(decide (args.size≤pl.n)&&pl.boxes.all fun p=>decide (args.size≤p.1))=true) (iz: ∀g,mg fn=some g→Idle P g) (lC:Jx P pl fn args=some (g0,cb,cv)) (tY:IA P pl fn R g0 cb cv RP) (hv:V=GR P (Xg P pl fn) (EO R RP) args w) (h:V):Calls P f args w R:=by
 subst hv;unfold GR at h;simp only [aO,decide_eq_true_eq] at hs;split at h;case h_2=>exact h.elim
 rename_i ft hc;unfold Xg at hc;split at hc;case isFalse=>cases hc
 rename_i hn;have jE:fn.ntmps=pl.n:=by simpa using hn
 split at hc;case h_2=>cases hc
 rename_i _ id0 AI id1 uI rest hb;split at hc;case h_2=>cases hc
 rename_i _ mk df Jz;split at hc;case h_2=>cases hc
 rename_i _ _ _ _ _ _ g EN d' d Nx JA hmg WO VP N9 SQ;split at hc;case h_2=>cases hc
 rename_i _ _ _ t0 t2 r nd pS kc Jq;split at hc;case isFalse=>cases hc
 rename_i lF;simp only [aO,beq_iff_eq,bX,decide_eq_true_eq,fu] at lF;obtain⟨⟨⟨TG,gM⟩,Xh⟩,VQ⟩:=lF;subst TG;injection hc with hc
 subst hc;have hG:mg fn=some g:=by unfold mg;rw [hb];simp [Jz,JA]
 obtain⟨VR,R4⟩:=iz g hG;unfold Jx at lC;rw [hb] at lC;dsimp only at lC;rw [Jz] at lC;dsimp only at lC;rw [JA] at lC;dsimp only at lC;rw [pS,kc] at lC;split at lC;case h_2=>cases lC
 rename_i _ _ _ pA t0' t2' jZ e0 e2;cases e0;cases e2;split at lC;case isFalse=>cases lC
 rename_i sK;simp only [aO,List.all_eq_true,bX] at sK;obtain⟨⟨Xi,su⟩,rH⟩:=sK;simp only [av,da] at lC;obtain⟨rfl,rfl,rfl⟩:=lC;have aa5:=Gd jZ;have VS:=aa3 (w:=w) jE hs.1 (by simpa using hs.2);refine calls_of_wp_defers hf hb ?_
 let K:=MG ⟨.seq (.Cz t0) t2,r,nd⟩ (EO R RP)
 have h0:fg P (fun ch=>K (.panic ch)) (fun e w X=>den P t2 K e w X) t0 (jJ args) w (aS w):=h;replace h0:=qs t0 _ (List.all_eq_true.2 Xi) h0;have h0':fg P (fun _ _ _ _=>False) (fun e w' X'=>e=te t0 (jJ args)∧den P t2 K e w' X') t0 (jJ args) w (aS w):=qt t0 _ (List.all_eq_true.2 Xi) h0;refine wp_seq (wp_region_list (HI (P:=P) (pl:=pl) (ds:=⟨[],[]⟩) ?_ ?_ AI.toList .start t0 _ _ _ _ _ pS (fun _ _ _ hp=>by cases hp) VS h0'));case refine_2=>exact fun ch a' w' cQ X' dF _ hk _ hq=>hq.elim
 rintro CI a1 w1 xM X1 Xj ax ⟨aa6,MX⟩;replace ax:=ax.drop
 show(Code.seq (Code.region id1 uI false) rest).wp P (bodyPostD P fn R) a1 w1
 have sd: ∀b∈pA,(∃n,look pl.boxes b=some n)∧ ∃k,a1.tmps[b]? =some (dV k 0):=fun b fp=>by
  have h1:=rH b fp;obtain⟨⟨h1,h2⟩,h3⟩:=h1;obtain⟨n,hn⟩:=Option.isSome_iff_exists.1 h1;rw [←aa6] at h2;obtain⟨cells,Dd⟩:=oq.1 h2;obtain⟨k,ty,g1,_⟩:=ax.box b n hn cells Dd;exact⟨⟨n,hn⟩,k,g1⟩
 obtain⟨ks,zs,vW⟩:=QV pA fun b fp=>(sd b fp).2;have acb: ∀p,p∈pA.zip (ks.map fun k=>dV k 0)→a1.tmps[p.1]? =some p.2∧((∃n k,look pl.boxes p.1=some n∧p.2=dV k 0)∨pl.gS p.1=true):=fun p hp=>by
  obtain⟨i,g1,g2⟩:=Jy hp;obtain⟨k,g3,g4⟩:=vW i p.1 g1;rw [dP,g3] at g2;simp only [bc,av] at g2;obtain⟨⟨n,hn⟩,_⟩:=sd p.1 (cC g1);exact⟨by rw [←g2];exact g4,.inl ⟨n,k,hn,g2.symm⟩⟩
 have ada:ks.Nodup:=by
  have ZI:=Ge su;refine TZ fun i j k hi hj=>?_;have FP:i<pA.length:=by rw [←zs];exact(List.getElem?_eq_some_iff.1 hi).1
  have Ij:j<pA.length:=by rw [←zs];exact(List.getElem?_eq_some_iff.1 hj).1
  have gi:pA[i]? =some pA[i]:=bk FP;have gj:pA[j]? =some pA[j]:=bk Ij;obtain⟨k1,e1,f1⟩:=vW i _ gi;obtain⟨k2,e2,f2⟩:=vW j _ gj;rw [hi] at e1;cases e1;rw [hj] at e2;cases e2;obtain⟨⟨m1,Bx⟩,_⟩:=sd pA[i] (tc FP);obtain⟨⟨m2,wh⟩,_⟩:=sd pA[j] (tc Ij);have:=ax.inj pA[i] pA[j] m1 m2 Bx wh (ax.conv _ _ Bx _ f1) (ax.conv _ _ wh _ f2) k f1 f2;exact(List.getElem_inj ZI).1 this
 refine wp_seq (wp_region_list ?_);rw [Jz];have Ga:bT mk (yielded uI a1.tmps)=true:=by simp [bT,hmg]
 have Xk:EN.map a1.eval=(ks.map fun k=>dV k 0).toArray:=by
  apply oQ;rw [Array.toList_map,aa5,List.map_map];refine na fun i=>?_;rw [dP,dP];cases SX:pA[i]? with
  |none=>
   have:ks[i]? =none:=by rw [List.getElem?_eq_none_iff] at SX⊢;omega
   rw [this];rfl
  |some b=>
   obtain⟨k,g1,g2⟩:=vW i b SX;rw [g1];simp [Act.eval,iZ,g2]
 have IB:(execOp a1.eval mk).run P w1= .ok (.value (.func (.func g) #[] (ks.map fun k=>dV k 0).toArray)) w1:=by
  rw [←Xk];simp [execOp,JA,cL]
 have acd: ∀b∈pA,b≠d':=fun b fp e=>by
  obtain⟨⟨n,hn⟩,_⟩:=sd b fp;rw [e,Xh] at hn;cases hn
 clear Xk;generalize hcg:(ks.map fun k=>dV k 0).toArray=fh at IB;unfold wpList;rw [if_pos Ga];left;unfold ib;rw [IB,tV,WO];have dJ:=ax.aside (v:=.func (.func g) #[] fh) gM Xh VQ;have CH:(a1.put (some d') (.func (.func g) #[] fh)).eval (.tmp d')= .func (.func g) #[] fh:=by
  have:d'<a1.tmps.size:=by rw [ax.size];exact gM
  simp [Act.eval,Act.put,iZ,this]
 have T9: ∀p,p∈pA.zip (ks.map fun k=>dV k 0)→(a1.put (some d') (.func (.func g) #[] fh)).tmps[p.1]? =some p.2∧((∃n k,look pl.boxes p.1=some n∧p.2=dV k 0)∨pl.gS p.1=true):=fun p hp=>by
  obtain⟨g1,g2⟩:=acb p hp;obtain⟨i,g3,_⟩:=Jy hp;exact⟨by rw [eb _ _ _ _ (acd p.1 (cC g3))];exact g1,g2⟩
 generalize a1.put (some d') (.func (.func g) #[] fh)=a2 at dJ CH T9;have yR:(execOp a2.eval df).run P w1= .ok (.defer { target:=.fn (.func g) fh,args:= #[] }) w1:=by
  simp [execOp,VP,resolve,CH,ij]
 unfold wpList;have hw:bT df (yielded uI a2.tmps)=true:=by simp [bT,N9]
 rw [if_pos hw];left;unfold ib;rw [yR,tW,SQ]
 show rest.wp P (bodyPostD P fn R) { a2 with defers:= { target:=.fn (.func g) fh,args:= #[] } ::a2.defers } w1
 rw [dJ.defers];have dT:dQ pl ⟨[{ target:=.fn (.func g) fh,args:= #[] }],pA.zip (ks.map fun k=>dV k 0)⟩ .start xM X1 Xj { a2 with defers:=[{ target:=.fn (.func g) fh,args:= #[] }] } w1:=
  ⟨dJ.size,rfl,T9,dJ.ext,dJ.oZ,dJ.lx,dJ.sig,dJ.box,dJ.inj,dJ.conv,dJ.live,dJ.ptr⟩
 have rQ:=jV t2 (K':=fun ex e w' X'=>K ex e w' X'∧ ∀s,¬s∈t2.wr→e s=xM s) MX fun ex e w' X' _ he hk=>⟨hk,he⟩;refine wp_mono (Jp (pl:=pl) (ds:=⟨[{ target:=.fn (.func g) fh,args:= #[] }],pA.zip (ks.map fun k=>dV k 0)⟩) rest t2 _ xM X1 Xj _ w1 kc (fun b fp p hp e=>?_) dT rQ) fun ex a' w' hq=>?_
 ·obtain⟨i,g1,_⟩:=Jy hp;have h1:=(rH p.1 (cC g1)).2;rw [e,wT.2 fp] at h1;cases h1
 have Ua: ∀w',(invoke (.fn (.func g) fh) #[]).run P w'= .ok (.enter g fh) w':=fun w'=>by
  simp only [invoke];have:=pI VR (#[]++fh) w';simpa using this
 have done:(∃env X w0,dQ pl ⟨[{ target:=.fn (.func g) fh,args:= #[] }],pA.zip (ks.map fun k=>dV k 0)⟩ .start env X w0 a' w'∧K .ret env w0 X∧ ∀s,¬s∈t2.wr→env s=xM s)→Leaves P fn a'.tmps R a'.defers .returning w':=by
  rintro⟨e,X',dF,h5,h6,_⟩;have h6':aC (nd.all fun b=>bP (e b)) (∀wa,Kp X' dF wa→R (.returned (MF r e)) wa):=h6;obtain⟨h7,h8⟩:=cX.1 h6';rw [h5.defers];refine leaves_cons (by simp) (f:=g) (args:=fh) (Ua w') ?_;refine(R4 fh w').mono ?_;rintro _ _ iH ⟨⟨x,rfl⟩,rfl,rfl⟩;exact⟨_,EG h5 Jq (List.all_eq_true.1 h7),h8 iH h5.ext⟩
 cases ex with
 |normal=>exact done hq
 |ret=>exact done hq
 |panic ch=>
  obtain⟨h5,e,X',dF,h6,⟨h7,he⟩,vH⟩:=hq
  show Leaves P fn a'.tmps R a'.defers (.panicking ch) w'
  rw [h5];refine leaves_cons (by simp) (f:=g) (args:=fh) (Ua w') ?_;have Nt: ∀(i:Nat) b k,pA[i]? =some b→ks[i]? =some k→a'.tmps[b]? =some (dV k 0)∧ ∃n cells ty,look pl.boxes b=some n∧e b= .agg cells∧w'.heap[k]? =some (.cells cells ty (0,0))∧cells.size=n∧ ¬X' k:=fun i b k g1 g2=>
by
   obtain⟨q1,q2⟩:=vH.2 (b,dV k 0) (cC (i:=i) (by rw [mu];exact⟨g1,by rw [dP,g2];rfl⟩));refine⟨q1,?_⟩;rcases q2 with q2|⟨n,k',cells,ty,q3,q4⟩
   ·obtain⟨⟨n,hn⟩,_⟩:=sd b (cC g1);rw [(lY q2).2.1] at hn;cases hn
   ·have:k=k':=by simpa [dV] using q3
    subst this;exact⟨n,cells,ty,q4⟩
  have GP: ∀(i:Nat) b,pA[i]? =some b→bP (e b)=true:=fun i b g1=>by
   obtain⟨k,g2,_⟩:=vW i b g1;obtain⟨_,_,cells,_,_,g4,_⟩:=Nt i b k g1 g2;rw [g4];rfl
  have hkX: ∀k,k∈ks→ ¬X' k:=fun k hm=>by
   obtain⟨i,g1⟩:=List.getElem?_of_mem hm;have FP:i<pA.length:=by rw [←zs];exact(List.getElem?_eq_some_iff.1 g1).1
   obtain⟨_,_,_,_,_,_,_,_,g9⟩:=Nt i _ k (bk FP) g1;exact g9
  rw [←hcg];refine(tY ks (pA.map fun b=>(e b).cells) ch w' zs (by simp) ada (fun i k cells g1 g2=>?_) (fun i v cells g1 g2=>?_) (fun i b n cells g1 g2 g3=>?_) fun wa ho=>h7 wa (ho.kp h6 vH.1 hkX)).mono ?_
  ·rw [dP] at g2;obtain⟨b,g3,rfl⟩:=Option.map_eq_some_iff.1 g2;obtain⟨_,_,cells,ty,_,g4,g5,_⟩:=Nt i b k g3 g1;rw [g4];exact⟨ty,g5⟩
  ·rw [dP] at g1 g2;obtain⟨b,g3,rfl⟩:=Option.map_eq_some_iff.1 g2;rw [g3] at g1;simp only [bc,av] at g1;split at g1
   ·cases g1
   ·rename_i Za;have adb: ¬b∈t2.wr:=fun hm=>Za (wT.2 hm);rw [he b adb,aa6];generalize te t0 (jJ args) b=u at g1;unfold aa4 at g1;split at g1
    ·cases g1;rfl
    ·cases g1
  ·rw [dP,g1] at g3;simp only [bc,av] at g3;obtain⟨k,g4,_⟩:=vW i b g1;obtain⟨_,n',pa,ty,q1,q2,q3,q4,_⟩:=Nt i b k g1 g4;rw [g2] at q1;cases q1;rw [←g3,q2];exact q4
  ·rintro e' u iH ⟨⟨x,rfl⟩,ade,v,hR,ace⟩
   show Leaves P fn a'.tmps R [] (settle u) iH
   rw [ade];exact⟨v,ace a'.tmps fun i b k g1 g2=>(Nt i b k g1 g2).1,hR⟩
 |exit i=>obtain⟨e,X',dF,h5,h6,_⟩:=hq;exact h6.elim
 |goto i=>obtain⟨e,X',dF,h5,h6,_⟩:=hq;exact h6.elim
 |outgrown=>exact hq.elim
theorem tg {f:FuncId} {fn:Func} {pl:ba} {args:Array Value} {w:World} {R:Ending→World→Prop} {V:Prop} (hf:P.funcs[f]? =some fn)
  (hs:(decide (args.size≤pl.n)&&pl.boxes.all fun p=>decide (args.size≤p.1))=true) (iz: ∀g,mg fn=some g→Idle P g) (hR: ∀ch w,¬R (.panicked ch) w) (hv:V=GR P (Xg P pl fn) R args w) (h:V):Calls P f args w R:=by
 subst hv;unfold GR at h;simp only [aO,decide_eq_true_eq] at hs;split at h;case h_2=>exact h.elim
 rename_i ft hc;unfold Xg at hc;split at hc;case isFalse=>cases hc
 rename_i hn;have jE:fn.ntmps=pl.n:=by simpa using hn
 split at hc;case h_2=>cases hc
 rename_i _ id0 AI id1 uI rest hb;split at hc;case h_2=>cases hc
 rename_i _ mk df Jz;split at hc;case h_2=>cases hc
 rename_i _ _ _ _ _ _ g EN d' d Nx JA hmg WO VP N9 SQ;split at hc;case h_2=>cases hc
 rename_i _ _ _ t0 t2 r nd pS kc Jq;split at hc;case isFalse=>cases hc
 rename_i lF;simp only [aO,beq_iff_eq,bX,decide_eq_true_eq,fu] at lF;obtain⟨⟨⟨TG,gM⟩,Xh⟩,VQ⟩:=lF;subst TG;injection hc with hc
 subst hc;have hG:mg fn=some g:=by unfold mg;rw [hb];simp [Jz,JA]
 obtain⟨VR,R4⟩:=iz g hG;have VS:=aa3 (w:=w) jE hs.1 (by simpa using hs.2);refine calls_of_wp_defers hf hb ?_
 let K:=MG ⟨.seq (.Cz t0) t2,r,nd⟩ R
 have hKp: ∀ch env X w0 w',Kp X w0 w'→K (.panic ch) env w0 X→False:=fun ch env X w0 w' hk hq=>hR _ _ (hq w' hk);have h0:fg P (fun ch=>K (.panic ch)) (fun e w X=>den P t2 K e w X) t0 (jJ args) w (aS w):=h;refine wp_seq (wp_region_list (HI (P:=P) (pl:=pl) (ds:=⟨[],[]⟩) ?_ ?_ AI.toList .start t0 _ _ _ _ _ pS (fun _ _ _ hp=>by cases hp) VS h0));case refine_2=>exact fun ch a' w' cQ X' dF _ hk _ hq=>(hKp _ _ _ _ _ hk hq).elim
 intro CI a1 w1 xM X1 Xj ax MX;replace ax:=ax.drop
 show(Code.seq (Code.region id1 uI false) rest).wp P (bodyPostD P fn R) a1 w1
 refine wp_seq (wp_region_list ?_);rw [Jz];have Ga:bT mk (yielded uI a1.tmps)=true:=by simp [bT,hmg]
 have IB:(execOp a1.eval mk).run P w1= .ok (.value (.func (.func g) #[] (EN.map a1.eval))) w1:=by
  simp [execOp,JA,cL]
 generalize EN.map a1.eval=fh at IB;unfold wpList;rw [if_pos Ga];left;unfold ib;rw [IB,tV,WO];have dJ:=ax.aside (v:=.func (.func g) #[] fh) gM Xh VQ;have CH:(a1.put (some d') (.func (.func g) #[] fh)).eval (.tmp d')= .func (.func g) #[] fh:=by
  have:d'<a1.tmps.size:=by rw [ax.size];exact gM
  simp [Act.eval,Act.put,iZ,this]
 generalize a1.put (some d') (.func (.func g) #[] fh)=a2 at dJ CH;have yR:(execOp a2.eval df).run P w1= .ok (.defer { target:=.fn (.func g) fh,args:= #[] }) w1:=by
  simp [execOp,VP,resolve,CH,ij]
 unfold wpList;have hw:bT df (yielded uI a2.tmps)=true:=by simp [bT,N9]
 rw [if_pos hw];left;unfold ib;rw [yR,tW,SQ]
 show rest.wp P (bodyPostD P fn R) { a2 with defers:= { target:=.fn (.func g) fh,args:= #[] } ::a2.defers } w1
 rw [dJ.defers];have dT:=dJ.defs (Dr:=[{ target:=.fn (.func g) fh,args:= #[] }]);refine wp_mono (Jp (pl:=pl) (ds:=⟨[{ target:=.fn (.func g) fh,args:= #[] }],[]⟩) rest t2 K xM X1 Xj _ w1 kc (fun _ _ _ hp=>by cases hp) dT MX) fun ex a' w' hq=>?_;have done:(∃env X w0,dQ pl ⟨[{ target:=.fn (.func g) fh,args:= #[] }],[]⟩ .start env X w0 a' w'∧K .ret env w0 X)→Leaves P fn a'.tmps R a'.defers .returning w':=by
  rintro⟨e,X',dF,h5,h6⟩;have h6':aC (nd.all fun b=>bP (e b)) (∀wa,Kp X' dF wa→R (.returned (MF r e)) wa):=h6;obtain⟨h7,h8⟩:=cX.1 h6';rw [h5.defers];refine leaves_cons (by simp) (f:=g) (args:=fh) ?_ ?_
  ·simp only [invoke];have:=pI VR (#[]++fh) w';simpa using this
  ·refine(R4 fh w').mono ?_;rintro _ _ iH ⟨⟨x,rfl⟩,rfl,rfl⟩;exact⟨_,EG h5 Jq (List.all_eq_true.1 h7),h8 iH h5.ext⟩
 cases ex with
 |normal=>exact done hq
 |ret=>exact done hq
 |panic ch=>obtain⟨h5,e,X',dF,h6,h7,_⟩:=hq;exact(hKp _ _ _ _ _ h6 h7).elim
 |exit i=>obtain⟨e,X',dF,h5,h6⟩:=hq;exact h6.elim
 |goto i=>obtain⟨e,X',dF,h5,h6⟩:=hq;exact h6.elim
 |outgrown=>exact hq.elim
end Go.aX
set_option linter.unusedVariables false
set_option linter.unusedSimpArgs false
namespace Go.aX
variable {P : Program} {R : Ending → World → Prop} {X : XS} {w : World} {m : Bool}
structure Two (A B:Prop):Prop where
 a:A
 b:B
theorem q0t {A B p:Prop} (h:A→B→p):Two A B→p:=fun t=>h t.a t.b
theorem du {A B:Prop} (a:A) (b:B):Two A B:=⟨a,b⟩
theorem q0b {p q:Prop} (h:q→p:=by first|(intro q9;first|(with_reducible first|apply QI|apply YC|apply TS|apply Yz|apply YA|apply VH|apply VI|apply YB|apply VJ|apply VK|apply Vw|apply Vx|apply TK|apply TL|apply aax|apply TH|apply TJ|apply ac0|apply ac1|apply abN|apply abO|apply aaR|apply aaS|apply LR|apply YE|apply ab0);exact q9|(with_reducible apply Yy);(case k=>exact q9);(· rfl)|(with_reducible apply abX);(case k=>exact q9);(· exact qN)|(with_reducible apply abY);(case k=>exact q9);(· exact qN)|(with_reducible apply Is);(case k=>exact q9);(· exact qF);(· kernel_rfl);(· rfl)|(with_reducible apply abV);(case k=>exact q9);(· exact qF);(· kernel_rfl);(· rfl);(· exact qN)|(with_reducible apply W8);(case k=>exact q9);(· exact qF);(· exact qM);(· kernel_rfl);(· rfl)|(with_reducible apply W9);(case k=>exact q9);(· exact qF);(· exact qM);(· kernel_rfl);(· rfl)|(with_reducible apply abW);(case n=>exact q9);(· exact qO);(· kernel_rfl)|(with_reducible apply WX);(case n=>exact q9);(· assumption);(· kernel_rfl)|(with_reducible apply abT);(case k=>exact q9);(· kernel_rfl)|(with_reducible apply Xa);(case n=>exact q9);(· exact qO);(try (case hz=>rfl));(case hr=>first|assumption|(clear q9;exact List.getElem?_eq_getElem (by omega)));(try (case hz=>omega));(case ht=>kernel_rfl);(case hs=>kernel_rfl)|(with_reducible apply RW);(case k=>exact q9);(· kernel_rfl)|(with_reducible apply abZ);(case h=>exact q9);(· rfl)|(with_reducible apply YG);(case k=>exact q9);(· kernel_rfl)|(with_reducible apply YH);(case k=>exact q9);(· kernel_rfl)|(with_reducible apply aaZ);(case k=>exact q9);(· kernel_rfl)|(with_reducible apply aa0);(case k=>exact q9);(· kernel_rfl)|(with_reducible apply aaV);(case k=>exact q9);(case h=>exact qE)|(with_reducible apply aaW);(case k=>exact q9);(case h=>exact qE)|(with_reducible apply RO);(case k=>exact q9);(· exact qC)|(with_reducible apply W7);(case h=>exact q9);(· omega);(· omega)|(with_reducible apply WY);(case h=>exact q9);(· omega);(· omega)|(with_reducible apply RY);(case h=>exact q9);(· kernel_rfl);(· kernel_rfl)|(with_reducible apply ab1);(case h=>exact q9);(· kernel_rfl);(· kernel_rfl)|(with_reducible apply ab4);(case k=>exact q9);(try (case hz=>rfl));(case hb=>assumption);(try (case hz=>omega));(case ht=>kernel_rfl)|(with_reducible apply ab2);(case k=>exact q9);(· kernel_rfl);(· kernel_rfl);(try (case hz=>rfl));(case hn=>omega);(case hl=>rfl)|(with_reducible apply aaX);(case k=>exact q9);(case hf=>kernel_rfl);(case hg=>kernel_rfl);(case hlen=>rfl);(case hl=>exact qN)|(with_reducible apply ab5);(case h=>exact q9);(· rfl)|fail)|(apply q0t;intro a9 b9;first|(with_reducible first|apply RQ|apply RU|apply RV|apply W6|apply RR|apply RS|apply aaI|apply aaJ|apply aaK|apply aaL|apply aaM|apply aaN|apply aaO|apply aaP|apply aaQ|apply Yu);(· exact a9);exact b9|(with_reducible apply aaU);(case hT=>exact a9);(case hF=>exact b9);(· exact qO);(· kernel_rfl)|fail)|fail):q→p:=h
theorem q0d {p q:Prop} (h:q→p:=by intro q9;first|(with_reducible refine Tz ?_ ?_);rotate_left;exact q9;omega|(with_reducible refine aay ?_ ?_);rotate_left;exact q9;omega|(with_reducible refine aaE ?_ ?_);rotate_left;exact q9;omega|(with_reducible refine aaF ?_ ?_);rotate_left;exact q9;omega|(with_reducible refine aaG ?_ ?_);rotate_left;exact q9;omega|(with_reducible refine aaH ?_ ?_);rotate_left;exact q9;omega|(with_reducible refine aaz ?_ ?_);rotate_left;exact q9;omega|(with_reducible refine aaA ?_ ?_);rotate_left;exact q9;omega|(with_reducible refine aaB ?_ ?_);rotate_left;exact q9;omega|(with_reducible refine aaC ?_ ?_);rotate_left;exact q9;omega|(with_reducible refine aaD ?_ ?_);rotate_left;exact q9;omega|fail):q→p:=h
theorem aN {p q:Prop} (k:q) (h:q→p:=by exact q0b):p:=h k
theorem bY {p q:Prop} (k:q) (h:q→p:=by first|exact q0d|exact q0b|fail):p:=h k
end Go.aX
namespace Go.Proofs.YteomdhcbhmaiaaaGreat
open Go.Proofs.Tryz renaming prog → pg
open Go.aX
set_option maxRecDepth 100000
section
variable (R : Ending → World → Prop) (w0 : World) (X0 : XS)
noncomputable def xT:ba:=⟨192,[(4,(pg.cellsOf 31)),(10,(pg.cellsOf 50))],[50,58,140,146,153,162,163],[0,1,2,6,7,8,9,11,12,13,14,15,16,18,26,38,42,61,79,85,102,138,143,160,168],[22,23,24,25,35,36,37,57,59,60,75,76,77,78,98,99,100,101,105,106,107,109,110,111,112,113,115,116,117,118,119,121,122,123,124,126,127,128,129,130,131,133,134,135,136,137,170,171,172,173,176,177,178,180,181,182,183,184,186,187,188,189,190],[9,15]⟩
def px (p0:Value) (bo bh:Int) (bp dp:Nat) (cV cW cS cM dD dC:Int) (eu ei:Value) (p2:Int):Prop:=
 (eC pg R X0 w0 true 4 #[] fun a b c=>
 ad pg c b (aQ aT a) fun d=>
 (au d
 (fin R c b (B false))
 ((eC pg R c b true 5 #[p0] fun e g h=>
 ad pg h g (aQ aT e) fun i=>
 un (aK i false (.agg #[(I bo),(I bh),(.float .f64 bp),(.float .f64 dp),(I cV),(I cW),(I cS),(I cM),(I dD),(I dC),eu,ei])) fun j=>
 jn (fun (k:Value) (l:World) (m:XS)=>
 aG pg m l i false (vS (binOp .gtr 3 k (I 20000))) fun n=>
 aw pg m l (aM i (B true) n) fun o=>
 (au o
 (eC pg R m l true 4 #[] fun q r s=>
 (fin R s r q))
 ((eC pg R m l true 8 #[] fun t v y=>
 eC pg R y v true 7 #[t,(I 12),(I 4096)] fun z A C=>
 ad pg C A (aB z 0) fun D=>
 ad pg C A (aB z 1) fun E=>
 (ad pg C A (aD .eql 35 (.tmp 33) (.const (.pointer none)) D (.pointer none)) fun F=>
 un (aK F false E) fun G=>
 aG pg C A F false (vS (aD .neq 36 (.tmp 36) (.const (I 0)) G (I 0))) fun H=>
 aw pg C A (aM F (B true) H) fun L=>
 (au L
 (fin R C A (B false))
 (((gU C A (I 0) 9 fun M N O Q S=>
 ad pg S Q (cY 22 3 p0) fun T=>
 ad pg S Q (binOp .lss 3 O T) fun U=>
 (au U
 ((ad pg S Q (dy 22 53 p0 O) fun V=>
 ad pg S Q (aJ 52 3 3 36 V) fun Y=>
 ad pg S Q (ff 50 36 Y) fun Z=>
 un (ai (aa Z)) fun a0=>
 aC (ao (ab (aa Z))==36) (aC (aq (ab (aa Z)) aX.one) ((aC (bP a0) (un (ai (aI (cP (ab (aa a0)) 2 [(I 12)]))) fun b0=>
 ((jn (fun (c0:World) (d0:XS)=>
 (jn (fun (e0:World) (g0:XS)=>
 eC pg R g0 e0 true 11 #[D] fun h0 i0 j0=>
 un (aK h0 false D) fun k0=>
 jn (fun (l0:Value) (m0:World) (n0:XS)=>
 aw pg n0 m0 (aM h0 (B true) l0) fun o0=>
 un (aK o0 false D) fun q0=>
 jn (fun (r0:Value) (s0:World) (t0:XS)=>
 aG pg t0 s0 o0 false (vS (cY 47 3 r0)) fun v0=>
 aG pg t0 s0 o0 false (vS (aD .neq 3 (.tmp 112) (.const (I 0)) v0 (I 0))) fun y0=>
 aw pg t0 s0 (aM o0 (B true) y0) fun z0=>
 un (aK z0 false D) fun A0=>
 jn (fun (C0:Value) (D0:World) (E0:XS)=>
 aG pg E0 D0 z0 false (vS (cY 46 3 C0)) fun F0=>
 aG pg E0 D0 z0 false (vS (aD .neq 3 (.tmp 118) (.const (I 0)) F0 (I 0))) fun G0=>
 aw pg E0 D0 (aM z0 (B true) G0) fun H0=>
 un (aK H0 false D) fun L0=>
 jn (fun (M0:Value) (N0:World) (O0:XS)=>
 aG pg O0 N0 H0 false (vS (aD .neq 3 (.tmp 123) (.const (I 0)) M0 (I 0))) fun Q0=>
 aw pg O0 N0 (aM H0 (B true) Q0) fun S0=>
 un (aK S0 false D) fun T0=>
 jn (fun (U0:Value) (V0:World) (Y0:XS)=>
 aG pg Y0 V0 S0 false (vS (dK 31 #[(I 0),(I 0),(.float .f64 0),(.float .f64 0),(I 0),(I 0),(I 0),(I 0),(I 0),(I 0),(.slice none 0 0),(.slice none 0 0)] #[])) fun Z0=>
 jn (fun (a1:Value) (b1:World) (c1:XS)=>
 aG pg c1 b1 S0 false (vS (aQ aT a1)) fun d1=>
 aw pg c1 b1 (aM S0 (B true) d1) fun e1=>
 un (aK e1 false D) fun g1=>
 un (aK e1 false (I p2)) fun h1=>
 jn (fun (i1:Value) (j1:World) (k1:XS)=>
 aG pg k1 j1 e1 false (vS (aD .neq 36 (.tmp 136) (.const (I 14)) i1 (I 14))) fun l1=>
 aw pg k1 j1 (aM e1 (B true) l1) fun m1=>
 (au m1
 (fin R k1 j1 (B false))
 (((ad pg k1 j1 (binOp .add 3 O (I 1)) fun n1=>
 gV M N n1 j1 k1))))) fun o1=>
 (gE e1 false (eC pg R c1 b1 true 18 #[g1,h1,(.float .f64 4602678819172646912),(I 3)] o1) (o1 undef b1 c1))) fun q1=>
 (gE S0 false (eC pg R Y0 V0 true 16 #[U0,Z0] q1) (q1 undef V0 Y0))) fun r1=>
 (gE S0 false (eC pg R O0 N0 true 17 #[T0] r1) (r1 undef N0 O0))) fun s1=>
 (gE H0 false (eC pg R E0 D0 true 15 #[L0] s1) (s1 undef D0 E0))) fun t1=>
 (gE z0 false (eC pg R t0 s0 true 14 #[A0] t1) (t1 undef s0 t0))) fun v1=>
 (gE o0 false (eC pg R n0 m0 true 13 #[q0] v1) (v1 undef m0 n0))) fun y1=>
 (gE h0 false (eC pg R j0 i0 true 12 #[k0] y1) (y1 undef i0 j0))) fun z1=>
 ad pg d0 c0 (dy 22 53 p0 O) fun A1=>
 ad pg d0 c0 (aJ 52 0 0 1 A1) fun C1=>
 ad pg d0 c0 (ld1 3 C1) fun D1=>
 ad pg d0 c0 (aD .eql 3 (.tmp 84) (.const (I 3)) D1 (I 3)) fun E1=>
 (au E1
 (ad pg d0 c0 (dy 22 53 p0 O) fun F1=>
 ad pg d0 c0 (aJ 52 1 1 1 F1) fun G1=>
 ad pg d0 c0 (ld1 3 G1) fun H1=>
 eC pg R d0 c0 true 10 #[D,H1] fun L1 M1 N1=>
 ad pg N1 M1 (aB L1 0) fun O1=>
 ad pg N1 M1 (aB L1 1) fun Q1=>
 (ad pg N1 M1 (aD .neq 36 (.tmp 96) (.const (I 0)) Q1 (I 0)) fun S1=>
 un (aK S1 false O1) fun T1=>
 aG pg N1 M1 S1 false (vS (cY 53 3 T1)) fun U1=>
 aG pg N1 M1 S1 false (vS (aD .neq 3 (.tmp 100) (.const (I 0)) U1 (I 0))) fun V1=>
 aw pg N1 M1 (aM S1 (B true) V1) fun Y1=>
 (au Y1
 (fin R N1 M1 (B false))
 (z1 M1 N1))))
 (z1 c0 d0)))) fun Z1=>
 ad pg S Q (dy 22 53 p0 O) fun a2=>
 ad pg S Q (aJ 52 0 0 1 a2) fun b2=>
 ad pg S Q (ld1 3 b2) fun c2=>
 ad pg S Q (aD .eql 3 (.tmp 55) (.const (I 2)) c2 (I 2)) fun d2=>
 aC (bP b0) (un (cellOf b0 0) fun e2=>
 un (aK d2 true e2) fun g2=>
 aG pg S Q d2 true (vS (aD .neq 3 (.tmp 59) (.const (I 10)) g2 (I 10))) fun h2=>
 aw pg S Q (aM d2 h2 (B false)) fun i2=>
 (au i2
 (ad pg S Q (dy 22 53 p0 O) fun j2=>
 ad pg S Q (aJ 52 1 1 1 j2) fun k2=>
 ad pg S Q (ld1 3 k2) fun l2=>
 aC (bP b0) (un (bV b0 0 36) fun m2=>
 eC pg R S Q true 9 #[D,l2,m2] fun n2 o2 q2=>
 ad pg q2 o2 (aB n2 0) fun r2=>
 ad pg q2 o2 (aB n2 1) fun s2=>
 (ad pg q2 o2 (aD .neq 36 (.tmp 73) (.const (I 0)) s2 (I 0)) fun t2=>
 un (aK t2 false r2) fun v2=>
 aG pg q2 o2 t2 false (vS (cY 53 3 v2)) fun y2=>
 aG pg q2 o2 t2 false (vS (aD .neq 3 (.tmp 77) (.const (I 0)) y2 (I 0))) fun z2=>
 aw pg q2 o2 (aM t2 (B true) z2) fun A2=>
 (au A2
 (fin R q2 o2 (B false))
 (Z1 o2 q2)))))
 (Z1 Q S)))))))))))
 ((((gU S Q (I 1) 15 fun C2 D2 E2 F2 G2=>
 ad pg G2 F2 (cY 29 3 ei) fun H2=>
 ad pg G2 F2 (binOp .lss 3 E2 H2) fun L2=>
 (au L2
 ((ad pg G2 F2 (binOp .sub 3 E2 (I 1)) fun M2=>
 ad pg G2 F2 (dy 29 8 ei M2) fun N2=>
 ad pg G2 F2 (aJ 65 0 0 3 N2) fun O2=>
 ad pg G2 F2 (ff 42 3 O2) fun Q2=>
 ad pg G2 F2 (dy 29 8 ei E2) fun S2=>
 ad pg G2 F2 (aJ 65 0 0 3 S2) fun T2=>
 ad pg G2 F2 (ff 42 3 T2) fun U2=>
 eC pg R G2 F2 true 19 #[Q2,U2] fun V2 Y2 Z2=>
 ad pg Z2 Y2 (aQ aT V2) fun a3=>
 (au a3
 (eC pg R Z2 Y2 true 4 #[] fun b3 c3 d3=>
 (fin R d3 c3 b3))
 (((ad pg Z2 Y2 (binOp .add 3 E2 (I 1)) fun e3=>
 gV C2 D2 e3 Y2 Z2))))))
 ((((eC pg R G2 F2 true 20 #[D,(.agg #[(I 12),(I bh),(.float .f64 bp),(.float .f64 dp),(I cV),(I cW),(I cS),(I cM),(I dD),(I dC),eu,ei])] fun g3 h3 i3=>
 (ad pg i3 h3 (aD .neq 36 (.tmp 167) (.const (I 0)) g3 (I 0)) fun j3=>
 (au j3
 (eC pg R i3 h3 true 4 #[] fun k3 l3 m3=>
 un (aK k3 true D) fun n3=>
 jn (fun (o3:Value) (q3:World) (r3:XS)=>
 aG pg r3 q3 k3 true (vS (aQ aT o3)) fun s3=>
 aw pg r3 q3 (aM k3 s3 (B false)) fun t3=>
 (fin R r3 q3 t3)) fun v3=>
 (gE k3 true (eC pg R m3 l3 true 11 #[n3] v3) (v3 undef l3 m3)))
 ((eC pg R i3 h3 true 4 #[] fun y3 z3 A3=>
 un (aK y3 true D) fun C3=>
 jn (fun (D3:Value) (E3:World) (F3:XS)=>
 aw pg F3 E3 (aM y3 D3 (B false)) fun G3=>
 un (aK G3 true D) fun H3=>
 un (aK G3 true (.agg #[(I 12),(I bh),(.float .f64 bp),(.float .f64 dp),(I cV),(I cW),(I cS),(I cM),(I dD),(I dC),eu,ei])) fun L3=>
 jn (fun (M3:Value) (N3:World) (O3:XS)=>
 jn (fun (Q3:Value) (S3:World) (T3:XS)=>
 aw pg T3 S3 (aM G3 Q3 (B false)) fun U3=>
 un (aK U3 true D) fun V3=>
 un (aK U3 true (.agg #[(I 12),(I bh),(.float .f64 bp),(.float .f64 dp),(I cV),(I cW),(I cS),(I cM),(I dD),(I dC),eu,ei])) fun Y3=>
 jn (fun (Z3:Value) (a4:World) (b4:XS)=>
 aG pg b4 a4 U3 true (vS (aD .eql 36 (.tmp 189) (.const (I 14)) Z3 (I 14))) fun c4=>
 aw pg b4 a4 (aM U3 c4 (B false)) fun d4=>
 (fin R b4 a4 d4)) fun e4=>
 (gE U3 true (eC pg R T3 S3 true 20 #[V3,Y3] e4) (e4 undef S3 T3))) fun g4=>
 (gE G3 true (eC pg R O3 N3 true 16 #[M3,L3] g4) (g4 undef N3 O3))) fun h4=>
 (gE G3 true (eC pg R F3 E3 true 17 #[H3] h4) (h4 undef E3 F3))) fun i4=>
 (gE y3 true (eC pg R A3 z3 true 11 #[C3] i4) (i4 undef z3 A3))))))))))))))))))))))))) fun j4=>
 (gE i false (eC pg R h g true 6 #[j,(I 20000)] j4) (j4 undef g h))))))
def vt:Prop:=
 (eC pg R X0 w0 true 8 #[] fun a b c=>
 (ad pg c b (aD .eql 39 (.tmp 11) (.const (.pointer none)) a (.pointer none)) fun d=>
 (au d
 (fin R c b (B false))
 ((eC pg R c b true 7 #[a,(I 1),(I 4096)] fun e g h=>
 ad pg h g (aB e 0) fun i=>
 ad pg h g (aB e 1) fun j=>
 (ad pg h g (aD .eql 35 (.tmp 18) (.const (.pointer none)) i (.pointer none)) fun k=>
 un (aK k false j) fun l=>
 aG pg h g k false (vS (aD .neq 36 (.tmp 21) (.const (I 0)) l (I 0))) fun m=>
 aw pg h g (aM k (B true) m) fun n=>
 un (aK n false i) fun o=>
 jn (fun (q:Value) (r:World) (s:XS)=>
 jn (fun (t:Value) (v:World) (y:XS)=>
 aG pg y v n false (vS (aD .neq 36 (.tmp 27) (.const (I 0)) t (I 0))) fun z=>
 aw pg y v (aM n (B true) z) fun A=>
 (au A
 (fin R y v (B false))
 ((eC pg R y v true 10 #[i,(I 5)] fun C D E=>
 ad pg E D (aB C 0) fun F=>
 ad pg E D (aB C 1) fun G=>
 (ad pg E D (dK 42 #[(I 1),(I 1),(I 1)] #[(0,(I 1)),(1,(I 1)),(2,(I 1))]) fun H=>
 un (ai (aa H)) fun L=>
 aC (ao (ab (aa H))==3) (aC (aq (ab (aa H)) aX.one) ((aC (bP L) (ad pg E D (dK 27 #[(I 4),(I 0),(I 21)] #[(0,(I 4)),(2,(I 21))]) fun M=>
 ad pg E D (dK 69 #[(I 1),(.float .f64 4619567317775286272),(.string ⟨#[]⟩)] #[(0,(I 1)),(1,(.float .f64 4619567317775286272))]) fun N=>
 un (cellOf N 0) fun O=>
 un (cellOf N 1) fun Q=>
 un (cellOf N 2) fun S=>
 ad pg E D (dK 71 #[(.string { data:= #[97] }),O,Q,S] #[(0,(.string { data:= #[97] })),(1,N)]) fun T=>
 eV pg R E D true (fR 45 71 4 1 #[(0,T)]) fun U V Y=>
 eV pg R Y V true (fR 46 3 1 1 #[(0,(I 1))]) fun Z a0 b0=>
 un (bV L 0 3) fun c0=>
 un (cellOf c0 0) fun d0=>
 un (cellOf c0 1) fun e0=>
 un (cellOf c0 2) fun g0=>
 un (cellOf M 0) fun h0=>
 un (cellOf M 1) fun i0=>
 un (cellOf M 2) fun j0=>
 ad pg b0 a0 (dK 50 #[(I 3),(I 21),(I 1),d0,e0,g0,(I 1),(I 0),(I 0),h0,i0,j0,(I 0),(I 0),(I 0),(B false),(I 0),(I 0),(.slice none 0 0),(.slice none 0 0),U,Z,(.slice none 0 0),(.slice none 0 0),(I 0),(I 0),(.float .f64 0),(.float .f64 0),(I 0),(I 0),(I 0),(I 0),(I 0),(I 0),(.slice none 0 0),(.slice none 0 0)] #[(0,(I 3)),(1,(I 21)),(2,(I 1)),(3,c0),(4,(I 1)),(7,M),(14,U),(15,Z)]) fun k0=>
 un (ai (aa k0)) fun l0=>
 aC (ao (ab (aa k0))==36) (aC (aq (ab (aa k0)) aX.one) ((aC (bP l0) (un (bV l0 0 36) fun m0=>
 eC pg R b0 a0 true 9 #[i,(I 5),m0] fun n0 o0 q0=>
 ad pg q0 o0 (aB n0 0) fun r0=>
 ad pg q0 o0 (aB n0 1) fun s0=>
 (ad pg q0 o0 (cY 53 3 F) fun t0=>
 ad pg q0 o0 (aD .eql 3 (.tmp 50) (.const (I 0)) t0 (I 0)) fun v0=>
 un (aK v0 true G) fun y0=>
 aG pg q0 o0 v0 true (vS (aD .eql 36 (.tmp 53) (.const (I 0)) y0 (I 0))) fun z0=>
 aw pg q0 o0 (aM v0 z0 (B false)) fun A0=>
 un (aK A0 true s0) fun C0=>
 aG pg q0 o0 A0 true (vS (aD .eql 36 (.tmp 57) (.const (I 0)) C0 (I 0))) fun D0=>
 aw pg q0 o0 (aM A0 D0 (B false)) fun E0=>
 un (aK E0 true r0) fun F0=>
 aG pg q0 o0 E0 true (vS (cY 53 3 F0)) fun G0=>
 aG pg q0 o0 E0 true (vS (aD .eql 3 (.tmp 62) (.const (I 1)) G0 (I 1))) fun H0=>
 aw pg q0 o0 (aM E0 H0 (B false)) fun L0=>
 un (aK L0 true r0) fun M0=>
 aG pg q0 o0 L0 true (vS (dy 53 36 M0 (I 0))) fun N0=>
 aG pg q0 o0 L0 true (vS (aJ 50 6 8 1 N0)) fun O0=>
 aG pg q0 o0 L0 true (vS (ld1 36 O0)) fun Q0=>
 aG pg q0 o0 L0 true (vS (aD .eql 36 (.tmp 69) (.const (I 0)) Q0 (I 0))) fun S0=>
 aw pg q0 o0 (aM L0 S0 (B false)) fun T0=>
 un (aK T0 true r0) fun U0=>
 aG pg q0 o0 T0 true (vS (dy 53 36 U0 (I 0))) fun V0=>
 aG pg q0 o0 T0 true (vS (aJ 50 7 9 3 V0)) fun Y0=>
 aG pg q0 o0 T0 true (vS (ff 27 3 Y0)) fun Z0=>
 aG pg q0 o0 T0 true (vS (dK 27 #[(I 5),(I 1),(I 1)] #[(0,(I 5)),(1,(I 1)),(2,(I 1))])) fun a1=>
 aG pg q0 o0 T0 true (vS (aD .eql 27 (.tmp 76) (.tmp 77) Z0 a1)) fun b1=>
 aw pg q0 o0 (aM T0 b1 (B false)) fun c1=>
 un (aK c1 true i) fun d1=>
 jn (fun (e1:Value) (g1:World) (h1:XS)=>
 aG pg h1 g1 c1 true (vS (aD .eql 3 (.tmp 82) (.const (I 21)) e1 (I 21))) fun i1=>
 aw pg h1 g1 (aM c1 i1 (B false)) fun j1=>
 un (aK j1 true i) fun k1=>
 jn (fun (l1:Value) (m1:World) (n1:XS)=>
 aw pg n1 m1 (aM j1 l1 (B false)) fun o1=>
 (fin R n1 m1 o1)) fun q1=>
 (gE j1 true (eC pg R h1 g1 true 11 #[k1] q1) (q1 undef g1 h1))) fun r1=>
 (gE c1 true (eC pg R q0 o0 true 15 #[d1] r1) (r1 undef o0 q0)))))))))))))))) fun s1=>
 (gE n false (eC pg R s r true 20 #[o,q] s1) (s1 undef r s))) fun t1=>
 (gE n false (eC pg R h g true 21 #[] t1) (t1 undef g h))))))))
def xD (p0:Value):Prop:=
 (((ja X0 w0 (I 0) (I 0) 4 3 fun a b c d e g=>
 ad pg g e (cY 22 3 p0) fun h=>
 ad pg g e (binOp .lss 3 c h) fun i=>
 un (aK i true c) fun j=>
 aG pg g e i true (vS (binOp .lss 3 j (I 120))) fun k=>
 aw pg g e (aM i k (B false)) fun l=>
 un (aK l true d) fun m=>
 aG pg g e l true (vS (binOp .leq 3 m (I 20000))) fun n=>
 aw pg g e (aM l n (B false)) fun o=>
 (au o
 ((ad pg g e (dy 22 53 p0 c) fun q=>
 ad pg g e (aJ 52 3 3 36 q) fun r=>
 ad pg g e (ff 50 36 r) fun s=>
 ad pg g e (dy 22 53 p0 c) fun t=>
 ad pg g e (aJ 52 4 39 12 t) fun v=>
 ad pg g e (ff 31 12 v) fun y=>
 eC pg R g e false 22 #[s,(I 20000)] fun z A C=>
 ad pg C A (binOp .add 3 d z) fun D=>
 eC pg R C A false 6 #[y,(I 20000)] fun E F G=>
 ad pg G F (binOp .add 3 D E) fun H=>
 ((ad pg G F (binOp .add 3 c (I 1)) fun L=>
 jb a b L H F G))))
 (((ad pg g e (cY 22 3 p0) fun M=>
 ad pg g e (binOp .leq 3 M (I 120)) fun N=>
 un (aK N true d) fun O=>
 aG pg g e N true (vS (binOp .leq 3 O (I 20000))) fun Q=>
 aw pg g e (aM N Q (B false)) fun S=>
 (fin R g e S))))))))
noncomputable def zI:ba:=⟨15,[(2,(pg.cellsOf 31))],[5,9],[0,1,4],[],[]⟩
def se (_p0_0 _p0_1:Int) (_p0_2 _p0_3:Nat) (_p0_4 _p0_5 _p0_6 _p0_7 _p0_8 _p0_9:Int) (bJ bG:Value) (p1:Int):Prop:=
 (eC pg R X0 w0 false 24 #[bJ,(I p1)] fun a b c=>
 eC pg R c b true 25 #[bG,(I p1)] fun d e g=>
 eC pg R g e true 23 #[a,d,(I p1)] fun h i j=>
 (fin R j i h))
noncomputable def Lh:ba:=⟨70,[(14,(pg.cellsOf 91))],[],[0,1,2,6,7,8,9,10,11,12,15,21,29,41,62,66],[18,19,20,57,58,59,60,61],[11]⟩
def BG (p0:Value) (p1 p2:Int):Prop:=
 (ad pg X0 w0 (binOp .lss 3 (I p1) (I 1)) fun a=>
 un (aK a false (I p1)) fun b=>
 aG pg X0 w0 a false (vS (binOp .gtr 3 b (I 12))) fun c=>
 aw pg X0 w0 (aM a (B true) c) fun d=>
 (au d
 ((fin R X0 w0 (ay #[(.pointer none),(I 1)])))
 ((eC pg R X0 w0 true 26 #[p0,(.string { data:= #[108,111,103] }),(I p2)] fun e g h=>
 ad pg h g (aB e 0) fun i=>
 ad pg h g (aB e 1) fun j=>
 (ad pg h g (aD .neq 36 (.tmp 28) (.const (I 0)) j (I 0)) fun k=>
 (au k
 ((fin R h g (ay #[(.pointer none),j])))
 ((eV pg R h g true (Instr.makeMap 79 none) fun l m n=>
 ad pg n m (dK 85 #[(I p1),i,(B false),(B false),(I 0),(I 0),(.float .f64 0),(.float .f64 0),(.pointer none),(.pointer none),(I 0),(I 0),(I 0),(I 0),(I 0),(I 0),(I 0),(.slice none 0 0),l,(.slice none 0 0)] #[(0,(I p1)),(1,i),(11,l)]) fun o=>
 eV pg R n m true (dR 85 o) fun q r s=>
 (eC pg R s r true 27 #[i] fun t v y=>
 (gU y v t 11 fun z A C D E=>
 eC pg R E D true 28 #[i] fun F G H=>
 ad pg H G (binOp .lss 3 C F) fun L=>
 (au L
 ((eC pg R H G true 29 #[i,C] fun M N O=>
 ad pg O N (aB M 0) fun Q=>
 ad pg O N (aB M 1) fun _=>
 (eC pg R O N true 30 #[Q] fun S T U=>
 ad pg U T (aB S 0) fun V=>
 ad pg U T (aB S 1) fun Y=>
 un (ai (aa V)) fun Z=>
 aC (ao (ab (aa V))==29) (aC (aq (ab (aa V)) aX.one) ((ad pg U T (aD .neq 36 (.tmp 55) (.const (I 0)) Y (I 0)) fun a0=>
 un (aK a0 false q) fun b0=>
 aC (bP Z) (un (bV Z 0 29) fun c0=>
 un (aK a0 false c0) fun d0=>
 jn (fun (e0:Value) (g0:World) (h0:XS)=>
 aG pg h0 g0 a0 false (vS (aQ aT e0)) fun i0=>
 aw pg h0 g0 (aM a0 (B true) i0) fun j0=>
 (au j0
 ((fin R h0 g0 (ay #[(.pointer none),(I 13)])))
 (((ad pg h0 g0 (binOp .add 3 C (I 1)) fun k0=>
 gV z A k0 g0 h0))))) fun l0=>
 (gE a0 false (eC pg R U T true 31 #[b0,d0] l0) (l0 undef T U)))))))))
 ((((jn (fun (m0:World) (n0:XS)=>
 (fin R n0 m0 (ay #[q,(I 0)]))) fun o0=>
 aw pg H G (az q) fun q0=>
 ad pg H G (aJ 85 3 3 1 q0) fun r0=>
 ad pg H G (ld1 4 r0) fun s0=>
 (au s0
 (eC pg R H G true 32 #[q] fun _ t0 v0=>
 (o0 t0 v0))
 (o0 G H)))))))))))))))))
def Gf:Prop:=
 (eV pg R X0 w0 true (Instr.makeMap 95 none) fun a b c=>
 ad pg c b (dK 97 #[a,(I 0),(I 0),(I 0),(B false)] #[(0,a)]) fun d=>
 eV pg R c b true (dR 97 d) fun e g h=>
 (fin R h g e))
def pt (p0:Value):Prop:=
 (aw pg X0 w0 (az p0) fun a=>
 ad pg X0 w0 (aJ 85 3 3 1 a) fun b=>
 ad pg X0 w0 (ld1 4 b) fun c=>
 un (aK c true p0) fun d=>
 aG pg X0 w0 c true (az d) fun e=>
 aG pg X0 w0 c true (vS (aJ 85 2 2 1 e)) fun g=>
 aG pg X0 w0 c true (vS (ld1 4 g)) fun h=>
 aG pg X0 w0 c true (vS (aQ aT h)) fun i=>
 aw pg X0 w0 (aM c i (B false)) fun j=>
 (fin R X0 w0 j))
def u6 (p0:Value):Prop:=
 (aw pg X0 w0 (az p0) fun a=>
 ad pg X0 w0 (aJ 85 2 2 1 a) fun b=>
 ad pg X0 w0 (ld1 4 b) fun c=>
 (fin R X0 w0 c))
def u7 (p0:Value):Prop:=
 (eC pg R X0 w0 true 11 #[p0] fun a b c=>
 ad pg c b (aQ aT a) fun d=>
 (au d
 (fin R c b (.slice none 0 0))
 ((aw pg c b (az p0) fun e=>
 ad pg c b (aJ 85 4 4 4 e) fun g=>
 ad pg c b (ff 25 4 g) fun h=>
 eV pg R c b true (fR 47 25 4 1 #[(0,h)]) fun i j k=>
 (aw pg k j (az p0) fun l=>
 ad pg k j (aJ 85 10 17 1 l) fun m=>
 ad pg k j (ld1 82 m) fun n=>
 ad pg k j (cY 82 3 n) fun o=>
 (ja k j (I 0) i 19 3 fun q r s t v y=>
 ad pg y v (binOp .lss 3 s o) fun z=>
 (au z
 ((ad pg y v (dy 82 13 n s) fun A=>
 ad pg y v (ff 106 13 A) fun C=>
 un (ai (aa C)) fun D=>
 aC (ao (ab (aa C))==13) (aC (aq (ab (aa C)) aX.one) ((aC (bP D) (un (bV D 0 4) fun E=>
 eV pg R y v true (fR 47 25 4 1 #[(0,E)]) fun F G H=>
 eV pg R H G true (gf 47 25 4 32 47 t F) fun L M N=>
 ((ad pg N M (binOp .add 3 s (I 1)) fun O=>
 jb q r O L M N))))))))
 (fin R y v t))))))))
def tP (p0:Value):Prop:=
 ((aw pg X0 w0 (az p0) fun a=>
 ad pg X0 w0 (aJ 85 10 17 1 a) fun b=>
 ad pg X0 w0 (ld1 82 b) fun c=>
 ad pg X0 w0 (cY 82 3 c) fun d=>
 (ja X0 w0 (I 0) (.slice none 0 0) 11 3 fun e g h i j k=>
 ad pg k j (binOp .lss 3 h d) fun l=>
 (au l
 (((jn (fun (m:Value) (n:World) (o:XS)=>
 (ad pg o n (binOp .add 3 h (I 1)) fun q=>
 jb e g q m n o)) fun r=>
 ad pg k j (dy 82 13 c h) fun s=>
 ad pg k j (ff 106 13 s) fun t=>
 un (ai (aa t)) fun v=>
 aC (ao (ab (aa t))==13) (aC (aq (ab (aa t)) aX.one) ((aC (bP v) (un (cellOf v 12) fun y=>
 ad pg k j (aQ aT y) fun z=>
 un (aK z true p0) fun A=>
 aG pg k j z true (az A) fun C=>
 aG pg k j z true (vS (aJ 85 2 2 1 C)) fun D=>
 aG pg k j z true (vS (ld1 4 D)) fun E=>
 aG pg k j z true (vS (aQ aT E)) fun F=>
 aw pg k j (aM z F (B false)) fun G=>
 (au G
 (aC (bP v) (un (cellOf v 0) fun H=>
 eV pg R k j true (fR 46 3 1 1 #[(0,H)]) fun L M N=>
 eV pg R N M true (gf 46 3 1 8 46 i L) fun O Q S=>
 (r O Q S)))
 (r i j k)))))))))
 (fin R k j i)))))
def rX (p0:Value):Prop:=
 (aw pg X0 w0 (az p0) fun a=>
 ad pg X0 w0 (aJ 85 2 2 1 a) fun b=>
 ad pg X0 w0 (ld1 4 b) fun c=>
 (au c
 (fin R X0 w0 (I 0))
 (aw pg X0 w0 (az p0) fun d=>
 ad pg X0 w0 (aJ 85 7 10 1 d) fun e=>
 ad pg X0 w0 (ld1 3 e) fun g=>
 (fin R X0 w0 g))))
noncomputable def GX:ba:=⟨38,[(2,(pg.cellsOf 31)),(3,(pg.cellsOf 31))],[5,7,11,13,18,20,25,27,32,34],[0,1,4],[10,12,14,15,17,19,21,22,24,26,28,29,31,33,35,36],[]⟩
def xU (aR aW:Int) (aY bB:Nat) (bQ bR bS bW cN cj:Int) (bJ bG:Value) (bo bh:Int) (bp dp:Nat) (cV cW cS cM dD dC:Int) (eu ei:Value):Prop:=
 (eC pg R X0 w0 true 48 #[(.agg #[(I aR),(I aW),(.float .f64 aY),(.float .f64 bB)]),(.agg #[(I bo),(I bh),(.float .f64 bp),(.float .f64 dp)])] fun a b c=>
 un (aK a true (.agg #[(I bQ),(I bR),(I bS)])) fun d=>
 un (aK a true (.agg #[(I cV),(I cW),(I cS)])) fun e=>
 aG pg c b a true (vS (aD .eql 27 (.tmp 12) (.tmp 14) d e)) fun g=>
 aw pg c b (aM a g (B false)) fun h=>
 un (aK h true (.agg #[(I bW),(I cN),(I cj)])) fun i=>
 un (aK h true (.agg #[(I cM),(I dD),(I dC)])) fun j=>
 aG pg c b h true (vS (aD .eql 27 (.tmp 19) (.tmp 21) i j)) fun k=>
 aw pg c b (aM h k (B false)) fun l=>
 un (aK l true bJ) fun m=>
 un (aK l true eu) fun n=>
 jn (fun (o:Value) (q:World) (r:XS)=>
 aw pg r q (aM l o (B false)) fun s=>
 un (aK s true bG) fun t=>
 un (aK s true ei) fun v=>
 jn (fun (y:Value) (z:World) (A:XS)=>
 aw pg A z (aM s y (B false)) fun C=>
 (fin R A z C)) fun D=>
 (gE s true (eC pg R r q true 50 #[t,v] D) (D undef q r))) fun E=>
 (gE l true (eC pg R c b true 49 #[m,n] E) (E undef b c)))
def oD (p0:Value):Prop:=
 (eC pg R X0 w0 true 11 #[p0] fun a b c=>
 ad pg c b (aQ aT a) fun d=>
 (au d
 (ad pg c b (dK 31 #[(I 0),(I 0),(.float .f64 0),(.float .f64 0),(I 0),(I 0),(I 0),(I 0),(I 0),(I 0),(.slice none 0 0),(.slice none 0 0)] #[]) fun e=>
 un (ai (aa e)) fun g=>
 aC (ao (ab (aa e))==12) (aC (aq (ab (aa e)) aX.one) (un (bV g 0 12) fun h=>
 aC (aq [g] bP) (fin R c b h))))
 ((aw pg c b (az p0) fun i=>
 ad pg c b (aJ 85 4 4 4 i) fun j=>
 ad pg c b (ff 25 4 j) fun k=>
 aw pg c b (az p0) fun l=>
 ad pg c b (aJ 85 8 11 3 l) fun m=>
 ad pg c b (ff 27 3 m) fun n=>
 aw pg c b (az p0) fun o=>
 ad pg c b (aJ 85 9 14 3 o) fun q=>
 ad pg c b (ff 27 3 q) fun r=>
 aw pg c b (az p0) fun s=>
 ad pg c b (aJ 85 5 8 1 s) fun t=>
 ad pg c b (ld1 80 t) fun v=>
 aw pg c b (az p0) fun y=>
 ad pg c b (aJ 85 5 8 1 y) fun z=>
 ad pg c b (ld1 80 z) fun A=>
 eC pg R c b false 51 #[v] fun C D E=>
 eC pg R E D false 47 #[A] fun F G H=>
 un (cellOf k 0) fun L=>
 un (cellOf k 1) fun M=>
 un (cellOf k 2) fun N=>
 un (cellOf k 3) fun O=>
 un (cellOf n 0) fun Q=>
 un (cellOf n 1) fun S=>
 un (cellOf n 2) fun T=>
 un (cellOf r 0) fun U=>
 un (cellOf r 1) fun V=>
 un (cellOf r 2) fun Y=>
 ad pg H G (dK 31 #[L,M,N,O,Q,S,T,U,V,Y,C,F] #[(0,k),(1,n),(2,r),(3,C),(4,F)]) fun Z=>
 un (ai (aa Z)) fun a0=>
 aC (ao (ab (aa Z))==12) (aC (aq (ab (aa Z)) aX.one) (un (bV a0 0 12) fun b0=>
 aC (aq [a0] bP) (fin R H G b0)))))))
noncomputable def AJ:ba:=⟨32,[(2,(pg.cellsOf 42)),(3,(pg.cellsOf 42))],[6,8,11,13,17,19,22,24,27,29],[0,1,4,5,16],[],[]⟩
def sS (aR aW aY bo bh bp:Int):Prop:=
 (ad pg X0 w0 (aD .neq 3 (.tmp 7) (.tmp 9) (I aR) (I bo)) fun a=>
 (au a
 (ad pg X0 w0 (binOp .lss 3 (I aR) (I bo)) fun b=>
 (fin R X0 w0 b))
 (ad pg X0 w0 (aD .neq 3 (.tmp 18) (.tmp 20) (I aW) (I bh)) fun c=>
 (au c
 (ad pg X0 w0 (binOp .lss 3 (I aW) (I bh)) fun d=>
 (fin R X0 w0 d))
 (((ad pg X0 w0 (binOp .lss 3 (I aY) (I bp)) fun e=>
 (fin R X0 w0 e))))))))
def vn:Prop:=
 (ad pg X0 w0 (dK 25 #[(I 1),(I 0),(.float .f64 0),(.float .f64 4607182418800017408)] #[(0,(I 1)),(3,(.float .f64 4607182418800017408))]) fun a=>
 un (cellOf a 0) fun b=>
 un (cellOf a 1) fun c=>
 un (cellOf a 2) fun d=>
 un (cellOf a 3) fun e=>
 ad pg X0 w0 (dK 31 #[b,c,d,e,(I 0),(I 0),(I 0),(I 0),(I 0),(I 0),(.slice none 0 0),(.slice none 0 0)] #[(0,a)]) fun g=>
 un (ai (aa g)) fun h=>
 aC (ao (ab (aa g))==12) (aC (aq (ab (aa g)) aX.one) (un (bV h 0 12) fun i=>
 aC (aq [h] bP) (fin R X0 w0 i))))
noncomputable def Ca:ba:=⟨72,[(2,(pg.cellsOf 50))],[7,11,18,25,34,43,55,66],[0,1,4,5,6,51],[47,48,49,50],[5,6]⟩
def tT (_p0_0 _p0_1 _p0_2 _p0_3 _p0_4 _p0_5 _p0_6 _p0_7 _p0_8 _p0_9 _p0_10 _p0_11 _p0_12 _p0_13 _p0_14:Int) (_p0_15:Bool) (_p0_16 _p0_17:Int) (cm ca cn cq ct cD:Value) (cu cy:Int) (cz cA:Nat) (cB eH eI eJ eK eM:Int) (eO eP:Value) (p1:Int):Prop:=
 (eC pg R X0 w0 false 58 #[cm,(I p1)] fun a b c=>
 eC pg R c b true 59 #[ca,(I p1)] fun d e g=>
 eC pg R g e true 23 #[a,d,(I p1)] fun h i j=>
 (eC pg R j i true 60 #[cn,(I p1)] fun k l m=>
 eC pg R m l true 23 #[h,k,(I p1)] fun n o q=>
 (ad pg q o (cY 46 3 cq) fun r=>
 ad pg q o (binOp .add 3 (I p1) (I 1)) fun s=>
 ad pg q o (gZ #[3,3] 3 #[r,s]) fun t=>
 eC pg R q o true 23 #[n,t,(I p1)] fun v y z=>
 (ad pg z y (cY 47 3 ct) fun A=>
 ad pg z y (binOp .add 3 (I p1) (I 1)) fun C=>
 ad pg z y (gZ #[3,3] 3 #[A,C]) fun D=>
 eC pg R z y true 23 #[v,D,(I p1)] fun E F G=>
 ((ja G F (I 0) E 6 5 fun H L M N O Q=>
 ad pg Q O (cY 48 3 cD) fun S=>
 ad pg Q O (binOp .lss 3 M S) fun T=>
 un (aK T true N) fun U=>
 un (aK T true (I p1)) fun V=>
 aG pg Q O T true (vS (binOp .leq 3 U V)) fun Y=>
 aw pg Q O (aM T Y (B false)) fun Z=>
 (au Z
 ((ad pg Q O (dy 48 29 cD M) fun a0=>
 ad pg Q O (ff 91 29 a0) fun b0=>
 eC pg R Q O true 61 #[b0,(I p1)] fun c0 d0 e0=>
 eC pg R e0 d0 true 23 #[N,c0,(I p1)] fun g0 h0 i0=>
 ((ad pg i0 h0 (binOp .add 3 M (I 1)) fun j0=>
 jb H L j0 g0 h0 i0))))
 (((ad pg Q O (binOp .add 3 N (I 1)) fun k0=>
 eC pg R Q O true 6 #[(.agg #[(I cu),(I cy),(.float .f64 cz),(.float .f64 cA),(I cB),(I eH),(I eI),(I eJ),(I eK),(I eM),eO,eP]),(I p1)] fun l0 m0 n0=>
 eC pg R n0 m0 true 23 #[k0,l0,(I p1)] fun o0 q0 r0=>
 (fin R r0 q0 o0)))))))))))
noncomputable def JB:ba:=⟨20,[],[],[0,1,2,6,14],[10,11,12,13],[]⟩
def zJ (p0 p1 p2:Int):Prop:=
 (ad pg X0 w0 (binOp .gtr 3 (I p1) (I p2)) fun a=>
 un (aK a false (I p0)) fun b=>
 un (aK a false (I p2)) fun c=>
 aG pg X0 w0 a false (vS (binOp .gtr 3 b c)) fun d=>
 aw pg X0 w0 (aM a (B true) d) fun e=>
 (au e
 (ad pg X0 w0 (binOp .add 3 (I p2) (I 1)) fun g=>
 (fin R X0 w0 g))
 ((ad pg X0 w0 (binOp .add 3 (I p0) (I p1)) fun h=>
 (fin R X0 w0 h)))))
noncomputable def wL:ba:=⟨60,[],[],[0,1,4,5,6,7,16,41],[12,13,14,15,37,38,39,40],[5,6,7]⟩
def oS (p0:Value) (p1:Int):Prop:=
 (((vT X0 w0 (I 0) undef (I 0) 6 7 5 fun a b c _ d e g=>
 ad pg g e (cY 28 3 p0) fun h=>
 ad pg g e (binOp .lss 3 c h) fun i=>
 un (aK i true d) fun j=>
 un (aK i true (I p1)) fun k=>
 aG pg g e i true (vS (binOp .leq 3 j k)) fun l=>
 aw pg g e (aM i l (B false)) fun m=>
 (au m
 ((ad pg g e (dy 28 2 p0 c) fun n=>
 ad pg g e (aJ 129 0 0 1 n) fun o=>
 ad pg g e (ld1 9 o) fun q=>
 ad pg g e (mm 9 3 q) fun r=>
 ad pg g e (binOp .add 3 (I 1) r) fun s=>
 eC pg R g e true 23 #[d,s,(I p1)] fun t v y=>
 ((ja y v (I 0) t 7 5 fun z A C D E F=>
 ad pg F E (dy 28 2 p0 c) fun G=>
 ad pg F E (aJ 129 1 1 1 G) fun H=>
 ad pg F E (ld1 127 H) fun L=>
 ad pg F E (cY 127 3 L) fun M=>
 ad pg F E (binOp .lss 3 C M) fun N=>
 un (aK N true D) fun O=>
 un (aK N true (I p1)) fun Q=>
 aG pg F E N true (vS (binOp .leq 3 O Q)) fun S=>
 aw pg F E (aM N S (B false)) fun T=>
 (au T
 ((ad pg F E (dy 28 2 p0 c) fun U=>
 ad pg F E (aJ 129 1 1 1 U) fun V=>
 ad pg F E (ld1 127 V) fun Y=>
 ad pg F E (dy 127 6 Y C) fun Z=>
 ad pg F E (aJ 131 1 3 3 Z) fun a0=>
 ad pg F E (aJ 69 2 2 1 a0) fun b0=>
 ad pg F E (ld1 9 b0) fun c0=>
 ad pg F E (mm 9 3 c0) fun d0=>
 ad pg F E (binOp .add 3 (I 1) d0) fun e0=>
 eC pg R F E true 23 #[D,e0,(I p1)] fun g0 h0 i0=>
 ((ad pg i0 h0 (binOp .add 3 C (I 1)) fun j0=>
 jb z A j0 g0 h0 i0))))
 ((((ad pg F E (binOp .add 3 c (I 1)) fun k0=>
 vU a b k0 C D E F)))))))))
 (fin R g e d)))))
noncomputable def xV:ba:=⟨39,[],[],[0,1,4,5,6,15],[11,12,13,14,18],[5,6]⟩
def pB (p0:Value) (p1:Int):Prop:=
 (((ja X0 w0 (I 0) (I 0) 6 5 fun a b c d e g=>
 ad pg g e (cY 29 3 p0) fun h=>
 ad pg g e (binOp .lss 3 c h) fun i=>
 un (aK i true d) fun j=>
 un (aK i true (I p1)) fun k=>
 aG pg g e i true (vS (binOp .leq 3 j k)) fun l=>
 aw pg g e (aM i l (B false)) fun m=>
 (au m
 ((ad pg g e (dy 29 8 p0 c) fun n=>
 ad pg g e (aJ 65 2 6 1 n) fun o=>
 ad pg g e (ld1 43 o) fun q=>
 ad pg g e (dy 29 8 p0 c) fun r=>
 ad pg g e (aJ 65 3 7 1 r) fun s=>
 ad pg g e (ld1 45 s) fun t=>
 eC pg R g e false 58 #[q,(I p1)] fun v y z=>
 ad pg z y (binOp .add 3 (I 1) v) fun A=>
 eC pg R z y false 23 #[d,A,(I p1)] fun C D E=>
 eC pg R E D true 60 #[t,(I p1)] fun F G H=>
 eC pg R H G true 23 #[C,F,(I p1)] fun L M N=>
 ((ad pg N M (binOp .add 3 c (I 1)) fun O=>
 jb a b O L M N))))
 (fin R g e d)))))
noncomputable def PR:ba:=⟨79,[],[],[0,1,2,6,7,9,10,12,13,14,15,16,22,26,33,42,43,44,45,52,58,66,70,76],[29,30,31],[44]⟩
def FN (p0:Value) (p1:ByteArray) (p2:Int):Prop:=
 (eC pg R X0 w0 true 62 #[(.string p1),(I 1)] fun a b c=>
 ad pg c b (aB a 0) fun _=>
 ad pg c b (aB a 1) fun d=>
 (ad pg c b (aD .neq 36 (.tmp 23) (.const (I 0)) d (I 0)) fun e=>
 (au e
 ((fin R c b (ay #[(.pointer none),d])))
 (ad pg c b (binOp .lss 3 (I p2) (I 64)) fun g=>
 un (aK g false (I p2)) fun h=>
 aG pg c b g false (vS (binOp .gtr 3 h (I 262144))) fun i=>
 aw pg c b (aM g (B true) i) fun j=>
 (au j
 ((fin R c b (ay #[(.pointer none),(I 1)])))
 (eC pg R c b true 63 #[p0] fun k l m=>
 (au k
 ((fin R m l (ay #[(.pointer none),(I 12)])))
 (((ad pg m l (dK 136 #[p0,(.string p1),(I p2),(.slice none 0 0),(I 0)] #[(0,p0),(1,(.string p1)),(2,(I p2))]) fun n=>
 eV pg R m l true (dR 136 n) fun o q r=>
 (eC pg R r q true 64 #[p0] fun s t v=>
 ad pg v t (cY 43 3 s) fun y=>
 (gU v t (I 0) 44 fun z A C D E=>
 ad pg E D (binOp .lss 3 C y) fun F=>
 (au F
 (((jn (fun (G:World) (H:XS)=>
 (ad pg H G (binOp .add 3 C (I 1)) fun L=>
 gV z A L G H)) fun M=>
 ad pg E D (dy 43 1 s C) fun N=>
 ad pg E D (ld1 9 N) fun O=>
 (eC pg R E D true 65 #[(.string p1),O] fun Q S T=>
 (ad pg T S (aD .eql 3 (.tmp 51) (.const (I 0)) Q (I 0)) fun U=>
 (au U
 (M S T)
 ((eC pg R T S true 66 #[o,Q,O] fun V Y Z=>
 (ad pg Z Y (aD .neq 36 (.tmp 57) (.const (I 0)) V (I 0)) fun a0=>
 (au a0
 ((fin R Z Y (ay #[(.pointer none),V])))
 (M Y Z)))))))))))
 (((aw pg E D (az o) fun b0=>
 ad pg E D (aJ 136 3 3 1 b0) fun c0=>
 ad pg E D (ld1 134 c0) fun d0=>
 ad pg E D (cY 134 3 d0) fun e0=>
 ad pg E D (aD .eql 3 (.tmp 65) (.const (I 0)) e0 (I 0)) fun g0=>
 (au g0
 (eC pg R E D true 67 #[o,(I 1)] fun h0 i0 j0=>
 (ad pg j0 i0 (aD .neq 36 (.tmp 69) (.const (I 0)) h0 (I 0)) fun k0=>
 (au k0
 ((fin R j0 i0 (ay #[(.pointer none),h0])))
 (((fin R j0 i0 (ay #[o,(I 0)])))))))
 ((eC pg R E D true 68 #[o] fun l0 m0 n0=>
 (ad pg n0 m0 (aD .neq 36 (.tmp 75) (.const (I 0)) l0 (I 0)) fun o0=>
 (au o0
 ((fin R n0 m0 (ay #[(.pointer none),l0])))
 (((fin R n0 m0 (ay #[o,(I 0)])))))))))))))))))))))))))
def xW (p0:Value):Prop:=
 (aw pg X0 w0 (az p0) fun a=>
 ad pg X0 w0 (aJ 136 3 3 1 a) fun b=>
 ad pg X0 w0 (ld1 134 b) fun c=>
 ad pg X0 w0 (dy 134 1 c (I 0)) fun d=>
 ad pg X0 w0 (ld1 145 d) fun e=>
 aw pg X0 w0 (az e) fun g=>
 ad pg X0 w0 (aJ 144 0 0 1 g) fun h=>
 ad pg X0 w0 (ld1 3 h) fun i=>
 (fin R X0 w0 i))
def yz (p0:Value):Prop:=
 (eC pg R X0 w0 true 69 #[p0] fun a b c=>
 aw pg c b (az a) fun d=>
 ad pg c b (aJ 144 0 0 1 d) fun e=>
 ad pg c b (ld1 3 e) fun g=>
 eC pg R c b false 69 #[p0] fun h i j=>
 aw pg j i (az h) fun k=>
 ad pg j i (aJ 144 1 1 1 k) fun l=>
 ad pg j i (ld1 142 l) fun m=>
 ad pg j i (cY 142 3 m) fun n=>
 ad pg j i (binOp .add 3 g n) fun o=>
 (fin R j i o))
noncomputable def PS:ba:=⟨34,[(1,(pg.cellsOf 50)),(3,(pg.cellsOf 50))],[14,19],[0,2,4,10,13],[18,20,21,22,24,25,26,27,29,30,31,32],[]⟩
def Gg (aR aW aY bB bQ bR bS bW cN cj bJ bG cR cH cE:Int) (cG:Bool) (cI cK:Int) (cm ca cn cq ct cD:Value) (cu cy:Int) (cz cA:Nat) (cB eH eI eJ eK eM:Int) (eO eP:Value):Prop:=
 (eC pg R X0 w0 true 83 #[(.agg #[(I aR),(I aW),(I aY),(I bB),(I bQ),(I bR),(I bS),(I bW),(I cN),(I cj),(I bJ),(I bG),(I cR),(I cH),(I cE),(B cG),(I cI),(I cK),cm,ca,cn,cq,ct,cD,(I cu),(I cy),(.float .f64 cz),(.float .f64 cA),(I cB),(I eH),(I eI),(I eJ),(I eK),(I eM),eO,eP])] fun a b c=>
 ad pg c b (aB a 0) fun d=>
 ad pg c b (aB a 1) fun e=>
 un (ai (aa d)) fun g=>
 aC (ao (ab (aa d))==36) (aC (aq (ab (aa d)) aX.one) ((ad pg c b (aQ aT e) fun h=>
 (au h
 (fin R c b (I 7))
 (eC pg R c b true 84 #[(I aW)] fun i j k=>
 ad pg k j (aQ aT i) fun l=>
 un (aK l false (I aY)) fun m=>
 jn (fun (n:Value) (o:World) (q:XS)=>
 aG pg q o l false (vS (aQ aT n)) fun r=>
 aw pg q o (aM l (B true) r) fun s=>
 aC (bP g) (un (bV g 0 36) fun t=>
 un (aK s false t) fun v=>
 jn (fun (y:Value) (z:World) (A:XS)=>
 aG pg A z s false (vS (aQ aT y)) fun C=>
 aw pg A z (aM s (B true) C) fun D=>
 un (aK D false (.agg #[(I aR),(I aW),(I aY),(I bB),(I bQ),(I bR),(I bS),(I bW),(I cN),(I cj),(I bJ),(I bG),(I cR),(I cH),(I cE),(B cG),(I cI),(I cK),cm,ca,cn,cq,ct,cD,(I cu),(I cy),(.float .f64 cz),(.float .f64 cA),(I cB),(I eH),(I eI),(I eJ),(I eK),(I eM),eO,eP])) fun E=>
 jn (fun (F:Value) (G:World) (H:XS)=>
 aG pg H G D false (vS (aQ aT F)) fun L=>
 aw pg H G (aM D (B true) L) fun M=>
 (au M
 (fin R H G (I 4))
 (fin R H G (I 0)))) fun N=>
 (gE D false (eC pg R A z true 86 #[E] N) (N undef z A))) fun O=>
 (gE s false (eC pg R q o true 85 #[v] O) (O undef o q)))) fun Q=>
 (gE l false (eC pg R k j true 84 #[m] Q) (Q undef j k))))))))
noncomputable def zK:ba:=⟨64,[(5,(pg.cellsOf 50)),(7,(pg.cellsOf 50)),(8,(pg.cellsOf 50)),(10,(pg.cellsOf 65)),(12,(pg.cellsOf 27))],[14,20,26,28,34,47,49,57,62],[0,1,2,3,9,11,13,25,37,51,59],[],[]⟩
def rY (p0:Value) (_p1_0 bh bp dp cV cW cS cM dD dC eu ei qP qQ qS:Int) (qT:Bool) (qU qV:Int) (qW qX qY qZ ra rj:Value) (rm rn:Int) (rq rr:Nat) (ru AK AL AM AN AO:Int) (AP AQ:Value) (p2 R5 R6 R7 GY GZ G9 R8 R9 Sa Sb LX LY LZ L9 Ma:Int) (Mb:Bool) (Mc Md:Int) (Me Mf Mg Mh Mi Mj:Value) (Mk Ml:Int) (Mm Mn:Nat) (Mo Mp Mq Mr Ms Mt:Int) (Mu Mw:Value):Prop:=
 (((jn (fun (a b:Value) (c:World) (d:XS)=>
 (au b
 (aC (bP a) (un (bV a 3 3) fun e=>
 un (ai (aI (cP [(I 4),(I bh),(I bp),(I dp),(I cV),(I cW),(I cS),(I cM),(I dD),(I dC),(I eu),(I ei),(I qP),(I qQ),(I qS),(B qT),(I qU),(I qV),qW,qX,qY,qZ,ra,rj,(I rm),(I rn),(.float .f64 rq),(.float .f64 rr),(I ru),(I AK),(I AL),(I AM),(I AN),(I AO),AP,AQ] 9 (ab (aa e))))) fun g=>
 aC (ao (ab (aa e))==3) (aC (aq (ab (aa e)) aX.one) ((aC (bP g) (un (bV g 0 36) fun h=>
 un (ai (aa h)) fun i=>
 aC (ao (ab (aa h))==36) (aC (aq (ab (aa h)) aX.one) ((un (bV i 0 36) fun j=>
 aC (aq [i] bP) (fin R d c (ay #[j,(B true)])))))))))))
 ((aw pg d c (az p0) fun k=>
 ad pg d c (aJ 85 11 18 1 k) fun l=>
 ad pg d c (ld1 79 l) fun m=>
 ad pg d c (Instr.lookup 79 m (.agg #[(I GY),(I GZ),(I G9)]) false) fun n=>
 ad pg d c (binOp .gtr 3 n (I 0)) fun o=>
 (au o
 (aC (aq [(I 4),(I bh),(I bp),(I dp),(I cV),(I cW),(I cS),(I cM),(I dD),(I dC),(I eu),(I ei),(I qP),(I qQ),(I qS),(B qT),(I qU),(I qV),qW,qX,qY,qZ,ra,rj,(I rm),(I rn),(.float .f64 rq),(.float .f64 rr),(I ru),(I AK),(I AL),(I AM),(I AN),(I AO),AP,AQ] aX.one) ((fin R d c (ay #[(.agg #[(I 4),(I bh),(I bp),(I dp),(I cV),(I cW),(I cS),(I cM),(I dD),(I dC),(I eu),(I ei),(I qP),(I qQ),(I qS),(B qT),(I qU),(I qV),qW,qX,qY,qZ,ra,rj,(I rm),(I rn),(.float .f64 rq),(.float .f64 rr),(I ru),(I AK),(I AL),(I AM),(I AN),(I AO),AP,AQ]),(B false)]))))
 ((eC pg R d c true 90 #[p0,(I p2),(.agg #[(I R5),(I R6),(I R7),(I GY),(I GZ),(I G9),(I R8),(I R9),(I Sa),(I Sb),(I LX),(I LY),(I LZ),(I L9),(I Ma),(B Mb),(I Mc),(I Md),Me,Mf,Mg,Mh,Mi,Mj,(I Mk),(I Ml),(.float .f64 Mm),(.float .f64 Mn),(I Mo),(I Mp),(I Mq),(I Mr),(I Ms),(I Mt),Mu,Mw])] fun q r s=>
 ad pg s r (aB q 0) fun t=>
 ad pg s r (aB q 1) fun v=>
 un (ai (aa t)) fun y=>
 aC (ao (ab (aa t))==3) (aC (aq (ab (aa t)) aX.one) ((aC (aX.one v) ((aC (bP y) (un (bV y 0 3) fun z=>
 un (ai (aI (cP [(I 4),(I bh),(I bp),(I dp),(I cV),(I cW),(I cS),(I cM),v,(I dC),(I eu),(I ei),(I qP),(I qQ),(I qS),(B qT),(I qU),(I qV),qW,qX,qY,qZ,ra,rj,(I rm),(I rn),(.float .f64 rq),(.float .f64 rr),(I ru),(I AK),(I AL),(I AM),(I AN),(I AO),AP,AQ] 9 (ab (aa z))))) fun A=>
 aC (ao (ab (aa z))==3) (aC (aq (ab (aa z)) aX.one) (((jn (fun (C:Value) (D:World) (E:XS)=>
 (jn (fun (F:Value) (G:World) (H:XS)=>
 aC (bP F) (un (bV F 0 36) fun L=>
 un (ai (aa L)) fun M=>
 aC (ao (ab (aa L))==36) (aC (aq (ab (aa L)) aX.one) ((un (bV M 0 36) fun N=>
 aC (aq [M] bP) (fin R H G (ay #[N,(B true)]))))))) fun O=>
 ad pg E D (aD .eql 36 (.tmp 58) (.const (I 21)) v (I 21)) fun Q=>
 (au Q
 (eC pg R E D true 13 #[p0] fun S T U=>
 aC (bP C) (un (ai (aI (cP (ab (aa C)) 22 [S]))) fun V=>
 aC (aX.one S) (O V T U)))
 (O C D E)))) fun Y=>
 ad pg s r (aD .neq 36 (.tmp 50) (.const (I 0)) v (I 0)) fun Z=>
 (au Z
 (aw pg s r (az p0) fun a0=>
 ad pg s r (aJ 85 6 9 1 a0) fun b0=>
 ad pg s r (ld1 81 b0) fun c0=>
 eC pg R s r true 88 #[c0] fun d0 e0 g0=>
 aC (bP A) (un (ai (aI (cP (ab (aa A)) 9 (ab (aa d0))))) fun h0=>
 aC (ao (ab (aa d0))==3) (aC (aq (ab (aa d0)) aX.one) (Y h0 e0 g0))))
 (Y A r s))))))))))))))))))) fun i0=>
 (aw pg X0 w0 (az p0) fun j0=>
 (ad pg X0 w0 (aJ 85 5 8 1 j0) fun k0=>
 (ad pg X0 w0 (ld1 80 k0) fun l0=>
 (((And
 (eC pg R X0 w0 true 89 #[l0,(.agg #[(I GY),(I GZ),(I G9)])] fun m0 n0 o0=>
 ((ad pg o0 n0 (aB m0 0) fun q0=>
 (ad pg o0 n0 (aB m0 1) fun r0=>
 ((un (ai (aa q0)) fun s0=>
 aC (ao (ab (aa q0))==8) (aC (aq (ab (aa q0)) aX.one) (i0 s0 r0 n0 o0))))))))
 ((eC pg R X0 w0 true 89 #[l0,(.agg #[(I GY),(I GZ),(I G9)])] fun t0 v0 y0=>
 ((ad pg y0 v0 (aB t0 0) fun z0=>
 (ad pg y0 v0 (aB t0 1) fun A0=>
 (un (ai (aa z0)) fun C0=>
 aC (ao (ab (aa z0))==8) (aC (aq (ab (aa z0)) aX.one) (i0 C0 A0 v0 y0)))))))))))))))))
noncomputable def DD:ba:=⟨38,[(3,(pg.cellsOf 91))],[],[0,1,4,5,6,13,24,31],[],[]⟩
def u4 (p0:Value) (bo bh bp dp cV cW cS cM dD dC:Int) (eu:Bool) (ei:Int) (qP:Nat) (qQ qS qT qU:Value) (qV qW:Int) (qX qY:Nat) (qZ ra rj rm rn rq:Int) (rr ru:Value):Prop:=
 (eC pg R X0 w0 true 55 #[(.agg #[(I bo),(I bh),(I bp),(I dp),(I cV),(I cW),(I cS),(I cM),(I dD),(I dC),(B eu),(I ei),(.float .f64 qP),qQ,qS,qT,qU,(I qV),(I qW),(.float .f64 qX),(.float .f64 qY),(I qZ),(I ra),(I rj),(I rm),(I rn),(I rq),rr,ru])] fun a b c=>
 ad pg c b (aB a 0) fun d=>
 ad pg c b (aB a 1) fun e=>
 ((jn (fun (g:Value) (h:World) (i:XS)=>
 (jn (fun (j:Value) (k:World) (l:XS)=>
 (jn (fun (m:World) (n:XS)=>
 (fin R n m j)) fun o=>
 ad pg l k (aD .eql 36 (.tmp 30) (.const (I 12)) j (I 12)) fun q=>
 (au q
 (aw pg l k (az p0) fun r=>
 ad pg l k (aJ 85 2 2 1 r) fun s=>
 eU pg R l k true (st1 4 1 s (B true)) fun _ t v=>
 (ad pg v t (dK 171 #[] #[]) fun y=>
 ad pg v t (Instr.makeInterface 171 y) fun z=>
 eV pg R v t true (Instr.panic z) fun _ A C=>
 (o A C)))
 (o k l)))) fun D=>
 ad pg i h (aD .eql 36 (.tmp 23) (.const (I 0)) g (I 0)) fun E=>
 (au E
 (aw pg i h (az p0) fun F=>
 ad pg i h (aJ 85 1 1 1 F) fun G=>
 ad pg i h (ld1 76 G) fun H=>
 eC pg R i h true 95 #[H] fun L M N=>
 (D L M N))
 (D g h i)))) fun O=>
 ad pg c b (aD .eql 36 (.tmp 12) (.const (I 0)) e (I 0)) fun Q=>
 (au Q
 (aw pg c b (az p0) fun S=>
 ad pg c b (aJ 85 1 1 1 S) fun T=>
 ad pg c b (ld1 76 T) fun U=>
 eC pg R c b true 94 #[U,d] fun V Y Z=>
 ad pg Z Y (aB V 0) fun _=>
 ad pg Z Y (aB V 1) fun a0=>
 (O a0 Y Z))
 (O e b c)))))
noncomputable def Cb:ba:=⟨50,[(3,(pg.cellsOf 31))],[16,17],[0,1,4,5,6,11,30],[15,18,19,20,21,22,23],[]⟩
def oF (p0:Value) (bo bh:Int) (bp dp:Nat) (cV cW cS cM dD dC:Int) (eu ei:Value):Prop:=
 (aw pg X0 w0 (az p0) fun a=>
 ad pg X0 w0 (aJ 85 3 3 1 a) fun b=>
 ad pg X0 w0 (ld1 4 b) fun c=>
 (au c
 (fin R X0 w0 (I 14))
 (eC pg R X0 w0 true 96 #[(.agg #[(I bo),(I bh),(.float .f64 bp),(.float .f64 dp),(I cV),(I cW),(I cS),(I cM),(I dD),(I dC),eu,ei])] fun d e g=>
 ad pg g e (aQ aT d) fun h=>
 un (aK h false (I bo)) fun i=>
 un (aK h false p0) fun j=>
 aG pg g e h false (az j) fun k=>
 aG pg g e h false (vS (aJ 85 0 0 1 k)) fun l=>
 aG pg g e h false (vS (ld1 3 l)) fun m=>
 aG pg g e h false (vS (aD .neq 3 (.tmp 18) (.tmp 22) i m)) fun n=>
 aw pg g e (aM h (B true) n) fun o=>
 (au o
 (fin R g e (I 4))
 (((ad pg g e (dK 91 #[(I 1),(I 0),(I 0),(I 0),(I 0),(I 0),(I 0),(I 0),(I 0),(I 0),(B false),(I 0),(.float .f64 0),(.slice none 0 0),(.slice none 0 0),(.slice none 0 0),(.slice none 0 0),(I bo),(I bh),(.float .f64 bp),(.float .f64 dp),(I cV),(I cW),(I cS),(I cM),(I dD),(I dC),eu,ei] #[(0,(I 1)),(11,(.agg #[(I bo),(I bh),(.float .f64 bp),(.float .f64 dp),(I cV),(I cW),(I cS),(I cM),(I dD),(I dC),eu,ei]))]) fun q=>
 eC pg R g e true 41 #[p0,q] fun r s t=>
 (ad pg t s (aD .neq 36 (.tmp 29) (.const (I 0)) r (I 0)) fun v=>
 (au v
 (fin R t s r)
 ((eC pg R t s true 76 #[p0,(.agg #[(I bo),(I bh),(.float .f64 bp),(.float .f64 dp),(I cV),(I cW),(I cS),(I cM),(I dD),(I dC),eu,ei])] fun _ y z=>
 (aw pg z y (az p0) fun A=>
 ad pg z y (aJ 85 0 0 1 A) fun C=>
 ad pg z y (ld1 3 C) fun D=>
 aw pg z y (az p0) fun E=>
 ad pg z y (aJ 85 8 11 3 E) fun F=>
 ad pg z y (ff 27 3 F) fun G=>
 eC pg R z y true 81 #[D,G] fun H L M=>
 ad pg M L (aB H 0) fun N=>
 ad pg M L (aB H 1) fun _=>
 aw pg M L (az p0) fun O=>
 ad pg M L (aJ 85 6 9 1 O) fun Q=>
 eU pg R M L true (st1 81 1 Q N) fun _ S T=>
 (fin R T S (I 0))))))))))))))
noncomputable def Cc:ba:=⟨35,[(4,(pg.cellsOf 27)),(6,(pg.cellsOf 27))],[20],[0,1,5,7,18,24],[],[]⟩
def tN (p0:Value) (p1:Int):Prop:=
 (aw pg X0 w0 (az p0) fun a=>
 ad pg X0 w0 (aJ 85 6 9 1 a) fun b=>
 ad pg X0 w0 (ld1 81 b) fun c=>
 eC pg R X0 w0 true 97 #[c,(I p1)] fun d e g=>
 ad pg g e (aB d 0) fun h=>
 ad pg g e (aB d 1) fun i=>
 un (ai (aa h)) fun j=>
 aC (ao (ab (aa h))==3) (aC (aq (ab (aa h)) aX.one) (((jn (fun (k:Value) (l:World) (m:XS)=>
 ad pg m l (aD .neq 36 (.tmp 23) (.const (I 0)) k (I 0)) fun n=>
 (au n
 (ad pg m l (dK 27 #[(I 0),(I 0),(I 0)] #[]) fun o=>
 un (ai (aa o)) fun q=>
 aC (ao (ab (aa o))==3) (aC (aq (ab (aa o)) aX.one) ((un (bV q 0 3) fun r=>
 aC (aq [q] bP) (fin R m l (ay #[r,k]))))))
 ((aw pg m l (az p0) fun s=>
 ad pg m l (aJ 85 6 9 1 s) fun t=>
 ad pg m l (ld1 81 t) fun v=>
 eC pg R m l true 99 #[v,(I p1)] fun y z A=>
 ad pg A z (aB y 0) fun C=>
 ad pg A z (aB y 1) fun D=>
 un (ai (aa C)) fun E=>
 aC (ao (ab (aa C))==3) (aC (aq (ab (aa C)) aX.one) ((un (bV E 0 3) fun F=>
 aC (aq [E] bP) (fin R A z (ay #[F,D]))))))))) fun G=>
 ad pg g e (aD .eql 36 (.tmp 17) (.const (I 0)) i (I 0)) fun H=>
 (au H
 (aC (bP j) (un (cellOf j 0) fun L=>
 eC pg R g e true 98 #[p0,L] fun M N O=>
 (G M N O)))
 (G i e g)))))))
def rS (p0:Value):Prop:=
 ((aw pg X0 w0 (az p0) fun a=>
 ad pg X0 w0 (aJ 190 1 1 1 a) fun b=>
 ad pg X0 w0 (ld1 188 b) fun c=>
 eV pg R X0 w0 true (Instr.range 188 c) fun d e g=>
 (gU g e (.slice none 0 0) 3 fun h i j k l=>
 eV pg R l k true (Instr.next d false 0) fun m n o=>
 ad pg o n (aB m 0) fun q=>
 (au q
 ((eV pg R o n true (Instr.entry d) fun r s t=>
 ad pg t s (aB r 1) fun v=>
 un (ai (aa v)) fun y=>
 aC (ao (ab (aa v))==8) (aC (aq (ab (aa v)) aX.one) ((aC (bP y) (un (bV y 0 8) fun z=>
 eC pg R t s true 101 #[z] fun A C D=>
 eV pg R D C true (fR 29 65 8 1 #[(0,A)]) fun E F G=>
 eV pg R G F true (gf 29 65 8 96 29 j E) fun H L M=>
 (gV h i H L M)))))))
 (((eC pg R o n true 102 #[j,(Value.func (Fn.func 103) #[] #[])] fun _ N O=>
 (fin R O N j))))))))
noncomputable def Ha:ba:=⟨31,[(2,(pg.cellsOf 25)),(3,(pg.cellsOf 25))],[5,7,11,13,18,20,25,27],[0,1,4],[10,12,14,15,17,19,21,22,24,26,28,29],[]⟩
def xX (aR aW:Int) (aY bB:Nat) (bo bh:Int) (bp dp:Nat):Prop:=
 (ad pg X0 w0 (aD .eql 3 (.tmp 6) (.tmp 8) (I aR) (I bo)) fun a=>
 un (aK a true (I aW)) fun b=>
 un (aK a true (I bh)) fun c=>
 aG pg X0 w0 a true (vS (aD .eql 3 (.tmp 12) (.tmp 14) b c)) fun d=>
 aw pg X0 w0 (aM a d (B false)) fun e=>
 un (aK e true (.float .f64 aY)) fun g=>
 un (aK e true (.float .f64 bp)) fun h=>
 jn (fun (i:Value) (j:World) (k:XS)=>
 aw pg k j (aM e i (B false)) fun l=>
 un (aK l true (.float .f64 bB)) fun m=>
 un (aK l true (.float .f64 dp)) fun n=>
 jn (fun (o:Value) (q:World) (r:XS)=>
 aw pg r q (aM l o (B false)) fun s=>
 (fin R r q s)) fun t=>
 (gE l true (eC pg R k j true 105 #[m,n] t) (t undef j k))) fun v=>
 (gE e true (eC pg R X0 w0 true 105 #[g,h] v) (v undef w0 X0)))
end
end Go.Proofs.YteomdhcbhmaiaaaGreat
