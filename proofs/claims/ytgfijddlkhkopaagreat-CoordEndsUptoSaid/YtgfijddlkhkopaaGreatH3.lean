/-
 Part 3 of the proof: what the last text leans on.
-/
import Derived.Laws.Pointers
import Derived.Shelf.SlSortCmp.WholeK
import Derived.Shelf.SlSortCmp.NoneTotal
import Derived.Recover
import Derived.Laws.MakeOwn
import Derived.Laws.BytesArg
import Derived.Laws.Concat
import Derived.Lib.Overlaps
import Derived.Lib.AppendZerosOnto
import Derived.Laws.Externs
import Derived.Laws.Slices
import Derived.Laws.IdiomStrings
import Derived.KernelRfl
import Derived.Test.YtgfijddlkhkopaaGreatProg
import Derived.Test.YtgfijddlkhkopaaGreatH2
open Option.some renaming injEq → ah
open Nat renaming le_trans → ad, le_refl → aq, lt_of_lt_of_le → av, zero_add → fg, mul_le_mul_right → cM, zero_le → au, add_mul → jk, succ_mul → zZ, add_zero → z6, mul_le_mul → xX
open Go.Sem renaming run_bind → bh, run_pure → bK
open Go.Result renaming andThen_ok → aO
open List renaming getElem?_map → cX, length_append → aa, mem_of_getElem? → aB, getElem?_eq_getElem → aU, length_drop → bO, size_toArray → kZ, append_assoc → ak, flatten_cons → cW, ext_getElem? → qs, getElem?_drop → gp, length_take → aI, take_left → tB, all_eq_true → j9, getElem_mem → ry, map_cons → bD, length_map → ai, flatten_append → dV, mem_cons_of_mem → bQ, getD → qt, getElem?_zip_eq_some → oK, map_map → bB, getElem?_append_left → dT, getElem?_append_right → cP, take_of_length_le → ax, eq_nil_of_length_eq_zero → iJ, nil_append → cx, getElem?_take → mB, length_nil → bz, getElem_inj → Bj, getElem?_eq_none_iff → tX, getElem?_of_mem → xY
open Option renaming map_some → aX, bind_some → cJ, isNone_iff_eq_none → iH
open Go.Builtin renaming append_ → fh, zeroCells → jR, lenOf → qV, clear_ → ny, firstCells → zt, nextslicecap → xZ
open Prod.mk renaming injEq → cD
open Bool renaming and_eq_true → aD, not_eq_true' → cB
open Go.Region renaming wanted → bU
open Array renaming length_toList → fv, ext' → tC, getD_eq_getD_getElem? → ja, getElem?_append_left → kU, getElem?_toList → nC, size_append → uJ, toList_append → sV, toList_map → lG, replicate → cZ, getElem?_eq_getElem → tY, getElem?_modify → xl, getElem?_setIfInBounds → dR, getElem?_append → kN, getElem?_replicate → jH
open Go.Instr renaming sliceAt → bG, alloc → fY, makeFunc → ct, panic → kV, makeSlice → B8, buildSlice → jo, makeInterface → jd, typeAssert → nR
open Go.Value renaming int → ay, ownBlock → il
open Go.Addr renaming add_lit → ph
open Go.Act renaming eval → lj
open Go.Oper renaming wp → kC, upon_defer → wG, upon_value → B9
open Go.Sort renaming grow → vL
open Go.Deferred renaming ofValue → ka
open Go.World renaming freeze → vM, cell? → fq
open Go.Code renaming seq → Bl, region → Bn
open Go.Code.seq renaming injEq → Dw
namespace Go.aG
open Go.Sort Go.Shelf Go.RowKit Go.Proofs
variable {P : Program} {ρ : Ren} {α : Type}
def acu (W w':World):Prop:= ∃os',w'=vL W os'
def zJ (W w':World):Prop:= ∃q os,w'=vL (W.drewN q) os
theorem zJ.refl (W:World):zJ W W:=⟨0,#[],by rfl⟩
variable {W w : World}
theorem zJ.alloc (h:zJ W w) (o:Obj):zJ W (w.alloc o):=by
 obtain⟨q,os,rfl⟩:=h;exact⟨q,os.push o,by simp[World.alloc,vL]⟩
variable {w' : World}
theorem zJ.trans (h:zJ W w) (k:zJ w w'):zJ W w':=by
 obtain⟨q,os,rfl⟩:=h;obtain⟨q',os',rfl⟩:=k;exact⟨q+q',os++os',by simp[World.drewN,vL,Nat.add_assoc]⟩
variable {g : Nat}
theorem zJ.row (h:zJ W w') {o:Obj} (hg:W.heap[g]? =some o):w'.heap[g]? =some o:=by
 obtain⟨q,os,rfl⟩:=h
 show(W.heap++os)[g]? =some o
 rw[kU (Array.getElem?_eq_some_iff.1 hg).1,hg]
variable {k : Nat}
theorem flat_get [Inhabited α] {enc:α->List Value} (hk: ∀x,(enc x).length=k) (h0:0<k): ∀(l:List α) (t:Nat),t<l.length*k->((l.map enc).flatten)[t]? =some ((enc l[t/k]!)[t % k]!)
 |[],t,h=>by simp at h
 |x::l,t,h=>by
  rw[bD,cW];by_cases ht:t<k
  ·rw[dT gQ,Nat.div_eq_of_lt ht,Nat.mod_eq_of_lt ht];simp_all
  ·obtain⟨s,rfl⟩: ∃s,t=s+k:=⟨t-k,by omega⟩;rw[cP gQ,hk,Nat.add_sub_cancel,Nat.add_div_right _ h0,Nat.add_mod_right];have hs:s<l.length*k:=by rw[List.length_cons,zZ] at h;omega
   rw[flat_get hk h0 l s hs];simp
theorem aeh [Inhabited α] {enc:α->List Value} (hk: ∀x,(enc x).length=k) (h0:0<k) (l:List α):(flatK enc k l.toArray).toList=(l.map enc).flatten:=by
 have hl:((l.map enc).flatten).length=l.length*k:=by
  rw[lU (k:=k) gQ];simp
 apply qs;intro t;by_cases ht:t<l.length*k
 ·rw[flat_get hk h0 l t ht];have h1:t<(flatK enc k l.toArray).size:=by simpa using ht
  have h2:=get_flatK enc k l.toArray t zQ;rw[getElem!_pos (flatK enc k l.toArray) t h1] at h2;rw[nC,tY h1,h2];simp
 simp_all
theorem Vu (F cs:Array Value) (h:F.size<=cs.size):(putCells id 0 F cs).toList=F.toList++cs.toList.drop F.size:=by
 apply qs;intro t;unfold putCells;rw[nC,Array.getElem?_mapIdx];by_cases ht:t<F.size
 ·rw[dT zQ,tY zQ];simp[ht]
 ·rw[cP gQ,gp];simp only[fv,nC];rw[show F.size+(t-F.size)=t by omega]
  grind
variable {lo : Nat} {X : XS} {e : TypeId}
theorem ais [Inhabited α] (L:SlLaysF0.n6 P ρ) (h0:0<k) (aE: ∀w,(isAgg (ρ.t 24)).run P w= .ok true w) (zE: ∀w,(Go.sizeOf (ρ.t 24)).run P w= .ok k w) {enc:α->List Value} (hk: ∀x,(enc x).length=k)
    (h1: ∀x,∀v∈enc x,v.oneCell'=true) {cf:α->α->Int} (hO:SWO (ltOf cf)) (eg: ∀args w,(callFunc g args).run P w= .ok (.enter g args) w)
    (ait: ∀x y W,Calls P g #[.agg (enc x).toArray,.agg (enc y).toArray] W λe w'=>e= .returned (.int .i64 (cf x y))/\zJ W w')
 {v:Value} {xs:List α} (own:Own w X lo e k v (xs.map enc)) (hb:xs.length<2^61):
    Ct P (ρ.f 6) #[v,.func (.func g) #[] #[]] w X (ga v) λr _ w'=>r= .tuple #[]/\ ∃ys:List α,ys.Perm xs/\ys.Pairwise (λa b=>ltOf cf b a=false)/\Own w' (ga v) lo e k v (ys.map enc):=by
  intro w0 Ea;have bM:=own.mv Ea.mv;have emp: ∀(p:Option Addr) (cap:Nat),v= .slice p 0 cap->xs=[]->Calls P (ρ.f 6) #[v,.func (.func g) #[] #[]] w0 (vR (ga v) w0 λr w'=>r= .tuple #[]/\ ∃ys:List α,ys.Perm xs/\ys.Pairwise (λa b=>ltOf cf b a=false)/\Own w' (ga v) lo e k v (ys.map enc)):=by
    intro p cap hv hx;have ho:Own w0 (ga v) lo e k v (xs.map enc):=⟨bM.1,bM.2.1,λ_ hg=>hg⟩;subst hx;rw[hv] at ho⊢;exact(AnyF.slices_SortFunc_none L p cap (.func (.func g) #[] #[]) w0).mono λe w' ⟨he,hw⟩=>⟨_,he,by subst hw;exact⟨rfl,rfl,rfl,aq _,λ_ _ _=>rfl⟩,rfl,[],List.Perm.refl _,List.Pairwise.nil,by grind⟩
  rcases bM.row with⟨hv,he⟩|⟨b,cap,cs,hv,gv,bo,ql,iF,qi,px⟩
  · exact emp none 0 hv (by simpa using he)
  · rw[ai] at hv ql px
    by_cases hx:xs=[]
    · exact emp _ cap (by rw[hv,hx];rfl) hx
    have hH:HoldsK enc k w0 b 0 xs.toArray:=by
      intro j hj;have hj':j<xs.length*k:=by simpa using hj
      have cC:j<cs.length:=by
        rw[qi];exact av hj' (cM _ ql)
      have hf:=flat_get hk h0 xs j hj';rw[<-px,List.getElem?_take_of_lt hj'] at hf;refine⟨?_,?_⟩
      · unfold fq
        rw[bo.2];simp only[fg,Option.isSome_none,Bool.false_eq_true,if_false,id];rw[get_flatK enc k _ _ zQ];simpa using hf
      · unfold World.frozen?
        rw[bo.2];simp
    have hc:=AnyQ.slices_SortFunc L k aE zE enc hk h1 cf hO g #[] b 0 cap xs.toArray w0 eg (λm os dk _ x y=>(ait x y _).mono λ_ _ ⟨he,q,os',hw⟩=>⟨he,q,os',hw⟩) hH bo.lt oQ;rw[show xs.toArray.size=xs.length by simp] at hc;rw[hv];refine hc.mono ?_;rintro _ w' ⟨rfl,d',n,os,hp,hs,rfl⟩;obtain⟨JY,_,hpp⟩:=hp;have JY:d'.size=xs.length:=by simpa using JY
    have hblk: ∀q,q<w0.heap.size-> ¬ga (.slice (some ⟨b,0,none⟩) xs.length cap) q->q≠b:=λq _ hq e=>hq (by rw[e];rfl);have aei:(sortWorldK enc k w0 b 0 n d' os).heap=(w0.heap.modify b (onCells (putCells id 0 (flatK enc k d'))))++os:=rfl;have hF:(flatK enc k d').toList=(d'.toList.map enc).flatten:=by
      have:=aeh hk h0 d'.toList;simpa using this
    have hFs:(flatK enc k d').size=xs.length*k:=by rw[size_flatK,JY]
    refine⟨_,rfl,⟨rfl,rfl,rfl,?_,?_⟩,rfl,d'.toList,?_,?_,?_⟩
    · rw[aei];simp
    · intro q hq hn
      rw[aei,kU (by simpa using hq),xl,if_neg (Ne.symm (hblk q hq hn))]
    · have h3:(d'.extract 0 xs.length)=d':=by rw[<-JY];simp
      have h4:(xs.toArray.extract 0 xs.length)=xs.toArray:=by simp
      rw[h3,h4] at hpp;omega
    · rw[List.pairwise_iff_getElem]
      intro i j hi hj yI;have:=hs i j (au _) yI (by rw[<-JY];omega);rw[getElem!_pos d' j zQ,getElem!_pos d' i zQ] at this;assumption
    · have Hm:(sortWorldK enc k w0 b 0 n d' os).heap[b]? =some (.cells (putCells id 0 (flatK enc k d') cs.toArray) e (0,0)):=by
        rw[aei,kU (by simpa using bo.lt),xl,if_pos rfl,bo.2];rfl
      have hle:xs.length*k<=cs.length:=by rw[qi];exact cM _ ql
      have xD:=Vu (flatK enc k d') cs.toArray (by rw[hFs];omega);have Em:aK (sortWorldK enc k w0 b 0 n d' os) (ga (.slice (some ⟨b,0,none⟩) xs.length cap)) b (putCells id 0 (flatK enc k d') cs.toArray).toList e:=⟨rfl,by omega⟩;refine Own.Ic Em gv (by intro r hr;obtain⟨x,_,rfl⟩:=List.mem_map.1 hr;exact hk x) (by simpa using JY) ql iF ?_ ?_
      · rw[xD,aa,bO,fv,hFs];simp;omega
      · rw[xD,List.take_append_of_le_length (by simp[JY]),ax (by simp[JY]),hF]
theorem abx [Inhabited α] (L:SlLaysF0.n6 P ρ) (h0:0<k) (aE: ∀w,(isAgg (ρ.t 24)).run P w= .ok true w) (zE: ∀w,(Go.sizeOf (ρ.t 24)).run P w= .ok k w) {enc:α->List Value} (hk: ∀x,(enc x).length=k)
    (h1: ∀x,∀v∈enc x,v.oneCell'=true) {cf:α->α->Int} (hO:SWO (ltOf cf)) (eg: ∀args w,(callFunc g args).run P w= .ok (.enter g args) w)
    (ait: ∀x y W,Calls P g #[.agg (enc x).toArray,.agg (enc y).toArray] W λe w'=>e= .returned (.int .i64 (cf x y))/\acu W w')
 {v:Value} {xs:List α} (own:Own w X lo e k v (xs.map enc)) (hb:xs.length<2^61):
    Ct P (ρ.f 6) #[v,.func (.func g) #[] #[]] w X (ga v) λr _ w'=>r= .tuple #[]/\ ∃ys:List α,ys.Perm xs/\ys.Pairwise (λa b=>ltOf cf b a=false)/\Own w' (ga v) lo e k v (ys.map enc):=
  ais L h0 aE zE hk h1 hO eg (λx y W=>(ait x y W).mono λ_ _ ⟨he,os,hw⟩=>⟨he,0,os,hw⟩) own hb
variable {P : Program} {R : Ending -> World -> Prop} {X : XS} {w : World} {m : Bool}
variable {t ty : Nat} {rows : List (List Value)} {N : Value -> World -> XS -> Prop}
section
variable {e bytes : Nat} {v x s : Value} {dw : List (List Value)} {row : List Value}
theorem akI (own:Own w X lo e k v rows) (hX: ∀k,X k->k<w.heap.size) (gv:lo<=w.heap.size) (he:mz P t e k bytes=true) (hx:x.cells.toList=row) (hk:(row.length==k)=true)
  (h1:row.all one=true) (hb:(rows.length+1)*bytes<=140737488355328) (hl:rows.length+1<=2^63-1)
  (n: ∀v' w' X',eh (ga v) X w X' w'->Own w' X' lo e k v' (rows++[row])->(v'.ownBlock=v.ownBlock\/ ∃g,v'.ownBlock=some g/\w.heap.size<=g)->N v' w' X'):
  eV P R X w m (gT t e k 1 #[(0,x)]) λs w1 X1=>eV P R X1 w1 true (pI t e k bytes ty v s) N:=by
 obtain⟨hu,iw,FG,z,hi,hz,xj⟩:=mL he;have af:row.length=k:=by simpa using hk
 have J6:x.cells.size=k:=by rw[<-af,<-hx,fv]
 refine Cv (rows:=[row]) x.cells z hX hu hz zQ zQ ?_ (by simpa using af) rfl gQ λs w1 X1 aC GC=>?_
 ·simp only[Nat.one_mul];exact FM J6 sQ
 ·have SU:lo<=w1.heap.size:=ad gv aC.kp.size;refine Ds (dw:=[row]) z hu hi xj iw aC.has SU (own.since aC) GC.sl (by simpa using h1) zQ zQ λv2 w2 X2 hg ho dB=>?_;refine n v2 w2 X2 ((eh.oh aC (ga v)).trans (hg.eo.mono λk _ hk=>hk.symm)) ho ?_;rcases dB with h|⟨g,h,dH⟩
  ·exact .inl h
  ·exact .inr ⟨g,h,ad aC.kp.size dH⟩
theorem Ip (own:Own w X lo e k v rows) (hX: ∀k,X k->k<w.heap.size) (gv:lo<=w.heap.size) (he:mz P t e k bytes=true) (src:Sl w X k s dw) (h1: ∀r∈dw,∀u∈r,one u=true)
  (hb:(rows.length+dw.length)*bytes<=140737488355328) (hl:rows.length+dw.length<=2^63-1)
  (n: ∀v' w' X',eh (ga v) X w X' w'->Own w' X' lo e k v' (rows++dw)->(v'.ownBlock=v.ownBlock\/ ∃g,v'.ownBlock=some g/\w.heap.size<=g)->N v' w' X'):
  eV P R X w true (pI t e k bytes ty v s) N:=by
 obtain⟨hu,iw,FG,z,hi,hz,xj⟩:=mL he;refine Ds (dw:=dw) z hu hi xj iw hX gv own src h1 hb hl λv2 w2 X2 hg ho dB=>?_;exact n v2 w2 X2 (hg.eo.mono λk _ hk=>hk.symm) ho dB
end
def yP (s:ByteArray):List Value:=s.data.toList.map λb=>.int .u8 b.toNat
theorem NA (s:ByteArray):(yP s).length=s.size:=by unfold yP;simp_all
theorem MA (s:ByteArray):(zt 1 s.size (.string s))=(pure (yP s).toArray:Sem (Array Value)):=by
 have hx:(s.extract 0 s.size)=s:=by
  apply ByteArray.ext;simp[ByteArray.data_extract]
 show(pure ((s.extract 0 s.size).data.map λb=>ay .u8 b.toNat):Sem (Array Value))=_
 rw[hx]
 congr 1
 apply tC;simp[yP]
theorem Ko (t u ty e:TypeId) (i:TypeInfo) (ht:P.underlying t=some (.slice e)) (hu:P.underlying u=some .string) (hi:P.info? e=some i) (h1:i.size=1)
  (g lM uK:Nat) (cur:Array Value) (hg:w.heap[g]? =some (.cells cur e (0,0))) (s:ByteArray) (xm:lM+s.size<=uK) (Jk:lM+s.size<=cur.size):
  (fh #[t,u] ty #[.slice (some ⟨g,0,none⟩) lM uK,.string s]).run P w=
   .ok (.slice (some ⟨g,0,none⟩) (lM+s.size) uK) (w.setRow g (cur.toList.take lM++yP s++cur.toList.drop (lM+s.size)).toArray):=by
 have fE:=run_storeCells_at P g lM e (yP s) 0 cur w hg (by grind [NA]) (λv hv=>by
  unfold yP at hv;obtain⟨b,_,rfl⟩:=List.mem_map.1 hv;rfl)
 simp only[z6,NA] at fE;simp[fh,run_underlying ht,run_underlying hu,sizeOf,typeInfo,hi,qV,xm,h1,MA,ph,fE]
theorem Kq (t u ty e:TypeId) (i:TypeInfo) (z:Value) (ht:P.underlying t=some (.slice e)) (hu:P.underlying u=some .string) (hi:P.info? e=some i) (hz:i.zero=some z) (h1:i.size=1)
  (b:Addr) (lM uK:Nat) (aej:List Value) (gv:aej.length=lM) (holds: ∀j v,aej[j]? =some v->w.cell? (b.add j)=some v) (s:ByteArray)
  (hg:uK<lM+s.size) (h63:((lM+s.size:Nat):Int)<=9223372036854775807) (Jk:xZ (lM+s.size) uK*i.bytes<=281474976710656):
  (fh #[t,u] ty #[.slice (some b) lM uK,.string s]).run P w=
   .ok (.slice (some ⟨w.heap.size,0,none⟩) (lM+s.size) (grownCap w (lM+s.size) uK e))
    (w.drew.alloc (.cells (aej.toArray++(yP s).toArray++jR z.cells (grownCap w (lM+s.size) uK e-(lM+s.size))) e)):=by
 have hn: ¬(lM+s.size<=uK):=by omega
 have aqD: ¬(9223372036854775807<((lM:Int)+(s.size:Int))):=by omega
 have aqE: ¬(281474976710656<xZ (lM+s.size) uK*i.bytes):=by omega
 have hfo:=run_firstCells_some (P:=P) w.drew 1 lM b lM uK aej zQ aQ;simp[fh,run_underlying ht,run_underlying hu,sizeOf,typeInfo,zeroValue,hi,hz,qV,hn,aqD,aqE,Question.forced,MA,h1,hfo,newRow,grownCap]
 congr 2
 apply tC;simp_all
theorem MB (base:Nat) (t u ty e:TypeId) (i:TypeInfo) (z:Value) (bytes:Nat) (ht:P.underlying t=some (.slice e)) (hu:P.underlying u=some .string) (hi:P.info? e=some i) (hz:i.zero=some z)
  (h1:i.size=1) (GB:i.bytes=bytes) (xj:z.cells.size=1) (v:Value) (n:Nat) (xs:List Value) (xC:w.ownsRow base e 1 v n xs) (s:ByteArray)
  (h63:n+s.size<=maxLen) (af9:(n+s.size)*bytes<=140737488355328) (acN:base<=w.heap.size):
  ∃v' w',(fh #[t,u] ty #[v,.string s]).run P w= .ok v' w'/\w'.ownsRow base e 1 v' (n+s.size) (xs++yP s)/\w.grownBy w' v.ownBlock/\(v'.ownBlock=v.ownBlock\/v'.ownBlock=some w.heap.size):=by
 subst GB;have Rw:n+s.size<=9223372036854775807:=by simp only[maxLen] at h63;omega
 have hl:=NA s;have Uf:xs.length=n:=by simpa using xC.1
 have hlen:(xs++yP s).length=(n+s.size)*1:=by rw[aa,Uf,hl];omega
 have grown: ∀(bV:Nat),bV<n+s.size-> ∀(row:Option Nat),
   (w.drew.alloc (.cells (xs.toArray++(yP s).toArray++jR z.cells (grownCap w (n+s.size) bV e-(n+s.size))) e)).ownsRow base e 1
    (.slice (some ⟨w.heap.size,0,none⟩) (n+s.size) (grownCap w (n+s.size) bV e)) (n+s.size) (xs++yP s)/\
   w.grownBy (w.drew.alloc (.cells (xs.toArray++(yP s).toArray++jR z.cells (grownCap w (n+s.size) bV e-(n+s.size))) e)) row:=by
  intro bV ho row;have dH:=grownCap_ge w (n+s.size) bV e;have iF:grownCap w (n+s.size) bV e<=maxLen:=grownCap_le_maxLen w (n+s.size) bV e h63;refine⟨⟨hlen,.inr ⟨w.heap.size,_,_,rfl,acN,heap_alloc_new w.drew _,dH,iF,?_,?_⟩⟩,⟨rfl,rfl,rfl,by simp,λk hk _=>by first|exact heap_alloc_old w.drew _ k hk|exact heap_alloc_old w.drew _ hk⟩⟩
  ·simp only[uJ,kZ,size_zeroCells,xj,Uf,hl];omega
  ·simp only[sV,ak];rw[<-ak,<-hlen]
   grind
 rcases xC.2 with⟨rfl,rfl⟩|⟨g,cap,cur,rfl,hbg,hg,ql,iF,jD,NB⟩
 ·have hx:xs=[]:=iJ Uf;subst hx;by_cases hm:s.size=0
  ·have hn:yP s=[]:=iJ (by rw[hl,hm]);refine⟨.slice none 0 0,w,?_,by simp_all,⟨rfl,rfl,rfl,aq _,λ_ _ _=>rfl⟩,Or.inl rfl⟩;have hf:=MA s;rw[hm,hn] at hf;simp[fh,run_underlying ht,run_underlying hu,sizeOf,typeInfo,hi,qV,hm,h1,hf]
  ·have hr:=run_append_nil_string (P:=P) w t u ty e i z ht hu hi hz s zQ zQ (by have hb:=af9;simp only[fg] at hb;omega);have E6:=grown 0 zQ (il (.slice none 0 0));have he:(s.data.map λb:UInt8=>ay .u8 b.toNat)=(yP s).toArray:=by
    apply tC;simp[yP]
   rw[he] at hr;simp only[fg,cx,Array.empty_append] at E6⊢;exact⟨_,_,hr,E6.1,E6.2,Or.inr rfl⟩
 ·rw[Nat.mul_one] at jD NB;by_cases xm:n+s.size<=cap
  ·have Jk:n+s.size<=cur.size:=by rw[jD];exact xm
   have hr:=Ko (P:=P) (w:=w) t u ty e i ht hu hi h1 g n cap cur hg s xm Jk;refine⟨_,_,hr,⟨hlen,.inr ⟨g,cap,_,rfl,hbg,setRow_heap w g cur _ e _ hg,xm,iF,?_,?_⟩⟩,⟨rfl,rfl,rfl,by simp,λk _ hk=>setRow_other w g k _ (λe=>hk (by simp[il,e]))⟩,Or.inl rfl⟩
   ·simp only[kZ,aa,aI,bO,fv,hl];omega
   ·rw[NB,<-hlen];exact tB
  ·have holds: ∀j u,xs[j]? =some u->w.cell? ((⟨g,0,none⟩:Addr).add j)=some u:=xC.cells (g:=g) rfl;have hr:=Kq (P:=P) (w:=w) t u ty e i z ht hu hi hz h1 ⟨g,0,none⟩ n cap xs Uf holds s zQ zQ (growslice_fits zQ af9);have E6:=grown cap zQ (il (.slice (some ⟨g,0,none⟩) n cap));exact⟨_,_,hr,E6.1,E6.2,Or.inr rfl⟩
theorem am5 {u e bytes:Nat} {v:Value} {s:ByteArray} (own:Own w X lo e 1 v rows) (hX: ∀k,X k->k<w.heap.size) (gv:lo<=w.heap.size)
  (he:mz P t e 1 bytes=true) (hu:P.underlying u=some .string) (hb:(rows.length+s.size)*bytes<=140737488355328) (hl:rows.length+s.size<=2^63-1)
  (n: ∀v' w' X',eh (ga v) X w X' w'->Own w' X' lo e 1 v' (rows++(yP s).map λx=>[x])->(v'.ownBlock=v.ownBlock\/ ∃g,v'.ownBlock=some g/\w.heap.size<=g)->N v' w' X'):
  eV P R X w true (fh #[t,u] ty #[v,.string s]) N:=by
 obtain⟨ht,iw,FG,z,hi,hz,xj⟩:=mL he;intro wa hk;have own:=own.kp hk;cases hq:P.info? e with
 |none=>grind
 |some ie=>
  cases tW:ie.zero with
  |none=>grind
  |some z'=>
   simp only[hq,tW,cJ,aX,ah,cD] at hi;obtain⟨h1,rfl,rfl⟩:=hi;unfold jV;obtain⟨v',w',hr,ux,hg,dB⟩:=MB (P:=P) (w:=wa) lo t u ty e ie z' ie.bytes ht hu hq tW h1 rfl xj v rows.length rows.flatten own.2.1 s hl hb (ad gv hk.size);simp only[vS,bh,hr,aO,bK];have iR:((yP s).map λx=>[x]).flatten=yP s:=by
    induction yP s with
    |nil=>rfl
    |cons a l ih=>simp[ih]
   refine⟨⟨hg.os,hg.tape,hg.output,hg.size,λk tf nJ=>hg.block k tf λe=>nJ (own.2.2 k e.symm)⟩,n _ _ _ ?_ ⟨?_,?_,?_⟩ ?_⟩
   ·exact⟨hg.os.trans hk.os,hg.tape.trans hk.tape,hg.output.trans hk.output,ad hk.size hg.size,
     λk hx cj=>(hg.block k (av (hX k hx) hk.size) λe=>cj e.symm).trans (hk.block k hx),λk h=>.inl h,
     λk h=>h.elim (λh=>av (hX k h) (ad hk.size hg.size)) (λh=>h.2)⟩
   ·intro r hr;rcases List.mem_append.1 hr with h|h
    ·exact own.1 r h
    ·obtain⟨x,_,rfl⟩:=List.mem_map.1 h;rfl
   ·rw[aa,ai,NA,dV,iR];omega
   ·intro g JZ;rcases dB with h|h
    ·exact .inl (own.2.2 g (h▸JZ))
    ·rw[JZ] at h;cases h;exact .inr ⟨aq _,(ux.lt _ JZ).2⟩
   ·rcases dB with h|h
    ·exact .inl h
    ·exact .inr ⟨_,h,hk.size⟩
theorem Dq {f:FuncId} {a b:Value} (h:eC P R X w m f #[a,b] N):eF P R X w m (.func (.func f) #[a] #[]) #[b] N:=by
 have e: ∀wa,(II (.func (.func f) #[a] #[]) #[b]).run P wa=(callFunc f #[a,b]).run P wa:=by
  intro wa;simp[II,ka,invoke]
 intro wa hk;have:=h wa hk
 grind
end Go.aG
set_option linter.unusedVariables false
set_option linter.unusedSimpArgs false
namespace Go.aG
variable {P : Program} {R : Ending -> World -> Prop} {X : XS} {w : World} {m : Bool}
def Ow (w:World) (X:XS) (e k:Nat) (v:Value) (rows:List (List Value)):Prop:=
 (∀r∈rows,r.length=k)/\((v= .slice none 0 0/\rows=[])\/ ∃g off cap cur,v= .slice (some ⟨g,off,none⟩) rows.length cap/\X g/\w.heap[g]? =some (.cells cur e (0,0))/\
  rows.length<=cap/\cap<=maxLen/\off+cap*k<=cur.size/\(cur.toList.drop off).take (rows.length*k)=rows.flatten)
theorem Ow.nil (w:World) (X:XS) (e k:Nat):Ow w X e k (.slice none 0 0) []:=⟨by simp,.inl ⟨rfl,rfl⟩⟩
variable {rows : List (List Value)} {e k : Nat}
theorem Own.ow {lo:Nat} {v:Value} (h:Own w X lo e k v rows):Ow w X e k v rows:=by
 obtain⟨h1,h2,h3⟩:=h;refine⟨h1,?_⟩;rcases h2.2 with⟨rfl,hn⟩|⟨g,cap,cur,rfl,hb,hg,ql,iF,jD,ht⟩
 ·simp_all
 ·exact .inr ⟨g,0,cap,cur,rfl,h3 g rfl,hg,ql,iF,by omega,by assumption⟩
theorem Ow.sl {v:Value} (h:Ow w X e k v rows):Sl w X k v rows:=by
 obtain⟨h1,⟨rfl,rfl⟩|⟨g,off,cap,cur,rfl,hx,hg,ql,iF,jD,ht⟩⟩:=h
 ·exact Sl.nil w X k
 ·have hm:cap<=2^63-1:=iF;refine⟨h1,ad ql hm,_,cap,rfl,λ_=>⟨g,off,rfl,hx,cur,e,(0,0),hg,λj v hj=>?_⟩,by simp,ql,hm⟩;rw[<-ht,mB,gp] at hj;split at hj
  ·simpa using hj
  ·cases hj
theorem Ow.one {v:Value} (h:Ow w X e k v rows):one v=true:=h.sl.one
variable {Y : XS}
theorem Ow.mono {v:Value} (h:Ow w X e k v rows) (hs: ∀k,X k->Y k):Ow w Y e k v rows:=by
 obtain⟨h1,h|⟨g,off,cap,cur,hv,hx,hr⟩⟩:=h
 ·exact⟨h1,.inl h⟩
 ·exact⟨h1,.inr ⟨g,off,cap,cur,hv,hs _ hx,hr⟩⟩
variable {w' : World}
theorem Ow.mv {v:Value} (h:Ow w X e k v rows) (m:Mv X w Y w'):Ow w' Y e k v rows:=by
 obtain⟨h1,h|⟨g,off,cap,cur,hv,hx,hg,hr⟩⟩:=h
 ·exact⟨h1,.inl h⟩
 ·obtain⟨m1,m2⟩:=m g hx (Array.getElem?_eq_some_iff.1 hg).1;exact⟨h1,.inr ⟨g,off,cap,cur,hv,m1,by grind,hr⟩⟩
theorem Ow.kp {v:Value} (h:Ow w X e k v rows) (hk:Kp X w w'):Ow w' X e k v rows:=by
 obtain⟨h1,h|⟨g,off,cap,cur,hv,hx,hg,hr⟩⟩:=h
 ·exact⟨h1,.inl h⟩
 ·exact⟨h1,.inr ⟨g,off,cap,cur,hv,hx,by rw[hk.block g hx];exact hg,hr⟩⟩
variable {g : Nat}
theorem Ow.br {v:Value} (h:Ow w X e k v rows) (hg:v.ownBlock=some g):X g/\g<w.heap.size:=by
 obtain⟨h1,⟨rfl,_⟩|⟨g',off,cap,cur,rfl,hx,hb,hr⟩⟩:=h
 ·cases hg
 ·simp only[il,ah] at hg;grind
theorem Ow.tag {v:Value} (h:Ow w X e k v rows) (hg:v.ownBlock=some g): ∃cs:List Value,w.heap[g]? =some (.cells cs.toArray e (0,0)):=by
 obtain⟨h1,⟨rfl,_⟩|⟨g',off,cap,cur,rfl,hx,hb,hr⟩⟩:=h
 ·cases hg
 ·simp only[il,ah] at hg;subst hg;exact⟨cur.toList,by omega⟩
variable {cs : List Value}
theorem Ow.eP {e':Nat} {v:Value} (h:Ow w X e k v rows) (hr:aK w Y g cs e') (he:decide (e≠e')=true):v.ownBlock≠some g:=λhg=>by
 obtain⟨c,h1⟩:=h.tag hg;rw[hr.2] at h1
 grind
variable {F X' : XS}
theorem Ow.eo {v:Value} (h:Ow w X e k v rows) (c:eh F X w X' w') (hd: ∀g,v.ownBlock=some g-> ¬F g):Ow w' X' e k v rows:=by
 obtain⟨h1,h|⟨g,off,cap,cur,rfl,hx,hg,hr⟩⟩:=h
 ·exact⟨h1,.inl h⟩
 ·exact⟨h1,.inr ⟨g,off,cap,cur,rfl,c.sub g hx,by rw[c.block g hx (hd g rfl)];exact hg,hr⟩⟩
theorem Ow.tight {v:Value} (h:Ow w X e k v rows):Ow w (ga v) e k v rows:=by
 obtain⟨h1,h|⟨g,off,cap,cur,rfl,hx,hr⟩⟩:=h
 ·exact⟨h1,.inl h⟩
 ·exact⟨h1,.inr ⟨g,off,cap,cur,rfl,rfl,hr⟩⟩
theorem z7 (t ty e:TypeId) (i:TypeInfo) (ht:P.underlying t=some (.slice e)) (hi:P.info? e=some i)
  (g off lM uK:Nat) (cur:Array Value) (hg:w.heap[g]? =some (.cells cur e (0,0)))
  (a:Addr) (m c:Nat) (news:List Value) (hl:news.length=m*i.size) (aoF: ∀j u,news[j]? =some u->w.cell? (a.add j)=some u) (h1: ∀u∈news,u.oneCell'=true)
  (xm:lM+m<=uK) (Jk:off+lM*i.size+news.length<=cur.size):
  (fh #[t,t] ty #[.slice (some ⟨g,off,none⟩) lM uK,.slice (some a) m c]).run P w=
   .ok (.slice (some ⟨g,off,none⟩) (lM+m) uK) (w.setRow g (cur.toList.take (off+lM*i.size)++news++cur.toList.drop (off+lM*i.size+news.length)).toArray):=by
 have hf:=run_firstCells_some (P:=P) w i.size m a m c news hl aoF;have fE:=run_storeCells_at P g (off+lM*i.size) e news 0 cur w hg zQ h1;simp only[z6] at fE;simp[fh,run_underlying ht,sizeOf,typeInfo,hi,qV,xm,hf,ph,fE]
theorem z8 (t ty e:TypeId) (i:TypeInfo) (ht:P.underlying t=some (.slice e)) (hi:P.info? e=some i)
  (b:Addr) (lM uK:Nat) (xm:lM<=uK):
  (fh #[t,t] ty #[.slice (some b) lM uK,.slice none 0 0]).run P w= .ok (.slice (some b) lM uK) w:=by
 simp[fh,run_underlying ht,sizeOf,typeInfo,hi,qV,xm,zt,storeCells]
variable {N : Value -> World -> XS -> Prop} {dw : List (List Value)} {s : Value} {t ty : Nat}
theorem Rz {bytes:Nat} {v:Value}
  (he:mz P t e k bytes=true)
  (hX: ∀k,X k->k<w.heap.size) (own:Ow w X e k v rows) (src:Sl w X k s dw) (h1: ∀r∈dw,∀u∈r,one u=true)
  (hb:(rows.length+dw.length)*bytes<=140737488355328) (hl:rows.length+dw.length<=2^63-1)
  (n: ∀v' w' X',eh (ga v) X w X' w'->Ow w' X' e k v' (rows++dw)->(v'.ownBlock=v.ownBlock\/ ∃g,v'.ownBlock=some g/\w.heap.size<=g)->N v' w' X'):
  eV P R X w true (pI t e k bytes ty v s) N:=by
 obtain⟨hu,iw,FG,z,hi,JS,xj⟩:=mL he;obtain⟨pz,⟨rfl,rfl⟩|⟨g,off,cap,cur,rfl,hx,hg,ql,iF,jD,px⟩⟩:=own
 ·exact Ds (rows:=[]) (dw:=dw) z hu hi xj iw hX (au _) (Own.nil w X 0 e k) src h1 hb hl λv2 w2 X2 hg ho dB=>
   n v2 w2 X2 (hg.eo.mono λk _ hk=>hk.symm) ho.ow dB
 ·intro wa hk;have rQ:wa.heap[g]? =some (.cells cur e (0,0)):=by rw[hk.block g hx];exact hg
  have src:=src.kp hk;cases hq:P.info? e with
  |none=>simp[hq] at hi
  |some ie=>
   cases tW:ie.zero with
   |none=>simp_all
   |some z'=>
    simp only[hq,tW,cJ,aX,ah,cD] at hi;obtain⟨rfl,rfl,rfl⟩:=hi;unfold pI jV;rcases src.src with⟨rfl,rfl⟩|⟨a,c,rfl,CO⟩
    ·have hr:=z8 (P:=P) (w:=wa) t ty e ie hu hq ⟨g,off,none⟩ rows.length cap ql;simp only[vS,bh,hr,aO,bK];have AO:=Ext.refl wa;have hs:=aj.fc hX hk AO;refine⟨Step.fc AO,n _ _ _ (eh.oh hs _) ?_ (.inl rfl)⟩;rw[List.append_nil];exact⟨pz,.inr ⟨g,off,cap,cur,rfl,.inl hx,rQ,ql,iF,jD,px⟩⟩
    ·have sH:dw.flatten.length=dw.length*ie.size:=lU src.1;have Wl:rows.flatten.length=rows.length*ie.size:=lU pz;have Jb: ∀u∈dw.flatten,u.oneCell'=true:=λu hu=>by
      obtain⟨r,hr,hur⟩:=List.mem_flatten.1 hu;rw[<-Qb];exact h1 r hr u hur
     have CN: ∀r∈rows++dw,r.length=ie.size:=λr hr=>by
      rcases List.mem_append.1 hr with h|h
      ·exact pz r h
      ·exact src.1 r h
     have aoG:rows.length+dw.length<=maxLen:=hl;by_cases xm:rows.length+dw.length<=cap
     ·have hmul:(rows.length+dw.length)*ie.size<=cap*ie.size:=cM _ xm;rw[jk] at hmul;have hr:=z7 (P:=P) (w:=wa) t ty e ie hu hq g off rows.length cap cur rQ a dw.length c dw.flatten sH CO Jb xm zQ;simp only[vS,bh,hr,aO,bK];have Fz: ∀k,k≠g->(wa.setRow g (cur.toList.take (off+rows.length*ie.size)++dw.flatten++cur.toList.drop (off+rows.length*ie.size+dw.flatten.length)).toArray).heap[k]? =wa.heap[k]? :=λk hk=>setRow_other wa g k _ hk;refine⟨⟨rfl,rfl,rfl,by simp,λk tf nJ=>Fz k λe=>nJ (e▸hx)⟩,n _ _ _ ?_ ⟨CN,.inr ⟨g,off,cap,_,by rw[aa],.inl hx,setRow_heap wa g cur _ e _ rQ,by rw[aa];omega,iF,?_,?_⟩⟩ (.inl rfl)⟩
      ·exact⟨hk.os,hk.tape,hk.output,by simpa using hk.size,λk AO cj=>(Fz k λe=>cj (by rw[e];rfl)).trans (hk.block k AO),λk h=>.inl h,
        λk h=>h.elim (λh=>by have:=hX k h;have:=hk.size;simp;omega) (λh=>h.2)⟩
      ·simp only[kZ,aa,aI,bO,fv];omega
      ·have gd:off<=cur.toList.length:=by rw[fv (xs:=cur)];omega
       have e1:(cur.toList.take (off+rows.length*ie.size)).drop off=rows.flatten:=by
        rw[List.drop_take,show off+rows.length*ie.size-off=rows.length*ie.size by omega,px]
       have B0:(cur.toList.take (off+rows.length*ie.size)).length=off+rows.length*ie.size:=by rw[aI,fv (xs:=cur)];omega
       rw[ak,List.drop_append_of_le_length zQ,e1,aa,jk,dV,<-ak,<-Wl,<-sH,<-aa];exact tB
     ·have holds: ∀j u,rows.flatten[j]? =some u->wa.cell? ((⟨g,off,none⟩:Addr).add j)=some u:=λj u hj=>by
       rw[<-px,mB,gp] at hj;split at hj
       ·rw[ph];simp only[fq,rQ];simpa using hj
       ·cases hj
      have hr:=run_append_grow (P:=P) wa t ty e ie z' hu hq tW ⟨g,off,none⟩ rows.length cap rows.flatten Wl holds a dw.length c dw.flatten sH CO zQ zQ (growslice_fits zQ hb);simp only[vS,bh,hr,aO,bK];have dH:=grownCap_ge wa (rows.length+dw.length) cap e;have iF:grownCap wa (rows.length+dw.length) cap e<=maxLen:=grownCap_le_maxLen wa _ cap e aoG;have hblk: ∀k,k<wa.heap.size->(wa.drew.alloc (.cells (rows.flatten.toArray++dw.flatten.toArray++jR z'.cells (grownCap wa (rows.length+dw.length) cap e-(rows.length+dw.length))) e)).heap[k]? =wa.heap[k]? :=λk hk=>heap_alloc_old wa.drew _ hk;refine⟨⟨rfl,rfl,rfl,by simp,λk tf _=>hblk k tf⟩,n _ _ _ ?_ ⟨CN,.inr ⟨wa.heap.size,0,_,_,by rw[aa],.inr ⟨aq _,by simp⟩,heap_alloc_new wa.drew _,by rw[aa];omega,iF,?_,?_⟩⟩ (.inr ⟨_,rfl,hk.size⟩)⟩
      ·exact⟨hk.os,hk.tape,hk.output,by have:=hk.size;simp;omega,λk AO _=>(hblk k (av (hX k AO) hk.size)).trans (hk.block k AO),λk h=>.inl h,
        λk h=>h.elim (λh=>by have:=hX k h;have:=hk.size;simp;omega) (λh=>h.2)⟩
      ·simp only[uJ,kZ,size_zeroCells,xj,Wl,sH,<-jk];rw[fg];apply cM;omega
      ·simp only[sV,List.drop_zero,ak,dV];rw[<-ak,aa,jk,<-Wl,<-sH,<-aa];exact tB
section
variable {bytes : Nat} {v x : Value} {row : List Value}
theorem XX (own:Ow w X e k v rows) (hX: ∀k,X k->k<w.heap.size) (he:mz P t e k bytes=true) (hx:x.cells.toList=row) (hk:(row.length==k)=true)
  (h1:row.all one=true) (hb:(rows.length+1)*bytes<=140737488355328) (hl:rows.length+1<=2^63-1)
  (n: ∀v' w' X',eh (ga v) X w X' w'->Ow w' X' e k v' (rows++[row])->(v'.ownBlock=v.ownBlock\/ ∃g,v'.ownBlock=some g/\w.heap.size<=g)->N v' w' X'):
  eV P R X w m (gT t e k 1 #[(0,x)]) λs w1 X1=>eV P R X1 w1 true (pI t e k bytes ty v s) N:=by
 obtain⟨hu,iw,FG,z,hi,JS,xj⟩:=mL he;have af:row.length=k:=by simpa using hk
 have J6:x.cells.size=k:=by rw[<-af,<-hx,fv]
 refine Cv (rows:=[row]) x.cells z hX hu JS zQ zQ ?_ (by simpa using af) rfl gQ λs w1 X1 aC GC=>?_
 ·simp only[Nat.one_mul];exact FM J6 sQ
 ·refine Rz (dw:=[row]) he aC.has (own.mv aC.mv) GC.sl (by simpa using h1) zQ zQ λv2 w2 X2 hg ho dB=>?_;refine n v2 w2 X2 ((eh.oh aC (ga v)).trans hg) ho ?_;rcases dB with h|⟨g,h,dH⟩
  ·exact .inl h
  ·exact .inr ⟨g,h,ad aC.kp.size dH⟩
end
theorem C9: ∀{rows:List (List Value)} (i:Nat),(∀r∈rows,r.length=k)->(rows.drop i).flatten=rows.flatten.drop (i*k)
 |_,0,_=>by simp
 |[],i+1,_=>by simp
 |r::rows,i+1,h=>by
  have hr:=h r sQ;rw[List.drop_succ_cons,C9 i λx hx=>h x (bQ _ hx),cW,zZ,Nat.add_comm,<-List.drop_drop,List.drop_left' hr]
theorem mi: ∀{rows:List (List Value)} (i:Nat),(∀r∈rows,r.length=k)->(rows.take i).flatten=rows.flatten.take (i*k)
 |_,0,_=>by simp
 |[],i+1,_=>by simp
 |r::rows,i+1,h=>by
  have hr:=h r sQ;have e1:r.take (k+i*k)=r:=ax zQ;rw[List.take_succ_cons,cW,mi i λx hx=>h x (bQ _ hx),cW,zZ,Nat.add_comm,List.take_append,hr,e1,show k+i*k-k=i*k by omega]
theorem XQ {v:Value} {z z':Int} {i:Nat} {N:Value->Prop} (h:Ow w X e k v rows) (hz:z=i) (xt:z'=i) (hi:i<=rows.length) (ht:P.underlying t=some (.slice (P.elem t)))
  (hs:(P.info? (P.elem t)).map (·.size)=some k)
  (n: ∀v',Ow w X e k v' (rows.take i)->v'.ownBlock=v.ownBlock->N v'):aZ P X w (bG t v none (some (.int .i64 z)) (some (.int .i64 z'))) N:=by
 subst hz;subst xt;have hq: ∃inf,P.info? (P.elem t)=some inf/\inf.size=k:=by
  cases hq:P.info? (P.elem t)with
  |none=>grind
  |some inf=>grind
 obtain⟨inf,hq,gd⟩:=hq;obtain⟨h1,⟨rfl,rfl⟩|⟨g,off,cap,cur,rfl,hx,hg,ql,iF,jD,px⟩⟩:=h
 ·simp only[bz,Nat.le_zero] at hi;subst hi;have nD: ∀wa:World,(bG t (.slice none 0 0) none (some (.int .i64 ((0:Nat):Int))) (some (.int .i64 ((0:Nat):Int)))).run P wa= .ok (.slice none 0 0) wa:=λwa=>by
   rw[run_sliceAt_slice wa t _ _ _ _ ht,show((0:Nat):Int)=0 from rfl,run_slice_hm wa t none 0 0 ht .i64 .i64 0 0 zQ zQ zQ];simp[sizeOf,typeInfo,hq,sliced]
  exact bA nD (n _ (Ow.nil w X e k) rfl)
 ·have hlen:(rows.take i).length=i:=by rw[aI];omega
  have nD: ∀wa:World,(bG t (.slice (some ⟨g,off,none⟩) rows.length cap) none (some (.int .i64 (i:Int))) (some (.int .i64 (i:Int)))).run P wa= .ok (.slice (some ⟨g,off,none⟩) (rows.take i).length i) wa:=λwa=>by
   rw[run_sliceAt_slice wa t _ _ _ _ ht,run_slice_hm wa t _ _ cap ht .i64 .i64 i i zQ zQ zQ,hlen];simp[sizeOf,typeInfo,hq,gd,sliced,ph]
  refine bA nD (n _ ⟨λr hr=>h1 r (List.mem_of_mem_take hr),.inr ⟨g,off,i,cur,rfl,hx,hg,by omega,by omega,?_,?_⟩⟩ rfl)
  ·have:=cM k (ad hi ql);omega
  ·rw[mi i h1,<-px,List.take_take,hlen,Nat.min_eq_left (cM k hi)]
variable {b : Nat} {A : XS}
theorem dK.eP {κ α:Type} [DecidableEq κ] {kv:κ->Value} {rd:World->XS->Value->α->Prop} {l:List (κ×α)} {e:TypeId} (h:dK w X A b kv rd l) (hr:aK w F g cs e):b≠g:=by
 rintro rfl;obtain⟨es,c,h1,_⟩:=h;have:=h1.2.1;rw[hr.2] at this;cases this
theorem aK.eP {qe:List Value} {e e':TypeId} (h:aK w X b cs e) (hr:aK w F g qe e') (he:decide (e≠e')=true):b≠g:=by
 rintro rfl;have:=h.2;rw[hr.2] at this
 grind
theorem dK.aiu {κ α:Type} [DecidableEq κ] {kv:κ->Value} {rd:World->XS->Value->α->Prop} {l:List (κ×α)} {v:Value} (h:dK w X A b kv rd l) (hr:Ow w F e k v rows):v.ownBlock≠some b:=λhg=>by
 obtain⟨cs,h2⟩:=hr.tag hg;obtain⟨es,c,h1,_⟩:=h;have:=h1.2.1
 grind
section
variable {t : TypeId}
theorem Nr {l:List Value} (hX: ∀k,X k->k<w.heap.size) (hz:(P.info? t).bind (·.zero)=some (.agg l.toArray))
  (n: ∀b w' X',w.heap.size<=b->aj X w X' w'->aK w' X' b l t->N (ptr b 0) w' X'):eV P R X w m (fY t true (.tuple #[])) N:=by
 intro wa hk;unfold jV;have XJ: ∀w,(zeroValue t).run P w= .ok (.agg l.toArray) w:=by
  intro w;cases hi:P.info? t with
  |none=>grind
  |some inf=>
   have xt:inf.zero=some (.agg l.toArray):=by simpa [hi] using hz
   simp[zeroValue,typeInfo,hi,xt]
 have hr:(fY t true (.tuple #[])).run P wa= .ok (ptr wa.heap.size 0) (wa.alloc (.cells l.toArray t)):=by simp[fY,XJ,newVar,newRow,Value.cells]
 simp only[vS,bh,hr,aO,bK];have hx:Ext wa (wa.alloc (.cells l.toArray t)):=Ext.alloc _ _;exact⟨Step.fc hx,n _ _ _ hk.size (aj.fc hX hk hx) ⟨.inr ⟨aq _,by simp⟩,by simpa using heap_alloc_new wa _⟩⟩
theorem aga {bytes c:Nat} {z:Int} (hX: ∀k,X k->k<w.heap.size) (he:mz P t e k bytes=true) (hz:z=c) (hc:c<=2^32) (hb:bytes<=1024) (hk:k<=1024)
  (n: ∀v w' X',aj X w X' w'->Own w' X' w.heap.size e k v []->N v w' X'):eV P R X w m (B8 t (I 0) (I z)) N:=by
 subst hz;obtain⟨hu,iw,FG,z,hi,JS,xj⟩:=mL he;intro wa af;unfold jV;cases hq:P.info? e with
 |none=>simp[hq] at hi
 |some ie=>
  cases tW:ie.zero with
  |none=>simp_all
  |some z'=>
   simp only[hq,tW,cJ,aX,ah,cD] at hi;obtain⟨h1,h2,h3⟩:=hi;have WJ:ie.bytes*c<=281474976710656:=by
    have:=xX (show ie.bytes<=1024 by omega) hc;omega
   obtain⟨w',hr,ux,hg⟩:=run_make_own (P:=P) wa w.heap.size t e ie z' k hu hq tW h1 .i64 .i64 c WJ (by simp only[maxLen];omega) af.size;have jZ:(B8 t (I 0) (I (c:Int))).run P wa= .ok (.slice (some ⟨wa.heap.size,0,none⟩) 0 c) w':=hr;simp only[vS,bh,jZ,aO,bK];have hx:Ext wa w':=⟨hg.os,hg.tape,hg.output,hg.size,λk hk _=>hg.block k hk sQ⟩;refine⟨Step.fc hx,n _ _ _ (aj.fc hX af hx) ⟨by simp,ux,λg JZ=>?_⟩⟩;simp only[il,ah] at JZ;subst JZ;exact .inr ⟨aq _,(ux.lt _ rfl).2⟩
end
structure Ft (w0:World) (F0:XS) (w:World) (X F:XS):Prop where
 s:aj (out F0 w0) w0 X w
 br: ∀k,F k->X k
 v: ∀k,F k->F0 k\/w0.heap.size<=k
variable {w0 : World}
section
variable {F0 F' G : XS} {Q : Value -> World -> World -> Prop} {f : FuncId} {args : Array Value}
theorem Ft.init (h: ∀k,F0 k->k<w.heap.size):Ft w F0 w (bV w) F0:=⟨aj.out _ _,h,λ_ h=>.inl h⟩
theorem Ft.since (h:Ft w0 F0 w X F) (hs:aj X w X' w'):Ft w0 F0 w' X' F:=⟨h.s.trans hs,λk hk=>hs.sub k (h.br k hk),h.v⟩
theorem Ft.no (h:Ft w0 F0 w X F) (hk:F k) (h0:out F0 w0 k):False:=by
 rcases h.v k hk with h1|h1
 ·exact h0.2 h1
 ·have:=h0.1;omega
theorem Ft.eo (h:Ft w0 F0 w X F) (c:eh G X w X' w') (hG: ∀k,G k->F k) (hF: ∀k,F' k->F k\/(X' k/\w.heap.size<=k)):Ft w0 F0 w' X' F':=by
 refine⟨h.s.eo c λk h0 hk=>h.no (hG k hk) h0,λk hk=>?_,λk hk=>?_⟩
 ·rcases hF k hk with h1|h1
  ·exact c.sub k (h.br k h1)
  grind
 ·rcases hF k hk with h1|h1
  ·exact h.v k h1
  ·right;have:=h1.2;have:=h.s.kp.size;omega
theorem Ft.less (h:Ft w0 F0 w X F) (hF: ∀k,F' k->F k):Ft w0 F0 w X F':=⟨h.s,λk hk=>h.br k (hF k hk),λk hk=>h.v k (hF k hk)⟩
theorem Ft.more (h:Ft w0 F0 w X F) (hF: ∀k,F' k->F k\/(X k/\w0.heap.size<=k)):Ft w0 F0 w X F':=by
 refine⟨h.s,λk hk=>?_,λk hk=>?_⟩
 ·rcases hF k hk with h1|h1
  ·exact h.br k h1
  grind
 ·rcases hF k hk with h1|h1
  ·exact h.v k h1
  omega
theorem Ft.call (hT:Ft w0 F0 w X F) (h:Ct P f args w X G Q) (hf:enters P f=true) (hG: ∀k,G k->F k)
  (k: ∀v wa w' X',Q v wa w'->w.heap.size<=wa.heap.size->(∀k,made wa w' k->X' k)->Ft w0 F0 w' X' (λk=>F k\/made wa w' k)->eh G X w X' w'->N v w' X'):eC P R X w true f args N:=by
 refine yV h hf hT.s.has (λq hq=>hT.br q (hG q hq)) λv wa w' X' hq hle gy Ea hc=>k v wa w' X' hq hle gy ?_ hc;exact hT.eo hc hG λq hq=>hq.imp id λhm=>⟨gy q hm,ad hle hm.1⟩
theorem Ft.fin {v:Value} {Q:Value->World->Prop} (h:Ft w0 F0 w X F) (hq: ∀wa,Kp X w wa->Q v wa):fin (vR F0 w0 Q) X w v:=abZ h.s hq
theorem Ft.jC (h:Ft w0 F0 w X F) {wa:World} (hk:Kp X w wa) (hF: ∀k,F' k->F k): ∀k,F' k->F0 k\/made w0 wa k:=λk af=>by
 rcases h.v k (hF k af)with h1|h1
 ·grind
 ·exact .inr ⟨h1,av (h.s.has k (h.br k (hF k af))) hk.size⟩
theorem Ft.CX (h:Ft w0 nX w X F):aj (aG.bV w0) w0 X w:=
 ⟨⟨h.s.kp.os,h.s.kp.tape,h.s.kp.output,h.s.kp.size,λk af=>h.s.kp.block k ⟨af,λh=>h.elim⟩⟩,λk af=>h.s.sub k ⟨af,λh=>h.elim⟩,h.s.has⟩
def Ee (w0:World) (X:XS):XS:=λk=>X k/\w0.heap.size<=k
theorem Ft.new (h:Ft w0 F0 w X F):Ft w0 F0 w X (λk=>F k\/Ee w0 X k):=h.more λk hk=>hk.imp id λh=>h
theorem Ft.Ps (h:Ft w0 nX w X F):Ft w0 nX w X (Ee w0 X):=h.more λk hk=>.inr hk
theorem eh.jf (c:eh G X w X' w') (h: ∀k,A k->X k/\ ¬G k):Mv A w A w':=λk hk _=>⟨hk,c.block k (h k hk).1 (h k hk).2⟩
theorem Kp.jf (hk:Kp X w w') (h: ∀k,A k->X k):Mv A w A w':=λk af _=>⟨af,hk.block k (h k af)⟩
theorem aj.gU (hs:aj X w X' w') (h: ∀k,A k->X k):Mv A w A w':=λk af _=>⟨af,hs.kp.block k (h k af)⟩
end
theorem aoH {bytes:Nat} {v:Value} (hT:Ft w0 nX w X (Ee w0 X)) (hO:Ow w (Ee w0 X) e k v rows) (he:mz P t e k bytes=true)
  (src:Sl w X k s dw) (h1: ∀r∈dw,∀u∈r,one u=true) (hb:(rows.length+dw.length)*bytes<=140737488355328) (hl:rows.length+dw.length<=2^63-1)
  (n: ∀v' w' X',Ft w0 nX w' X' (Ee w0 X')->Ow w' (Ee w0 X') e k v' (rows++dw)->eh (ga v) X w X' w'->(v'.ownBlock=v.ownBlock\/ ∃g,v'.ownBlock=some g/\w.heap.size<=g)->N v' w' X'):
  eV P R X w true (pI t e k bytes ty v s) N:=by
 refine Rz he hT.s.has (hO.mono hT.br) src h1 hb hl λv' w' X' c ho dB=>?_;have hT':Ft w0 nX w' X' (Ee w0 X'):=Ft.Ps (F:=Ee w0 X) (hT.eo c (λk hk=>(hO.br hk).1) λk hk=>.inl hk);refine n v' w' X' hT' (ho.tight.mono λk hk=>⟨(ho.br hk).1,?_⟩) c dB;have af:v'.ownBlock=some k:=hk;rcases dB with e|⟨g,e,dH⟩
 ·exact(hO.br (e▸af)).1.2
 ·rw[af] at e;have:k=g:=Option.some.inj e;have:=hT.s.kp.size;omega
def Dj (A B:XS):Prop:= ∀k,A k->B k->False
theorem Dj.symm {B:XS} (h:Dj A B):Dj B A:=λk a b=>h k b a
variable {B' : XS}
theorem Dj.grow {B C:XS} (h:Dj A B) (hB: ∀k,B' k->B k\/C k) (hc:Dj A C):Dj A B':=λk a b=>(hB k b).elim (h k a) (hc k a)
theorem Dj.less {A' B:XS} (h:Dj A B) (ha: ∀k,A' k->A k) (hb: ∀k,B' k->B k):Dj A' B':=λk a b=>h k (ha k a) (hb k b)
end Go.aG
set_option linter.unusedVariables false
set_option linter.unusedSimpArgs false
namespace Go.aG
variable {P : Program} {R : Ending -> World -> Prop} {X : XS} {w : World} {m : Bool}
def Jl (w:World) (X:XS) (b:Nat) (cs:List Value) (ty:TypeId):Prop:=X b/\w.heap[b]? =some (.cells cs.toArray ty (cs.length,cs.length+1))
variable {ty : TypeId} {cs : List Value} {b : Nat}
theorem Jl.cells (h:Jl w X b cs ty):Cells w X b 0 cs:=⟨h.1,_,_,_,h.2,λj v hj=>by grind⟩
theorem Jl.since {Y:XS} {w':World} (h:Jl w X b cs ty) (hs:aj X w Y w'):Jl w' Y b cs ty:=⟨hs.sub _ h.1,by rw[hs.kp.block b h.1];exact h.2⟩
theorem aa2 (wa:World) (g n:Nat) (cs:Array Value) (e:TypeId) (h:wa.heap[g]? =some (.cells cs e (0,0))):(wa.freeze ⟨g,n,none⟩ 1).heap=wa.heap.setIfInBounds g (.cells cs e (n,n+1)):=by
 unfold vM;rw[if_neg dQ];obtain⟨hl,he⟩:=Array.getElem?_eq_some_iff.1 h;apply Array.ext
 ·simp
 ·intro i h1 h2;simp only[Array.getElem_modify,Array.getElem_setIfInBounds];split
  ·simp_all
  ·rename_i hi;exact(Array.getElem_setIfInBounds_ne (by simpa using h2) hi).symm
variable {N : Value -> World -> XS -> Prop} {e t : Nat}
theorem akJ {g n c:Nat} (h:aK w X g cs e) (ht:P.underlying t=some (.slice e)) (he:P.underlying e=some (.int .u8)) (hX: ∀k,X k->k<w.heap.size)
  (k: ∀w' X',eh (· =g) X w X' w'->Jl w' X' g cs e->N (.slice (some ⟨g,0,none⟩) n c) w' X'):eV P R X w true (convert t t (.slice (some ⟨g,0,none⟩) n c)) N:=by
 intro wa hk;have hb:=(h.kp hk).2;have cC:=(Array.getElem?_eq_some_iff.1 hb).1;have hsh:wa.shape? g=some (e,cs.length):=by unfold World.shape?;rw[hb];simp
 have hr:(convert t t (.slice (some ⟨g,0,none⟩) n c)).run P wa= .ok (.slice (some ⟨g,0,none⟩) n c) (wa.freeze ⟨g,cs.length,none⟩ 1):=by
  simp[convert,run_underlying ht,run_underlying he,markStringish,hsh]
 have hh:=aa2 wa g cs.length cs.toArray e hb;unfold jV;simp only[vS,bh,hr,aO,bK];have wV:(wa.freeze ⟨g,cs.length,none⟩ 1).os=wa.os:=by unfold vM;rw[if_neg dQ]
 have htp:(wa.freeze ⟨g,cs.length,none⟩ 1).tape=wa.tape:=by unfold vM;rw[if_neg dQ]
 have wQ:(wa.freeze ⟨g,cs.length,none⟩ 1).output=wa.output:=by unfold vM;rw[if_neg dQ]
 have gd:(wa.freeze ⟨g,cs.length,none⟩ 1).heap.size=wa.heap.size:=by rw[hh];simp
 have hblk: ∀q,q≠g->(wa.freeze ⟨g,cs.length,none⟩ 1).heap[q]? =wa.heap[q]? :=λq hq=>by rw[hh,dR,if_neg (Ne.symm hq)]
 refine⟨⟨wV,htp,wQ,by omega,λq _ hx=>hblk q λe=>hx (e▸h.1)⟩,k _ _ ?_ ⟨.inl h.1,by rw[hh,dR,if_pos rfl,if_pos cC]⟩⟩;refine⟨wV.trans hk.os,htp.trans hk.tape,wQ.trans hk.output,by rw[gd];exact hk.size,λq hx cj=>(hblk q cj).trans (hk.block q hx),λq h=>.inl h,λq h=>?_⟩;rw[gd];exact h.elim (λh=>av (hX q h) hk.size) (λh=>by omega)
variable {o : Nat}
theorem aoI {v:Value} (h:Jl w X b cs ty) (ht:(P.info? t).map (·.size)=some 1)
  (hl:o<cs.length) (h1:one v=true) (hX: ∀k,X k->k<w.heap.size)
  (n: ∀w' X',eh (· =b) X w X' w'->Jl w' X' b (cs.set o v) ty->N undef w' X'):eU P R X w true (st1 t 1 (ptr b o) v) N:=by
 intro wa hk;have hb:wa.heap[b]? =some (.cells cs.toArray ty (cs.length,cs.length+1)):=by rw[hk.block b h.1];exact h.2
 have cC:=(Array.getElem?_eq_some_iff.1 hb).1;have hv:v.cells= #[v]:=td h1;have CO:wa.cell? ⟨b,o,none⟩=some cs[o]:=by simp[fq,hb,hl]
 have aqF:wa.frozen? ⟨b,o,none⟩=false:=by simp[World.frozen?,hb];omega
 have fE:(store ⟨b,o,none⟩ v).run P wa= .ok () (wa.setRow b (cs.toArray.setIfInBounds o v)):=by
  rw[run_store P wa _ v _ aQ,CO];simp[aqF,setCell_eq_setRow wa b o cs.toArray ty _ v hb]
 have hr:(Instr.storeAt t (ptr b o) v).run P wa= .ok () (wa.setRow b (cs.toArray.setIfInBounds o v)):=by
  cases hi:P.info? t with
  |none=>grind
  |some i=>
   simp only[hi,aX,ah] at ht;simp[Instr.storeAt,Instr.sureAddr,dE,storeVar,sizeOf,typeInfo,hi,ht,hv,storeCells,ph]
   grind
 unfold st1 jV;simp only[uS,bh,hr,aO,bK];have gd:(wa.setRow b (cs.toArray.setIfInBounds o v)).heap.size=wa.heap.size:=by simp
 refine⟨⟨rfl,rfl,rfl,by omega,λk _ hx=>setRow_other wa b k _ λe=>hx (e▸h.1)⟩,n _ _ ?_ ⟨.inl h.1,?_⟩⟩
 ·refine⟨hk.os,hk.tape,hk.output,by rw[gd];exact hk.size,λk hx cj=>?_,λk h=>.inl h,λk h=>?_⟩
  ·rw[setRow_other wa b k _ cj,hk.block k hx]
  ·rw[gd];exact h.elim (λh=>av (hX k h) hk.size) (λh=>by omega)
 ·have:=setRow_heap wa b cs.toArray (cs.toArray.setIfInBounds o v) ty _ hb;simp_all
def Co (l:List Nat):ByteArray:=⟨(l.map UInt8.ofNat).toArray⟩
theorem UL (l:List Nat):(Co l).size=l.length:=by simp[Co,ByteArray.size]
theorem SA {src dst cap len:Nat} {l:List Nat} (hlen:len=l.length) (hc:Cells w X b o (l.map λx:Nat=>ay .u8 x)) (hs:P.underlying src=some (.slice e)) (he:P.underlying e=some (.int .u8)) (hd:P.underlying dst=some .string)
  (hX: ∀k,X k->k<w.heap.size) (n: ∀w' X',aj X w X' w'->N (.string (Co l)) w' X'):eV P R X w m (convert src dst (.slice (some ⟨b,o,none⟩) len cap)) N:=by
 subst hlen;intro wa hk;have hr:=run_convert_bytes_arg (P:=P) wa src e hs he b o l.length cap (l.map λx:Nat=>(x:Int)) sQ (λi hi=>by
  have:=(hc.kp hk).range i (.int .u8 ((l[i]:Nat):Int)) (by simp[hi]);simp_all) dst hd
 have e1:strOfNums (l.map λx:Nat=>(x:Int))=Co l:=by
  unfold strOfNums Co;simp
 rw[e1] at hr;unfold jV;simp only[vS,bh,hr,aO,bK];have hx:=Ext.refl wa;exact⟨Step.fc hx,n _ _ (aj.fc hX hk hx)⟩
theorem Zk {t:TypeId} {a b:ByteArray} {N:Value->Prop} (h:a.size+b.size<=2^62) (k:N (.string (a++b))):aZ P X w (binOp .add t (.string a) (.string b)) N:=
 bA (λwa=>by
  have:=run_string_add_sum (P:=P) wa a b zQ;assumption) k
theorem aoJ {k bytes ty:Nat} {s:Value} {rows:List (List Value)} {m':Bool} (hX: ∀k,X k->k<w.heap.size) (he:mz P t e k bytes=true) (src:Sl w X k s rows) (h1: ∀r∈rows,∀u∈r,one u=true)
  (hb:rows.length*bytes<=140737488355328) (hl:rows.length<=2^63-1)
  (n: ∀v w' X',aj X w X' w'->Ow w' (Ee w X') e k v rows->N v w' X'):eV P R X w m (gT t e k 0 #[]) λa w1 X1=>eV P R X1 w1 m' (pI t e k bytes ty a s) N:=by
 obtain⟨hu,iw,FG,z,hi,JS,xj⟩:=mL he;cases hq:P.info? e with
 |none=>simp[hq] at hi
 |some ie=>
  cases tW:ie.zero with
  |none=>simp[hq,tW] at hi
  |some z'=>
   simp only[hq,tW,cJ,aX,ah,cD] at hi;obtain⟨rfl,rfl,rfl⟩:=hi;intro wa hk;have hr:(jo t 0 #[]).run P wa= .ok (.slice (some ⟨wa.heap.size,0,none⟩) 0 0) (wa.alloc (.cells #[] e)):=by
    simp[jo,run_underlying hu,sizeOf,typeInfo,hq,Instr.fill,newRow];have Lf: ∀f:Nat->Value,Array.map f (Array.range 0)= #[]:=λf=>Array.eq_empty_of_size_eq_zero sQ;rw[Lf]
   unfold gT jV;simp only[vS,bh,hr,aO,bK];have hx:Ext wa (wa.alloc (.cells #[] e)):=Ext.alloc _ _;have aC:=aj.fc hX hk hx;refine⟨Step.fc hx,?_⟩;intro wb mP;unfold pI jV;have aqG:=(src.since aC).kp mP;have Hm:wb.heap[wa.heap.size]? =some (.cells #[] e (0,0)):=by
    rw[mP.block _ (.inr ⟨aq _,by simp⟩)];exact heap_alloc_new wa _
   have gd:=mP.size;have Yh:=aC.kp.size;rcases aqG.src with⟨rfl,rfl⟩|⟨a,c,rfl,CO⟩
   ·have jI:=z8 (P:=P) (w:=wb) t ty e ie hu hq ⟨wa.heap.size,0,none⟩ 0 0 (aq _);simp only[vS,bh,jI,aO,bK];have bm:=aj.fc aC.has mP (Ext.refl wb);exact⟨Step.fc (Ext.refl _),n _ _ _ (aC.trans bm) ⟨by simp,.inr ⟨wa.heap.size,0,0,#[],rfl,⟨.inl (.inr ⟨aq _,by simp⟩),hk.size⟩,Hm,aq _,au _,by simp,by simp⟩⟩⟩
   ·have sH:rows.flatten.length=rows.length*ie.size:=lU src.1;by_cases h0:rows=[]
    ·subst h0;have jI:=z7 (P:=P) (w:=wb) t ty e ie hu hq wa.heap.size 0 0 0 #[] Hm a 0 c [] sQ sQ sQ (aq _) sQ;have e0:wb.setRow wa.heap.size (#[].toList.take (0+0*ie.size)++[]++ #[].toList.drop (0+0*ie.size+([]:List Value).length)).toArray=wb:=by
      have:=setRow_self wb wa.heap.size #[] e (0,0) Hm;simpa using this
     rw[e0] at jI;have D7:(fh #[t,t] ty #[.slice (some ⟨wa.heap.size,0,none⟩) 0 0,.slice (some a) ([]:List (List Value)).length c]).run P wb= .ok (.slice (some ⟨wa.heap.size,0,none⟩) 0 0) wb:=jI;simp only[vS,bh,D7,aO,bK];have bm:=aj.fc aC.has mP (Ext.refl wb);exact⟨Step.fc (Ext.refl _),n _ _ _ (aC.trans bm) ⟨by simp,.inr ⟨wa.heap.size,0,0,#[],rfl,⟨.inl (.inr ⟨aq _,by simp⟩),hk.size⟩,Hm,aq _,au _,by simp,by simp⟩⟩⟩
    ·have Yw:0<rows.length:=List.length_pos_iff.2 h0;have jI:=run_append_grow (P:=P) wb t ty e ie z' hu hq tW ⟨wa.heap.size,0,none⟩ 0 0 [] sQ sQ a rows.length c rows.flatten sH CO zQ zQ (growslice_fits zQ (by simpa using hb));simp only[fg] at jI;simp only[vS,bh,jI,aO,bK];have dH:=grownCap_ge wb rows.length 0 e;have iF:grownCap wb rows.length 0 e<=maxLen:=grownCap_le_maxLen wb _ 0 e hl;have Xo:Ext wb (wb.drew.alloc (.cells ([].toArray++rows.flatten.toArray++jR z'.cells (grownCap wb rows.length 0 e-rows.length)) e)):=⟨rfl,rfl,rfl,by simp,λk hk _=>heap_alloc_old wb.drew _ hk⟩;have gy:w.heap.size<=wb.heap.size:=ad Yh gd;refine⟨Step.fc Xo,n _ _ _ (aC.trans (aj.fc aC.has mP Xo)) ⟨src.1,.inr ⟨wb.heap.size,0,_,_,rfl,⟨.inr ⟨aq _,by simp⟩,gy⟩,heap_alloc_new wb.drew _,dH,iF,?_,?_⟩⟩⟩
     ·simp only[uJ,kZ,size_zeroCells,xj,sH,bz,fg,<-jk];apply cM;omega
     ·simp only[sV,List.drop_zero,cx];rw[<-sH];exact tB
variable {o' : Nat}
theorem qj {v:Value} (h:aK w X b cs ty) (MC:o'=o) (ht:(P.info? t).map (·.size)=some 1)
  (hl:o<cs.length) (h1:one v=true) (hX: ∀k,X k->k<w.heap.size)
  (n: ∀w' X',eh (· =b) X w X' w'->aK w' X' b (cY cs o [v]) ty->N undef w' X'):eU P R X w true (st1 t 1 (ptr b o') v) N:=by
 subst MC;have hv:=td h1;refine Ew h ht zQ (by rw[hv];rfl) gQ hX λw' X' c hr=>n w' X' c ?_
 grind
theorem Gy {sz:Nat} {v:Value} (h:aK w X b cs ty) (MC:o'=o) (ht:(P.info? t).map (·.size)=some sz)
  (hl:o+sz<=cs.length) (hv:v.cells.size=sz) (h1:v.cells.toList.all one=true) (hX: ∀k,X k->k<w.heap.size)
  (n: ∀w' X',eh (· =b) X w X' w'->aK w' X' b (cY cs o v.cells.toList) ty->N undef w' X'):eU P R X w true (st1 t sz (ptr b o') v) N:=by
 subst MC;exact Ew h ht hl hv h1 hX n
end Go.aG
set_option linter.unusedVariables false
set_option linter.unusedSimpArgs false
namespace Go.aG
variable {P : Program} {R : Ending -> World -> Prop} {X : XS} {w : World} {m : Bool}
variable {N : Value -> Prop} {i k : Nat} {t : TypeId}
theorem abz {v:Value} {z:Int} {rows:List (List Value)} (h:Sl w X k v rows) (hz:z=i) (hi:i<=rows.length) (ht:P.underlying t=some (.slice (P.elem t))) (hs:(P.info? (P.elem t)).map (·.size)=some k)
  (n: ∀v',Sl w X k v' (rows.drop i)->N v'):aZ P X w (bG t v (some (.int .i64 z)) none none) N:=by
 subst hz;obtain⟨h1,h2,base,cap,rfl,hc,hb,hlc,iF⟩:=h;have hq: ∃inf,P.info? (P.elem t)=some inf/\inf.size=k:=by
  cases hq:P.info? (P.elem t)with
  |none=>grind
  |some inf=>grind
 obtain⟨inf,hq,gd⟩:=hq;have nD: ∀wa:World,(bG t (.slice base rows.length cap) (some (.int .i64 (i:Int))) none none).run P wa= .ok (sliced base i rows.length cap k) wa:=λwa=>by
  rw[run_sliceAt_slice wa t _ _ _ _ ht,run_slice_l wa t _ _ cap ht .i64 i zQ zQ];simp[sizeOf,typeInfo,hq,gd]
 refine bA nD (n _ ?_);refine⟨λr hr=>h1 r (List.mem_of_mem_drop hr),by rw[bO];omega,_,cap-i,by unfold sliced;rw[bO],λcj=>?_,λvT=>?_,by rw[bO];omega,by omega⟩
 ·have mQ:i<rows.length:=by
   refine Nat.lt_of_not_le λhle=>cj (List.drop_of_length_le hle)
  obtain⟨b,o,rfl,jD⟩:=hc gQ;refine⟨b,o+i*k,?_,?_⟩
  ·rw[if_neg zQ];simp only[aX,ah];unfold Addr.add;split
   ·grind
   ·rfl
  ·rw[aG.C9 i h1];obtain⟨hx,c,ty,fr,dU,uP⟩:=jD;exact⟨hx,c,ty,fr,dU,λj v hj=>by rw[gp] at hj;have:=uP _ _ hj;rwa [<-Nat.add_assoc] at this⟩
 ·split at vT
  ·omega
  ·have:base=none:=by simpa using vT
   grind
variable {z' : Int} {cap j n : Nat}
theorem aby {a:Option Addr} {q:Nat} {z z2:Int} (hz:z=i) (xt:z'=j) (JS:z2=q) (hi:i<=j) (hj:j<=q) (hq:q<=cap) (ht:P.underlying t=some (.slice (P.elem t))) (hs:((P.info? (P.elem t)).map (·.size)).isSome=true)
  (h: ∀v,N v):aZ P X w (bG t (.slice a n cap) (some (.int .i64 z)) (some (.int .i64 z')) (some (.int .i64 z2))) N:=by
 subst hz;subst xt;subst JS;obtain⟨k,hk⟩:=Option.isSome_iff_exists.1 hs;refine bA (v:=sliced a i j q k) (λwa=>?_) (h _);rw[run_sliceAt_slice wa t _ _ _ _ ht,run_slice_lhm wa t a n cap ht .i64 .i64 .i64 i j q zQ zQ zQ zQ];cases hq:P.info? (P.elem t)with
 |none=>grind
 |some inf=>
  have:inf.size=k:=by simpa [hq] using hk
  simp[sizeOf,typeInfo,hq,this]
variable {g off : Nat}
theorem XD {z:Int} (hz:z=i) (xt:z'=j) (hi:i<=j) (hj:j<=cap) (hic:i<cap) (ht:P.underlying t=some (.slice (P.elem t))) (hs:(P.info? (P.elem t)).map (·.size)=some k)
  (h:N (.slice (some ⟨g,off+i*k,none⟩) (j-i) (cap-i))):aZ P X w (bG t (.slice (some ⟨g,off,none⟩) n cap) (some (.int .i64 z)) (some (.int .i64 z')) none) N:=by
 subst hz;subst xt;refine bA (λwa=>?_) h;rw[run_sliceAt_slice wa t _ _ _ _ ht,run_slice_lh wa t _ n cap ht .i64 .i64 i j zQ zQ zQ];cases hq:P.info? (P.elem t)with
 |none=>grind
 |some inf=>
  have:inf.size=k:=by simpa [hq] using hs
  have cj: ¬cap=i:=by omega
  simp[sizeOf,typeInfo,hq,sliced,this,ph,cj]
variable {e ty : Nat}
theorem XC {t bytes:Nat} {s:Value} {cur:List Value} {dw:List (List Value)} {N:Value->World->XS->Prop} (he:mz P t e k bytes=true) (h:aK w X g cur e) (src:Sl w X k s dw) (h1: ∀r∈dw,∀u∈r,one u=true)
  (xm:n+dw.length<=cap) (Jk:off+n*k+dw.length*k<=cur.length) (hX: ∀k,X k->k<w.heap.size)
  (nx: ∀w' X',eh (λk=>k=g) X w X' w'->aK w' X' g (cY cur (off+n*k) dw.flatten) e->N (.slice (some ⟨g,off,none⟩) (n+dw.length) cap) w' X'):
  eV P R X w true (pI t e k bytes ty (.slice (some ⟨g,off,none⟩) n cap) s) N:=by
 obtain⟨hu,iw,FG,z,hi,JS,xj⟩:=mL he;intro wa hk;have hb:=(h.kp hk).2;have src:=src.kp hk;cases hq:P.info? e with
 |none=>grind
 |some ie=>
  cases tW:ie.zero with
  |none=>simp_all
  |some z'=>
   simp only[hq,tW,cJ,aX,ah,cD] at hi;obtain⟨rfl,rfl,rfl⟩:=hi;unfold pI jV;rcases src.src with⟨rfl,rfl⟩|⟨a,c,rfl,CO⟩
   ·have hr:=z8 (P:=P) (w:=wa) t ty e ie hu hq ⟨g,off,none⟩ n cap zQ;simp only[vS,bh,hr,aO,bK];have AO:=Ext.refl wa;have hs:=aj.fc hX hk AO;refine⟨Step.fc AO,nx _ _ (eh.oh hs _) ?_⟩;have:cY cur (off+n*ie.size) ([]:List (List Value)).flatten=cur:=by simp[cY]
    rw[this];exact h.since hs
   ·have sH:dw.flatten.length=dw.length*ie.size:=lU src.1;have Jb: ∀u∈dw.flatten,u.oneCell'=true:=λu hu=>by
     obtain⟨r,hr,hur⟩:=List.mem_flatten.1 hu;rw[<-Qb];exact h1 r hr u hur
    have hr:=z7 (P:=P) (w:=wa) t ty e ie hu hq g off n cap cur.toArray hb a dw.length c dw.flatten sH CO Jb xm (by rw[sH,kZ];omega);simp only[vS,bh,hr,aO,bK];have Fz: ∀k,k≠g->(wa.setRow g (cY cur (off+n*ie.size) dw.flatten).toArray).heap[k]? =wa.heap[k]? :=λk hk=>setRow_other wa g k _ hk;refine⟨⟨rfl,rfl,rfl,by simp,λk tf nJ=>Fz k λe=>nJ (e▸h.1)⟩,nx _ _ ⟨hk.os,hk.tape,hk.output,by simpa using hk.size,λk hx cj=>(Fz k cj).trans (hk.block k hx),λk h=>.inl h,
     λk h=>h.elim (λh=>by have:=hX k h;have:=hk.size;simp;omega) (λh=>h.2)⟩ ⟨.inl h.1,?_⟩⟩
    exact setRow_heap wa g cur.toArray _ e _ hb
def Zl (P:Program) (e:TypeId):Bool:=match(P.info? e).bind (·.zero)with
 |some z=>z.cells.toList.all one
 |none=>false
theorem XE {t o:Nat} {cs:List Value} {tb:TypeId} {N:Value->World->XS->Prop} {bytes:Nat} (h:aK w X g cs tb) (he:mz P t e k bytes=true) (hzo:Zl P e=true) (h0:0<n) (hl:o+n*k<=cs.length) (hX: ∀k,X k->k<w.heap.size)
  (nx: ∀w' X' zs,zs.length=n*k->eh (λk=>k=g) X w X' w'->aK w' X' g (cY cs o zs) tb->N (.tuple #[]) w' X'):
  eV P R X w true (ny #[t] ty #[.slice (some ⟨g,o,none⟩) n cap]) N:=by
 obtain⟨hu,iw,FG,z,hi,JS,xj⟩:=mL he;intro wa hk;have hb:=(h.kp hk).2;cases hq:P.info? e with
 |none=>simp[hq] at hi
 |some ie=>
  cases tW:ie.zero with
  |none=>simp_all
  |some z'=>
   simp only[hq,tW,cJ,aX,ah,cD] at hi;obtain⟨rfl,rfl,rfl⟩:=hi;have XJ: ∀w,(zeroValue e).run P w= .ok z' w:=by
    intro w;simp[zeroValue,typeInfo,hq,tW]
   obtain⟨zs,aiv⟩: ∃zs,zs=(jR z'.cells n).toList:=⟨_,rfl⟩;have hzl:zs.length=n*ie.size:=by rw[aiv,fv,size_zeroCells,xj]
   have Xn: ∀v∈zs,v.oneCell'=true:=λv hv=>by
    rw[aiv] at hv;simp only[jR,lG,List.mem_map,Array.toList_range,List.mem_range] at hv;obtain⟨q,LY,rfl⟩:=hv;have cC:q % z'.cells.size<z'.cells.size:=Nat.mod_lt _ zQ;rw[getElem!_pos z'.cells _ cC];have:=hzo;simp only[Zl,hq,cJ,tW,j9] at this;rw[<-Qb];exact this _ sQ
   have fE:=run_storeCells_at P g o tb zs 0 cs.toArray wa hb (by simp[hzl];omega) Xn;simp only[z6] at fE;obtain⟨q,rfl⟩: ∃q,n=q+1:=⟨n-1,by omega⟩;have hr:(ny #[t] ty #[.slice (some ⟨g,o,none⟩) (q+1) cap]).run P wa= .ok (.tuple #[]) (wa.setRow g (cY cs o zs).toArray):=by
    simp only[ny];simp[run_underlying hu,XJ,<-aiv,fE,cY]
   unfold jV;simp only[vS,bh,hr,aO,bK];have Fz: ∀k,k≠g->(wa.setRow g (cY cs o zs).toArray).heap[k]? =wa.heap[k]? :=λk hk=>setRow_other wa g k _ hk;refine⟨⟨rfl,rfl,rfl,by simp,λk tf nJ=>Fz k λe=>nJ (e▸h.1)⟩,nx _ _ zs hzl ⟨hk.os,hk.tape,hk.output,by simpa using hk.size,λk hx cj=>(Fz k cj).trans (hk.block k hx),λk h=>.inl h,
    λk h=>h.elim (λh=>by have:=hX k h;have:=hk.size;simp;omega) (λh=>h.2)⟩ ⟨.inl h.1,?_⟩⟩
   exact setRow_heap wa g cs.toArray _ tb _ hb
variable {P : Program}
variable {w : World} {args : Array Value} {fn : Func} {pl : gz}
theorem aiw (hn:fn.ntmps=pl.n) (ai8:args.size<=pl.n) (wA:(pl.boxes.all λp=>decide (args.size<=p.1))=true):
  fw pl ⟨[],[]⟩ .start (mG args) (bV w) w { tmps:=args++cZ (fn.ntmps-args.size) undef,defers:=[] } w:=by
 have ach:(args++cZ (fn.ntmps-args.size) undef).size=pl.n:=by simp;omega
 have DD: ∀s,s<pl.n->(args++cZ (fn.ntmps-args.size) undef)[s]? =some (mG args s):=by
  intro s hs;rw[kN];split
  ·rename_i h1;simp[mG,qt,h1]
  ·rename_i h1;rw[jH,if_pos zQ];simp only[mG,qt];simp_all
 have KX: ∀b n,look pl.boxes b=some n->mG args b=undef:=by
  intro b n hb;have h1:=List.all_eq_true.1 wA _ (Ce hb);simp only[decide_eq_true_eq] at h1;simp only[mG,qt];rw[List.getElem?_eq_none zQ];rfl
 exact {
  size:=ach
  defers:=rfl
  Ah:=λ_ hp=>(by cases hp)
  ext:=Kp.refl _ _
  wO:=λ_ hk=>hk
  qv:=λs hs=>DD s (rC hs).1
  sig:=λ_ hp=>(by cases hp)
  box:=λb n hb cells hc=>by rw[KX b n hb] at hc;cases hc
  inj:=λb b' n n' hb dU h1=>by rw[KX b n hb] at h1;cases h1
  conv:=λb n hb k hk=>by
   have h1:=List.all_eq_true.1 wA _ (Ce hb);simp only[decide_eq_true_eq] at h1;rw[kN,if_neg zQ,jH] at hk;split at hk
   ·cases hk
   ·cases hk
  live:=λ_ hp=>(by cases hp)
  ptr:=λ_ hp=>(by cases hp) }
def ftE (P:Program) (pl:gz) (fn:Func):Option FT:=
 if fn.ntmps==pl.n then match fn.body with
  |some (.seq (.region _ DV false) (.seq (.region _ pY false) rest))=>match pY.toList with
   |[mk,df]=>match mk.op,mk.guard,mk.dst,df.op,df.guard,df.dst with
    | .makeFunc (.func _) ⟨[]⟩ _,none,some d',.defer ⟨.value (.tmp d),⟨[]⟩,_⟩,none,none=>match EO P pl DV DV.toList .start,jT P pl rest,DB P pl fn.results.toList with
     |some t0,some t2,some (r,n)=>if d'==d&&decide (d<pl.n)&&(look pl.boxes d).isNone&&!pl.jx d then some ⟨.seq (.BV t0) t2,r,n⟩else none
     |_,_,_=>none
    |_,_,_,_,_,_=>none
   |_=>none
  |_=>none
 else none
def DL (fn:Func):Option FuncId:=match fn.body with
 |some (.seq _ (.seq (.region _ pY _) _))=>match pY.toList with
  |[mk,_]=>match mk.op with
   | .makeFunc (.func g) _ _=>some g
   |_=>none
  |_=>none
 |_=>none
def Idle (P:Program) (g:FuncId):Prop:=enters P g=true/\ ∀ez w,CallsD P g ez .returning w λe u' w'=>(∃x,e= .returned x)/\u'= .returning/\w'=w
variable {w0 : World} {X : XS}
theorem fw.aside {ds:Bk} {env:Env} {a:Act} {d:Nat} {v:Value} (h:fw pl ds .start env X w0 a w) (hd:d<pl.n) (hb:look pl.boxes d=none) (hg:pl.jx d=false):
  fw pl ds .start env X w0 (a.put (some d) v) w:=by
 have ne: ∀b n,look pl.boxes b=some n->b≠d:=λb n dU e=>by grind
 exact {
  size:=by simp[Act.put,h.size]
  defers:=h.defers
  Ah:=λp hp=>by
   obtain⟨ht,h2⟩:=h.Ah p hp;refine⟨?_,h2⟩;have cj:p.1≠d:=λe=>by grind
   rw[fX _ _ _ _ cj];exact ht
  ext:=h.ext
  wO:=h.wO
  qv:=λs hs=>by
   have tj:s≠d:=λe=>by grind
   rw[fX _ _ _ _ tj];exact h.qv s hs
  sig:=λ_ hp=>(by cases hp)
  box:=λb n dU cells hc=>by
   obtain⟨k,ty,h1,h2⟩:=h.box b n dU cells hc;exact⟨k,ty,by rw[fX _ _ _ _ (ne b n dU)];exact h1,h2⟩
  inj:=λb b' n n' h1 h2 h3 h4 k h5 h6=>h.inj b b' n n' h1 h2 h3 h4 k (by rwa [fX _ _ _ _ (ne b n h1)] at h5) (by rwa [fX _ _ _ _ (ne b' n' h2)] at h6)
  conv:=λb n dU k hk=>h.conv b n dU k (by rwa [fX _ _ _ _ (ne b n dU)] at hk)
  live:=λ_ hp=>(by cases hp)
  ptr:=λ_ hp=>(by cases hp) }
def isSimple:TI->Bool
 | .box .. =>true
 | .Az .. =>true
 | .yS _=>true
 | .set .. =>true
 |_=>false
def Bo:List TI->Env->Env
 |[],e=>e
 | .box b _ x::l,e=>Bo l (jY e b (.agg (x.ev e).cells))
 | .Az b x::l,e=>Bo l (jY e b (.agg #[x.ev e]))
 | .set d x::l,e=>Bo l (jY e d (x.ev e))
 |_::l,e=>Bo l e
theorem zu {iE:List PanicEntry->Env->World->XS->Prop} {next:Env->World->XS->Prop} : ∀(l:List TI) (env:Env),l.all isSimple=true->gP P iE next l env w X->
  gP P iE (λe w' X'=>e=Bo l env/\next e w' X') l env w X
 |[],env,_,h=>⟨rfl,h⟩
 |i::l,env,hs,h=>by
  rw[List.all_cons,aD] at hs;obtain⟨h1,h2⟩:=hs;cases i with
  |box b n x=>exact di.2 ⟨(di.1 h).1,zu l _ h2 (di.1 h).2⟩
  |Az b x=>exact di.2 ⟨(di.1 h).1,zu l _ h2 (di.1 h).2⟩
  |yS b=>exact di.2 ⟨(di.1 h).1,zu l _ h2 (di.1 h).2⟩
  |set d x=>exact zu l _ h2 h
  |_=>cases h1
def tR:List Operand->Option (List Nat)
 |[]=>some []
 | .tmp b::l=>(tR l).map (b:: ·)
 |_::_=>none
def am6:Value->Option Value
 | .agg ⟨[v]⟩=>some v
 |_=>none
def MD:List Nat->Bool
 |[]=>true
 |b::l=>!yB l b&&MD l
def Zm (P:Program) (pl:gz) (fn:Func) (args:Array Value):Option (FuncId×List Nat×List (Option Value)):=
 match fn.body with
 |some (.seq (.region _ DV false) (.seq (.region _ pY false) rest))=>match pY.toList with
  |[mk,_]=>match mk.op with
   | .makeFunc (.func g) _ xn=>match tR xn.toList,EO P pl DV DV.toList .start,jT P pl rest with
    |some cb,some t0,some t2=>if t0.all isSimple&&MD cb&&cb.all (λb=>(look pl.boxes b).isSome&&cU (Bo t0 (mG args) b)&&!yB t2.mk b)then
      some (g,cb,cb.map λb=>if yB t2.wr b then none else am6 (Bo t0 (mG args) b))else none
    |_,_,_=>none
   |_=>none
  |_=>none
 |_=>none
theorem Hw: ∀{l:List Operand} {cb:List Nat},tR l=some cb->l=cb.map .tmp
 |[],cb,h=>by simp only[tR,ah] at h;subst h;rfl
 |x::l,cb,h=>by
  cases x with
  |tmp b=>
   simp only[tR,Option.map_eq_some_iff] at h;obtain⟨c,h1,rfl⟩:=h;rw[Hw h1];rfl
  |const v=>simp[tR] at h
  |global v=>simp[tR] at h
  |func v=>simp[tR] at h
theorem SV {tmps:Array Value} : ∀(cb:List Nat),(∀b∈cb,∃k,tmps[b]? =some (dE k 0))-> ∃ks:List Nat,ks.length=cb.length/\ ∀(i:Nat) b,cb[i]? =some b-> ∃k,ks[i]? =some k/\tmps[b]? =some (dE k 0)
 |[],_=>⟨[],rfl,λi b h=>by simp at h⟩
 |b::cb,h=>by
  obtain⟨k,hk⟩:=h b sQ;obtain⟨ks,h1,h2⟩:=SV cb λc hc=>h c (bQ _ hc);refine⟨k::ks,by simp[h1],λi c hc=>?_⟩;cases i with
  |zero=>simp only[List.getElem?_cons_zero,ah] at hc;subst hc;exact⟨k,rfl,hk⟩
  |succ i=>simpa using h2 i c aQ
theorem Hx: ∀{l:List Nat},MD l=true->l.Nodup
 |[],_=>List.nodup_nil
 |b::l,h=>by
  simp only[MD,aD,cB] at h;exact List.nodup_cons.2 ⟨λhm=>by
   rw[yh.2 hm] at h
   grind,Hx h.2⟩
variable {cb : List Nat}
theorem EL {α:Type} {ks:List α} {p:Nat×α} (h:p∈cb.zip ks): ∃i:Nat,cb[i]? =some p.1/\ks[i]? =some p.2:=by
 obtain⟨i,hi,e⟩:=List.getElem_of_mem h;refine⟨i,?_⟩;have h2:(cb.zip ks)[i]? =some p:=by rw[aU hi,e]
 rw[oK] at h2;exact h2
structure Outside (ks:List Nat) (w wa:World):Prop where
 os:wa.os=w.os
 tape:wa.tape=w.tape
 output:wa.output=w.output
 size:w.heap.size<=wa.heap.size
 block: ∀k,k<w.heap.size-> ¬k∈ks->wa.heap[k]? =w.heap[k]?
theorem Outside.refl (ks:List Nat) (w:World):Outside ks w w:=⟨rfl,rfl,rfl,aq _,λ_ _ _=>rfl⟩
theorem Outside.trans {ks:List Nat} {a b c:World} (h:Outside ks a b) (k:Outside ks b c):Outside ks a c:=
 ⟨k.os.trans h.os,k.tape.trans h.tape,k.output.trans h.output,ad h.size k.size,λi hl hi=>(k.block i (av hl h.size) hi).trans (h.block i hl hi)⟩
theorem Outside.kp {ks:List Nat} {wa:World} (h:Outside ks w wa) (k:Kp X w0 w) (hl: ∀i,X i->i<w.heap.size) (hX: ∀i,i∈ks-> ¬X i):Kp X w0 wa:=
 ⟨h.os.trans k.os,h.tape.trans k.tape,h.output.trans k.output,ad k.size h.size,λi hi=>(h.block i (hl i hi) λhm=>hX i hm hi).trans (k.block i hi)⟩
def El (P:Program) (pl:gz) (fn:Func) (R:Ending->World->Prop) (g:FuncId) (cb:List Nat) (cv:List (Option Value)) (RP:List PanicEntry->World->Prop):Prop:=
 ∀(ks:List Nat) (DE:List (Array Value)) ch w',ks.length=cb.length->DE.length=cb.length->ks.Nodup->(∀(i:Nat) k cells,ks[i]? =some k->DE[i]? =some cells-> ∃ty,w'.heap[k]? =some (.cells cells ty (0,0)))->
  (∀(i:Nat) v cells,cv[i]? =some (some v)->DE[i]? =some cells->cells= #[v])->(∀(i:Nat) b n cells,cb[i]? =some b->look pl.boxes b=some n->DE[i]? =some cells->cells.size=n)->(∀wa,Outside ks w' wa->RP ch wa)->
  CallsD P g (ks.map λk=>dE k 0).toArray (.panicking ch) w' λe u lC=>(∃x,e= .returned x)/\settle u= .returning/\ ∃v,R (.returned v) lC/\
   ∀tmps:Array Value,(∀(i:Nat) b k,cb[i]? =some b->ks[i]? =some k->tmps[b]? =some (dE k 0))->(results fn tmps).run P lC= .ok v lC
def yp (R:Ending->World->Prop) (RP:List PanicEntry->World->Prop):Ending->World->Prop
 | .panicked ch,w=>RP ch w
 |e,w=>R e w
variable {P : Program}
theorem zv {iE:List PanicEntry->Env->World->XS->Prop} {next:Env->World->XS->Prop} : ∀(l:List TI) (env:Env),l.all isSimple=true->gP P iE next l env w X->
  gP P (λ_ _ _ _=>False) next l env w X
 |[],env,_,h=>h
 |i::l,env,hs,h=>by
  rw[List.all_cons,aD] at hs;obtain⟨h1,h2⟩:=hs;cases i with
  |box b n x=>exact di.2 ⟨(di.1 h).1,zv l _ h2 (di.1 h).2⟩
  |Az b x=>exact di.2 ⟨(di.1 h).1,zv l _ h2 (di.1 h).2⟩
  |yS b=>exact di.2 ⟨(di.1 h).1,zv l _ h2 (di.1 h).2⟩
  |set d x=>exact zv l _ h2 h
  |_=>cases h1
theorem UM {l:List Nat} (h: ∀(i j:Nat) k,l[i]? =some k->l[j]? =some k->i=j):l.Nodup:=
 List.pairwise_iff_getElem.2 λi j hi hj yI e=>by
  have:=h i j l[i] (aU hi) gQ;omega
variable {V : Prop} {R : Ending -> World -> Prop} {f : FuncId}
theorem FN {RP:List PanicEntry->World->Prop} {g0:FuncId} {cv:List (Option Value)} (hf:P.funcs[f]? =some fn)
  (hs:(decide (args.size<=pl.n)&&pl.boxes.all λp=>decide (args.size<=p.1))=true) (kO: ∀g,DL fn=some g->Idle P g) (kX:Zm P pl fn args=some (g0,cb,cv)) (px:El P pl fn R g0 cb cv RP) (hv:V=G4 P (ftE P pl fn) (yp R RP) args w) (h:V):Calls P f args w R:=by
 subst hv;unfold G4 at h;simp only[aD,decide_eq_true_eq] at hs;split at h;case h_2=>exact h.elim
 rename_i ft hc;unfold ftE at hc;split at hc;case isFalse=>cases hc
 rename_i hn;have l9:fn.ntmps=pl.n:=by simpa using hn
 split at hc;case h_2=>cases hc
 rename_i _ id0 DV id1 pY rest hb;split at hc;case h_2=>cases hc
 rename_i _ mk df ME;split at hc;case h_2=>cases hc
 rename_i _ _ _ _ _ _ g xn d' d UN SX hmg YY Zn RA Gl;split at hc;case h_2=>cases hc
 rename_i _ _ _ t0 t2 r nd uo nW IM;split at hc;case isFalse=>cases hc
 rename_i qf;simp only[aD,beq_iff_eq,cB,decide_eq_true_eq,iH] at qf;obtain⟨⟨⟨KW,jz⟩,OQ⟩,aix⟩:=qf;subst KW;injection hc with hc
 subst hc;have hG:DL fn=some g:=by unfold DL;rw[hb];simp[ME,SX]
 obtain⟨Zo,aek⟩:=kO g hG;unfold Zm at kX;rw[hb] at kX;dsimp only at kX;rw[ME] at kX;dsimp only at kX;rw[SX] at kX;dsimp only at kX;rw[uo,nW] at kX;split at kX;case h_2=>cases kX
 rename_i _ _ _ kz t0' t2' jD e0 e2;cases e0;cases e2;split at kX;case isFalse=>cases kX
 rename_i uP;simp only[aD,j9,cB] at uP;obtain⟨⟨ajv,tc⟩,wA⟩:=uP;simp only[ah,cD] at kX;obtain⟨rfl,rfl,rfl⟩:=kX;have Zp:=aiw (w:=w) l9 hs.1 (by simpa using hs.2);refine calls_of_wp_defers hf hb ?_
 let K:=KE ⟨.seq (.BV t0) t2,r,nd⟩ (yp R RP)
 have h0:gP P (λch=>K (.panic ch)) (λe w X=>den P t2 K e w X) t0 (mG args) w (bV w):=h;replace h0:=zu t0 _ (List.all_eq_true.2 ajv) h0;have h0':gP P (λ_ _ _ _=>False) (λe w' X'=>e=Bo t0 (mG args)/\den P t2 K e w' X') t0 (mG args) w (bV w):=zv t0 _ (List.all_eq_true.2 ajv) h0;refine wp_seq (wp_region_list (KR (P:=P) (pl:=pl) (ds:=⟨[],[]⟩) ?_ ?_ DV.toList .start t0 _ _ _ _ _ uo (λ_ _ _ hp=>by cases hp) Zp h0'));case refine_2=>exact λch a' w' dx X' dZ _ hk _ hq=>hq.elim
 rintro TB a1 w1 sR X1 GP aC ⟨am7,Uy⟩;replace aC:=aC.drop
 show(Bl (Bn id1 pY false) rest).wp P (bodyPostD P fn R) a1 w1
 have mP: ∀b∈kz,(∃n,look pl.boxes b=some n)/\ ∃k,a1.tmps[b]? =some (dE k 0):=λb dU=>by
  have h1:=wA b dU;obtain⟨⟨h1,h2⟩,h3⟩:=h1;obtain⟨n,hn⟩:=Option.isSome_iff_exists.1 h1;rw[<-am7] at h2;obtain⟨cells,qi⟩:=uj.1 h2;obtain⟨k,ty,g1,_⟩:=aC.box b n hn cells qi;exact⟨⟨n,hn⟩,k,g1⟩
 obtain⟨ks,tf,AR⟩:=SV kz λb dU=>(mP b dU).2;have ael: ∀p,p∈kz.zip (ks.map λk=>dE k 0)->a1.tmps[p.1]? =some p.2/\((∃n k,look pl.boxes p.1=some n/\p.2=dE k 0)\/pl.jx p.1=true):=λp hp=>by
  obtain⟨i,g1,g2⟩:=EL hp;obtain⟨k,g3,g4⟩:=AR i p.1 g1;rw[cX,g3] at g2;simp only[aX,ah] at g2;obtain⟨⟨n,hn⟩,_⟩:=mP p.1 (aB g1);exact⟨by rw[<-g2];exact g4,.inl ⟨n,k,hn,g2.symm⟩⟩
 have aiy:ks.Nodup:=by
  refine UM λi j k hi hj=>?_;have mQ:i<kz.length:=by rw[<-tf];exact(List.getElem?_eq_some_iff.1 hi).1
  have Ec:j<kz.length:=by rw[<-tf];exact(List.getElem?_eq_some_iff.1 hj).1
  have gi:kz[i]? =some kz[i]:=aU mQ;have gj:kz[j]? =some kz[j]:=aU Ec;obtain⟨k1,e1,f1⟩:=AR i _ gi;obtain⟨k2,e2,f2⟩:=AR j _ gj;rw[hi] at e1;cases e1;rw[hj] at e2;cases e2;obtain⟨⟨m1,pr⟩,_⟩:=mP kz[i] (ry mQ);obtain⟨⟨m2,oV⟩,_⟩:=mP kz[j] (ry Ec);have:=aC.inj kz[i] kz[j] m1 m2 pr oV (aC.conv _ _ pr _ f1) (aC.conv _ _ oV _ f2) k f1 f2;exact(Bj (Hx tc)).1 this
 refine wp_seq (wp_region_list ?_);rw[ME];have C1:bU mk (yielded pY a1.tmps)=true:=by simp[bU,hmg]
 have RC:xn.map a1.eval=(ks.map λk=>dE k 0).toArray:=by
  apply tC;rw[lG,(Hw jD),bB];refine qs λi=>?_;rw[cX,cX];cases TE:kz[i]? with
  |none=>
   have:ks[i]? =none:=by rw[tX] at TE⊢;omega
   rw[this];rfl
  |some b=>
   obtain⟨k,g1,g2⟩:=AR i b TE;rw[g1];simp[lj,ja,g2]
 have RD:(execOp a1.eval mk).run P w1= .ok (.value (.func (.func g) #[] (ks.map λk=>dE k 0).toArray)) w1:=by
  rw[<-RC];simp[execOp,SX,ct]
 have aem: ∀b∈kz,b≠d':=λb dU e=>by
  obtain⟨⟨n,hn⟩,_⟩:=mP b dU;rw[e,OQ] at hn;cases hn
 clear RC;generalize hcg:(ks.map λk=>dE k 0).toArray=ez at RD;unfold wpList;rw[if_pos C1];left;unfold kC;rw[RD,B9,YY];have bm:=aC.aside (v:=.func (.func g) #[] ez) jz OQ aix;have KO:(a1.put (some d') (.func (.func g) #[] ez)).eval (.tmp d')= .func (.func g) #[] ez:=by
  have:d'<a1.tmps.size:=by rw[aC.size];exact jz
  simp[lj,Act.put,ja,this]
 have MF: ∀p,p∈kz.zip (ks.map λk=>dE k 0)->(a1.put (some d') (.func (.func g) #[] ez)).tmps[p.1]? =some p.2/\((∃n k,look pl.boxes p.1=some n/\p.2=dE k 0)\/pl.jx p.1=true):=λp hp=>by
  obtain⟨g1,g2⟩:=ael p hp;obtain⟨i,g3,_⟩:=EL hp;exact⟨by rw[fX _ _ _ _ (aem p.1 (aB g3))];exact g1,g2⟩
 generalize a1.put (some d') (.func (.func g) #[] ez)=a2 at bm KO MF;have nD:(execOp a2.eval df).run P w1= .ok (.defer { target:=.fn (.func g) ez,args:= #[] }) w1:=by
  simp[execOp,Zn,resolve,KO,ka]
 unfold wpList;have hw:bU df (yielded pY a2.tmps)=true:=by simp[bU,RA]
 rw[if_pos hw];left;unfold kC;rw[nD,wG,Gl]
 show rest.wp P (bodyPostD P fn R) { a2 with defers:= { target:=.fn (.func g) ez,args:= #[] } ::a2.defers } w1
 rw[bm.defers];have cV:fw pl ⟨[{ target:=.fn (.func g) ez,args:= #[] }],kz.zip (ks.map λk=>dE k 0)⟩ .start sR X1 GP { a2 with defers:=[{ target:=.fn (.func g) ez,args:= #[] }] } w1:=
  ⟨bm.size,rfl,MF,bm.ext,bm.wO,bm.qv,bm.sig,bm.box,bm.inj,bm.conv,bm.live,bm.ptr⟩
 have qh:=mc t2 (K':=λex e w' X'=>K ex e w' X'/\ ∀s,¬s∈t2.wr->e s=sR s) Uy λex e w' X' _ he hk=>⟨hk,he⟩;refine wp_mono (HN (pl:=pl) (ds:=⟨[{ target:=.fn (.func g) ez,args:= #[] }],kz.zip (ks.map λk=>dE k 0)⟩) rest t2 _ sR X1 GP _ w1 nW (λb dU p hp e=>?_) cV qh) λex a' w' hq=>?_
 ·obtain⟨i,g1,_⟩:=EL hp;have h1:=(wA p.1 (aB g1)).2;rw[e,yh.2 dU] at h1;cases h1
 have MG: ∀w',(invoke (.fn (.func g) ez) #[]).run P w'= .ok (.enter g ez) w':=λw'=>by
  simp only[invoke];have:=nZ Zo (#[]++ez) w';simpa using this
 have done:(∃env X w0,fw pl ⟨[{ target:=.fn (.func g) ez,args:= #[] }],kz.zip (ks.map λk=>dE k 0)⟩ .start env X w0 a' w'/\K .ret env w0 X/\ ∀s,¬s∈t2.wr->env s=sR s)->Leaves P fn a'.tmps R a'.defers .returning w':=by
  rintro⟨e,X',dZ,h5,h6,_⟩;have h6':jq (nd.all λb=>cU (e b)) (∀wa,Kp X' dZ wa->R (.returned (Se r e)) wa):=h6;obtain⟨h7,h8⟩:=di.1 h6';rw[h5.defers];refine leaves_cons sQ (f:=g) (args:=ez) (MG w') ?_;refine(aek ez w').mono ?_;rintro _ _ lC ⟨⟨x,rfl⟩,rfl,rfl⟩;exact⟨_,HP h5 IM (List.all_eq_true.1 h7),h8 lC h5.ext⟩
 cases ex with
 |normal=>exact done hq
 |ret=>exact done hq
 |panic ch=>
  obtain⟨h5,e,X',dZ,h6,⟨h7,he⟩,xv⟩:=hq
  show Leaves P fn a'.tmps R a'.defers (.panicking ch) w'
  rw[h5];refine leaves_cons sQ (f:=g) (args:=ez) (MG w') ?_;have mh: ∀(i:Nat) b k,kz[i]? =some b->ks[i]? =some k->a'.tmps[b]? =some (dE k 0)/\ ∃n cells ty,look pl.boxes b=some n/\e b= .agg cells/\w'.heap[k]? =some (.cells cells ty (0,0))/\cells.size=n/\ ¬X' k:=λi b k g1 g2=>
by
   obtain⟨q1,q2⟩:=xv.2 (b,dE k 0) (aB (i:=i) (by rw[oK];exact⟨g1,by rw[cX,g2];rfl⟩));refine⟨q1,?_⟩;rcases q2 with q2|⟨n,k',cells,ty,q3,q4⟩
   ·obtain⟨⟨n,hn⟩,_⟩:=mP b (aB g1);rw[(rC q2).2.1] at hn;cases hn
   ·have:k=k':=by simpa [dE] using q3
    subst this;exact⟨n,cells,ty,q4⟩
  have PB: ∀(i:Nat) b,kz[i]? =some b->cU (e b)=true:=λi b g1=>by
   obtain⟨k,g2,_⟩:=AR i b g1;obtain⟨_,_,cells,_,_,g4,_⟩:=mh i b k g1 g2;rw[g4];rfl
  have hkX: ∀k,k∈ks-> ¬X' k:=λk hm=>by
   obtain⟨i,g1⟩:=xY hm;have mQ:i<kz.length:=by rw[<-tf];exact(List.getElem?_eq_some_iff.1 g1).1
   obtain⟨_,_,_,_,_,_,_,_,g9⟩:=mh i _ k (aU mQ) g1;exact g9
  rw[<-hcg];refine(px ks (kz.map λb=>(e b).cells) ch w' tf sQ aiy (λi k cells g1 g2=>?_) (λi v cells g1 g2=>?_) (λi b n cells g1 g2 g3=>?_) λwa ho=>h7 wa (ho.kp h6 xv.1 hkX)).mono ?_
  ·rw[cX] at g2;obtain⟨b,g3,rfl⟩:=Option.map_eq_some_iff.1 g2;obtain⟨_,_,cells,ty,_,g4,g5,_⟩:=mh i b k g3 g1;rw[g4];exact⟨ty,g5⟩
  ·rw[cX] at g1 g2;obtain⟨b,g3,rfl⟩:=Option.map_eq_some_iff.1 g2;rw[g3] at g1;simp only[aX,ah] at g1;split at g1
   ·cases g1
   ·rename_i hnw;have aqH: ¬b∈t2.wr:=λhm=>hnw (yh.2 hm);rw[he b aqH,am7];generalize Bo t0 (mG args) b=u at g1;unfold am6 at g1;split at g1
    ·cases g1;rfl
    ·cases g1
  ·rw[cX,g1] at g3;simp only[aX,ah] at g3;obtain⟨k,g4,_⟩:=AR i b g1;obtain⟨_,n',xu,ty,q1,q2,q3,q4,_⟩:=mh i b k g1 g4;rw[g2] at q1;cases q1;rw[<-g3,q2];exact q4
  ·rintro e' u lC ⟨⟨x,rfl⟩,Fj,v,hR,aen⟩
   show Leaves P fn a'.tmps R [] (settle u) lC
   rw[Fj];exact⟨v,aen a'.tmps λi b k g1 g2=>(mh i b k g1 g2).1,hR⟩
 |exit i=>obtain⟨e,X',dZ,h5,h6,_⟩:=hq;exact h6.elim
 |goto i=>obtain⟨e,X',dZ,h5,h6,_⟩:=hq;exact h6.elim
 |outgrown=>exact hq.elim
theorem MH (hf:P.funcs[f]? =some fn)
  (hs:(decide (args.size<=pl.n)&&pl.boxes.all λp=>decide (args.size<=p.1))=true) (kO: ∀g,DL fn=some g->Idle P g) (kX:(Zm P pl fn args).isSome=true) (hR: ∀ch w,¬R (.panicked ch) w) (hv:V=G4 P (ftE P pl fn) R args w) (h:V):Calls P f args w R:=by
 obtain⟨⟨g0,cb,cv⟩,hc⟩:=Option.isSome_iff_exists.1 kX;have e:yp R (λ_ _=>False)=R:=by
  funext x w
  cases x with
  |panicked ch=>exact propext ⟨False.elim,hR ch w⟩
  |returned v=>rfl
  |outgrown=>rfl
 exact FN (RP:=λ_ _=>False) hf hs kO hc (λks DE ch w' _ _ _ _ _ _ h=>(h w' (Outside.refl _ _)).elim) (by rw[e];exact hv) h
def ya (fn:Func):List Nat:=fn.results.toList.map λr=>match r with
 | .cell c _=>c
 | .tmp t=>t
def aiz (fn:Func):Bool:=fn.results.toList.all λr=>match r with
 | .cell _ _=>true
 | .tmp _=>false
def ftD (P:Program) (pl:gz) (fn:Func):Option FT:=
 if fn.ntmps==pl.n then match fn.body with
  |some (.seq (.region _ DV false) (.seq (.region _ pY false) rest))=>match pY.toList with
   |[mk,df]=>match df.op,df.guard,df.dst with
    | .defer ⟨.value (.tmp d),⟨[]⟩,_⟩,none,none=>match EO P pl DV DV.toList .start,EO P pl pY [mk] .start,jT P pl rest with
     |some t0,some t1,some t2=>match t1 with
      |[.rd d' (.makeFunc (.func _) ⟨[]⟩ _) _ _]=>
       if d'==d&&pl.jx d&&(ya fn).all (λc=>pl.jx c&&!yB t2.mk c&&!yB t2.wr c)&&aiz fn&&!(t2.wr.contains d)&&!fn.results.isEmpty then some ⟨.seq (.BV t0) (.seq (.BV t1) t2),(ya fn).map Ex.t++[Ex.t d],[]⟩else none
      |_=>none
     |_,_,_=>none
    |_,_,_=>none
   |_=>none
  |_=>none
 else none
def Ih (P:Program) (fn:Func) (R:Ending->World->Prop) (vs:List Value) (u:FrameMode) (w:World):Prop:=
 ∃(ps:List Value) (g:FuncId) (ez:Array Value),vs=ps++[Value.func (.func g) #[] ez]/\enters P g=true/\
  CallsD P g ez u w λe' u' w'=> ∃x v,e'= .returned x/\settle u'= .returning/\
   (∀tmps:Array Value,(∀(i:Nat) c,(ya fn)[i]? =some c->tmps[c]? =ps[i]?)->(results fn tmps).run P w'= .ok v w')/\R (.returned v) w'
def dP (P:Program) (fn:Func) (R:Ending->World->Prop) (vs:List Value):Ending->World->Prop
 | .returned _,w=>Ih P fn R vs .returning w
 | .panicked ch,w=>Ih P fn R vs (.panicking ch) w
 | .outgrown,_=>False
def nP:Ending->World->Prop:=λ_ _=>False
def ajw (P:Program) (fn:Func) (R:Ending->World->Prop) (res:List Ex):lR
 | .normal,e,w,X| .ret,e,w,X=> ∀wa,Kp X w wa->Ih P fn R (res.map (·.ev e)) .returning wa
 | .panic ch,e,w,X=> ∀wa,Kp X w wa->Ih P fn R (res.map (·.ev e)) (.panicking ch) wa
 |_,_,_,_=>False
def am8 (P:Program) (pl:gz) (fn:Func) (R:Ending->World->Prop) (args:Array Value) (w:World):Prop:=match ftD P pl fn with
 |some ft=>match ft.code with
  | .seq (.BV t0) (.seq (.BV t1) t2)=>gP P (λch _ w X=>pn nP ch w X) (λe w X=>gP P (λch _ w X=>pn nP ch w X) (λe w X=>den P t2 (ajw P fn R ft.res) e w X) t1 e w X) t0 (mG args) w (bV w)
  |_=>False
 |none=>False
theorem Zq (hf:P.funcs[f]? =some fn)
  (hs:(decide (args.size<=pl.n)&&pl.boxes.all λp=>decide (args.size<=p.1))=true) (hv:V=am8 P pl fn R args w) (h:V):Calls P f args w R:=by
 subst hv;unfold am8 at h;simp only[aD,decide_eq_true_eq] at hs;split at h;case h_2=>exact h.elim
 rename_i ft hc;unfold ftD at hc;split at hc;case isFalse=>cases hc
 rename_i hn;have l9:fn.ntmps=pl.n:=by simpa using hn
 split at hc;case h_2=>cases hc
 rename_i _ id0 DV id1 pY rest hb;split at hc;case h_2=>cases hc
 rename_i _ mk df ME;split at hc;case h_2=>cases hc
 rename_i _ _ _ d UN Zn RA Gl;split at hc;case h_2=>cases hc
 rename_i _ _ _ t0 t1 t2 uo Da nW;split at hc;case h_2=>cases hc
 rename_i _ d' g0 xn ty ss;split at hc;case isFalse=>cases hc
 rename_i qf;simp only[aD,beq_iff_eq,cB,j9] at qf;obtain⟨⟨⟨⟨⟨KW,hgd⟩,hgc⟩,oe⟩,hwr⟩,cj⟩:=qf;subst KW;injection hc with hc
 subst hc;have hdw: ¬d'∈t2.wr:=λhm=>by simp[hm] at hwr
 have Zp:=aiw (w:=w) l9 hs.1 gQ;refine calls_of_wp_defers hf hb ?_
 let K:=ajw P fn R ((ya fn).map Ex.t++[Ex.t d'])
 have hnp: ∀{ch X w0 w'},Kp X w0 w'->pn nP ch w0 X->False:=λhk hq=>hq _ hk;have h0:gP P (λch _ w X=>pn nP ch w X) (λe w X=>gP P (λch _ w X=>pn nP ch w X) (λe w X=>den P t2 K e w X) [.rd d' (.makeFunc (.func g0) ⟨[]⟩ xn) ty ss] e w X) t0 (mG args) w (bV w):=h;refine wp_seq (wp_region_list (KR (P:=P) (pl:=pl) (ds:=⟨[],[]⟩) ?_ ?_ DV.toList .start t0 _ _ _ _ _ uo (λ_ _ _ hp=>by cases hp) Zp h0));case refine_2=>exact λch a' w' dx X' dZ _ hk _ hq=>(hnp hk hq).elim
 intro TB a1 w1 sR X1 GP aC Uy;replace aC:=aC.drop
 show(Bl (Bn id1 pY false) rest).wp P (bodyPostD P fn R) a1 w1
 refine wp_seq (wp_region_list ?_);rw[ME];have h1:gP P (λch _ w X=>pn nP ch w X) (λe w X=>den P t2 (λex e' w' X'=>K ex e' w' X'/\ ∀s,¬s∈t2.wr->e' s=e s) e w X/\ ∃ez,e d'= .func (.func g0) #[] ez) [.rd d' (.makeFunc (.func g0) ⟨[]⟩ xn) ty ss] sR GP X1:=by
  obtain⟨v,hv,hq⟩: ∃v,Rd P X1 GP (P4 (Gi sR ss) (.makeFunc (.func g0) ⟨[]⟩ xn) ty) v/\den P t2 K (jY sR d' v) GP X1:=Uy;refine⟨v,hv,mc t2 hq λex e w' X' _ he hk=>⟨hk,he⟩,?_⟩;have hr:(vS (ct (.func g0) (xq (Gi sR ss) ⟨[]⟩) (xq (Gi sR ss) xn))).run P GP= .ok (.value v) GP:=hv GP (Kp.refl _ _);rw[Sc,Sc] at hr;rw[mS];simp[vS,ct] at hr;exact⟨_,hr.symm⟩
 have h2:=KR (P:=P) (pl:=pl) (ds:=⟨[],[]⟩) (ops:=pY) (Q:=λex a w=>match ex with
   | .normal=>wpList P pY (Exit.then (rest.wp P (bodyPostD P fn R)) (bodyPostD P fn R)) [df] a w
   |ex=>Exit.then (rest.wp P (bodyPostD P fn R)) (bodyPostD P fn R) ex a w) ?_ ?_ [mk] .start _ sR X1 GP a1 w1 Da (λ_ _ _ hp=>by cases hp) aC h1
 ·assumption
 ·rintro cs2 a2 w2 FO X2 w02 bm ⟨qh,ez,qi⟩
  show wpList P pY _ [df] a2 w2
  have KO:a2.eval (.tmp d')= .func (.func g0) #[] ez:=by
   have:=bm.qv d' hgd;simp[lj,ja,this,qi]
  have nD:(execOp a2.eval df).run P w2= .ok (.defer { target:=.fn (.func g0) ez,args:= #[] }) w2:=by
   simp[execOp,Zn,resolve,KO,ka]
  unfold wpList;have hw:bU df (yielded pY a2.tmps)=true:=by simp[bU,RA]
  rw[if_pos hw];left;unfold kC;rw[nD,wG,Gl]
  show rest.wp P (bodyPostD P fn R) { a2 with defers:= { target:=.fn (.func g0) ez,args:= #[] } ::a2.defers } w2
  rw[bm.defers];have xM:=bm.drop;have cV:fw pl ⟨[{ target:=.fn (.func g0) ez,args:= #[] }],(ya fn).map λc=>(c,FO c)⟩ .start FO X2 w02 { a2 with defers:=[{ target:=.fn (.func g0) ez,args:= #[] }] } w2:=
   ⟨xM.size,rfl,λp hp=>by
    obtain⟨c,hc,rfl⟩:=List.mem_map.1 hp;have hg:=(hgc c hc).1.1;exact⟨bm.qv c hg,.inr hg⟩,xM.ext,xM.wO,xM.qv,xM.sig,xM.box,xM.inj,xM.conv,xM.live,xM.ptr⟩
  refine wp_mono (HN (pl:=pl) (ds:=⟨[{ target:=.fn (.func g0) ez,args:= #[] }],(ya fn).map λc=>(c,FO c)⟩) rest t2 _ FO X2 w02 _ w2 nW (λb dU p hp e=>?_) cV qh) λex a' w' hq=>?_
  ·obtain⟨c,hc,rfl⟩:=List.mem_map.1 hp;have h3:=(hgc c hc).1.2;have e:c=b:=e;rw[e,yh.2 dU] at h3;cases h3
  have hcw: ∀c∈ya fn,¬c∈t2.wr:=λc hc hm=>by
   have h3:=(hgc c hc).2;rw[yh.2 hm] at h3;cases h3
  have close: ∀(e:Env) (u:FrameMode) (wx:World),u≠ .run->(∀s,¬s∈t2.wr->e s=FO s)->(∀c∈ya fn,a'.tmps[c]? =some (FO c))->
    Ih P fn R (((ya fn).map Ex.t++[Ex.t d']).map (·.ev e)) u wx->Leaves P fn a'.tmps R [{ target:=.fn (.func g0) ez,args:= #[] }] u wx:=by
   rintro e u wx hu he htm ⟨vs,g,aoK,UC,Zo,hcd⟩;rw[List.map_append,bB,bD,List.map_nil] at UC;obtain⟨lq,rT⟩:=List.append_inj' UC rfl;simp only[List.cons.injEq,and_true] at rT;have aqI:(Value.func (.func g0) #[] ez)= .func (.func g) #[] aoK:=by
    rw[<-qi,<-he d' hdw];exact rT
   injection aqI with YK _ xA
   injection YK with YK
   subst YK;subst xA;refine leaves_cons hu (f:=g0) (args:=ez) ?_ ?_
   ·simp only[invoke];have:=nZ Zo (#[]++ez) wx;simpa using this
   ·refine hcd.mono ?_;rintro _ u' lC ⟨x,v,rfl,Fj,IM,hR⟩
    show Leaves P fn a'.tmps R [] (settle u') lC
    rw[Fj];refine⟨v,IM _ λi c hi=>?_,hR⟩;have mu:c∈ya fn:=aB hi;rw[htm c mu,<-lq,cX,hi]
    show some (FO c)=some (e c)
    rw[he c (hcw c mu)]
  have done:(∃env X w0,fw pl ⟨[{ target:=.fn (.func g0) ez,args:= #[] }],(ya fn).map λc=>(c,FO c)⟩ .start env X w0 a' w'/\K .ret env w0 X/\ ∀s,¬s∈t2.wr->env s=FO s)->Leaves P fn a'.tmps R a'.defers .returning w':=by
   rintro⟨e,X',dZ,h5,h6,h7⟩;rw[h5.defers];exact close e .returning w' sQ h7 (λc hc=>(h5.Ah (c,FO c) (List.mem_map.2 ⟨c,hc,rfl⟩)).1) (h6 w' h5.ext)
  cases ex with
  |normal=>exact done hq
  |ret=>exact done hq
  |panic ch=>
   obtain⟨h5,e,X',dZ,h6,⟨h7,h8⟩,xv⟩:=hq
   show Leaves P fn a'.tmps R a'.defers (.panicking ch) w'
   rw[h5];exact close e (.panicking ch) w' sQ h8 (λc hc=>(xv.2 (c,FO c) (List.mem_map.2 ⟨c,hc,rfl⟩)).1) (h7 w' h6)
  |exit i=>obtain⟨e,X',dZ,h5,h6,_⟩:=hq;exact h6.elim
  |goto i=>obtain⟨e,X',dZ,h5,h6,_⟩:=hq;exact h6.elim
  |outgrown=>exact hq.elim
 ·exact λch a' w' dx X' dZ _ hk _ hq=>(hnp hk hq).elim
end Go.aG
set_option linter.unusedVariables false
set_option linter.unusedSimpArgs false
namespace Go.aG
variable {P : Program} {R : Ending -> World -> Prop} {X F G : XS} {w w0 : World} {m : Bool}
def Fx (F:XS) (w0:World) (Q:Value->World->Prop) (QP:List PanicEntry->World->Prop):Ending->World->Prop:=λe w'=>
 (∃v,e= .returned v/\Fr F w0 w'/\Q v w')\/ ∃ch,e= .panicked ch/\Fr F w0 w'/\QP ch w'
def E5 (P:Program) (f:FuncId) (args:Array Value) (w:World) (X F:XS) (Q:Value->World->World->Prop) (QP:List PanicEntry->World->World->Prop):Prop:=
 ∀wa,Kp X w wa->Calls P f args wa (Fx F wa (λv w'=>Q v wa w') λch w'=>QP ch wa w')
variable {args : Array Value} {f : FuncId}
theorem E5.mono {Q Q':Value->World->World->Prop} {QP Yk:List PanicEntry->World->World->Prop} (h:E5 P f args w X F Q QP) (k: ∀v wa w',Kp X w wa->Q v wa w'->Q' v wa w') (kp: ∀ch wa w',Kp X w wa->QP ch wa w'->Yk ch wa w'):E5 P f args w X F Q' Yk:=
 λwa hk=>(h wa hk).mono λ_ _ hq=>hq.imp (λ⟨v,he,hf,hq⟩=>⟨v,he,hf,k v wa _ hk hq⟩) λ⟨v,he,hf,hq⟩=>⟨v,he,hf,kp v wa _ hk hq⟩
variable {N : Value -> World -> XS -> Prop}
theorem aoL {Q:Value->World->World->Prop} {QP:List PanicEntry->World->World->Prop}
  (h:E5 P f args w X F Q QP) (hf:enters P f=true) (hX: ∀k,X k->k<w.heap.size) (hF: ∀k,F k->X k)
  (k: ∀v wa w' X',Q v wa w'->w.heap.size<=wa.heap.size->(∀k,made wa w' k->X' k)->Kp X w wa->eh F X w X' w'->N v w' X')
  (kp: ∀ch wa w' X',QP ch wa w'->w.heap.size<=wa.heap.size->(∀k,made wa w' k->X' k)->Kp X w wa->eh F X w X' w'-> ∀wb,Kp X' w' wb->R (.panicked ch) wb):eC P R X w true f args N:=by
 intro wa hk;unfold jV;rw[nZ hf args wa];refine⟨rfl,(h wa hk).mono ?_⟩;rintro e w' (⟨v,rfl,xe,hq⟩|⟨ch,rfl,xe,hq⟩)
 ·exact⟨xe.mono hF,k v wa w' _ hq hk.size (λg hg=>.inr hg) hk (eh.aec hX hk xe)⟩
 ·exact⟨xe.mono hF,kp ch wa w' _ hq hk.size (λg hg=>.inr hg) hk (eh.aec hX hk xe)⟩
variable {t : TypeId}
theorem SF {x:Value} (hX: ∀k,X k->k<w.heap.size) (h: ∀wa,Kp X w wa->R (.panicked [{ v:=.iface t x,recovered:=false }]) wa):eV P R X w m (kV (.iface t x)) N:=by
 intro wa hk;have hr:(vS (kV (.iface t x))).run P wa= .halt (.panic (.iface t x)) wa:=by simp[vS,kV,goPanic,Sem.run]
 unfold jV;rw[hr];refine⟨Step.fc (Ext.refl wa),λwb hb=>h wb ⟨hb.os.trans hk.os,hb.tape.trans hk.tape,hb.output.trans hk.output,ad hk.size hb.size,λk hx=>(hb.block k (.inl hx)).trans (hk.block k hx)⟩⟩
def isIface (P:Program) (t:TypeId):Bool:=match P.underlying t with
 |some (.interface _)=>true
 |some _=>false
 |none=>true
theorem SE {x:Value} {N:Value->Prop} (ht:isIface P t=false) (h:N (.iface t x)):aZ P X w (jd t x) N:=by
 unfold isIface at ht;cases hu:P.underlying t with
 |none=>simp[hu] at ht
 |some d=>refine bA (v:=.iface t x) (λwa=>?_) h;cases d<;>simp_all [jd,run_underlying hu]
theorem aj4 {st:TypeId} {x:Value} {N:Value->Prop} (ht:isIface P t=false) (h:N (.tuple #[x,.bool true])):aZ P X w (nR (.iface t x) st t true) N:=by
 unfold isIface at ht;cases hu:P.underlying t with
 |none=>simp[hu] at ht
 |some d=>refine bA (v:=.tuple #[x,.bool true]) (λwa=>?_) h;cases d<;>simp_all [nR,run_underlying hu]
variable {wa : World} {RP : List PanicEntry -> World -> Prop} {R : Ending -> World -> Prop}
section
variable {F0 X' : XS} {Q : Value -> World -> World -> Prop} {QP : List PanicEntry -> World -> World -> Prop}
theorem Ft.Gt (hT:Ft w0 F0 w X F) (h:E5 P f args w X G Q QP) (hf:enters P f=true) (hG: ∀k,G k->F k)
  (k: ∀v wa w' X',Q v wa w'->w.heap.size<=wa.heap.size->(∀k,made wa w' k->X' k)->Ft w0 F0 w' X' (λk=>F k\/made wa w' k)->eh G X w X' w'->N v w' X')
  (kp: ∀ch wa w' X',QP ch wa w'->w.heap.size<=wa.heap.size->(∀k,made wa w' k->X' k)->Ft w0 F0 w' X' (λk=>F k\/made wa w' k)->eh G X w X' w'-> ∀wb,Kp X' w' wb->R (.panicked ch) wb):eC P R X w true f args N:=
 aoL h hf hT.s.has (λq hq=>hT.br q (hG q hq)) (λv wa w' X' hq hle gy _ hc=>k v wa w' X' hq hle gy (hT.eo hc hG λq hq=>hq.imp id λhm=>⟨gy q hm,ad hle hm.1⟩) hc)
  λch wa w' X' hq hle gy _ hc=>kp ch wa w' X' hq hle gy (hT.eo hc hG λq hq=>hq.imp id λhm=>⟨gy q hm,ad hle hm.1⟩) hc
theorem Ft.fr (h:Ft w0 F0 w X F) (hk:Kp X w wa):Fr F0 w0 wa:=
 ⟨hk.os.trans h.s.kp.os,hk.tape.trans h.s.kp.tape,hk.output.trans h.s.kp.output,ad h.s.kp.size hk.size,
  λk hl hn=>(hk.block k (h.s.sub k ⟨hl,hn⟩)).trans (h.s.kp.block k ⟨hl,hn⟩)⟩
theorem Ft.xy {v:Value} {Q:Value->World->Prop} {QP:List PanicEntry->World->Prop} (h:Ft w0 F0 w X F) (hq: ∀wa,Kp X w wa->Q v wa):aG.fin (Fx F0 w0 Q QP) X w v:=
 λwa hk=>.inl ⟨v,rfl,h.fr hk,hq wa hk⟩
theorem Ft.iE {ch:List PanicEntry} {Q:Value->World->Prop} {QP:List PanicEntry->World->Prop} (h:Ft w0 F0 w X F) (hk:Kp X w wa) (hq:QP ch wa):Fx F0 w0 Q QP (.panicked ch) wa:=.inr ⟨ch,rfl,h.fr hk,hq⟩
theorem agb {v:Value} (h:aG.fin R X w v):aG.fin (yp R RP) X w v:=λwa hk=>h wa hk
theorem Ft.acr {v:Value} {Q:Value->World->Prop} (h:Ft w0 F0 w X F) (hq: ∀wa,Kp X w wa->Q v wa):aG.fin (yp (vR F0 w0 Q) RP) X w v:=
 agb (h.fin hq)
theorem Ft.ret {v:Value} {Q:Value->World->Prop} (h:Ft w0 F0 w X F) (hk:Kp X w wa) (hq:Q v wa):vR F0 w0 Q (.returned v) wa:=⟨v,rfl,h.fr hk,hq⟩
theorem Ct.Gt (hT:Ft w0 F0 w X F) (h:Ct P f args w X G Q) (hf:enters P f=true) (hG: ∀k,G k->F k)
  (k: ∀v wa w' X',Q v wa w'->w.heap.size<=wa.heap.size->(∀k,made wa w' k->X' k)->Ft w0 F0 w' X' (λk=>F k\/made wa w' k)->eh G X w X' w'->N v w' X'):eC P R X w true f args N:=
 hT.call h hf hG k
end
end Go.aG
set_option linter.unusedVariables false
set_option linter.unusedSimpArgs false
namespace Go.aG
variable {P : Program}
def aoM (ops:Array Oper):Bool:=match ops.toList with
 |[mk,df]=>match mk.op,mk.guard,mk.dst,df.op,df.guard,df.dst with
  | .makeFunc (.func _) ⟨[]⟩ _,none,some d',.defer ⟨.value (.tmp d),⟨[]⟩,_⟩,none,none=>d'==d
  |_,_,_,_,_,_=>false
 |_=>false
def Dx:Code->Option (Code×Nat×Array Oper×Code)
 | .seq (.region id ops false) rest=>if aoM ops then some (.skip,id,ops,rest)else match Dx rest with
  |some (p,i,o,r)=>some (.seq (.region id ops false) p,i,o,r)
  |none=>none
 | .seq a b=>match Dx b with
  |some (p,i,o,r)=>some (.seq a p,i,o,r)
  |none=>none
 |_=>none
def Zr (fn:Func):Option (Code×Nat×Array Oper×Code):=match fn.body with
 |some c=>Dx c
 |none=>none
def ftL (P:Program) (pl:gz) (fn:Func):Option FT:=
 if fn.ntmps==pl.n then match Zr fn with
  |some (c1,_,pY,rest)=>match pY.toList with
   |[mk,df]=>match mk.op,mk.guard,mk.dst,df.op,df.guard,df.dst with
    | .makeFunc (.func _) ⟨[]⟩ xn,none,some d',.defer ⟨.value (.tmp d),⟨[]⟩,_⟩,none,none=>match jT P pl c1,tR xn.toList,jT P pl rest,DB P pl fn.results.toList with
     |some t1,some cb,some t2,some (r,n)=>if d'==d&&decide (d<pl.n)&&(look pl.boxes d).isNone&&!pl.jx d&&MD cb&&cb.all (λb=>(look pl.boxes b).isSome&&!yB t2.mk b)then some ⟨.seq t1 (.seq (.BV (cb.map .yS)) t2),r,n⟩else none
     |_,_,_,_=>none
    |_,_,_,_,_,_=>none
   |_=>none
  |none=>none
 else none
def YD (fn:Func):Option (FuncId×List Nat):=match Zr fn with
 |some (_,_,pY,_)=>match pY.toList with
  |[mk,_]=>match mk.op with
   | .makeFunc (.func g) _ xn=>(tR xn.toList).map λcb=>(g,cb)
   |_=>none
  |_=>none
 |none=>none
def noP (R:Ending->World->Prop):Ending->World->Prop
 | .panicked _,_=>False
 |e,w=>R e w
def am9 (P:Program) (o:Option FT) (R1 R2:Ending->World->Prop) (args:Array Value) (w:World):Prop:=match o with
 |some ft=>match ft.code with
  | .seq t1 t2=>den P t1 (lR.Gj (λe w X=>den P t2 (KE ft R2) e w X) (KE ft R1)) (mG args) w (bV w)
  |_=>False
 |none=>False
variable {pl : gz}
theorem aeo {next:Env->World->XS->Prop} {K:lR} {Q:Exit->Act->World->Prop} {id:Nat} {o1:Array Oper} {rest:Code}
  (hn: ∀env X w0 a w,fw pl ⟨[],[]⟩ .start env X w0 a w->next env w0 X->(Bl (Bn id o1 false) rest).wp P Q a w)
  (hK: ∀ex a w,ex≠ .normal->QP pl ⟨[],[]⟩ K ex a w->Q ex a w): ∀(c c1:Code),Dx c=some (c1,id,o1,rest)-> ∀(t1:T) (env:Env) (X:XS) (w0:World) (a:Act) (w:World),
   jT P pl c1=some t1->fw pl ⟨[],[]⟩ .start env X w0 a w->den P t1 (lR.Gj next K) env w0 X->c.wp P Q a w:=by
 intro c
 induction c with
 |seq x y ihx ihy=>
  intro c1 hs t1 env X w0 a w hc h hd;have key: ∀p,Dx y=some (p,id,o1,rest)->c1= .seq x p->(Bl x y).wp P Q a w:=λp hp Da=>by
   subst Da;simp only[jT] at hc;cases hx:jT P pl x with
   |none=>simp[hx] at hc
   |some tx=>
    cases hy:jT P pl p with
    |none=>simp[hx,hy] at hc
    |some ty=>
     simp only[hx,hy,ah] at hc;have KW:den P (.seq tx ty) (lR.Gj next K) env w0 X:=by
      subst hc;split at hd
      ·exact hd
      ·show den P tx (lR.Gj (λe w X=>den P .skip (lR.Gj next K) e w X) (lR.Gj next K)) env w0 X
       refine mc tx hd λex e w' X' _ _ hq=>?_;cases ex<;>exact hq
      ·exact hd
     refine wp_seq (wp_mono (HN (pl:=pl) (ds:=⟨[],[]⟩) x tx _ env X w0 a w hx (λ_ _ _ hp=>by cases hp) h KW) λex a' w' hq=>?_);cases ex with
     |normal=>
      obtain⟨e,X',dZ,h1,h2⟩:=hq;exact ihy p hp ty e X' dZ a' w' hy h1 h2
     |exit i=>exact hK _ _ _ sQ hq
     |goto i=>exact hK _ _ _ sQ hq
     |ret=>exact hK _ _ _ sQ hq
     |panic c=>exact hK _ _ _ sQ hq
     |outgrown=>exact hK _ _ _ sQ hq
  unfold Dx at hs;split at hs
  ·rename_i id' ops arH heq;simp only[Dw] at heq;obtain⟨rfl,rfl⟩:=heq;split at hs
   ·simp only[ah,cD] at hs;obtain⟨rfl,rfl,rfl,rfl⟩:=hs;simp only[jT,ah] at hc;subst hc;exact hn env X w0 a w h hd
   ·split at hs
    ·rename_i p i o r hp;simp only[ah,cD] at hs;obtain⟨rfl,rfl,rfl,rfl⟩:=hs;exact key p hp rfl
    ·cases hs
  ·rename_i x' y' _ heq;simp only[Dw] at heq;obtain⟨rfl,rfl⟩:=heq;split at hs
   ·rename_i p i o r hp;simp only[ah,cD] at hs;obtain⟨rfl,rfl,rfl,rfl⟩:=hs;exact key p hp rfl
   ·cases hs
  ·cases hs
 |_=>grind [Dx]
variable {X : XS} {w : World}
theorem UO {K:Env->World->XS->Prop} {iE:List PanicEntry->Env->World->XS->Prop} {env:Env} : ∀(l:List Nat),gP P iE K (l.map TI.yS) env w X->(∀b∈l,cU (env b)=true)/\K env w X
 |[],h=>⟨λ_ h=>(by cases h),h⟩
 |b::l,h=>by
  have h':=di.1 h;have ih:=UO l h'.2;exact⟨λc hc=>by
   rcases List.mem_cons.1 hc with rfl|hc
   ·exact h'.1
   ·exact ih.1 c hc,ih.2⟩
variable {cb : List Nat} {R : Ending -> World -> Prop} {fn : Func}
theorem adI {g:FuncId} :El P pl fn R g cb [] λ_ _=>False:=
 λks DE ch w' _ _ _ _ _ _ h=>(h w' (Outside.refl _ _)).elim
theorem MI {f:FuncId} {args:Array Value} {RP:List PanicEntry->World->Prop} {g0:FuncId} {V:Prop} (hf:P.funcs[f]? =some fn)
  (hs:(decide (args.size<=pl.n)&&pl.boxes.all λp=>decide (args.size<=p.1))=true) (kX:YD fn=some (g0,cb)) (kO:Idle P g0) (px:El P pl fn R g0 cb [] RP) (hv:V=am9 P (ftL P pl fn) (noP R) (yp R RP) args w) (h:V):Calls P f args w R:=by
 subst hv;unfold am9 at h;simp only[aD,decide_eq_true_eq] at hs;split at h;case h_2=>exact h.elim
 rename_i ft hc;unfold ftL at hc;split at hc;case isFalse=>cases hc
 rename_i hn;have l9:fn.ntmps=pl.n:=by simpa using hn
 split at hc;case h_2=>cases hc
 rename_i _ c1 id1 pY rest Gm;split at hc;case h_2=>cases hc
 rename_i _ mk df ME;split at hc;case h_2=>cases hc
 rename_i _ _ _ _ _ _ g xn d' d UN SX hmg YY Zn RA Gl;split at hc;case h_2=>cases hc
 rename_i _ _ _ _ t1 kz t2 r nd Da jD nW IM;split at hc;case isFalse=>cases hc
 rename_i qf;simp only[aD,beq_iff_eq,cB,decide_eq_true_eq,iH,j9] at qf;obtain⟨⟨⟨⟨⟨KW,jz⟩,OQ⟩,aix⟩,tc⟩,wA⟩:=qf;subst KW;injection hc with hc
 subst hc;unfold YD at kX;rw[Gm] at kX;dsimp only at kX;rw[ME] at kX;dsimp only at kX;rw[SX] at kX;dsimp only at kX;rw[jD] at kX;simp only[aX,ah,cD] at kX;obtain⟨rfl,rfl⟩:=kX;obtain⟨Zo,aek⟩:=kO;have Zp:=aiw (w:=w) l9 hs.1 gQ;have ads: ∃c,fn.body=some c/\Dx c=some (c1,id1,pY,rest):=by
  unfold Zr at Gm;split at Gm
  ·rename_i c hb;exact⟨c,hb,Gm⟩
  ·cases Gm
 obtain⟨c,hb,aqJ⟩:=ads;refine calls_of_wp_defers hf hb ?_
 let K:=KE ⟨.seq t1 (.seq (.BV (kz.map .yS)) t2),r,nd⟩ (yp R RP)
 have h0:den P t1 (lR.Gj (λe w X=>den P (.seq (.BV (kz.map .yS)) t2) K e w X) (KE ⟨.seq t1 (.seq (.BV (kz.map .yS)) t2),r,nd⟩ (noP R))) (mG args) w (bV w):=h;refine aeo (P:=P) (pl:=pl) ?_ ?_ c c1 aqJ t1 (mG args) (bV w) w _ w Da Zp h0;case refine_2=>
  intro ex a w hex hq;cases ex with
  |normal=>exact absurd rfl hex
  |ret=>
   obtain⟨e,X',dZ,h5,h6⟩:=hq;have h6':jq (nd.all λb=>cU (e b)) (∀wa,Kp X' dZ wa->R (.returned (Se r e)) wa):=h6;obtain⟨h7,h8⟩:=di.1 h6'
   show Leaves P fn a.tmps R a.defers .returning w
   rw[h5.defers];exact⟨_,HP h5 IM (List.all_eq_true.1 h7),h8 w h5.ext⟩
  |panic ch=>obtain⟨_,e,X',dZ,h6,h7,_⟩:=hq;exact(h7 w h6).elim
  |exit i=>obtain⟨e,X',dZ,h5,h6⟩:=hq;exact h6.elim
  |goto i=>obtain⟨e,X',dZ,h5,h6⟩:=hq;exact h6.elim
  |outgrown=>exact hq.elim
 intro sR X1 GP a1 w1 aC hd0;have aqK:gP P (λch=>lR.Gj (λe w X=>den P t2 K e w X) K (.panic ch)) (λe w X=>den P t2 K e w X) (kz.map .yS) sR GP X1:=hd0;obtain⟨aqL,Uy⟩:=UO _ aqK;have mP: ∀b∈kz,(∃n,look pl.boxes b=some n)/\ ∃k,a1.tmps[b]? =some (dE k 0):=λb dU=>by
  obtain⟨n,hn⟩:=Option.isSome_iff_exists.1 (wA b dU).1;obtain⟨cells,qi⟩:=uj.1 (aqL b dU);obtain⟨k,ty,g1,_⟩:=aC.box b n hn cells qi;exact⟨⟨n,hn⟩,k,g1⟩
 obtain⟨ks,tf,AR⟩:=SV kz λb dU=>(mP b dU).2;have ael: ∀p,p∈kz.zip (ks.map λk=>dE k 0)->a1.tmps[p.1]? =some p.2/\((∃n k,look pl.boxes p.1=some n/\p.2=dE k 0)\/pl.jx p.1=true):=λp hp=>by
  obtain⟨i,g1,g2⟩:=EL hp;obtain⟨k,g3,g4⟩:=AR i p.1 g1;rw[cX,g3] at g2;simp only[aX,ah] at g2;obtain⟨⟨n,hn⟩,_⟩:=mP p.1 (aB g1);exact⟨by rw[<-g2];exact g4,.inl ⟨n,k,hn,g2.symm⟩⟩
 have aiy:ks.Nodup:=by
  refine UM λi j k hi hj=>?_;have mQ:i<kz.length:=by rw[<-tf];exact(List.getElem?_eq_some_iff.1 hi).1
  have Ec:j<kz.length:=by rw[<-tf];exact(List.getElem?_eq_some_iff.1 hj).1
  have gi:kz[i]? =some kz[i]:=aU mQ;have gj:kz[j]? =some kz[j]:=aU Ec;obtain⟨k1,e1,f1⟩:=AR i _ gi;obtain⟨k2,e2,f2⟩:=AR j _ gj;rw[hi] at e1;cases e1;rw[hj] at e2;cases e2;obtain⟨⟨m1,pr⟩,_⟩:=mP kz[i] (ry mQ);obtain⟨⟨m2,oV⟩,_⟩:=mP kz[j] (ry Ec);have:=aC.inj kz[i] kz[j] m1 m2 pr oV (aC.conv _ _ pr _ f1) (aC.conv _ _ oV _ f2) k f1 f2;exact(Bj (Hx tc)).1 this
 refine wp_seq (wp_region_list ?_);rw[ME];have C1:bU mk (yielded pY a1.tmps)=true:=by simp[bU,hmg]
 have RC:xn.map a1.eval=(ks.map λk=>dE k 0).toArray:=by
  apply tC;rw[lG,(Hw jD),bB];refine qs λi=>?_;rw[cX,cX];cases TE:kz[i]? with
  |none=>
   have:ks[i]? =none:=by rw[tX] at TE⊢;omega
   rw[this];rfl
  |some b=>
   obtain⟨k,g1,g2⟩:=AR i b TE;rw[g1];simp[lj,ja,g2]
 have RD:(execOp a1.eval mk).run P w1= .ok (.value (.func (.func g) #[] (ks.map λk=>dE k 0).toArray)) w1:=by
  rw[<-RC];simp[execOp,SX,ct]
 have aem: ∀b∈kz,b≠d':=λb dU e=>by
  obtain⟨⟨n,hn⟩,_⟩:=mP b dU;rw[e,OQ] at hn;cases hn
 clear RC;generalize hcg:(ks.map λk=>dE k 0).toArray=ez at RD;unfold wpList;rw[if_pos C1];left;unfold kC;rw[RD,B9,YY];have bm:=aC.aside (v:=.func (.func g) #[] ez) jz OQ aix;have KO:(a1.put (some d') (.func (.func g) #[] ez)).eval (.tmp d')= .func (.func g) #[] ez:=by
  have:d'<a1.tmps.size:=by rw[aC.size];exact jz
  simp[lj,Act.put,ja,this]
 have MF: ∀p,p∈kz.zip (ks.map λk=>dE k 0)->(a1.put (some d') (.func (.func g) #[] ez)).tmps[p.1]? =some p.2/\((∃n k,look pl.boxes p.1=some n/\p.2=dE k 0)\/pl.jx p.1=true):=λp hp=>by
  obtain⟨g1,g2⟩:=ael p hp;obtain⟨i,g3,_⟩:=EL hp;exact⟨by rw[fX _ _ _ _ (aem p.1 (aB g3))];exact g1,g2⟩
 generalize a1.put (some d') (.func (.func g) #[] ez)=a2 at bm KO MF;have nD:(execOp a2.eval df).run P w1= .ok (.defer { target:=.fn (.func g) ez,args:= #[] }) w1:=by
  simp[execOp,Zn,resolve,KO,ka]
 unfold wpList;have hw:bU df (yielded pY a2.tmps)=true:=by simp[bU,RA]
 rw[if_pos hw];left;unfold kC;rw[nD,wG,Gl]
 show rest.wp P (bodyPostD P fn R) { a2 with defers:= { target:=.fn (.func g) ez,args:= #[] } ::a2.defers } w1
 rw[bm.defers];have cV:fw pl ⟨[{ target:=.fn (.func g) ez,args:= #[] }],kz.zip (ks.map λk=>dE k 0)⟩ .start sR X1 GP { a2 with defers:=[{ target:=.fn (.func g) ez,args:= #[] }] } w1:=
  ⟨bm.size,rfl,MF,bm.ext,bm.wO,bm.qv,bm.sig,bm.box,bm.inj,bm.conv,bm.live,bm.ptr⟩
 have qh:=mc t2 (K':=λex e w' X'=>K ex e w' X'/\ ∀s,¬s∈t2.wr->e s=sR s) Uy λex e w' X' _ he hk=>⟨hk,he⟩;refine wp_mono (HN (pl:=pl) (ds:=⟨[{ target:=.fn (.func g) ez,args:= #[] }],kz.zip (ks.map λk=>dE k 0)⟩) rest t2 _ sR X1 GP _ w1 nW (λb dU p hp e=>?_) cV qh) λex a' w' hq=>?_
 ·obtain⟨i,g1,_⟩:=EL hp;have h1:=(wA p.1 (aB g1)).2;rw[e,yh.2 dU] at h1;cases h1
 have MG: ∀w',(invoke (.fn (.func g) ez) #[]).run P w'= .ok (.enter g ez) w':=λw'=>by
  simp only[invoke];have:=nZ Zo (#[]++ez) w';simpa using this
 have done:(∃env X w0,fw pl ⟨[{ target:=.fn (.func g) ez,args:= #[] }],kz.zip (ks.map λk=>dE k 0)⟩ .start env X w0 a' w'/\K .ret env w0 X/\ ∀s,¬s∈t2.wr->env s=sR s)->Leaves P fn a'.tmps R a'.defers .returning w':=by
  rintro⟨e,X',dZ,h5,h6,_⟩;have h6':jq (nd.all λb=>cU (e b)) (∀wa,Kp X' dZ wa->R (.returned (Se r e)) wa):=h6;obtain⟨h7,h8⟩:=di.1 h6';rw[h5.defers];refine leaves_cons sQ (f:=g) (args:=ez) (MG w') ?_;refine(aek ez w').mono ?_;rintro _ _ lC ⟨⟨x,rfl⟩,rfl,rfl⟩;exact⟨_,HP h5 IM (List.all_eq_true.1 h7),h8 lC h5.ext⟩
 cases ex with
 |normal=>exact done hq
 |ret=>exact done hq
 |panic ch=>
  obtain⟨h5,e,X',dZ,h6,⟨h7,he⟩,xv⟩:=hq
  show Leaves P fn a'.tmps R a'.defers (.panicking ch) w'
  rw[h5];refine leaves_cons sQ (f:=g) (args:=ez) (MG w') ?_;have mh: ∀(i:Nat) b k,kz[i]? =some b->ks[i]? =some k->a'.tmps[b]? =some (dE k 0)/\ ∃n cells ty,look pl.boxes b=some n/\e b= .agg cells/\w'.heap[k]? =some (.cells cells ty (0,0))/\cells.size=n/\ ¬X' k:=λi b k g1 g2=>
by
   obtain⟨q1,q2⟩:=xv.2 (b,dE k 0) (aB (i:=i) (by rw[oK];exact⟨g1,by rw[cX,g2];rfl⟩));refine⟨q1,?_⟩;rcases q2 with q2|⟨n,k',cells,ty,q3,q4⟩
   ·obtain⟨⟨n,hn⟩,_⟩:=mP b (aB g1);rw[(rC q2).2.1] at hn;cases hn
   ·have:k=k':=by simpa [dE] using q3
    subst this;exact⟨n,cells,ty,q4⟩
  have PB: ∀(i:Nat) b,kz[i]? =some b->cU (e b)=true:=λi b g1=>by
   obtain⟨k,g2,_⟩:=AR i b g1;obtain⟨_,_,cells,_,_,g4,_⟩:=mh i b k g1 g2;rw[g4];rfl
  have hkX: ∀k,k∈ks-> ¬X' k:=λk hm=>by
   obtain⟨i,g1⟩:=xY hm;have mQ:i<kz.length:=by rw[<-tf];exact(List.getElem?_eq_some_iff.1 g1).1
   obtain⟨_,_,_,_,_,_,_,_,g9⟩:=mh i _ k (aU mQ) g1;exact g9
  rw[<-hcg];refine(px ks (kz.map λb=>(e b).cells) ch w' tf sQ aiy (λi k cells g1 g2=>?_) (λi v cells g1 g2=>by simp at g1) (λi b n cells g1 g2 g3=>?_) λwa ho=>h7 wa (ho.kp h6 xv.1 hkX)).mono ?_
  ·rw[cX] at g2;obtain⟨b,g3,rfl⟩:=Option.map_eq_some_iff.1 g2;obtain⟨_,_,cells,ty,_,g4,g5,_⟩:=mh i b k g3 g1;rw[g4];exact⟨ty,g5⟩
  ·rw[cX,g1] at g3;simp only[aX,ah] at g3;obtain⟨k,g4,_⟩:=AR i b g1;obtain⟨_,n',xu,ty,q1,q2,q3,q4,_⟩:=mh i b k g1 g4;rw[g2] at q1;cases q1;rw[<-g3,q2];exact q4
  ·rintro e' u lC ⟨⟨x,rfl⟩,Fj,v,hR,aen⟩
   show Leaves P fn a'.tmps R [] (settle u) lC
   rw[Fj];exact⟨v,aen a'.tmps λi b k g1 g2=>(mh i b k g1 g2).1,hR⟩
 |exit i=>obtain⟨e,X',dZ,h5,h6,_⟩:=hq;exact h6.elim
 |goto i=>obtain⟨e,X',dZ,h5,h6,_⟩:=hq;exact h6.elim
 |outgrown=>exact hq.elim
theorem abw {v:Value} (h:aG.fin R X w v):aG.fin (noP R) X w v:=λwa hk=>h wa hk
end Go.aG
set_option linter.unusedVariables false
set_option linter.unusedSimpArgs false
namespace Go.aG
variable {P : Program} {R : Ending -> World -> Prop} {X : XS} {w : World} {m : Bool} {t : TypeId}
variable {N : Value -> World -> XS -> Prop}
theorem ag4 {z:Value} (hX: ∀k,X k->k<w.heap.size) (hz:(P.info? t).bind (·.zero)=some z) (ho:one z=true)
  (n: ∀b w' X',w.heap.size<=b->aj X w X' w'->aK w' X' b [z] t->N (ptr b 0) w' X'):eV P R X w m (fY t true (.tuple #[])) N:=by
 intro wa hk;unfold jV;have XJ: ∀w,(zeroValue t).run P w= .ok z w:=by
  intro w;cases hi:P.info? t with
  |none=>grind
  |some inf=>
   have xt:inf.zero=some z:=by simpa [hi] using hz
   simp[zeroValue,typeInfo,hi,xt]
 have hc:z.cells= #[z]:=td ho;have hr:(fY t true (.tuple #[])).run P wa= .ok (ptr wa.heap.size 0) (wa.alloc (.cells [z].toArray t)):=by simp[fY,XJ,newVar,newRow,hc]
 simp only[vS,bh,hr,aO,bK];have hx:Ext wa (wa.alloc (.cells [z].toArray t)):=Ext.alloc _ _;exact⟨Step.fc hx,n _ _ _ hk.size (aj.fc hX hk hx) ⟨.inr ⟨aq _,by simp⟩,by simpa using heap_alloc_new wa _⟩⟩
structure qm where
 p:World->XS->XS->Prop
 mv: ∀{w w':World} {K K' A A':XS},p w K A->Mv K w K' w'->Mv A w A' w'->p w' K' A'
abbrev FP:=Nat->Nat
def bR (own:FP) (c:Nat):XS:=λk=>own k=c
def gB (own:FP):XS:=λk=>own k≠0/\own k≠4
def Cr (own aH:FP) (n0:Nat):Prop:= ∀k,k<n0->(own k=0->aH k=0)/\(own k=4->aH k=4)
theorem Cr.refl (own:FP) (n0:Nat):Cr own own n0:=λ_ _=>⟨id,id⟩
structure Hs (F:Nat->qm) (w:World) (own:FP):Prop where
 gA: ∀c,c≠0->c≠4->(F c).p w (bR own 4) (bR own c)
 lt: ∀k,own k≠0->k<w.heap.size
structure St (w0:World) (bM:FP) (w:World) (X:XS) (own:FP) (F:Nat->qm):Prop where
 t:Ft w0 (gB bM) w X (gB own)
 h:Hs F w own
 x: ∀k,own k≠0->X k
 e:Cr bM own w0.heap.size
def NQ {σ:Type} (ea:σ->Nat->qm) (own:FP) (wa w':World) (P:FP->σ->Prop):Prop:= ∃aH n',Cr own aH wa.heap.size/\Hs (ea n') w' aH/\P aH n'
def Q8:qm:=⟨λ_ _ _=>True,λ_ _ _=>trivial⟩
def puR (q:Prop):qm:=⟨λ_ _ _=>q,λh _ _=>h⟩
def Yl (b:Nat) (cs:List Value) (t:TypeId):qm:=⟨λw _ A=>aK w A b cs t,λh _ m=>h.mv m⟩
def Zs (e k:Nat) (v:Value) (rows:List (List Value)):qm:=⟨λw _ A=>Own w A 0 e k v rows,λh _ m=>h.mv m⟩
def Dm (q:Prop) (r:qm):qm:=⟨λw K A=>q->r.p w K A,λh m m' hq=>r.mv (h hq) m m'⟩
variable {b e f kk o o' ty : Nat} {w : World} {X : XS} {P : Program} {R : Ending -> World -> Prop} {cs : List Value} {rows NC dw : List (List Value)} {sv v' : Value} {args : Array Value}
section
theorem tq {N:Value->Prop} {S fo sz:Nat} (hf:fieldInfo P S f=some (fo,sz)) (hz:(sz !=0)=true) (k:N (ptr b (o+fo))):aZ P X w (ji S f fo sz (ptr b o)) N:=by
 unfold ji;exact Ho hf (by simpa using hz) k
variable {w' wa w0 : World} {X' G N A' : XS} {own aH bM : FP} {F F' : Nat -> qm} {σ : Type} {ea : σ -> Nat -> qm} {n : σ} {i j : Nat}
theorem Hs.mv (h:Hs F w own) (hb: ∀k,own k≠0->w'.heap[k]? =w.heap[k]?) (hz:w.heap.size<=w'.heap.size):Hs F w' own:=
 ⟨λc h0 h4=>(F c).mv (h.gA c h0 h4) (λk (e:own k=4) _=>⟨e,hb k zQ⟩) λk (e:own k=c) _=>⟨e,hb k zQ⟩,λk hk=>av (h.lt k hk) hz⟩
theorem Hs.kp (h:Hs F w own) (hX: ∀k,own k≠0->X k) (hk:Kp X w wa):Hs F wa own:=h.mv (λk af=>hk.block k (hX k af)) hk.size
theorem Hs.to (h:Hs F w own) (hf: ∀c,c≠0->c≠4-> ∀w K A,(F c).p w K A->(F' c).p w K A):Hs F' w own:=⟨λc h0 h4=>hf c h0 h4 _ _ _ (h.gA c h0 h4),h.lt⟩
theorem Hs.one (h:Hs F w own) (j:Nat) (hz:w.heap.size<=w'.heap.size) (hb: ∀k,own k≠0->own k≠j->w'.heap[k]? =w.heap[k]?) (hR:(F' j).p w' (bR own 4) (bR own j)) (hn: ∀c,c≠j-> ∀w K A,(F c).p w K A->(F' c).p w K A) (h4:j≠4:=by decide):Hs F' w' own:=by
 refine⟨λc c0 c4=>?_,λk hk=>av (h.lt k hk) hz⟩;by_cases e:c=j
 ·subst e;exact hR
 ·exact hn c e _ _ _ ((F c).mv (h.gA c c0 c4) (λk (e4:own k=4) _=>⟨e4,hb k zQ zQ⟩) λk (e':own k=c) _=>⟨e',hb k zQ zQ⟩)
theorem St.init (h:Hs F w own) (hX: ∀k,own k≠0->X k) (hk:Kp X w wa):St wa own wa (bV wa) own F:=
 have h':=h.kp hX hk
 ⟨Ft.init λk af=>h'.lt k af.1,h',λk af=>h'.lt k af,Cr.refl _ _⟩
theorem St.has (s:St w0 bM w X own F): ∀k,X k->k<w.heap.size:=s.t.s.has
theorem St.rf (s:St w0 bM w X own F):aj X w X w:=⟨Kp.refl _ _,λ_ h=>h,s.has⟩
theorem St.since (s:St w0 bM w X own F) (hs:aj X w X' w'):St w0 bM w' X' own F:=
 ⟨s.t.since hs,s.h.mv (λk hk=>hs.kp.block k (s.x k hk)) hs.kp.size,λk hk=>hs.sub k (s.x k hk),s.e⟩
theorem St.to (s:St w0 bM w X own F) (hf: ∀c,c≠0->c≠4-> ∀w K A,(F c).p w K A->(F' c).p w K A):St w0 bM w X own F':=⟨s.t,s.h.to hf,s.x,s.e⟩
theorem St.get (s:St w0 bM w X own F) (c:Nat) (h0:c≠0:=by decide) (h4:c≠4:=by decide):(F c).p w (bR own 4) (bR own c):=s.h.gA c h0 h4
theorem St.sub (s:St w0 bM w X own F) (c:Nat) (h0:c≠0:=by decide): ∀k,bR own c k->X k:=λk (e:own k=c)=>s.x k zQ
theorem St.zO (s:St w0 bM w X own F) (c:Nat) (h0:c≠0:=by decide) (h4:c≠4:=by decide):(F c).p w X X:=(F c).mv (s.h.gA c h0 h4) (Mv.sub (s.sub 4)) (Mv.sub (s.sub c h0))
theorem St.fx (s:St w0 bM w X own F):(∀k,gB own k->X k/\k<w.heap.size):=λk hk=>⟨s.x k hk.1,s.h.lt k hk.1⟩
theorem St.fxc (s:St w0 bM w X own F) (c:Nat) (h0:c≠0:=by decide): ∀k,bR own c k->X k/\k<w.heap.size:=λk (e:own k=c)=>⟨s.x k zQ,s.h.lt k zQ⟩
theorem St.nw (s:St w0 bM w X own F) {k:Nat} (hk:w.heap.size<=k):own k=0/\w0.heap.size<=k:=
 ⟨Classical.byContradiction λe=>by have:=s.h.lt k e;omega,ad s.t.s.kp.size hk⟩
theorem St.jY (s:St w0 bM w X own F) (c:eh G X w X' w') (S:Nat->Prop) (hG: ∀k,G k->S (own k)) (h0: ¬S 0) (h4: ¬S 4) (hN: ∀k,N k->X' k/\own k=0/\w0.heap.size<=k)
  (hj:j≠0) (hS: ∀aH,(∀k,own k≠0->aH k=own k)->(∀k,N k->aH k=j)->Mv (bR own 4) w (bR aH 4) w'-> ∀c,S c->(F' c).p w' (bR aH 4) (bR aH c))
  (hn: ∀c,¬S c-> ∀K A,Mv (bR own 4) w K w'->(F c).p w' K A->(F' c).p w' K A): ∃aH,St w0 bM w' X' aH F'/\Mv (bR own 4) w (bR aH 4) w'/\(∀k,¬N k->aH k=own k)/\ ∀k,N k->aH k=j:=by
 classical
 obtain⟨q,hq⟩: ∃q:FP,q=λk=>if N k then j else own k:=⟨_,rfl⟩
 have e1: ∀k,N k->q k=j:=λk hk=>by rw[hq];exact if_pos hk
 have e2: ∀k,¬N k->q k=own k:=λk hk=>by rw[hq];exact if_neg hk
 have e3: ∀k,own k≠0->q k=own k:=λk hk=>e2 k λhn=>hk (hN k hn).2.1;have hx: ∀k,q k≠0->X' k:=λk hk=>by
  by_cases e:N k
  ·exact(hN k e).1
  ·rw[e2 k e] at hk;exact c.sub k (s.x k hk)
 have mv: ∀d,d≠0-> ¬S d->Mv (bR own d) w (bR q d) w':=λd hd hS k (hk:own k=d) _=>⟨(e3 k zQ).trans hk,c.block k (s.x k zQ) λhg=>hS (hk▸hG k hg)⟩;have m4:=mv 4 dQ h4;refine⟨q,⟨(s.t.eo (F':=gB own) c (λk hk=>⟨λe=>h0 (e▸hG k hk),λe=>h4 (e▸hG k hk)⟩) λ_ h=>.inl h).more λk hk=>?_,⟨λd d0 d4=>?_,λk hk=>?_⟩,hx,λk hk=>?_⟩,m4,e2,e1⟩
 ·by_cases e:N k
  ·exact .inr ⟨(hN k e).1,(hN k e).2.2⟩
  ·exact .inl ⟨by rw[<-e2 k e];exact hk.1,by rw[<-e2 k e];exact hk.2⟩
 ·by_cases hd:S d
  ·exact hS q e3 e1 m4 d hd
  ·exact hn d hd _ _ m4 ((F d).mv (s.h.gA d d0 d4) m4 (mv d d0 hd))
 ·exact c.has k (hx k hk)
 ·rw[e2 k λhn=>by have:=(hN k hn).2.2;omega];exact s.e k hk
theorem St.vB (s:St w0 bM w X own F) (hN: ∀k,N k->X k/\own k=0/\w0.heap.size<=k): ∃aH,St w0 bM w X aH F/\Mv (bR own 4) w (bR aH 4) w/\(∀k,¬N k->aH k=own k)/\ ∀k,N k->aH k=4:=
 s.jY (eh.oh s.rf nX) (λ_=>False) (λ_ h=>h) id id hN dQ (λ_ _ _ _ _ h=>h.elim) λ_ _ _ _ _ h=>h
theorem St.loc (s:St w0 bM w X own F) (c:eh G X w X' w') (hG: ∀k,G k->own k=0/\w0.heap.size<=k):St w0 bM w' X' own F:=by
 have h0: ∀k,own k≠0->w'.heap[k]? =w.heap[k]? :=λk hk=>c.block k (s.x k hk) λhg=>hk (hG k hg).1;exact⟨⟨s.t.s.eo c λk h h'=>by have:=(hG k h').2;have:=h.1;omega,λk hk=>c.sub k (s.t.br k hk),s.t.v⟩,s.h.mv h0 c.size,λk hk=>c.sub k (s.x k hk),s.e⟩
theorem St.DI (s:St w0 bM w X own F) (j:Nat) (c:eh G X w X' w') (hG: ∀k,G k->own k=j) (A':XS) (hA: ∀k,A' k->own k=j\/(X' k/\w.heap.size<=k)) (hR: ∀K,Mv (bR own 4) w K w'->(F' j).p w' K A')
  (hn: ∀c,c≠j-> ∀w' K A,(F c).p w' K A->(F' c).p w' K A) (h0:j≠0:=by omega) (h4:j≠4:=by omega): ∃aH,St w0 bM w' X' aH F'/\Mv (bR own 4) w (bR aH 4) w':=by
 obtain⟨aH,s',m,_⟩:=s.jY (F':=F') (j:=j) (N:=λk=>A' k/\own k≠j) c (· =j) hG h0.symm h4.symm (λk ⟨hk,hn⟩=>(hA k hk).elim (λe=>absurd e hn) λe=>⟨e.1,s.nw e.2⟩) h0
  (λaH e1 e2 m d hd=>by
   subst hd;exact(F' d).mv (hR _ m) (Mv.sub λ_ h=>h) (Mv.sub λk hk=>by
    by_cases e:own k=d
    ·exact(e1 k zQ).trans e
    ·exact e2 k ⟨hk,e⟩)) λc hc K A _=>hn c hc _ K A
 exact⟨aH,s',m⟩
theorem St.st {t:Nat} {v:Value} {N:Value->World->XS->Prop} (s:St w0 bM w X own F) (i:Nat) (hr:aK w (bR own i) b cs ty) (F':Nat->qm) (MC:o'=o) (ht:(P.info? t).map (·.size)=some 1) (hl:o<cs.length) (h1:one v=true)
  (hR: ∀w' K A,aK w' A b (cY cs o [v]) ty->(F' i).p w' K A) (hn: ∀c,c≠i-> ∀w' K A,(F c).p w' K A->(F' c).p w' K A)
  (k: ∀w' X' aH,St w0 bM w' X' aH F'->Mv (bR own 4) w (bR aH 4) w'->N undef w' X') (h0:i≠0:=by omega) (h4:i≠4:=by omega):eU P R X w true (st1 t 1 (ptr b o') v) N:=
 qj (o:=o) (hr.mono (s.sub i h0)) MC ht hl h1 s.has λw' X' c jZ=>by
  obtain⟨aH,s',m⟩:=s.DI (F':=F') i c (λk e=>by rw[show k=b from e];exact hr.1) (· =b) (λk e=>.inl (by rw[show k=b from e];exact hr.1)) (λK _=>hR w' K _ ⟨rfl,jZ.2⟩) hn h0 h4;exact k w' X' aH s' m
theorem St.stN {t sz:Nat} {v:Value} {N:Value->World->XS->Prop} (s:St w0 bM w X own F) (i:Nat) (hr:aK w (bR own i) b cs ty) (F':Nat->qm) (MC:o'=o) (ht:(P.info? t).map (·.size)=some sz) (hl:o+sz<=cs.length) (hv:v.cells.size=sz) (h1:v.cells.toList.all one=true)
  (hR: ∀w' K A,aK w' A b (cY cs o v.cells.toList) ty->(F' i).p w' K A) (hn: ∀c,c≠i-> ∀w' K A,(F c).p w' K A->(F' c).p w' K A)
  (k: ∀w' X' aH,St w0 bM w' X' aH F'->Mv (bR own 4) w (bR aH 4) w'->N undef w' X') (h0:i≠0:=by omega) (h4:i≠4:=by omega):eU P R X w true (st1 t sz (ptr b o') v) N:=
 Gy (o:=o) (hr.mono (s.sub i h0)) MC ht hl hv h1 s.has λw' X' c jZ=>by
  obtain⟨aH,s',m⟩:=s.DI (F':=F') i c (λk e=>by rw[show k=b from e];exact hr.1) (· =b) (λk e=>.inl (by rw[show k=b from e];exact hr.1)) (λK _=>hR w' K _ ⟨rfl,jZ.2⟩) hn h0 h4;exact k w' X' aH s' m
theorem St.Xx (s:St w0 bM w X own F) (S:Nat->Prop) (h0: ¬S 0) (hR: ∀c,S c-> ∀w K,(F' c).p w K λ_=>False) (hn: ∀c,¬S c-> ∀K A,(∀k,S (own k)->K k)->(F c).p w K A->(F' c).p w K A):
  ∃aH,St w0 bM w X aH F'/\Mv (bR own 4) w (bR aH 4) w/\(∀k,S (own k)->aH k=4)/\ ∀k,¬S (own k)->aH k=own k:=by
 classical
 obtain⟨q,hq⟩: ∃q:FP,q=λk=>if S (own k)then 4 else own k:=⟨_,rfl⟩
 have e1: ∀k,S (own k)->q k=4:=λk hk=>by rw[hq];exact if_pos hk
 have e2: ∀k,¬S (own k)->q k=own k:=λk hk=>by rw[hq];exact if_neg hk
 have en: ∀k,q k≠0->own k≠0:=λk hk e=>by
  by_cases h:S (own k)
  ·exact h0 (e▸h)
  ·exact hk ((e2 k h).trans e)
 have e4: ∀k,own k=4->q k=4:=λk hk=>by
  by_cases h:S (own k)
  ·exact e1 k h
  ·exact(e2 k h).trans hk
 refine⟨q,⟨s.t.less λk hk=>⟨en k hk.1,λe=>hk.2 (e4 k e)⟩,⟨λc c0 c4=>?_,λk hk=>s.h.lt k (en k hk)⟩,λk hk=>s.x k (en k hk),λk hk=>⟨λe=>?_,λe=>e4 k ((s.e k hk).2 e)⟩⟩,Mv.sub e4,e1,e2⟩
 ·by_cases h:S c
  ·exact(F' c).mv (hR c h w _) (Mv.sub λ_ h=>h) (Mv.sub λ_ h=>h.elim)
  ·exact hn c h _ _ e1 ((F c).mv (s.h.gA c c0 c4) (Mv.sub e4) (Mv.sub λk (e:own k=c)=>(e2 k (by rw[e];exact h)).trans e))
 ·have h:=(s.e k hk).1 e;exact(e2 k λh'=>h0 (h▸h')).trans h
theorem St.fs {k':Nat} {ty:TypeId} {v:Value} (s:St w0 bM w X own F) (i j q:Nat) (c:eh G X w X' w') (hG: ∀k,G k->k=b\/v.ownBlock=some k) (hb:own b=i) (hv: ∀g,v.ownBlock=some g->own g=j)
  (hr:aK w' X' b cs ty) (ho:Own w' X' 0 e k' v' NC) (dB:v'.ownBlock=v.ownBlock\/ ∃g,v'.ownBlock=some g/\w.heap.size<=g) (F':Nat->qm)
  (hR: ∀K A,aK w' A b cs ty->(F' i).p w' K A) (hO: ∀K A,Own w' A 0 e k' v' NC->(F' j).p w' K A) (hQ: ∀K A,Mv (bR own 4) w K w'->(F q).p w' K A->(F' q).p w' K A)
  (hn: ∀c,(c≠i/\c≠j/\c≠q)-> ∀w' K A,(F c).p w' K A->(F' c).p w' K A) (hi:i≠0/\i≠4:=by omega) (hj:j≠0/\j≠4:=by omega):
  ∃aH,St w0 bM w' X' aH F'/\Mv (bR own 4) w (bR aH 4) w':=by
 obtain⟨aH,s',m,_⟩:=s.jY (F':=F') (j:=j) (N:=λk=>v'.ownBlock=some k/\w.heap.size<=k) c (λc=>c=i\/c=j) (λk hk=>(hG k hk).imp (λe=>by rw[e];exact hb) (hv k))
  (λh=>h.elim (λe=>hi.1 e.symm) λe=>hj.1 e.symm) (λh=>h.elim (λe=>hi.2 e.symm) λe=>hj.2 e.symm) (λk hk=>⟨ho.2.2 k hk.1,s.nw hk.2⟩) hj.1
  (λaH e1 e2 m c hc=>by
   have Qf:aH b=i:=(e1 b (by rw[hb];exact hi.1)).trans hb;have hvj: ∀g,v'.ownBlock=some g->aH g=j:=λg hg=>by
    rcases dB with h|⟨g',h,hl⟩
    ·have:=hv g (h▸hg);exact(e1 g (by rw[this];exact hj.1)).trans this
    ·exact e2 g ⟨hg,by rw[h] at hg;cases hg;exact hl⟩
   by_cases CT:c=i
   ·subst CT;exact hR _ _ ⟨Qf,hr.2⟩
   ·have:c=j:=hc.elim (λe=>absurd e CT) id;subst this;exact hO _ _ ⟨ho.1,ho.2.1,hvj⟩) λc hc K A m h=>by
   by_cases hq:c=q
   ·subst hq;exact hQ K A m h
   ·exact hn c ⟨λe=>hc (.inl e),λe=>hc (.inr e),hq⟩ _ _ _ h
 exact⟨aH,s',m⟩
theorem St.back {T:Nat} {v:Value} {w1:World} {X1:XS} {N:World->XS->Prop} (s:St w0 bM w X own F) (i j q:Nat) (hr:aK w (bR own i) b cs ty) (hv: ∀g,v.ownBlock=some g->own g=j) (c:eh (ga v) X w X1 w1)
  (ho:Own w1 X1 0 e kk v' NC) (dB:v'.ownBlock=v.ownBlock\/ ∃g,v'.ownBlock=some g/\w.heap.size<=g) (ht:(P.info? T).map (·.size)=some 1) (hl:o<cs.length) (F':Nat->qm)
  (hR: ∀w' K A,aK w' A b (cY cs o [v']) ty->(F' i).p w' K A) (hO: ∀w' K A,Own w' A 0 e kk v' NC->(F' j).p w' K A) (hQ: ∀w' K A,Mv (bR own 4) w K w'->(F q).p w' K A->(F' q).p w' K A)
  (hn: ∀c,(c≠i/\c≠j/\c≠q)-> ∀w' K A,(F c).p w' K A->(F' c).p w' K A) (k: ∀w' X' aH,St w0 bM w' X' aH F'->Mv (bR own 4) w (bR aH 4) w'->N w' X') (yI:i≠j/\i≠0/\i≠4/\j≠0/\j≠4:=by omega):
  eU P R X1 w1 true (st1 T 1 (ptr b o) v') λ_ w' X'=>N w' X':=by
 have hb: ∀g,v'.ownBlock=some g->g≠b:=λg hg e=>by
  have hl:=hr.lt;have pz:own b=i:=hr.1;rcases dB with h|⟨g',h,AU⟩
  ·have:=hv g (h▸hg);rw[e] at this;omega
  ·rw[h] at hg;cases hg;omega
 have hX:X b:=s.x b (by rw[show own b=i from hr.1];omega);have vT: ¬ga v b:=λhg=>by have:=hv b hg;have:own b=i:=hr.1;omega
 refine qj (o:=o) (cs:=cs) (ty:=ty) ⟨c.sub b hX,(c.block b hX vT).trans hr.2⟩ rfl ht hl ho.sl.one c.has λw' X' c' jZ=>?_;obtain⟨aH,s',m⟩:=s.fs (F':=F') i j q (G:=λk=>k=b\/v.ownBlock=some k) ((c.mono λk _ e=>.inr e).trans (c'.mono λk _ e=>.inl e)) (λ_ h=>h) hr.1 hv jZ (ho.eo c' λg hg e=>hb g hg e) dB
  (λK A=>hR w' K A) (λK A=>hO w' K A) (λK A=>hQ w' K A) hn ⟨yI.2.1,yI.2.2.1⟩ yI.2.2.2
 exact k w' X' aH s' m
theorem St.ap1 {t T bytes:Nat} {v:Value} {N:World->XS->Prop} (s:St w0 bM w X own F) (i j q:Nat) (hr:aK w (bR own i) b cs ty) (ux:Own w (bR own j) 0 e kk v rows) (src:Sl w X kk sv dw) (h1: ∀r∈dw,∀u∈r,one u=true) (hb:rows.length+dw.length<=2^36)
  (F':Value->Nat->qm) (hR: ∀v' w' K A,aK w' A b (cY cs o [v']) ty->(F' v' i).p w' K A) (hO: ∀v' w' K A,Own w' A 0 e kk v' (rows++dw)->(F' v' j).p w' K A) (hQ: ∀v' w' K A,Mv (bR own 4) w K w'->(F q).p w' K A->(F' v' q).p w' K A)
  (hn: ∀v' c,(c≠i/\c≠j/\c≠q)-> ∀w' K A,(F c).p w' K A->(F' v' c).p w' K A) (k: ∀v' w' X' aH,St w0 bM w' X' aH (F' v')->Mv (bR own 4) w (bR aH 4) w'->N w' X')
  (he:mz P T e kk bytes=true:=by kernel_rfl) (hf:fieldInfo P t f=some (o,1):=by kernel_rfl) (ht:(P.info? T).map (·.size)=some 1:=by kernel_rfl) (GB:bytes<=2^10:=by decide) (hl:o<cs.length:=by exact Nat.le_of_ble_eq_true rfl) (yI:i≠j/\i≠0/\i≠4/\j≠0/\j≠4:=by omega):
  eV P R X w true (pI T e kk bytes T v sv) λx w' X'=>nO P X' w' (bq (ptr b 0)) λx1=>aZ P X' w' (ji t f o 1 x1) λx2=>eU P R X' w' true (st1 T 1 x2 x) λ_ w' X'=>N w' X':=
 Ip (ux.mono (s.sub j zQ)) s.has (au _) he src h1 (ad (xX hb GB) dQ) zQ λv' w1 X1 c ho dB=>Ji (tq hf rfl (by
  rw[fg];exact s.back i j q hr (λg hg=>ux.2.2 g hg) c ho dB ht hl (F' v') (hR v') (hO v') (hQ v') (hn v') (k v') yI))
theorem St.ap2 {t z t2 f2 o2 T bytes:Nat} {v:Value} {N:World->XS->Prop} (s:St w0 bM w X own F) (i j q:Nat) (hr:aK w (bR own i) b cs ty) (ux:Own w (bR own j) 0 e kk v rows) (src:Sl w X kk sv dw) (h1: ∀r∈dw,∀u∈r,one u=true) (hb:rows.length+dw.length<=2^36)
  (F':Value->Nat->qm) (hR: ∀v' w' K A,aK w' A b (cY cs (o+o2) [v']) ty->(F' v' i).p w' K A) (hO: ∀v' w' K A,Own w' A 0 e kk v' (rows++dw)->(F' v' j).p w' K A) (hQ: ∀v' w' K A,Mv (bR own 4) w K w'->(F q).p w' K A->(F' v' q).p w' K A)
  (hn: ∀v' c,(c≠i/\c≠j/\c≠q)-> ∀w' K A,(F c).p w' K A->(F' v' c).p w' K A) (k: ∀v' w' X' aH,St w0 bM w' X' aH (F' v')->Mv (bR own 4) w (bR aH 4) w'->N w' X')
  (he:mz P T e kk bytes=true:=by kernel_rfl) (hf:fieldInfo P t f=some (o,z):=by kernel_rfl) (hz:(z !=0)=true:=by rfl) (Qw:fieldInfo P t2 f2=some (o2,1):=by kernel_rfl) (ht:(P.info? T).map (·.size)=some 1:=by kernel_rfl) (GB:bytes<=2^10:=by decide) (hl:o+o2<cs.length:=by exact Nat.le_of_ble_eq_true rfl) (yI:i≠j/\i≠0/\i≠4/\j≠0/\j≠4:=by omega):
  eV P R X w true (pI T e kk bytes T v sv) λx w' X'=>nO P X' w' (bq (ptr b 0)) λx1=>aZ P X' w' (ji t f o z x1) λx2=>aZ P X' w' (ji t2 f2 o2 1 x2) λx3=>eU P R X' w' true (st1 T 1 x3 x) λ_ w' X'=>N w' X':=
 Ip (ux.mono (s.sub j zQ)) s.has (au _) he src h1 (ad (xX hb GB) dQ) zQ λv' w1 X1 c ho dB=>Ji (tq hf hz (tq Qw rfl (by
  rw[fg];exact s.back i j q hr (λg hg=>ux.2.2 g hg) c ho dB ht hl (F' v') (hR v') (hO v') (hQ v') (hn v') (k v') yI)))
theorem St.aho {t fi T:Nat} {v:Value} {N:World->XS->Prop} {f:FuncId} (s:St w0 bM w X own F) (i j q:Nat) (hr:aK w (bR own i) b cs ty) (ux:Own w (bR own j) 0 e kk v rows)
  (hc:Ct P f args w X (ga v) λv' _ w'=>Own w' (ga v) 0 e kk v' NC/\v'.ownBlock=v.ownBlock) (F':Value->Nat->qm) (hR: ∀v' w' K A,aK w' A b (cY cs o [v']) ty->(F' v' i).p w' K A) (hO: ∀v' w' K A,Own w' A 0 e kk v' NC->(F' v' j).p w' K A) (hQ: ∀v' w' K A,Mv (bR own 4) w K w'->(F q).p w' K A->(F' v' q).p w' K A)
  (hn: ∀v' c,(c≠i/\c≠j/\c≠q)-> ∀w' K A,(F c).p w' K A->(F' v' c).p w' K A) (k: ∀v' w' X' aH,St w0 bM w' X' aH (F' v')->Mv (bR own 4) w (bR aH 4) w'->N w' X')
  (he:enters P f=true:=by kernel_rfl) (hf:fieldInfo P t fi=some (o,1):=by kernel_rfl) (ht:(P.info? T).map (·.size)=some 1:=by kernel_rfl) (hl:o<cs.length:=by exact Nat.le_of_ble_eq_true rfl) (yI:i≠j/\i≠0/\i≠4/\j≠0/\j≠4:=by omega):
  eC P R X w true f args λx w' X'=>nO P X' w' (bq (ptr b 0)) λx1=>aZ P X' w' (ji t fi o 1 x1) λx2=>eU P R X' w' true (st1 T 1 x2 x) λ_ w' X'=>N w' X':=
 yV hc he s.has (λk hk=>s.sub j zQ k (ux.2.2 k hk)) λv' wa w1 X1 ⟨ho,dB⟩ _ _ _ c=>Ji (tq hf rfl (by
  rw[fg];exact s.back i j q hr (λg hg=>ux.2.2 g hg) c (ho.mono λk hk=>c.sub k (s.sub j zQ k (ux.2.2 k hk))) (.inl dB) ht hl (F' v') (hR v') (hO v') (hQ v') (hn v') (k v') yI))
theorem St.next (s:St w0 bM w X own F) (c:eh G X w X' w') (hG: ∀k,G k->gB own k) (h':Hs F' w' aH) (e:Cr own aH w.heap.size) (hx: ∀k,aH k≠0->w.heap.size<=k->X' k):St w0 bM w' X' aH F':=by
 have AO: ∀k,aH k≠0->X' k:=λk hk=>by
  by_cases hl:k<w.heap.size
  ·exact c.sub k (s.x k λe0=>hk ((e k hl).1 e0))
  grind
 refine⟨s.t.eo c hG λk hk=>?_,h',AO,λk hk=>?_⟩
 ·by_cases hl:k<w.heap.size
  ·exact .inl ⟨λe0=>hk.1 ((e k hl).1 e0),λe0=>hk.2 ((e k hl).2 e0)⟩
  ·exact .inr ⟨AO k hk.1,by omega⟩
 ·have h1:=s.e k hk;have h2:=e k (av hk s.t.s.kp.size)
  grind
theorem St.m4 (s:St w0 bM w X own F) (c:eh G X w X' w') (hG: ∀k,G k->gB own k) (e:Cr own aH w.heap.size):Mv (bR own 4) w (bR aH 4) w':=λk (hk:own k=4) hl=>⟨(e k hl).2 hk,c.block k (s.x k zQ) λh=>(hG k h).2 hk⟩
variable {f : FuncId}
theorem St.Yj {n':σ} (s:St w0 bM w X own F) (hle:w.heap.size<=wa.heap.size) (gy: ∀k,made wa w' k->X' k) (c:eh (gB own) X w X' w') (e:Cr own aH wa.heap.size) (h':Hs (ea n') w' aH):St w0 bM w' X' aH (ea n')/\Mv (bR own 4) w (bR aH 4) w':=
 ⟨s.next c (λ_ h=>h) h' (λk hk=>e k (av hk hle)) λk hk hl=>by
   by_cases AU:k<wa.heap.size
   ·exact absurd ((e k AU).1 (s.nw hl).1) hk
   ·exact gy k ⟨by omega,h'.lt k hk⟩,s.m4 c (λ_ h=>h) λk hk=>e k (av hk hle)⟩
theorem St.call {N:Value->World->XS->Prop} {Q:Value->World->FP->σ->Prop} (s:St w0 bM w X own F) (h:Ct P f args w X (gB own) λv wa w'=>NQ ea own wa w' (Q v w')) (hf:enters P f=true)
  (k: ∀v w' X' aH n',St w0 bM w' X' aH (ea n')->Q v w' aH n'->Mv (bR own 4) w (bR aH 4) w'->N v w' X'):eC P R X w true f args N:=
 s.t.call h hf (λ_ h=>h) λv wa w' X' ⟨aH,n',e,h',q⟩ hle gy _ c=>k v w' X' aH n' (s.Yj hle gy c e h').1 q (s.Yj hle gy c e h').2
theorem St.fin {v:Value} {Q:Value->World->FP->σ->Prop} (s:St w0 bM w X own (ea n)) (hq: ∀wa,Kp X w wa->Q v wa own n):aG.fin (vR (gB bM) w0 λv w'=>NQ ea bM w0 w' (Q v w')) X w v:=
 s.t.fin λwa hk=>⟨own,n,s.e,s.h.kp s.x hk,hq wa hk⟩
theorem St.xy {v:Value} {Q:Value->World->FP->σ->Prop} {QP:List PanicEntry->World->Prop} (s:St w0 bM w X own (ea n)) (hq: ∀wa,Kp X w wa->Q v wa own n):aG.fin (Fx (gB bM) w0 (λv w'=>NQ ea bM w0 w' (Q v w')) QP) X w v:=
 s.t.xy λwa hk=>⟨own,n,s.e,s.h.kp s.x hk,hq wa hk⟩
end
end Go.aG
set_option linter.unusedVariables false
set_option linter.unusedSimpArgs false
namespace Go.aG
variable {P : Program} {R : Ending -> World -> Prop} {X : XS} {w : World} {m : Bool}
variable {N : Value -> Prop} {i : Nat} {s : ByteArray} {t : TypeId}
theorem alD {z:Int} (hz:z=i) (hi:i<=s.size) (ht:P.underlying t=some .string) (k:N (.string (s.extract 0 i))):
  aZ P X w (bG t (.string s) none (some (.int .i64 z)) none) N:=by
 subst hz;refine bA (λwa=>?_) k;rw[run_sliceAt_string wa t _ _ _ _ ht,run_slice_string_h wa t s ht .i64 i zQ zQ];rfl
theorem alE {z:Int} (hz:z=i) (hi:i<=s.size) (ht:P.underlying t=some .string) (k:N (.string (s.extract i s.size))):
  aZ P X w (bG t (.string s) (some (.int .i64 z)) none none) N:=by
 subst hz;refine bA (λwa=>?_) k;rw[run_sliceAt_string wa t _ _ _ _ ht,run_slice_string_l wa t s ht .i64 i zQ zQ];rfl
def vD (s:ByteArray):List Nat:=s.data.toList.map UInt8.toNat
theorem I3 (s:ByteArray):(vD s).length=s.size:=by unfold vD;simp_all
theorem aj2 {x:Nat} (h:x∈vD s):x<256:=by
 obtain⟨b,_,rfl⟩:=List.mem_map.1 h;exact UInt8.toNat_lt b
theorem afv {src dst e:TypeId} {N:Value->World->XS->Prop} (hX: ∀k,X k->k<w.heap.size) (hl:s.size<=2^62) (hs:P.underlying src=some .string) (hd:P.underlying dst=some (.slice e)) (he:P.underlying e=some (.int .u8))
  (n: ∀v w' X',aj X w X' w'->Sl w' X' 1 v ((vD s).map λx:Nat=>[.int .u8 (x:Int)])->N v w' X'):eV P R X w m (convert src dst (.string s)) N:=by
 unfold eV eW;intro wa hk;unfold jV;have hr:=run_bytes_of_string (P:=P) wa src dst e s hs hd he;simp only[vS,bh,hr,aO,bK];generalize hC:bytesRow s (grownCap wa s.size 0 e)=C;have hblk: ∀k,k<wa.heap.size->(wa.drew.alloc (.cells C e (C.size,C.size+1))).heap[k]? =wa.heap[k]? :=λk hk=>heap_alloc_old wa.drew _ hk;have hx:Ext wa (wa.drew.alloc (.cells C e (C.size,C.size+1))):=⟨rfl,rfl,rfl,by simp,λk tf _=>hblk k tf⟩;have dH:=grownCap_ge wa s.size 0 e;have iF:grownCap wa s.size 0 e<=maxLen:=grownCap_le_maxLen wa _ 0 e (by simp only[maxLen];omega);refine⟨Step.fc hx,n _ _ _ (aj.fc hX hk hx) ?_⟩;have hlen:((vD s).map λx:Nat=>[ay .u8 (x:Int)]).length=s.size:=by rw[ai,I3]
 refine⟨λr hr=>?_,by omega,_,_,by rw[hlen],λ_=>⟨wa.heap.size,0,rfl,.inr ⟨aq _,by simp⟩,C,e,_,heap_alloc_new wa.drew _,λj v hj=>?_⟩,by simp,by omega,iF⟩
 ·obtain⟨x,_,rfl⟩:=List.mem_map.1 hr;rfl
 ·have hf:((vD s).map λx:Nat=>[ay .u8 (x:Int)]).flatten=(vD s).map λx:Nat=>ay .u8 (x:Int):=by
   generalize vD s=l
   induction l with
   |nil=>rfl
   |cons a l ih=>simp only[bD,cW,List.singleton_append,ih]
  rw[hf,cX] at hj;rw[<-hC,fg];unfold bytesRow;have gd:j<s.data.size:=by
   cases hq:(vD s)[j]? with
   |none=>rw[hq] at hj;cases hj
   |some x=>
    have:=(List.getElem?_eq_some_iff.1 hq).1;rw[I3] at this;exact this
  rw[kU (by rw[Array.size_map];omega),Array.getElem?_map];unfold vD at hj;rw[cX,nC] at hj;rw[<-hj];cases s.data[j]? <;>rfl
structure Two (A B:Prop):Prop where
 a:A
 b:B
variable {A p : Prop}
theorem q0t {B:Prop} (h:A->B->p):Two A B->p:=λt=>h t.a t.b
theorem dq {B:Prop} (a:A) (b:B):Two A B:=⟨a,b⟩
variable {q : Prop}
theorem q0b (h:q->p:=by first|(intro q9;first|(with_reducible first|apply abK|apply SJ|apply Ys|apply aky|apply akz|apply aih|apply aii|apply akA|apply aij|apply aik|apply agZ|apply ag0|apply ae4|apply ae5|apply amx|apply ae2|apply ae3|apply apg|apply aph|apply anV|apply anW|apply Yr|apply afD|apply Ji|apply akF|apply aoz);exact q9|(with_reducible apply akx);(case k=>exact q9);(· rfl)|(with_reducible apply aox);(case k=>exact q9);(· exact qN)|(with_reducible apply aoy);(case k=>exact q9);(· exact qN)|(with_reducible apply Rx);(case k=>exact q9);(· exact qF);(· kernel_rfl);(· rfl)|(with_reducible apply aou);(case k=>exact q9);(· exact qF);(· kernel_rfl);(· rfl);(· exact qN)|(with_reducible apply aee);(case k=>exact q9);(· exact qF);(· exact qM);(· kernel_rfl);(· rfl)|(with_reducible apply acT);(case k=>exact q9);(· exact qF);(· exact qM);(· kernel_rfl);(· rfl)|(with_reducible apply aov);(case n=>exact q9);(· exact qO);(· kernel_rfl)|(with_reducible apply aow);(case n=>exact q9);(· assumption);(· kernel_rfl)|(with_reducible apply aot);(case k=>exact q9);(· kernel_rfl)|(with_reducible apply ajt);(case n=>exact q9);(· exact qO);(try (case hz=>rfl));(case hr=>first|assumption|(clear q9;exact List.getElem?_eq_getElem (by omega)));(try (case hz=>omega));(case ht=>kernel_rfl);(case hs=>kernel_rfl)|(with_reducible apply aeb);(case k=>exact q9);(· kernel_rfl)|(with_reducible apply aji);(case h=>exact q9);(· rfl)|(with_reducible apply akG);(case k=>exact q9);(· kernel_rfl)|(with_reducible apply akH);(case k=>exact q9);(· kernel_rfl)|(with_reducible apply am3);(case k=>exact q9);(· kernel_rfl)|(with_reducible apply am4);(case k=>exact q9);(· kernel_rfl)|(with_reducible apply amY);(case k=>exact q9);(case h=>exact qE)|(with_reducible apply amZ);(case k=>exact q9);(case h=>exact qE)|(with_reducible apply ad5);(case k=>exact q9);(· exact qC)|(with_reducible apply ajs);(case h=>exact q9);(· omega);(· omega)|(with_reducible apply aor);(case h=>exact q9);(· omega);(· omega)|(with_reducible apply aef);(case h=>exact q9);(· kernel_rfl);(· kernel_rfl)|(with_reducible apply aoA);(case h=>exact q9);(· kernel_rfl);(· kernel_rfl)|(with_reducible apply aoD);(case k=>exact q9);(try (case hz=>rfl));(case hb=>assumption);(try (case hz=>omega));(case ht=>kernel_rfl)|(with_reducible apply aoB);(case k=>exact q9);(· kernel_rfl);(· kernel_rfl);(try (case hz=>rfl));(case hn=>omega);(case hl=>rfl)|(with_reducible apply am2);(case k=>exact q9);(case hf=>kernel_rfl);(case hg=>kernel_rfl);(case hlen=>rfl);(case hl=>exact qN)|(with_reducible apply aoE);(case h=>exact q9);(· rfl)|fail)|(apply q0t;intro a9 b9;first|(with_reducible first|apply ad6|apply ad9|apply aea|apply ajr|apply ad7|apply ad8|apply amJ|apply amK|apply amL|apply amM|apply amO|apply amP|apply amQ|apply amR|apply amS|apply amT|apply amU|apply amV|apply ajK);(· exact a9);exact b9|(with_reducible apply amX);(case hT=>exact a9);(case hF=>exact b9);(· exact qO);(· kernel_rfl)|fail)|fail):q->p:=h
theorem q0d (h:q->p:=by intro q9;first|(with_reducible refine amy ?_ ?_);rotate_left;exact q9;omega|(with_reducible refine amz ?_ ?_);rotate_left;exact q9;omega|(with_reducible refine amF ?_ ?_);rotate_left;exact q9;omega|(with_reducible refine amG ?_ ?_);rotate_left;exact q9;omega|(with_reducible refine amH ?_ ?_);rotate_left;exact q9;omega|(with_reducible refine amI ?_ ?_);rotate_left;exact q9;omega|(with_reducible refine amA ?_ ?_);rotate_left;exact q9;omega|(with_reducible refine amB ?_ ?_);rotate_left;exact q9;omega|(with_reducible refine amC ?_ ?_);rotate_left;exact q9;omega|(with_reducible refine amD ?_ ?_);rotate_left;exact q9;omega|(with_reducible refine amE ?_ ?_);rotate_left;exact q9;omega|fail):q->p:=h
theorem ao (k:q) (h:q->p:=by exact q0b):p:=h k
theorem aN (k:q) (h:q->p:=by first|exact q0d|exact q0b|fail):p:=h k
variable {P : Program} {R : Ending -> World -> Prop} {X : XS} {w w0 : World} {b : Bool}
section
variable {X0 : XS} {m : Bool} {f : FuncId} {args : Array Value} {N : Value -> World -> XS -> Prop} {t e k : Nat}
theorem pN {v:Value} (h:Pure P f args v) (hs:aj X0 w0 X w) (n: ∀w' X',aj X0 w0 X' w'->N v w' X') (hf:enters P f=true:=by kernel_rfl):eC P R X w m f args N:=se h hf hs.has λw' X' h1=>n w' X' (hs.trans h1)
theorem kR (h:Pure P f args (.bool b)) (hs:aj X0 w0 X w) (hT:b=true-> ∀w' X',aj X0 w0 X' w'->N (.bool true) w' X') (hF:b=false-> ∀w' X',aj X0 w0 X' w'->N (.bool false) w' X') (hf:enters P f=true:=by kernel_rfl):eC P R X w m f args N:=Nw h hf hs.has (λhb w' X' h1=>hT hb w' X' (hs.trans h1)) λhb w' X' h1=>hF hb w' X' (hs.trans h1)
theorem qL (h:Ct P f args w X nX λv _ _=>v= .bool b) (hs:aj X0 w0 X w) (hT:b=true-> ∀w' X',aj X0 w0 X' w'->N (.bool true) w' X') (hF:b=false-> ∀w' X',aj X0 w0 X' w'->N (.bool false) w' X') (hf:enters P f=true:=by kernel_rfl):eC P R X w m f args N:=H2 h hf hs.has (λhb w' X' h1=>hT hb w' X' (hs.trans h1)) λhb w' X' h1=>hF hb w' X' (hs.trans h1)
theorem UP {u:Value} (h:Ct P f args w X nX λv _ _=>v=u) (hs:aj X0 w0 X w) (n: ∀w' X',aj X0 w0 X' w'->N u w' X') (hf:enters P f=true:=by kernel_rfl):eC P R X w m f args N:=eT h hf hs.has λw' X' h1=>n w' X' (hs.trans h1)
theorem xS (h:Ct P f args w X nX λv _ _=> ∃n:Int,v= .int .i64 n) (hs:aj X0 w0 X w) (n: ∀(z:Int) w' X',aj X0 w0 X' w'->N (.int .i64 z) w' X') (hf:enters P f=true:=by kernel_rfl):eC P R X w m f args N:=am0 h hf hs.has λz w' X' h1=>n z w' X' (hs.trans h1)
theorem q1e {l:List Value} (hs:aj X0 w0 X w) (n: ∀a b c w' X',aj X0 w0 X' w'->Own w' X' w.heap.size e k (.slice a b c) [l]->N (.slice a b c) w' X') (he:Ny P t e k=true:=by kernel_rfl) (hk:(l.length==k)=true:=by rfl):eV P R X w m (gT t e k 1 #[(0,.agg l.toArray)]) N:=
 QG hs.has he hk λv w' X' h1 ho=>by
  obtain⟨_,_,_,rfl⟩:=ho.sl.form;exact n _ _ _ w' X' (hs.trans h1) ho
theorem q1s {x:Value} (hs:aj X0 w0 X w) (n: ∀a b c w' X',aj X0 w0 X' w'->Own w' X' w.heap.size e k (.slice a b c) [[x]]->N (.slice a b c) w' X') (he:Ny P t e k=true:=by kernel_rfl) (ho:one x=true:=by first|rfl|assumption) (hk:(k==1)=true:=by rfl):eV P R X w m (gT t e k 1 #[(0,x)]) N:=
 Xw hs.has he ho hk λv w' X' h1 ho=>by
  obtain⟨_,_,_,rfl⟩:=ho.sl.form;exact n _ _ _ w' X' (hs.trans h1) ho
theorem QW (hs:aj X0 w0 X w) (n: ∀v w' X',aj X0 w0 X' w'->Own w' X' w.heap.size e k v []->N v w' X') (hu:P.underlying t=some (.slice e):=by kernel_rfl) (hz:(P.info? e).map (·.size)=some k:=by kernel_rfl):eV P R X w m (gT t e k 0 #[]) N:=
 acY hs.has hu hz λv w' X' h1 ho=>n v w' X' (hs.trans h1) ho
theorem Oy {l:List Value} (hs:aj X0 w0 X w) (n: ∀b w' X',w.heap.size<=b->aj X w X' w'->aj X0 w0 X' w'->aj X' w' X' w'->aK w' X' b l t->N (ptr b 0) w' X'):eV P R X w m (Instr.box t (.agg l.toArray)) N:=
 AJ hs.has λb w' X' hb h1 hr=>n b w' X' hb h1 (hs.trans h1) (aj.fT h1.has) hr
theorem q1x {v:Value} (hs:aj X0 w0 X w) (n: ∀b w' X',w.heap.size<=b->aj X w X' w'->aj X0 w0 X' w'->aj X' w' X' w'->aK w' X' b [v] t->N (ptr b 0) w' X') (ho:one v=true:=by rfl):eV P R X w m (Instr.box t v) N:=
 uu ho hs.has λb w' X' hb h1 hr=>n b w' X' hb h1 (hs.trans h1) (aj.fT h1.has) hr
end
theorem qr {v:Value} {Q:Value->World->Prop} (h: ∀wa,Kp X w wa->Q v wa) (hs:aj (bV w0) w0 X w:=by first|exact hs|exact gg.trans hs):fin (vR nX w0 Q) X w v:=cG hs h
end Go.aG
namespace Go.Proofs.YtgfijddlkhkopaaGreat
open Go.Proofs.Tryz renaming prog → pg
open Go.aG
set_option maxRecDepth 100000
set_option maxHeartbeats 4000000
set_option linter.unusedVariables false
set_option linter.unusedSimpArgs false
abbrev BA:=ByteArray
@[ext] structure bN where
 wall:Int
 du:Int
 node:Int
 deriving DecidableEq
abbrev bN.l (s:bN):List Value:=[I s.wall,I s.du,I s.node]
abbrev bN.v (s:bN):Value:=.agg #[I s.wall,I s.du,I s.node]
abbrev bN.zero:bN:=⟨0,0,0⟩
@[ext] structure bH where
 dX:Int
 ba:Int
 sq:Int
 deriving DecidableEq
abbrev bH.l (s:bH):List Value:=[I s.dX,I s.ba,I s.sq]
abbrev bH.v (s:bH):Value:=.agg #[I s.dX,I s.ba,I s.sq]
abbrev bH.zero:bH:=⟨0,0,0⟩
@[ext] structure gJ where
 kind:Int
 num:Nat
 text:BA
 deriving DecidableEq
abbrev gJ.l (x:gJ):List Value:=[I x.kind,.float .f64 x.num,.string x.text]
abbrev gJ.v (x:gJ):Value:=.agg #[I x.kind,.float .f64 x.num,.string x.text]
abbrev gJ.zero:gJ:=⟨0,0,⟨#[]⟩⟩
@[ext] structure KV where
 key:BA
 val:gJ
 deriving DecidableEq
abbrev KV.l (x:KV):List Value:=[.string x.key,I x.val.kind,.float .f64 x.val.num,.string x.val.text]
abbrev KV.v (x:KV):Value:=.agg #[.string x.key,I x.val.kind,.float .f64 x.val.num,.string x.val.text]
abbrev S1 (x:BA):List Value:=[.string x]
abbrev I1 (x:Int):List Value:=[I x]
@[ext] structure pQ where
 aV:bN
 val:gJ
 deriving DecidableEq
abbrev pQ.l (x:pQ):List Value:=[I x.aV.wall,I x.aV.du,I x.aV.node,I x.val.kind,.float .f64 x.val.num,.string x.val.text]
@[ext] structure kJ where
 key:BA
 mZ:List pQ
 deriving DecidableEq
abbrev kJ.l (h:kJ) (vv:Value):List Value:=[.string h.key,vv]
def kJ.rd (w:World) (X:XS) (l:List Value) (h:kJ):Prop:= ∃vv,l=h.l vv/\Sl w X 6 vv (h.mZ.map pQ.l)
@[ext] structure gr where
 aR:bH
 aV:bN
 reads:List BA
 writes:List KV
 deriving DecidableEq
abbrev gr.l (p:gr) (vr vw:Value):List Value:=[I p.aR.dX,I p.aR.ba,I p.aR.sq,I p.aV.wall,I p.aV.du,I p.aV.node,vr,vw]
abbrev gr.v (p:gr) (vr vw:Value):Value:=.agg #[I p.aR.dX,I p.aR.ba,I p.aR.sq,I p.aV.wall,I p.aV.du,I p.aV.node,vr,vw]
def gr.rd (w:World) (X:XS) (l:List Value) (p:gr):Prop:= ∃vr vw,l=p.l vr vw/\Sl w X 1 vr (p.reads.map S1)/\Sl w X 4 vw (p.writes.map KV.l)
@[ext] structure eI where
 id:Int
 iC:Int
 lo:Nat
 hi:Nat
 deriving DecidableEq
abbrev eI.l (r:eI):List Value:=[I r.id,I r.iC,.float .f64 r.lo,.float .f64 r.hi]
abbrev eI.v (r:eI):Value:=.agg #[I r.id,I r.iC,.float .f64 r.lo,.float .f64 r.hi]
@[ext] structure State where
 range:eI
 floor:bN
 closed:bN
 iD:List kJ
 hU:List gr
 deriving DecidableEq
abbrev State.l (s:State) (vh vp:Value):List Value:=[I s.range.id,I s.range.iC,.float .f64 s.range.lo,.float .f64 s.range.hi,
 I s.floor.wall,I s.floor.du,I s.floor.node,I s.closed.wall,I s.closed.du,I s.closed.node,vh,vp]
abbrev State.v (s:State) (vh vp:Value):Value:=.agg #[I s.range.id,I s.range.iC,.float .f64 s.range.lo,.float .f64 s.range.hi,
 I s.floor.wall,I s.floor.du,I s.floor.node,I s.closed.wall,I s.closed.du,I s.closed.node,vh,vp]
abbrev qY (w:World) (X:XS) (v:Value) (l:List kJ):Prop:=eQ w X 2 v kJ.rd l
abbrev qX (w:World) (X:XS) (v:Value) (l:List gr):Prop:=eQ w X 8 v gr.rd l
def State.rd (w:World) (X:XS) (l:List Value) (s:State):Prop:= ∃vh vp,l=s.l vh vp/\qY w X vh s.iD/\qX w X vp s.hU
@[ext] structure Rec where
 kind:Int
 aR:bH
 aV:bN
 prev:bN
 jJ:Bool
 n:Int
 tZ:Nat
 reads:List BA
 writes:List KV
 parts:List Int
 xd:List KV
 state:State
 deriving DecidableEq
abbrev Rec.l (r:Rec) (vr vw vp vq vh vd:Value):List Value:=[I r.kind,I r.aR.dX,I r.aR.ba,I r.aR.sq,I r.aV.wall,I r.aV.du,I r.aV.node,
 I r.prev.wall,I r.prev.du,I r.prev.node,B r.jJ,I r.n,.float .f64 r.tZ,vr,vw,vp,vq,I r.state.range.id,I r.state.range.iC,.float .f64 r.state.range.lo,.float .f64 r.state.range.hi,
 I r.state.floor.wall,I r.state.floor.du,I r.state.floor.node,I r.state.closed.wall,I r.state.closed.du,I r.state.closed.node,vh,vd]
abbrev Rec.v (r:Rec) (vr vw vp vq vh vd:Value):Value:=.agg #[I r.kind,I r.aR.dX,I r.aR.ba,I r.aR.sq,I r.aV.wall,I r.aV.du,I r.aV.node,
 I r.prev.wall,I r.prev.du,I r.prev.node,B r.jJ,I r.n,.float .f64 r.tZ,vr,vw,vp,vq,I r.state.range.id,I r.state.range.iC,.float .f64 r.state.range.lo,.float .f64 r.state.range.hi,
 I r.state.floor.wall,I r.state.floor.du,I r.state.floor.node,I r.state.closed.wall,I r.state.closed.du,I r.state.closed.node,vh,vd]
def Rec.at (w:World) (X:XS) (r:Rec) (vr vw vp vq vh vd:Value):Prop:=
 Sl w X 1 vr (r.reads.map S1)/\Sl w X 4 vw (r.writes.map KV.l)/\Sl w X 1 vp (r.parts.map I1)/\Sl w X 4 vq (r.xd.map KV.l)/\qY w X vh r.state.iD/\qX w X vd r.state.hU
def Rec.rd (w:World) (X:XS) (l:List Value) (r:Rec):Prop:= ∃vr vw vp vq vh vd,l=r.l vr vw vp vq vh vd/\r.at w X vr vw vp vq vh vd
@[ext] structure fe where
 key:BA
 val:gJ
 aV:bN
 deriving DecidableEq
abbrev fe.l (x:fe):List Value:=[.string x.key,I x.val.kind,.float .f64 x.val.num,.string x.val.text,I x.aV.wall,I x.aV.du,I x.aV.node]
@[ext] structure bZ where
 kind:Int
 fr:Int
 to:Int
 aR:bH
 range:Int
 iC:Int
 code:Int
 aV:bN
 prev:bN
 jJ:Bool
 n:Int
 mx:Int
 keys:List BA
 seen:List fe
 writes:List KV
 parts:List Int
 ranges:List eI
 bp:List Rec
 state:State
 deriving DecidableEq
abbrev bZ.l (m:bZ) (vk vs vw vp vr vc vh vd:Value):List Value:=[I m.kind,I m.fr,I m.to,I m.aR.dX,I m.aR.ba,I m.aR.sq,I m.range,I m.iC,I m.code,
 I m.aV.wall,I m.aV.du,I m.aV.node,I m.prev.wall,I m.prev.du,I m.prev.node,B m.jJ,I m.n,I m.mx,vk,vs,vw,vp,vr,vc,
 I m.state.range.id,I m.state.range.iC,.float .f64 m.state.range.lo,.float .f64 m.state.range.hi,
 I m.state.floor.wall,I m.state.floor.du,I m.state.floor.node,I m.state.closed.wall,I m.state.closed.du,I m.state.closed.node,vh,vd]
abbrev bZ.v (m:bZ) (vk vs vw vp vr vc vh vd:Value):Value:=.agg #[I m.kind,I m.fr,I m.to,I m.aR.dX,I m.aR.ba,I m.aR.sq,I m.range,I m.iC,I m.code,
 I m.aV.wall,I m.aV.du,I m.aV.node,I m.prev.wall,I m.prev.du,I m.prev.node,B m.jJ,I m.n,I m.mx,vk,vs,vw,vp,vr,vc,
 I m.state.range.id,I m.state.range.iC,.float .f64 m.state.range.lo,.float .f64 m.state.range.hi,
 I m.state.floor.wall,I m.state.floor.du,I m.state.floor.node,I m.state.closed.wall,I m.state.closed.du,I m.state.closed.node,vh,vd]
section
variable (R : Ending -> World -> Prop) (w0 : World) (X0 : XS)
end
end Go.Proofs.YtgfijddlkhkopaaGreat