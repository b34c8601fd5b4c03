/- Part 3 of the proof. -/
import Derived.Laws.Pointers
import Derived.Shelf.SlSortCmp.WholeK
import Derived.Shelf.SlSortCmp.NoneTotal
import Derived.Recover
import Derived.Laws.MakeOwn
import Derived.Laws.BytesArg
import Derived.Laws.Concat
import Derived.Lib.Overlaps
import Derived.Lib.AppendZerosOnto
import Derived.Laws.Externs
import Derived.Laws.Slices
import Derived.Laws.IdiomStrings
import Derived.KernelRfl
import Derived.Test.YtgfijddlkhkopaaGreatProg
import Derived.Test.YtgfijddlkhkopaaGreatH2
set_option linter.all false
open Option.some renaming injEq → aj
open Nat renaming le_trans → ad, le_refl → au, lt_of_lt_of_le → aw, zero_add → fj, mul_le_mul_right → bR, zero_le → ak, add_mul → jm, succ_mul → ly, add_zero → Ai, mul_le_mul → ym
open Go.Sem renaming run_bind → bu, run_pure → bU
open Go.Result renaming andThen_ok → aN
open List renaming length_append → aa, getElem?_map → cN, length_drop → cj, size_toArray → lq, append_assoc → ao, mem_of_getElem? → av, flatten_cons → dd, getElem?_eq_getElem → aS, getElem?_drop → ee, length_take → aD, take_left → tw, map_cons → bh, ext_getElem? → lj, length_map → af, flatten_append → dX, mem_cons_of_mem → bG, all_eq_true → lG, getD → qt, getElem?_append_left → cV, getElem?_append_right → bQ, take_of_length_le → az, eq_nil_of_length_eq_zero → iJ, nil_append → bp, getElem?_take → iM, length_nil → bL, getElem?_zip_eq_some → ub, getElem_mem → BJ
open Go.Builtin renaming append_ → fp, zeroCells → jP, lenOf → qW, clear_ → nz, firstCells → zL, nextslicecap → yn
open Option renaming map_some → aZ, bind_some → cW
open Prod.mk renaming injEq → cY
open Array renaming length_toList → fB, getElem?_append_left → kW, getElem?_toList → nE, ext' → xz, size_append → uT, toList_append → sZ, replicate → dh, getD_eq_getD_getElem? → nJ, getElem?_eq_getElem → ue, getElem?_modify → xA, getElem?_setIfInBounds → dR, toList_map → nQ, getElem?_append → kR, getElem?_replicate → jH
open Go.Instr renaming sliceAt → bS, alloc → gp, makeFunc → cL, extract → gB, panic → kY, box → ct, makeSlice → B6, buildSlice → jq, makeInterface → jf, typeAssert → oF
open Go.Value renaming int → ay, ownBlock → iv, tuple → dq
open Go.Addr renaming add_lit → pD
open Bool renaming and_eq_true → aA, not_eq_true' → de
open Go.Region renaming wanted → cP
open Go.Sort renaming grow → vV
open Go.World renaming freeze → vW, cell? → fw
open Go.Op renaming unary → bI
open Go.UnOp renaming not → cO
open Go.Deferred renaming ofValue → lI
open Go.Oper renaming upon_defer → B7
open Go.Code.seq renaming injEq → Dt
namespace Go.aK
open Go.Sort Go.Shelf Go.RowKit Go.Proofs
variable {P : Program} {ρ : Ren} {α : Type}
def acH (W w':World):Prop:= ∃os',w'=vV W os'
def zX (W w':World):Prop:= ∃q os,w'=vV (W.drewN q) os
theorem zX.refl (W:World):zX W W:=⟨0,#[],by rfl⟩
variable {W w : World}
theorem zX.alloc (h:zX W w) (o:Obj):zX W (w.alloc o):=by
 obtain⟨q,os,rfl⟩:=h;exact⟨q,os.push o,by simp[World.alloc,vV]⟩
variable {w' : World}
theorem zX.trans (h:zX W w) (k:zX w w'):zX W w':=by
 obtain⟨q,os,rfl⟩:=h;obtain⟨q',os',rfl⟩:=k;exact⟨q+q',os++os',by simp[World.drewN,vV,Nat.add_assoc]⟩
variable {g : Nat}
theorem zX.row (h:zX W w') {o:Obj} (hg:W.heap[g]? =some o):w'.heap[g]? =some o:=by
 obtain⟨q,os,rfl⟩:=h
 show(W.heap++os)[g]? =some o
 rw[kW (Array.getElem?_eq_some_iff.1 hg).1,hg]
variable {k : Nat}
theorem flat_get [Inhabited α] {enc:α->List Value} (hk: ∀x,(enc x).length=k) (h0:0<k): ∀(l:List α) (t:Nat),t<l.length*k->((l.map enc).flatten)[t]? =some ((enc l[t/k]!)[t % k]!)
 |[],t,h=>by simp at h
 |x::l,t,h=>by
  rw[bh,dd];by_cases ht:t<k
  ·rw[cV gQ,Nat.div_eq_of_lt ht,Nat.mod_eq_of_lt ht];simp_all
  ·obtain⟨s,rfl⟩: ∃s,t=s+k:=⟨t-k,by omega⟩;rw[bQ gQ,hk,Nat.add_sub_cancel,Nat.add_div_right _ h0,Nat.add_mod_right];have hs:s<l.length*k:=by rw[List.length_cons,ly] at h;omega
   rw[flat_get hk h0 l s hs];simp
theorem aeA [Inhabited α] {enc:α->List Value} (hk: ∀x,(enc x).length=k) (h0:0<k) (l:List α):(flatK enc k l.toArray).toList=(l.map enc).flatten:=by
 have hl:((l.map enc).flatten).length=l.length*k:=by
  rw[kK (k:=k) gQ];simp
 apply lj;intro t;by_cases ht:t<l.length*k
 ·rw[flat_get hk h0 l t ht];have h1:t<(flatK enc k l.toArray).size:=by simpa using ht
  have h2:=get_flatK enc k l.toArray t zQ;rw[getElem!_pos (flatK enc k l.toArray) t h1] at h2;rw[nE,ue h1,h2];simp
 simp_all
theorem Vv (F cs:Array Value) (h:F.size<=cs.size):(putCells id 0 F cs).toList=F.toList++cs.toList.drop F.size:=by
 apply lj;intro t;unfold putCells;rw[nE,Array.getElem?_mapIdx];by_cases ht:t<F.size
 ·rw[cV zQ,ue zQ];simp[ht]
 ·rw[bQ gQ,ee];simp only[fB,nE];rw[show F.size+(t-F.size)=t by omega]
  grind
variable {v : Value} {lo : Nat} {X : XS} {e : TypeId}
theorem aiM [Inhabited α] (L:SlLaysF0.n6 P ρ) (h0:0<k) (aE: ∀w,(isAgg (ρ.t 24)).run P w= .ok true w) (zE: ∀w,(Go.sizeOf (ρ.t 24)).run P w= .ok k w) {enc:α->List Value} (hk: ∀x,(enc x).length=k)
    (h1: ∀x,∀v∈enc x,v.oneCell'=true) {cf:α->α->Int} (hO:SWO (ltOf cf)) (eg: ∀args w,(callFunc g args).run P w= .ok (.enter g args) w)
    (aiN: ∀x y W,Calls P g #[.agg (enc x).toArray,.agg (enc y).toArray] W λe w'=>e= .returned (.int .i64 (cf x y))/\zX W w')
 {xs:List α} (own:Own w X lo e k v (xs.map enc)) (hb:xs.length<2^61):
    Ct P (ρ.f 6) #[v,.func (.func g) #[] #[]] w X (fv v) λr _ w'=>r= .tuple #[]/\ ∃ys:List α,ys.Perm xs/\ys.Pairwise (λa b=>ltOf cf b a=false)/\Own w' (fv v) lo e k v (ys.map enc):=by
  intro w0 DZ;have bY:=own.mv DZ.mv;have emp: ∀(p:Option Addr) (cap:Nat),v= .slice p 0 cap->xs=[]->Calls P (ρ.f 6) #[v,.func (.func g) #[] #[]] w0 (vy (fv v) w0 λr w'=>r= .tuple #[]/\ ∃ys:List α,ys.Perm xs/\ys.Pairwise (λa b=>ltOf cf b a=false)/\Own w' (fv v) lo e k v (ys.map enc)):=by
    intro p cap hv hx;have ho:Own w0 (fv v) lo e k v (xs.map enc):=⟨bY.1,bY.2.1,λ_ hg=>hg⟩;subst hx;rw[hv] at ho⊢;exact(AnyF.slices_SortFunc_none L p cap (.func (.func g) #[] #[]) w0).mono λe w' ⟨he,hw⟩=>⟨_,he,by subst hw;exact⟨rfl,rfl,rfl,au _,λ_ _ _=>rfl⟩,rfl,[],List.Perm.refl _,List.Pairwise.nil,by grind⟩
  rcases bY.row with⟨hv,he⟩|⟨b,cap,cs,hv,gr,bt,ql,iq,qI,tW⟩
  · exact emp none 0 hv (by simpa using he)
  · rw[af] at hv ql tW
    by_cases hx:xs=[]
    · exact emp _ cap (by rw[hv,hx];rfl) hx
    have hH:HoldsK enc k w0 b 0 xs.toArray:=by
      intro j hj;have hj':j<xs.length*k:=by simpa using hj
      have cI:j<cs.length:=by
        rw[qI];exact aw hj' (bR _ ql)
      have hf:=flat_get hk h0 xs j hj';rw[<-tW,List.getElem?_take_of_lt hj'] at hf;refine⟨?_,?_⟩
      · unfold fw
        rw[bt.2];simp only[fj,Option.isSome_none,Bool.false_eq_true,if_false,id];rw[get_flatK enc k _ _ zQ];simpa using hf
      · unfold World.frozen?
        rw[bt.2];simp
    have hc:=AnyQ.slices_SortFunc L k aE zE enc hk h1 cf hO g #[] b 0 cap xs.toArray w0 eg (λm os dk _ x y=>(aiN x y _).mono λ_ _ ⟨he,q,os',hw⟩=>⟨he,q,os',hw⟩) hH bt.lt oQ;rw[show xs.toArray.size=xs.length by simp] at hc;rw[hv];refine hc.mono ?_;rintro _ w' ⟨rfl,d',n,os,hp,hs,rfl⟩;obtain⟨GC,_,hpp⟩:=hp;have GC:d'.size=xs.length:=by simpa using GC
    have hblk: ∀q,q<w0.heap.size-> ¬fv (.slice (some ⟨b,0,none⟩) xs.length cap) q->q≠b:=λq _ hq e=>hq (by rw[e];rfl);have aeB:(sortWorldK enc k w0 b 0 n d' os).heap=(w0.heap.modify b (onCells (putCells id 0 (flatK enc k d'))))++os:=rfl;have hF:(flatK enc k d').toList=(d'.toList.map enc).flatten:=by
      have:=aeA hk h0 d'.toList;simpa using this
    have hFs:(flatK enc k d').size=xs.length*k:=by rw[size_flatK,GC]
    refine⟨_,rfl,⟨rfl,rfl,rfl,?_,?_⟩,rfl,d'.toList,?_,?_,?_⟩
    · rw[aeB];simp
    · intro q hq hn
      rw[aeB,kW (by simpa using hq),xA,if_neg (Ne.symm (hblk q hq hn))]
    · have h3:(d'.extract 0 xs.length)=d':=by rw[<-GC];simp
      have h4:(xs.toArray.extract 0 xs.length)=xs.toArray:=by simp
      rw[h3,h4] at hpp;omega
    · rw[List.pairwise_iff_getElem]
      intro i j hi hj wq;have:=hs i j (ak _) wq (by rw[<-GC];omega);rw[getElem!_pos d' j zQ,getElem!_pos d' i zQ] at this;assumption
    · have Bu:(sortWorldK enc k w0 b 0 n d' os).heap[b]? =some (.cells (putCells id 0 (flatK enc k d') cs.toArray) e (0,0)):=by
        rw[aeB,kW (by simpa using bt.lt),xA,if_pos rfl,bt.2];rfl
      have hle:xs.length*k<=cs.length:=by rw[qI];exact bR _ ql
      have wy:=Vv (flatK enc k d') cs.toArray (by rw[hFs];omega);have Ec:aH (sortWorldK enc k w0 b 0 n d' os) (fv (.slice (some ⟨b,0,none⟩) xs.length cap)) b (putCells id 0 (flatK enc k d') cs.toArray).toList e:=⟨rfl,by omega⟩;refine Own.E9 Ec gr (by intro r hr;obtain⟨x,_,rfl⟩:=List.mem_map.1 hr;exact hk x) (by simpa using GC) ql iq ?_ ?_
      · rw[wy,aa,cj,fB,hFs];simp;omega
      · rw[wy,List.take_append_of_le_length (by simp[GC]),az (by simp[GC]),hF]
def abQ [Inhabited α] (L:SlLaysF0.n6 P ρ) (h0:0<k) (aE: ∀w,(isAgg (ρ.t 24)).run P w= .ok true w) (zE: ∀w,(Go.sizeOf (ρ.t 24)).run P w= .ok k w) {enc:α->List Value} (hk: ∀x,(enc x).length=k)
    (h1: ∀x,∀v∈enc x,v.oneCell'=true) {cf:α->α->Int} (hO:SWO (ltOf cf)) (eg: ∀args w,(callFunc g args).run P w= .ok (.enter g args) w)
    (aiN: ∀x y W,Calls P g #[.agg (enc x).toArray,.agg (enc y).toArray] W λe w'=>e= .returned (.int .i64 (cf x y))/\acH W w')
 {xs:List α} (own:Own w X lo e k v (xs.map enc)) (hb:xs.length<2^61):
    Ct P (ρ.f 6) #[v,.func (.func g) #[] #[]] w X (fv v) λr _ w'=>r= .tuple #[]/\ ∃ys:List α,ys.Perm xs/\ys.Pairwise (λa b=>ltOf cf b a=false)/\Own w' (fv v) lo e k v (ys.map enc):=
  aiM L h0 aE zE hk h1 hO eg (λx y W=>(aiN x y W).mono λ_ _ ⟨he,os,hw⟩=>⟨he,0,os,hw⟩) own hb
variable {P : Program} {R : Ending -> World -> Prop} {X : XS} {w : World} {m : Bool}
variable {bytes t ty : Nat} {rows : List (List Value)} {N : Value -> World -> XS -> Prop}
section
variable {e : Nat} {x s : Value} {du : List (List Value)} {row : List Value}
theorem ak2 (own:Own w X lo e k v rows) (hX: ∀k,X k->k<w.heap.size) (gr:lo<=w.heap.size) (he:oD P t e k bytes=true) (hx:x.cells.toList=row) (hk:(row.length==k)=true)
  (h1:row.all one=true) (hb:(rows.length+1)*bytes<=140737488355328) (hl:rows.length+1<=2^63-1)
  (n: ∀v' w' X',dY (fv v) X w X' w'->Own w' X' lo e k v' (rows++[row])->(v'.ownBlock=v.ownBlock\/ ∃g,v'.ownBlock=some g/\w.heap.size<=g)->N v' w' X'):
  eV P R X w m (gT t e k 1 #[(0,x)]) λs w1 X1=>eV P R X1 w1 true (rY t e k bytes ty v s) N:=by
 obtain⟨hu,iy,By,z,hi,hz,vC⟩:=mI he;have ah:row.length=k:=by simpa using hk
 have J7:x.cells.size=k:=by rw[<-ah,<-hx,fB]
 refine Cs (rows:=[row]) x.cells z hX hu hz zQ zQ ?_ (by simpa using ah) rfl gQ λs w1 X1 aB zF=>?_
 ·simp only[Nat.one_mul];exact FI J7 sQ
 ·have SZ:lo<=w1.heap.size:=ad gr aB.kp.size;refine Dq (du:=[row]) z hu hi vC iy aB.has SZ (own.since aB) zF.sl (by simpa using h1) zQ zQ λv2 w2 X2 hg ho dc=>?_;refine n v2 w2 X2 ((dY.oh aB (fv v)).trans (hg.dT.mono λk _ hk=>hk.symm)) ho ?_;rcases dc with h|⟨g,h,dC⟩
  ·exact .inl h
  ·exact .inr ⟨g,h,ad aB.kp.size dC⟩
theorem Co (own:Own w X lo e k v rows) (hX: ∀k,X k->k<w.heap.size) (gr:lo<=w.heap.size) (he:oD P t e k bytes=true) (src:Sl w X k s du) (h1: ∀r∈du,∀u∈r,one u=true)
  (hb:(rows.length+du.length)*bytes<=140737488355328) (hl:rows.length+du.length<=2^63-1)
  (n: ∀v' w' X',dY (fv v) X w X' w'->Own w' X' lo e k v' (rows++du)->(v'.ownBlock=v.ownBlock\/ ∃g,v'.ownBlock=some g/\w.heap.size<=g)->N v' w' X'):
  eV P R X w true (rY t e k bytes ty v s) N:=by
 obtain⟨hu,iy,By,z,hi,hz,vC⟩:=mI he;refine Dq (du:=du) z hu hi vC iy hX gr own src h1 hb hl λv2 w2 X2 hg ho dc=>?_;exact n v2 w2 X2 (hg.dT.mono λk _ hk=>hk.symm) ho dc
end
def zc (s:ByteArray):List Value:=s.data.toList.map λb=>.int .u8 b.toNat
theorem No (s:ByteArray):(zc s).length=s.size:=by unfold zc;simp_all
theorem Mk (s:ByteArray):(zL 1 s.size (.string s))=(pure (zc s).toArray:Sem (Array Value)):=by
 have hx:(s.extract 0 s.size)=s:=by
  apply ByteArray.ext;simp[ByteArray.data_extract]
 show(pure ((s.extract 0 s.size).data.map λb=>ay .u8 b.toNat):Sem (Array Value))=_
 rw[hx]
 congr 1
 apply xz;simp[zc]
theorem Kr (t u ty e:TypeId) (i:TypeInfo) (ht:P.underlying t=some (.slice e)) (hu:P.underlying u=some .string) (hi:P.info? e=some i) (h1:i.size=1)
  (g lR uU:Nat) (cur:Array Value) (hg:w.heap[g]? =some (.cells cur e (0,0))) (s:ByteArray) (xB:lR+s.size<=uU) (I6:lR+s.size<=cur.size):
  (fp #[t,u] ty #[.slice (some ⟨g,0,none⟩) lR uU,.string s]).run P w=
   .ok (.slice (some ⟨g,0,none⟩) (lR+s.size) uU) (w.setRow g (cur.toList.take lR++zc s++cur.toList.drop (lR+s.size)).toArray):=by
 have fQ:=run_storeCells_at P g lR e (zc s) 0 cur w hg (by grind [No]) (λv hv=>by
  unfold zc at hv;obtain⟨b,_,rfl⟩:=List.mem_map.1 hv;rfl)
 simp only[Ai,No] at fQ;simp[fp,run_underlying ht,run_underlying hu,sizeOf,typeInfo,hi,qW,xB,h1,Mk,pD,fQ]
theorem Ks (t u ty e:TypeId) (i:TypeInfo) (z:Value) (ht:P.underlying t=some (.slice e)) (hu:P.underlying u=some .string) (hi:P.info? e=some i) (hz:i.zero=some z) (h1:i.size=1)
  (b:Addr) (lR uU:Nat) (aeC:List Value) (gr:aeC.length=lR) (holds: ∀j v,aeC[j]? =some v->w.cell? (b.add j)=some v) (s:ByteArray)
  (hg:uU<lR+s.size) (h63:((lR+s.size:Nat):Int)<=9223372036854775807) (I6:yn (lR+s.size) uU*i.bytes<=281474976710656):
  (fp #[t,u] ty #[.slice (some b) lR uU,.string s]).run P w=
   .ok (.slice (some ⟨w.heap.size,0,none⟩) (lR+s.size) (grownCap w (lR+s.size) uU e))
    (w.drew.alloc (.cells (aeC.toArray++(zc s).toArray++jP z.cells (grownCap w (lR+s.size) uU e-(lR+s.size))) e)):=by
 have hn: ¬(lR+s.size<=uU):=by omega
 have aqY: ¬(9223372036854775807<((lR:Int)+(s.size:Int))):=by omega
 have aqZ: ¬(281474976710656<yn (lR+s.size) uU*i.bytes):=by omega
 have hfo:=run_firstCells_some (P:=P) w.drew 1 lR b lR uU aeC zQ aQ;simp[fp,run_underlying ht,run_underlying hu,sizeOf,typeInfo,zeroValue,hi,hz,qW,hn,aqY,aqZ,Question.forced,Mk,h1,hfo,newRow,grownCap]
 congr 2
 apply xz;simp_all
theorem Ml (base:Nat) (t u ty e:TypeId) (i:TypeInfo) (z:Value) (bytes:Nat) (ht:P.underlying t=some (.slice e)) (hu:P.underlying u=some .string) (hi:P.info? e=some i) (hz:i.zero=some z)
  (h1:i.size=1) (Gu:i.bytes=bytes) (vC:z.cells.size=1) (v:Value) (n:Nat) (xs:List Value) (xP:w.ownsRow base e 1 v n xs) (s:ByteArray)
  (h63:n+s.size<=maxLen) (agl:(n+s.size)*bytes<=140737488355328) (ac1:base<=w.heap.size):
  ∃v' w',(fp #[t,u] ty #[v,.string s]).run P w= .ok v' w'/\w'.ownsRow base e 1 v' (n+s.size) (xs++zc s)/\w.grownBy w' v.ownBlock/\(v'.ownBlock=v.ownBlock\/v'.ownBlock=some w.heap.size):=by
 subst Gu;have Rq:n+s.size<=9223372036854775807:=by simp only[maxLen] at h63;omega
 have hl:=No s;have Uh:xs.length=n:=by simpa using xP.1
 have hlen:(xs++zc s).length=(n+s.size)*1:=by rw[aa,Uh,hl];omega
 have grown: ∀(bP:Nat),bP<n+s.size-> ∀(row:Option Nat),
   (w.drew.alloc (.cells (xs.toArray++(zc s).toArray++jP z.cells (grownCap w (n+s.size) bP e-(n+s.size))) e)).ownsRow base e 1
    (.slice (some ⟨w.heap.size,0,none⟩) (n+s.size) (grownCap w (n+s.size) bP e)) (n+s.size) (xs++zc s)/\
   w.grownBy (w.drew.alloc (.cells (xs.toArray++(zc s).toArray++jP z.cells (grownCap w (n+s.size) bP e-(n+s.size))) e)) row:=by
  intro bP ho row;have dC:=grownCap_ge w (n+s.size) bP e;have iq:grownCap w (n+s.size) bP e<=maxLen:=grownCap_le_maxLen w (n+s.size) bP e h63;refine⟨⟨hlen,.inr ⟨w.heap.size,_,_,rfl,ac1,heap_alloc_new w.drew _,dC,iq,?_,?_⟩⟩,⟨rfl,rfl,rfl,by simp,λk hk _=>by first|exact heap_alloc_old w.drew _ k hk|exact heap_alloc_old w.drew _ hk⟩⟩
  ·simp only[uT,lq,size_zeroCells,vC,Uh,hl];omega
  ·simp only[sZ,ao];rw[<-ao,<-hlen]
   grind
 rcases xP.2 with⟨rfl,rfl⟩|⟨g,cap,cur,rfl,hbg,hg,ql,iq,jS,Np⟩
 ·have hx:xs=[]:=iJ Uh;subst hx;by_cases hm:s.size=0
  ·have hn:zc s=[]:=iJ (by rw[hl,hm]);refine⟨.slice none 0 0,w,?_,by simp_all,⟨rfl,rfl,rfl,au _,λ_ _ _=>rfl⟩,Or.inl rfl⟩;have hf:=Mk s;rw[hm,hn] at hf;simp[fp,run_underlying ht,run_underlying hu,sizeOf,typeInfo,hi,qW,hm,h1,hf]
  ·have hr:=run_append_nil_string (P:=P) w t u ty e i z ht hu hi hz s zQ zQ (by have hb:=agl;simp only[fj] at hb;omega);have ER:=grown 0 zQ (iv (.slice none 0 0));have he:(s.data.map λb:UInt8=>ay .u8 b.toNat)=(zc s).toArray:=by
    apply xz;simp[zc]
   rw[he] at hr;simp only[fj,bp,Array.empty_append] at ER⊢;exact⟨_,_,hr,ER.1,ER.2,Or.inr rfl⟩
 ·rw[Nat.mul_one] at jS Np;by_cases xB:n+s.size<=cap
  ·have I6:n+s.size<=cur.size:=by rw[jS];exact xB
   have hr:=Kr (P:=P) (w:=w) t u ty e i ht hu hi h1 g n cap cur hg s xB I6;refine⟨_,_,hr,⟨hlen,.inr ⟨g,cap,_,rfl,hbg,setRow_heap w g cur _ e _ hg,xB,iq,?_,?_⟩⟩,⟨rfl,rfl,rfl,by simp,λk _ hk=>setRow_other w g k _ (λe=>hk (by simp[iv,e]))⟩,Or.inl rfl⟩
   ·simp only[lq,aa,aD,cj,fB,hl];omega
   ·rw[Np,<-hlen];exact tw
  ·have holds: ∀j u,xs[j]? =some u->w.cell? ((⟨g,0,none⟩:Addr).add j)=some u:=xP.cells (g:=g) rfl;have hr:=Ks (P:=P) (w:=w) t u ty e i z ht hu hi hz h1 ⟨g,0,none⟩ n cap xs Uh holds s zQ zQ (growslice_fits zQ agl);have ER:=grown cap zQ (iv (.slice (some ⟨g,0,none⟩) n cap));exact⟨_,_,hr,ER.1,ER.2,Or.inr rfl⟩
theorem anu {u e:Nat} {s:ByteArray} (own:Own w X lo e 1 v rows) (hX: ∀k,X k->k<w.heap.size) (gr:lo<=w.heap.size)
  (he:oD P t e 1 bytes=true) (hu:P.underlying u=some .string) (hb:(rows.length+s.size)*bytes<=140737488355328) (hl:rows.length+s.size<=2^63-1)
  (n: ∀v' w' X',dY (fv v) X w X' w'->Own w' X' lo e 1 v' (rows++(zc s).map λx=>[x])->(v'.ownBlock=v.ownBlock\/ ∃g,v'.ownBlock=some g/\w.heap.size<=g)->N v' w' X'):
  eV P R X w true (fp #[t,u] ty #[v,.string s]) N:=by
 obtain⟨ht,iy,By,z,hi,hz,vC⟩:=mI he;intro wa hk;have own:=own.kp hk;cases hq:P.info? e with
 |none=>grind
 |some ie=>
  cases ua:ie.zero with
  |none=>grind
  |some z'=>
   simp only[hq,ua,cW,aZ,aj,cY] at hi;obtain⟨h1,rfl,rfl⟩:=hi;unfold jV;obtain⟨v',w',hr,uA,hg,dc⟩:=Ml (P:=P) (w:=wa) lo t u ty e ie z' ie.bytes ht hu hq ua h1 rfl vC v rows.length rows.flatten own.2.1 s hl hb (ad gr hk.size);simp only[vS,bu,hr,aN,bU];have iP:((zc s).map λx=>[x]).flatten=zc s:=by
    induction zc s with
    |nil=>rfl
    |cons a l ih=>simp[ih]
   refine⟨⟨hg.os,hg.tape,hg.output,hg.size,λk uF nL=>hg.block k uF λe=>nL (own.2.2 k e.symm)⟩,n _ _ _ ?_ ⟨?_,?_,?_⟩ ?_⟩
   ·exact⟨hg.os.trans hk.os,hg.tape.trans hk.tape,hg.output.trans hk.output,ad hk.size hg.size,
     λk hx cu=>(hg.block k (aw (hX k hx) hk.size) λe=>cu e.symm).trans (hk.block k hx),λk h=>.inl h,
     λk h=>h.elim (λh=>aw (hX k h) (ad hk.size hg.size)) (λh=>h.2)⟩
   ·intro r hr;rcases List.mem_append.1 hr with h|h
    ·exact own.1 r h
    ·obtain⟨x,_,rfl⟩:=List.mem_map.1 h;rfl
   ·rw[aa,af,No,dX,iP];omega
   ·intro g J0;rcases dc with h|h
    ·exact .inl (own.2.2 g (h▸J0))
    ·rw[J0] at h;cases h;exact .inr ⟨au _,(uA.lt _ J0).2⟩
   ·rcases dc with h|h
    ·exact .inl h
    ·exact .inr ⟨_,h,hk.size⟩
theorem Dp {f:FuncId} {a b:Value} (h:eC P R X w m f #[a,b] N):eF P R X w m (.func (.func f) #[a] #[]) #[b] N:=by
 have e: ∀wa,(Iv (.func (.func f) #[a] #[]) #[b]).run P wa=(callFunc f #[a,b]).run P wa:=by
  intro wa;simp[Iv,lI,invoke]
 intro wa hk;have:=h wa hk
 grind
end Go.aK
namespace Go.aK
variable {P : Program} {R : Ending -> World -> Prop} {X : XS} {w : World} {m : Bool}
def Ow (w:World) (X:XS) (e k:Nat) (v:Value) (rows:List (List Value)):Prop:=
 (∀r∈rows,r.length=k)/\((v= .slice none 0 0/\rows=[])\/ ∃g off cap cur,v= .slice (some ⟨g,off,none⟩) rows.length cap/\X g/\w.heap[g]? =some (.cells cur e (0,0))/\
  rows.length<=cap/\cap<=maxLen/\off+cap*k<=cur.size/\(cur.toList.drop off).take (rows.length*k)=rows.flatten)
theorem Ow.nil (w:World) (X:XS) (e k:Nat):Ow w X e k (.slice none 0 0) []:=⟨by simp,.inl ⟨rfl,rfl⟩⟩
variable {rows : List (List Value)} {v : Value} {e k : Nat}
theorem Own.ow {lo:Nat} (h:Own w X lo e k v rows):Ow w X e k v rows:=by
 obtain⟨h1,h2,h3⟩:=h;refine⟨h1,?_⟩;rcases h2.2 with⟨rfl,hn⟩|⟨g,cap,cur,rfl,hb,hg,ql,iq,jS,ht⟩
 ·simp_all
 ·exact .inr ⟨g,0,cap,cur,rfl,h3 g rfl,hg,ql,iq,by omega,by assumption⟩
theorem Ow.sl (h:Ow w X e k v rows):Sl w X k v rows:=by
 obtain⟨h1,⟨rfl,rfl⟩|⟨g,off,cap,cur,rfl,hx,hg,ql,iq,jS,ht⟩⟩:=h
 ·exact Sl.nil w X k
 ·have hm:cap<=2^63-1:=iq;refine⟨h1,ad ql hm,_,cap,rfl,λ_=>⟨g,off,rfl,hx,cur,e,(0,0),hg,λj v hj=>?_⟩,by simp,ql,hm⟩;rw[<-ht,iM,ee] at hj;split at hj
  ·simpa using hj
  ·cases hj
theorem Ow.one (h:Ow w X e k v rows):one v=true:=h.sl.one
variable {Y : XS}
theorem Ow.mono (h:Ow w X e k v rows) (hs: ∀k,X k->Y k):Ow w Y e k v rows:=by
 obtain⟨h1,h|⟨g,off,cap,cur,hv,hx,hr⟩⟩:=h
 ·exact⟨h1,.inl h⟩
 ·exact⟨h1,.inr ⟨g,off,cap,cur,hv,hs _ hx,hr⟩⟩
variable {w' : World}
theorem Ow.mv (h:Ow w X e k v rows) (m:Mv X w Y w'):Ow w' Y e k v rows:=by
 obtain⟨h1,h|⟨g,off,cap,cur,hv,hx,hg,hr⟩⟩:=h
 ·exact⟨h1,.inl h⟩
 ·obtain⟨m1,m2⟩:=m g hx (Array.getElem?_eq_some_iff.1 hg).1;exact⟨h1,.inr ⟨g,off,cap,cur,hv,m1,by grind,hr⟩⟩
theorem Ow.kp (h:Ow w X e k v rows) (hk:Kp X w w'):Ow w' X e k v rows:=by
 obtain⟨h1,h|⟨g,off,cap,cur,hv,hx,hg,hr⟩⟩:=h
 ·exact⟨h1,.inl h⟩
 ·exact⟨h1,.inr ⟨g,off,cap,cur,hv,hx,by rw[hk.block g hx];exact hg,hr⟩⟩
variable {g : Nat}
theorem Ow.bg (h:Ow w X e k v rows) (hg:v.ownBlock=some g):X g/\g<w.heap.size:=by
 obtain⟨h1,⟨rfl,_⟩|⟨g',off,cap,cur,rfl,hx,hb,hr⟩⟩:=h
 ·cases hg
 ·simp only[iv,aj] at hg;grind
theorem Ow.tag (h:Ow w X e k v rows) (hg:v.ownBlock=some g): ∃cs:List Value,w.heap[g]? =some (.cells cs.toArray e (0,0)):=by
 obtain⟨h1,⟨rfl,_⟩|⟨g',off,cap,cur,rfl,hx,hb,hr⟩⟩:=h
 ·cases hg
 ·simp only[iv,aj] at hg;subst hg;exact⟨cur.toList,by omega⟩
variable {cs : List Value}
theorem Ow.eT {e':Nat} (h:Ow w X e k v rows) (hr:aH w Y g cs e') (he:decide (e≠e')=true):v.ownBlock≠some g:=λhg=>by
 obtain⟨c,h1⟩:=h.tag hg;rw[hr.2] at h1
 grind
variable {F X' : XS}
theorem Ow.dT (h:Ow w X e k v rows) (c:dY F X w X' w') (hd: ∀g,v.ownBlock=some g-> ¬F g):Ow w' X' e k v rows:=by
 obtain⟨h1,h|⟨g,off,cap,cur,rfl,hx,hg,hr⟩⟩:=h
 ·exact⟨h1,.inl h⟩
 ·exact⟨h1,.inr ⟨g,off,cap,cur,rfl,c.sub g hx,by rw[c.block g hx (hd g rfl)];exact hg,hr⟩⟩
theorem Ow.tight (h:Ow w X e k v rows):Ow w (fv v) e k v rows:=by
 obtain⟨h1,h|⟨g,off,cap,cur,rfl,hx,hr⟩⟩:=h
 ·exact⟨h1,.inl h⟩
 ·exact⟨h1,.inr ⟨g,off,cap,cur,rfl,rfl,hr⟩⟩
theorem Aj (t ty e:TypeId) (i:TypeInfo) (ht:P.underlying t=some (.slice e)) (hi:P.info? e=some i)
  (g off lR uU:Nat) (cur:Array Value) (hg:w.heap[g]? =some (.cells cur e (0,0)))
  (a:Addr) (m c:Nat) (news:List Value) (hl:news.length=m*i.size) (aoZ: ∀j u,news[j]? =some u->w.cell? (a.add j)=some u) (h1: ∀u∈news,u.oneCell'=true)
  (xB:lR+m<=uU) (I6:off+lR*i.size+news.length<=cur.size):
  (fp #[t,t] ty #[.slice (some ⟨g,off,none⟩) lR uU,.slice (some a) m c]).run P w=
   .ok (.slice (some ⟨g,off,none⟩) (lR+m) uU) (w.setRow g (cur.toList.take (off+lR*i.size)++news++cur.toList.drop (off+lR*i.size+news.length)).toArray):=by
 have hf:=run_firstCells_some (P:=P) w i.size m a m c news hl aoZ;have fQ:=run_storeCells_at P g (off+lR*i.size) e news 0 cur w hg zQ h1;simp only[Ai] at fQ;simp[fp,run_underlying ht,sizeOf,typeInfo,hi,qW,xB,hf,pD,fQ]
theorem Ak (t ty e:TypeId) (i:TypeInfo) (ht:P.underlying t=some (.slice e)) (hi:P.info? e=some i)
  (b:Addr) (lR uU:Nat) (xB:lR<=uU):
  (fp #[t,t] ty #[.slice (some b) lR uU,.slice none 0 0]).run P w= .ok (.slice (some b) lR uU) w:=by
 simp[fp,run_underlying ht,sizeOf,typeInfo,hi,qW,xB,zL,storeCells]
variable {N : Value -> World -> XS -> Prop} {du : List (List Value)} {s : Value} {bytes t ty : Nat}
theorem Ru
  (he:oD P t e k bytes=true)
  (hX: ∀k,X k->k<w.heap.size) (own:Ow w X e k v rows) (src:Sl w X k s du) (h1: ∀r∈du,∀u∈r,one u=true)
  (hb:(rows.length+du.length)*bytes<=140737488355328) (hl:rows.length+du.length<=2^63-1)
  (n: ∀v' w' X',dY (fv v) X w X' w'->Ow w' X' e k v' (rows++du)->(v'.ownBlock=v.ownBlock\/ ∃g,v'.ownBlock=some g/\w.heap.size<=g)->N v' w' X'):
  eV P R X w true (rY t e k bytes ty v s) N:=by
 obtain⟨hu,iy,By,z,hi,JF,vC⟩:=mI he;obtain⟨rI,⟨rfl,rfl⟩|⟨g,off,cap,cur,rfl,hx,hg,ql,iq,jS,tW⟩⟩:=own
 ·exact Dq (rows:=[]) (du:=du) z hu hi vC iy hX (ak _) (Own.nil w X 0 e k) src h1 hb hl λv2 w2 X2 hg ho dc=>
   n v2 w2 X2 (hg.dT.mono λk _ hk=>hk.symm) ho.ow dc
 ·intro wa hk;have mN:wa.heap[g]? =some (.cells cur e (0,0)):=by rw[hk.block g hx];exact hg
  have src:=src.kp hk;cases hq:P.info? e with
  |none=>simp[hq] at hi
  |some ie=>
   cases ua:ie.zero with
   |none=>simp_all
   |some z'=>
    simp only[hq,ua,cW,aZ,aj,cY] at hi;obtain⟨rfl,rfl,rfl⟩:=hi;unfold rY jV;rcases src.src with⟨rfl,rfl⟩|⟨a,c,rfl,CX⟩
    ·have hr:=Ak (P:=P) (w:=wa) t ty e ie hu hq ⟨g,off,none⟩ rows.length cap ql;simp only[vS,bu,hr,aN,bU];have AY:=Ext.refl wa;have hs:=ai.fc hX hk AY;refine⟨Step.fc AY,n _ _ _ (dY.oh hs _) ?_ (.inl rfl)⟩;rw[List.append_nil];exact⟨rI,.inr ⟨g,off,cap,cur,rfl,.inl hx,mN,ql,iq,jS,tW⟩⟩
    ·have sO:du.flatten.length=du.length*ie.size:=kK src.1;have Wu:rows.flatten.length=rows.length*ie.size:=kK rI;have IW: ∀u∈du.flatten,u.oneCell'=true:=λu hu=>by
      obtain⟨r,hr,hur⟩:=List.mem_flatten.1 hu;rw[<-Qd];exact h1 r hr u hur
     have CW: ∀r∈rows++du,r.length=ie.size:=λr hr=>by
      rcases List.mem_append.1 hr with h|h
      ·exact rI r h
      ·exact src.1 r h
     have ao0:rows.length+du.length<=maxLen:=hl;by_cases xB:rows.length+du.length<=cap
     ·have hmul:(rows.length+du.length)*ie.size<=cap*ie.size:=bR _ xB;rw[jm] at hmul;have hr:=Aj (P:=P) (w:=wa) t ty e ie hu hq g off rows.length cap cur mN a du.length c du.flatten sO CX IW xB zQ;simp only[vS,bu,hr,aN,bU];have Fp: ∀k,k≠g->(wa.setRow g (cur.toList.take (off+rows.length*ie.size)++du.flatten++cur.toList.drop (off+rows.length*ie.size+du.flatten.length)).toArray).heap[k]? =wa.heap[k]? :=λk hk=>setRow_other wa g k _ hk;refine⟨⟨rfl,rfl,rfl,by simp,λk uF nL=>Fp k λe=>nL (e▸hx)⟩,n _ _ _ ?_ ⟨CW,.inr ⟨g,off,cap,_,by rw[aa],.inl hx,setRow_heap wa g cur _ e _ mN,by rw[aa];omega,iq,?_,?_⟩⟩ (.inl rfl)⟩
      ·exact⟨hk.os,hk.tape,hk.output,by simpa using hk.size,λk AY cu=>(Fp k λe=>cu (by rw[e];rfl)).trans (hk.block k AY),λk h=>.inl h,
        λk h=>h.elim (λh=>by have:=hX k h;have:=hk.size;simp;omega) (λh=>h.2)⟩
      ·simp only[lq,aa,aD,cj,fB];omega
      ·have gh:off<=cur.toList.length:=by rw[fB (xs:=cur)];omega
       have e1:(cur.toList.take (off+rows.length*ie.size)).drop off=rows.flatten:=by
        rw[List.drop_take,show off+rows.length*ie.size-off=rows.length*ie.size by omega,tW]
       have yV:(cur.toList.take (off+rows.length*ie.size)).length=off+rows.length*ie.size:=by rw[aD,fB (xs:=cur)];omega
       rw[ao,List.drop_append_of_le_length zQ,e1,aa,jm,dX,<-ao,<-Wu,<-sO,<-aa];exact tw
     ·have holds: ∀j u,rows.flatten[j]? =some u->wa.cell? ((⟨g,off,none⟩:Addr).add j)=some u:=λj u hj=>by
       rw[<-tW,iM,ee] at hj;split at hj
       ·rw[pD];simp only[fw,mN];simpa using hj
       ·cases hj
      have hr:=run_append_grow (P:=P) wa t ty e ie z' hu hq ua ⟨g,off,none⟩ rows.length cap rows.flatten Wu holds a du.length c du.flatten sO CX zQ zQ (growslice_fits zQ hb);simp only[vS,bu,hr,aN,bU];have dC:=grownCap_ge wa (rows.length+du.length) cap e;have iq:grownCap wa (rows.length+du.length) cap e<=maxLen:=grownCap_le_maxLen wa _ cap e ao0;have hblk: ∀k,k<wa.heap.size->(wa.drew.alloc (.cells (rows.flatten.toArray++du.flatten.toArray++jP z'.cells (grownCap wa (rows.length+du.length) cap e-(rows.length+du.length))) e)).heap[k]? =wa.heap[k]? :=λk hk=>heap_alloc_old wa.drew _ hk;refine⟨⟨rfl,rfl,rfl,by simp,λk uF _=>hblk k uF⟩,n _ _ _ ?_ ⟨CW,.inr ⟨wa.heap.size,0,_,_,by rw[aa],.inr ⟨au _,by simp⟩,heap_alloc_new wa.drew _,by rw[aa];omega,iq,?_,?_⟩⟩ (.inr ⟨_,rfl,hk.size⟩)⟩
      ·exact⟨hk.os,hk.tape,hk.output,by have:=hk.size;simp;omega,λk AY _=>(hblk k (aw (hX k AY) hk.size)).trans (hk.block k AY),λk h=>.inl h,
        λk h=>h.elim (λh=>by have:=hX k h;have:=hk.size;simp;omega) (λh=>h.2)⟩
      ·simp only[uT,lq,size_zeroCells,vC,Wu,sO,<-jm];rw[fj];apply bR;omega
      ·simp only[sZ,List.drop_zero,ao,dX];rw[<-ao,aa,jm,<-Wu,<-sO,<-aa];exact tw
section
variable {x : Value} {row : List Value}
theorem XP (own:Ow w X e k v rows) (hX: ∀k,X k->k<w.heap.size) (he:oD P t e k bytes=true) (hx:x.cells.toList=row) (hk:(row.length==k)=true)
  (h1:row.all one=true) (hb:(rows.length+1)*bytes<=140737488355328) (hl:rows.length+1<=2^63-1)
  (n: ∀v' w' X',dY (fv v) X w X' w'->Ow w' X' e k v' (rows++[row])->(v'.ownBlock=v.ownBlock\/ ∃g,v'.ownBlock=some g/\w.heap.size<=g)->N v' w' X'):
  eV P R X w m (gT t e k 1 #[(0,x)]) λs w1 X1=>eV P R X1 w1 true (rY t e k bytes ty v s) N:=by
 obtain⟨hu,iy,By,z,hi,JF,vC⟩:=mI he;have ah:row.length=k:=by simpa using hk
 have J7:x.cells.size=k:=by rw[<-ah,<-hx,fB]
 refine Cs (rows:=[row]) x.cells z hX hu JF zQ zQ ?_ (by simpa using ah) rfl gQ λs w1 X1 aB zF=>?_
 ·simp only[Nat.one_mul];exact FI J7 sQ
 ·refine Ru (du:=[row]) he aB.has (own.mv aB.mv) zF.sl (by simpa using h1) zQ zQ λv2 w2 X2 hg ho dc=>?_;refine n v2 w2 X2 ((dY.oh aB (fv v)).trans hg) ho ?_;rcases dc with h|⟨g,h,dC⟩
  ·exact .inl h
  ·exact .inr ⟨g,h,ad aB.kp.size dC⟩
end
theorem C9: ∀{rows:List (List Value)} (i:Nat),(∀r∈rows,r.length=k)->(rows.drop i).flatten=rows.flatten.drop (i*k)
 |_,0,_=>by simp
 |[],i+1,_=>by simp
 |r::rows,i+1,h=>by
  have hr:=h r sQ;rw[List.drop_succ_cons,C9 i λx hx=>h x (bG _ hx),dd,ly,Nat.add_comm,<-List.drop_drop,List.drop_left' hr]
theorem mf: ∀{rows:List (List Value)} (i:Nat),(∀r∈rows,r.length=k)->(rows.take i).flatten=rows.flatten.take (i*k)
 |_,0,_=>by simp
 |[],i+1,_=>by simp
 |r::rows,i+1,h=>by
  have hr:=h r sQ;have e1:r.take (k+i*k)=r:=az zQ;rw[List.take_succ_cons,dd,mf i λx hx=>h x (bG _ hx),dd,ly,Nat.add_comm,List.take_append,hr,e1,show k+i*k-k=i*k by omega]
variable {z : Int}
theorem XI {z':Int} {i:Nat} {N:Value->Prop} (h:Ow w X e k v rows) (hz:z=i) (tg:z'=i) (hi:i<=rows.length) (ht:P.underlying t=some (.slice (P.elem t)))
  (hs:(P.info? (P.elem t)).map (·.size)=some k)
  (n: ∀v',Ow w X e k v' (rows.take i)->v'.ownBlock=v.ownBlock->N v'):aY P X w (bS t v none (some (.int .i64 z)) (some (.int .i64 z'))) N:=by
 subst hz;subst tg;have hq: ∃inf,P.info? (P.elem t)=some inf/\inf.size=k:=by
  cases hq:P.info? (P.elem t)with
  |none=>grind
  |some inf=>grind
 obtain⟨inf,hq,gh⟩:=hq;obtain⟨h1,⟨rfl,rfl⟩|⟨g,off,cap,cur,rfl,hx,hg,ql,iq,jS,tW⟩⟩:=h
 ·simp only[bL,Nat.le_zero] at hi;subst hi;have oN: ∀wa:World,(bS t (.slice none 0 0) none (some (.int .i64 ((0:Nat):Int))) (some (.int .i64 ((0:Nat):Int)))).run P wa= .ok (.slice none 0 0) wa:=λwa=>by
   rw[run_sliceAt_slice wa t _ _ _ _ ht,show((0:Nat):Int)=0 from rfl,run_slice_hm wa t none 0 0 ht .i64 .i64 0 0 zQ zQ zQ];simp[sizeOf,typeInfo,hq,sliced]
  exact bK oN (n _ (Ow.nil w X e k) rfl)
 ·have hlen:(rows.take i).length=i:=by rw[aD];omega
  have oN: ∀wa:World,(bS t (.slice (some ⟨g,off,none⟩) rows.length cap) none (some (.int .i64 (i:Int))) (some (.int .i64 (i:Int)))).run P wa= .ok (.slice (some ⟨g,off,none⟩) (rows.take i).length i) wa:=λwa=>by
   rw[run_sliceAt_slice wa t _ _ _ _ ht,run_slice_hm wa t _ _ cap ht .i64 .i64 i i zQ zQ zQ,hlen];simp[sizeOf,typeInfo,hq,gh,sliced,pD]
  refine bK oN (n _ ⟨λr hr=>h1 r (List.mem_of_mem_take hr),.inr ⟨g,off,i,cur,rfl,hx,hg,by omega,by omega,?_,?_⟩⟩ rfl)
  ·have:=bR k (ad hi ql);omega
  ·rw[mf i h1,<-tW,List.take_take,hlen,Nat.min_eq_left (bR k hi)]
variable {b : Nat} {A : XS}
theorem dS.eT {κ α:Type} [DecidableEq κ] {kv:κ->Value} {rd:World->XS->Value->α->Prop} {l:List (κ×α)} {e:TypeId} (h:dS w X A b kv rd l) (hr:aH w F g cs e):b≠g:=by
 rintro rfl;obtain⟨es,c,h1,_⟩:=h;have:=h1.2.1;rw[hr.2] at this;cases this
theorem aH.eT {qh:List Value} {e e':TypeId} (h:aH w X b cs e) (hr:aH w F g qh e') (he:decide (e≠e')=true):b≠g:=by
 rintro rfl;have:=h.2;rw[hr.2] at this
 grind
theorem dS.aiO {κ α:Type} [DecidableEq κ] {kv:κ->Value} {rd:World->XS->Value->α->Prop} {l:List (κ×α)} (h:dS w X A b kv rd l) (hr:Ow w F e k v rows):v.ownBlock≠some b:=λhg=>by
 obtain⟨cs,h2⟩:=hr.tag hg;obtain⟨es,c,h1,_⟩:=h;have:=h1.2.1
 grind
section
variable {t : TypeId}
theorem Nb {l:List Value} (hX: ∀k,X k->k<w.heap.size) (hz:(P.info? t).bind (·.zero)=some (.agg l.toArray))
  (n: ∀b w' X',w.heap.size<=b->ai X w X' w'->aH w' X' b l t->N (ptr b 0) w' X'):eV P R X w m (gp t true (.tuple #[])) N:=by
 intro wa hk;unfold jV;have XC: ∀w,(zeroValue t).run P w= .ok (.agg l.toArray) w:=by
  intro w;cases hi:P.info? t with
  |none=>grind
  |some inf=>
   have tg:inf.zero=some (.agg l.toArray):=by simpa [hi] using hz
   simp[zeroValue,typeInfo,hi,tg]
 have hr:(gp t true (.tuple #[])).run P wa= .ok (ptr wa.heap.size 0) (wa.alloc (.cells l.toArray t)):=by simp[gp,XC,newVar,newRow,Value.cells]
 simp only[vS,bu,hr,aN,bU];have hx:Ext wa (wa.alloc (.cells l.toArray t)):=Ext.alloc _ _;exact⟨Step.fc hx,n _ _ _ hk.size (ai.fc hX hk hx) ⟨.inr ⟨au _,by simp⟩,by simpa using heap_alloc_new wa _⟩⟩
theorem agm {c:Nat} (hX: ∀k,X k->k<w.heap.size) (he:oD P t e k bytes=true) (hz:z=c) (hc:c<=2^32) (hb:bytes<=1024) (hk:k<=1024)
  (n: ∀v w' X',ai X w X' w'->Own w' X' w.heap.size e k v []->N v w' X'):eV P R X w m (B6 t (I 0) (I z)) N:=by
 subst hz;obtain⟨hu,iy,By,z,hi,JF,vC⟩:=mI he;intro wa ah;unfold jV;cases hq:P.info? e with
 |none=>simp[hq] at hi
 |some ie=>
  cases ua:ie.zero with
  |none=>simp_all
  |some z'=>
   simp only[hq,ua,cW,aZ,aj,cY] at hi;obtain⟨h1,h2,h3⟩:=hi;have WT:ie.bytes*c<=281474976710656:=by
    have:=ym (show ie.bytes<=1024 by omega) hc;omega
   obtain⟨w',hr,uA,hg⟩:=run_make_own (P:=P) wa w.heap.size t e ie z' k hu hq ua h1 .i64 .i64 c WT (by simp only[maxLen];omega) ah.size;have jY:(B6 t (I 0) (I (c:Int))).run P wa= .ok (.slice (some ⟨wa.heap.size,0,none⟩) 0 c) w':=hr;simp only[vS,bu,jY,aN,bU];have hx:Ext wa w':=⟨hg.os,hg.tape,hg.output,hg.size,λk hk _=>hg.block k hk sQ⟩;refine⟨Step.fc hx,n _ _ _ (ai.fc hX ah hx) ⟨by simp,uA,λg J0=>?_⟩⟩;simp only[iv,aj] at J0;subst J0;exact .inr ⟨au _,(uA.lt _ rfl).2⟩
end
structure Ft (w0:World) (F0:XS) (w:World) (X F:XS):Prop where
 s:ai (out F0 w0) w0 X w
 bg: ∀k,F k->X k
 v: ∀k,F k->F0 k\/w0.heap.size<=k
variable {w0 : World}
section
variable {F0 F' G : XS} {Q : Value -> World -> World -> Prop} {f : FuncId} {args : Array Value}
def Ft.init (h: ∀k,F0 k->k<w.heap.size):Ft w F0 w (bP w) F0:=⟨ai.out _ _,h,λ_ h=>.inl h⟩
def Ft.since (h:Ft w0 F0 w X F) (hs:ai X w X' w'):Ft w0 F0 w' X' F:=⟨h.s.trans hs,λk hk=>hs.sub k (h.bg k hk),h.v⟩
theorem Ft.no (h:Ft w0 F0 w X F) (hk:F k) (h0:out F0 w0 k):False:=by
 rcases h.v k hk with h1|h1
 ·exact h0.2 h1
 ·have:=h0.1;omega
theorem Ft.dT (h:Ft w0 F0 w X F) (c:dY G X w X' w') (hG: ∀k,G k->F k) (hF: ∀k,F' k->F k\/(X' k/\w.heap.size<=k)):Ft w0 F0 w' X' F':=by
 refine⟨h.s.dT c λk h0 hk=>h.no (hG k hk) h0,λk hk=>?_,λk hk=>?_⟩
 ·rcases hF k hk with h1|h1
  ·exact c.sub k (h.bg k h1)
  grind
 ·rcases hF k hk with h1|h1
  ·exact h.v k h1
  ·right;have:=h1.2;have:=h.s.kp.size;omega
theorem Ft.less (h:Ft w0 F0 w X F) (hF: ∀k,F' k->F k):Ft w0 F0 w X F':=⟨h.s,λk hk=>h.bg k (hF k hk),λk hk=>h.v k (hF k hk)⟩
theorem Ft.more (h:Ft w0 F0 w X F) (hF: ∀k,F' k->F k\/(X k/\w0.heap.size<=k)):Ft w0 F0 w X F':=by
 refine⟨h.s,λk hk=>?_,λk hk=>?_⟩
 ·rcases hF k hk with h1|h1
  ·exact h.bg k h1
  grind
 ·rcases hF k hk with h1|h1
  ·exact h.v k h1
  omega
theorem Ft.call (hT:Ft w0 F0 w X F) (h:Ct P f args w X G Q) (hf:enters P f=true) (hG: ∀k,G k->F k)
  (k: ∀v wa w' X',Q v wa w'->w.heap.size<=wa.heap.size->(∀k,made wa w' k->X' k)->Ft w0 F0 w' X' (λk=>F k\/made wa w' k)->dY G X w X' w'->N v w' X'):eC P R X w true f args N:=by
 refine xQ h hf hT.s.has (λq hq=>hT.bg q (hG q hq)) λv wa w' X' hq hle gC DZ hc=>k v wa w' X' hq hle gC ?_ hc;exact hT.dT hc hG λq hq=>hq.imp id λhm=>⟨gC q hm,ad hle hm.1⟩
def Ft.fin {Q:Value->World->Prop} (h:Ft w0 F0 w X F) (hq: ∀wa,Kp X w wa->Q v wa):fin (vy F0 w0 Q) X w v:=acm h.s hq
theorem Ft.jv (h:Ft w0 F0 w X F) {wa:World} (hk:Kp X w wa) (hF: ∀k,F' k->F k): ∀k,F' k->F0 k\/made w0 wa k:=λk ah=>by
 rcases h.v k (hF k ah)with h1|h1
 ·grind
 ·exact .inr ⟨h1,aw (h.s.has k (h.bg k (hF k ah))) hk.size⟩
def Ft.Du (h:Ft w0 nX w X F):ai (aK.bP w0) w0 X w:=
 ⟨⟨h.s.kp.os,h.s.kp.tape,h.s.kp.output,h.s.kp.size,λk ah=>h.s.kp.block k ⟨ah,λh=>h.elim⟩⟩,λk ah=>h.s.sub k ⟨ah,λh=>h.elim⟩,h.s.has⟩
def D6 (w0:World) (X:XS):XS:=λk=>X k/\w0.heap.size<=k
def Ft.new (h:Ft w0 F0 w X F):Ft w0 F0 w X (λk=>F k\/D6 w0 X k):=h.more λk hk=>hk.imp id λh=>h
def Ft.Pp (h:Ft w0 nX w X F):Ft w0 nX w X (D6 w0 X):=h.more λk hk=>.inr hk
def dY.jj (c:dY G X w X' w') (h: ∀k,A k->X k/\ ¬G k):Mv A w A w':=λk hk _=>⟨hk,c.block k (h k hk).1 (h k hk).2⟩
def Kp.jj (hk:Kp X w w') (h: ∀k,A k->X k):Mv A w A w':=λk ah _=>⟨ah,hk.block k (h k ah)⟩
def ai.gY (hs:ai X w X' w') (h: ∀k,A k->X k):Mv A w A w':=λk ah _=>⟨ah,hs.kp.block k (h k ah)⟩
end
theorem ao1 (hT:Ft w0 nX w X (D6 w0 X)) (hO:Ow w (D6 w0 X) e k v rows) (he:oD P t e k bytes=true)
  (src:Sl w X k s du) (h1: ∀r∈du,∀u∈r,one u=true) (hb:(rows.length+du.length)*bytes<=140737488355328) (hl:rows.length+du.length<=2^63-1)
  (n: ∀v' w' X',Ft w0 nX w' X' (D6 w0 X')->Ow w' (D6 w0 X') e k v' (rows++du)->dY (fv v) X w X' w'->(v'.ownBlock=v.ownBlock\/ ∃g,v'.ownBlock=some g/\w.heap.size<=g)->N v' w' X'):
  eV P R X w true (rY t e k bytes ty v s) N:=by
 refine Ru he hT.s.has (hO.mono hT.bg) src h1 hb hl λv' w' X' c ho dc=>?_;have hT':Ft w0 nX w' X' (D6 w0 X'):=Ft.Pp (F:=D6 w0 X) (hT.dT c (λk hk=>(hO.bg hk).1) λk hk=>.inl hk);refine n v' w' X' hT' (ho.tight.mono λk hk=>⟨(ho.bg hk).1,?_⟩) c dc;have ah:v'.ownBlock=some k:=hk;rcases dc with e|⟨g,e,dC⟩
 ·exact(hO.bg (e▸ah)).1.2
 ·rw[ah] at e;have:k=g:=Option.some.inj e;have:=hT.s.kp.size;omega
def Dj (A B:XS):Prop:= ∀k,A k->B k->False
variable {B : XS}
theorem Dj.symm (h:Dj A B):Dj B A:=λk a b=>h k b a
variable {B' : XS}
def Dj.grow {C:XS} (h:Dj A B) (hB: ∀k,B' k->B k\/C k) (hc:Dj A C):Dj A B':=λk a b=>(hB k b).elim (h k a) (hc k a)
theorem Dj.less {A':XS} (h:Dj A B) (ha: ∀k,A' k->A k) (hb: ∀k,B' k->B k):Dj A' B':=λk a b=>h k (ha k a) (hb k b)
end Go.aK
namespace Go.aK
variable {P : Program} {R : Ending -> World -> Prop} {X : XS} {w : World} {m : Bool}
def I7 (w:World) (X:XS) (b:Nat) (cs:List Value) (ty:TypeId):Prop:=X b/\w.heap[b]? =some (.cells cs.toArray ty (cs.length,cs.length+1))
variable {ty : TypeId} {cs : List Value} {b : Nat}
theorem I7.cells (h:I7 w X b cs ty):Cells w X b 0 cs:=⟨h.1,_,_,_,h.2,λj v hj=>by grind⟩
theorem I7.since {Y:XS} {w':World} (h:I7 w X b cs ty) (hs:ai X w Y w'):I7 w' Y b cs ty:=⟨hs.sub _ h.1,by rw[hs.kp.block b h.1];exact h.2⟩
theorem abe (wa:World) (g n:Nat) (cs:Array Value) (e:TypeId) (h:wa.heap[g]? =some (.cells cs e (0,0))):(wa.freeze ⟨g,n,none⟩ 1).heap=wa.heap.setIfInBounds g (.cells cs e (n,n+1)):=by
 unfold vW;rw[if_neg dQ];obtain⟨hl,he⟩:=Array.getElem?_eq_some_iff.1 h;apply Array.ext
 ·simp
 ·intro i h1 h2;simp only[Array.getElem_modify,Array.getElem_setIfInBounds];split
  ·simp_all
  ·rename_i hi;exact(Array.getElem_setIfInBounds_ne (by simpa using h2) hi).symm
variable {N : Value -> World -> XS -> Prop} {e t : Nat}
theorem ak3 {g n c:Nat} (h:aH w X g cs e) (ht:P.underlying t=some (.slice e)) (he:P.underlying e=some (.int .u8)) (hX: ∀k,X k->k<w.heap.size)
  (k: ∀w' X',dY (· =g) X w X' w'->I7 w' X' g cs e->N (.slice (some ⟨g,0,none⟩) n c) w' X'):eV P R X w true (convert t t (.slice (some ⟨g,0,none⟩) n c)) N:=by
 intro wa hk;have hb:=(h.kp hk).2;have cI:=(Array.getElem?_eq_some_iff.1 hb).1;have hsh:wa.shape? g=some (e,cs.length):=by unfold World.shape?;rw[hb];simp
 have hr:(convert t t (.slice (some ⟨g,0,none⟩) n c)).run P wa= .ok (.slice (some ⟨g,0,none⟩) n c) (wa.freeze ⟨g,cs.length,none⟩ 1):=by
  simp[convert,run_underlying ht,run_underlying he,markStringish,hsh]
 have hh:=abe wa g cs.length cs.toArray e hb;unfold jV;simp only[vS,bu,hr,aN,bU];have xl:(wa.freeze ⟨g,cs.length,none⟩ 1).os=wa.os:=by unfold vW;rw[if_neg dQ]
 have htp:(wa.freeze ⟨g,cs.length,none⟩ 1).tape=wa.tape:=by unfold vW;rw[if_neg dQ]
 have xe:(wa.freeze ⟨g,cs.length,none⟩ 1).output=wa.output:=by unfold vW;rw[if_neg dQ]
 have gh:(wa.freeze ⟨g,cs.length,none⟩ 1).heap.size=wa.heap.size:=by rw[hh];simp
 have hblk: ∀q,q≠g->(wa.freeze ⟨g,cs.length,none⟩ 1).heap[q]? =wa.heap[q]? :=λq hq=>by rw[hh,dR,if_neg (Ne.symm hq)]
 refine⟨⟨xl,htp,xe,by omega,λq _ hx=>hblk q λe=>hx (e▸h.1)⟩,k _ _ ?_ ⟨.inl h.1,by rw[hh,dR,if_pos rfl,if_pos cI]⟩⟩;refine⟨xl.trans hk.os,htp.trans hk.tape,xe.trans hk.output,by rw[gh];exact hk.size,λq hx cu=>(hblk q cu).trans (hk.block q hx),λq h=>.inl h,λq h=>?_⟩;rw[gh];exact h.elim (λh=>aw (hX q h) hk.size) (λh=>by omega)
variable {v : Value} {o : Nat}
theorem ao2 (h:I7 w X b cs ty) (ht:(P.info? t).map (·.size)=some 1)
  (hl:o<cs.length) (h1:one v=true) (hX: ∀k,X k->k<w.heap.size)
  (n: ∀w' X',dY (· =b) X w X' w'->I7 w' X' b (cs.set o v) ty->N undef w' X'):eU P R X w true (st1 t 1 (ptr b o) v) N:=by
 intro wa hk;have hb:wa.heap[b]? =some (.cells cs.toArray ty (cs.length,cs.length+1)):=by rw[hk.block b h.1];exact h.2
 have cI:=(Array.getElem?_eq_some_iff.1 hb).1;have hv:v.cells= #[v]:=rG h1;have CX:wa.cell? ⟨b,o,none⟩=some cs[o]:=by simp[fw,hb,hl]
 have aq0:wa.frozen? ⟨b,o,none⟩=false:=by simp[World.frozen?,hb];omega
 have fQ:(store ⟨b,o,none⟩ v).run P wa= .ok () (wa.setRow b (cs.toArray.setIfInBounds o v)):=by
  rw[run_store P wa _ v _ aQ,CX];simp[aq0,setCell_eq_setRow wa b o cs.toArray ty _ v hb]
 have hr:(Instr.storeAt t (ptr b o) v).run P wa= .ok () (wa.setRow b (cs.toArray.setIfInBounds o v)):=by
  cases hi:P.info? t with
  |none=>grind
  |some i=>
   simp only[hi,aZ,aj] at ht;simp[Instr.storeAt,Instr.sureAddr,eI,storeVar,sizeOf,typeInfo,hi,ht,hv,storeCells,pD]
   grind
 unfold st1 jV;simp only[uS,bu,hr,aN,bU];have gh:(wa.setRow b (cs.toArray.setIfInBounds o v)).heap.size=wa.heap.size:=by simp
 refine⟨⟨rfl,rfl,rfl,by omega,λk _ hx=>setRow_other wa b k _ λe=>hx (e▸h.1)⟩,n _ _ ?_ ⟨.inl h.1,?_⟩⟩
 ·refine⟨hk.os,hk.tape,hk.output,by rw[gh];exact hk.size,λk hx cu=>?_,λk h=>.inl h,λk h=>?_⟩
  ·rw[setRow_other wa b k _ cu,hk.block k hx]
  ·rw[gh];exact h.elim (λh=>aw (hX k h) hk.size) (λh=>by omega)
 ·have:=setRow_heap wa b cs.toArray (cs.toArray.setIfInBounds o v) ty _ hb;simp_all
def Cl (l:List Nat):ByteArray:=⟨(l.map UInt8.ofNat).toArray⟩
theorem US (l:List Nat):(Cl l).size=l.length:=by simp[Cl,ByteArray.size]
theorem Sy {src dst cap len:Nat} {l:List Nat} (hlen:len=l.length) (hc:Cells w X b o (l.map λx:Nat=>ay .u8 x)) (hs:P.underlying src=some (.slice e)) (he:P.underlying e=some (.int .u8)) (hd:P.underlying dst=some .string)
  (hX: ∀k,X k->k<w.heap.size) (n: ∀w' X',ai X w X' w'->N (.string (Cl l)) w' X'):eV P R X w m (convert src dst (.slice (some ⟨b,o,none⟩) len cap)) N:=by
 subst hlen;intro wa hk;have hr:=run_convert_bytes_arg (P:=P) wa src e hs he b o l.length cap (l.map λx:Nat=>(x:Int)) sQ (λi hi=>by
  have:=(hc.kp hk).range i (.int .u8 ((l[i]:Nat):Int)) (by simp[hi]);simp_all) dst hd
 have e1:strOfNums (l.map λx:Nat=>(x:Int))=Cl l:=by
  unfold strOfNums Cl;simp
 rw[e1] at hr;unfold jV;simp only[vS,bu,hr,aN,bU];have hx:=Ext.refl wa;exact⟨Step.fc hx,n _ _ (ai.fc hX hk hx)⟩
theorem Zl {t:TypeId} {a b:ByteArray} {N:Value->Prop} (h:a.size+b.size<=2^62) (k:N (.string (a++b))):aY P X w (binOp .add t (.string a) (.string b)) N:=
 bK (λwa=>by
  have:=run_string_add_sum (P:=P) wa a b zQ;assumption) k
theorem ao3 {k bytes ty:Nat} {s:Value} {rows:List (List Value)} {m':Bool} (hX: ∀k,X k->k<w.heap.size) (he:oD P t e k bytes=true) (src:Sl w X k s rows) (h1: ∀r∈rows,∀u∈r,one u=true)
  (hb:rows.length*bytes<=140737488355328) (hl:rows.length<=2^63-1)
  (n: ∀v w' X',ai X w X' w'->Ow w' (D6 w X') e k v rows->N v w' X'):eV P R X w m (gT t e k 0 #[]) λa w1 X1=>eV P R X1 w1 m' (rY t e k bytes ty a s) N:=by
 obtain⟨hu,iy,By,z,hi,JF,vC⟩:=mI he;cases hq:P.info? e with
 |none=>simp[hq] at hi
 |some ie=>
  cases ua:ie.zero with
  |none=>simp[hq,ua] at hi
  |some z'=>
   simp only[hq,ua,cW,aZ,aj,cY] at hi;obtain⟨rfl,rfl,rfl⟩:=hi;intro wa hk;have hr:(jq t 0 #[]).run P wa= .ok (.slice (some ⟨wa.heap.size,0,none⟩) 0 0) (wa.alloc (.cells #[] e)):=by
    simp[jq,run_underlying hu,sizeOf,typeInfo,hq,Instr.fill,newRow];have K3: ∀f:Nat->Value,Array.map f (Array.range 0)= #[]:=λf=>Array.eq_empty_of_size_eq_zero sQ;rw[K3]
   unfold gT jV;simp only[vS,bu,hr,aN,bU];have hx:Ext wa (wa.alloc (.cells #[] e)):=Ext.alloc _ _;have aB:=ai.fc hX hk hx;refine⟨Step.fc hx,?_⟩;intro wb pS;unfold rY jV;have aq1:=(src.since aB).kp pS;have Bu:wb.heap[wa.heap.size]? =some (.cells #[] e (0,0)):=by
    rw[pS.block _ (.inr ⟨au _,by simp⟩)];exact heap_alloc_new wa _
   have gh:=pS.size;have Yb:=aB.kp.size;rcases aq1.src with⟨rfl,rfl⟩|⟨a,c,rfl,CX⟩
   ·have jJ:=Ak (P:=P) (w:=wb) t ty e ie hu hq ⟨wa.heap.size,0,none⟩ 0 0 (au _);simp only[vS,bu,jJ,aN,bU];have bH:=ai.fc aB.has pS (Ext.refl wb);exact⟨Step.fc (Ext.refl _),n _ _ _ (aB.trans bH) ⟨by simp,.inr ⟨wa.heap.size,0,0,#[],rfl,⟨.inl (.inr ⟨au _,by simp⟩),hk.size⟩,Bu,au _,ak _,by simp,by simp⟩⟩⟩
   ·have sO:rows.flatten.length=rows.length*ie.size:=kK src.1;by_cases h0:rows=[]
    ·subst h0;have jJ:=Aj (P:=P) (w:=wb) t ty e ie hu hq wa.heap.size 0 0 0 #[] Bu a 0 c [] sQ sQ sQ (au _) sQ;have e0:wb.setRow wa.heap.size (#[].toList.take (0+0*ie.size)++[]++ #[].toList.drop (0+0*ie.size+([]:List Value).length)).toArray=wb:=by
      have:=setRow_self wb wa.heap.size #[] e (0,0) Bu;simpa using this
     rw[e0] at jJ;have DW:(fp #[t,t] ty #[.slice (some ⟨wa.heap.size,0,none⟩) 0 0,.slice (some a) ([]:List (List Value)).length c]).run P wb= .ok (.slice (some ⟨wa.heap.size,0,none⟩) 0 0) wb:=jJ;simp only[vS,bu,DW,aN,bU];have bH:=ai.fc aB.has pS (Ext.refl wb);exact⟨Step.fc (Ext.refl _),n _ _ _ (aB.trans bH) ⟨by simp,.inr ⟨wa.heap.size,0,0,#[],rfl,⟨.inl (.inr ⟨au _,by simp⟩),hk.size⟩,Bu,au _,ak _,by simp,by simp⟩⟩⟩
    ·have Yr:0<rows.length:=List.length_pos_iff.2 h0;have jJ:=run_append_grow (P:=P) wb t ty e ie z' hu hq ua ⟨wa.heap.size,0,none⟩ 0 0 [] sQ sQ a rows.length c rows.flatten sO CX zQ zQ (growslice_fits zQ (by simpa using hb));simp only[fj] at jJ;simp only[vS,bu,jJ,aN,bU];have dC:=grownCap_ge wb rows.length 0 e;have iq:grownCap wb rows.length 0 e<=maxLen:=grownCap_le_maxLen wb _ 0 e hl;have Xb:Ext wb (wb.drew.alloc (.cells ([].toArray++rows.flatten.toArray++jP z'.cells (grownCap wb rows.length 0 e-rows.length)) e)):=⟨rfl,rfl,rfl,by simp,λk hk _=>heap_alloc_old wb.drew _ hk⟩;have gC:w.heap.size<=wb.heap.size:=ad Yb gh;refine⟨Step.fc Xb,n _ _ _ (aB.trans (ai.fc aB.has pS Xb)) ⟨src.1,.inr ⟨wb.heap.size,0,_,_,rfl,⟨.inr ⟨au _,by simp⟩,gC⟩,heap_alloc_new wb.drew _,dC,iq,?_,?_⟩⟩⟩
     ·simp only[uT,lq,size_zeroCells,vC,sO,bL,fj,<-jm];apply bR;omega
     ·simp only[sZ,List.drop_zero,bp];rw[<-sO];exact tw
variable {o' : Nat}
theorem qo (h:aH w X b cs ty) (Mm:o'=o) (ht:(P.info? t).map (·.size)=some 1)
  (hl:o<cs.length) (h1:one v=true) (hX: ∀k,X k->k<w.heap.size)
  (n: ∀w' X',dY (· =b) X w X' w'->aH w' X' b (bM cs o [v]) ty->N undef w' X'):eU P R X w true (st1 t 1 (ptr b o') v) N:=by
 subst Mm;have hv:=rG h1;refine CV h ht zQ (by rw[hv];rfl) gQ hX λw' X' c hr=>n w' X' c ?_
 grind
theorem Gn {sz:Nat} (h:aH w X b cs ty) (Mm:o'=o) (ht:(P.info? t).map (·.size)=some sz)
  (hl:o+sz<=cs.length) (hv:v.cells.size=sz) (h1:v.cells.toList.all one=true) (hX: ∀k,X k->k<w.heap.size)
  (n: ∀w' X',dY (· =b) X w X' w'->aH w' X' b (bM cs o v.cells.toList) ty->N undef w' X'):eU P R X w true (st1 t sz (ptr b o') v) N:=by
 subst Mm;exact CV h ht hl hv h1 hX n
end Go.aK
namespace Go.aK
variable {P : Program} {R : Ending -> World -> Prop} {X : XS} {w : World} {m : Bool}
variable {N : Value -> Prop} {i k : Nat} {z : Int} {v : Value} {t : TypeId}
theorem abS {rows:List (List Value)} (h:Sl w X k v rows) (hz:z=i) (hi:i<=rows.length) (ht:P.underlying t=some (.slice (P.elem t))) (hs:(P.info? (P.elem t)).map (·.size)=some k)
  (n: ∀v',Sl w X k v' (rows.drop i)->N v'):aY P X w (bS t v (some (.int .i64 z)) none none) N:=by
 subst hz;obtain⟨h1,h2,base,cap,rfl,hc,hb,hlc,iq⟩:=h;have hq: ∃inf,P.info? (P.elem t)=some inf/\inf.size=k:=by
  cases hq:P.info? (P.elem t)with
  |none=>grind
  |some inf=>grind
 obtain⟨inf,hq,gh⟩:=hq;have oN: ∀wa:World,(bS t (.slice base rows.length cap) (some (.int .i64 (i:Int))) none none).run P wa= .ok (sliced base i rows.length cap k) wa:=λwa=>by
  rw[run_sliceAt_slice wa t _ _ _ _ ht,run_slice_l wa t _ _ cap ht .i64 i zQ zQ];simp[sizeOf,typeInfo,hq,gh]
 refine bK oN (n _ ?_);refine⟨λr hr=>h1 r (List.mem_of_mem_drop hr),by rw[cj];omega,_,cap-i,by unfold sliced;rw[cj],λcu=>?_,λxM=>?_,by rw[cj];omega,by omega⟩
 ·have lU:i<rows.length:=by
   refine Nat.lt_of_not_le λhle=>cu (List.drop_of_length_le hle)
  obtain⟨b,o,rfl,jS⟩:=hc gQ;refine⟨b,o+i*k,?_,?_⟩
  ·rw[if_neg zQ];simp only[aZ,aj];unfold Addr.add;split
   ·grind
   ·rfl
  ·rw[aK.C9 i h1];obtain⟨hx,c,ty,fr,dO,BU⟩:=jS;exact⟨hx,c,ty,fr,dO,λj v hj=>by rw[ee] at hj;have:=BU _ _ hj;rwa [<-Nat.add_assoc] at this⟩
 ·split at xM
  ·omega
  ·have:base=none:=by simpa using xM
   grind
variable {z' : Int} {cap j n : Nat}
theorem abR {a:Option Addr} {q:Nat} {z2:Int} (hz:z=i) (tg:z'=j) (JF:z2=q) (hi:i<=j) (hj:j<=q) (hq:q<=cap) (ht:P.underlying t=some (.slice (P.elem t))) (hs:((P.info? (P.elem t)).map (·.size)).isSome=true)
  (h: ∀v,N v):aY P X w (bS t (.slice a n cap) (some (.int .i64 z)) (some (.int .i64 z')) (some (.int .i64 z2))) N:=by
 subst hz;subst tg;subst JF;obtain⟨k,hk⟩:=Option.isSome_iff_exists.1 hs;refine bK (v:=sliced a i j q k) (λwa=>?_) (h _);rw[run_sliceAt_slice wa t _ _ _ _ ht,run_slice_lhm wa t a n cap ht .i64 .i64 .i64 i j q zQ zQ zQ zQ];cases hq:P.info? (P.elem t)with
 |none=>grind
 |some inf=>
  have:inf.size=k:=by simpa [hq] using hk
  simp[sizeOf,typeInfo,hq,this]
variable {g off : Nat}
theorem Xv (hz:z=i) (tg:z'=j) (hi:i<=j) (hj:j<=cap) (hic:i<cap) (ht:P.underlying t=some (.slice (P.elem t))) (hs:(P.info? (P.elem t)).map (·.size)=some k)
  (h:N (.slice (some ⟨g,off+i*k,none⟩) (j-i) (cap-i))):aY P X w (bS t (.slice (some ⟨g,off,none⟩) n cap) (some (.int .i64 z)) (some (.int .i64 z')) none) N:=by
 subst hz;subst tg;refine bK (λwa=>?_) h;rw[run_sliceAt_slice wa t _ _ _ _ ht,run_slice_lh wa t _ n cap ht .i64 .i64 i j zQ zQ zQ];cases hq:P.info? (P.elem t)with
 |none=>grind
 |some inf=>
  have:inf.size=k:=by simpa [hq] using hs
  have cu: ¬cap=i:=by omega
  simp[sizeOf,typeInfo,hq,sliced,this,pD,cu]
variable {bytes e ty : Nat}
theorem Xu {t:Nat} {s:Value} {cur:List Value} {du:List (List Value)} {N:Value->World->XS->Prop} (he:oD P t e k bytes=true) (h:aH w X g cur e) (src:Sl w X k s du) (h1: ∀r∈du,∀u∈r,one u=true)
  (xB:n+du.length<=cap) (I6:off+n*k+du.length*k<=cur.length) (hX: ∀k,X k->k<w.heap.size)
  (nx: ∀w' X',dY (λk=>k=g) X w X' w'->aH w' X' g (bM cur (off+n*k) du.flatten) e->N (.slice (some ⟨g,off,none⟩) (n+du.length) cap) w' X'):
  eV P R X w true (rY t e k bytes ty (.slice (some ⟨g,off,none⟩) n cap) s) N:=by
 obtain⟨hu,iy,By,z,hi,JF,vC⟩:=mI he;intro wa hk;have hb:=(h.kp hk).2;have src:=src.kp hk;cases hq:P.info? e with
 |none=>grind
 |some ie=>
  cases ua:ie.zero with
  |none=>simp_all
  |some z'=>
   simp only[hq,ua,cW,aZ,aj,cY] at hi;obtain⟨rfl,rfl,rfl⟩:=hi;unfold rY jV;rcases src.src with⟨rfl,rfl⟩|⟨a,c,rfl,CX⟩
   ·have hr:=Ak (P:=P) (w:=wa) t ty e ie hu hq ⟨g,off,none⟩ n cap zQ;simp only[vS,bu,hr,aN,bU];have AY:=Ext.refl wa;have hs:=ai.fc hX hk AY;refine⟨Step.fc AY,nx _ _ (dY.oh hs _) ?_⟩;have:bM cur (off+n*ie.size) ([]:List (List Value)).flatten=cur:=by simp[bM]
    rw[this];exact h.since hs
   ·have sO:du.flatten.length=du.length*ie.size:=kK src.1;have IW: ∀u∈du.flatten,u.oneCell'=true:=λu hu=>by
     obtain⟨r,hr,hur⟩:=List.mem_flatten.1 hu;rw[<-Qd];exact h1 r hr u hur
    have hr:=Aj (P:=P) (w:=wa) t ty e ie hu hq g off n cap cur.toArray hb a du.length c du.flatten sO CX IW xB (by rw[sO,lq];omega);simp only[vS,bu,hr,aN,bU];have Fp: ∀k,k≠g->(wa.setRow g (bM cur (off+n*ie.size) du.flatten).toArray).heap[k]? =wa.heap[k]? :=λk hk=>setRow_other wa g k _ hk;refine⟨⟨rfl,rfl,rfl,by simp,λk uF nL=>Fp k λe=>nL (e▸h.1)⟩,nx _ _ ⟨hk.os,hk.tape,hk.output,by simpa using hk.size,λk hx cu=>(Fp k cu).trans (hk.block k hx),λk h=>.inl h,
     λk h=>h.elim (λh=>by have:=hX k h;have:=hk.size;simp;omega) (λh=>h.2)⟩ ⟨.inl h.1,?_⟩⟩
    exact setRow_heap wa g cur.toArray _ e _ hb
def Zm (P:Program) (e:TypeId):Bool:=match(P.info? e).bind (·.zero)with
 |some z=>z.cells.toList.all one
 |none=>false
theorem Xw {t o:Nat} {cs:List Value} {tb:TypeId} {N:Value->World->XS->Prop} (h:aH w X g cs tb) (he:oD P t e k bytes=true) (hzo:Zm P e=true) (h0:0<n) (hl:o+n*k<=cs.length) (hX: ∀k,X k->k<w.heap.size)
  (nx: ∀w' X' zs,zs.length=n*k->dY (λk=>k=g) X w X' w'->aH w' X' g (bM cs o zs) tb->N (.tuple #[]) w' X'):
  eV P R X w true (nz #[t] ty #[.slice (some ⟨g,o,none⟩) n cap]) N:=by
 obtain⟨hu,iy,By,z,hi,JF,vC⟩:=mI he;intro wa hk;have hb:=(h.kp hk).2;cases hq:P.info? e with
 |none=>simp[hq] at hi
 |some ie=>
  cases ua:ie.zero with
  |none=>simp_all
  |some z'=>
   simp only[hq,ua,cW,aZ,aj,cY] at hi;obtain⟨rfl,rfl,rfl⟩:=hi;have XC: ∀w,(zeroValue e).run P w= .ok z' w:=by
    intro w;simp[zeroValue,typeInfo,hq,ua]
   obtain⟨zs,aiP⟩: ∃zs,zs=(jP z'.cells n).toList:=⟨_,rfl⟩;have Xx:zs.length=n*ie.size:=by rw[aiP,fB,size_zeroCells,vC]
   have HM: ∀v∈zs,v.oneCell'=true:=λv hv=>by
    rw[aiP] at hv;simp only[jP,nQ,List.mem_map,Array.toList_range,List.mem_range] at hv;obtain⟨q,LH,rfl⟩:=hv;have cI:q % z'.cells.size<z'.cells.size:=Nat.mod_lt _ zQ;rw[getElem!_pos z'.cells _ cI];have:=hzo;simp only[Zm,hq,cW,ua,lG] at this;rw[<-Qd];exact this _ sQ
   have fQ:=run_storeCells_at P g o tb zs 0 cs.toArray wa hb (by simp[Xx];omega) HM;simp only[Ai] at fQ;obtain⟨q,rfl⟩: ∃q,n=q+1:=⟨n-1,by omega⟩;have hr:(nz #[t] ty #[.slice (some ⟨g,o,none⟩) (q+1) cap]).run P wa= .ok (.tuple #[]) (wa.setRow g (bM cs o zs).toArray):=by
    simp only[nz];simp[run_underlying hu,XC,<-aiP,fQ,bM]
   unfold jV;simp only[vS,bu,hr,aN,bU];have Fp: ∀k,k≠g->(wa.setRow g (bM cs o zs).toArray).heap[k]? =wa.heap[k]? :=λk hk=>setRow_other wa g k _ hk;refine⟨⟨rfl,rfl,rfl,by simp,λk uF nL=>Fp k λe=>nL (e▸h.1)⟩,nx _ _ zs Xx ⟨hk.os,hk.tape,hk.output,by simpa using hk.size,λk hx cu=>(Fp k cu).trans (hk.block k hx),λk h=>.inl h,
    λk h=>h.elim (λh=>by have:=hX k h;have:=hk.size;simp;omega) (λh=>h.2)⟩ ⟨.inl h.1,?_⟩⟩
   exact setRow_heap wa g cs.toArray _ tb _ hb
variable {P : Program}
variable {w : World} {args : Array Value} {fn : Func} {pl : gA}
theorem anv (hn:fn.ntmps=pl.n) (ajB:args.size<=pl.n) (xJ:(pl.boxes.all λp=>decide (args.size<=p.1))=true):
  fH pl ⟨[],[]⟩ .start (nC args) (bP w) w { tmps:=args++dh (fn.ntmps-args.size) undef,defers:=[] } w:=by
 have acE:(args++dh (fn.ntmps-args.size) undef).size=pl.n:=by simp;omega
 have DB: ∀s,s<pl.n->(args++dh (fn.ntmps-args.size) undef)[s]? =some (nC args s):=by
  intro s hs;rw[kR];split
  ·rename_i h1;simp[nC,qt,h1]
  ·rename_i h1;rw[jH,if_pos zQ];simp only[nC,qt];simp_all
 have KU: ∀b n,look pl.boxes b=some n->nC args b=undef:=by
  intro b n hb;have h1:=List.all_eq_true.1 xJ _ (Cd hb);simp only[decide_eq_true_eq] at h1;simp only[nC,qt];rw[List.getElem?_eq_none zQ];rfl
 exact {
  size:=acE
  defers:=rfl
  Au:=λ_ hp=>(by cases hp)
  ext:=Kp.refl _ _
  xH:=λ_ hk=>hk
  rj:=λs hs=>DB s (tH hs).1
  sig:=λ_ hp=>(by cases hp)
  box:=λb n hb cells hc=>by rw[KU b n hb] at hc;cases hc
  inj:=λb b' n n' hb dO h1=>by rw[KU b n hb] at h1;cases h1
  conv:=λb n hb k hk=>by
   have h1:=List.all_eq_true.1 xJ _ (Cd hb);simp only[decide_eq_true_eq] at h1;rw[kR,if_neg zQ,jH] at hk;split at hk
   ·cases hk
   ·cases hk
  live:=λ_ hp=>(by cases hp)
  ptr:=λ_ hp=>(by cases hp) }
def Idle (P:Program) (g:FuncId):Prop:=enters P g=true/\ ∀gI w,CallsD P g gI .returning w λe u' w'=>(∃x,e= .returned x)/\u'= .returning/\w'=w
variable {w0 : World} {X : XS}
theorem fH.aside {ds:Bk} {env:Env} {a:Act} {d:Nat} (h:fH pl ds .start env X w0 a w) (hd:d<pl.n) (hb:look pl.boxes d=none) (hg:pl.km d=false):
  fH pl ds .start env X w0 (a.put (some d) v) w:=by
 have ne: ∀b n,look pl.boxes b=some n->b≠d:=λb n dO e=>by grind
 exact {
  size:=by simp[Act.put,h.size]
  defers:=h.defers
  Au:=λp hp=>by
   obtain⟨ht,h2⟩:=h.Au p hp;refine⟨?_,h2⟩;have cu:p.1≠d:=λe=>by grind
   rw[gv _ _ _ _ cu];exact ht
  ext:=h.ext
  xH:=h.xH
  rj:=λs hs=>by
   have tp:s≠d:=λe=>by grind
   rw[gv _ _ _ _ tp];exact h.rj s hs
  sig:=λ_ hp=>(by cases hp)
  box:=λb n dO cells hc=>by
   obtain⟨k,ty,h1,h2⟩:=h.box b n dO cells hc;exact⟨k,ty,by rw[gv _ _ _ _ (ne b n dO)];exact h1,h2⟩
  inj:=λb b' n n' h1 h2 h3 h4 k h5 h6=>h.inj b b' n n' h1 h2 h3 h4 k (by rwa [gv _ _ _ _ (ne b n h1)] at h5) (by rwa [gv _ _ _ _ (ne b' n' h2)] at h6)
  conv:=λb n dO k hk=>h.conv b n dO k (by rwa [gv _ _ _ _ (ne b n dO)] at hk)
  live:=λ_ hp=>(by cases hp)
  ptr:=λ_ hp=>(by cases hp) }
def isSimple:TI->Bool
 | .box .. =>true
 | .Cb .. =>true
 | .zY _=>true
 | .set .. =>true
 |_=>false
def Dv:List TI->Env->Env
 |[],e=>e
 | .box b _ x::l,e=>Dv l (jX e b (.agg (x.ev e).cells))
 | .Cb b x::l,e=>Dv l (jX e b (.agg #[x.ev e]))
 | .set d x::l,e=>Dv l (jX e d (x.ev e))
 |_::l,e=>Dv l e
theorem zM {jg:List PanicEntry->Env->World->XS->Prop} {next:Env->World->XS->Prop} : ∀(l:List TI) (env:Env),l.all isSimple=true->ij P jg next l env w X->
  ij P jg (λe w' X'=>e=Dv l env/\next e w' X') l env w X
 |[],env,_,h=>⟨rfl,h⟩
 |i::l,env,hs,h=>by
  rw[List.all_cons,aA] at hs;obtain⟨h1,h2⟩:=hs;cases i with
  |box b n x=>exact dM.2 ⟨(dM.1 h).1,zM l _ h2 (dM.1 h).2⟩
  |Cb b x=>exact dM.2 ⟨(dM.1 h).1,zM l _ h2 (dM.1 h).2⟩
  |zY b=>exact dM.2 ⟨(dM.1 h).1,zM l _ h2 (dM.1 h).2⟩
  |set d x=>exact zM l _ h2 h
  |_=>cases h1
def vX:List Operand->Option (List Nat)
 |[]=>some []
 | .tmp b::l=>(vX l).map (b:: ·)
 |_::_=>none
def aiQ:Value->Option Value
 | .agg ⟨[v]⟩=>some v
 |_=>none
def Rv:List Nat->Bool
 |[]=>true
 |b::l=>!yP l b&&Rv l
theorem OK: ∀{l:List Operand} {cb:List Nat},vX l=some cb->l=cb.map .tmp
 |[],cb,h=>by simp only[vX,aj] at h;subst h;rfl
 |x::l,cb,h=>by
  cases x with
  |tmp b=>
   simp only[vX,Option.map_eq_some_iff] at h;obtain⟨c,h1,rfl⟩:=h;rw[OK h1];rfl
  |const v=>simp[vX] at h
  |global v=>simp[vX] at h
  |func v=>simp[vX] at h
theorem acq {tmps:Array Value} : ∀(cb:List Nat),(∀b∈cb,∃k,tmps[b]? =some (eI k 0))-> ∃ks:List Nat,ks.length=cb.length/\ ∀(i:Nat) b,cb[i]? =some b-> ∃k,ks[i]? =some k/\tmps[b]? =some (eI k 0)
 |[],_=>⟨[],rfl,λi b h=>by simp at h⟩
 |b::cb,h=>by
  obtain⟨k,hk⟩:=h b sQ;obtain⟨ks,h1,h2⟩:=acq cb λc hc=>h c (bG _ hc);refine⟨k::ks,by simp[h1],λi c hc=>?_⟩;cases i with
  |zero=>simp only[List.getElem?_cons_zero,aj] at hc;subst hc;exact⟨k,rfl,hk⟩
  |succ i=>simpa using h2 i c aQ
theorem OL: ∀{l:List Nat},Rv l=true->l.Nodup
 |[],_=>List.nodup_nil
 |b::l,h=>by
  simp only[Rv,aA,de] at h;exact List.nodup_cons.2 ⟨λhm=>by
   rw[As.2 hm] at h
   grind,OL h.2⟩
theorem S2 {α:Type} {cb:List Nat} {ks:List α} {p:Nat×α} (h:p∈cb.zip ks): ∃i:Nat,cb[i]? =some p.1/\ks[i]? =some p.2:=by
 obtain⟨i,hi,e⟩:=List.getElem_of_mem h;refine⟨i,?_⟩;have h2:(cb.zip ks)[i]? =some p:=by rw[aS hi,e]
 rw[ub] at h2;exact h2
structure Outside (ks:List Nat) (w wa:World):Prop where
 os:wa.os=w.os
 tape:wa.tape=w.tape
 output:wa.output=w.output
 size:w.heap.size<=wa.heap.size
 block: ∀k,k<w.heap.size-> ¬k∈ks->wa.heap[k]? =w.heap[k]?
theorem Outside.refl (ks:List Nat) (w:World):Outside ks w w:=⟨rfl,rfl,rfl,au _,λ_ _ _=>rfl⟩
variable {ks : List Nat}
theorem Outside.trans {a b c:World} (h:Outside ks a b) (k:Outside ks b c):Outside ks a c:=
 ⟨k.os.trans h.os,k.tape.trans h.tape,k.output.trans h.output,ad h.size k.size,λi hl hi=>(k.block i (aw hl h.size) hi).trans (h.block i hl hi)⟩
theorem Outside.kp {wa:World} (h:Outside ks w wa) (k:Kp X w0 w) (hl: ∀i,X i->i<w.heap.size) (hX: ∀i,i∈ks-> ¬X i):Kp X w0 wa:=
 ⟨h.os.trans k.os,h.tape.trans k.tape,h.output.trans k.output,ad k.size h.size,λi hi=>(h.block i (hl i hi) λhm=>hX i hm hi).trans (k.block i hi)⟩
def Rb (P:Program) (pl:gA) (fn:Func) (R:Ending->World->Prop) (g:FuncId) (cb:List Nat) (cv:List (Option Value)) (RP:List PanicEntry->World->Prop):Prop:=
 ∀(ks:List Nat) (Fo:List (Array Value)) ch w',ks.length=cb.length->Fo.length=cb.length->ks.Nodup->(∀(i:Nat) k cells,ks[i]? =some k->Fo[i]? =some cells-> ∃ty,w'.heap[k]? =some (.cells cells ty (0,0)))->
  (∀(i:Nat) v cells,cv[i]? =some (some v)->Fo[i]? =some cells->cells= #[v])->(∀(i:Nat) b n cells,cb[i]? =some b->look pl.boxes b=some n->Fo[i]? =some cells->cells.size=n)->(∀wa,Outside ks w' wa->RP ch wa)->
  CallsD P g (ks.map λk=>eI k 0).toArray (.panicking ch) w' λe u mJ=>(∃x,e= .returned x)/\settle u= .returning/\ ∃v,R (.returned v) mJ/\
   ∀tmps:Array Value,(∀(i:Nat) b k,cb[i]? =some b->ks[i]? =some k->tmps[b]? =some (eI k 0))->(results fn tmps).run P mJ= .ok v mJ
def Gy (R:Ending->World->Prop) (RP:List PanicEntry->World->Prop):Ending->World->Prop
 | .panicked ch,w=>RP ch w
 |e,w=>R e w
theorem agn {l:List Nat} (h: ∀(i j:Nat) k,l[i]? =some k->l[j]? =some k->i=j):l.Nodup:=
 List.pairwise_iff_getElem.2 λi j hi hj wq e=>by
  have:=h i j l[i] (aS hi) gQ;omega
def yp (fn:Func):List Nat:=fn.results.toList.map λr=>match r with
 | .cell c _=>c
 | .tmp t=>t
def aiR (fn:Func):Bool:=fn.results.toList.all λr=>match r with
 | .cell _ _=>true
 | .tmp _=>false
def ftD (P:Program) (pl:gA) (fn:Func):Option FT:=
 if fn.ntmps==pl.n then match fn.body with
  |some (.seq (.region _ aeD false) (.seq (.region _ zn false) rest))=>match zn.toList with
   |[mk,df]=>match df.op,df.guard,df.dst with
    | .defer ⟨.value (.tmp d),⟨[]⟩,_⟩,none,none=>match Ix P pl aeD aeD.toList .start,Ix P pl zn [mk] .start,jR P pl rest with
     |some t0,some t1,some t2=>match t1 with
      |[.rd d' (.makeFunc (.func _) ⟨[]⟩ _) _ _]=>
       if d'==d&&pl.km d&&(yp fn).all (λc=>pl.km c&&!yP t2.mk c&&!yP t2.wr c)&&aiR fn&&!(t2.wr.contains d)&&!fn.results.isEmpty then some ⟨.seq (.BO t0) (.seq (.BO t1) t2),(yp fn).map Ex.t++[Ex.t d],[]⟩else none
      |_=>none
     |_,_,_=>none
    |_,_,_=>none
   |_=>none
  |_=>none
 else none
def HY (P:Program) (fn:Func) (R:Ending->World->Prop) (vs:List Value) (u:FrameMode) (w:World):Prop:=
 ∃(ps:List Value) (g:FuncId) (gI:Array Value),vs=ps++[Value.func (.func g) #[] gI]/\enters P g=true/\
  CallsD P g gI u w λe' u' w'=> ∃x v,e'= .returned x/\settle u'= .returning/\
   (∀tmps:Array Value,(∀(i:Nat) c,(yp fn)[i]? =some c->tmps[c]? =ps[i]?)->(results fn tmps).run P w'= .ok v w')/\R (.returned v) w'
def dP (P:Program) (fn:Func) (R:Ending->World->Prop) (vs:List Value):Ending->World->Prop
 | .returned _,w=>HY P fn R vs .returning w
 | .panicked ch,w=>HY P fn R vs (.panicking ch) w
 | .outgrown,_=>False
def nP:Ending->World->Prop:=λ_ _=>False
def ajV (P:Program) (fn:Func) (R:Ending->World->Prop) (res:List Ex):lY
 | .normal,e,w,X| .ret,e,w,X=> ∀wa,Kp X w wa->HY P fn R (res.map (·.ev e)) .returning wa
 | .panic ch,e,w,X=> ∀wa,Kp X w wa->HY P fn R (res.map (·.ev e)) (.panicking ch) wa
 |_,_,_,_=>False
def anw (P:Program) (pl:gA) (fn:Func) (R:Ending->World->Prop) (args:Array Value) (w:World):Prop:=match ftD P pl fn with
 |some ft=>match ft.code with
  | .seq (.BO t0) (.seq (.BO t1) t2)=>ij P (λch _ w X=>pn nP ch w X) (λe w X=>ij P (λch _ w X=>pn nP ch w X) (λe w X=>den P t2 (ajV P fn R ft.res) e w X) t1 e w X) t0 (nC args) w (bP w)
  |_=>False
 |none=>False
variable {R : Ending -> World -> Prop}
theorem Zn {f:FuncId} {V:Prop} (hf:P.funcs[f]? =some fn)
  (hs:(decide (args.size<=pl.n)&&pl.boxes.all λp=>decide (args.size<=p.1))=true) (hv:V=anw P pl fn R args w) (h:V):Calls P f args w R:=by
 subst hv;unfold anw at h;simp only[aA,decide_eq_true_eq] at hs;split at h;case h_2=>exact h.elim
 rename_i ft hc;unfold ftD at hc;split at hc;case isFalse=>cases hc
 rename_i hn;have mL:fn.ntmps=pl.n:=by simpa using hn
 split at hc;case h_2=>cases hc
 rename_i _ id0 aeD id1 zn rest hb;split at hc;case h_2=>cases hc
 rename_i _ mk df aeE;split at hc;case h_2=>cases hc
 rename_i _ _ _ d Zo aiS Zp JD;split at hc;case h_2=>cases hc
 rename_i _ _ _ t0 t1 t2 xd Gq qJ;split at hc;case h_2=>cases hc
 rename_i _ d' g0 CY ty ss;split at hc;case isFalse=>cases hc
 rename_i th;simp only[aA,beq_iff_eq,de,lG] at th;obtain⟨⟨⟨⟨⟨KT,hgd⟩,hgc⟩,od⟩,hwr⟩,cu⟩:=th;subst KT;injection hc with hc
 subst hc;have hdw: ¬d'∈t2.wr:=λhm=>by simp[hm] at hwr
 have aiT:=anv (w:=w) mL hs.1 gQ;refine calls_of_wp_defers hf hb ?_
 let K:=ajV P fn R ((yp fn).map Ex.t++[Ex.t d'])
 have hnp: ∀{ch X w0 w'},Kp X w0 w'->pn nP ch w0 X->False:=λhk hq=>hq _ hk;have h0:ij P (λch _ w X=>pn nP ch w X) (λe w X=>ij P (λch _ w X=>pn nP ch w X) (λe w X=>den P t2 K e w X) [.rd d' (.makeFunc (.func g0) ⟨[]⟩ CY) ty ss] e w X) t0 (nC args) w (bP w):=h;refine wp_seq (wp_region_list (Qh (P:=P) (pl:=pl) (ds:=⟨[],[]⟩) ?_ ?_ aeD.toList .start t0 _ _ _ _ _ xd (λ_ _ _ hp=>by cases hp) aiT h0));case refine_2=>exact λch a' w' dx X' eH _ hk _ hq=>(hnp hk hq).elim
 intro WR a1 w1 xI X1 Mn aB hd1;replace aB:=aB.drop
 show(Code.seq (Code.region id1 zn false) rest).wp P (bodyPostD P fn R) a1 w1
 refine wp_seq (wp_region_list ?_);rw[aeE];have h1:ij P (λch _ w X=>pn nP ch w X) (λe w X=>den P t2 (λex e' w' X'=>K ex e' w' X'/\ ∀s,¬s∈t2.wr->e' s=e s) e w X/\ ∃gI,e d'= .func (.func g0) #[] gI) [.rd d' (.makeFunc (.func g0) ⟨[]⟩ CY) ty ss] xI Mn X1:=by
  obtain⟨v,hv,hq⟩: ∃v,Rd P X1 Mn (P6 (Ga xI ss) (.makeFunc (.func g0) ⟨[]⟩ CY) ty) v/\den P t2 K (jX xI d' v) Mn X1:=hd1;refine⟨v,hv,nj t2 hq λex e w' X' _ he hk=>⟨hk,he⟩,?_⟩;have hr:(vS (cL (.func g0) (xG (Ga xI ss) ⟨[]⟩) (xG (Ga xI ss) CY))).run P Mn= .ok (.value v) Mn:=hv Mn (Kp.refl _ _);rw[Sd,Sd] at hr;rw[mU];simp[vS,cL] at hr;exact⟨_,hr.symm⟩
 have h2:=Qh (P:=P) (pl:=pl) (ds:=⟨[],[]⟩) (ops:=zn) (Q:=λex a w=>match ex with
   | .normal=>wpList P zn (Exit.then (rest.wp P (bodyPostD P fn R)) (bodyPostD P fn R)) [df] a w
   |ex=>Exit.then (rest.wp P (bodyPostD P fn R)) (bodyPostD P fn R) ex a w) ?_ ?_ [mk] .start _ xI X1 Mn a1 w1 Gq (λ_ _ _ hp=>by cases hp) aB h1
 ·assumption
 ·rintro cs2 a2 w2 FK X2 w02 bH ⟨rH,gI,qI⟩
  show wpList P zn _ [df] a2 w2
  have TL:a2.eval (.tmp d')= .func (.func g0) #[] gI:=by
   have:=bH.rj d' hgd;simp[Act.eval,nJ,this,qI]
  have oN:(execOp a2.eval df).run P w2= .ok (.defer { target:=.fn (.func g0) gI,args:= #[] }) w2:=by
   simp[execOp,aiS,resolve,TL,lI]
  unfold wpList;have hw:cP df (yielded zn a2.tmps)=true:=by simp[cP,Zp]
  rw[if_pos hw];left;unfold Oper.wp;rw[oN,B7,JD]
  show rest.wp P (bodyPostD P fn R) { a2 with defers:= { target:=.fn (.func g0) gI,args:= #[] } ::a2.defers } w2
  rw[bH.defers];have yc:=bH.drop;have dt:fH pl ⟨[{ target:=.fn (.func g0) gI,args:= #[] }],(yp fn).map λc=>(c,FK c)⟩ .start FK X2 w02 { a2 with defers:=[{ target:=.fn (.func g0) gI,args:= #[] }] } w2:=
   ⟨yc.size,rfl,λp hp=>by
    obtain⟨c,hc,rfl⟩:=List.mem_map.1 hp;have hg:=(hgc c hc).1.1;exact⟨bH.rj c hg,.inr hg⟩,yc.ext,yc.xH,yc.rj,yc.sig,yc.box,yc.inj,yc.conv,yc.live,yc.ptr⟩
  refine wp_mono (MV (pl:=pl) (ds:=⟨[{ target:=.fn (.func g0) gI,args:= #[] }],(yp fn).map λc=>(c,FK c)⟩) rest t2 _ FK X2 w02 _ w2 qJ (λb dO p hp e=>?_) dt rH) λex a' w' hq=>?_
  ·obtain⟨c,hc,rfl⟩:=List.mem_map.1 hp;have h3:=(hgc c hc).1.2;have e:c=b:=e;rw[e,As.2 dO] at h3;cases h3
  have hcw: ∀c∈yp fn,¬c∈t2.wr:=λc hc hm=>by
   have h3:=(hgc c hc).2;rw[As.2 hm] at h3;cases h3
  have close: ∀(e:Env) (u:FrameMode) (wx:World),u≠ .run->(∀s,¬s∈t2.wr->e s=FK s)->(∀c∈yp fn,a'.tmps[c]? =some (FK c))->
    HY P fn R (((yp fn).map Ex.t++[Ex.t d']).map (·.ev e)) u wx->Leaves P fn a'.tmps R [{ target:=.fn (.func g0) gI,args:= #[] }] u wx:=by
   rintro e u wx hu he htm ⟨vs,g,ao4,UG,aiU,hcd⟩;rw[List.map_append,List.map_map,bh,List.map_nil] at UG;obtain⟨kV,rX⟩:=List.append_inj' UG rfl;simp only[List.cons.injEq,and_true] at rX;have aq2:(Value.func (.func g0) #[] gI)= .func (.func g) #[] ao4:=by
    rw[<-qI,<-he d' hdw];exact rX
   injection aq2 with YG _ vj
   injection YG with YG
   subst YG;subst vj;refine leaves_cons hu (f:=g0) (args:=gI) ?_ ?_
   ·simp only[invoke];have:=pG aiU (#[]++gI) wx;simpa using this
   ·refine hcd.mono ?_;rintro _ u' mJ ⟨x,v,rfl,IH,O1,hR⟩
    show Leaves P fn a'.tmps R [] (settle u') mJ
    rw[IH];refine⟨v,O1 _ λi c hi=>?_,hR⟩;have lJ:c∈yp fn:=av hi;rw[htm c lJ,<-kV,cN,hi]
    show some (FK c)=some (e c)
    rw[he c (hcw c lJ)]
  have done:(∃env X w0,fH pl ⟨[{ target:=.fn (.func g0) gI,args:= #[] }],(yp fn).map λc=>(c,FK c)⟩ .start env X w0 a' w'/\K .ret env w0 X/\ ∀s,¬s∈t2.wr->env s=FK s)->Leaves P fn a'.tmps R a'.defers .returning w':=by
   rintro⟨e,X',eH,h5,h6,h7⟩;rw[h5.defers];exact close e .returning w' sQ h7 (λc hc=>(h5.Au (c,FK c) (List.mem_map.2 ⟨c,hc,rfl⟩)).1) (h6 w' h5.ext)
  cases ex with
  |normal=>exact done hq
  |ret=>exact done hq
  |panic ch=>
   obtain⟨h5,e,X',eH,h6,⟨h7,h8⟩,AT⟩:=hq
   show Leaves P fn a'.tmps R a'.defers (.panicking ch) w'
   rw[h5];exact close e (.panicking ch) w' sQ h8 (λc hc=>(AT.2 (c,FK c) (List.mem_map.2 ⟨c,hc,rfl⟩)).1) (h7 w' h6)
  |exit i=>obtain⟨e,X',eH,h5,h6,_⟩:=hq;exact h6.elim
  |goto i=>obtain⟨e,X',eH,h5,h6,_⟩:=hq;exact h6.elim
  |outgrown=>exact hq.elim
 ·exact λch a' w' dx X' eH _ hk _ hq=>(hnp hk hq).elim
end Go.aK
namespace Go.aK
variable {P : Program} {R : Ending -> World -> Prop} {X F G : XS} {w w0 : World} {m : Bool}
def Fk (F:XS) (w0:World) (Q:Value->World->Prop) (QP:List PanicEntry->World->Prop):Ending->World->Prop:=λe w'=>
 (∃v,e= .returned v/\Fr F w0 w'/\Q v w')\/ ∃ch,e= .panicked ch/\Fr F w0 w'/\QP ch w'
def Fj (P:Program) (f:FuncId) (args:Array Value) (w:World) (X F:XS) (Q:Value->World->World->Prop) (QP:List PanicEntry->World->World->Prop):Prop:=
 ∀wa,Kp X w wa->Calls P f args wa (Fk F wa (λv w'=>Q v wa w') λch w'=>QP ch wa w')
variable {QP : List PanicEntry -> World -> World -> Prop} {args : Array Value} {f : FuncId}
def Fj.mono {Q Q':Value->World->World->Prop} {Ye:List PanicEntry->World->World->Prop} (h:Fj P f args w X F Q QP) (k: ∀v wa w',Kp X w wa->Q v wa w'->Q' v wa w') (kp: ∀ch wa w',Kp X w wa->QP ch wa w'->Ye ch wa w'):Fj P f args w X F Q' Ye:=
 λwa hk=>(h wa hk).mono λ_ _ hq=>hq.imp (λ⟨v,he,hf,hq⟩=>⟨v,he,hf,k v wa _ hk hq⟩) λ⟨v,he,hf,hq⟩=>⟨v,he,hf,kp v wa _ hk hq⟩
variable {N : Value -> World -> XS -> Prop}
theorem ao5 {Q:Value->World->World->Prop}
  (h:Fj P f args w X F Q QP) (hf:enters P f=true) (hX: ∀k,X k->k<w.heap.size) (hF: ∀k,F k->X k)
  (k: ∀v wa w' X',Q v wa w'->w.heap.size<=wa.heap.size->(∀k,made wa w' k->X' k)->Kp X w wa->dY F X w X' w'->N v w' X')
  (kp: ∀ch wa w' X',QP ch wa w'->w.heap.size<=wa.heap.size->(∀k,made wa w' k->X' k)->Kp X w wa->dY F X w X' w'-> ∀wb,Kp X' w' wb->R (.panicked ch) wb):eC P R X w true f args N:=by
 intro wa hk;unfold jV;rw[pG hf args wa];refine⟨rfl,(h wa hk).mono ?_⟩;rintro e w' (⟨v,rfl,wD,hq⟩|⟨ch,rfl,wD,hq⟩)
 ·exact⟨wD.mono hF,k v wa w' _ hq hk.size (λg hg=>.inr hg) hk (dY.aev hX hk wD)⟩
 ·exact⟨wD.mono hF,kp ch wa w' _ hq hk.size (λg hg=>.inr hg) hk (dY.aev hX hk wD)⟩
variable {x : Value} {t : TypeId}
theorem SE (hX: ∀k,X k->k<w.heap.size) (h: ∀wa,Kp X w wa->R (.panicked [{ v:=.iface t x,recovered:=false }]) wa):eV P R X w m (kY (.iface t x)) N:=by
 intro wa hk;have hr:(vS (kY (.iface t x))).run P wa= .halt (.panic (.iface t x)) wa:=by simp[vS,kY,goPanic,Sem.run]
 unfold jV;rw[hr];refine⟨Step.fc (Ext.refl wa),λwb hb=>h wb ⟨hb.os.trans hk.os,hb.tape.trans hk.tape,hb.output.trans hk.output,ad hk.size hb.size,λk hx=>(hb.block k (.inl hx)).trans (hk.block k hx)⟩⟩
def isIface (P:Program) (t:TypeId):Bool:=match P.underlying t with
 |some (.interface _)=>true
 |some _=>false
 |none=>true
theorem SD {N:Value->Prop} (ht:isIface P t=false) (h:N (.iface t x)):aY P X w (jf t x) N:=by
 unfold isIface at ht;cases hu:P.underlying t with
 |none=>simp[hu] at ht
 |some d=>refine bK (v:=.iface t x) (λwa=>?_) h;cases d<;>simp_all [jf,run_underlying hu]
theorem akn {st:TypeId} {N:Value->Prop} (ht:isIface P t=false) (h:N (.tuple #[x,.bool true])):aY P X w (oF (.iface t x) st t true) N:=by
 unfold isIface at ht;cases hu:P.underlying t with
 |none=>simp[hu] at ht
 |some d=>refine bK (v:=.tuple #[x,.bool true]) (λwa=>?_) h;cases d<;>simp_all [oF,run_underlying hu]
variable {wa : World} {v : Value} {RP : List PanicEntry -> World -> Prop} {R : Ending -> World -> Prop}
section
variable {F0 X' : XS} {Q : Value -> World -> World -> Prop}
def Ft.Gw (hT:Ft w0 F0 w X F) (h:Fj P f args w X G Q QP) (hf:enters P f=true) (hG: ∀k,G k->F k)
  (k: ∀v wa w' X',Q v wa w'->w.heap.size<=wa.heap.size->(∀k,made wa w' k->X' k)->Ft w0 F0 w' X' (λk=>F k\/made wa w' k)->dY G X w X' w'->N v w' X')
  (kp: ∀ch wa w' X',QP ch wa w'->w.heap.size<=wa.heap.size->(∀k,made wa w' k->X' k)->Ft w0 F0 w' X' (λk=>F k\/made wa w' k)->dY G X w X' w'-> ∀wb,Kp X' w' wb->R (.panicked ch) wb):eC P R X w true f args N:=
 ao5 h hf hT.s.has (λq hq=>hT.bg q (hG q hq)) (λv wa w' X' hq hle gC _ hc=>k v wa w' X' hq hle gC (hT.dT hc hG λq hq=>hq.imp id λhm=>⟨gC q hm,ad hle hm.1⟩) hc)
  λch wa w' X' hq hle gC _ hc=>kp ch wa w' X' hq hle gC (hT.dT hc hG λq hq=>hq.imp id λhm=>⟨gC q hm,ad hle hm.1⟩) hc
theorem Ft.fr (h:Ft w0 F0 w X F) (hk:Kp X w wa):Fr F0 w0 wa:=
 ⟨hk.os.trans h.s.kp.os,hk.tape.trans h.s.kp.tape,hk.output.trans h.s.kp.output,ad h.s.kp.size hk.size,
  λk hl hn=>(hk.block k (h.s.sub k ⟨hl,hn⟩)).trans (h.s.kp.block k ⟨hl,hn⟩)⟩
def Ft.yf {Q:Value->World->Prop} {QP:List PanicEntry->World->Prop} (h:Ft w0 F0 w X F) (hq: ∀wa,Kp X w wa->Q v wa):aK.fin (Fk F0 w0 Q QP) X w v:=
 λwa hk=>.inl ⟨v,rfl,h.fr hk,hq wa hk⟩
def Ft.jg {ch:List PanicEntry} {Q:Value->World->Prop} {QP:List PanicEntry->World->Prop} (h:Ft w0 F0 w X F) (hk:Kp X w wa) (hq:QP ch wa):Fk F0 w0 Q QP (.panicked ch) wa:=.inr ⟨ch,rfl,h.fr hk,hq⟩
def ago (h:aK.fin R X w v):aK.fin (Gy R RP) X w v:=λwa hk=>h wa hk
def Ft.adY {Q:Value->World->Prop} (h:Ft w0 F0 w X F) (hq: ∀wa,Kp X w wa->Q v wa):aK.fin (Gy (vy F0 w0 Q) RP) X w v:=
 ago (h.fin hq)
def Ft.ret {Q:Value->World->Prop} (h:Ft w0 F0 w X F) (hk:Kp X w wa) (hq:Q v wa):vy F0 w0 Q (.returned v) wa:=⟨v,rfl,h.fr hk,hq⟩
def Ct.Gw (hT:Ft w0 F0 w X F) (h:Ct P f args w X G Q) (hf:enters P f=true) (hG: ∀k,G k->F k)
  (k: ∀v wa w' X',Q v wa w'->w.heap.size<=wa.heap.size->(∀k,made wa w' k->X' k)->Ft w0 F0 w' X' (λk=>F k\/made wa w' k)->dY G X w X' w'->N v w' X'):eC P R X w true f args N:=
 hT.call h hf hG k
end
end Go.aK
namespace Go.aK
variable {P : Program}
def ao6 (ops:Array Oper):Bool:=match ops.toList with
 |[mk,df]=>match mk.op,mk.guard,mk.dst,df.op,df.guard,df.dst with
  | .makeFunc (.func _) ⟨[]⟩ _,none,some d',.defer ⟨.value (.tmp d),⟨[]⟩,_⟩,none,none=>d'==d
  |_,_,_,_,_,_=>false
 |_=>false
def Dw:Code->Option (Code×Nat×Array Oper×Code)
 | .seq (.region id ops false) rest=>if ao6 ops then some (.skip,id,ops,rest)else match Dw rest with
  |some (p,i,o,r)=>some (.seq (.region id ops false) p,i,o,r)
  |none=>none
 | .seq a b=>match Dw b with
  |some (p,i,o,r)=>some (.seq a p,i,o,r)
  |none=>none
 |_=>none
def Rw (fn:Func):Option (Code×Nat×Array Oper×Code):=match fn.body with
 |some c=>Dw c
 |none=>none
def ftL (P:Program) (pl:gA) (fn:Func):Option FT:=
 if fn.ntmps==pl.n then match Rw fn with
  |some (c1,_,zn,rest)=>match zn.toList with
   |[mk,df]=>match mk.op,mk.guard,mk.dst,df.op,df.guard,df.dst with
    | .makeFunc (.func _) ⟨[]⟩ CY,none,some d',.defer ⟨.value (.tmp d),⟨[]⟩,_⟩,none,none=>match jR P pl c1,vX CY.toList,jR P pl rest,EF P pl fn.results.toList with
     |some t1,some cb,some t2,some (r,n)=>if d'==d&&decide (d<pl.n)&&(look pl.boxes d).isNone&&!pl.km d&&Rv cb&&cb.all (λb=>(look pl.boxes b).isSome&&!yP t2.mk b)then some ⟨.seq t1 (.seq (.BO (cb.map .zY)) t2),r,n⟩else none
     |_,_,_,_=>none
    |_,_,_,_,_,_=>none
   |_=>none
  |none=>none
 else none
def Yz (fn:Func):Option (FuncId×List Nat):=match Rw fn with
 |some (_,_,zn,_)=>match zn.toList with
  |[mk,_]=>match mk.op with
   | .makeFunc (.func g) _ CY=>(vX CY.toList).map λcb=>(g,cb)
   |_=>none
  |_=>none
 |none=>none
def aiV (P:Program) (pl:gA) (fn:Func) (args:Array Value):List (Option Value):=match Rw fn,Yz fn with
 |some (c1,_,_,rest),some (_,cb)=>match jR P pl c1,jR P pl rest with
  |some (.BO t0),some t2=>if t0.all isSimple then cb.map λb=>if yP t2.wr b then none else aiQ (Dv t0 (nC args) b)else []
  |_,_=>[]
 |_,_=>[]
def noP (R:Ending->World->Prop):Ending->World->Prop
 | .panicked _,_=>False
 |e,w=>R e w
def aiW (P:Program) (o:Option FT) (R1 R2:Ending->World->Prop) (args:Array Value) (w:World):Prop:=match o with
 |some ft=>match ft.code with
  | .seq t1 t2=>den P t1 (lY.Gb (λe w X=>den P t2 (OV ft R2) e w X) (OV ft R1)) (nC args) w (bP w)
  |_=>False
 |none=>False
variable {pl : gA}
theorem aeF {next:Env->World->XS->Prop} {K:lY} {Q:Exit->Act->World->Prop} {id:Nat} {o1:Array Oper} {rest:Code}
  (hn: ∀env X w0 a w,fH pl ⟨[],[]⟩ .start env X w0 a w->next env w0 X->(Code.seq (Code.region id o1 false) rest).wp P Q a w)
  (hK: ∀ex a w,ex≠ .normal->QP pl ⟨[],[]⟩ K ex a w->Q ex a w): ∀(c c1:Code),Dw c=some (c1,id,o1,rest)-> ∀(t1:T) (env:Env) (X:XS) (w0:World) (a:Act) (w:World),
   jR P pl c1=some t1->fH pl ⟨[],[]⟩ .start env X w0 a w->den P t1 (lY.Gb next K) env w0 X->c.wp P Q a w:=by
 intro c
 induction c with
 |seq x y ihx ihy=>
  intro c1 hs t1 env X w0 a w hc h hd;have key: ∀p,Dw y=some (p,id,o1,rest)->c1= .seq x p->(Code.seq x y).wp P Q a w:=λp hp Gq=>by
   subst Gq;simp only[jR] at hc;cases hx:jR P pl x with
   |none=>simp[hx] at hc
   |some tx=>
    cases hy:jR P pl p with
    |none=>simp[hx,hy] at hc
    |some ty=>
     simp only[hx,hy,aj] at hc;have KT:den P (.seq tx ty) (lY.Gb next K) env w0 X:=by
      subst hc;split at hd
      ·exact hd
      ·show den P tx (lY.Gb (λe w X=>den P .skip (lY.Gb next K) e w X) (lY.Gb next K)) env w0 X
       refine nj tx hd λex e w' X' _ _ hq=>?_;cases ex<;>exact hq
      ·exact hd
     refine wp_seq (wp_mono (MV (pl:=pl) (ds:=⟨[],[]⟩) x tx _ env X w0 a w hx (λ_ _ _ hp=>by cases hp) h KT) λex a' w' hq=>?_);cases ex with
     |normal=>
      obtain⟨e,X',eH,h1,h2⟩:=hq;exact ihy p hp ty e X' eH a' w' hy h1 h2
     |exit i=>exact hK _ _ _ sQ hq
     |goto i=>exact hK _ _ _ sQ hq
     |ret=>exact hK _ _ _ sQ hq
     |panic c=>exact hK _ _ _ sQ hq
     |outgrown=>exact hK _ _ _ sQ hq
  unfold Dw at hs;split at hs
  ·rename_i id' ops asd heq;simp only[Dt] at heq;obtain⟨rfl,rfl⟩:=heq;split at hs
   ·simp only[aj,cY] at hs;obtain⟨rfl,rfl,rfl,rfl⟩:=hs;simp only[jR,aj] at hc;subst hc;exact hn env X w0 a w h hd
   ·split at hs
    ·rename_i p i o r hp;simp only[aj,cY] at hs;obtain⟨rfl,rfl,rfl,rfl⟩:=hs;exact key p hp rfl
    ·cases hs
  ·rename_i x' y' _ heq;simp only[Dt] at heq;obtain⟨rfl,rfl⟩:=heq;split at hs
   ·rename_i p i o r hp;simp only[aj,cY] at hs;obtain⟨rfl,rfl,rfl,rfl⟩:=hs;exact key p hp rfl
   ·cases hs
  ·cases hs
 |_=>grind [Dw]
variable {X : XS} {w : World}
theorem UT {K:Env->World->XS->Prop} {jg:List PanicEntry->Env->World->XS->Prop} {env:Env} : ∀(l:List Nat),ij P jg K (l.map TI.zY) env w X->(∀b∈l,dE (env b)=true)/\K env w X
 |[],h=>⟨λ_ h=>(by cases h),h⟩
 |b::l,h=>by
  have h':=dM.1 h;have ih:=UT l h'.2;exact⟨λc hc=>by
   rcases List.mem_cons.1 hc with rfl|hc
   ·exact h'.1
   ·exact ih.1 c hc,ih.2⟩
variable {cb : List Nat} {R : Ending -> World -> Prop} {fn : Func}
def Eg {g:FuncId} :Rb P pl fn R g cb [] λ_ _=>False:=
 λks Fo ch w' _ _ _ _ _ _ h=>(h w' (Outside.refl _ _)).elim
theorem Zq {f:FuncId} {args:Array Value} {RP:List PanicEntry->World->Prop} {g0:FuncId} {cv:List (Option Value)} {V:Prop} (hf:P.funcs[f]? =some fn)
  (hs:(decide (args.size<=pl.n)&&pl.boxes.all λp=>decide (args.size<=p.1))=true) (Ci:Yz fn=some (g0,cb)) (hcv:cv=[]\/cv=aiV P pl fn args) (pc:Idle P g0) (tW:Rb P pl fn R g0 cb cv RP) (hv:V=aiW P (ftL P pl fn) (noP R) (Gy R RP) args w) (h:V):Calls P f args w R:=by
 subst hv;unfold aiW at h;simp only[aA,decide_eq_true_eq] at hs;split at h;case h_2=>exact h.elim
 rename_i ft hc;unfold ftL at hc;split at hc;case isFalse=>cases hc
 rename_i hn;have mL:fn.ntmps=pl.n:=by simpa using hn
 split at hc;case h_2=>cases hc
 rename_i _ c1 id1 zn rest EK;split at hc;case h_2=>cases hc
 rename_i _ mk df aeE;split at hc;case h_2=>cases hc
 rename_i _ _ _ _ _ _ g CY d' d Zo anx hmg hmd aiS Zp JD;split at hc;case h_2=>cases hc
 rename_i _ _ _ _ t1 tA t2 r nd Gq jS qJ O1;split at hc;case isFalse=>cases hc
 rename_i th;simp only[aA,beq_iff_eq,de,decide_eq_true_eq,Option.isNone_iff_eq_none,lG] at th;obtain⟨⟨⟨⟨⟨KT,jT⟩,hdb⟩,aq3⟩,qf⟩,xJ⟩:=th;subst KT;injection hc with hc
 subst hc;have ao7:=Ci;unfold Yz at Ci;rw[EK] at Ci;dsimp only at Ci;rw[aeE] at Ci;dsimp only at Ci;rw[anx] at Ci;dsimp only at Ci;rw[jS] at Ci;simp only[aZ,aj,cY] at Ci;obtain⟨rfl,rfl⟩:=Ci;obtain⟨aiU,ao8⟩:=pc;have aiT:=anv (w:=w) mL hs.1 gQ;have adH: ∃c,fn.body=some c/\Dw c=some (c1,id1,zn,rest):=by
  unfold Rw at EK;split at EK
  ·rename_i c hb;exact⟨c,hb,EK⟩
  ·cases EK
 obtain⟨c,hb,aq4⟩:=adH;refine calls_of_wp_defers hf hb ?_
 let K:=OV ⟨.seq t1 (.seq (.BO (tA.map .zY)) t2),r,nd⟩ (Gy R RP)
 let S:Env->Prop:=λe=> ∀(i:Nat) b v,tA[i]? =some b->cv[i]? =some (some v)-> ¬b∈t2.wr/\e b= .agg #[v]
 have h0:den P t1 (lY.Gb (λe w X=>S e/\den P (.seq (.BO (tA.map .zY)) t2) K e w X) (OV ⟨.seq t1 (.seq (.BO (tA.map .zY)) t2),r,nd⟩ (noP R))) (nC args) w (bP w):=by
  have hn: ∀(N:Env->World->XS->Prop),(∀e,S e)->(λe w X=>S e/\N e w X)=N:=λN hS=>by
   funext e w X;exact propext ⟨λh=>h.2,λh=>⟨hS e,h⟩⟩
  have Sf:cv=[]\/ ∃t0,t1= .BO t0/\t0.all isSimple=true/\cv=tA.map λb=>if yP t2.wr b then none else aiQ (Dv t0 (nC args) b):=by
   rcases hcv with h|h
   ·exact .inl h
   ·unfold aiV at h;rw[EK,ao7] at h;dsimp only at h;rw[Gq,qJ] at h;split at h
    ·rename_i t0 t2' e1 e2;cases e1;cases e2;split at h
     ·rename_i ha;exact .inr ⟨t0,rfl,ha,h⟩
     ·exact .inl h
    ·exact .inl h
  rcases Sf with hS|⟨t0,rfl,ha,aq5⟩
  ·rw[hn _ λe i b v _ h=>by rw[hS] at h;simp at h];exact h
  ·have h2:=zM t0 (nC args) ha (show ij P _ _ t0 (nC args) w (bP w)from h);refine IA t0 h2 (λe w' X' _ _ ⟨he,hq⟩=>⟨λi b v g1 g2=>?_,hq⟩) λ_ _ _ _ _ _ hq=>hq;subst he;rw[aq5,cN,g1] at g2;simp only[aZ,aj] at g2;split at g2
   ·cases g2
   ·rename_i hnw;refine⟨λhm=>hnw (As.2 hm),?_⟩;generalize Dv t0 (nC args) b=u at g2;unfold aiQ at g2;split at g2
    ·cases g2;rfl
    ·cases g2
 refine aeF (P:=P) (pl:=pl) ?_ ?_ c c1 aq4 t1 (nC args) (bP w) w _ w Gq aiT h0;case refine_2=>
  intro ex a w hex hq;cases ex with
  |normal=>exact absurd rfl hex
  |ret=>
   obtain⟨e,X',eH,h5,h6⟩:=hq;have h6':jh (nd.all λb=>dE (e b)) (∀wa,Kp X' eH wa->R (.returned (WJ r e)) wa):=h6;obtain⟨h7,h8⟩:=dM.1 h6'
   show Leaves P fn a.tmps R a.defers .returning w
   rw[h5.defers];exact⟨_,MW h5 O1 (List.all_eq_true.1 h7),h8 w h5.ext⟩
  |panic ch=>obtain⟨_,e,X',eH,h6,h7,_⟩:=hq;exact(h7 w h6).elim
  |exit i=>obtain⟨e,X',eH,h5,h6⟩:=hq;exact h6.elim
  |goto i=>obtain⟨e,X',eH,h5,h6⟩:=hq;exact h6.elim
  |outgrown=>exact hq.elim
 intro xI X1 Mn a1 w1 aB ⟨mn,hd0⟩;have aq6:ij P (λch=>lY.Gb (λe w X=>den P t2 K e w X) K (.panic ch)) (λe w X=>den P t2 K e w X) (tA.map .zY) xI Mn X1:=hd0;obtain⟨aq7,hd1⟩:=UT _ aq6;have pS: ∀b∈tA,(∃n,look pl.boxes b=some n)/\ ∃k,a1.tmps[b]? =some (eI k 0):=λb dO=>by
  obtain⟨n,hn⟩:=Option.isSome_iff_exists.1 (xJ b dO).1;obtain⟨cells,qI⟩:=wH.1 (aq7 b dO);obtain⟨k,ty,g1,_⟩:=aB.box b n hn cells qI;exact⟨⟨n,hn⟩,k,g1⟩
 obtain⟨ks,uF,JR⟩:=acq tA λb dO=>(pS b dO).2;have ao9: ∀p,p∈tA.zip (ks.map λk=>eI k 0)->a1.tmps[p.1]? =some p.2/\((∃n k,look pl.boxes p.1=some n/\p.2=eI k 0)\/pl.km p.1=true):=λp hp=>by
  obtain⟨i,g1,g2⟩:=S2 hp;obtain⟨k,g3,g4⟩:=JR i p.1 g1;rw[cN,g3] at g2;simp only[aZ,aj] at g2;obtain⟨⟨n,hn⟩,_⟩:=pS p.1 (av g1);exact⟨by rw[<-g2];exact g4,.inl ⟨n,k,hn,g2.symm⟩⟩
 have aq8:ks.Nodup:=by
  refine agn λi j k hi hj=>?_;have lU:i<tA.length:=by rw[<-uF];exact(List.getElem?_eq_some_iff.1 hi).1
  have D4:j<tA.length:=by rw[<-uF];exact(List.getElem?_eq_some_iff.1 hj).1
  have gi:tA[i]? =some tA[i]:=aS lU;have gj:tA[j]? =some tA[j]:=aS D4;obtain⟨k1,e1,f1⟩:=JR i _ gi;obtain⟨k2,e2,f2⟩:=JR j _ gj;rw[hi] at e1;cases e1;rw[hj] at e2;cases e2;obtain⟨⟨m1,pV⟩,_⟩:=pS tA[i] (BJ lU);obtain⟨⟨m2,rO⟩,_⟩:=pS tA[j] (BJ D4);have:=aB.inj tA[i] tA[j] m1 m2 pV rO (aB.conv _ _ pV _ f1) (aB.conv _ _ rO _ f2) k f1 f2;exact(List.getElem_inj (OL qf)).1 this
 refine wp_seq (wp_region_list ?_);rw[aeE];have EP:cP mk (yielded zn a1.tmps)=true:=by simp[cP,hmg]
 have ajW:CY.map a1.eval=(ks.map λk=>eI k 0).toArray:=by
  apply xz;rw[nQ,(OK jS),List.map_map];refine lj λi=>?_;rw[cN,cN];cases hci:tA[i]? with
  |none=>
   have:ks[i]? =none:=by rw[List.getElem?_eq_none_iff] at hci⊢;omega
   rw[this];rfl
  |some b=>
   obtain⟨k,g1,g2⟩:=JR i b hci;rw[g1];simp[Act.eval,nJ,g2]
 have ajX:(execOp a1.eval mk).run P w1= .ok (.value (.func (.func g) #[] (ks.map λk=>eI k 0).toArray)) w1:=by
  rw[<-ajW];simp[execOp,anx,cL]
 have apa: ∀b∈tA,b≠d':=λb dO e=>by
  obtain⟨⟨n,hn⟩,_⟩:=pS b dO;rw[e,hdb] at hn;cases hn
 clear ajW;generalize hcg:(ks.map λk=>eI k 0).toArray=gI at ajX;unfold wpList;rw[if_pos EP];left;unfold Oper.wp;rw[ajX,Oper.upon_value,hmd];have bH:=aB.aside (v:=.func (.func g) #[] gI) jT hdb aq3;have TL:(a1.put (some d') (.func (.func g) #[] gI)).eval (.tmp d')= .func (.func g) #[] gI:=by
  have:d'<a1.tmps.size:=by rw[aB.size];exact jT
  simp[Act.eval,Act.put,nJ,this]
 have agp: ∀p,p∈tA.zip (ks.map λk=>eI k 0)->(a1.put (some d') (.func (.func g) #[] gI)).tmps[p.1]? =some p.2/\((∃n k,look pl.boxes p.1=some n/\p.2=eI k 0)\/pl.km p.1=true):=λp hp=>by
  obtain⟨g1,g2⟩:=ao9 p hp;obtain⟨i,g3,_⟩:=S2 hp;exact⟨by rw[gv _ _ _ _ (apa p.1 (av g3))];exact g1,g2⟩
 generalize a1.put (some d') (.func (.func g) #[] gI)=a2 at bH TL agp;have oN:(execOp a2.eval df).run P w1= .ok (.defer { target:=.fn (.func g) gI,args:= #[] }) w1:=by
  simp[execOp,aiS,resolve,TL,lI]
 unfold wpList;have hw:cP df (yielded zn a2.tmps)=true:=by simp[cP,Zp]
 rw[if_pos hw];left;unfold Oper.wp;rw[oN,B7,JD]
 show rest.wp P (bodyPostD P fn R) { a2 with defers:= { target:=.fn (.func g) gI,args:= #[] } ::a2.defers } w1
 rw[bH.defers];have dt:fH pl ⟨[{ target:=.fn (.func g) gI,args:= #[] }],tA.zip (ks.map λk=>eI k 0)⟩ .start xI X1 Mn { a2 with defers:=[{ target:=.fn (.func g) gI,args:= #[] }] } w1:=
  ⟨bH.size,rfl,agp,bH.ext,bH.xH,bH.rj,bH.sig,bH.box,bH.inj,bH.conv,bH.live,bH.ptr⟩
 have rH:=nj t2 (K':=λex e w' X'=>K ex e w' X'/\ ∀s,¬s∈t2.wr->e s=xI s) hd1 λex e w' X' _ he hk=>⟨hk,he⟩;refine wp_mono (MV (pl:=pl) (ds:=⟨[{ target:=.fn (.func g) gI,args:= #[] }],tA.zip (ks.map λk=>eI k 0)⟩) rest t2 _ xI X1 Mn _ w1 qJ (λb dO p hp e=>?_) dt rH) λex a' w' hq=>?_
 ·obtain⟨i,g1,_⟩:=S2 hp;have h1:=(xJ p.1 (av g1)).2;rw[e,As.2 dO] at h1;cases h1
 have agq: ∀w',(invoke (.fn (.func g) gI) #[]).run P w'= .ok (.enter g gI) w':=λw'=>by
  simp only[invoke];have:=pG aiU (#[]++gI) w';simpa using this
 have done:(∃env X w0,fH pl ⟨[{ target:=.fn (.func g) gI,args:= #[] }],tA.zip (ks.map λk=>eI k 0)⟩ .start env X w0 a' w'/\K .ret env w0 X/\ ∀s,¬s∈t2.wr->env s=xI s)->Leaves P fn a'.tmps R a'.defers .returning w':=by
  rintro⟨e,X',eH,h5,h6,_⟩;have h6':jh (nd.all λb=>dE (e b)) (∀wa,Kp X' eH wa->R (.returned (WJ r e)) wa):=h6;obtain⟨h7,h8⟩:=dM.1 h6';rw[h5.defers];refine leaves_cons sQ (f:=g) (args:=gI) (agq w') ?_;refine(ao8 gI w').mono ?_;rintro _ _ mJ ⟨⟨x,rfl⟩,rfl,rfl⟩;exact⟨_,MW h5 O1 (List.all_eq_true.1 h7),h8 mJ h5.ext⟩
 cases ex with
 |normal=>exact done hq
 |ret=>exact done hq
 |panic ch=>
  obtain⟨h5,e,X',eH,h6,⟨h7,he⟩,AT⟩:=hq
  show Leaves P fn a'.tmps R a'.defers (.panicking ch) w'
  rw[h5];refine leaves_cons sQ (f:=g) (args:=gI) (agq w') ?_;have nK: ∀(i:Nat) b k,tA[i]? =some b->ks[i]? =some k->a'.tmps[b]? =some (eI k 0)/\ ∃n cells ty,look pl.boxes b=some n/\e b= .agg cells/\w'.heap[k]? =some (.cells cells ty (0,0))/\cells.size=n/\ ¬X' k:=λi b k g1 g2=>by
   obtain⟨q1,q2⟩:=AT.2 (b,eI k 0) (av (i:=i) (by rw[ub];exact⟨g1,by rw[cN,g2];rfl⟩));refine⟨q1,?_⟩;rcases q2 with q2|⟨n,k',cells,ty,q3,q4⟩
   ·obtain⟨⟨n,hn⟩,_⟩:=pS b (av g1);rw[(tH q2).2.1] at hn;cases hn
   ·have:k=k':=by simpa [eI] using q3
    subst this;exact⟨n,cells,ty,q4⟩
  have Zc: ∀(i:Nat) b,tA[i]? =some b->dE (e b)=true:=λi b g1=>by
   obtain⟨k,g2,_⟩:=JR i b g1;obtain⟨_,_,cells,_,_,g4,_⟩:=nK i b k g1 g2;rw[g4];rfl
  have hkX: ∀k,k∈ks-> ¬X' k:=λk hm=>by
   obtain⟨i,g1⟩:=List.getElem?_of_mem hm;have lU:i<tA.length:=by rw[<-uF];exact(List.getElem?_eq_some_iff.1 g1).1
   obtain⟨_,_,_,_,_,_,_,_,g9⟩:=nK i _ k (aS lU) g1;exact g9
  rw[<-hcg];refine(tW ks (tA.map λb=>(e b).cells) ch w' uF sQ aq8 (λi k cells g1 g2=>?_) (λi v cells g1 g2=>?_) (λi b n cells g1 g2 g3=>?_) λwa ho=>h7 wa (ho.kp h6 AT.1 hkX)).mono ?_
  ·rw[cN] at g2;obtain⟨b,g3,rfl⟩:=Option.map_eq_some_iff.1 g2;obtain⟨_,_,cells,ty,_,g4,g5,_⟩:=nK i b k g3 g1;rw[g4];exact⟨ty,g5⟩
  ·rw[cN] at g2;obtain⟨b,g3,rfl⟩:=Option.map_eq_some_iff.1 g2;obtain⟨hnw,hv⟩:=mn i b v g3 g1;rw[he b hnw,hv];rfl
  ·rw[cN,g1] at g3;simp only[aZ,aj] at g3;obtain⟨k,g4,_⟩:=JR i b g1;obtain⟨_,n',zu,ty,q1,q2,q3,q4,_⟩:=nK i b k g1 g4;rw[g2] at q1;cases q1;rw[<-g3,q2];exact q4
  ·rintro e' u mJ ⟨⟨x,rfl⟩,IH,v,hR,apb⟩
   show Leaves P fn a'.tmps R [] (settle u) mJ
   rw[IH];exact⟨v,apb a'.tmps λi b k g1 g2=>(nK i b k g1 g2).1,hR⟩
 |exit i=>obtain⟨e,X',eH,h5,h6,_⟩:=hq;exact h6.elim
 |goto i=>obtain⟨e,X',eH,h5,h6,_⟩:=hq;exact h6.elim
 |outgrown=>exact hq.elim
theorem Xs (hR: ∀ch w,¬R (.panicked ch) w):noP R=R:=by
 funext e w
 cases e with
 |panicked ch=>exact propext ⟨False.elim,hR ch w⟩
 |returned v=>rfl
 |outgrown=>rfl
theorem Pa (hR: ∀ch w,¬R (.panicked ch) w):Gy R (λ_ _=>False)=R:=by
 funext e w
 cases e with
 |panicked ch=>exact propext ⟨False.elim,hR ch w⟩
 |returned v=>rfl
 |outgrown=>rfl
theorem HT {F:XS} {w0:World} {Q:Value->World->Prop} (ch:List PanicEntry) (w:World): ¬vy F w0 Q (.panicked ch) w:=λ⟨_,he,_⟩=>by cases he
def acr {v:Value} (h:aK.fin R X w v):aK.fin (noP R) X w v:=λwa hk=>h wa hk
end Go.aK
namespace Go.aK
variable {P : Program} {R : Ending -> World -> Prop} {X : XS} {w : World} {m : Bool} {t : TypeId}
variable {N : Value -> World -> XS -> Prop}
theorem aiX {z:Value} (hX: ∀k,X k->k<w.heap.size) (hz:(P.info? t).bind (·.zero)=some z) (ho:one z=true)
  (n: ∀b w' X',w.heap.size<=b->ai X w X' w'->aH w' X' b [z] t->N (ptr b 0) w' X'):eV P R X w m (gp t true (.tuple #[])) N:=by
 intro wa hk;unfold jV;have XC: ∀w,(zeroValue t).run P w= .ok z w:=by
  intro w;cases hi:P.info? t with
  |none=>grind
  |some inf=>
   have tg:inf.zero=some z:=by simpa [hi] using hz
   simp[zeroValue,typeInfo,hi,tg]
 have hc:z.cells= #[z]:=rG ho;have hr:(gp t true (.tuple #[])).run P wa= .ok (ptr wa.heap.size 0) (wa.alloc (.cells [z].toArray t)):=by simp[gp,XC,newVar,newRow,hc]
 simp only[vS,bu,hr,aN,bU];have hx:Ext wa (wa.alloc (.cells [z].toArray t)):=Ext.alloc _ _;exact⟨Step.fc hx,n _ _ _ hk.size (ai.fc hX hk hx) ⟨.inr ⟨au _,by simp⟩,by simpa using heap_alloc_new wa _⟩⟩
structure qp where
 p:World->XS->XS->Prop
 mv: ∀{w w':World} {K K' A A':XS},p w K A->Mv K w K' w'->Mv A w A' w'->p w' K' A'
abbrev FM:=Nat->Nat
def bZ (own:FM) (c:Nat):XS:=λk=>own k=c
def gH (own:FM):XS:=λk=>own k≠0/\own k≠4
def Cp (own aM:FM) (n0:Nat):Prop:= ∀k,k<n0->(own k=0->aM k=0)/\(own k=4->aM k=4)
theorem Cp.refl (own:FM) (n0:Nat):Cp own own n0:=λ_ _=>⟨id,id⟩
structure Hs (F:Nat->qp) (w:World) (own:FM):Prop where
 gL: ∀c,c≠0->c≠4->(F c).p w (bZ own 4) (bZ own c)
 lt: ∀k,own k≠0->k<w.heap.size
structure St (w0:World) (bY:FM) (w:World) (X:XS) (own:FM) (F:Nat->qp):Prop where
 t:Ft w0 (gH bY) w X (gH own)
 h:Hs F w own
 x: ∀k,own k≠0->X k
 e:Cp bY own w0.heap.size
def NQ {σ:Type} (ea:σ->Nat->qp) (own:FM) (wa w':World) (P:FM->σ->Prop):Prop:= ∃aM n',Cp own aM wa.heap.size/\Hs (ea n') w' aM/\P aM n'
def Q5:qp:=⟨λ_ _ _=>True,λ_ _ _=>trivial⟩
def puR (q:Prop):qp:=⟨λ_ _ _=>q,λh _ _=>h⟩
def Yf (b:Nat) (cs:List Value) (t:TypeId):qp:=⟨λw _ A=>aH w A b cs t,λh _ m=>h.mv m⟩
def Zr (e k:Nat) (v:Value) (rows:List (List Value)):qp:=⟨λw _ A=>Own w A 0 e k v rows,λh _ m=>h.mv m⟩
def Di (q:Prop) (r:qp):qp:=⟨λw K A=>q->r.p w K A,λh m m' hq=>r.mv (h hq) m m'⟩
variable {T b bytes e f kk o o' sz ty : Nat} {w : World} {X : XS} {P : Program} {R : Ending -> World -> Prop} {sv v v' : Value} {cs : List Value} {rows GP du : List (List Value)} {args : Array Value}
section
theorem sc {N:Value->Prop} {S fo:Nat} (hf:fieldInfo P S f=some (fo,sz)) (hz:(sz !=0)=true) (k:N (ptr b (o+fo))):aY P X w (ji S f fo sz (ptr b o)) N:=by
 unfold ji;exact Hm hf (by simpa using hz) k
variable {w' wa w0 : World} {X' G N A' : XS} {own aM bY : FM} {F F' : Nat -> qp} {σ : Type} {ea : σ -> Nat -> qp} {n : σ} {i j : Nat}
def Hs.mv (h:Hs F w own) (hb: ∀k,own k≠0->w'.heap[k]? =w.heap[k]?) (hz:w.heap.size<=w'.heap.size):Hs F w' own:=
 ⟨λc h0 h4=>(F c).mv (h.gL c h0 h4) (λk (e:own k=4) _=>⟨e,hb k zQ⟩) λk (e:own k=c) _=>⟨e,hb k zQ⟩,λk hk=>aw (h.lt k hk) hz⟩
theorem Hs.kp (h:Hs F w own) (hX: ∀k,own k≠0->X k) (hk:Kp X w wa):Hs F wa own:=h.mv (λk ah=>hk.block k (hX k ah)) hk.size
def Hs.to (h:Hs F w own) (hf: ∀c,c≠0->c≠4-> ∀w K A,(F c).p w K A->(F' c).p w K A):Hs F' w own:=⟨λc h0 h4=>hf c h0 h4 _ _ _ (h.gL c h0 h4),h.lt⟩
theorem Hs.one (h:Hs F w own) (j:Nat) (hz:w.heap.size<=w'.heap.size) (hb: ∀k,own k≠0->own k≠j->w'.heap[k]? =w.heap[k]?) (hR:(F' j).p w' (bZ own 4) (bZ own j)) (hn: ∀c,c≠j-> ∀w K A,(F c).p w K A->(F' c).p w K A) (h4:j≠4:=by decide):Hs F' w' own:=by
 refine⟨λc c0 c4=>?_,λk hk=>aw (h.lt k hk) hz⟩;by_cases e:c=j
 ·subst e;exact hR
 ·exact hn c e _ _ _ ((F c).mv (h.gL c c0 c4) (λk (e4:own k=4) _=>⟨e4,hb k zQ zQ⟩) λk (e':own k=c) _=>⟨e',hb k zQ zQ⟩)
def St.init (h:Hs F w own) (hX: ∀k,own k≠0->X k) (hk:Kp X w wa):St wa own wa (bP wa) own F:=
 have h':=h.kp hX hk
 ⟨Ft.init λk ah=>h'.lt k ah.1,h',λk ah=>h'.lt k ah,Cp.refl _ _⟩
theorem St.has (s:St w0 bY w X own F): ∀k,X k->k<w.heap.size:=s.t.s.has
def St.rf (s:St w0 bY w X own F):ai X w X w:=⟨Kp.refl _ _,λ_ h=>h,s.has⟩
def St.since (s:St w0 bY w X own F) (hs:ai X w X' w'):St w0 bY w' X' own F:=
 ⟨s.t.since hs,s.h.mv (λk hk=>hs.kp.block k (s.x k hk)) hs.kp.size,λk hk=>hs.sub k (s.x k hk),s.e⟩
def St.to (s:St w0 bY w X own F) (hf: ∀c,c≠0->c≠4-> ∀w K A,(F c).p w K A->(F' c).p w K A):St w0 bY w X own F':=⟨s.t,s.h.to hf,s.x,s.e⟩
theorem St.get (s:St w0 bY w X own F) (c:Nat) (h0:c≠0:=by decide) (h4:c≠4:=by decide):(F c).p w (bZ own 4) (bZ own c):=s.h.gL c h0 h4
theorem St.sub (s:St w0 bY w X own F) (c:Nat) (h0:c≠0:=by decide): ∀k,bZ own c k->X k:=λk (e:own k=c)=>s.x k zQ
theorem St.Aa (s:St w0 bY w X own F) (c:Nat) (h0:c≠0:=by decide) (h4:c≠4:=by decide):(F c).p w X X:=(F c).mv (s.h.gL c h0 h4) (Mv.sub (s.sub 4)) (Mv.sub (s.sub c h0))
def St.fx (s:St w0 bY w X own F):(∀k,gH own k->X k/\k<w.heap.size):=λk hk=>⟨s.x k hk.1,s.h.lt k hk.1⟩
theorem St.fxc (s:St w0 bY w X own F) (c:Nat) (h0:c≠0:=by decide): ∀k,bZ own c k->X k/\k<w.heap.size:=λk (e:own k=c)=>⟨s.x k zQ,s.h.lt k zQ⟩
theorem St.nw (s:St w0 bY w X own F) {k:Nat} (hk:w.heap.size<=k):own k=0/\w0.heap.size<=k:=
 ⟨Classical.byContradiction λe=>by have:=s.h.lt k e;omega,ad s.t.s.kp.size hk⟩
theorem St.jX (s:St w0 bY w X own F) (c:dY G X w X' w') (S:Nat->Prop) (hG: ∀k,G k->S (own k)) (h0: ¬S 0) (h4: ¬S 4) (hN: ∀k,N k->X' k/\own k=0/\w0.heap.size<=k)
  (hj:j≠0) (hS: ∀aM,(∀k,own k≠0->aM k=own k)->(∀k,N k->aM k=j)->Mv (bZ own 4) w (bZ aM 4) w'-> ∀c,S c->(F' c).p w' (bZ aM 4) (bZ aM c))
  (hn: ∀c,¬S c-> ∀K A,Mv (bZ own 4) w K w'->(F c).p w' K A->(F' c).p w' K A): ∃aM,St w0 bY w' X' aM F'/\Mv (bZ own 4) w (bZ aM 4) w'/\(∀k,¬N k->aM k=own k)/\ ∀k,N k->aM k=j:=by
 classical
 obtain⟨q,hq⟩: ∃q:FM,q=λk=>if N k then j else own k:=⟨_,rfl⟩
 have e1: ∀k,N k->q k=j:=λk hk=>by rw[hq];exact if_pos hk
 have e2: ∀k,¬N k->q k=own k:=λk hk=>by rw[hq];exact if_neg hk
 have e3: ∀k,own k≠0->q k=own k:=λk hk=>e2 k λhn=>hk (hN k hn).2.1;have hx: ∀k,q k≠0->X' k:=λk hk=>by
  by_cases e:N k
  ·exact(hN k e).1
  ·rw[e2 k e] at hk;exact c.sub k (s.x k hk)
 have mv: ∀d,d≠0-> ¬S d->Mv (bZ own d) w (bZ q d) w':=λd hd hS k (hk:own k=d) _=>⟨(e3 k zQ).trans hk,c.block k (s.x k zQ) λhg=>hS (hk▸hG k hg)⟩;have m4:=mv 4 dQ h4;refine⟨q,⟨(s.t.dT (F':=gH own) c (λk hk=>⟨λe=>h0 (e▸hG k hk),λe=>h4 (e▸hG k hk)⟩) λ_ h=>.inl h).more λk hk=>?_,⟨λd d0 d4=>?_,λk hk=>?_⟩,hx,λk hk=>?_⟩,m4,e2,e1⟩
 ·by_cases e:N k
  ·exact .inr ⟨(hN k e).1,(hN k e).2.2⟩
  ·exact .inl ⟨by rw[<-e2 k e];exact hk.1,by rw[<-e2 k e];exact hk.2⟩
 ·by_cases hd:S d
  ·exact hS q e3 e1 m4 d hd
  ·exact hn d hd _ _ m4 ((F d).mv (s.h.gL d d0 d4) m4 (mv d d0 hd))
 ·exact c.has k (hx k hk)
 ·rw[e2 k λhn=>by have:=(hN k hn).2.2;omega];exact s.e k hk
def St.yD (s:St w0 bY w X own F) (hN: ∀k,N k->X k/\own k=0/\w0.heap.size<=k): ∃aM,St w0 bY w X aM F/\Mv (bZ own 4) w (bZ aM 4) w/\(∀k,¬N k->aM k=own k)/\ ∀k,N k->aM k=4:=
 s.jX (dY.oh s.rf nX) (λ_=>False) (λ_ h=>h) id id hN dQ (λ_ _ _ _ _ h=>h.elim) λ_ _ _ _ _ h=>h
theorem St.loc (s:St w0 bY w X own F) (c:dY G X w X' w') (hG: ∀k,G k->own k=0/\w0.heap.size<=k):St w0 bY w' X' own F:=by
 have h0: ∀k,own k≠0->w'.heap[k]? =w.heap[k]? :=λk hk=>c.block k (s.x k hk) λhg=>hk (hG k hg).1;exact⟨⟨s.t.s.dT c λk h h'=>by have:=(hG k h').2;have:=h.1;omega,λk hk=>c.sub k (s.t.bg k hk),s.t.v⟩,s.h.mv h0 c.size,λk hk=>c.sub k (s.x k hk),s.e⟩
theorem St.DD (s:St w0 bY w X own F) (j:Nat) (c:dY G X w X' w') (hG: ∀k,G k->own k=j) (A':XS) (hA: ∀k,A' k->own k=j\/(X' k/\w.heap.size<=k)) (hR: ∀K,Mv (bZ own 4) w K w'->(F' j).p w' K A')
  (hn: ∀c,c≠j-> ∀w' K A,(F c).p w' K A->(F' c).p w' K A) (h0:j≠0:=by omega) (h4:j≠4:=by omega): ∃aM,St w0 bY w' X' aM F'/\Mv (bZ own 4) w (bZ aM 4) w':=by
 obtain⟨aM,s',m,_⟩:=s.jX (F':=F') (j:=j) (N:=λk=>A' k/\own k≠j) c (· =j) hG h0.symm h4.symm (λk ⟨hk,hn⟩=>(hA k hk).elim (λe=>absurd e hn) λe=>⟨e.1,s.nw e.2⟩) h0
  (λaM e1 e2 m d hd=>by
   subst hd;exact(F' d).mv (hR _ m) (Mv.sub λ_ h=>h) (Mv.sub λk hk=>by
    by_cases e:own k=d
    ·exact(e1 k zQ).trans e
    ·exact e2 k ⟨hk,e⟩)) λc hc K A _=>hn c hc _ K A
 exact⟨aM,s',m⟩
theorem St.st {t:Nat} {N:Value->World->XS->Prop} (s:St w0 bY w X own F) (i:Nat) (hr:aH w (bZ own i) b cs ty) (F':Nat->qp) (Mm:o'=o) (ht:(P.info? t).map (·.size)=some 1) (hl:o<cs.length) (h1:one v=true)
  (hR: ∀w' K A,aH w' A b (bM cs o [v]) ty->(F' i).p w' K A) (hn: ∀c,c≠i-> ∀w' K A,(F c).p w' K A->(F' c).p w' K A)
  (k: ∀w' X' aM,St w0 bY w' X' aM F'->Mv (bZ own 4) w (bZ aM 4) w'->N undef w' X') (h0:i≠0:=by omega) (h4:i≠4:=by omega):eU P R X w true (st1 t 1 (ptr b o') v) N:=
 qo (o:=o) (hr.mono (s.sub i h0)) Mm ht hl h1 s.has λw' X' c jY=>by
  obtain⟨aM,s',m⟩:=s.DD (F':=F') i c (λk e=>by rw[show k=b from e];exact hr.1) (· =b) (λk e=>.inl (by rw[show k=b from e];exact hr.1)) (λK _=>hR w' K _ ⟨rfl,jY.2⟩) hn h0 h4;exact k w' X' aM s' m
theorem St.stN {t:Nat} {N:Value->World->XS->Prop} (s:St w0 bY w X own F) (i:Nat) (hr:aH w (bZ own i) b cs ty) (F':Nat->qp) (Mm:o'=o) (ht:(P.info? t).map (·.size)=some sz) (hl:o+sz<=cs.length) (hv:v.cells.size=sz) (h1:v.cells.toList.all one=true)
  (hR: ∀w' K A,aH w' A b (bM cs o v.cells.toList) ty->(F' i).p w' K A) (hn: ∀c,c≠i-> ∀w' K A,(F c).p w' K A->(F' c).p w' K A)
  (k: ∀w' X' aM,St w0 bY w' X' aM F'->Mv (bZ own 4) w (bZ aM 4) w'->N undef w' X') (h0:i≠0:=by omega) (h4:i≠4:=by omega):eU P R X w true (st1 t sz (ptr b o') v) N:=
 Gn (o:=o) (hr.mono (s.sub i h0)) Mm ht hl hv h1 s.has λw' X' c jY=>by
  obtain⟨aM,s',m⟩:=s.DD (F':=F') i c (λk e=>by rw[show k=b from e];exact hr.1) (· =b) (λk e=>.inl (by rw[show k=b from e];exact hr.1)) (λK _=>hR w' K _ ⟨rfl,jY.2⟩) hn h0 h4;exact k w' X' aM s' m
theorem St.EZ (s:St w0 bY w X own F) (S:Nat->Prop) (h0: ¬S 0) (hR: ∀c,S c-> ∀w K,(F' c).p w K λ_=>False) (hn: ∀c,¬S c-> ∀K A,(∀k,S (own k)->K k)->(F c).p w K A->(F' c).p w K A):
  ∃aM,St w0 bY w X aM F'/\Mv (bZ own 4) w (bZ aM 4) w/\(∀k,S (own k)->aM k=4)/\ ∀k,¬S (own k)->aM k=own k:=by
 classical
 obtain⟨q,hq⟩: ∃q:FM,q=λk=>if S (own k)then 4 else own k:=⟨_,rfl⟩
 have e1: ∀k,S (own k)->q k=4:=λk hk=>by rw[hq];exact if_pos hk
 have e2: ∀k,¬S (own k)->q k=own k:=λk hk=>by rw[hq];exact if_neg hk
 have en: ∀k,q k≠0->own k≠0:=λk hk e=>by
  by_cases h:S (own k)
  ·exact h0 (e▸h)
  ·exact hk ((e2 k h).trans e)
 have e4: ∀k,own k=4->q k=4:=λk hk=>by
  by_cases h:S (own k)
  ·exact e1 k h
  ·exact(e2 k h).trans hk
 refine⟨q,⟨s.t.less λk hk=>⟨en k hk.1,λe=>hk.2 (e4 k e)⟩,⟨λc c0 c4=>?_,λk hk=>s.h.lt k (en k hk)⟩,λk hk=>s.x k (en k hk),λk hk=>⟨λe=>?_,λe=>e4 k ((s.e k hk).2 e)⟩⟩,Mv.sub e4,e1,e2⟩
 ·by_cases h:S c
  ·exact(F' c).mv (hR c h w _) (Mv.sub λ_ h=>h) (Mv.sub λ_ h=>h.elim)
  ·exact hn c h _ _ e1 ((F c).mv (s.h.gL c c0 c4) (Mv.sub e4) (Mv.sub λk (e:own k=c)=>(e2 k (by rw[e];exact h)).trans e))
 ·have h:=(s.e k hk).1 e;exact(e2 k λh'=>h0 (h▸h')).trans h
theorem St.fs {k':Nat} {ty:TypeId} (s:St w0 bY w X own F) (i j q:Nat) (c:dY G X w X' w') (hG: ∀k,G k->k=b\/v.ownBlock=some k) (hb:own b=i) (hv: ∀g,v.ownBlock=some g->own g=j)
  (hr:aH w' X' b cs ty) (ho:Own w' X' 0 e k' v' GP) (dc:v'.ownBlock=v.ownBlock\/ ∃g,v'.ownBlock=some g/\w.heap.size<=g) (F':Nat->qp)
  (hR: ∀K A,aH w' A b cs ty->(F' i).p w' K A) (hO: ∀K A,Own w' A 0 e k' v' GP->(F' j).p w' K A) (hQ: ∀K A,Mv (bZ own 4) w K w'->(F q).p w' K A->(F' q).p w' K A)
  (hn: ∀c,(c≠i/\c≠j/\c≠q)-> ∀w' K A,(F c).p w' K A->(F' c).p w' K A) (hi:i≠0/\i≠4:=by omega) (hj:j≠0/\j≠4:=by omega):
  ∃aM,St w0 bY w' X' aM F'/\Mv (bZ own 4) w (bZ aM 4) w':=by
 obtain⟨aM,s',m,_⟩:=s.jX (F':=F') (j:=j) (N:=λk=>v'.ownBlock=some k/\w.heap.size<=k) c (λc=>c=i\/c=j) (λk hk=>(hG k hk).imp (λe=>by rw[e];exact hb) (hv k))
  (λh=>h.elim (λe=>hi.1 e.symm) λe=>hj.1 e.symm) (λh=>h.elim (λe=>hi.2 e.symm) λe=>hj.2 e.symm) (λk hk=>⟨ho.2.2 k hk.1,s.nw hk.2⟩) hj.1
  (λaM e1 e2 m c hc=>by
   have Qi:aM b=i:=(e1 b (by rw[hb];exact hi.1)).trans hb;have hvj: ∀g,v'.ownBlock=some g->aM g=j:=λg hg=>by
    rcases dc with h|⟨g',h,hl⟩
    ·have:=hv g (h▸hg);exact(e1 g (by rw[this];exact hj.1)).trans this
    ·exact e2 g ⟨hg,by rw[h] at hg;cases hg;exact hl⟩
   by_cases AR:c=i
   ·subst AR;exact hR _ _ ⟨Qi,hr.2⟩
   ·have:c=j:=hc.elim (λe=>absurd e AR) id;subst this;exact hO _ _ ⟨ho.1,ho.2.1,hvj⟩) λc hc K A m h=>by
   by_cases hq:c=q
   ·subst hq;exact hQ K A m h
   ·exact hn c ⟨λe=>hc (.inl e),λe=>hc (.inr e),hq⟩ _ _ _ h
 exact⟨aM,s',m⟩
theorem St.back {w1:World} {X1:XS} {N:World->XS->Prop} (s:St w0 bY w X own F) (i j q:Nat) (hr:aH w (bZ own i) b cs ty) (hv: ∀g,v.ownBlock=some g->own g=j) (c:dY (fv v) X w X1 w1)
  (ho:Own w1 X1 0 e kk v' GP) (dc:v'.ownBlock=v.ownBlock\/ ∃g,v'.ownBlock=some g/\w.heap.size<=g) (ht:(P.info? T).map (·.size)=some 1) (hl:o<cs.length) (F':Nat->qp)
  (hR: ∀w' K A,aH w' A b (bM cs o [v']) ty->(F' i).p w' K A) (hO: ∀w' K A,Own w' A 0 e kk v' GP->(F' j).p w' K A) (hQ: ∀w' K A,Mv (bZ own 4) w K w'->(F q).p w' K A->(F' q).p w' K A)
  (hn: ∀c,(c≠i/\c≠j/\c≠q)-> ∀w' K A,(F c).p w' K A->(F' c).p w' K A) (k: ∀w' X' aM,St w0 bY w' X' aM F'->Mv (bZ own 4) w (bZ aM 4) w'->N w' X') (wq:i≠j/\i≠0/\i≠4/\j≠0/\j≠4:=by omega):
  eU P R X1 w1 true (st1 T 1 (ptr b o) v') λ_ w' X'=>N w' X':=by
 have hb: ∀g,v'.ownBlock=some g->g≠b:=λg hg e=>by
  have hl:=hr.lt;have rI:own b=i:=hr.1;rcases dc with h|⟨g',h,A8⟩
  ·have:=hv g (h▸hg);rw[e] at this;omega
  ·rw[h] at hg;cases hg;omega
 have hX:X b:=s.x b (by rw[show own b=i from hr.1];omega);have xM: ¬fv v b:=λhg=>by have:=hv b hg;have:own b=i:=hr.1;omega
 refine qo (o:=o) (cs:=cs) (ty:=ty) ⟨c.sub b hX,(c.block b hX xM).trans hr.2⟩ rfl ht hl ho.sl.one c.has λw' X' c' jY=>?_;obtain⟨aM,s',m⟩:=s.fs (F':=F') i j q (G:=λk=>k=b\/v.ownBlock=some k) ((c.mono λk _ e=>.inr e).trans (c'.mono λk _ e=>.inl e)) (λ_ h=>h) hr.1 hv jY (ho.dT c' λg hg e=>hb g hg e) dc
  (λK A=>hR w' K A) (λK A=>hO w' K A) (λK A=>hQ w' K A) hn ⟨wq.2.1,wq.2.2.1⟩ wq.2.2.2
 exact k w' X' aM s' m
theorem St.ap1 {t:Nat} {N:World->XS->Prop} (s:St w0 bY w X own F) (i j q:Nat) (hr:aH w (bZ own i) b cs ty) (uA:Own w (bZ own j) 0 e kk v rows) (src:Sl w X kk sv du) (h1: ∀r∈du,∀u∈r,one u=true) (hb:rows.length+du.length<=2^36)
  (F':Value->Nat->qp) (hR: ∀v' w' K A,aH w' A b (bM cs o [v']) ty->(F' v' i).p w' K A) (hO: ∀v' w' K A,Own w' A 0 e kk v' (rows++du)->(F' v' j).p w' K A) (hQ: ∀v' w' K A,Mv (bZ own 4) w K w'->(F q).p w' K A->(F' v' q).p w' K A)
  (hn: ∀v' c,(c≠i/\c≠j/\c≠q)-> ∀w' K A,(F c).p w' K A->(F' v' c).p w' K A) (k: ∀v' w' X' aM,St w0 bY w' X' aM (F' v')->Mv (bZ own 4) w (bZ aM 4) w'->N w' X')
  (he:oD P T e kk bytes=true:=by kernel_rfl) (hf:fieldInfo P t f=some (o,1):=by kernel_rfl) (ht:(P.info? T).map (·.size)=some 1:=by kernel_rfl) (Gu:bytes<=2^10:=by decide) (hl:o<cs.length:=by exact Nat.le_of_ble_eq_true rfl) (wq:i≠j/\i≠0/\i≠4/\j≠0/\j≠4:=by omega):
  eV P R X w true (rY T e kk bytes T v sv) λx w' X'=>nU P X' w' (bC (ptr b 0)) λx1=>aY P X' w' (ji t f o 1 x1) λx2=>eU P R X' w' true (st1 T 1 x2 x) λ_ w' X'=>N w' X':=
 Co (uA.mono (s.sub j zQ)) s.has (ak _) he src h1 (ad (ym hb Gu) dQ) zQ λv' w1 X1 c ho dc=>I4 (sc hf rfl (by
  rw[fj];exact s.back i j q hr (λg hg=>uA.2.2 g hg) c ho dc ht hl (F' v') (hR v') (hO v') (hQ v') (hn v') (k v') wq))
theorem St.ap2 {t z t2 f2 o2:Nat} {N:World->XS->Prop} (s:St w0 bY w X own F) (i j q:Nat) (hr:aH w (bZ own i) b cs ty) (uA:Own w (bZ own j) 0 e kk v rows) (src:Sl w X kk sv du) (h1: ∀r∈du,∀u∈r,one u=true) (hb:rows.length+du.length<=2^36)
  (F':Value->Nat->qp) (hR: ∀v' w' K A,aH w' A b (bM cs (o+o2) [v']) ty->(F' v' i).p w' K A) (hO: ∀v' w' K A,Own w' A 0 e kk v' (rows++du)->(F' v' j).p w' K A) (hQ: ∀v' w' K A,Mv (bZ own 4) w K w'->(F q).p w' K A->(F' v' q).p w' K A)
  (hn: ∀v' c,(c≠i/\c≠j/\c≠q)-> ∀w' K A,(F c).p w' K A->(F' v' c).p w' K A) (k: ∀v' w' X' aM,St w0 bY w' X' aM (F' v')->Mv (bZ own 4) w (bZ aM 4) w'->N w' X')
  (he:oD P T e kk bytes=true:=by kernel_rfl) (hf:fieldInfo P t f=some (o,z):=by kernel_rfl) (hz:(z !=0)=true:=by rfl) (Xd:fieldInfo P t2 f2=some (o2,1):=by kernel_rfl) (ht:(P.info? T).map (·.size)=some 1:=by kernel_rfl) (Gu:bytes<=2^10:=by decide) (hl:o+o2<cs.length:=by exact Nat.le_of_ble_eq_true rfl) (wq:i≠j/\i≠0/\i≠4/\j≠0/\j≠4:=by omega):
  eV P R X w true (rY T e kk bytes T v sv) λx w' X'=>nU P X' w' (bC (ptr b 0)) λx1=>aY P X' w' (ji t f o z x1) λx2=>aY P X' w' (ji t2 f2 o2 1 x2) λx3=>eU P R X' w' true (st1 T 1 x3 x) λ_ w' X'=>N w' X':=
 Co (uA.mono (s.sub j zQ)) s.has (ak _) he src h1 (ad (ym hb Gu) dQ) zQ λv' w1 X1 c ho dc=>I4 (sc hf hz (sc Xd rfl (by
  rw[fj];exact s.back i j q hr (λg hg=>uA.2.2 g hg) c ho dc ht hl (F' v') (hR v') (hO v') (hQ v') (hn v') (k v') wq)))
theorem St.ahF {t fi:Nat} {N:World->XS->Prop} {f:FuncId} (s:St w0 bY w X own F) (i j q:Nat) (hr:aH w (bZ own i) b cs ty) (uA:Own w (bZ own j) 0 e kk v rows)
  (hc:Ct P f args w X (fv v) λv' _ w'=>Own w' (fv v) 0 e kk v' GP/\v'.ownBlock=v.ownBlock) (F':Value->Nat->qp) (hR: ∀v' w' K A,aH w' A b (bM cs o [v']) ty->(F' v' i).p w' K A) (hO: ∀v' w' K A,Own w' A 0 e kk v' GP->(F' v' j).p w' K A) (hQ: ∀v' w' K A,Mv (bZ own 4) w K w'->(F q).p w' K A->(F' v' q).p w' K A)
  (hn: ∀v' c,(c≠i/\c≠j/\c≠q)-> ∀w' K A,(F c).p w' K A->(F' v' c).p w' K A) (k: ∀v' w' X' aM,St w0 bY w' X' aM (F' v')->Mv (bZ own 4) w (bZ aM 4) w'->N w' X')
  (he:enters P f=true:=by kernel_rfl) (hf:fieldInfo P t fi=some (o,1):=by kernel_rfl) (ht:(P.info? T).map (·.size)=some 1:=by kernel_rfl) (hl:o<cs.length:=by exact Nat.le_of_ble_eq_true rfl) (wq:i≠j/\i≠0/\i≠4/\j≠0/\j≠4:=by omega):
  eC P R X w true f args λx w' X'=>nU P X' w' (bC (ptr b 0)) λx1=>aY P X' w' (ji t fi o 1 x1) λx2=>eU P R X' w' true (st1 T 1 x2 x) λ_ w' X'=>N w' X':=
 xQ hc he s.has (λk hk=>s.sub j zQ k (uA.2.2 k hk)) λv' wa w1 X1 ⟨ho,dc⟩ _ _ _ c=>I4 (sc hf rfl (by
  rw[fj];exact s.back i j q hr (λg hg=>uA.2.2 g hg) c (ho.mono λk hk=>c.sub k (s.sub j zQ k (uA.2.2 k hk))) (.inl dc) ht hl (F' v') (hR v') (hO v') (hQ v') (hn v') (k v') wq))
theorem St.next (s:St w0 bY w X own F) (c:dY G X w X' w') (hG: ∀k,G k->gH own k) (h':Hs F' w' aM) (e:Cp own aM w.heap.size) (hx: ∀k,aM k≠0->w.heap.size<=k->X' k):St w0 bY w' X' aM F':=by
 have AY: ∀k,aM k≠0->X' k:=λk hk=>by
  by_cases hl:k<w.heap.size
  ·exact c.sub k (s.x k λe0=>hk ((e k hl).1 e0))
  grind
 refine⟨s.t.dT c hG λk hk=>?_,h',AY,λk hk=>?_⟩
 ·by_cases hl:k<w.heap.size
  ·exact .inl ⟨λe0=>hk.1 ((e k hl).1 e0),λe0=>hk.2 ((e k hl).2 e0)⟩
  ·exact .inr ⟨AY k hk.1,by omega⟩
 ·have h1:=s.e k hk;have h2:=e k (aw hk s.t.s.kp.size)
  grind
def St.m4 (s:St w0 bY w X own F) (c:dY G X w X' w') (hG: ∀k,G k->gH own k) (e:Cp own aM w.heap.size):Mv (bZ own 4) w (bZ aM 4) w':=λk (hk:own k=4) hl=>⟨(e k hl).2 hk,c.block k (s.x k zQ) λh=>(hG k h).2 hk⟩
variable {f : FuncId}
theorem St.Yd {n':σ} (s:St w0 bY w X own F) (hle:w.heap.size<=wa.heap.size) (gC: ∀k,made wa w' k->X' k) (c:dY (gH own) X w X' w') (e:Cp own aM wa.heap.size) (h':Hs (ea n') w' aM):St w0 bY w' X' aM (ea n')/\Mv (bZ own 4) w (bZ aM 4) w':=
 ⟨s.next c (λ_ h=>h) h' (λk hk=>e k (aw hk hle)) λk hk hl=>by
   by_cases A8:k<wa.heap.size
   ·exact absurd ((e k A8).1 (s.nw hl).1) hk
   ·exact gC k ⟨by omega,h'.lt k hk⟩,s.m4 c (λ_ h=>h) λk hk=>e k (aw hk hle)⟩
def St.call {N:Value->World->XS->Prop} {Q:Value->World->FM->σ->Prop} (s:St w0 bY w X own F) (h:Ct P f args w X (gH own) λv wa w'=>NQ ea own wa w' (Q v w')) (hf:enters P f=true)
  (k: ∀v w' X' aM n',St w0 bY w' X' aM (ea n')->Q v w' aM n'->Mv (bZ own 4) w (bZ aM 4) w'->N v w' X'):eC P R X w true f args N:=
 s.t.call h hf (λ_ h=>h) λv wa w' X' ⟨aM,n',e,h',q⟩ hle gC _ c=>k v w' X' aM n' (s.Yd hle gC c e h').1 q (s.Yd hle gC c e h').2
def St.fin {Q:Value->World->FM->σ->Prop} (s:St w0 bY w X own (ea n)) (hq: ∀wa,Kp X w wa->Q v wa own n):aK.fin (vy (gH bY) w0 λv w'=>NQ ea bY w0 w' (Q v w')) X w v:=
 s.t.fin λwa hk=>⟨own,n,s.e,s.h.kp s.x hk,hq wa hk⟩
def St.yf {Q:Value->World->FM->σ->Prop} {QP:List PanicEntry->World->Prop} (s:St w0 bY w X own (ea n)) (hq: ∀wa,Kp X w wa->Q v wa own n):aK.fin (Fk (gH bY) w0 (λv w'=>NQ ea bY w0 w' (Q v w')) QP) X w v:=
 s.t.yf λwa hk=>⟨own,n,s.e,s.h.kp s.x hk,hq wa hk⟩
end
end Go.aK
namespace Go.aK
variable {P : Program} {R : Ending -> World -> Prop} {X : XS} {w : World} {m : Bool}
variable {N : Value -> Prop} {i : Nat} {z : Int} {s : ByteArray} {t : TypeId}
theorem alY (hz:z=i) (hi:i<=s.size) (ht:P.underlying t=some .string) (k:N (.string (s.extract 0 i))):
  aY P X w (bS t (.string s) none (some (.int .i64 z)) none) N:=by
 subst hz;refine bK (λwa=>?_) k;rw[run_sliceAt_string wa t _ _ _ _ ht,run_slice_string_h wa t s ht .i64 i zQ zQ];rfl
theorem alZ (hz:z=i) (hi:i<=s.size) (ht:P.underlying t=some .string) (k:N (.string (s.extract i s.size))):
  aY P X w (bS t (.string s) (some (.int .i64 z)) none none) N:=by
 subst hz;refine bK (λwa=>?_) k;rw[run_sliceAt_string wa t _ _ _ _ ht,run_slice_string_l wa t s ht .i64 i zQ zQ];rfl
def vK (s:ByteArray):List Nat:=s.data.toList.map UInt8.toNat
theorem IM (s:ByteArray):(vK s).length=s.size:=by unfold vK;simp_all
theorem akl {x:Nat} (h:x∈vK s):x<256:=by
 obtain⟨b,_,rfl⟩:=List.mem_map.1 h;exact UInt8.toNat_lt b
theorem afB {src dst e:TypeId} {N:Value->World->XS->Prop} (hX: ∀k,X k->k<w.heap.size) (hl:s.size<=2^62) (hs:P.underlying src=some .string) (hd:P.underlying dst=some (.slice e)) (he:P.underlying e=some (.int .u8))
  (n: ∀v w' X',ai X w X' w'->Sl w' X' 1 v ((vK s).map λx:Nat=>[.int .u8 (x:Int)])->N v w' X'):eV P R X w m (convert src dst (.string s)) N:=by
 unfold eV eW;intro wa hk;unfold jV;have hr:=run_bytes_of_string (P:=P) wa src dst e s hs hd he;simp only[vS,bu,hr,aN,bU];generalize hC:bytesRow s (grownCap wa s.size 0 e)=C;have hblk: ∀k,k<wa.heap.size->(wa.drew.alloc (.cells C e (C.size,C.size+1))).heap[k]? =wa.heap[k]? :=λk hk=>heap_alloc_old wa.drew _ hk;have hx:Ext wa (wa.drew.alloc (.cells C e (C.size,C.size+1))):=⟨rfl,rfl,rfl,by simp,λk uF _=>hblk k uF⟩;have dC:=grownCap_ge wa s.size 0 e;have iq:grownCap wa s.size 0 e<=maxLen:=grownCap_le_maxLen wa _ 0 e (by simp only[maxLen];omega);refine⟨Step.fc hx,n _ _ _ (ai.fc hX hk hx) ?_⟩;have hlen:((vK s).map λx:Nat=>[ay .u8 (x:Int)]).length=s.size:=by rw[af,IM]
 refine⟨λr hr=>?_,by omega,_,_,by rw[hlen],λ_=>⟨wa.heap.size,0,rfl,.inr ⟨au _,by simp⟩,C,e,_,heap_alloc_new wa.drew _,λj v hj=>?_⟩,by simp,by omega,iq⟩
 ·obtain⟨x,_,rfl⟩:=List.mem_map.1 hr;rfl
 ·have hf:((vK s).map λx:Nat=>[ay .u8 (x:Int)]).flatten=(vK s).map λx:Nat=>ay .u8 (x:Int):=by
   generalize vK s=l
   induction l with
   |nil=>rfl
   |cons a l ih=>simp only[bh,dd,List.singleton_append,ih]
  rw[hf,cN] at hj;rw[<-hC,fj];unfold bytesRow;have gh:j<s.data.size:=by
   cases hq:(vK s)[j]? with
   |none=>rw[hq] at hj;cases hj
   |some x=>
    have:=(List.getElem?_eq_some_iff.1 hq).1;rw[IM] at this;exact this
  rw[kW (by rw[Array.size_map];omega),Array.getElem?_map];unfold vK at hj;rw[cN,nE] at hj;rw[<-hj];cases s.data[j]? <;>rfl
structure Two (A B:Prop):Prop where
 a:A
 b:B
variable {A B p : Prop}
def q0t (h:A->B->p):Two A B->p:=λt=>h t.a t.b
def dg (a:A) (b:B):Two A B:=⟨a,b⟩
variable {q : Prop}
theorem q0b (h:q->p:=by first|(intro q9;first|(with_reducible first|apply ab3|apply SJ|apply Ym|apply aci|apply akT|apply aiE|apply Y8|apply akU|apply Y9|apply aiF|apply ahm|apply ahn|apply TS|apply afo|apply amV|apply TQ|apply TR|apply apJ|apply apK|apply aom|apply aon|apply Yl|apply afJ|apply I4|apply akZ|apply aoT);exact q9|(with_reducible apply Ih);(case k=>exact q9);(· rfl)|(with_reducible apply aoR);(case k=>exact q9);(· exact qN)|(with_reducible apply aoS);(case k=>exact q9);(· exact qN)|(with_reducible apply Rs);(case k=>exact q9);(· exact qF);(· kernel_rfl);(· rfl)|(with_reducible apply aoO);(case k=>exact q9);(· exact qF);(· kernel_rfl);(· rfl);(· exact qN)|(with_reducible apply aex);(case k=>exact q9);(· exact qF);(· exact qM);(· kernel_rfl);(· rfl)|(with_reducible apply ac9);(case k=>exact q9);(· exact qF);(· exact qM);(· kernel_rfl);(· rfl)|(with_reducible apply aoP);(case n=>exact q9);(· exact qO);(· kernel_rfl)|(with_reducible apply aoQ);(case n=>exact q9);(· assumption);(· kernel_rfl)|(with_reducible apply aoN);(case k=>exact q9);(· kernel_rfl)|(with_reducible apply aeh);(case n=>exact q9);(· exact qO);(try (case hz=>rfl));(case hr=>first|assumption|(clear q9;exact List.getElem?_eq_getElem (by omega)));(try (case hz=>omega));(case ht=>kernel_rfl);(case hs=>kernel_rfl)|(with_reducible apply aeu);(case k=>exact q9);(· kernel_rfl)|(with_reducible apply Wi);(case h=>exact q9);(· rfl)|(with_reducible apply ak0);(case k=>exact q9);(· kernel_rfl)|(with_reducible apply ak1);(case k=>exact q9);(· kernel_rfl)|(with_reducible apply anr);(case k=>exact q9);(· kernel_rfl)|(with_reducible apply ant);(case k=>exact q9);(· kernel_rfl)|(with_reducible apply anm);(case k=>exact q9);(case h=>exact qE)|(with_reducible apply ann);(case k=>exact q9);(case h=>exact qE)|(with_reducible apply I0);(case k=>exact q9);(· exact qC)|(with_reducible apply ajU);(case h=>exact q9);(· omega);(· omega)|(with_reducible apply aoL);(case h=>exact q9);(· omega);(· omega)|(with_reducible apply aey);(case h=>exact q9);(· kernel_rfl);(· kernel_rfl)|(with_reducible apply aoU);(case h=>exact q9);(· kernel_rfl);(· kernel_rfl)|(with_reducible apply aoX);(case k=>exact q9);(try (case hz=>rfl));(case hb=>assumption);(try (case hz=>omega));(case ht=>kernel_rfl)|(with_reducible apply aoV);(case k=>exact q9);(· kernel_rfl);(· kernel_rfl);(try (case hz=>rfl));(case hn=>omega);(case hl=>rfl)|(with_reducible apply anq);(case k=>exact q9);(case hf=>kernel_rfl);(case hg=>kernel_rfl);(case hlen=>rfl);(case hl=>exact qN)|(with_reducible apply aoY);(case h=>exact q9);(· rfl)|fail)|(apply q0t;intro a9 b9;first|(with_reducible first|apply aep|apply aes|apply aet|apply ajT|apply aeq|apply aer|apply am7|apply am8|apply am9|apply ana|apply anb|apply anc|apply ane|apply anf|apply ang|apply anh|apply ani|apply anj|apply abP);(· exact a9);exact b9|(with_reducible apply anl);(case hT=>exact a9);(case hF=>exact b9);(· exact qO);(· kernel_rfl)|fail)|fail):q->p:=h
theorem q0d (h:q->p:=by intro q9;first|(with_reducible refine amW ?_ ?_);rotate_left;exact q9;omega|(with_reducible refine amX ?_ ?_);rotate_left;exact q9;omega|(with_reducible refine am3 ?_ ?_);rotate_left;exact q9;omega|(with_reducible refine am4 ?_ ?_);rotate_left;exact q9;omega|(with_reducible refine am5 ?_ ?_);rotate_left;exact q9;omega|(with_reducible refine am6 ?_ ?_);rotate_left;exact q9;omega|(with_reducible refine amY ?_ ?_);rotate_left;exact q9;omega|(with_reducible refine amZ ?_ ?_);rotate_left;exact q9;omega|(with_reducible refine am0 ?_ ?_);rotate_left;exact q9;omega|(with_reducible refine am1 ?_ ?_);rotate_left;exact q9;omega|(with_reducible refine am2 ?_ ?_);rotate_left;exact q9;omega|fail):q->p:=h
theorem aq (k:q) (h:q->p:=by exact q0b):p:=h k
theorem aI (k:q) (h:q->p:=by first|exact q0d|exact q0b|fail):p:=h k
variable {P : Program} {R : Ending -> World -> Prop} {X : XS} {w w0 : World} {b m : Bool} {v : Value} {l : List Value}
section
variable {X0 : XS} {f : FuncId} {args : Array Value} {N : Value -> World -> XS -> Prop} {t e k : Nat}
theorem pt (h:Pure P f args v) (hs:ai X0 w0 X w) (n: ∀w' X',ai X0 w0 X' w'->N v w' X') (hf:enters P f=true:=by kernel_rfl):eC P R X w m f args N:=sk h hf hs.has λw' X' h1=>n w' X' (hs.trans h1)
theorem kG (h:Pure P f args (.bool b)) (hs:ai X0 w0 X w) (hT:b=true-> ∀w' X',ai X0 w0 X' w'->N (.bool true) w' X') (hF:b=false-> ∀w' X',ai X0 w0 X' w'->N (.bool false) w' X') (hf:enters P f=true:=by kernel_rfl):eC P R X w m f args N:=Nj h hf hs.has (λhb w' X' h1=>hT hb w' X' (hs.trans h1)) λhb w' X' h1=>hF hb w' X' (hs.trans h1)
theorem qL (h:Ct P f args w X nX λv _ _=>v= .bool b) (hs:ai X0 w0 X w) (hT:b=true-> ∀w' X',ai X0 w0 X' w'->N (.bool true) w' X') (hF:b=false-> ∀w' X',ai X0 w0 X' w'->N (.bool false) w' X') (hf:enters P f=true:=by kernel_rfl):eC P R X w m f args N:=HS h hf hs.has (λhb w' X' h1=>hT hb w' X' (hs.trans h1)) λhb w' X' h1=>hF hb w' X' (hs.trans h1)
theorem UU {u:Value} (h:Ct P f args w X nX λv _ _=>v=u) (hs:ai X0 w0 X w) (n: ∀w' X',ai X0 w0 X' w'->N u w' X') (hf:enters P f=true:=by kernel_rfl):eC P R X w m f args N:=ff h hf hs.has λw' X' h1=>n w' X' (hs.trans h1)
theorem yi (h:Ct P f args w X nX λv _ _=> ∃n:Int,v= .int .i64 n) (hs:ai X0 w0 X w) (n: ∀(z:Int) w' X',ai X0 w0 X' w'->N (.int .i64 z) w' X') (hf:enters P f=true:=by kernel_rfl):eC P R X w m f args N:=ano h hf hs.has λz w' X' h1=>n z w' X' (hs.trans h1)
theorem q1e (hs:ai X0 w0 X w) (n: ∀a b c w' X',ai X0 w0 X' w'->Own w' X' w.heap.size e k (.slice a b c) [l]->N (.slice a b c) w' X') (he:Nl P t e k=true:=by kernel_rfl) (hk:(l.length==k)=true:=by rfl):eV P R X w m (gT t e k 1 #[(0,.agg l.toArray)]) N:=
 QB hs.has he hk λv w' X' h1 ho=>by
  obtain⟨_,_,_,rfl⟩:=ho.sl.form;exact n _ _ _ w' X' (hs.trans h1) ho
theorem q1s {x:Value} (hs:ai X0 w0 X w) (n: ∀a b c w' X',ai X0 w0 X' w'->Own w' X' w.heap.size e k (.slice a b c) [[x]]->N (.slice a b c) w' X') (he:Nl P t e k=true:=by kernel_rfl) (ho:one x=true:=by first|rfl|assumption) (hk:(k==1)=true:=by rfl):eV P R X w m (gT t e k 1 #[(0,x)]) N:=
 Xm hs.has he ho hk λv w' X' h1 ho=>by
  obtain⟨_,_,_,rfl⟩:=ho.sl.form;exact n _ _ _ w' X' (hs.trans h1) ho
theorem QR (hs:ai X0 w0 X w) (n: ∀v w' X',ai X0 w0 X' w'->Own w' X' w.heap.size e k v []->N v w' X') (hu:P.underlying t=some (.slice e):=by kernel_rfl) (hz:(P.info? e).map (·.size)=some k:=by kernel_rfl):eV P R X w m (gT t e k 0 #[]) N:=
 adg hs.has hu hz λv w' X' h1 ho=>n v w' X' (hs.trans h1) ho
def Oq (hs:ai X0 w0 X w) (n: ∀b w' X',w.heap.size<=b->ai X w X' w'->ai X0 w0 X' w'->ai X' w' X' w'->aH w' X' b l t->N (ptr b 0) w' X'):eV P R X w m (ct t (.agg l.toArray)) N:=
 Bj hs.has λb w' X' hb h1 hr=>n b w' X' hb h1 (hs.trans h1) (ai.fL h1.has) hr
theorem q1x (hs:ai X0 w0 X w) (n: ∀b w' X',w.heap.size<=b->ai X w X' w'->ai X0 w0 X' w'->ai X' w' X' w'->aH w' X' b [v] t->N (ptr b 0) w' X') (ho:one v=true:=by rfl):eV P R X w m (ct t v) N:=
 uy ho hs.has λb w' X' hb h1 hr=>n b w' X' hb h1 (hs.trans h1) (ai.fL h1.has) hr
end
theorem qr {Q:Value->World->Prop} (h: ∀wa,Kp X w wa->Q v wa) (hs:ai (bP w0) w0 X w:=by first|exact hs|exact gw.trans hs):fin (vy nX w0 Q) X w v:=cH hs h
end Go.aK
namespace Go.Proofs.YtgfijddlkhkopaaGreat
open Go.Proofs.Tryz renaming prog → pg
open Go.aK
set_option maxRecDepth 100000
set_option maxHeartbeats 4000000
abbrev BA:=ByteArray
@[ext] structure cn where
 wall:Int
 dA:Int
 node:Int
 deriving DecidableEq
abbrev cn.l (s:cn):List Value:=[I s.wall,I s.dA,I s.node]
abbrev cn.v (s:cn):Value:=.agg #[I s.wall,I s.dA,I s.node]
abbrev cn.zero:cn:=⟨0,0,0⟩
@[ext] structure bX where
 dW:Int
 aR:Int
 sq:Int
 deriving DecidableEq
abbrev bX.l (s:bX):List Value:=[I s.dW,I s.aR,I s.sq]
abbrev bX.v (s:bX):Value:=.agg #[I s.dW,I s.aR,I s.sq]
abbrev bX.zero:bX:=⟨0,0,0⟩
@[ext] structure gO where
 kind:Int
 num:Nat
 text:BA
 deriving DecidableEq
abbrev gO.l (x:gO):List Value:=[I x.kind,.float .f64 x.num,.string x.text]
abbrev gO.v (x:gO):Value:=.agg #[I x.kind,.float .f64 x.num,.string x.text]
abbrev gO.zero:gO:=⟨0,0,⟨#[]⟩⟩
@[ext] structure KV where
 key:BA
 val:gO
 deriving DecidableEq
abbrev KV.l (x:KV):List Value:=[.string x.key,I x.val.kind,.float .f64 x.val.num,.string x.val.text]
abbrev KV.v (x:KV):Value:=.agg #[.string x.key,I x.val.kind,.float .f64 x.val.num,.string x.val.text]
abbrev S1 (x:BA):List Value:=[.string x]
abbrev I1 (x:Int):List Value:=[I x]
@[ext] structure pW where
 aU:cn
 val:gO
 deriving DecidableEq
abbrev pW.l (x:pW):List Value:=[I x.aU.wall,I x.aU.dA,I x.aU.node,I x.val.kind,.float .f64 x.val.num,.string x.val.text]
@[ext] structure kM where
 key:BA
 nh:List pW
 deriving DecidableEq
abbrev kM.l (h:kM) (vv:Value):List Value:=[.string h.key,vv]
def kM.rd (w:World) (X:XS) (l:List Value) (h:kM):Prop:= ∃vv,l=h.l vv/\Sl w X 6 vv (h.nh.map pW.l)
@[ext] structure gy where
 aG:bX
 aU:cn
 reads:List BA
 writes:List KV
 deriving DecidableEq
abbrev gy.l (p:gy) (vr vw:Value):List Value:=[I p.aG.dW,I p.aG.aR,I p.aG.sq,I p.aU.wall,I p.aU.dA,I p.aU.node,vr,vw]
abbrev gy.v (p:gy) (vr vw:Value):Value:=.agg #[I p.aG.dW,I p.aG.aR,I p.aG.sq,I p.aU.wall,I p.aU.dA,I p.aU.node,vr,vw]
def gy.rd (w:World) (X:XS) (l:List Value) (p:gy):Prop:= ∃vr vw,l=p.l vr vw/\Sl w X 1 vr (p.reads.map S1)/\Sl w X 4 vw (p.writes.map KV.l)
@[ext] structure fe where
 id:Int
 iE:Int
 lo:Nat
 hi:Nat
 deriving DecidableEq
abbrev fe.l (r:fe):List Value:=[I r.id,I r.iE,.float .f64 r.lo,.float .f64 r.hi]
abbrev fe.v (r:fe):Value:=.agg #[I r.id,I r.iE,.float .f64 r.lo,.float .f64 r.hi]
@[ext] structure State where
 range:fe
 floor:cn
 closed:cn
 iA:List kM
 ia:List gy
 deriving DecidableEq
abbrev State.l (s:State) (vh vp:Value):List Value:=[I s.range.id,I s.range.iE,.float .f64 s.range.lo,.float .f64 s.range.hi,
 I s.floor.wall,I s.floor.dA,I s.floor.node,I s.closed.wall,I s.closed.dA,I s.closed.node,vh,vp]
abbrev State.v (s:State) (vh vp:Value):Value:=.agg #[I s.range.id,I s.range.iE,.float .f64 s.range.lo,.float .f64 s.range.hi,
 I s.floor.wall,I s.floor.dA,I s.floor.node,I s.closed.wall,I s.closed.dA,I s.closed.node,vh,vp]
abbrev ri (w:World) (X:XS) (v:Value) (l:List kM):Prop:=eY w X 2 v kM.rd l
abbrev qZ (w:World) (X:XS) (v:Value) (l:List gy):Prop:=eY w X 8 v gy.rd l
def State.rd (w:World) (X:XS) (l:List Value) (s:State):Prop:= ∃vh vp,l=s.l vh vp/\ri w X vh s.iA/\qZ w X vp s.ia
@[ext] structure Rec where
 kind:Int
 aG:bX
 aU:cn
 prev:cn
 jM:Bool
 n:Int
 uf:Nat
 reads:List BA
 writes:List KV
 parts:List Int
 xp:List KV
 state:State
 deriving DecidableEq
abbrev Rec.l (r:Rec) (vr vw vp vq vh vd:Value):List Value:=[I r.kind,I r.aG.dW,I r.aG.aR,I r.aG.sq,I r.aU.wall,I r.aU.dA,I r.aU.node,
 I r.prev.wall,I r.prev.dA,I r.prev.node,B r.jM,I r.n,.float .f64 r.uf,vr,vw,vp,vq,I r.state.range.id,I r.state.range.iE,.float .f64 r.state.range.lo,.float .f64 r.state.range.hi,
 I r.state.floor.wall,I r.state.floor.dA,I r.state.floor.node,I r.state.closed.wall,I r.state.closed.dA,I r.state.closed.node,vh,vd]
abbrev Rec.v (r:Rec) (vr vw vp vq vh vd:Value):Value:=.agg #[I r.kind,I r.aG.dW,I r.aG.aR,I r.aG.sq,I r.aU.wall,I r.aU.dA,I r.aU.node,
 I r.prev.wall,I r.prev.dA,I r.prev.node,B r.jM,I r.n,.float .f64 r.uf,vr,vw,vp,vq,I r.state.range.id,I r.state.range.iE,.float .f64 r.state.range.lo,.float .f64 r.state.range.hi,
 I r.state.floor.wall,I r.state.floor.dA,I r.state.floor.node,I r.state.closed.wall,I r.state.closed.dA,I r.state.closed.node,vh,vd]
def Rec.at (w:World) (X:XS) (r:Rec) (vr vw vp vq vh vd:Value):Prop:=
 Sl w X 1 vr (r.reads.map S1)/\Sl w X 4 vw (r.writes.map KV.l)/\Sl w X 1 vp (r.parts.map I1)/\Sl w X 4 vq (r.xp.map KV.l)/\ri w X vh r.state.iA/\qZ w X vd r.state.ia
def Rec.rd (w:World) (X:XS) (l:List Value) (r:Rec):Prop:= ∃vr vw vp vq vh vd,l=r.l vr vw vp vq vh vd/\r.at w X vr vw vp vq vh vd
@[ext] structure fg where
 key:BA
 val:gO
 aU:cn
 deriving DecidableEq
abbrev fg.l (x:fg):List Value:=[.string x.key,I x.val.kind,.float .f64 x.val.num,.string x.val.text,I x.aU.wall,I x.aU.dA,I x.aU.node]
@[ext] structure cJ where
 kind:Int
 fr:Int
 to:Int
 aG:bX
 range:Int
 iE:Int
 code:Int
 aU:cn
 prev:cn
 jM:Bool
 n:Int
 mx:Int
 keys:List BA
 seen:List fg
 writes:List KV
 parts:List Int
 ranges:List fe
 bw:List Rec
 state:State
 deriving DecidableEq
abbrev cJ.l (m:cJ) (vk vs vw vp vr vc vh vd:Value):List Value:=[I m.kind,I m.fr,I m.to,I m.aG.dW,I m.aG.aR,I m.aG.sq,I m.range,I m.iE,I m.code,
 I m.aU.wall,I m.aU.dA,I m.aU.node,I m.prev.wall,I m.prev.dA,I m.prev.node,B m.jM,I m.n,I m.mx,vk,vs,vw,vp,vr,vc,
 I m.state.range.id,I m.state.range.iE,.float .f64 m.state.range.lo,.float .f64 m.state.range.hi,
 I m.state.floor.wall,I m.state.floor.dA,I m.state.floor.node,I m.state.closed.wall,I m.state.closed.dA,I m.state.closed.node,vh,vd]
abbrev cJ.v (m:cJ) (vk vs vw vp vr vc vh vd:Value):Value:=.agg #[I m.kind,I m.fr,I m.to,I m.aG.dW,I m.aG.aR,I m.aG.sq,I m.range,I m.iE,I m.code,
 I m.aU.wall,I m.aU.dA,I m.aU.node,I m.prev.wall,I m.prev.dA,I m.prev.node,B m.jM,I m.n,I m.mx,vk,vs,vw,vp,vr,vc,
 I m.state.range.id,I m.state.range.iE,.float .f64 m.state.range.lo,.float .f64 m.state.range.hi,
 I m.state.floor.wall,I m.state.floor.dA,I m.state.floor.node,I m.state.closed.wall,I m.state.closed.dA,I m.state.closed.node,vh,vd]
section
variable (R : Ending -> World -> Prop) (w0 : World) (X0 : XS)
noncomputable def S3:gA:=⟨43,[],[],[0,2,3,4,5,7,8,9,12,26,40],[35,36,37,38,39],[]⟩
def H8 (p0:Value):Prop:=
 eV pg nP X0 w0 true (gp 73 true (dq #[])) λa b c=>
 eV pg nP c b true (gp 37 true (dq #[])) λd e g=>
 (aY pg g e (cL (Fn.func 132) #[] #[a,d]) λh=>
 (aY pg g e (mP 151 3 p0) λi=>
 aY pg g e (binOp .gtr 3 i (I 262144)) λj=>
 (nB j
 (aY pg g e (sR 73 #[(I 0),(I 0),(I 0),(I 0),(I 0),(I 0),(I 0),(I 0),(I 0),(I 0),(B false),(I 0),(.float .f64 0),(.slice none 0 0),(.slice none 0 0),(.slice none 0 0),(.slice none 0 0),(I 0),(I 0),(.float .f64 0),(.float .f64 0),(I 0),(I 0),(I 0),(I 0),(I 0),(I 0),(.slice none 0 0),(.slice none 0 0)] #[]) λk=>
 eU pg (dP pg Tryz.f79 R [a,d,h]) g e true (st1 73 29 a k) λ_ l m=>
 eU pg (dP pg Tryz.f79 R [a,d,h]) m l true (st1 37 1 d (I 4)) λ_ n o=>
 (fin (dP pg Tryz.f79 R [a,d,h]) o n (dq #[a,d,h])))
 ((eC pg (dP pg Tryz.f79 R [a,d,h]) g e true 133 #[p0] λq r s=>
 (aY pg s r (sR 249 #[(.pointer none),q] #[(1,q)]) λt=>
 eV pg (dP pg Tryz.f79 R [a,d,h]) s r true (ct 249 t) λv y z=>
 eC pg (dP pg Tryz.f79 R [a,d,h]) z y true 134 #[v,a] λ_ A C=>
 (eC pg (dP pg Tryz.f79 R [a,d,h]) C A true 135 #[q] λD E F=>
 aY pg F E (gB D 0) λG=>
 aY pg F E (gB D 1) λ_=>
 (aY pg F E (dF .neq 37 (.tmp 25) (.const (I 0)) G (I 0)) λH=>
 (nB H
 (aY pg F E (sR 73 #[(I 0),(I 0),(I 0),(I 0),(I 0),(I 0),(I 0),(I 0),(I 0),(I 0),(B false),(I 0),(.float .f64 0),(.slice none 0 0),(.slice none 0 0),(.slice none 0 0),(.slice none 0 0),(I 0),(I 0),(.float .f64 0),(.float .f64 0),(I 0),(I 0),(I 0),(I 0),(I 0),(I 0),(.slice none 0 0),(.slice none 0 0)] #[]) λL=>
 eU pg (dP pg Tryz.f79 R [a,d,h]) F E true (st1 73 29 a L) λ_ M N=>
 eU pg (dP pg Tryz.f79 R [a,d,h]) N M true (st1 37 1 d (I 4)) λ_ O Q=>
 (fin (dP pg Tryz.f79 R [a,d,h]) Q O (dq #[a,d,h])))
 ((aY pg F E (jt 73 29 a) λS=>
 eC pg (dP pg Tryz.f79 R [a,d,h]) F E true 136 #[S] λT U V=>
 aY pg V U (gB T 0) λY=>
 aY pg V U (gB T 1) λZ=>
 (aY pg V U (dF .neq 37 (.tmp 33) (.const (I 0)) Z (I 0)) λa0=>
 un (zf a0 false Y) λb0=>
 un (zf a0 false p0) λc0=>
 jn (λ(d0:Value) (e0:World) (g0:XS)=>
 nV pg g0 e0 a0 false (vS (bI cO d0)) λh0=>
 nU pg g0 e0 (jl a0 (B true) h0) λi0=>
 (nB i0
 (aY pg g0 e0 (sR 73 #[(I 0),(I 0),(I 0),(I 0),(I 0),(I 0),(I 0),(I 0),(I 0),(I 0),(B false),(I 0),(.float .f64 0),(.slice none 0 0),(.slice none 0 0),(.slice none 0 0),(.slice none 0 0),(I 0),(I 0),(.float .f64 0),(.float .f64 0),(I 0),(I 0),(I 0),(I 0),(I 0),(I 0),(.slice none 0 0),(.slice none 0 0)] #[]) λj0=>
 eU pg (dP pg Tryz.f79 R [a,d,h]) g0 e0 true (st1 73 29 a j0) λ_ k0 l0=>
 eU pg (dP pg Tryz.f79 R [a,d,h]) l0 k0 true (st1 37 1 d (I 4)) λ_ m0 n0=>
 (fin (dP pg Tryz.f79 R [a,d,h]) n0 m0 (dq #[a,d,h])))
 ((aY pg g0 e0 (jt 73 29 a) λo0=>
 eU pg (dP pg Tryz.f79 R [a,d,h]) g0 e0 true (st1 73 29 a o0) λ_ q0 r0=>
 eU pg (dP pg Tryz.f79 R [a,d,h]) r0 q0 true (st1 37 1 d (I 0)) λ_ s0 t0=>
 (fin (dP pg Tryz.f79 R [a,d,h]) t0 s0 (dq #[a,d,h])))))) λv0=>
 (gE a0 false (eC pg (dP pg Tryz.f79 R [a,d,h]) V U true 137 #[b0,c0] v0) (v0 undef U V))))))))))))))
end
def oT (l:Array Operand):List Nat:=l.toList.filterMap λo=>match o with| .tmp t=>some t|_=>none
def Mo:Code->List (List Oper)×List Nat
 | .region _ o _=>([o.toList],[])
 | .seq a b=>((Mo a).1++(Mo b).1,(Mo a).2++(Mo b).2)
 | .cond c a b=>((Mo a).1++(Mo b).1,oT #[c]++(Mo a).2++(Mo b).2)
 | .block _ a=>Mo a
 | .loop a=>Mo a
 |_=>([],[])
def isT (l:List Nat):Operand->Bool
 | .tmp t=>yP l t
 |_=>false
def anz (bx:List Nat):List Oper->List Nat->List Nat
 |[],d=>d
 |o::r,d=>anz bx r (match o.op,o.dst with| .fieldAddr _ x _,some y=>if isT bx x||isT d x then y::d else d|_,_=>d)
def anA:List Oper->List Nat->List Nat×List Nat
 |[],_=>([],[])
 |o::r,s=>let t:=oT o.op.operands;let u:=anA r (o.dst.toList++s);(t++o.dst.toList++u.1,t.filter (λx=>!yP s x)++u.2)
def aeG (t:Nat):List (List Nat)->Bool->Bool
 |[],_=>false
 |l::r,m=>if yP l t then m||aeG t r true else aeG t r m
def aeH (fn:Func) (bx:List (Nat×Nat)) (mat car:List Nat):gA:=
 let c:=Mo (fn.body.getD .skip)
 let b:=bx.map Prod.fst
 let d:=anz b c.1.flatten []
 let u:=c.1.map λl=>anA l []
 let x:=c.2++fn.results.toList.filterMap (λr=>match r with| .tmp t=>some t|_=>none)++(u.map Prod.snd).flatten
 ⟨fn.ntmps,bx,d,(List.range fn.ntmps).filter λt=>!yP b t&&!yP d t&&(t<fn.params.size+fn.nfree||yP x t||aeG t (u.map Prod.fst) false),mat,car⟩
variable {R : Ending -> World -> Prop} {args : Array Value} {fn : Func} {f : FuncId}
theorem cv {w:World} {V:Prop} (pl:gA) (hf:pg.funcs[f]? =some fn) (h:V)
 (hs:(decide (args.size<=pl.n)&&pl.boxes.all λp=>decide (args.size<=p.1))=true:=by kernel_rfl) (hv:V=OZ pg (cF pg pl fn) R args w:=by kernel_rfl):Calls pg f args w R:=G6 hf hs hv h
structure CQ (f:FuncId) (args:Array Value) (V:SP):Prop where
 g: ∀{R:Ending->World->Prop} {w:World} {q:Prop},(ai (bP w) w (bP w) w->q)->(e:V pg R (bP w) w=q:=by dsimp only [ae,bE,qU,Zq3,iD,Zq5,mz,eh,dw,qs,bD,l8,gW,lz,jr,bA,gF,je,dI,SX,ej,sw,iT,cG,aiI,bz,aiJ,jN,kB,dL,dG,rA,fb,dZ,cQ,eZ,I5,pB,fV,aiK,dH,fF,kN,pC,iG,fW,kh,fX,lA,yl,vT,gJ,gK,sx,gR,jO,js,sy,fK,tQ,oR,tR,gg,ik,sA,sY,gx,kO,iH,tS,vU,jW,oC,cr,sV,rM,GK,xx,ZcU,xy,Dr,ZcE,aO,mS,iw,lp,ZcR,OH,kj,j7,UQ,BH,sW,Zck,uO,lF,oL,Zic,BI,yk,Zcn,Zcs,jC,zm,jD,lO,uQ,Ds,uP,pZ,Rr,Hp,Hq,fS,Cw,lP,wS,lQ,kA,uo,PF,Wp,aew,Ah,su,FH,Zi,aiG,aiH];try exact rfl)->Calls pg f args w R
variable {V : SP}
theorem cy (g:Func->gA)
 (hs:((pg.funcs[f]?).any λfn=>decide (args.size<=(g fn).n)&&(g fn).boxes.all λp=>decide (args.size<=p.1))=true)
 (hv: ∀R w,V pg R (bP w) w=OZ pg ((pg.funcs[f]?).bind λfn=>cF pg (g fn) fn) R args w):CQ f args V:=⟨λh e=>by
 cases hf:pg.funcs[f]? with
 |none=>rw[hf] at hs;cases hs
 |some fn=>rw[hf] at hs;exact G6 (pl:=g fn) hf (by simpa using hs) (by have:=hv;rw[hf] at this;exact e.symm.trans (this _ _)) (h (ai.init _))⟩
theorem cq (b:List (Nat×Nat):=[]) (m:List Nat:=[]) (c:List Nat:=[])
 (hs:((pg.funcs[f]?).any λfn=>decide (args.size<=fn.ntmps)&&b.all λp=>decide (args.size<=p.1))=true:=by kernel_rfl)
 (hv: ∀R w,V pg R (bP w) w=OZ pg ((pg.funcs[f]?).bind λfn=>cF pg (aeH fn (b.map λp=>(p.1,pg.cellsOf p.2)) m c) fn) R args w:=by intro R w;kernel_rfl):CQ f args V:=cy (λfn=>aeH fn (b.map λp=>(p.1,pg.cellsOf p.2)) m c) (by simpa [aeH,Function.comp_def] using hs) hv
theorem cp (pl:gA)
 (hs:((pg.funcs[f]?).any λfn=>decide (args.size<=pl.n)&&pl.boxes.all λp=>decide (args.size<=p.1))=true:=by kernel_rfl)
 (hv: ∀R w,V pg R (bP w) w=OZ pg ((pg.funcs[f]?).bind λfn=>cF pg pl fn) R args w:=by intro R w;kernel_rfl):CQ f args V:=cy (λ_=>pl) hs hv
structure CL (f:FuncId) (fn:Func) (pl:gA) (args:Array Value) (V:(Ending->World->Prop)->SP):Prop where
 g: ∀{R:Ending->World->Prop} {RP:List PanicEntry->World->Prop} {g0:FuncId} {cb:List Nat} {cv:List (Option Value)} {w:World},Yz fn=some (g0,cb)->(cv=[]\/cv=aiV pg pl fn args)->Idle pg g0->Rb pg pl fn R g0 cb cv RP->V (Gy R RP) pg (noP R) (bP w) w->Calls pg f args w R
theorem cl {pl:gA} {V:(Ending->World->Prop)->SP} (hf:pg.funcs[f]? =some fn)
 (hs:(decide (args.size<=pl.n)&&pl.boxes.all λp=>decide (args.size<=p.1))=true:=by kernel_rfl) (hv: ∀R S w,V S pg R (bP w) w=aiW pg (ftL pg pl fn) R S args w:=by intro R S w;kernel_rfl):CL f fn pl args V:=⟨λa b c d e=>Zq hf hs a b c d (hv _ _ _) e⟩
section
variable {w0 : World} {p0 p1 p2 p3 p4 p5 p6 p7 p8 p9 p10 p11 : Value} {i0 i1 i2 i3 i4 i5 i6 i7 i8 i9 i10 i11 i12 i13 i14 i15 i16 i17 i18 i19 i20 i21 i22 i23 i24 i25 i26 i27 i28 i29 i30 i31 i32 i33 i34 i35 i36 i37 i38 i39 : Int} {n0 n1 n2 n3 n4 n5 n6 n7 : Nat} {b0 b1 b2 b3 b4 b5 : Bool} {s0 s1 s2 s3 s4 s5 s6 s7 s8 s9 Q9 Rg : ByteArray} {m : cJ} {r : Rec} {vk vs vw vp vr vc vh vd vq : Value}
def FZ:CQ 4 #[p0] (xy 9 #[] λa=>lP a (aO bD) (bA 10 p0 λb=>lP b (xy 9 #[] aO) (xy 11 #[] λd=>lO d λe g=>l8 26 29 g fW (aO bD) (aiH ae undef undef undef undef bz g undef 6 16 17 18 12 5 4 8 λh i j k l _ m n _=>dG 22 p0 λo=>fV i o (kB 22 41 p0 i 57 41 λ_ r=>Ah ae 8 λs t=>dG 66 m λv=>fK .lss t v λy=>eh r (iD r 0 λz=>uP y z .eql 3 47 (I 2) λA=>iD r 3 λC=>uP A C .eql 3 53 (I 4) λD=>iD r 11 λE=>uP D E .eql 37 59 ae λF=>iD r 5 λG=>uP F G .eql 3 65 (I 21) λH=>iw H (lQ (cQ t s) λM=>uO 66 8 m t λN=>sW 68 0 0 3 N λO=>cr (jt 34 3 O) λQ=>gK r r 6 3 λS=>BH .eql 34 74 77 Q S λT=>fb T m λU=>fb T t λV=>vU T true (nW 66 8 U V) T true (ji 68 2 4 1) T true (ld1 43) λ_ _ a0=>iD r 9 λb0=>fb T b0 λc0=>lA T true (bI cO) (λ_ e0=>je T e0 bD (zm 66 8 m t 68 2 4 1 43 λh0=>eh r (xx false (gT 43 3 1 1 #[(0,b0)]) λi0=>jO 43 3 1 8 43 h0 i0 λj0=>uO 66 8 m t λk0=>Zcs 68 2 4 1 k0 43 1 j0 M)) M) (wS T true 17 #[a0,c0])) (gK r r 0 41 λm0=>gg 12 e n m0 λn0=>lO n0 λo0 q0=>OH n0 2 λr0=>fS q0 2 λs0=>fS r0 3 λ_=>l8 26 113 o0 fW (aO bD) (gK s0 s0 0 2 λt0=>cG 18 m t0 λv0=>Zi ae l k j 12 18 17 16 λy0 z0 A0 C0 D0=>eh s0 (iD s0 1 λE0=>dG 30 E0 λF0=>fV z0 F0 (aew (λG0 H0 L0=>cQ z0 λM0=>y0 M0 L0 H0 G0) λN0=>eh s0 (kB 30 9 E0 z0 64 9 λ_ Q0=>eh Q0 (iD Q0 0 λS0=>UQ .neq 37 132 S0 ae λT0=>iD Q0 7 λU0=>dZ T0 U0 λV0=>je T0 dL V0 (N0 D0 C0 A0) (PF (λZ0 a1=>FH ae A0 bD 17 18 16 λb1 c1 d1 e1=>dG 66 v0 λg1=>fV c1 g1 (PF (λh1 i1=>cQ c1 λj1=>b1 j1 i1 h1) λk1=>uO 66 8 v0 c1 λl1=>sW 68 0 0 3 l1 λm1=>cr (jt 34 3 m1) λn1=>gK Q0 Q0 1 3 λo1=>BH .eql 34 156 158 n1 o1 λq1=>fb q1 v0 λr1=>fb q1 c1 λs1=>vU q1 true (nW 66 8 r1 s1) q1 true (ji 68 1 3 1) q1 true (ld1 43) λ_ _ y1=>eh Z0 (iD Z0 15 λz1=>tS q1 z1 (λ_ C1=>je q1 C1 bD (su ae dL 18 16 λE1 F1 G1=>eh Z0 (dG 43 z1 λH1=>fV F1 H1 (fb G1 v0 λL1=>fb G1 c1 λM1=>vU G1 true (nW 66 8 L1 M1) G1 true (ji 68 2 4 1) G1 true (ld1 43) λ_ _ Q1=>eh Z0 (fb G1 z1 λS1=>fb G1 F1 λT1=>gW G1 true (nW 43 1 S1 T1) G1 true (ld1 3) λ_ V1=>kA (λY1=>jr G1 Y1 bD λZ1=>cQ F1 λa2=>E1 a2 Z1) (wS G1 true 17 #[Q1,V1]))) (k1 G1 F1))) (k1 e1 d1)) λA1=>wS q1 true 21 #[y1,A1])) (cr (bI cO a1) λd2=>Rr d2 e1 (bI cO) λg2=>gK Z0 Z0 4 3 λh2=>dZ g2 h2 λi2=>gK Q0 Q0 4 3 λj2=>Rr g2 j2 (dF .neq 39 (.tmp 199) (.tmp 201) i2) λl2=>eh r (Hp l2 z .neq 3 206 (I 2) λm2=>Hp m2 C .neq 3 212 (I 4) λn2=>dZ n2 j2 λo2=>lz r 12 3 λq2=>dZ n2 q2 λr2=>kA (λs2=>je n2 dL s2 (aO bD) (N0 e1 c1 d1)) (wS n2 false 22 #[o2,r2])))) λy2=>eh Q0 (lp (lF 20 #[o0] λz2=>lp (lz Q0 1 3 λA2=>sy 19 z2 A2 λ_ D2 E2=>fS D2 29 λF2=>y2 F2 E2) (lz Q0 1 3 λG2=>sy 19 z2 G2 λ_ L2 M2=>fS L2 29 λN2=>y2 N2 M2)) (lF 20 #[o0] λO2=>lz Q0 1 3 λQ2=>sy 19 O2 Q2 λ_ T2 U2=>fS T2 29 λV2=>y2 V2 U2)))))) (cQ i λY2=>h Y2 D0 C0 A0 z0 v0 o0 t)))))) (xy 9 #[] aO))))):=cq [(7,57),(10,32),(11,34),(13,64),(14,73)] [45,47,48,50,53,54,56,59,60,62,65,66,79,80,81,82,83,84,87,88,89,134,136,160,161,162,163,164,165,167,168,177,178,179,180,181,182,183,185,186,187,188,189,193,194,195,197,199,201,202,204,206,207,209,212,213,215,217,220,221] [4,5,6,8,12,16,17,18]
end
end Go.Proofs.YtgfijddlkhkopaaGreat