/- Part 3 of the proof. -/
import Derived.Laws.Pointers
import Derived.Shelf.SlSortCmp.WholeK
import Derived.Shelf.SlSortCmp.NoneTotal
import Derived.Recover
import Derived.Laws.MakeOwn
import Derived.Laws.BytesArg
import Derived.Laws.Concat
import Derived.Lib.Overlaps
import Derived.Lib.AppendZerosOnto
import Derived.Laws.Externs
import Derived.Laws.Slices
import Derived.Laws.IdiomStrings
import Derived.KernelRfl
import Derived.Test.YtgfijddlkhkopaaGreatProg
import Derived.Test.YtgfijddlkhkopaaGreatW2
set_option linter.all false
open Option.some renaming injEq → aj
open Nat renaming le_trans → ad, le_refl → au, lt_of_lt_of_le → aw, zero_add → fg, mul_le_mul_right → cW, zero_le → aq, add_mul → je, succ_mul → zZ, add_zero → z6, mul_le_mul → xW
open Go.Sem renaming run_bind → bq, run_pure → bQ
open Go.Result renaming andThen_ok → aM
open List renaming length_append → aa, getElem?_map → cP, length_drop → bV, size_toArray → kI, append_assoc → ao, mem_of_getElem? → ay, flatten_cons → dd, getElem?_eq_getElem → aZ, getElem?_drop → gr, length_take → aD, take_left → td, map_cons → bB, ext_getElem? → uv, length_map → af, flatten_append → dW, mem_cons_of_mem → bX, all_eq_true → lf, getD → pR, getElem?_append_left → dT, getElem?_append_right → cZ, take_of_length_le → aA, eq_nil_of_length_eq_zero → iK, nil_append → cI, getElem?_take → lZ, length_nil → br, getElem?_zip_eq_some → tI, getElem_mem → Bh
open Go.Builtin renaming append_ → fh, zeroCells → jH, lenOf → qu, clear_ → mS, firstCells → zu, nextslicecap → xX
open Option renaming map_some → aY, bind_some → cQ
open Prod.mk renaming injEq → cV
open Array renaming length_toList → fB, getElem?_append_left → kD, getElem?_toList → mY, ext' → xh, size_append → ux, toList_append → sE, replicate → dg, getD_eq_getD_getElem? → nh, getElem?_eq_getElem → tJ, getElem?_modify → xi, getElem?_setIfInBounds → dS, toList_map → nr, getElem?_append → kB, getElem?_replicate → jz
open Go.Instr renaming sliceAt → bJ, alloc → gd, makeFunc → cC, extract → gz, panic → kE, box → bW, makeSlice → BH, buildSlice → jg, makeInterface → iX, typeAssert → nJ
open Go.Value renaming int → az, ownBlock → ir, tuple → dr
open Go.Addr renaming add_lit → oM
open Bool renaming and_eq_true → aB, not_eq_true' → de
open Go.Region renaming wanted → cJ
open Go.Sort renaming grow → vD
open Go.World renaming freeze → vE, cell? → fu
open Go.Deferred renaming ofValue → lj
open Go.Oper renaming upon_defer → BI
open Go.Code.seq renaming injEq → C3
namespace Go.aK
open Go.Sort Go.Shelf Go.RowKit Go.Proofs
variable {P : Program} {ρ : Ren} {α : Type}
def acj (W w':World):Prop:= ∃os',w'=vD W os'
def zH (W w':World):Prop:= ∃q os,w'=vD (W.drewN q) os
theorem zH.refl (W:World):zH W W:=⟨0,#[],by rfl⟩
variable {W w : World}
theorem zH.alloc (h:zH W w) (o:Obj):zH W (w.alloc o):=by
 obtain⟨q,os,rfl⟩:=h;exact⟨q,os.push o,by simp[World.alloc,vD]⟩
variable {w' : World}
theorem zH.trans (h:zH W w) (k:zH w w'):zH W w':=by
 obtain⟨q,os,rfl⟩:=h;obtain⟨q',os',rfl⟩:=k;exact⟨q+q',os++os',by simp[World.drewN,vD,Nat.add_assoc]⟩
variable {g : Nat}
theorem zH.row (h:zH W w') {o:Obj} (hg:W.heap[g]? =some o):w'.heap[g]? =some o:=by
 obtain⟨q,os,rfl⟩:=h
 show(W.heap++os)[g]? =some o
 rw[kD (Array.getElem?_eq_some_iff.1 hg).1,hg]
variable {k : Nat}
theorem flat_get [Inhabited α] {enc:α->List Value} (hk: ∀x,(enc x).length=k) (h0:0<k): ∀(l:List α) (t:Nat),t<l.length*k->((l.map enc).flatten)[t]? =some ((enc l[t/k]!)[t % k]!)
 |[],t,h=>by simp at h
 |x::l,t,h=>by
  rw[bB,dd];by_cases ht:t<k
  ·rw[dT gQ,Nat.div_eq_of_lt ht,Nat.mod_eq_of_lt ht];simp_all
  ·obtain⟨s,rfl⟩: ∃s,t=s+k:=⟨t-k,by omega⟩;rw[cZ gQ,hk,Nat.add_sub_cancel,Nat.add_div_right _ h0,Nat.add_mod_right];have hs:s<l.length*k:=by rw[List.length_cons,zZ] at h;omega
   rw[flat_get hk h0 l s hs];simp
theorem aei [Inhabited α] {enc:α->List Value} (hk: ∀x,(enc x).length=k) (h0:0<k) (l:List α):(flatK enc k l.toArray).toList=(l.map enc).flatten:=by
 have hl:((l.map enc).flatten).length=l.length*k:=by
  rw[lE (k:=k) gQ];simp
 apply uv;intro t;by_cases ht:t<l.length*k
 ·rw[flat_get hk h0 l t ht];have h1:t<(flatK enc k l.toArray).size:=by simpa using ht
  have h2:=get_flatK enc k l.toArray t zQ;rw[getElem!_pos (flatK enc k l.toArray) t h1] at h2;rw[mY,tJ h1,h2];simp
 simp_all
theorem Vi (F cs:Array Value) (h:F.size<=cs.size):(putCells id 0 F cs).toList=F.toList++cs.toList.drop F.size:=by
 apply uv;intro t;unfold putCells;rw[mY,Array.getElem?_mapIdx];by_cases ht:t<F.size
 ·rw[dT zQ,tJ zQ];simp[ht]
 ·rw[cZ gQ,gr];simp only[fB,mY];rw[show F.size+(t-F.size)=t by omega]
  grind
variable {v : Value} {lo : Nat} {X : XS} {e : TypeId}
theorem ait [Inhabited α] (L:SlLaysF0.n6 P ρ) (h0:0<k) (aE: ∀w,(isAgg (ρ.t 24)).run P w= .ok true w) (zE: ∀w,(Go.sizeOf (ρ.t 24)).run P w= .ok k w) {enc:α->List Value} (hk: ∀x,(enc x).length=k)
    (h1: ∀x,∀v∈enc x,v.oneCell'=true) {cf:α->α->Int} (hO:SWO (ltOf cf)) (eg: ∀args w,(callFunc g args).run P w= .ok (.enter g args) w)
    (aiu: ∀x y W,Calls P g #[.agg (enc x).toArray,.agg (enc y).toArray] W λe w'=>e= .returned (.int .i64 (cf x y))/\zH W w')
 {xs:List α} (own:Own w X lo e k v (xs.map enc)) (hb:xs.length<2^61):
    Ct P (ρ.f 6) #[v,.func (.func g) #[] #[]] w X (fc v) λr _ w'=>r= .tuple #[]/\ ∃ys:List α,ys.Perm xs/\ys.Pairwise (λa b=>ltOf cf b a=false)/\Own w' (fc v) lo e k v (ys.map enc):=by
  intro w0 DB;have bZ:=own.mv DB.mv;have emp: ∀(p:Option Addr) (cap:Nat),v= .slice p 0 cap->xs=[]->Calls P (ρ.f 6) #[v,.func (.func g) #[] #[]] w0 (uF (fc v) w0 λr w'=>r= .tuple #[]/\ ∃ys:List α,ys.Perm xs/\ys.Pairwise (λa b=>ltOf cf b a=false)/\Own w' (fc v) lo e k v (ys.map enc)):=by
    intro p cap hv hx;have ho:Own w0 (fc v) lo e k v (xs.map enc):=⟨bZ.1,bZ.2.1,λ_ hg=>hg⟩;subst hx;rw[hv] at ho⊢;exact(AnyF.slices_SortFunc_none L p cap (.func (.func g) #[] #[]) w0).mono λe w' ⟨he,hw⟩=>⟨_,he,by subst hw;exact⟨rfl,rfl,rfl,au _,λ_ _ _=>rfl⟩,rfl,[],List.Perm.refl _,List.Pairwise.nil,by grind⟩
  rcases bZ.row with⟨hv,he⟩|⟨b,cap,cs,hv,gw,bo,pL,iF,qi,uG⟩
  · exact emp none 0 hv (by simpa using he)
  · rw[af] at hv pL uG
    by_cases hx:xs=[]
    · exact emp _ cap (by rw[hv,hx];rfl) hx
    have hH:HoldsK enc k w0 b 0 xs.toArray:=by
      intro j hj;have hj':j<xs.length*k:=by simpa using hj
      have cD:j<cs.length:=by
        rw[qi];exact aw hj' (cW _ pL)
      have hf:=flat_get hk h0 xs j hj';rw[<-uG,List.getElem?_take_of_lt hj'] at hf;refine⟨?_,?_⟩
      · unfold fu
        rw[bo.2];simp only[fg,Option.isSome_none,Bool.false_eq_true,if_false,id];rw[get_flatK enc k _ _ zQ];simpa using hf
      · unfold World.frozen?
        rw[bo.2];simp
    have hc:=AnyQ.slices_SortFunc L k aE zE enc hk h1 cf hO g #[] b 0 cap xs.toArray w0 eg (λm os dk _ x y=>(aiu x y _).mono λ_ _ ⟨he,q,os',hw⟩=>⟨he,q,os',hw⟩) hH bo.lt oQ;rw[show xs.toArray.size=xs.length by simp] at hc;rw[hv];refine hc.mono ?_;rintro _ w' ⟨rfl,d',n,os,hp,hs,rfl⟩;obtain⟨FV,_,hpp⟩:=hp;have FV:d'.size=xs.length:=by simpa using FV
    have hblk: ∀q,q<w0.heap.size-> ¬fc (.slice (some ⟨b,0,none⟩) xs.length cap) q->q≠b:=λq _ hq e=>hq (by rw[e];rfl);have aej:(sortWorldK enc k w0 b 0 n d' os).heap=(w0.heap.modify b (onCells (putCells id 0 (flatK enc k d'))))++os:=rfl;have hF:(flatK enc k d').toList=(d'.toList.map enc).flatten:=by
      have:=aei hk h0 d'.toList;simpa using this
    have hFs:(flatK enc k d').size=xs.length*k:=by rw[size_flatK,FV]
    refine⟨_,rfl,⟨rfl,rfl,rfl,?_,?_⟩,rfl,d'.toList,?_,?_,?_⟩
    · rw[aej];simp
    · intro q hq hn
      rw[aej,kD (by simpa using hq),xi,if_neg (Ne.symm (hblk q hq hn))]
    · have h3:(d'.extract 0 xs.length)=d':=by rw[<-FV];simp
      have h4:(xs.toArray.extract 0 xs.length)=xs.toArray:=by simp
      rw[h3,h4] at hpp;omega
    · rw[List.pairwise_iff_getElem]
      intro i j hi hj yE;have:=hs i j (aq _) yE (by rw[<-FV];omega);rw[getElem!_pos d' j zQ,getElem!_pos d' i zQ] at this;assumption
    · have GG:(sortWorldK enc k w0 b 0 n d' os).heap[b]? =some (.cells (putCells id 0 (flatK enc k d') cs.toArray) e (0,0)):=by
        rw[aej,kD (by simpa using bo.lt),xi,if_pos rfl,bo.2];rfl
      have hle:xs.length*k<=cs.length:=by rw[qi];exact cW _ pL
      have vO:=Vi (flatK enc k d') cs.toArray (by rw[hFs];omega);have DL:aG (sortWorldK enc k w0 b 0 n d' os) (fc (.slice (some ⟨b,0,none⟩) xs.length cap)) b (putCells id 0 (flatK enc k d') cs.toArray).toList e:=⟨rfl,by omega⟩;refine Own.Hw DL gw (by intro r hr;obtain⟨x,_,rfl⟩:=List.mem_map.1 hr;exact hk x) (by simpa using FV) pL iF ?_ ?_
      · rw[vO,aa,bV,fB,hFs];simp;omega
      · rw[vO,List.take_append_of_le_length (by simp[FV]),aA (by simp[FV]),hF]
def abv [Inhabited α] (L:SlLaysF0.n6 P ρ) (h0:0<k) (aE: ∀w,(isAgg (ρ.t 24)).run P w= .ok true w) (zE: ∀w,(Go.sizeOf (ρ.t 24)).run P w= .ok k w) {enc:α->List Value} (hk: ∀x,(enc x).length=k)
    (h1: ∀x,∀v∈enc x,v.oneCell'=true) {cf:α->α->Int} (hO:SWO (ltOf cf)) (eg: ∀args w,(callFunc g args).run P w= .ok (.enter g args) w)
    (aiu: ∀x y W,Calls P g #[.agg (enc x).toArray,.agg (enc y).toArray] W λe w'=>e= .returned (.int .i64 (cf x y))/\acj W w')
 {xs:List α} (own:Own w X lo e k v (xs.map enc)) (hb:xs.length<2^61):
    Ct P (ρ.f 6) #[v,.func (.func g) #[] #[]] w X (fc v) λr _ w'=>r= .tuple #[]/\ ∃ys:List α,ys.Perm xs/\ys.Pairwise (λa b=>ltOf cf b a=false)/\Own w' (fc v) lo e k v (ys.map enc):=
  ait L h0 aE zE hk h1 hO eg (λx y W=>(aiu x y W).mono λ_ _ ⟨he,os,hw⟩=>⟨he,0,os,hw⟩) own hb
variable {P : Program} {R : Ending -> World -> Prop} {X : XS} {w : World} {m : Bool}
variable {bytes t ty : Nat} {rows : List (List Value)} {N : Value -> World -> XS -> Prop}
section
variable {e : Nat} {x s : Value} {dw : List (List Value)} {row : List Value}
theorem akR (own:Own w X lo e k v rows) (hX: ∀k,X k->k<w.heap.size) (gw:lo<=w.heap.size) (he:nH P t e k bytes=true) (hx:x.cells.toList=row) (hk:(row.length==k)=true)
  (h1:row.all one=true) (hb:(rows.length+1)*bytes<=140737488355328) (hl:rows.length+1<=2^63-1)
  (n: ∀v' w' X',ee (fc v) X w X' w'->Own w' X' lo e k v' (rows++[row])->(v'.ownBlock=v.ownBlock\/ ∃g,v'.ownBlock=some g/\w.heap.size<=g)->N v' w' X'):
  eV P R X w m (gO t e k 1 #[(0,x)]) λs w1 X1=>eV P R X1 w1 true (ga t e k bytes ty v s) N:=by
 obtain⟨hu,ix,E6,z,hi,hz,xe⟩:=mn he;have ah:row.length=k:=by simpa using hk
 have Jy:x.cells.size=k:=by rw[<-ah,<-hx,fB]
 refine B0 (rows:=[row]) x.cells z hX hu hz zQ zQ ?_ (by simpa using ah) rfl gQ λs w1 X1 ax FN=>?_
 ·simp only[Nat.one_mul];exact Ff Jy sQ
 ·have SG:lo<=w1.heap.size:=ad gw ax.kp.size;refine C1 (dw:=[row]) z hu hi xe ix ax.has SG (own.since ax) FN.sl (by simpa using h1) zQ zQ λv2 w2 X2 hg ho dF=>?_;refine n v2 w2 X2 ((ee.nA ax (fc v)).trans (hg.dY.mono λk _ hk=>hk.symm)) ho ?_;rcases dF with h|⟨g,h,dD⟩
  ·exact .inl h
  ·exact .inr ⟨g,h,ad ax.kp.size dD⟩
theorem Ec (own:Own w X lo e k v rows) (hX: ∀k,X k->k<w.heap.size) (gw:lo<=w.heap.size) (he:nH P t e k bytes=true) (src:Sl w X k s dw) (h1: ∀r∈dw,∀u∈r,one u=true)
  (hb:(rows.length+dw.length)*bytes<=140737488355328) (hl:rows.length+dw.length<=2^63-1)
  (n: ∀v' w' X',ee (fc v) X w X' w'->Own w' X' lo e k v' (rows++dw)->(v'.ownBlock=v.ownBlock\/ ∃g,v'.ownBlock=some g/\w.heap.size<=g)->N v' w' X'):
  eV P R X w true (ga t e k bytes ty v s) N:=by
 obtain⟨hu,ix,E6,z,hi,hz,xe⟩:=mn he;refine C1 (dw:=dw) z hu hi xe ix hX gw own src h1 hb hl λv2 w2 X2 hg ho dF=>?_;exact n v2 w2 X2 (hg.dY.mono λk _ hk=>hk.symm) ho dF
end
def yN (s:ByteArray):List Value:=s.data.toList.map λb=>.int .u8 b.toNat
theorem MZ (s:ByteArray):(yN s).length=s.size:=by unfold yN;simp_all
theorem LV (s:ByteArray):(zu 1 s.size (.string s))=(pure (yN s).toArray:Sem (Array Value)):=by
 have hx:(s.extract 0 s.size)=s:=by
  apply ByteArray.ext;simp[ByteArray.data_extract]
 show(pure ((s.extract 0 s.size).data.map λb=>az .u8 b.toNat):Sem (Array Value))=_
 rw[hx]
 congr 1
 apply xh;simp[yN]
theorem JP (t u ty e:TypeId) (i:TypeInfo) (ht:P.underlying t=some (.slice e)) (hu:P.underlying u=some .string) (hi:P.info? e=some i) (h1:i.size=1)
  (g lv uy:Nat) (cur:Array Value) (hg:w.heap[g]? =some (.cells cur e (0,0))) (s:ByteArray) (xj:lv+s.size<=uy) (IM:lv+s.size<=cur.size):
  (fh #[t,u] ty #[.slice (some ⟨g,0,none⟩) lv uy,.string s]).run P w=
   .ok (.slice (some ⟨g,0,none⟩) (lv+s.size) uy) (w.setRow g (cur.toList.take lv++yN s++cur.toList.drop (lv+s.size)).toArray):=by
 have fN:=run_storeCells_at P g lv e (yN s) 0 cur w hg (by grind [MZ]) (λv hv=>by
  unfold yN at hv;obtain⟨b,_,rfl⟩:=List.mem_map.1 hv;rfl)
 simp only[z6,MZ] at fN;simp[fh,run_underlying ht,run_underlying hu,sizeOf,typeInfo,hi,qu,xj,h1,LV,oM,fN]
theorem JQ (t u ty e:TypeId) (i:TypeInfo) (z:Value) (ht:P.underlying t=some (.slice e)) (hu:P.underlying u=some .string) (hi:P.info? e=some i) (hz:i.zero=some z) (h1:i.size=1)
  (b:Addr) (lv uy:Nat) (aek:List Value) (gw:aek.length=lv) (holds: ∀j v,aek[j]? =some v->w.cell? (b.add j)=some v) (s:ByteArray)
  (hg:uy<lv+s.size) (h63:((lv+s.size:Nat):Int)<=9223372036854775807) (IM:xX (lv+s.size) uy*i.bytes<=281474976710656):
  (fh #[t,u] ty #[.slice (some b) lv uy,.string s]).run P w=
   .ok (.slice (some ⟨w.heap.size,0,none⟩) (lv+s.size) (grownCap w (lv+s.size) uy e))
    (w.drew.alloc (.cells (aek.toArray++(yN s).toArray++jH z.cells (grownCap w (lv+s.size) uy e-(lv+s.size))) e)):=by
 have hn: ¬(lv+s.size<=uy):=by omega
 have aq1: ¬(9223372036854775807<((lv:Int)+(s.size:Int))):=by omega
 have aq2: ¬(281474976710656<xX (lv+s.size) uy*i.bytes):=by omega
 have hfo:=run_firstCells_some (P:=P) w.drew 1 lv b lv uy aek zQ aQ;simp[fh,run_underlying ht,run_underlying hu,sizeOf,typeInfo,zeroValue,hi,hz,qu,hn,aq1,aq2,Question.forced,LV,h1,hfo,newRow,grownCap]
 congr 2
 apply xh;simp_all
theorem LX (base:Nat) (t u ty e:TypeId) (i:TypeInfo) (z:Value) (bytes:Nat) (ht:P.underlying t=some (.slice e)) (hu:P.underlying u=some .string) (hi:P.info? e=some i) (hz:i.zero=some z)
  (h1:i.size=1) (FM:i.bytes=bytes) (xe:z.cells.size=1) (v:Value) (n:Nat) (xs:List Value) (uV:w.ownsRow base e 1 v n xs) (s:ByteArray)
  (h63:n+s.size<=maxLen) (af2:(n+s.size)*bytes<=140737488355328) (acE:base<=w.heap.size):
  ∃v' w',(fh #[t,u] ty #[v,.string s]).run P w= .ok v' w'/\w'.ownsRow base e 1 v' (n+s.size) (xs++yN s)/\w.grownBy w' v.ownBlock/\(v'.ownBlock=v.ownBlock\/v'.ownBlock=some w.heap.size):=by
 subst FM;have Q6:n+s.size<=9223372036854775807:=by simp only[maxLen] at h63;omega
 have hl:=MZ s;have T1:xs.length=n:=by simpa using uV.1
 have hlen:(xs++yN s).length=(n+s.size)*1:=by rw[aa,T1,hl];omega
 have grown: ∀(bI:Nat),bI<n+s.size-> ∀(row:Option Nat),
   (w.drew.alloc (.cells (xs.toArray++(yN s).toArray++jH z.cells (grownCap w (n+s.size) bI e-(n+s.size))) e)).ownsRow base e 1
    (.slice (some ⟨w.heap.size,0,none⟩) (n+s.size) (grownCap w (n+s.size) bI e)) (n+s.size) (xs++yN s)/\
   w.grownBy (w.drew.alloc (.cells (xs.toArray++(yN s).toArray++jH z.cells (grownCap w (n+s.size) bI e-(n+s.size))) e)) row:=by
  intro bI ho row;have dD:=grownCap_ge w (n+s.size) bI e;have iF:grownCap w (n+s.size) bI e<=maxLen:=grownCap_le_maxLen w (n+s.size) bI e h63;refine⟨⟨hlen,.inr ⟨w.heap.size,_,_,rfl,acE,heap_alloc_new w.drew _,dD,iF,?_,?_⟩⟩,⟨rfl,rfl,rfl,by simp,λk hk _=>by first|exact heap_alloc_old w.drew _ k hk|exact heap_alloc_old w.drew _ hk⟩⟩
  ·simp only[ux,kI,size_zeroCells,xe,T1,hl];omega
  ·simp only[sE,ao];rw[<-ao,<-hlen]
   grind
 rcases uV.2 with⟨rfl,rfl⟩|⟨g,cap,cur,rfl,hbg,hg,pL,iF,jm,M1⟩
 ·have hx:xs=[]:=iK T1;subst hx;by_cases hm:s.size=0
  ·have hn:yN s=[]:=iK (by rw[hl,hm]);refine⟨.slice none 0 0,w,?_,by simp_all,⟨rfl,rfl,rfl,au _,λ_ _ _=>rfl⟩,Or.inl rfl⟩;have hf:=LV s;rw[hm,hn] at hf;simp[fh,run_underlying ht,run_underlying hu,sizeOf,typeInfo,hi,qu,hm,h1,hf]
  ·have hr:=run_append_nil_string (P:=P) w t u ty e i z ht hu hi hz s zQ zQ (by have hb:=af2;simp only[fg] at hb;omega);have Er:=grown 0 zQ (ir (.slice none 0 0));have he:(s.data.map λb:UInt8=>az .u8 b.toNat)=(yN s).toArray:=by
    apply xh;simp[yN]
   rw[he] at hr;simp only[fg,cI,Array.empty_append] at Er⊢;exact⟨_,_,hr,Er.1,Er.2,Or.inr rfl⟩
 ·rw[Nat.mul_one] at jm M1;by_cases xj:n+s.size<=cap
  ·have IM:n+s.size<=cur.size:=by rw[jm];exact xj
   have hr:=JP (P:=P) (w:=w) t u ty e i ht hu hi h1 g n cap cur hg s xj IM;refine⟨_,_,hr,⟨hlen,.inr ⟨g,cap,_,rfl,hbg,setRow_heap w g cur _ e _ hg,xj,iF,?_,?_⟩⟩,⟨rfl,rfl,rfl,by simp,λk _ hk=>setRow_other w g k _ (λe=>hk (by simp[ir,e]))⟩,Or.inl rfl⟩
   ·simp only[kI,aa,aD,bV,fB,hl];omega
   ·rw[M1,<-hlen];exact td
  ·have holds: ∀j u,xs[j]? =some u->w.cell? ((⟨g,0,none⟩:Addr).add j)=some u:=uV.cells (g:=g) rfl;have hr:=JQ (P:=P) (w:=w) t u ty e i z ht hu hi hz h1 ⟨g,0,none⟩ n cap xs T1 holds s zQ zQ (growslice_fits zQ af2);have Er:=grown cap zQ (ir (.slice (some ⟨g,0,none⟩) n cap));exact⟨_,_,hr,Er.1,Er.2,Or.inr rfl⟩
theorem anp {u e:Nat} {s:ByteArray} (own:Own w X lo e 1 v rows) (hX: ∀k,X k->k<w.heap.size) (gw:lo<=w.heap.size)
  (he:nH P t e 1 bytes=true) (hu:P.underlying u=some .string) (hb:(rows.length+s.size)*bytes<=140737488355328) (hl:rows.length+s.size<=2^63-1)
  (n: ∀v' w' X',ee (fc v) X w X' w'->Own w' X' lo e 1 v' (rows++(yN s).map λx=>[x])->(v'.ownBlock=v.ownBlock\/ ∃g,v'.ownBlock=some g/\w.heap.size<=g)->N v' w' X'):
  eV P R X w true (fh #[t,u] ty #[v,.string s]) N:=by
 obtain⟨ht,ix,E6,z,hi,hz,xe⟩:=mn he;intro wa hk;have own:=own.kp hk;cases hq:P.info? e with
 |none=>grind
 |some ie=>
  cases tG:ie.zero with
  |none=>grind
  |some z'=>
   simp only[hq,tG,cQ,aY,aj,cV] at hi;obtain⟨h1,rfl,rfl⟩:=hi;unfold jA;obtain⟨v',w',hr,tV,hg,dF⟩:=LX (P:=P) (w:=wa) lo t u ty e ie z' ie.bytes ht hu hq tG h1 rfl xe v rows.length rows.flatten own.2.1 s hl hb (ad gw hk.size);simp only[vS,bq,hr,aM,bQ];have iQ:((yN s).map λx=>[x]).flatten=yN s:=by
    induction yN s with
    |nil=>rfl
    |cons a l ih=>simp[ih]
   refine⟨⟨hg.os,hg.tape,hg.output,hg.size,λk tZ nj=>hg.block k tZ λe=>nj (own.2.2 k e.symm)⟩,n _ _ _ ?_ ⟨?_,?_,?_⟩ ?_⟩
   ·exact⟨hg.os.trans hk.os,hg.tape.trans hk.tape,hg.output.trans hk.output,ad hk.size hg.size,
     λk hx cA=>(hg.block k (aw (hX k hx) hk.size) λe=>cA e.symm).trans (hk.block k hx),λk h=>.inl h,
     λk h=>h.elim (λh=>aw (hX k h) (ad hk.size hg.size)) (λh=>h.2)⟩
   ·intro r hr;rcases List.mem_append.1 hr with h|h
    ·exact own.1 r h
    ·obtain⟨x,_,rfl⟩:=List.mem_map.1 h;rfl
   ·rw[aa,af,MZ,dW,iQ];omega
   ·intro g Jw;rcases dF with h|h
    ·exact .inl (own.2.2 g (h▸Jw))
    ·rw[Jw] at h;cases h;exact .inr ⟨au _,(tV.lt _ Jw).2⟩
   ·rcases dF with h|h
    ·exact .inl h
    ·exact .inr ⟨_,h,hk.size⟩
theorem CW {f:FuncId} {a b:Value} (h:eC P R X w m f #[a,b] N):eF P R X w m (.func (.func f) #[a] #[]) #[b] N:=by
 have e: ∀wa,(H8 (.func (.func f) #[a] #[]) #[b]).run P wa=(callFunc f #[a,b]).run P wa:=by
  intro wa;simp[H8,lj,invoke]
 intro wa hk;have:=h wa hk
 grind
end Go.aK
namespace Go.aK
variable {P : Program} {R : Ending -> World -> Prop} {X : XS} {w : World} {m : Bool}
def Ow (w:World) (X:XS) (e k:Nat) (v:Value) (rows:List (List Value)):Prop:=
 (∀r∈rows,r.length=k)/\((v= .slice none 0 0/\rows=[])\/ ∃g off cap cur,v= .slice (some ⟨g,off,none⟩) rows.length cap/\X g/\w.heap[g]? =some (.cells cur e (0,0))/\
  rows.length<=cap/\cap<=maxLen/\off+cap*k<=cur.size/\(cur.toList.drop off).take (rows.length*k)=rows.flatten)
theorem Ow.nil (w:World) (X:XS) (e k:Nat):Ow w X e k (.slice none 0 0) []:=⟨by simp,.inl ⟨rfl,rfl⟩⟩
variable {rows : List (List Value)} {v : Value} {e k : Nat}
theorem Own.ow {lo:Nat} (h:Own w X lo e k v rows):Ow w X e k v rows:=by
 obtain⟨h1,h2,h3⟩:=h;refine⟨h1,?_⟩;rcases h2.2 with⟨rfl,hn⟩|⟨g,cap,cur,rfl,hb,hg,pL,iF,jm,ht⟩
 ·simp_all
 ·exact .inr ⟨g,0,cap,cur,rfl,h3 g rfl,hg,pL,iF,by omega,by assumption⟩
theorem Ow.sl (h:Ow w X e k v rows):Sl w X k v rows:=by
 obtain⟨h1,⟨rfl,rfl⟩|⟨g,off,cap,cur,rfl,hx,hg,pL,iF,jm,ht⟩⟩:=h
 ·exact Sl.nil w X k
 ·have hm:cap<=2^63-1:=iF;refine⟨h1,ad pL hm,_,cap,rfl,λ_=>⟨g,off,rfl,hx,cur,e,(0,0),hg,λj v hj=>?_⟩,by simp,pL,hm⟩;rw[<-ht,lZ,gr] at hj;split at hj
  ·simpa using hj
  ·cases hj
theorem Ow.one (h:Ow w X e k v rows):one v=true:=h.sl.one
variable {Y : XS}
theorem Ow.mono (h:Ow w X e k v rows) (hs: ∀k,X k->Y k):Ow w Y e k v rows:=by
 obtain⟨h1,h|⟨g,off,cap,cur,hv,hx,hr⟩⟩:=h
 ·exact⟨h1,.inl h⟩
 ·exact⟨h1,.inr ⟨g,off,cap,cur,hv,hs _ hx,hr⟩⟩
variable {w' : World}
theorem Ow.mv (h:Ow w X e k v rows) (m:Mv X w Y w'):Ow w' Y e k v rows:=by
 obtain⟨h1,h|⟨g,off,cap,cur,hv,hx,hg,hr⟩⟩:=h
 ·exact⟨h1,.inl h⟩
 ·obtain⟨m1,m2⟩:=m g hx (Array.getElem?_eq_some_iff.1 hg).1;exact⟨h1,.inr ⟨g,off,cap,cur,hv,m1,by grind,hr⟩⟩
theorem Ow.kp (h:Ow w X e k v rows) (hk:Kp X w w'):Ow w' X e k v rows:=by
 obtain⟨h1,h|⟨g,off,cap,cur,hv,hx,hg,hr⟩⟩:=h
 ·exact⟨h1,.inl h⟩
 ·exact⟨h1,.inr ⟨g,off,cap,cur,hv,hx,by rw[hk.block g hx];exact hg,hr⟩⟩
variable {g : Nat}
theorem Ow.bw (h:Ow w X e k v rows) (hg:v.ownBlock=some g):X g/\g<w.heap.size:=by
 obtain⟨h1,⟨rfl,_⟩|⟨g',off,cap,cur,rfl,hx,hb,hr⟩⟩:=h
 ·cases hg
 ·simp only[ir,aj] at hg;grind
theorem Ow.tag (h:Ow w X e k v rows) (hg:v.ownBlock=some g): ∃cs:List Value,w.heap[g]? =some (.cells cs.toArray e (0,0)):=by
 obtain⟨h1,⟨rfl,_⟩|⟨g',off,cap,cur,rfl,hx,hb,hr⟩⟩:=h
 ·cases hg
 ·simp only[ir,aj] at hg;subst hg;exact⟨cur.toList,by omega⟩
variable {cs : List Value}
theorem Ow.eT {e':Nat} (h:Ow w X e k v rows) (hr:aG w Y g cs e') (he:decide (e≠e')=true):v.ownBlock≠some g:=λhg=>by
 obtain⟨c,h1⟩:=h.tag hg;rw[hr.2] at h1
 grind
variable {F X' : XS}
theorem Ow.dY (h:Ow w X e k v rows) (c:ee F X w X' w') (hd: ∀g,v.ownBlock=some g-> ¬F g):Ow w' X' e k v rows:=by
 obtain⟨h1,h|⟨g,off,cap,cur,rfl,hx,hg,hr⟩⟩:=h
 ·exact⟨h1,.inl h⟩
 ·exact⟨h1,.inr ⟨g,off,cap,cur,rfl,c.sub g hx,by rw[c.block g hx (hd g rfl)];exact hg,hr⟩⟩
theorem Ow.tight (h:Ow w X e k v rows):Ow w (fc v) e k v rows:=by
 obtain⟨h1,h|⟨g,off,cap,cur,rfl,hx,hr⟩⟩:=h
 ·exact⟨h1,.inl h⟩
 ·exact⟨h1,.inr ⟨g,off,cap,cur,rfl,rfl,hr⟩⟩
theorem z7 (t ty e:TypeId) (i:TypeInfo) (ht:P.underlying t=some (.slice e)) (hi:P.info? e=some i)
  (g off lv uy:Nat) (cur:Array Value) (hg:w.heap[g]? =some (.cells cur e (0,0)))
  (a:Addr) (m c:Nat) (news:List Value) (hl:news.length=m*i.size) (ao1: ∀j u,news[j]? =some u->w.cell? (a.add j)=some u) (h1: ∀u∈news,u.oneCell'=true)
  (xj:lv+m<=uy) (IM:off+lv*i.size+news.length<=cur.size):
  (fh #[t,t] ty #[.slice (some ⟨g,off,none⟩) lv uy,.slice (some a) m c]).run P w=
   .ok (.slice (some ⟨g,off,none⟩) (lv+m) uy) (w.setRow g (cur.toList.take (off+lv*i.size)++news++cur.toList.drop (off+lv*i.size+news.length)).toArray):=by
 have hf:=run_firstCells_some (P:=P) w i.size m a m c news hl ao1;have fN:=run_storeCells_at P g (off+lv*i.size) e news 0 cur w hg zQ h1;simp only[z6] at fN;simp[fh,run_underlying ht,sizeOf,typeInfo,hi,qu,xj,hf,oM,fN]
theorem z8 (t ty e:TypeId) (i:TypeInfo) (ht:P.underlying t=some (.slice e)) (hi:P.info? e=some i)
  (b:Addr) (lv uy:Nat) (xj:lv<=uy):
  (fh #[t,t] ty #[.slice (some b) lv uy,.slice none 0 0]).run P w= .ok (.slice (some b) lv uy) w:=by
 simp[fh,run_underlying ht,sizeOf,typeInfo,hi,qu,xj,zu,storeCells]
variable {N : Value -> World -> XS -> Prop} {dw : List (List Value)} {s : Value} {bytes t ty : Nat}
theorem Ra
  (he:nH P t e k bytes=true)
  (hX: ∀k,X k->k<w.heap.size) (own:Ow w X e k v rows) (src:Sl w X k s dw) (h1: ∀r∈dw,∀u∈r,one u=true)
  (hb:(rows.length+dw.length)*bytes<=140737488355328) (hl:rows.length+dw.length<=2^63-1)
  (n: ∀v' w' X',ee (fc v) X w X' w'->Ow w' X' e k v' (rows++dw)->(v'.ownBlock=v.ownBlock\/ ∃g,v'.ownBlock=some g/\w.heap.size<=g)->N v' w' X'):
  eV P R X w true (ga t e k bytes ty v s) N:=by
 obtain⟨hu,ix,E6,z,hi,Jo,xe⟩:=mn he;obtain⟨oO,⟨rfl,rfl⟩|⟨g,off,cap,cur,rfl,hx,hg,pL,iF,jm,uG⟩⟩:=own
 ·exact C1 (rows:=[]) (dw:=dw) z hu hi xe ix hX (aq _) (Own.nil w X 0 e k) src h1 hb hl λv2 w2 X2 hg ho dF=>
   n v2 w2 X2 (hg.dY.mono λk _ hk=>hk.symm) ho.ow dF
 ·intro wa hk;have rA:wa.heap[g]? =some (.cells cur e (0,0)):=by rw[hk.block g hx];exact hg
  have src:=src.kp hk;cases hq:P.info? e with
  |none=>simp[hq] at hi
  |some ie=>
   cases tG:ie.zero with
   |none=>simp_all
   |some z'=>
    simp only[hq,tG,cQ,aY,aj,cV] at hi;obtain⟨rfl,rfl,rfl⟩:=hi;unfold ga jA;rcases src.src with⟨rfl,rfl⟩|⟨a,c,rfl,Cn⟩
    ·have hr:=z8 (P:=P) (w:=wa) t ty e ie hu hq ⟨g,off,none⟩ rows.length cap pL;simp only[vS,bq,hr,aM,bQ];have AK:=Ext.refl wa;have hs:=ai.eP hX hk AK;refine⟨Step.eP AK,n _ _ _ (ee.nA hs _) ?_ (.inl rfl)⟩;rw[List.append_nil];exact⟨oO,.inr ⟨g,off,cap,cur,rfl,.inl hx,rA,pL,iF,jm,uG⟩⟩
    ·have sh:dw.flatten.length=dw.length*ie.size:=lE src.1;have Wb:rows.flatten.length=rows.length*ie.size:=lE oO;have IB: ∀u∈dw.flatten,u.oneCell'=true:=λu hu=>by
      obtain⟨r,hr,hur⟩:=List.mem_flatten.1 hu;rw[<-PS];exact h1 r hr u hur
     have Cm: ∀r∈rows++dw,r.length=ie.size:=λr hr=>by
      rcases List.mem_append.1 hr with h|h
      ·exact oO r h
      ·exact src.1 r h
     have ao2:rows.length+dw.length<=maxLen:=hl;by_cases xj:rows.length+dw.length<=cap
     ·have hmul:(rows.length+dw.length)*ie.size<=cap*ie.size:=cW _ xj;rw[je] at hmul;have hr:=z7 (P:=P) (w:=wa) t ty e ie hu hq g off rows.length cap cur rA a dw.length c dw.flatten sh Cn IB xj zQ;simp only[vS,bq,hr,aM,bQ];have EW: ∀k,k≠g->(wa.setRow g (cur.toList.take (off+rows.length*ie.size)++dw.flatten++cur.toList.drop (off+rows.length*ie.size+dw.flatten.length)).toArray).heap[k]? =wa.heap[k]? :=λk hk=>setRow_other wa g k _ hk;refine⟨⟨rfl,rfl,rfl,by simp,λk tZ nj=>EW k λe=>nj (e▸hx)⟩,n _ _ _ ?_ ⟨Cm,.inr ⟨g,off,cap,_,by rw[aa],.inl hx,setRow_heap wa g cur _ e _ rA,by rw[aa];omega,iF,?_,?_⟩⟩ (.inl rfl)⟩
      ·exact⟨hk.os,hk.tape,hk.output,by simpa using hk.size,λk AK cA=>(EW k λe=>cA (by rw[e];rfl)).trans (hk.block k AK),λk h=>.inl h,
        λk h=>h.elim (λh=>by have:=hX k h;have:=hk.size;simp;omega) (λh=>h.2)⟩
      ·simp only[kI,aa,aD,bV,fB];omega
      ·have gh:off<=cur.toList.length:=by rw[fB (xs:=cur)];omega
       have e1:(cur.toList.take (off+rows.length*ie.size)).drop off=rows.flatten:=by
        rw[List.drop_take,show off+rows.length*ie.size-off=rows.length*ie.size by omega,uG]
       have CG:(cur.toList.take (off+rows.length*ie.size)).length=off+rows.length*ie.size:=by rw[aD,fB (xs:=cur)];omega
       rw[ao,List.drop_append_of_le_length zQ,e1,aa,je,dW,<-ao,<-Wb,<-sh,<-aa];exact td
     ·have holds: ∀j u,rows.flatten[j]? =some u->wa.cell? ((⟨g,off,none⟩:Addr).add j)=some u:=λj u hj=>by
       rw[<-uG,lZ,gr] at hj;split at hj
       ·rw[oM];simp only[fu,rA];simpa using hj
       ·cases hj
      have hr:=run_append_grow (P:=P) wa t ty e ie z' hu hq tG ⟨g,off,none⟩ rows.length cap rows.flatten Wb holds a dw.length c dw.flatten sh Cn zQ zQ (growslice_fits zQ hb);simp only[vS,bq,hr,aM,bQ];have dD:=grownCap_ge wa (rows.length+dw.length) cap e;have iF:grownCap wa (rows.length+dw.length) cap e<=maxLen:=grownCap_le_maxLen wa _ cap e ao2;have hblk: ∀k,k<wa.heap.size->(wa.drew.alloc (.cells (rows.flatten.toArray++dw.flatten.toArray++jH z'.cells (grownCap wa (rows.length+dw.length) cap e-(rows.length+dw.length))) e)).heap[k]? =wa.heap[k]? :=λk hk=>heap_alloc_old wa.drew _ hk;refine⟨⟨rfl,rfl,rfl,by simp,λk tZ _=>hblk k tZ⟩,n _ _ _ ?_ ⟨Cm,.inr ⟨wa.heap.size,0,_,_,by rw[aa],.inr ⟨au _,by simp⟩,heap_alloc_new wa.drew _,by rw[aa];omega,iF,?_,?_⟩⟩ (.inr ⟨_,rfl,hk.size⟩)⟩
      ·exact⟨hk.os,hk.tape,hk.output,by have:=hk.size;simp;omega,λk AK _=>(hblk k (aw (hX k AK) hk.size)).trans (hk.block k AK),λk h=>.inl h,
        λk h=>h.elim (λh=>by have:=hX k h;have:=hk.size;simp;omega) (λh=>h.2)⟩
      ·simp only[ux,kI,size_zeroCells,xe,Wb,sh,<-je];rw[fg];apply cW;omega
      ·simp only[sE,List.drop_zero,ao,dW];rw[<-ao,aa,je,<-Wb,<-sh,<-aa];exact td
section
variable {x : Value} {row : List Value}
theorem Xw (own:Ow w X e k v rows) (hX: ∀k,X k->k<w.heap.size) (he:nH P t e k bytes=true) (hx:x.cells.toList=row) (hk:(row.length==k)=true)
  (h1:row.all one=true) (hb:(rows.length+1)*bytes<=140737488355328) (hl:rows.length+1<=2^63-1)
  (n: ∀v' w' X',ee (fc v) X w X' w'->Ow w' X' e k v' (rows++[row])->(v'.ownBlock=v.ownBlock\/ ∃g,v'.ownBlock=some g/\w.heap.size<=g)->N v' w' X'):
  eV P R X w m (gO t e k 1 #[(0,x)]) λs w1 X1=>eV P R X1 w1 true (ga t e k bytes ty v s) N:=by
 obtain⟨hu,ix,E6,z,hi,Jo,xe⟩:=mn he;have ah:row.length=k:=by simpa using hk
 have Jy:x.cells.size=k:=by rw[<-ah,<-hx,fB]
 refine B0 (rows:=[row]) x.cells z hX hu Jo zQ zQ ?_ (by simpa using ah) rfl gQ λs w1 X1 ax FN=>?_
 ·simp only[Nat.one_mul];exact Ff Jy sQ
 ·refine Ra (dw:=[row]) he ax.has (own.mv ax.mv) FN.sl (by simpa using h1) zQ zQ λv2 w2 X2 hg ho dF=>?_;refine n v2 w2 X2 ((ee.nA ax (fc v)).trans hg) ho ?_;rcases dF with h|⟨g,h,dD⟩
  ·exact .inl h
  ·exact .inr ⟨g,h,ad ax.kp.size dD⟩
end
theorem CE: ∀{rows:List (List Value)} (i:Nat),(∀r∈rows,r.length=k)->(rows.drop i).flatten=rows.flatten.drop (i*k)
 |_,0,_=>by simp
 |[],i+1,_=>by simp
 |r::rows,i+1,h=>by
  have hr:=h r sQ;rw[List.drop_succ_cons,CE i λx hx=>h x (bX _ hx),dd,zZ,Nat.add_comm,<-List.drop_drop,List.drop_left' hr]
theorem lN: ∀{rows:List (List Value)} (i:Nat),(∀r∈rows,r.length=k)->(rows.take i).flatten=rows.flatten.take (i*k)
 |_,0,_=>by simp
 |[],i+1,_=>by simp
 |r::rows,i+1,h=>by
  have hr:=h r sQ;have e1:r.take (k+i*k)=r:=aA zQ;rw[List.take_succ_cons,dd,lN i λx hx=>h x (bX _ hx),dd,zZ,Nat.add_comm,List.take_append,hr,e1,show k+i*k-k=i*k by omega]
variable {z : Int}
theorem Xo {z':Int} {i:Nat} {N:Value->Prop} (h:Ow w X e k v rows) (hz:z=i) (sK:z'=i) (hi:i<=rows.length) (ht:P.underlying t=some (.slice (P.elem t)))
  (hs:(P.info? (P.elem t)).map (·.size)=some k)
  (n: ∀v',Ow w X e k v' (rows.take i)->v'.ownBlock=v.ownBlock->N v'):aV P X w (bJ t v none (some (.int .i64 z)) (some (.int .i64 z'))) N:=by
 subst hz;subst sK;have hq: ∃inf,P.info? (P.elem t)=some inf/\inf.size=k:=by
  cases hq:P.info? (P.elem t)with
  |none=>grind
  |some inf=>grind
 obtain⟨inf,hq,gh⟩:=hq;obtain⟨h1,⟨rfl,rfl⟩|⟨g,off,cap,cur,rfl,hx,hg,pL,iF,jm,uG⟩⟩:=h
 ·simp only[br,Nat.le_zero] at hi;subst hi;have nU: ∀wa:World,(bJ t (.slice none 0 0) none (some (.int .i64 ((0:Nat):Int))) (some (.int .i64 ((0:Nat):Int)))).run P wa= .ok (.slice none 0 0) wa:=λwa=>by
   rw[run_sliceAt_slice wa t _ _ _ _ ht,show((0:Nat):Int)=0 from rfl,run_slice_hm wa t none 0 0 ht .i64 .i64 0 0 zQ zQ zQ];simp[sizeOf,typeInfo,hq,sliced]
  exact bF nU (n _ (Ow.nil w X e k) rfl)
 ·have hlen:(rows.take i).length=i:=by rw[aD];omega
  have nU: ∀wa:World,(bJ t (.slice (some ⟨g,off,none⟩) rows.length cap) none (some (.int .i64 (i:Int))) (some (.int .i64 (i:Int)))).run P wa= .ok (.slice (some ⟨g,off,none⟩) (rows.take i).length i) wa:=λwa=>by
   rw[run_sliceAt_slice wa t _ _ _ _ ht,run_slice_hm wa t _ _ cap ht .i64 .i64 i i zQ zQ zQ,hlen];simp[sizeOf,typeInfo,hq,gh,sliced,oM]
  refine bF nU (n _ ⟨λr hr=>h1 r (List.mem_of_mem_take hr),.inr ⟨g,off,i,cur,rfl,hx,hg,by omega,by omega,?_,?_⟩⟩ rfl)
  ·have:=cW k (ad hi pL);omega
  ·rw[lN i h1,<-uG,List.take_take,hlen,Nat.min_eq_left (cW k hi)]
variable {b : Nat} {A : XS}
theorem dM.eT {κ α:Type} [DecidableEq κ] {kv:κ->Value} {rd:World->XS->Value->α->Prop} {l:List (κ×α)} {e:TypeId} (h:dM w X A b kv rd l) (hr:aG w F g cs e):b≠g:=by
 rintro rfl;obtain⟨es,c,h1,_⟩:=h;have:=h1.2.1;rw[hr.2] at this;cases this
theorem aG.eT {pH:List Value} {e e':TypeId} (h:aG w X b cs e) (hr:aG w F g pH e') (he:decide (e≠e')=true):b≠g:=by
 rintro rfl;have:=h.2;rw[hr.2] at this
 grind
theorem dM.aiv {κ α:Type} [DecidableEq κ] {kv:κ->Value} {rd:World->XS->Value->α->Prop} {l:List (κ×α)} (h:dM w X A b kv rd l) (hr:Ow w F e k v rows):v.ownBlock≠some b:=λhg=>by
 obtain⟨cs,h2⟩:=hr.tag hg;obtain⟨es,c,h1,_⟩:=h;have:=h1.2.1
 grind
section
variable {t : TypeId}
theorem MN {l:List Value} (hX: ∀k,X k->k<w.heap.size) (hz:(P.info? t).bind (·.zero)=some (.agg l.toArray))
  (n: ∀b w' X',w.heap.size<=b->ai X w X' w'->aG w' X' b l t->N (ptr b 0) w' X'):eV P R X w m (gd t true (.tuple #[])) N:=by
 intro wa hk;unfold jA;have Xi: ∀w,(zeroValue t).run P w= .ok (.agg l.toArray) w:=by
  intro w;cases hi:P.info? t with
  |none=>grind
  |some inf=>
   have sK:inf.zero=some (.agg l.toArray):=by simpa [hi] using hz
   simp[zeroValue,typeInfo,hi,sK]
 have hr:(gd t true (.tuple #[])).run P wa= .ok (ptr wa.heap.size 0) (wa.alloc (.cells l.toArray t)):=by simp[gd,Xi,newVar,newRow,Value.cells]
 simp only[vS,bq,hr,aM,bQ];have hx:Ext wa (wa.alloc (.cells l.toArray t)):=Ext.alloc _ _;exact⟨Step.eP hx,n _ _ _ hk.size (ai.eP hX hk hx) ⟨.inr ⟨au _,by simp⟩,by simpa using heap_alloc_new wa _⟩⟩
theorem af3 {c:Nat} (hX: ∀k,X k->k<w.heap.size) (he:nH P t e k bytes=true) (hz:z=c) (hc:c<=2^32) (hb:bytes<=1024) (hk:k<=1024)
  (n: ∀v w' X',ai X w X' w'->Own w' X' w.heap.size e k v []->N v w' X'):eV P R X w m (BH t (I 0) (I z)) N:=by
 subst hz;obtain⟨hu,ix,E6,z,hi,Jo,xe⟩:=mn he;intro wa ah;unfold jA;cases hq:P.info? e with
 |none=>simp[hq] at hi
 |some ie=>
  cases tG:ie.zero with
  |none=>simp_all
  |some z'=>
   simp only[hq,tG,cQ,aY,aj,cV] at hi;obtain⟨h1,h2,h3⟩:=hi;have Wv:ie.bytes*c<=281474976710656:=by
    have:=xW (show ie.bytes<=1024 by omega) hc;omega
   obtain⟨w',hr,tV,hg⟩:=run_make_own (P:=P) wa w.heap.size t e ie z' k hu hq tG h1 .i64 .i64 c Wv (by simp only[maxLen];omega) ah.size;have jP:(BH t (I 0) (I (c:Int))).run P wa= .ok (.slice (some ⟨wa.heap.size,0,none⟩) 0 c) w':=hr;simp only[vS,bq,jP,aM,bQ];have hx:Ext wa w':=⟨hg.os,hg.tape,hg.output,hg.size,λk hk _=>hg.block k hk sQ⟩;refine⟨Step.eP hx,n _ _ _ (ai.eP hX ah hx) ⟨by simp,tV,λg Jw=>?_⟩⟩;simp only[ir,aj] at Jw;subst Jw;exact .inr ⟨au _,(tV.lt _ rfl).2⟩
end
structure Ft (w0:World) (F0:XS) (w:World) (X F:XS):Prop where
 s:ai (out F0 w0) w0 X w
 bw: ∀k,F k->X k
 v: ∀k,F k->F0 k\/w0.heap.size<=k
variable {w0 : World}
section
variable {F0 F' G : XS} {Q : Value -> World -> World -> Prop} {f : FuncId} {args : Array Value}
def Ft.init (h: ∀k,F0 k->k<w.heap.size):Ft w F0 w (bI w) F0:=⟨ai.out _ _,h,λ_ h=>.inl h⟩
def Ft.since (h:Ft w0 F0 w X F) (hs:ai X w X' w'):Ft w0 F0 w' X' F:=⟨h.s.trans hs,λk hk=>hs.sub k (h.bw k hk),h.v⟩
theorem Ft.no (h:Ft w0 F0 w X F) (hk:F k) (h0:out F0 w0 k):False:=by
 rcases h.v k hk with h1|h1
 ·exact h0.2 h1
 ·have:=h0.1;omega
theorem Ft.dY (h:Ft w0 F0 w X F) (c:ee G X w X' w') (hG: ∀k,G k->F k) (hF: ∀k,F' k->F k\/(X' k/\w.heap.size<=k)):Ft w0 F0 w' X' F':=by
 refine⟨h.s.dY c λk h0 hk=>h.no (hG k hk) h0,λk hk=>?_,λk hk=>?_⟩
 ·rcases hF k hk with h1|h1
  ·exact c.sub k (h.bw k h1)
  grind
 ·rcases hF k hk with h1|h1
  ·exact h.v k h1
  ·right;have:=h1.2;have:=h.s.kp.size;omega
theorem Ft.less (h:Ft w0 F0 w X F) (hF: ∀k,F' k->F k):Ft w0 F0 w X F':=⟨h.s,λk hk=>h.bw k (hF k hk),λk hk=>h.v k (hF k hk)⟩
theorem Ft.more (h:Ft w0 F0 w X F) (hF: ∀k,F' k->F k\/(X k/\w0.heap.size<=k)):Ft w0 F0 w X F':=by
 refine⟨h.s,λk hk=>?_,λk hk=>?_⟩
 ·rcases hF k hk with h1|h1
  ·exact h.bw k h1
  grind
 ·rcases hF k hk with h1|h1
  ·exact h.v k h1
  omega
theorem Ft.call (hT:Ft w0 F0 w X F) (h:Ct P f args w X G Q) (hf:enters P f=true) (hG: ∀k,G k->F k)
  (k: ∀v wa w' X',Q v wa w'->w.heap.size<=wa.heap.size->(∀k,made wa w' k->X' k)->Ft w0 F0 w' X' (λk=>F k\/made wa w' k)->ee G X w X' w'->N v w' X'):eC P R X w true f args N:=by
 refine yR h hf hT.s.has (λq hq=>hT.bw q (hG q hq)) λv wa w' X' hq hle gn DB hc=>k v wa w' X' hq hle gn ?_ hc;exact hT.dY hc hG λq hq=>hq.imp id λhm=>⟨gn q hm,ad hle hm.1⟩
def Ft.fin {Q:Value->World->Prop} (h:Ft w0 F0 w X F) (hq: ∀wa,Kp X w wa->Q v wa):fin (uF F0 w0 Q) X w v:=abX h.s hq
theorem Ft.js (h:Ft w0 F0 w X F) {wa:World} (hk:Kp X w wa) (hF: ∀k,F' k->F k): ∀k,F' k->F0 k\/made w0 wa k:=λk ah=>by
 rcases h.v k (hF k ah)with h1|h1
 ·grind
 ·exact .inr ⟨h1,aw (h.s.has k (h.bw k (hF k ah))) hk.size⟩
def Ft.C4 (h:Ft w0 nX w X F):ai (aK.bI w0) w0 X w:=
 ⟨⟨h.s.kp.os,h.s.kp.tape,h.s.kp.output,h.s.kp.size,λk ah=>h.s.kp.block k ⟨ah,λh=>h.elim⟩⟩,λk ah=>h.s.sub k ⟨ah,λh=>h.elim⟩,h.s.has⟩
def BE (w0:World) (X:XS):XS:=λk=>X k/\w0.heap.size<=k
def Ft.new (h:Ft w0 F0 w X F):Ft w0 F0 w X (λk=>F k\/BE w0 X k):=h.more λk hk=>hk.imp id λh=>h
def Ft.OZ (h:Ft w0 nX w X F):Ft w0 nX w X (BE w0 X):=h.more λk hk=>.inr hk
def ee.iZ (c:ee G X w X' w') (h: ∀k,A k->X k/\ ¬G k):Mv A w A w':=λk hk _=>⟨hk,c.block k (h k hk).1 (h k hk).2⟩
def Kp.iZ (hk:Kp X w w') (h: ∀k,A k->X k):Mv A w A w':=λk ah _=>⟨ah,hk.block k (h k ah)⟩
def ai.gU (hs:ai X w X' w') (h: ∀k,A k->X k):Mv A w A w':=λk ah _=>⟨ah,hs.kp.block k (h k ah)⟩
end
theorem ao3 (hT:Ft w0 nX w X (BE w0 X)) (hO:Ow w (BE w0 X) e k v rows) (he:nH P t e k bytes=true)
  (src:Sl w X k s dw) (h1: ∀r∈dw,∀u∈r,one u=true) (hb:(rows.length+dw.length)*bytes<=140737488355328) (hl:rows.length+dw.length<=2^63-1)
  (n: ∀v' w' X',Ft w0 nX w' X' (BE w0 X')->Ow w' (BE w0 X') e k v' (rows++dw)->ee (fc v) X w X' w'->(v'.ownBlock=v.ownBlock\/ ∃g,v'.ownBlock=some g/\w.heap.size<=g)->N v' w' X'):
  eV P R X w true (ga t e k bytes ty v s) N:=by
 refine Ra he hT.s.has (hO.mono hT.bw) src h1 hb hl λv' w' X' c ho dF=>?_;have hT':Ft w0 nX w' X' (BE w0 X'):=Ft.OZ (F:=BE w0 X) (hT.dY c (λk hk=>(hO.bw hk).1) λk hk=>.inl hk);refine n v' w' X' hT' (ho.tight.mono λk hk=>⟨(ho.bw hk).1,?_⟩) c dF;have ah:v'.ownBlock=some k:=hk;rcases dF with e|⟨g,e,dD⟩
 ·exact(hO.bw (e▸ah)).1.2
 ·rw[ah] at e;have:k=g:=Option.some.inj e;have:=hT.s.kp.size;omega
def Dj (A B:XS):Prop:= ∀k,A k->B k->False
variable {B : XS}
theorem Dj.symm (h:Dj A B):Dj B A:=λk a b=>h k b a
variable {B' : XS}
def Dj.grow {C:XS} (h:Dj A B) (hB: ∀k,B' k->B k\/C k) (hc:Dj A C):Dj A B':=λk a b=>(hB k b).elim (h k a) (hc k a)
theorem Dj.less {A':XS} (h:Dj A B) (ha: ∀k,A' k->A k) (hb: ∀k,B' k->B k):Dj A' B':=λk a b=>h k (ha k a) (hb k b)
end Go.aK
namespace Go.aK
variable {P : Program} {R : Ending -> World -> Prop} {X : XS} {w : World} {m : Bool}
def IN (w:World) (X:XS) (b:Nat) (cs:List Value) (ty:TypeId):Prop:=X b/\w.heap[b]? =some (.cells cs.toArray ty (cs.length,cs.length+1))
variable {ty : TypeId} {cs : List Value} {b : Nat}
theorem IN.cells (h:IN w X b cs ty):Cells w X b 0 cs:=⟨h.1,_,_,_,h.2,λj v hj=>by grind⟩
theorem IN.since {Y:XS} {w':World} (h:IN w X b cs ty) (hs:ai X w Y w'):IN w' Y b cs ty:=⟨hs.sub _ h.1,by rw[hs.kp.block b h.1];exact h.2⟩
theorem aaW (wa:World) (g n:Nat) (cs:Array Value) (e:TypeId) (h:wa.heap[g]? =some (.cells cs e (0,0))):(wa.freeze ⟨g,n,none⟩ 1).heap=wa.heap.setIfInBounds g (.cells cs e (n,n+1)):=by
 unfold vE;rw[if_neg dQ];obtain⟨hl,he⟩:=Array.getElem?_eq_some_iff.1 h;apply Array.ext
 ·simp
 ·intro i h1 h2;simp only[Array.getElem_modify,Array.getElem_setIfInBounds];split
  ·simp_all
  ·rename_i hi;exact(Array.getElem_setIfInBounds_ne (by simpa using h2) hi).symm
variable {N : Value -> World -> XS -> Prop} {e t : Nat}
theorem akS {g n c:Nat} (h:aG w X g cs e) (ht:P.underlying t=some (.slice e)) (he:P.underlying e=some (.int .u8)) (hX: ∀k,X k->k<w.heap.size)
  (k: ∀w' X',ee (· =g) X w X' w'->IN w' X' g cs e->N (.slice (some ⟨g,0,none⟩) n c) w' X'):eV P R X w true (convert t t (.slice (some ⟨g,0,none⟩) n c)) N:=by
 intro wa hk;have hb:=(h.kp hk).2;have cD:=(Array.getElem?_eq_some_iff.1 hb).1;have hsh:wa.shape? g=some (e,cs.length):=by unfold World.shape?;rw[hb];simp
 have hr:(convert t t (.slice (some ⟨g,0,none⟩) n c)).run P wa= .ok (.slice (some ⟨g,0,none⟩) n c) (wa.freeze ⟨g,cs.length,none⟩ 1):=by
  simp[convert,run_underlying ht,run_underlying he,markStringish,hsh]
 have hh:=aaW wa g cs.length cs.toArray e hb;unfold jA;simp only[vS,bq,hr,aM,bQ];have wT:(wa.freeze ⟨g,cs.length,none⟩ 1).os=wa.os:=by unfold vE;rw[if_neg dQ]
 have htp:(wa.freeze ⟨g,cs.length,none⟩ 1).tape=wa.tape:=by unfold vE;rw[if_neg dQ]
 have wK:(wa.freeze ⟨g,cs.length,none⟩ 1).output=wa.output:=by unfold vE;rw[if_neg dQ]
 have gh:(wa.freeze ⟨g,cs.length,none⟩ 1).heap.size=wa.heap.size:=by rw[hh];simp
 have hblk: ∀q,q≠g->(wa.freeze ⟨g,cs.length,none⟩ 1).heap[q]? =wa.heap[q]? :=λq hq=>by rw[hh,dS,if_neg (Ne.symm hq)]
 refine⟨⟨wT,htp,wK,by omega,λq _ hx=>hblk q λe=>hx (e▸h.1)⟩,k _ _ ?_ ⟨.inl h.1,by rw[hh,dS,if_pos rfl,if_pos cD]⟩⟩;refine⟨wT.trans hk.os,htp.trans hk.tape,wK.trans hk.output,by rw[gh];exact hk.size,λq hx cA=>(hblk q cA).trans (hk.block q hx),λq h=>.inl h,λq h=>?_⟩;rw[gh];exact h.elim (λh=>aw (hX q h) hk.size) (λh=>by omega)
variable {v : Value} {o : Nat}
theorem ao4 (h:IN w X b cs ty) (ht:(P.info? t).map (·.size)=some 1)
  (hl:o<cs.length) (h1:one v=true) (hX: ∀k,X k->k<w.heap.size)
  (n: ∀w' X',ee (· =b) X w X' w'->IN w' X' b (cs.set o v) ty->N undef w' X'):eU P R X w true (st1 t 1 (ptr b o) v) N:=by
 intro wa hk;have hb:wa.heap[b]? =some (.cells cs.toArray ty (cs.length,cs.length+1)):=by rw[hk.block b h.1];exact h.2
 have cD:=(Array.getElem?_eq_some_iff.1 hb).1;have hv:v.cells= #[v]:=sL h1;have Cn:wa.cell? ⟨b,o,none⟩=some cs[o]:=by simp[fu,hb,hl]
 have aq3:wa.frozen? ⟨b,o,none⟩=false:=by simp[World.frozen?,hb];omega
 have fN:(store ⟨b,o,none⟩ v).run P wa= .ok () (wa.setRow b (cs.toArray.setIfInBounds o v)):=by
  rw[run_store P wa _ v _ aQ,Cn];simp[aq3,setCell_eq_setRow wa b o cs.toArray ty _ v hb]
 have hr:(Instr.storeAt t (ptr b o) v).run P wa= .ok () (wa.setRow b (cs.toArray.setIfInBounds o v)):=by
  cases hi:P.info? t with
  |none=>grind
  |some i=>
   simp only[hi,aY,aj] at ht;simp[Instr.storeAt,Instr.sureAddr,ez,storeVar,sizeOf,typeInfo,hi,ht,hv,storeCells,oM]
   grind
 unfold st1 jA;simp only[uS,bq,hr,aM,bQ];have gh:(wa.setRow b (cs.toArray.setIfInBounds o v)).heap.size=wa.heap.size:=by simp
 refine⟨⟨rfl,rfl,rfl,by omega,λk _ hx=>setRow_other wa b k _ λe=>hx (e▸h.1)⟩,n _ _ ?_ ⟨.inl h.1,?_⟩⟩
 ·refine⟨hk.os,hk.tape,hk.output,by rw[gh];exact hk.size,λk hx cA=>?_,λk h=>.inl h,λk h=>?_⟩
  ·rw[setRow_other wa b k _ cA,hk.block k hx]
  ·rw[gh];exact h.elim (λh=>aw (hX k h) hk.size) (λh=>by omega)
 ·have:=setRow_heap wa b cs.toArray (cs.toArray.setIfInBounds o v) ty _ hb;simp_all
def zV (l:List Nat):ByteArray:=⟨(l.map UInt8.ofNat).toArray⟩
theorem UC (l:List Nat):(zV l).size=l.length:=by simp[zV,ByteArray.size]
theorem MG {src dst cap len:Nat} {l:List Nat} (hlen:len=l.length) (hc:Cells w X b o (l.map λx:Nat=>az .u8 x)) (hs:P.underlying src=some (.slice e)) (he:P.underlying e=some (.int .u8)) (hd:P.underlying dst=some .string)
  (hX: ∀k,X k->k<w.heap.size) (n: ∀w' X',ai X w X' w'->N (.string (zV l)) w' X'):eV P R X w m (convert src dst (.slice (some ⟨b,o,none⟩) len cap)) N:=by
 subst hlen;intro wa hk;have hr:=run_convert_bytes_arg (P:=P) wa src e hs he b o l.length cap (l.map λx:Nat=>(x:Int)) sQ (λi hi=>by
  have:=(hc.kp hk).range i (.int .u8 ((l[i]:Nat):Int)) (by simp[hi]);simp_all) dst hd
 have e1:strOfNums (l.map λx:Nat=>(x:Int))=zV l:=by
  unfold strOfNums zV;simp
 rw[e1] at hr;unfold jA;simp only[vS,bq,hr,aM,bQ];have hx:=Ext.refl wa;exact⟨Step.eP hx,n _ _ (ai.eP hX hk hx)⟩
theorem Y1 {t:TypeId} {a b:ByteArray} {N:Value->Prop} (h:a.size+b.size<=2^62) (k:N (.string (a++b))):aV P X w (binOp .add t (.string a) (.string b)) N:=
 bF (λwa=>by
  have:=run_string_add_sum (P:=P) wa a b zQ;assumption) k
theorem ajA {k bytes ty:Nat} {s:Value} {rows:List (List Value)} {m':Bool} (hX: ∀k,X k->k<w.heap.size) (he:nH P t e k bytes=true) (src:Sl w X k s rows) (h1: ∀r∈rows,∀u∈r,one u=true)
  (hb:rows.length*bytes<=140737488355328) (hl:rows.length<=2^63-1)
  (n: ∀v w' X',ai X w X' w'->Ow w' (BE w X') e k v rows->N v w' X'):eV P R X w m (gO t e k 0 #[]) λa w1 X1=>eV P R X1 w1 m' (ga t e k bytes ty a s) N:=by
 obtain⟨hu,ix,E6,z,hi,Jo,xe⟩:=mn he;cases hq:P.info? e with
 |none=>simp[hq] at hi
 |some ie=>
  cases tG:ie.zero with
  |none=>simp[hq,tG] at hi
  |some z'=>
   simp only[hq,tG,cQ,aY,aj,cV] at hi;obtain⟨rfl,rfl,rfl⟩:=hi;intro wa hk;have hr:(jg t 0 #[]).run P wa= .ok (.slice (some ⟨wa.heap.size,0,none⟩) 0 0) (wa.alloc (.cells #[] e)):=by
    simp[jg,run_underlying hu,sizeOf,typeInfo,hq,Instr.fill,newRow];have Ky: ∀f:Nat->Value,Array.map f (Array.range 0)= #[]:=λf=>Array.eq_empty_of_size_eq_zero sQ;rw[Ky]
   unfold gO jA;simp only[vS,bq,hr,aM,bQ];have hx:Ext wa (wa.alloc (.cells #[] e)):=Ext.alloc _ _;have ax:=ai.eP hX hk hx;refine⟨Step.eP hx,?_⟩;intro wb pj;unfold ga jA;have aq4:=(src.since ax).kp pj;have GG:wb.heap[wa.heap.size]? =some (.cells #[] e (0,0)):=by
    rw[pj.block _ (.inr ⟨au _,by simp⟩)];exact heap_alloc_new wa _
   have gh:=pj.size;have XH:=ax.kp.size;rcases aq4.src with⟨rfl,rfl⟩|⟨a,c,rfl,Cn⟩
   ·have jC:=z8 (P:=P) (w:=wb) t ty e ie hu hq ⟨wa.heap.size,0,none⟩ 0 0 (au _);simp only[vS,bq,jC,aM,bQ];have bp:=ai.eP ax.has pj (Ext.refl wb);exact⟨Step.eP (Ext.refl _),n _ _ _ (ax.trans bp) ⟨by simp,.inr ⟨wa.heap.size,0,0,#[],rfl,⟨.inl (.inr ⟨au _,by simp⟩),hk.size⟩,GG,au _,aq _,by simp,by simp⟩⟩⟩
   ·have sh:rows.flatten.length=rows.length*ie.size:=lE src.1;by_cases h0:rows=[]
    ·subst h0;have jC:=z7 (P:=P) (w:=wb) t ty e ie hu hq wa.heap.size 0 0 0 #[] GG a 0 c [] sQ sQ sQ (au _) sQ;have e0:wb.setRow wa.heap.size (#[].toList.take (0+0*ie.size)++[]++ #[].toList.drop (0+0*ie.size+([]:List Value).length)).toArray=wb:=by
      have:=setRow_self wb wa.heap.size #[] e (0,0) GG;simpa using this
     rw[e0] at jC;have Cs:(fh #[t,t] ty #[.slice (some ⟨wa.heap.size,0,none⟩) 0 0,.slice (some a) ([]:List (List Value)).length c]).run P wb= .ok (.slice (some ⟨wa.heap.size,0,none⟩) 0 0) wb:=jC;simp only[vS,bq,Cs,aM,bQ];have bp:=ai.eP ax.has pj (Ext.refl wb);exact⟨Step.eP (Ext.refl _),n _ _ _ (ax.trans bp) ⟨by simp,.inr ⟨wa.heap.size,0,0,#[],rfl,⟨.inl (.inr ⟨au _,by simp⟩),hk.size⟩,GG,au _,aq _,by simp,by simp⟩⟩⟩
    ·have Ya:0<rows.length:=List.length_pos_iff.2 h0;have jC:=run_append_grow (P:=P) wb t ty e ie z' hu hq tG ⟨wa.heap.size,0,none⟩ 0 0 [] sQ sQ a rows.length c rows.flatten sh Cn zQ zQ (growslice_fits zQ (by simpa using hb));simp only[fg] at jC;simp only[vS,bq,jC,aM,bQ];have dD:=grownCap_ge wb rows.length 0 e;have iF:grownCap wb rows.length 0 e<=maxLen:=grownCap_le_maxLen wb _ 0 e hl;have WM:Ext wb (wb.drew.alloc (.cells ([].toArray++rows.flatten.toArray++jH z'.cells (grownCap wb rows.length 0 e-rows.length)) e)):=⟨rfl,rfl,rfl,by simp,λk hk _=>heap_alloc_old wb.drew _ hk⟩;have gn:w.heap.size<=wb.heap.size:=ad XH gh;refine⟨Step.eP WM,n _ _ _ (ax.trans (ai.eP ax.has pj WM)) ⟨src.1,.inr ⟨wb.heap.size,0,_,_,rfl,⟨.inr ⟨au _,by simp⟩,gn⟩,heap_alloc_new wb.drew _,dD,iF,?_,?_⟩⟩⟩
     ·simp only[ux,kI,size_zeroCells,xe,sh,br,fg,<-je];apply cW;omega
     ·simp only[sE,List.drop_zero,cI];rw[<-sh];exact td
variable {o' : Nat}
theorem pM (h:aG w X b cs ty) (LY:o'=o) (ht:(P.info? t).map (·.size)=some 1)
  (hl:o<cs.length) (h1:one v=true) (hX: ∀k,X k->k<w.heap.size)
  (n: ∀w' X',ee (· =b) X w X' w'->aG w' X' b (bO cs o [v]) ty->N undef w' X'):eU P R X w true (st1 t 1 (ptr b o') v) N:=by
 subst LY;have hv:=sL h1;refine DZ h ht zQ (by rw[hv];rfl) gQ hX λw' X' c hr=>n w' X' c ?_
 grind
theorem FI {sz:Nat} (h:aG w X b cs ty) (LY:o'=o) (ht:(P.info? t).map (·.size)=some sz)
  (hl:o+sz<=cs.length) (hv:v.cells.size=sz) (h1:v.cells.toList.all one=true) (hX: ∀k,X k->k<w.heap.size)
  (n: ∀w' X',ee (· =b) X w X' w'->aG w' X' b (bO cs o v.cells.toList) ty->N undef w' X'):eU P R X w true (st1 t sz (ptr b o') v) N:=by
 subst LY;exact DZ h ht hl hv h1 hX n
end Go.aK
namespace Go.aK
variable {P : Program} {R : Ending -> World -> Prop} {X : XS} {w : World} {m : Bool}
variable {N : Value -> Prop} {i k : Nat} {z : Int} {v : Value} {t : TypeId}
theorem abx {rows:List (List Value)} (h:Sl w X k v rows) (hz:z=i) (hi:i<=rows.length) (ht:P.underlying t=some (.slice (P.elem t))) (hs:(P.info? (P.elem t)).map (·.size)=some k)
  (n: ∀v',Sl w X k v' (rows.drop i)->N v'):aV P X w (bJ t v (some (.int .i64 z)) none none) N:=by
 subst hz;obtain⟨h1,h2,base,cap,rfl,hc,hb,hlc,iF⟩:=h;have hq: ∃inf,P.info? (P.elem t)=some inf/\inf.size=k:=by
  cases hq:P.info? (P.elem t)with
  |none=>grind
  |some inf=>grind
 obtain⟨inf,hq,gh⟩:=hq;have nU: ∀wa:World,(bJ t (.slice base rows.length cap) (some (.int .i64 (i:Int))) none none).run P wa= .ok (sliced base i rows.length cap k) wa:=λwa=>by
  rw[run_sliceAt_slice wa t _ _ _ _ ht,run_slice_l wa t _ _ cap ht .i64 i zQ zQ];simp[sizeOf,typeInfo,hq,gh]
 refine bF nU (n _ ?_);refine⟨λr hr=>h1 r (List.mem_of_mem_drop hr),by rw[bV];omega,_,cap-i,by unfold sliced;rw[bV],λcA=>?_,λAl=>?_,by rw[bV];omega,by omega⟩
 ·have pK:i<rows.length:=by
   refine Nat.lt_of_not_le λhle=>cA (List.drop_of_length_le hle)
  obtain⟨b,o,rfl,jm⟩:=hc gQ;refine⟨b,o+i*k,?_,?_⟩
  ·rw[if_neg zQ];simp only[aY,aj];unfold Addr.add;split
   ·grind
   ·rfl
  ·rw[aK.CE i h1];obtain⟨hx,c,ty,fr,dZ,Bw⟩:=jm;exact⟨hx,c,ty,fr,dZ,λj v hj=>by rw[gr] at hj;have:=Bw _ _ hj;rwa [<-Nat.add_assoc] at this⟩
 ·split at Al
  ·omega
  ·have:base=none:=by simpa using Al
   grind
variable {z' : Int} {cap j n : Nat}
theorem abw {a:Option Addr} {q:Nat} {z2:Int} (hz:z=i) (sK:z'=j) (Jo:z2=q) (hi:i<=j) (hj:j<=q) (hq:q<=cap) (ht:P.underlying t=some (.slice (P.elem t))) (hs:((P.info? (P.elem t)).map (·.size)).isSome=true)
  (h: ∀v,N v):aV P X w (bJ t (.slice a n cap) (some (.int .i64 z)) (some (.int .i64 z')) (some (.int .i64 z2))) N:=by
 subst hz;subst sK;subst Jo;obtain⟨k,hk⟩:=Option.isSome_iff_exists.1 hs;refine bF (v:=sliced a i j q k) (λwa=>?_) (h _);rw[run_sliceAt_slice wa t _ _ _ _ ht,run_slice_lhm wa t a n cap ht .i64 .i64 .i64 i j q zQ zQ zQ zQ];cases hq:P.info? (P.elem t)with
 |none=>grind
 |some inf=>
  have:inf.size=k:=by simpa [hq] using hk
  simp[sizeOf,typeInfo,hq,this]
variable {g off : Nat}
theorem Xa (hz:z=i) (sK:z'=j) (hi:i<=j) (hj:j<=cap) (hic:i<cap) (ht:P.underlying t=some (.slice (P.elem t))) (hs:(P.info? (P.elem t)).map (·.size)=some k)
  (h:N (.slice (some ⟨g,off+i*k,none⟩) (j-i) (cap-i))):aV P X w (bJ t (.slice (some ⟨g,off,none⟩) n cap) (some (.int .i64 z)) (some (.int .i64 z')) none) N:=by
 subst hz;subst sK;refine bF (λwa=>?_) h;rw[run_sliceAt_slice wa t _ _ _ _ ht,run_slice_lh wa t _ n cap ht .i64 .i64 i j zQ zQ zQ];cases hq:P.info? (P.elem t)with
 |none=>grind
 |some inf=>
  have:inf.size=k:=by simpa [hq] using hs
  have cA: ¬cap=i:=by omega
  simp[sizeOf,typeInfo,hq,sliced,this,oM,cA]
variable {bytes e ty : Nat}
theorem W9 {t:Nat} {s:Value} {cur:List Value} {dw:List (List Value)} {N:Value->World->XS->Prop} (he:nH P t e k bytes=true) (h:aG w X g cur e) (src:Sl w X k s dw) (h1: ∀r∈dw,∀u∈r,one u=true)
  (xj:n+dw.length<=cap) (IM:off+n*k+dw.length*k<=cur.length) (hX: ∀k,X k->k<w.heap.size)
  (nx: ∀w' X',ee (λk=>k=g) X w X' w'->aG w' X' g (bO cur (off+n*k) dw.flatten) e->N (.slice (some ⟨g,off,none⟩) (n+dw.length) cap) w' X'):
  eV P R X w true (ga t e k bytes ty (.slice (some ⟨g,off,none⟩) n cap) s) N:=by
 obtain⟨hu,ix,E6,z,hi,Jo,xe⟩:=mn he;intro wa hk;have hb:=(h.kp hk).2;have src:=src.kp hk;cases hq:P.info? e with
 |none=>grind
 |some ie=>
  cases tG:ie.zero with
  |none=>simp_all
  |some z'=>
   simp only[hq,tG,cQ,aY,aj,cV] at hi;obtain⟨rfl,rfl,rfl⟩:=hi;unfold ga jA;rcases src.src with⟨rfl,rfl⟩|⟨a,c,rfl,Cn⟩
   ·have hr:=z8 (P:=P) (w:=wa) t ty e ie hu hq ⟨g,off,none⟩ n cap zQ;simp only[vS,bq,hr,aM,bQ];have AK:=Ext.refl wa;have hs:=ai.eP hX hk AK;refine⟨Step.eP AK,nx _ _ (ee.nA hs _) ?_⟩;have:bO cur (off+n*ie.size) ([]:List (List Value)).flatten=cur:=by simp[bO]
    rw[this];exact h.since hs
   ·have sh:dw.flatten.length=dw.length*ie.size:=lE src.1;have IB: ∀u∈dw.flatten,u.oneCell'=true:=λu hu=>by
     obtain⟨r,hr,hur⟩:=List.mem_flatten.1 hu;rw[<-PS];exact h1 r hr u hur
    have hr:=z7 (P:=P) (w:=wa) t ty e ie hu hq g off n cap cur.toArray hb a dw.length c dw.flatten sh Cn IB xj (by rw[sh,kI];omega);simp only[vS,bq,hr,aM,bQ];have EW: ∀k,k≠g->(wa.setRow g (bO cur (off+n*ie.size) dw.flatten).toArray).heap[k]? =wa.heap[k]? :=λk hk=>setRow_other wa g k _ hk;refine⟨⟨rfl,rfl,rfl,by simp,λk tZ nj=>EW k λe=>nj (e▸h.1)⟩,nx _ _ ⟨hk.os,hk.tape,hk.output,by simpa using hk.size,λk hx cA=>(EW k cA).trans (hk.block k hx),λk h=>.inl h,
     λk h=>h.elim (λh=>by have:=hX k h;have:=hk.size;simp;omega) (λh=>h.2)⟩ ⟨.inl h.1,?_⟩⟩
    exact setRow_heap wa g cur.toArray _ e _ hb
def Y2 (P:Program) (e:TypeId):Bool:=match(P.info? e).bind (·.zero)with
 |some z=>z.cells.toList.all one
 |none=>false
theorem Xb {t o:Nat} {cs:List Value} {tb:TypeId} {N:Value->World->XS->Prop} (h:aG w X g cs tb) (he:nH P t e k bytes=true) (hzo:Y2 P e=true) (h0:0<n) (hl:o+n*k<=cs.length) (hX: ∀k,X k->k<w.heap.size)
  (nx: ∀w' X' zs,zs.length=n*k->ee (λk=>k=g) X w X' w'->aG w' X' g (bO cs o zs) tb->N (.tuple #[]) w' X'):
  eV P R X w true (mS #[t] ty #[.slice (some ⟨g,o,none⟩) n cap]) N:=by
 obtain⟨hu,ix,E6,z,hi,Jo,xe⟩:=mn he;intro wa hk;have hb:=(h.kp hk).2;cases hq:P.info? e with
 |none=>simp[hq] at hi
 |some ie=>
  cases tG:ie.zero with
  |none=>simp_all
  |some z'=>
   simp only[hq,tG,cQ,aY,aj,cV] at hi;obtain⟨rfl,rfl,rfl⟩:=hi;have Xi: ∀w,(zeroValue e).run P w= .ok z' w:=by
    intro w;simp[zeroValue,typeInfo,hq,tG]
   obtain⟨zs,aiw⟩: ∃zs,zs=(jH z'.cells n).toList:=⟨_,rfl⟩;have hzl:zs.length=n*ie.size:=by rw[aiw,fB,size_zeroCells,xe]
   have WL: ∀v∈zs,v.oneCell'=true:=λv hv=>by
    rw[aiw] at hv;simp only[jH,nr,List.mem_map,Array.toList_range,List.mem_range] at hv;obtain⟨q,Lk,rfl⟩:=hv;have cD:q % z'.cells.size<z'.cells.size:=Nat.mod_lt _ zQ;rw[getElem!_pos z'.cells _ cD];have:=hzo;simp only[Y2,hq,cQ,tG,lf] at this;rw[<-PS];exact this _ sQ
   have fN:=run_storeCells_at P g o tb zs 0 cs.toArray wa hb (by simp[hzl];omega) WL;simp only[z6] at fN;obtain⟨q,rfl⟩: ∃q,n=q+1:=⟨n-1,by omega⟩;have hr:(mS #[t] ty #[.slice (some ⟨g,o,none⟩) (q+1) cap]).run P wa= .ok (.tuple #[]) (wa.setRow g (bO cs o zs).toArray):=by
    simp only[mS];simp[run_underlying hu,Xi,<-aiw,fN,bO]
   unfold jA;simp only[vS,bq,hr,aM,bQ];have EW: ∀k,k≠g->(wa.setRow g (bO cs o zs).toArray).heap[k]? =wa.heap[k]? :=λk hk=>setRow_other wa g k _ hk;refine⟨⟨rfl,rfl,rfl,by simp,λk tZ nj=>EW k λe=>nj (e▸h.1)⟩,nx _ _ zs hzl ⟨hk.os,hk.tape,hk.output,by simpa using hk.size,λk hx cA=>(EW k cA).trans (hk.block k hx),λk h=>.inl h,
    λk h=>h.elim (λh=>by have:=hX k h;have:=hk.size;simp;omega) (λh=>h.2)⟩ ⟨.inl h.1,?_⟩⟩
   exact setRow_heap wa g cs.toArray _ tb _ hb
variable {P : Program}
variable {w : World} {args : Array Value} {fn : Func} {pl : gx}
theorem anq (hn:fn.ntmps=pl.n) (aji:args.size<=pl.n) (zN:(pl.boxes.all λp=>decide (args.size<=p.1))=true):
  fF pl ⟨[],[]⟩ .start (mV args) (bI w) w { tmps:=args++dg (fn.ntmps-args.size) undef,defers:=[] } w:=by
 have acg:(args++dg (fn.ntmps-args.size) undef).size=pl.n:=by simp;omega
 have Db: ∀s,s<pl.n->(args++dg (fn.ntmps-args.size) undef)[s]? =some (mV args s):=by
  intro s hs;rw[kB];split
  ·rename_i h1;simp[mV,pR,h1]
  ·rename_i h1;rw[jz,if_pos zQ];simp only[mV,pR];simp_all
 have Kq: ∀b n,look pl.boxes b=some n->mV args b=undef:=by
  intro b n hb;have h1:=List.all_eq_true.1 zN _ (BO hb);simp only[decide_eq_true_eq] at h1;simp only[mV,pR];rw[List.getElem?_eq_none zQ];rfl
 exact {
  size:=acg
  defers:=rfl
  Ai:=λ_ hp=>(by cases hp)
  ext:=Kp.refl _ _
  xq:=λ_ hk=>hk
  qz:=λs hs=>Db s (tp hs).1
  sig:=λ_ hp=>(by cases hp)
  box:=λb n hb cells hc=>by rw[Kq b n hb] at hc;cases hc
  inj:=λb b' n n' hb dZ h1=>by rw[Kq b n hb] at h1;cases h1
  conv:=λb n hb k hk=>by
   have h1:=List.all_eq_true.1 zN _ (BO hb);simp only[decide_eq_true_eq] at h1;rw[kB,if_neg zQ,jz] at hk;split at hk
   ·cases hk
   ·cases hk
  live:=λ_ hp=>(by cases hp)
  ptr:=λ_ hp=>(by cases hp) }
def Idle (P:Program) (g:FuncId):Prop:=enters P g=true/\ ∀gH w,CallsD P g gH .returning w λe u' w'=>(∃x,e= .returned x)/\u'= .returning/\w'=w
variable {w0 : World} {X : XS}
theorem fF.aside {ds:Bk} {env:Env} {a:Act} {d:Nat} (h:fF pl ds .start env X w0 a w) (hd:d<pl.n) (hb:look pl.boxes d=none) (hg:pl.j7 d=false):
  fF pl ds .start env X w0 (a.put (some d) v) w:=by
 have ne: ∀b n,look pl.boxes b=some n->b≠d:=λb n dZ e=>by grind
 exact {
  size:=by simp[Act.put,h.size]
  defers:=h.defers
  Ai:=λp hp=>by
   obtain⟨ht,h2⟩:=h.Ai p hp;refine⟨?_,h2⟩;have cA:p.1≠d:=λe=>by grind
   rw[gq _ _ _ _ cA];exact ht
  ext:=h.ext
  xq:=h.xq
  qz:=λs hs=>by
   have sS:s≠d:=λe=>by grind
   rw[gq _ _ _ _ sS];exact h.qz s hs
  sig:=λ_ hp=>(by cases hp)
  box:=λb n dZ cells hc=>by
   obtain⟨k,ty,h1,h2⟩:=h.box b n dZ cells hc;exact⟨k,ty,by rw[gq _ _ _ _ (ne b n dZ)];exact h1,h2⟩
  inj:=λb b' n n' h1 h2 h3 h4 k h5 h6=>h.inj b b' n n' h1 h2 h3 h4 k (by rwa [gq _ _ _ _ (ne b n h1)] at h5) (by rwa [gq _ _ _ _ (ne b' n' h2)] at h6)
  conv:=λb n dZ k hk=>h.conv b n dZ k (by rwa [gq _ _ _ _ (ne b n dZ)] at hk)
  live:=λ_ hp=>(by cases hp)
  ptr:=λ_ hp=>(by cases hp) }
def isSimple:TI->Bool
 | .box .. =>true
 | .BM .. =>true
 | .zI _=>true
 | .set .. =>true
 |_=>false
def C5:List TI->Env->Env
 |[],e=>e
 | .box b _ x::l,e=>C5 l (jO e b (.agg (x.ev e).cells))
 | .BM b x::l,e=>C5 l (jO e b (.agg #[x.ev e]))
 | .set d x::l,e=>C5 l (jO e d (x.ev e))
 |_::l,e=>C5 l e
theorem zv {iY:List PanicEntry->Env->World->XS->Prop} {next:Env->World->XS->Prop} : ∀(l:List TI) (env:Env),l.all isSimple=true->hU P iY next l env w X->
  hU P iY (λe w' X'=>e=C5 l env/\next e w' X') l env w X
 |[],env,_,h=>⟨rfl,h⟩
 |i::l,env,hs,h=>by
  rw[List.all_cons,aB] at hs;obtain⟨h1,h2⟩:=hs;cases i with
  |box b n x=>exact dO.2 ⟨(dO.1 h).1,zv l _ h2 (dO.1 h).2⟩
  |BM b x=>exact dO.2 ⟨(dO.1 h).1,zv l _ h2 (dO.1 h).2⟩
  |zI b=>exact dO.2 ⟨(dO.1 h).1,zv l _ h2 (dO.1 h).2⟩
  |set d x=>exact zv l _ h2 h
  |_=>cases h1
def vF:List Operand->Option (List Nat)
 |[]=>some []
 | .tmp b::l=>(vF l).map (b:: ·)
 |_::_=>none
def aix:Value->Option Value
 | .agg ⟨[v]⟩=>some v
 |_=>none
def Rb:List Nat->Bool
 |[]=>true
 |b::l=>!yz l b&&Rb l
theorem Oh: ∀{l:List Operand} {cb:List Nat},vF l=some cb->l=cb.map .tmp
 |[],cb,h=>by simp only[vF,aj] at h;subst h;rfl
 |x::l,cb,h=>by
  cases x with
  |tmp b=>
   simp only[vF,Option.map_eq_some_iff] at h;obtain⟨c,h1,rfl⟩:=h;rw[Oh h1];rfl
  |const v=>simp[vF] at h
  |global v=>simp[vF] at h
  |func v=>simp[vF] at h
theorem ab0 {tmps:Array Value} : ∀(cb:List Nat),(∀b∈cb,∃k,tmps[b]? =some (ez k 0))-> ∃ks:List Nat,ks.length=cb.length/\ ∀(i:Nat) b,cb[i]? =some b-> ∃k,ks[i]? =some k/\tmps[b]? =some (ez k 0)
 |[],_=>⟨[],rfl,λi b h=>by simp at h⟩
 |b::cb,h=>by
  obtain⟨k,hk⟩:=h b sQ;obtain⟨ks,h1,h2⟩:=ab0 cb λc hc=>h c (bX _ hc);refine⟨k::ks,by simp[h1],λi c hc=>?_⟩;cases i with
  |zero=>simp only[List.getElem?_cons_zero,aj] at hc;subst hc;exact⟨k,rfl,hk⟩
  |succ i=>simpa using h2 i c aQ
theorem Oi: ∀{l:List Nat},Rb l=true->l.Nodup
 |[],_=>List.nodup_nil
 |b::l,h=>by
  simp only[Rb,aB,de] at h;exact List.nodup_cons.2 ⟨λhm=>by
   rw[Ah.2 hm] at h
   grind,Oi h.2⟩
theorem SH {α:Type} {cb:List Nat} {ks:List α} {p:Nat×α} (h:p∈cb.zip ks): ∃i:Nat,cb[i]? =some p.1/\ks[i]? =some p.2:=by
 obtain⟨i,hi,e⟩:=List.getElem_of_mem h;refine⟨i,?_⟩;have h2:(cb.zip ks)[i]? =some p:=by rw[aZ hi,e]
 rw[tI] at h2;exact h2
structure Outside (ks:List Nat) (w wa:World):Prop where
 os:wa.os=w.os
 tape:wa.tape=w.tape
 output:wa.output=w.output
 size:w.heap.size<=wa.heap.size
 block: ∀k,k<w.heap.size-> ¬k∈ks->wa.heap[k]? =w.heap[k]?
theorem Outside.refl (ks:List Nat) (w:World):Outside ks w w:=⟨rfl,rfl,rfl,au _,λ_ _ _=>rfl⟩
variable {ks : List Nat}
theorem Outside.trans {a b c:World} (h:Outside ks a b) (k:Outside ks b c):Outside ks a c:=
 ⟨k.os.trans h.os,k.tape.trans h.tape,k.output.trans h.output,ad h.size k.size,λi hl hi=>(k.block i (aw hl h.size) hi).trans (h.block i hl hi)⟩
theorem Outside.kp {wa:World} (h:Outside ks w wa) (k:Kp X w0 w) (hl: ∀i,X i->i<w.heap.size) (hX: ∀i,i∈ks-> ¬X i):Kp X w0 wa:=
 ⟨h.os.trans k.os,h.tape.trans k.tape,h.output.trans k.output,ad k.size h.size,λi hi=>(h.block i (hl i hi) λhm=>hX i hm hi).trans (k.block i hi)⟩
def QK (P:Program) (pl:gx) (fn:Func) (R:Ending->World->Prop) (g:FuncId) (cb:List Nat) (cv:List (Option Value)) (RP:List PanicEntry->World->Prop):Prop:=
 ∀(ks:List Nat) (EV:List (Array Value)) ch w',ks.length=cb.length->EV.length=cb.length->ks.Nodup->(∀(i:Nat) k cells,ks[i]? =some k->EV[i]? =some cells-> ∃ty,w'.heap[k]? =some (.cells cells ty (0,0)))->
  (∀(i:Nat) v cells,cv[i]? =some (some v)->EV[i]? =some cells->cells= #[v])->(∀(i:Nat) b n cells,cb[i]? =some b->look pl.boxes b=some n->EV[i]? =some cells->cells.size=n)->(∀wa,Outside ks w' wa->RP ch wa)->
  CallsD P g (ks.map λk=>ez k 0).toArray (.panicking ch) w' λe u mq=>(∃x,e= .returned x)/\settle u= .returning/\ ∃v,R (.returned v) mq/\
   ∀tmps:Array Value,(∀(i:Nat) b k,cb[i]? =some b->ks[i]? =some k->tmps[b]? =some (ez k 0))->(results fn tmps).run P mq= .ok v mq
def FR (R:Ending->World->Prop) (RP:List PanicEntry->World->Prop):Ending->World->Prop
 | .panicked ch,w=>RP ch w
 |e,w=>R e w
theorem af4 {l:List Nat} (h: ∀(i j:Nat) k,l[i]? =some k->l[j]? =some k->i=j):l.Nodup:=
 List.pairwise_iff_getElem.2 λi j hi hj yE e=>by
  have:=h i j l[i] (aZ hi) gQ;omega
def xY (fn:Func):List Nat:=fn.results.toList.map λr=>match r with
 | .cell c _=>c
 | .tmp t=>t
def aiy (fn:Func):Bool:=fn.results.toList.all λr=>match r with
 | .cell _ _=>true
 | .tmp _=>false
def ftD (P:Program) (pl:gx) (fn:Func):Option FT:=
 if fn.ntmps==pl.n then match fn.body with
  |some (.seq (.region _ ael false) (.seq (.region _ yW false) rest))=>match yW.toList with
   |[mk,df]=>match df.op,df.guard,df.dst with
    | .defer ⟨.value (.tmp d),⟨[]⟩,_⟩,none,none=>match Ia P pl ael ael.toList .start,Ia P pl yW [mk] .start,jJ P pl rest with
     |some t0,some t1,some t2=>match t1 with
      |[.rd d' (.makeFunc (.func _) ⟨[]⟩ _) _ _]=>
       if d'==d&&pl.j7 d&&(xY fn).all (λc=>pl.j7 c&&!yz t2.mk c&&!yz t2.wr c)&&aiy fn&&!(t2.wr.contains d)&&!fn.results.isEmpty then some ⟨.seq (.Bo t0) (.seq (.Bo t1) t2),(xY fn).map Ex.t++[Ex.t d],[]⟩else none
      |_=>none
     |_,_,_=>none
    |_,_,_=>none
   |_=>none
  |_=>none
 else none
def HA (P:Program) (fn:Func) (R:Ending->World->Prop) (vs:List Value) (u:FrameMode) (w:World):Prop:=
 ∃(ps:List Value) (g:FuncId) (gH:Array Value),vs=ps++[Value.func (.func g) #[] gH]/\enters P g=true/\
  CallsD P g gH u w λe' u' w'=> ∃x v,e'= .returned x/\settle u'= .returning/\
   (∀tmps:Array Value,(∀(i:Nat) c,(xY fn)[i]? =some c->tmps[c]? =ps[i]?)->(results fn tmps).run P w'= .ok v w')/\R (.returned v) w'
def dP (P:Program) (fn:Func) (R:Ending->World->Prop) (vs:List Value):Ending->World->Prop
 | .returned _,w=>HA P fn R vs .returning w
 | .panicked ch,w=>HA P fn R vs (.panicking ch) w
 | .outgrown,_=>False
def nP:Ending->World->Prop:=λ_ _=>False
def ajI (P:Program) (fn:Func) (R:Ending->World->Prop) (res:List Ex):lA
 | .normal,e,w,X| .ret,e,w,X=> ∀wa,Kp X w wa->HA P fn R (res.map (·.ev e)) .returning wa
 | .panic ch,e,w,X=> ∀wa,Kp X w wa->HA P fn R (res.map (·.ev e)) (.panicking ch) wa
 |_,_,_,_=>False
def anr (P:Program) (pl:gx) (fn:Func) (R:Ending->World->Prop) (args:Array Value) (w:World):Prop:=match ftD P pl fn with
 |some ft=>match ft.code with
  | .seq (.Bo t0) (.seq (.Bo t1) t2)=>hU P (λch _ w X=>pn nP ch w X) (λe w X=>hU P (λch _ w X=>pn nP ch w X) (λe w X=>den P t2 (ajI P fn R ft.res) e w X) t1 e w X) t0 (mV args) w (bI w)
  |_=>False
 |none=>False
variable {R : Ending -> World -> Prop}
theorem Y3 {f:FuncId} {V:Prop} (hf:P.funcs[f]? =some fn)
  (hs:(decide (args.size<=pl.n)&&pl.boxes.all λp=>decide (args.size<=p.1))=true) (hv:V=anr P pl fn R args w) (h:V):Calls P f args w R:=by
 subst hv;unfold anr at h;simp only[aB,decide_eq_true_eq] at hs;split at h;case h_2=>exact h.elim
 rename_i ft hc;unfold ftD at hc;split at hc;case isFalse=>cases hc
 rename_i hn;have mr:fn.ntmps=pl.n:=by simpa using hn
 split at hc;case h_2=>cases hc
 rename_i _ id0 ael id1 yW rest hb;split at hc;case h_2=>cases hc
 rename_i _ mk df aem;split at hc;case h_2=>cases hc
 rename_i _ _ _ d Y4 aiz Y5 Jl;split at hc;case h_2=>cases hc
 rename_i _ _ _ t0 t1 t2 wJ Ap ni;split at hc;case h_2=>cases hc
 rename_i _ d' g0 Co ty ss;split at hc;case isFalse=>cases hc
 rename_i sM;simp only[aB,beq_iff_eq,de,lf] at sM;obtain⟨⟨⟨⟨⟨Ko,hgd⟩,hgc⟩,ny⟩,hwr⟩,cA⟩:=sM;subst Ko;injection hc with hc
 subst hc;have hdw: ¬d'∈t2.wr:=λhm=>by simp[hm] at hwr
 have aiA:=anq (w:=w) mr hs.1 gQ;refine calls_of_wp_defers hf hb ?_
 let K:=ajI P fn R ((xY fn).map Ex.t++[Ex.t d'])
 have hnp: ∀{ch X w0 w'},Kp X w0 w'->pn nP ch w0 X->False:=λhk hq=>hq _ hk;have h0:hU P (λch _ w X=>pn nP ch w X) (λe w X=>hU P (λch _ w X=>pn nP ch w X) (λe w X=>den P t2 K e w X) [.rd d' (.makeFunc (.func g0) ⟨[]⟩ Co) ty ss] e w X) t0 (mV args) w (bI w):=h;refine wp_seq (wp_region_list (PW (P:=P) (pl:=pl) (ds:=⟨[],[]⟩) ?_ ?_ ael.toList .start t0 _ _ _ _ _ wJ (λ_ _ _ hp=>by cases hp) aiA h0));case refine_2=>exact λch a' w' dz X' ey _ hk _ hq=>(hnp hk hq).elim
 intro NC a1 w1 xt X1 LZ ax hd1;replace ax:=ax.drop
 show(Code.seq (Code.region id1 yW false) rest).wp P (bodyPostD P fn R) a1 w1
 refine wp_seq (wp_region_list ?_);rw[aem];have h1:hU P (λch _ w X=>pn nP ch w X) (λe w X=>den P t2 (λex e' w' X'=>K ex e' w' X'/\ ∀s,¬s∈t2.wr->e' s=e s) e w X/\ ∃gH,e d'= .func (.func g0) #[] gH) [.rd d' (.makeFunc (.func g0) ⟨[]⟩ Co) ty ss] xt LZ X1:=by
  obtain⟨v,hv,hq⟩: ∃v,Rd P X1 LZ (PJ (Fy xt ss) (.makeFunc (.func g0) ⟨[]⟩ Co) ty) v/\den P t2 K (jO xt d' v) LZ X1:=hd1;refine⟨v,hv,mL t2 hq λex e w' X' _ he hk=>⟨hk,he⟩,?_⟩;have hr:(vS (cC (.func g0) (xp (Fy xt ss) ⟨[]⟩) (xp (Fy xt ss) Co))).run P LZ= .ok (.value v) LZ:=hv LZ (Kp.refl _ _);rw[RR,RR] at hr;rw[mA];simp[vS,cC] at hr;exact⟨_,hr.symm⟩
 have h2:=PW (P:=P) (pl:=pl) (ds:=⟨[],[]⟩) (ops:=yW) (Q:=λex a w=>match ex with
   | .normal=>wpList P yW (Exit.then (rest.wp P (bodyPostD P fn R)) (bodyPostD P fn R)) [df] a w
   |ex=>Exit.then (rest.wp P (bodyPostD P fn R)) (bodyPostD P fn R) ex a w) ?_ ?_ [mk] .start _ xt X1 LZ a1 w1 Ap (λ_ _ _ hp=>by cases hp) ax h1
 ·assumption
 ·rintro cs2 a2 w2 Fh X2 w02 bp ⟨tD,gH,qi⟩
  show wpList P yW _ [df] a2 w2
  have Ts:a2.eval (.tmp d')= .func (.func g0) #[] gH:=by
   have:=bp.qz d' hgd;simp[Act.eval,nh,this,qi]
  have nU:(execOp a2.eval df).run P w2= .ok (.defer { target:=.fn (.func g0) gH,args:= #[] }) w2:=by
   simp[execOp,aiz,resolve,Ts,lj]
  unfold wpList;have hw:cJ df (yielded yW a2.tmps)=true:=by simp[cJ,Y5]
  rw[if_pos hw];left;unfold Oper.wp;rw[nU,BI,Jl]
  show rest.wp P (bodyPostD P fn R) { a2 with defers:= { target:=.fn (.func g0) gH,args:= #[] } ::a2.defers } w2
  rw[bp.defers];have xM:=bp.drop;have cY:fF pl ⟨[{ target:=.fn (.func g0) gH,args:= #[] }],(xY fn).map λc=>(c,Fh c)⟩ .start Fh X2 w02 { a2 with defers:=[{ target:=.fn (.func g0) gH,args:= #[] }] } w2:=
   ⟨xM.size,rfl,λp hp=>by
    obtain⟨c,hc,rfl⟩:=List.mem_map.1 hp;have hg:=(hgc c hc).1.1;exact⟨bp.qz c hg,.inr hg⟩,xM.ext,xM.xq,xM.qz,xM.sig,xM.box,xM.inj,xM.conv,xM.live,xM.ptr⟩
  refine wp_mono (Mz (pl:=pl) (ds:=⟨[{ target:=.fn (.func g0) gH,args:= #[] }],(xY fn).map λc=>(c,Fh c)⟩) rest t2 _ Fh X2 w02 _ w2 ni (λb dZ p hp e=>?_) cY tD) λex a' w' hq=>?_
  ·obtain⟨c,hc,rfl⟩:=List.mem_map.1 hp;have h3:=(hgc c hc).1.2;have e:c=b:=e;rw[e,Ah.2 dZ] at h3;cases h3
  have hcw: ∀c∈xY fn,¬c∈t2.wr:=λc hc hm=>by
   have h3:=(hgc c hc).2;rw[Ah.2 hm] at h3;cases h3
  have close: ∀(e:Env) (u:FrameMode) (wx:World),u≠ .run->(∀s,¬s∈t2.wr->e s=Fh s)->(∀c∈xY fn,a'.tmps[c]? =some (Fh c))->
    HA P fn R (((xY fn).map Ex.t++[Ex.t d']).map (·.ev e)) u wx->Leaves P fn a'.tmps R [{ target:=.fn (.func g0) gH,args:= #[] }] u wx:=by
   rintro e u wx hu he htm ⟨vs,g,ao5,Up,aiB,hcd⟩;rw[List.map_append,List.map_map,bB,List.map_nil] at Up;obtain⟨kO,rE⟩:=List.append_inj' Up rfl;simp only[List.cons.injEq,and_true] at rE;have aq5:(Value.func (.func g0) #[] gH)= .func (.func g) #[] ao5:=by
    rw[<-qi,<-he d' hdw];exact rE
   injection aq5 with Yp _ xv
   injection Yp with Yp
   subst Yp;subst xv;refine leaves_cons hu (f:=g0) (args:=gH) ?_ ?_
   ·simp only[invoke];have:=oV aiB (#[]++gH) wx;simpa using this
   ·refine hcd.mono ?_;rintro _ u' mq ⟨x,v,rfl,Io,OC,hR⟩
    show Leaves P fn a'.tmps R [] (settle u') mq
    rw[Io];refine⟨v,OC _ λi c hi=>?_,hR⟩;have lS:c∈xY fn:=ay hi;rw[htm c lS,<-kO,cP,hi]
    show some (Fh c)=some (e c)
    rw[he c (hcw c lS)]
  have done:(∃env X w0,fF pl ⟨[{ target:=.fn (.func g0) gH,args:= #[] }],(xY fn).map λc=>(c,Fh c)⟩ .start env X w0 a' w'/\K .ret env w0 X/\ ∀s,¬s∈t2.wr->env s=Fh s)->Leaves P fn a'.tmps R a'.defers .returning w':=by
   rintro⟨e,X',ey,h5,h6,h7⟩;rw[h5.defers];exact close e .returning w' sQ h7 (λc hc=>(h5.Ai (c,Fh c) (List.mem_map.2 ⟨c,hc,rfl⟩)).1) (h6 w' h5.ext)
  cases ex with
  |normal=>exact done hq
  |ret=>exact done hq
  |panic ch=>
   obtain⟨h5,e,X',ey,h6,⟨h7,h8⟩,AG⟩:=hq
   show Leaves P fn a'.tmps R a'.defers (.panicking ch) w'
   rw[h5];exact close e (.panicking ch) w' sQ h8 (λc hc=>(AG.2 (c,Fh c) (List.mem_map.2 ⟨c,hc,rfl⟩)).1) (h7 w' h6)
  |exit i=>obtain⟨e,X',ey,h5,h6,_⟩:=hq;exact h6.elim
  |goto i=>obtain⟨e,X',ey,h5,h6,_⟩:=hq;exact h6.elim
  |outgrown=>exact hq.elim
 ·exact λch a' w' dz X' ey _ hk _ hq=>(hnp hk hq).elim
end Go.aK
namespace Go.aK
variable {P : Program} {R : Ending -> World -> Prop} {X F G : XS} {w w0 : World} {m : Bool}
def ES (F:XS) (w0:World) (Q:Value->World->Prop) (QP:List PanicEntry->World->Prop):Ending->World->Prop:=λe w'=>
 (∃v,e= .returned v/\Fr F w0 w'/\Q v w')\/ ∃ch,e= .panicked ch/\Fr F w0 w'/\QP ch w'
def ER (P:Program) (f:FuncId) (args:Array Value) (w:World) (X F:XS) (Q:Value->World->World->Prop) (QP:List PanicEntry->World->World->Prop):Prop:=
 ∀wa,Kp X w wa->Calls P f args wa (ES F wa (λv w'=>Q v wa w') λch w'=>QP ch wa w')
variable {QP : List PanicEntry -> World -> World -> Prop} {args : Array Value} {f : FuncId}
def ER.mono {Q Q':Value->World->World->Prop} {XK:List PanicEntry->World->World->Prop} (h:ER P f args w X F Q QP) (k: ∀v wa w',Kp X w wa->Q v wa w'->Q' v wa w') (kp: ∀ch wa w',Kp X w wa->QP ch wa w'->XK ch wa w'):ER P f args w X F Q' XK:=
 λwa hk=>(h wa hk).mono λ_ _ hq=>hq.imp (λ⟨v,he,hf,hq⟩=>⟨v,he,hf,k v wa _ hk hq⟩) λ⟨v,he,hf,hq⟩=>⟨v,he,hf,kp v wa _ hk hq⟩
variable {N : Value -> World -> XS -> Prop}
theorem ao6 {Q:Value->World->World->Prop}
  (h:ER P f args w X F Q QP) (hf:enters P f=true) (hX: ∀k,X k->k<w.heap.size) (hF: ∀k,F k->X k)
  (k: ∀v wa w' X',Q v wa w'->w.heap.size<=wa.heap.size->(∀k,made wa w' k->X' k)->Kp X w wa->ee F X w X' w'->N v w' X')
  (kp: ∀ch wa w' X',QP ch wa w'->w.heap.size<=wa.heap.size->(∀k,made wa w' k->X' k)->Kp X w wa->ee F X w X' w'-> ∀wb,Kp X' w' wb->R (.panicked ch) wb):eC P R X w true f args N:=by
 intro wa hk;unfold jA;rw[oV hf args wa];refine⟨rfl,(h wa hk).mono ?_⟩;rintro e w' (⟨v,rfl,wX,hq⟩|⟨ch,rfl,wX,hq⟩)
 ·exact⟨wX.mono hF,k v wa w' _ hq hk.size (λg hg=>.inr hg) hk (ee.aee hX hk wX)⟩
 ·exact⟨wX.mono hF,kp ch wa w' _ hq hk.size (λg hg=>.inr hg) hk (ee.aee hX hk wX)⟩
variable {x : Value} {t : TypeId}
theorem Sh (hX: ∀k,X k->k<w.heap.size) (h: ∀wa,Kp X w wa->R (.panicked [{ v:=.iface t x,recovered:=false }]) wa):eV P R X w m (kE (.iface t x)) N:=by
 intro wa hk;have hr:(vS (kE (.iface t x))).run P wa= .halt (.panic (.iface t x)) wa:=by simp[vS,kE,goPanic,Sem.run]
 unfold jA;rw[hr];refine⟨Step.eP (Ext.refl wa),λwb hb=>h wb ⟨hb.os.trans hk.os,hb.tape.trans hk.tape,hb.output.trans hk.output,ad hk.size hb.size,λk hx=>(hb.block k (.inl hx)).trans (hk.block k hx)⟩⟩
def isIface (P:Program) (t:TypeId):Bool:=match P.underlying t with
 |some (.interface _)=>true
 |some _=>false
 |none=>true
theorem Sg {N:Value->Prop} (ht:isIface P t=false) (h:N (.iface t x)):aV P X w (iX t x) N:=by
 unfold isIface at ht;cases hu:P.underlying t with
 |none=>simp[hu] at ht
 |some d=>refine bF (v:=.iface t x) (λwa=>?_) h;cases d<;>simp_all [iX,run_underlying hu]
theorem akc {st:TypeId} {N:Value->Prop} (ht:isIface P t=false) (h:N (.tuple #[x,.bool true])):aV P X w (nJ (.iface t x) st t true) N:=by
 unfold isIface at ht;cases hu:P.underlying t with
 |none=>simp[hu] at ht
 |some d=>refine bF (v:=.tuple #[x,.bool true]) (λwa=>?_) h;cases d<;>simp_all [nJ,run_underlying hu]
variable {wa : World} {v : Value} {RP : List PanicEntry -> World -> Prop} {R : Ending -> World -> Prop}
section
variable {F0 X' : XS} {Q : Value -> World -> World -> Prop}
def Ft.FP (hT:Ft w0 F0 w X F) (h:ER P f args w X G Q QP) (hf:enters P f=true) (hG: ∀k,G k->F k)
  (k: ∀v wa w' X',Q v wa w'->w.heap.size<=wa.heap.size->(∀k,made wa w' k->X' k)->Ft w0 F0 w' X' (λk=>F k\/made wa w' k)->ee G X w X' w'->N v w' X')
  (kp: ∀ch wa w' X',QP ch wa w'->w.heap.size<=wa.heap.size->(∀k,made wa w' k->X' k)->Ft w0 F0 w' X' (λk=>F k\/made wa w' k)->ee G X w X' w'-> ∀wb,Kp X' w' wb->R (.panicked ch) wb):eC P R X w true f args N:=
 ao6 h hf hT.s.has (λq hq=>hT.bw q (hG q hq)) (λv wa w' X' hq hle gn _ hc=>k v wa w' X' hq hle gn (hT.dY hc hG λq hq=>hq.imp id λhm=>⟨gn q hm,ad hle hm.1⟩) hc)
  λch wa w' X' hq hle gn _ hc=>kp ch wa w' X' hq hle gn (hT.dY hc hG λq hq=>hq.imp id λhm=>⟨gn q hm,ad hle hm.1⟩) hc
theorem Ft.fr (h:Ft w0 F0 w X F) (hk:Kp X w wa):Fr F0 w0 wa:=
 ⟨hk.os.trans h.s.kp.os,hk.tape.trans h.s.kp.tape,hk.output.trans h.s.kp.output,ad h.s.kp.size hk.size,
  λk hl hn=>(hk.block k (h.s.sub k ⟨hl,hn⟩)).trans (h.s.kp.block k ⟨hl,hn⟩)⟩
def Ft.xO {Q:Value->World->Prop} {QP:List PanicEntry->World->Prop} (h:Ft w0 F0 w X F) (hq: ∀wa,Kp X w wa->Q v wa):aK.fin (ES F0 w0 Q QP) X w v:=
 λwa hk=>.inl ⟨v,rfl,h.fr hk,hq wa hk⟩
def Ft.iY {ch:List PanicEntry} {Q:Value->World->Prop} {QP:List PanicEntry->World->Prop} (h:Ft w0 F0 w X F) (hk:Kp X w wa) (hq:QP ch wa):ES F0 w0 Q QP (.panicked ch) wa:=.inr ⟨ch,rfl,h.fr hk,hq⟩
def af5 (h:aK.fin R X w v):aK.fin (FR R RP) X w v:=λwa hk=>h wa hk
def Ft.adB {Q:Value->World->Prop} (h:Ft w0 F0 w X F) (hq: ∀wa,Kp X w wa->Q v wa):aK.fin (FR (uF F0 w0 Q) RP) X w v:=
 af5 (h.fin hq)
def Ft.ret {Q:Value->World->Prop} (h:Ft w0 F0 w X F) (hk:Kp X w wa) (hq:Q v wa):uF F0 w0 Q (.returned v) wa:=⟨v,rfl,h.fr hk,hq⟩
def Ct.FP (hT:Ft w0 F0 w X F) (h:Ct P f args w X G Q) (hf:enters P f=true) (hG: ∀k,G k->F k)
  (k: ∀v wa w' X',Q v wa w'->w.heap.size<=wa.heap.size->(∀k,made wa w' k->X' k)->Ft w0 F0 w' X' (λk=>F k\/made wa w' k)->ee G X w X' w'->N v w' X'):eC P R X w true f args N:=
 hT.call h hf hG k
end
end Go.aK
namespace Go.aK
variable {P : Program}
def ao7 (ops:Array Oper):Bool:=match ops.toList with
 |[mk,df]=>match mk.op,mk.guard,mk.dst,df.op,df.guard,df.dst with
  | .makeFunc (.func _) ⟨[]⟩ _,none,some d',.defer ⟨.value (.tmp d),⟨[]⟩,_⟩,none,none=>d'==d
  |_,_,_,_,_,_=>false
 |_=>false
def C6:Code->Option (Code×Nat×Array Oper×Code)
 | .seq (.region id ops false) rest=>if ao7 ops then some (.skip,id,ops,rest)else match C6 rest with
  |some (p,i,o,r)=>some (.seq (.region id ops false) p,i,o,r)
  |none=>none
 | .seq a b=>match C6 b with
  |some (p,i,o,r)=>some (.seq a p,i,o,r)
  |none=>none
 |_=>none
def Rc (fn:Func):Option (Code×Nat×Array Oper×Code):=match fn.body with
 |some c=>C6 c
 |none=>none
def ftL (P:Program) (pl:gx) (fn:Func):Option FT:=
 if fn.ntmps==pl.n then match Rc fn with
  |some (c1,_,yW,rest)=>match yW.toList with
   |[mk,df]=>match mk.op,mk.guard,mk.dst,df.op,df.guard,df.dst with
    | .makeFunc (.func _) ⟨[]⟩ Co,none,some d',.defer ⟨.value (.tmp d),⟨[]⟩,_⟩,none,none=>match jJ P pl c1,vF Co.toList,jJ P pl rest,Eh P pl fn.results.toList with
     |some t1,some cb,some t2,some (r,n)=>if d'==d&&decide (d<pl.n)&&(look pl.boxes d).isNone&&!pl.j7 d&&Rb cb&&cb.all (λb=>(look pl.boxes b).isSome&&!yz t2.mk b)then some ⟨.seq t1 (.seq (.Bo (cb.map .zI)) t2),r,n⟩else none
     |_,_,_,_=>none
    |_,_,_,_,_,_=>none
   |_=>none
  |none=>none
 else none
def Yi (fn:Func):Option (FuncId×List Nat):=match Rc fn with
 |some (_,_,yW,_)=>match yW.toList with
  |[mk,_]=>match mk.op with
   | .makeFunc (.func g) _ Co=>(vF Co.toList).map λcb=>(g,cb)
   |_=>none
  |_=>none
 |none=>none
def aiC (P:Program) (pl:gx) (fn:Func) (args:Array Value):List (Option Value):=match Rc fn,Yi fn with
 |some (c1,_,_,rest),some (_,cb)=>match jJ P pl c1,jJ P pl rest with
  |some (.Bo t0),some t2=>if t0.all isSimple then cb.map λb=>if yz t2.wr b then none else aix (C5 t0 (mV args) b)else []
  |_,_=>[]
 |_,_=>[]
def noP (R:Ending->World->Prop):Ending->World->Prop
 | .panicked _,_=>False
 |e,w=>R e w
def aiD (P:Program) (o:Option FT) (R1 R2:Ending->World->Prop) (args:Array Value) (w:World):Prop:=match o with
 |some ft=>match ft.code with
  | .seq t1 t2=>den P t1 (lA.Fz (λe w X=>den P t2 (Ox ft R2) e w X) (Ox ft R1)) (mV args) w (bI w)
  |_=>False
 |none=>False
variable {pl : gx}
theorem aen {next:Env->World->XS->Prop} {K:lA} {Q:Exit->Act->World->Prop} {id:Nat} {o1:Array Oper} {rest:Code}
  (hn: ∀env X w0 a w,fF pl ⟨[],[]⟩ .start env X w0 a w->next env w0 X->(Code.seq (Code.region id o1 false) rest).wp P Q a w)
  (hK: ∀ex a w,ex≠ .normal->QP pl ⟨[],[]⟩ K ex a w->Q ex a w): ∀(c c1:Code),C6 c=some (c1,id,o1,rest)-> ∀(t1:T) (env:Env) (X:XS) (w0:World) (a:Act) (w:World),
   jJ P pl c1=some t1->fF pl ⟨[],[]⟩ .start env X w0 a w->den P t1 (lA.Fz next K) env w0 X->c.wp P Q a w:=by
 intro c
 induction c with
 |seq x y ihx ihy=>
  intro c1 hs t1 env X w0 a w hc h hd;have key: ∀p,C6 y=some (p,id,o1,rest)->c1= .seq x p->(Code.seq x y).wp P Q a w:=λp hp Ap=>by
   subst Ap;simp only[jJ] at hc;cases hx:jJ P pl x with
   |none=>simp[hx] at hc
   |some tx=>
    cases hy:jJ P pl p with
    |none=>simp[hx,hy] at hc
    |some ty=>
     simp only[hx,hy,aj] at hc;have Ko:den P (.seq tx ty) (lA.Fz next K) env w0 X:=by
      subst hc;split at hd
      ·exact hd
      ·show den P tx (lA.Fz (λe w X=>den P .skip (lA.Fz next K) e w X) (lA.Fz next K)) env w0 X
       refine mL tx hd λex e w' X' _ _ hq=>?_;cases ex<;>exact hq
      ·exact hd
     refine wp_seq (wp_mono (Mz (pl:=pl) (ds:=⟨[],[]⟩) x tx _ env X w0 a w hx (λ_ _ _ hp=>by cases hp) h Ko) λex a' w' hq=>?_);cases ex with
     |normal=>
      obtain⟨e,X',ey,h1,h2⟩:=hq;exact ihy p hp ty e X' ey a' w' hy h1 h2
     |exit i=>exact hK _ _ _ sQ hq
     |goto i=>exact hK _ _ _ sQ hq
     |ret=>exact hK _ _ _ sQ hq
     |panic c=>exact hK _ _ _ sQ hq
     |outgrown=>exact hK _ _ _ sQ hq
  unfold C6 at hs;split at hs
  ·rename_i id' ops asm heq;simp only[C3] at heq;obtain⟨rfl,rfl⟩:=heq;split at hs
   ·simp only[aj,cV] at hs;obtain⟨rfl,rfl,rfl,rfl⟩:=hs;simp only[jJ,aj] at hc;subst hc;exact hn env X w0 a w h hd
   ·split at hs
    ·rename_i p i o r hp;simp only[aj,cV] at hs;obtain⟨rfl,rfl,rfl,rfl⟩:=hs;exact key p hp rfl
    ·cases hs
  ·rename_i x' y' _ heq;simp only[C3] at heq;obtain⟨rfl,rfl⟩:=heq;split at hs
   ·rename_i p i o r hp;simp only[aj,cV] at hs;obtain⟨rfl,rfl,rfl,rfl⟩:=hs;exact key p hp rfl
   ·cases hs
  ·cases hs
 |_=>grind [C6]
variable {X : XS} {w : World}
theorem UD {K:Env->World->XS->Prop} {iY:List PanicEntry->Env->World->XS->Prop} {env:Env} : ∀(l:List Nat),hU P iY K (l.map TI.zI) env w X->(∀b∈l,dI (env b)=true)/\K env w X
 |[],h=>⟨λ_ h=>(by cases h),h⟩
 |b::l,h=>by
  have h':=dO.1 h;have ih:=UD l h'.2;exact⟨λc hc=>by
   rcases List.mem_cons.1 hc with rfl|hc
   ·exact h'.1
   ·exact ih.1 c hc,ih.2⟩
variable {cb : List Nat} {R : Ending -> World -> Prop} {fn : Func}
def DP {g:FuncId} :QK P pl fn R g cb [] λ_ _=>False:=
 λks EV ch w' _ _ _ _ _ _ h=>(h w' (Outside.refl _ _)).elim
theorem Y6 {f:FuncId} {args:Array Value} {RP:List PanicEntry->World->Prop} {g0:FuncId} {cv:List (Option Value)} {V:Prop} (hf:P.funcs[f]? =some fn)
  (hs:(decide (args.size<=pl.n)&&pl.boxes.all λp=>decide (args.size<=p.1))=true) (Df:Yi fn=some (g0,cb)) (hcv:cv=[]\/cv=aiC P pl fn args) (lR:Idle P g0) (uG:QK P pl fn R g0 cb cv RP) (hv:V=aiD P (ftL P pl fn) (noP R) (FR R RP) args w) (h:V):Calls P f args w R:=by
 subst hv;unfold aiD at h;simp only[aB,decide_eq_true_eq] at hs;split at h;case h_2=>exact h.elim
 rename_i ft hc;unfold ftL at hc;split at hc;case isFalse=>cases hc
 rename_i hn;have mr:fn.ntmps=pl.n:=by simpa using hn
 split at hc;case h_2=>cases hc
 rename_i _ c1 id1 yW rest Ek;split at hc;case h_2=>cases hc
 rename_i _ mk df aem;split at hc;case h_2=>cases hc
 rename_i _ _ _ _ _ _ g Co d' d Y4 ans hmg hmd aiz Y5 Jl;split at hc;case h_2=>cases hc
 rename_i _ _ _ _ t1 te t2 r nd Ap jm ni OC;split at hc;case isFalse=>cases hc
 rename_i sM;simp only[aB,beq_iff_eq,de,decide_eq_true_eq,Option.isNone_iff_eq_none,lf] at sM;obtain⟨⟨⟨⟨⟨Ko,jK⟩,hdb⟩,aq6⟩,tR⟩,zN⟩:=sM;subst Ko;injection hc with hc
 subst hc;have ao8:=Df;unfold Yi at Df;rw[Ek] at Df;dsimp only at Df;rw[aem] at Df;dsimp only at Df;rw[ans] at Df;dsimp only at Df;rw[jm] at Df;simp only[aY,aj,cV] at Df;obtain⟨rfl,rfl⟩:=Df;obtain⟨aiB,ao9⟩:=lR;have aiA:=anq (w:=w) mr hs.1 gQ;have adl: ∃c,fn.body=some c/\C6 c=some (c1,id1,yW,rest):=by
  unfold Rc at Ek;split at Ek
  ·rename_i c hb;exact⟨c,hb,Ek⟩
  ·cases Ek
 obtain⟨c,hb,aq7⟩:=adl;refine calls_of_wp_defers hf hb ?_
 let K:=Ox ⟨.seq t1 (.seq (.Bo (te.map .zI)) t2),r,nd⟩ (FR R RP)
 let S:Env->Prop:=λe=> ∀(i:Nat) b v,te[i]? =some b->cv[i]? =some (some v)-> ¬b∈t2.wr/\e b= .agg #[v]
 have h0:den P t1 (lA.Fz (λe w X=>S e/\den P (.seq (.Bo (te.map .zI)) t2) K e w X) (Ox ⟨.seq t1 (.seq (.Bo (te.map .zI)) t2),r,nd⟩ (noP R))) (mV args) w (bI w):=by
  have hn: ∀(N:Env->World->XS->Prop),(∀e,S e)->(λe w X=>S e/\N e w X)=N:=λN hS=>by
   funext e w X;exact propext ⟨λh=>h.2,λh=>⟨hS e,h⟩⟩
  have RV:cv=[]\/ ∃t0,t1= .Bo t0/\t0.all isSimple=true/\cv=te.map λb=>if yz t2.wr b then none else aix (C5 t0 (mV args) b):=by
   rcases hcv with h|h
   ·exact .inl h
   ·unfold aiC at h;rw[Ek,ao8] at h;dsimp only at h;rw[Ap,ni] at h;split at h
    ·rename_i t0 t2' e1 e2;cases e1;cases e2;split at h
     ·rename_i ha;exact .inr ⟨t0,rfl,ha,h⟩
     ·exact .inl h
    ·exact .inl h
  rcases RV with hS|⟨t0,rfl,ha,aq8⟩
  ·rw[hn _ λe i b v _ h=>by rw[hS] at h;simp at h];exact h
  ·have h2:=zv t0 (mV args) ha (show hU P _ _ t0 (mV args) w (bI w)from h);refine Ie t0 h2 (λe w' X' _ _ ⟨he,hq⟩=>⟨λi b v g1 g2=>?_,hq⟩) λ_ _ _ _ _ _ hq=>hq;subst he;rw[aq8,cP,g1] at g2;simp only[aY,aj] at g2;split at g2
   ·cases g2
   ·rename_i hnw;refine⟨λhm=>hnw (Ah.2 hm),?_⟩;generalize C5 t0 (mV args) b=u at g2;unfold aix at g2;split at g2
    ·cases g2;rfl
    ·cases g2
 refine aen (P:=P) (pl:=pl) ?_ ?_ c c1 aq7 t1 (mV args) (bI w) w _ w Ap aiA h0;case refine_2=>
  intro ex a w hex hq;cases ex with
  |normal=>exact absurd rfl hex
  |ret=>
   obtain⟨e,X',ey,h5,h6⟩:=hq;have h6':jc (nd.all λb=>dI (e b)) (∀wa,Kp X' ey wa->R (.returned (Wn r e)) wa):=h6;obtain⟨h7,h8⟩:=dO.1 h6'
   show Leaves P fn a.tmps R a.defers .returning w
   rw[h5.defers];exact⟨_,MA h5 OC (List.all_eq_true.1 h7),h8 w h5.ext⟩
  |panic ch=>obtain⟨_,e,X',ey,h6,h7,_⟩:=hq;exact(h7 w h6).elim
  |exit i=>obtain⟨e,X',ey,h5,h6⟩:=hq;exact h6.elim
  |goto i=>obtain⟨e,X',ey,h5,h6⟩:=hq;exact h6.elim
  |outgrown=>exact hq.elim
 intro xt X1 LZ a1 w1 ax ⟨lV,hd0⟩;have aq9:hU P (λch=>lA.Fz (λe w X=>den P t2 K e w X) K (.panic ch)) (λe w X=>den P t2 K e w X) (te.map .zI) xt LZ X1:=hd0;obtain⟨ara,hd1⟩:=UD _ aq9;have pj: ∀b∈te,(∃n,look pl.boxes b=some n)/\ ∃k,a1.tmps[b]? =some (ez k 0):=λb dZ=>by
  obtain⟨n,hn⟩:=Option.isSome_iff_exists.1 (zN b dZ).1;obtain⟨cells,qi⟩:=vX.1 (ara b dZ);obtain⟨k,ty,g1,_⟩:=ax.box b n hn cells qi;exact⟨⟨n,hn⟩,k,g1⟩
 obtain⟨ks,tZ,zj⟩:=ab0 te λb dZ=>(pj b dZ).2;have apa: ∀p,p∈te.zip (ks.map λk=>ez k 0)->a1.tmps[p.1]? =some p.2/\((∃n k,look pl.boxes p.1=some n/\p.2=ez k 0)\/pl.j7 p.1=true):=λp hp=>by
  obtain⟨i,g1,g2⟩:=SH hp;obtain⟨k,g3,g4⟩:=zj i p.1 g1;rw[cP,g3] at g2;simp only[aY,aj] at g2;obtain⟨⟨n,hn⟩,_⟩:=pj p.1 (ay g1);exact⟨by rw[<-g2];exact g4,.inl ⟨n,k,hn,g2.symm⟩⟩
 have arb:ks.Nodup:=by
  refine af4 λi j k hi hj=>?_;have pK:i<te.length:=by rw[<-tZ];exact(List.getElem?_eq_some_iff.1 hi).1
  have HD:j<te.length:=by rw[<-tZ];exact(List.getElem?_eq_some_iff.1 hj).1
  have gi:te[i]? =some te[i]:=aZ pK;have gj:te[j]? =some te[j]:=aZ HD;obtain⟨k1,e1,f1⟩:=zj i _ gi;obtain⟨k2,e2,f2⟩:=zj j _ gj;rw[hi] at e1;cases e1;rw[hj] at e2;cases e2;obtain⟨⟨m1,qp⟩,_⟩:=pj te[i] (Bh pK);obtain⟨⟨m2,rl⟩,_⟩:=pj te[j] (Bh HD);have:=ax.inj te[i] te[j] m1 m2 qp rl (ax.conv _ _ qp _ f1) (ax.conv _ _ rl _ f2) k f1 f2;exact(List.getElem_inj (Oi tR)).1 this
 refine wp_seq (wp_region_list ?_);rw[aem];have Ep:cJ mk (yielded yW a1.tmps)=true:=by simp[cJ,hmg]
 have ajJ:Co.map a1.eval=(ks.map λk=>ez k 0).toArray:=by
  apply xh;rw[nr,(Oh jm),List.map_map];refine uv λi=>?_;rw[cP,cP];cases hci:te[i]? with
  |none=>
   have:ks[i]? =none:=by rw[List.getElem?_eq_none_iff] at hci⊢;omega
   rw[this];rfl
  |some b=>
   obtain⟨k,g1,g2⟩:=zj i b hci;rw[g1];simp[Act.eval,nh,g2]
 have ajK:(execOp a1.eval mk).run P w1= .ok (.value (.func (.func g) #[] (ks.map λk=>ez k 0).toArray)) w1:=by
  rw[<-ajJ];simp[execOp,ans,cC]
 have apb: ∀b∈te,b≠d':=λb dZ e=>by
  obtain⟨⟨n,hn⟩,_⟩:=pj b dZ;rw[e,hdb] at hn;cases hn
 clear ajJ;generalize hcg:(ks.map λk=>ez k 0).toArray=gH at ajK;unfold wpList;rw[if_pos Ep];left;unfold Oper.wp;rw[ajK,Oper.upon_value,hmd];have bp:=ax.aside (v:=.func (.func g) #[] gH) jK hdb aq6;have Ts:(a1.put (some d') (.func (.func g) #[] gH)).eval (.tmp d')= .func (.func g) #[] gH:=by
  have:d'<a1.tmps.size:=by rw[ax.size];exact jK
  simp[Act.eval,Act.put,nh,this]
 have af6: ∀p,p∈te.zip (ks.map λk=>ez k 0)->(a1.put (some d') (.func (.func g) #[] gH)).tmps[p.1]? =some p.2/\((∃n k,look pl.boxes p.1=some n/\p.2=ez k 0)\/pl.j7 p.1=true):=λp hp=>by
  obtain⟨g1,g2⟩:=apa p hp;obtain⟨i,g3,_⟩:=SH hp;exact⟨by rw[gq _ _ _ _ (apb p.1 (ay g3))];exact g1,g2⟩
 generalize a1.put (some d') (.func (.func g) #[] gH)=a2 at bp Ts af6;have nU:(execOp a2.eval df).run P w1= .ok (.defer { target:=.fn (.func g) gH,args:= #[] }) w1:=by
  simp[execOp,aiz,resolve,Ts,lj]
 unfold wpList;have hw:cJ df (yielded yW a2.tmps)=true:=by simp[cJ,Y5]
 rw[if_pos hw];left;unfold Oper.wp;rw[nU,BI,Jl]
 show rest.wp P (bodyPostD P fn R) { a2 with defers:= { target:=.fn (.func g) gH,args:= #[] } ::a2.defers } w1
 rw[bp.defers];have cY:fF pl ⟨[{ target:=.fn (.func g) gH,args:= #[] }],te.zip (ks.map λk=>ez k 0)⟩ .start xt X1 LZ { a2 with defers:=[{ target:=.fn (.func g) gH,args:= #[] }] } w1:=
  ⟨bp.size,rfl,af6,bp.ext,bp.xq,bp.qz,bp.sig,bp.box,bp.inj,bp.conv,bp.live,bp.ptr⟩
 have tD:=mL t2 (K':=λex e w' X'=>K ex e w' X'/\ ∀s,¬s∈t2.wr->e s=xt s) hd1 λex e w' X' _ he hk=>⟨hk,he⟩;refine wp_mono (Mz (pl:=pl) (ds:=⟨[{ target:=.fn (.func g) gH,args:= #[] }],te.zip (ks.map λk=>ez k 0)⟩) rest t2 _ xt X1 LZ _ w1 ni (λb dZ p hp e=>?_) cY tD) λex a' w' hq=>?_
 ·obtain⟨i,g1,_⟩:=SH hp;have h1:=(zN p.1 (ay g1)).2;rw[e,Ah.2 dZ] at h1;cases h1
 have af7: ∀w',(invoke (.fn (.func g) gH) #[]).run P w'= .ok (.enter g gH) w':=λw'=>by
  simp only[invoke];have:=oV aiB (#[]++gH) w';simpa using this
 have done:(∃env X w0,fF pl ⟨[{ target:=.fn (.func g) gH,args:= #[] }],te.zip (ks.map λk=>ez k 0)⟩ .start env X w0 a' w'/\K .ret env w0 X/\ ∀s,¬s∈t2.wr->env s=xt s)->Leaves P fn a'.tmps R a'.defers .returning w':=by
  rintro⟨e,X',ey,h5,h6,_⟩;have h6':jc (nd.all λb=>dI (e b)) (∀wa,Kp X' ey wa->R (.returned (Wn r e)) wa):=h6;obtain⟨h7,h8⟩:=dO.1 h6';rw[h5.defers];refine leaves_cons sQ (f:=g) (args:=gH) (af7 w') ?_;refine(ao9 gH w').mono ?_;rintro _ _ mq ⟨⟨x,rfl⟩,rfl,rfl⟩;exact⟨_,MA h5 OC (List.all_eq_true.1 h7),h8 mq h5.ext⟩
 cases ex with
 |normal=>exact done hq
 |ret=>exact done hq
 |panic ch=>
  obtain⟨h5,e,X',ey,h6,⟨h7,he⟩,AG⟩:=hq
  show Leaves P fn a'.tmps R a'.defers (.panicking ch) w'
  rw[h5];refine leaves_cons sQ (f:=g) (args:=gH) (af7 w') ?_;have pf: ∀(i:Nat) b k,te[i]? =some b->ks[i]? =some k->a'.tmps[b]? =some (ez k 0)/\ ∃n cells ty,look pl.boxes b=some n/\e b= .agg cells/\w'.heap[k]? =some (.cells cells ty (0,0))/\cells.size=n/\ ¬X' k:=λi b k g1 g2=>by
   obtain⟨q1,q2⟩:=AG.2 (b,ez k 0) (ay (i:=i) (by rw[tI];exact⟨g1,by rw[cP,g2];rfl⟩));refine⟨q1,?_⟩;rcases q2 with q2|⟨n,k',cells,ty,q3,q4⟩
   ·obtain⟨⟨n,hn⟩,_⟩:=pj b (ay g1);rw[(tp q2).2.1] at hn;cases hn
   ·have:k=k':=by simpa [ez] using q3
    subst this;exact⟨n,cells,ty,q4⟩
  have SD: ∀(i:Nat) b,te[i]? =some b->dI (e b)=true:=λi b g1=>by
   obtain⟨k,g2,_⟩:=zj i b g1;obtain⟨_,_,cells,_,_,g4,_⟩:=pf i b k g1 g2;rw[g4];rfl
  have hkX: ∀k,k∈ks-> ¬X' k:=λk hm=>by
   obtain⟨i,g1⟩:=List.getElem?_of_mem hm;have pK:i<te.length:=by rw[<-tZ];exact(List.getElem?_eq_some_iff.1 g1).1
   obtain⟨_,_,_,_,_,_,_,_,g9⟩:=pf i _ k (aZ pK) g1;exact g9
  rw[<-hcg];refine(uG ks (te.map λb=>(e b).cells) ch w' tZ sQ arb (λi k cells g1 g2=>?_) (λi v cells g1 g2=>?_) (λi b n cells g1 g2 g3=>?_) λwa ho=>h7 wa (ho.kp h6 AG.1 hkX)).mono ?_
  ·rw[cP] at g2;obtain⟨b,g3,rfl⟩:=Option.map_eq_some_iff.1 g2;obtain⟨_,_,cells,ty,_,g4,g5,_⟩:=pf i b k g3 g1;rw[g4];exact⟨ty,g5⟩
  ·rw[cP] at g2;obtain⟨b,g3,rfl⟩:=Option.map_eq_some_iff.1 g2;obtain⟨hnw,hv⟩:=lV i b v g3 g1;rw[he b hnw,hv];rfl
  ·rw[cP,g1] at g3;simp only[aY,aj] at g3;obtain⟨k,g4,_⟩:=zj i b g1;obtain⟨_,n',ze,ty,q1,q2,q3,q4,_⟩:=pf i b k g1 g4;rw[g2] at q1;cases q1;rw[<-g3,q2];exact q4
  ·rintro e' u mq ⟨⟨x,rfl⟩,Io,v,hR,apc⟩
   show Leaves P fn a'.tmps R [] (settle u) mq
   rw[Io];exact⟨v,apc a'.tmps λi b k g1 g2=>(pf i b k g1 g2).1,hR⟩
 |exit i=>obtain⟨e,X',ey,h5,h6,_⟩:=hq;exact h6.elim
 |goto i=>obtain⟨e,X',ey,h5,h6,_⟩:=hq;exact h6.elim
 |outgrown=>exact hq.elim
theorem W7 (hR: ∀ch w,¬R (.panicked ch) w):noP R=R:=by
 funext e w
 cases e with
 |panicked ch=>exact propext ⟨False.elim,hR ch w⟩
 |returned v=>rfl
 |outgrown=>rfl
theorem OM (hR: ∀ch w,¬R (.panicked ch) w):FR R (λ_ _=>False)=R:=by
 funext e w
 cases e with
 |panicked ch=>exact propext ⟨False.elim,hR ch w⟩
 |returned v=>rfl
 |outgrown=>rfl
theorem Hu {F:XS} {w0:World} {Q:Value->World->Prop} (ch:List PanicEntry) (w:World): ¬uF F w0 Q (.panicked ch) w:=λ⟨_,he,_⟩=>by cases he
def ab1 {v:Value} (h:aK.fin R X w v):aK.fin (noP R) X w v:=λwa hk=>h wa hk
end Go.aK
namespace Go.aK
variable {P : Program} {R : Ending -> World -> Prop} {X : XS} {w : World} {m : Bool} {t : TypeId}
variable {N : Value -> World -> XS -> Prop}
theorem aiE {z:Value} (hX: ∀k,X k->k<w.heap.size) (hz:(P.info? t).bind (·.zero)=some z) (ho:one z=true)
  (n: ∀b w' X',w.heap.size<=b->ai X w X' w'->aG w' X' b [z] t->N (ptr b 0) w' X'):eV P R X w m (gd t true (.tuple #[])) N:=by
 intro wa hk;unfold jA;have Xi: ∀w,(zeroValue t).run P w= .ok z w:=by
  intro w;cases hi:P.info? t with
  |none=>grind
  |some inf=>
   have sK:inf.zero=some z:=by simpa [hi] using hz
   simp[zeroValue,typeInfo,hi,sK]
 have hc:z.cells= #[z]:=sL ho;have hr:(gd t true (.tuple #[])).run P wa= .ok (ptr wa.heap.size 0) (wa.alloc (.cells [z].toArray t)):=by simp[gd,Xi,newVar,newRow,hc]
 simp only[vS,bq,hr,aM,bQ];have hx:Ext wa (wa.alloc (.cells [z].toArray t)):=Ext.alloc _ _;exact⟨Step.eP hx,n _ _ _ hk.size (ai.eP hX hk hx) ⟨.inr ⟨au _,by simp⟩,by simpa using heap_alloc_new wa _⟩⟩
structure pN where
 p:World->XS->XS->Prop
 mv: ∀{w w':World} {K K' A A':XS},p w K A->Mv K w K' w'->Mv A w A' w'->p w' K' A'
abbrev Fi:=Nat->Nat
def bN (own:Fi) (c:Nat):XS:=λk=>own k=c
def gy (own:Fi):XS:=λk=>own k≠0/\own k≠4
def BY (own aI:Fi) (n0:Nat):Prop:= ∀k,k<n0->(own k=0->aI k=0)/\(own k=4->aI k=4)
theorem BY.refl (own:Fi) (n0:Nat):BY own own n0:=λ_ _=>⟨id,id⟩
structure Hs (F:Nat->pN) (w:World) (own:Fi):Prop where
 gK: ∀c,c≠0->c≠4->(F c).p w (bN own 4) (bN own c)
 lt: ∀k,own k≠0->k<w.heap.size
structure St (w0:World) (bZ:Fi) (w:World) (X:XS) (own:Fi) (F:Nat->pN):Prop where
 t:Ft w0 (gy bZ) w X (gy own)
 h:Hs F w own
 x: ∀k,own k≠0->X k
 e:BY bZ own w0.heap.size
def NQ {σ:Type} (dX:σ->Nat->pN) (own:Fi) (wa w':World) (P:Fi->σ->Prop):Prop:= ∃aI n',BY own aI wa.heap.size/\Hs (dX n') w' aI/\P aI n'
def QF:pN:=⟨λ_ _ _=>True,λ_ _ _=>trivial⟩
def puR (q:Prop):pN:=⟨λ_ _ _=>q,λh _ _=>h⟩
def XM (b:Nat) (cs:List Value) (t:TypeId):pN:=⟨λw _ A=>aG w A b cs t,λh _ m=>h.mv m⟩
def Y7 (e k:Nat) (v:Value) (rows:List (List Value)):pN:=⟨λw _ A=>Own w A 0 e k v rows,λh _ m=>h.mv m⟩
def CP (q:Prop) (r:pN):pN:=⟨λw K A=>q->r.p w K A,λh m m' hq=>r.mv (h hq) m m'⟩
variable {T b bytes e f kk o o' sz ty : Nat} {w : World} {X : XS} {P : Program} {R : Ending -> World -> Prop} {sv v v' : Value} {cs : List Value} {rows M3 dw : List (List Value)} {args : Array Value}
section
theorem sV {N:Value->Prop} {S fo:Nat} (hf:fieldInfo P S f=some (fo,sz)) (hz:(sz !=0)=true) (k:N (ptr b (o+fo))):aV P X w (iE S f fo sz (ptr b o)) N:=by
 unfold iE;exact GH hf (by simpa using hz) k
variable {w' wa w0 : World} {X' G N A' : XS} {own aI bZ : Fi} {F F' : Nat -> pN} {σ : Type} {dX : σ -> Nat -> pN} {n : σ} {i j : Nat}
def Hs.mv (h:Hs F w own) (hb: ∀k,own k≠0->w'.heap[k]? =w.heap[k]?) (hz:w.heap.size<=w'.heap.size):Hs F w' own:=
 ⟨λc h0 h4=>(F c).mv (h.gK c h0 h4) (λk (e:own k=4) _=>⟨e,hb k zQ⟩) λk (e:own k=c) _=>⟨e,hb k zQ⟩,λk hk=>aw (h.lt k hk) hz⟩
theorem Hs.kp (h:Hs F w own) (hX: ∀k,own k≠0->X k) (hk:Kp X w wa):Hs F wa own:=h.mv (λk ah=>hk.block k (hX k ah)) hk.size
def Hs.to (h:Hs F w own) (hf: ∀c,c≠0->c≠4-> ∀w K A,(F c).p w K A->(F' c).p w K A):Hs F' w own:=⟨λc h0 h4=>hf c h0 h4 _ _ _ (h.gK c h0 h4),h.lt⟩
theorem Hs.one (h:Hs F w own) (j:Nat) (hz:w.heap.size<=w'.heap.size) (hb: ∀k,own k≠0->own k≠j->w'.heap[k]? =w.heap[k]?) (hR:(F' j).p w' (bN own 4) (bN own j)) (hn: ∀c,c≠j-> ∀w K A,(F c).p w K A->(F' c).p w K A) (h4:j≠4:=by decide):Hs F' w' own:=by
 refine⟨λc c0 c4=>?_,λk hk=>aw (h.lt k hk) hz⟩;by_cases e:c=j
 ·subst e;exact hR
 ·exact hn c e _ _ _ ((F c).mv (h.gK c c0 c4) (λk (e4:own k=4) _=>⟨e4,hb k zQ zQ⟩) λk (e':own k=c) _=>⟨e',hb k zQ zQ⟩)
def St.init (h:Hs F w own) (hX: ∀k,own k≠0->X k) (hk:Kp X w wa):St wa own wa (bI wa) own F:=
 have h':=h.kp hX hk
 ⟨Ft.init λk ah=>h'.lt k ah.1,h',λk ah=>h'.lt k ah,BY.refl _ _⟩
theorem St.has (s:St w0 bZ w X own F): ∀k,X k->k<w.heap.size:=s.t.s.has
def St.rf (s:St w0 bZ w X own F):ai X w X w:=⟨Kp.refl _ _,λ_ h=>h,s.has⟩
def St.since (s:St w0 bZ w X own F) (hs:ai X w X' w'):St w0 bZ w' X' own F:=
 ⟨s.t.since hs,s.h.mv (λk hk=>hs.kp.block k (s.x k hk)) hs.kp.size,λk hk=>hs.sub k (s.x k hk),s.e⟩
def St.to (s:St w0 bZ w X own F) (hf: ∀c,c≠0->c≠4-> ∀w K A,(F c).p w K A->(F' c).p w K A):St w0 bZ w X own F':=⟨s.t,s.h.to hf,s.x,s.e⟩
theorem St.get (s:St w0 bZ w X own F) (c:Nat) (h0:c≠0:=by decide) (h4:c≠4:=by decide):(F c).p w (bN own 4) (bN own c):=s.h.gK c h0 h4
theorem St.sub (s:St w0 bZ w X own F) (c:Nat) (h0:c≠0:=by decide): ∀k,bN own c k->X k:=λk (e:own k=c)=>s.x k zQ
theorem St.zO (s:St w0 bZ w X own F) (c:Nat) (h0:c≠0:=by decide) (h4:c≠4:=by decide):(F c).p w X X:=(F c).mv (s.h.gK c h0 h4) (Mv.sub (s.sub 4)) (Mv.sub (s.sub c h0))
def St.fx (s:St w0 bZ w X own F):(∀k,gy own k->X k/\k<w.heap.size):=λk hk=>⟨s.x k hk.1,s.h.lt k hk.1⟩
theorem St.fxc (s:St w0 bZ w X own F) (c:Nat) (h0:c≠0:=by decide): ∀k,bN own c k->X k/\k<w.heap.size:=λk (e:own k=c)=>⟨s.x k zQ,s.h.lt k zQ⟩
theorem St.nw (s:St w0 bZ w X own F) {k:Nat} (hk:w.heap.size<=k):own k=0/\w0.heap.size<=k:=
 ⟨Classical.byContradiction λe=>by have:=s.h.lt k e;omega,ad s.t.s.kp.size hk⟩
theorem St.jO (s:St w0 bZ w X own F) (c:ee G X w X' w') (S:Nat->Prop) (hG: ∀k,G k->S (own k)) (h0: ¬S 0) (h4: ¬S 4) (hN: ∀k,N k->X' k/\own k=0/\w0.heap.size<=k)
  (hj:j≠0) (hS: ∀aI,(∀k,own k≠0->aI k=own k)->(∀k,N k->aI k=j)->Mv (bN own 4) w (bN aI 4) w'-> ∀c,S c->(F' c).p w' (bN aI 4) (bN aI c))
  (hn: ∀c,¬S c-> ∀K A,Mv (bN own 4) w K w'->(F c).p w' K A->(F' c).p w' K A): ∃aI,St w0 bZ w' X' aI F'/\Mv (bN own 4) w (bN aI 4) w'/\(∀k,¬N k->aI k=own k)/\ ∀k,N k->aI k=j:=by
 classical
 obtain⟨q,hq⟩: ∃q:Fi,q=λk=>if N k then j else own k:=⟨_,rfl⟩
 have e1: ∀k,N k->q k=j:=λk hk=>by rw[hq];exact if_pos hk
 have e2: ∀k,¬N k->q k=own k:=λk hk=>by rw[hq];exact if_neg hk
 have e3: ∀k,own k≠0->q k=own k:=λk hk=>e2 k λhn=>hk (hN k hn).2.1;have hx: ∀k,q k≠0->X' k:=λk hk=>by
  by_cases e:N k
  ·exact(hN k e).1
  ·rw[e2 k e] at hk;exact c.sub k (s.x k hk)
 have mv: ∀d,d≠0-> ¬S d->Mv (bN own d) w (bN q d) w':=λd hd hS k (hk:own k=d) _=>⟨(e3 k zQ).trans hk,c.block k (s.x k zQ) λhg=>hS (hk▸hG k hg)⟩;have m4:=mv 4 dQ h4;refine⟨q,⟨(s.t.dY (F':=gy own) c (λk hk=>⟨λe=>h0 (e▸hG k hk),λe=>h4 (e▸hG k hk)⟩) λ_ h=>.inl h).more λk hk=>?_,⟨λd d0 d4=>?_,λk hk=>?_⟩,hx,λk hk=>?_⟩,m4,e2,e1⟩
 ·by_cases e:N k
  ·exact .inr ⟨(hN k e).1,(hN k e).2.2⟩
  ·exact .inl ⟨by rw[<-e2 k e];exact hk.1,by rw[<-e2 k e];exact hk.2⟩
 ·by_cases hd:S d
  ·exact hS q e3 e1 m4 d hd
  ·exact hn d hd _ _ m4 ((F d).mv (s.h.gK d d0 d4) m4 (mv d d0 hd))
 ·exact c.has k (hx k hk)
 ·rw[e2 k λhn=>by have:=(hN k hn).2.2;omega];exact s.e k hk
def St.uW (s:St w0 bZ w X own F) (hN: ∀k,N k->X k/\own k=0/\w0.heap.size<=k): ∃aI,St w0 bZ w X aI F/\Mv (bN own 4) w (bN aI 4) w/\(∀k,¬N k->aI k=own k)/\ ∀k,N k->aI k=4:=
 s.jO (ee.nA s.rf nX) (λ_=>False) (λ_ h=>h) id id hN dQ (λ_ _ _ _ _ h=>h.elim) λ_ _ _ _ _ h=>h
theorem St.loc (s:St w0 bZ w X own F) (c:ee G X w X' w') (hG: ∀k,G k->own k=0/\w0.heap.size<=k):St w0 bZ w' X' own F:=by
 have h0: ∀k,own k≠0->w'.heap[k]? =w.heap[k]? :=λk hk=>c.block k (s.x k hk) λhg=>hk (hG k hg).1;exact⟨⟨s.t.s.dY c λk h h'=>by have:=(hG k h').2;have:=h.1;omega,λk hk=>c.sub k (s.t.bw k hk),s.t.v⟩,s.h.mv h0 c.size,λk hk=>c.sub k (s.x k hk),s.e⟩
theorem St.De (s:St w0 bZ w X own F) (j:Nat) (c:ee G X w X' w') (hG: ∀k,G k->own k=j) (A':XS) (hA: ∀k,A' k->own k=j\/(X' k/\w.heap.size<=k)) (hR: ∀K,Mv (bN own 4) w K w'->(F' j).p w' K A')
  (hn: ∀c,c≠j-> ∀w' K A,(F c).p w' K A->(F' c).p w' K A) (h0:j≠0:=by omega) (h4:j≠4:=by omega): ∃aI,St w0 bZ w' X' aI F'/\Mv (bN own 4) w (bN aI 4) w':=by
 obtain⟨aI,s',m,_⟩:=s.jO (F':=F') (j:=j) (N:=λk=>A' k/\own k≠j) c (· =j) hG h0.symm h4.symm (λk ⟨hk,hn⟩=>(hA k hk).elim (λe=>absurd e hn) λe=>⟨e.1,s.nw e.2⟩) h0
  (λaI e1 e2 m d hd=>by
   subst hd;exact(F' d).mv (hR _ m) (Mv.sub λ_ h=>h) (Mv.sub λk hk=>by
    by_cases e:own k=d
    ·exact(e1 k zQ).trans e
    ·exact e2 k ⟨hk,e⟩)) λc hc K A _=>hn c hc _ K A
 exact⟨aI,s',m⟩
theorem St.st {t:Nat} {N:Value->World->XS->Prop} (s:St w0 bZ w X own F) (i:Nat) (hr:aG w (bN own i) b cs ty) (F':Nat->pN) (LY:o'=o) (ht:(P.info? t).map (·.size)=some 1) (hl:o<cs.length) (h1:one v=true)
  (hR: ∀w' K A,aG w' A b (bO cs o [v]) ty->(F' i).p w' K A) (hn: ∀c,c≠i-> ∀w' K A,(F c).p w' K A->(F' c).p w' K A)
  (k: ∀w' X' aI,St w0 bZ w' X' aI F'->Mv (bN own 4) w (bN aI 4) w'->N undef w' X') (h0:i≠0:=by omega) (h4:i≠4:=by omega):eU P R X w true (st1 t 1 (ptr b o') v) N:=
 pM (o:=o) (hr.mono (s.sub i h0)) LY ht hl h1 s.has λw' X' c jP=>by
  obtain⟨aI,s',m⟩:=s.De (F':=F') i c (λk e=>by rw[show k=b from e];exact hr.1) (· =b) (λk e=>.inl (by rw[show k=b from e];exact hr.1)) (λK _=>hR w' K _ ⟨rfl,jP.2⟩) hn h0 h4;exact k w' X' aI s' m
theorem St.stN {t:Nat} {N:Value->World->XS->Prop} (s:St w0 bZ w X own F) (i:Nat) (hr:aG w (bN own i) b cs ty) (F':Nat->pN) (LY:o'=o) (ht:(P.info? t).map (·.size)=some sz) (hl:o+sz<=cs.length) (hv:v.cells.size=sz) (h1:v.cells.toList.all one=true)
  (hR: ∀w' K A,aG w' A b (bO cs o v.cells.toList) ty->(F' i).p w' K A) (hn: ∀c,c≠i-> ∀w' K A,(F c).p w' K A->(F' c).p w' K A)
  (k: ∀w' X' aI,St w0 bZ w' X' aI F'->Mv (bN own 4) w (bN aI 4) w'->N undef w' X') (h0:i≠0:=by omega) (h4:i≠4:=by omega):eU P R X w true (st1 t sz (ptr b o') v) N:=
 FI (o:=o) (hr.mono (s.sub i h0)) LY ht hl hv h1 s.has λw' X' c jP=>by
  obtain⟨aI,s',m⟩:=s.De (F':=F') i c (λk e=>by rw[show k=b from e];exact hr.1) (· =b) (λk e=>.inl (by rw[show k=b from e];exact hr.1)) (λK _=>hR w' K _ ⟨rfl,jP.2⟩) hn h0 h4;exact k w' X' aI s' m
theorem St.KJ (s:St w0 bZ w X own F) (S:Nat->Prop) (h0: ¬S 0) (hR: ∀c,S c-> ∀w K,(F' c).p w K λ_=>False) (hn: ∀c,¬S c-> ∀K A,(∀k,S (own k)->K k)->(F c).p w K A->(F' c).p w K A):
  ∃aI,St w0 bZ w X aI F'/\Mv (bN own 4) w (bN aI 4) w/\(∀k,S (own k)->aI k=4)/\ ∀k,¬S (own k)->aI k=own k:=by
 classical
 obtain⟨q,hq⟩: ∃q:Fi,q=λk=>if S (own k)then 4 else own k:=⟨_,rfl⟩
 have e1: ∀k,S (own k)->q k=4:=λk hk=>by rw[hq];exact if_pos hk
 have e2: ∀k,¬S (own k)->q k=own k:=λk hk=>by rw[hq];exact if_neg hk
 have en: ∀k,q k≠0->own k≠0:=λk hk e=>by
  by_cases h:S (own k)
  ·exact h0 (e▸h)
  ·exact hk ((e2 k h).trans e)
 have e4: ∀k,own k=4->q k=4:=λk hk=>by
  by_cases h:S (own k)
  ·exact e1 k h
  ·exact(e2 k h).trans hk
 refine⟨q,⟨s.t.less λk hk=>⟨en k hk.1,λe=>hk.2 (e4 k e)⟩,⟨λc c0 c4=>?_,λk hk=>s.h.lt k (en k hk)⟩,λk hk=>s.x k (en k hk),λk hk=>⟨λe=>?_,λe=>e4 k ((s.e k hk).2 e)⟩⟩,Mv.sub e4,e1,e2⟩
 ·by_cases h:S c
  ·exact(F' c).mv (hR c h w _) (Mv.sub λ_ h=>h) (Mv.sub λ_ h=>h.elim)
  ·exact hn c h _ _ e1 ((F c).mv (s.h.gK c c0 c4) (Mv.sub e4) (Mv.sub λk (e:own k=c)=>(e2 k (by rw[e];exact h)).trans e))
 ·have h:=(s.e k hk).1 e;exact(e2 k λh'=>h0 (h▸h')).trans h
theorem St.fs {k':Nat} {ty:TypeId} (s:St w0 bZ w X own F) (i j q:Nat) (c:ee G X w X' w') (hG: ∀k,G k->k=b\/v.ownBlock=some k) (hb:own b=i) (hv: ∀g,v.ownBlock=some g->own g=j)
  (hr:aG w' X' b cs ty) (ho:Own w' X' 0 e k' v' M3) (dF:v'.ownBlock=v.ownBlock\/ ∃g,v'.ownBlock=some g/\w.heap.size<=g) (F':Nat->pN)
  (hR: ∀K A,aG w' A b cs ty->(F' i).p w' K A) (hO: ∀K A,Own w' A 0 e k' v' M3->(F' j).p w' K A) (hQ: ∀K A,Mv (bN own 4) w K w'->(F q).p w' K A->(F' q).p w' K A)
  (hn: ∀c,(c≠i/\c≠j/\c≠q)-> ∀w' K A,(F c).p w' K A->(F' c).p w' K A) (hi:i≠0/\i≠4:=by omega) (hj:j≠0/\j≠4:=by omega):
  ∃aI,St w0 bZ w' X' aI F'/\Mv (bN own 4) w (bN aI 4) w':=by
 obtain⟨aI,s',m,_⟩:=s.jO (F':=F') (j:=j) (N:=λk=>v'.ownBlock=some k/\w.heap.size<=k) c (λc=>c=i\/c=j) (λk hk=>(hG k hk).imp (λe=>by rw[e];exact hb) (hv k))
  (λh=>h.elim (λe=>hi.1 e.symm) λe=>hj.1 e.symm) (λh=>h.elim (λe=>hi.2 e.symm) λe=>hj.2 e.symm) (λk hk=>⟨ho.2.2 k hk.1,s.nw hk.2⟩) hj.1
  (λaI e1 e2 m c hc=>by
   have PX:aI b=i:=(e1 b (by rw[hb];exact hi.1)).trans hb;have hvj: ∀g,v'.ownBlock=some g->aI g=j:=λg hg=>by
    rcases dF with h|⟨g',h,hl⟩
    ·have:=hv g (h▸hg);exact(e1 g (by rw[this];exact hj.1)).trans this
    ·exact e2 g ⟨hg,by rw[h] at hg;cases hg;exact hl⟩
   by_cases Cq:c=i
   ·subst Cq;exact hR _ _ ⟨PX,hr.2⟩
   ·have:c=j:=hc.elim (λe=>absurd e Cq) id;subst this;exact hO _ _ ⟨ho.1,ho.2.1,hvj⟩) λc hc K A m h=>by
   by_cases hq:c=q
   ·subst hq;exact hQ K A m h
   ·exact hn c ⟨λe=>hc (.inl e),λe=>hc (.inr e),hq⟩ _ _ _ h
 exact⟨aI,s',m⟩
theorem St.back {w1:World} {X1:XS} {N:World->XS->Prop} (s:St w0 bZ w X own F) (i j q:Nat) (hr:aG w (bN own i) b cs ty) (hv: ∀g,v.ownBlock=some g->own g=j) (c:ee (fc v) X w X1 w1)
  (ho:Own w1 X1 0 e kk v' M3) (dF:v'.ownBlock=v.ownBlock\/ ∃g,v'.ownBlock=some g/\w.heap.size<=g) (ht:(P.info? T).map (·.size)=some 1) (hl:o<cs.length) (F':Nat->pN)
  (hR: ∀w' K A,aG w' A b (bO cs o [v']) ty->(F' i).p w' K A) (hO: ∀w' K A,Own w' A 0 e kk v' M3->(F' j).p w' K A) (hQ: ∀w' K A,Mv (bN own 4) w K w'->(F q).p w' K A->(F' q).p w' K A)
  (hn: ∀c,(c≠i/\c≠j/\c≠q)-> ∀w' K A,(F c).p w' K A->(F' c).p w' K A) (k: ∀w' X' aI,St w0 bZ w' X' aI F'->Mv (bN own 4) w (bN aI 4) w'->N w' X') (yE:i≠j/\i≠0/\i≠4/\j≠0/\j≠4:=by omega):
  eU P R X1 w1 true (st1 T 1 (ptr b o) v') λ_ w' X'=>N w' X':=by
 have hb: ∀g,v'.ownBlock=some g->g≠b:=λg hg e=>by
  have hl:=hr.lt;have oO:own b=i:=hr.1;rcases dF with h|⟨g',h,AP⟩
  ·have:=hv g (h▸hg);rw[e] at this;omega
  ·rw[h] at hg;cases hg;omega
 have hX:X b:=s.x b (by rw[show own b=i from hr.1];omega);have Al: ¬fc v b:=λhg=>by have:=hv b hg;have:own b=i:=hr.1;omega
 refine pM (o:=o) (cs:=cs) (ty:=ty) ⟨c.sub b hX,(c.block b hX Al).trans hr.2⟩ rfl ht hl ho.sl.one c.has λw' X' c' jP=>?_;obtain⟨aI,s',m⟩:=s.fs (F':=F') i j q (G:=λk=>k=b\/v.ownBlock=some k) ((c.mono λk _ e=>.inr e).trans (c'.mono λk _ e=>.inl e)) (λ_ h=>h) hr.1 hv jP (ho.dY c' λg hg e=>hb g hg e) dF
  (λK A=>hR w' K A) (λK A=>hO w' K A) (λK A=>hQ w' K A) hn ⟨yE.2.1,yE.2.2.1⟩ yE.2.2.2
 exact k w' X' aI s' m
theorem St.ap1 {t:Nat} {N:World->XS->Prop} (s:St w0 bZ w X own F) (i j q:Nat) (hr:aG w (bN own i) b cs ty) (tV:Own w (bN own j) 0 e kk v rows) (src:Sl w X kk sv dw) (h1: ∀r∈dw,∀u∈r,one u=true) (hb:rows.length+dw.length<=2^36)
  (F':Value->Nat->pN) (hR: ∀v' w' K A,aG w' A b (bO cs o [v']) ty->(F' v' i).p w' K A) (hO: ∀v' w' K A,Own w' A 0 e kk v' (rows++dw)->(F' v' j).p w' K A) (hQ: ∀v' w' K A,Mv (bN own 4) w K w'->(F q).p w' K A->(F' v' q).p w' K A)
  (hn: ∀v' c,(c≠i/\c≠j/\c≠q)-> ∀w' K A,(F c).p w' K A->(F' v' c).p w' K A) (k: ∀v' w' X' aI,St w0 bZ w' X' aI (F' v')->Mv (bN own 4) w (bN aI 4) w'->N w' X')
  (he:nH P T e kk bytes=true:=by kernel_rfl) (hf:fieldInfo P t f=some (o,1):=by kernel_rfl) (ht:(P.info? T).map (·.size)=some 1:=by kernel_rfl) (FM:bytes<=2^10:=by decide) (hl:o<cs.length:=by exact Nat.le_of_ble_eq_true rfl) (yE:i≠j/\i≠0/\i≠4/\j≠0/\j≠4:=by omega):
  eV P R X w true (ga T e kk bytes T v sv) λx w' X'=>lK P X' w' (bu (ptr b 0)) λx1=>aV P X' w' (iE t f o 1 x1) λx2=>eU P R X' w' true (st1 T 1 x2 x) λ_ w' X'=>N w' X':=
 Ec (tV.mono (s.sub j zQ)) s.has (aq _) he src h1 (ad (xW hb FM) dQ) zQ λv' w1 X1 c ho dF=>IK (sV hf rfl (by
  rw[fg];exact s.back i j q hr (λg hg=>tV.2.2 g hg) c ho dF ht hl (F' v') (hR v') (hO v') (hQ v') (hn v') (k v') yE))
theorem St.ap2 {t z t2 f2 o2:Nat} {N:World->XS->Prop} (s:St w0 bZ w X own F) (i j q:Nat) (hr:aG w (bN own i) b cs ty) (tV:Own w (bN own j) 0 e kk v rows) (src:Sl w X kk sv dw) (h1: ∀r∈dw,∀u∈r,one u=true) (hb:rows.length+dw.length<=2^36)
  (F':Value->Nat->pN) (hR: ∀v' w' K A,aG w' A b (bO cs (o+o2) [v']) ty->(F' v' i).p w' K A) (hO: ∀v' w' K A,Own w' A 0 e kk v' (rows++dw)->(F' v' j).p w' K A) (hQ: ∀v' w' K A,Mv (bN own 4) w K w'->(F q).p w' K A->(F' v' q).p w' K A)
  (hn: ∀v' c,(c≠i/\c≠j/\c≠q)-> ∀w' K A,(F c).p w' K A->(F' v' c).p w' K A) (k: ∀v' w' X' aI,St w0 bZ w' X' aI (F' v')->Mv (bN own 4) w (bN aI 4) w'->N w' X')
  (he:nH P T e kk bytes=true:=by kernel_rfl) (hf:fieldInfo P t f=some (o,z):=by kernel_rfl) (hz:(z !=0)=true:=by rfl) (Es:fieldInfo P t2 f2=some (o2,1):=by kernel_rfl) (ht:(P.info? T).map (·.size)=some 1:=by kernel_rfl) (FM:bytes<=2^10:=by decide) (hl:o+o2<cs.length:=by exact Nat.le_of_ble_eq_true rfl) (yE:i≠j/\i≠0/\i≠4/\j≠0/\j≠4:=by omega):
  eV P R X w true (ga T e kk bytes T v sv) λx w' X'=>lK P X' w' (bu (ptr b 0)) λx1=>aV P X' w' (iE t f o z x1) λx2=>aV P X' w' (iE t2 f2 o2 1 x2) λx3=>eU P R X' w' true (st1 T 1 x3 x) λ_ w' X'=>N w' X':=
 Ec (tV.mono (s.sub j zQ)) s.has (aq _) he src h1 (ad (xW hb FM) dQ) zQ λv' w1 X1 c ho dF=>IK (sV hf hz (sV Es rfl (by
  rw[fg];exact s.back i j q hr (λg hg=>tV.2.2 g hg) c ho dF ht hl (F' v') (hR v') (hO v') (hQ v') (hn v') (k v') yE)))
theorem St.aho {t fi:Nat} {N:World->XS->Prop} {f:FuncId} (s:St w0 bZ w X own F) (i j q:Nat) (hr:aG w (bN own i) b cs ty) (tV:Own w (bN own j) 0 e kk v rows)
  (hc:Ct P f args w X (fc v) λv' _ w'=>Own w' (fc v) 0 e kk v' M3/\v'.ownBlock=v.ownBlock) (F':Value->Nat->pN) (hR: ∀v' w' K A,aG w' A b (bO cs o [v']) ty->(F' v' i).p w' K A) (hO: ∀v' w' K A,Own w' A 0 e kk v' M3->(F' v' j).p w' K A) (hQ: ∀v' w' K A,Mv (bN own 4) w K w'->(F q).p w' K A->(F' v' q).p w' K A)
  (hn: ∀v' c,(c≠i/\c≠j/\c≠q)-> ∀w' K A,(F c).p w' K A->(F' v' c).p w' K A) (k: ∀v' w' X' aI,St w0 bZ w' X' aI (F' v')->Mv (bN own 4) w (bN aI 4) w'->N w' X')
  (he:enters P f=true:=by kernel_rfl) (hf:fieldInfo P t fi=some (o,1):=by kernel_rfl) (ht:(P.info? T).map (·.size)=some 1:=by kernel_rfl) (hl:o<cs.length:=by exact Nat.le_of_ble_eq_true rfl) (yE:i≠j/\i≠0/\i≠4/\j≠0/\j≠4:=by omega):
  eC P R X w true f args λx w' X'=>lK P X' w' (bu (ptr b 0)) λx1=>aV P X' w' (iE t fi o 1 x1) λx2=>eU P R X' w' true (st1 T 1 x2 x) λ_ w' X'=>N w' X':=
 yR hc he s.has (λk hk=>s.sub j zQ k (tV.2.2 k hk)) λv' wa w1 X1 ⟨ho,dF⟩ _ _ _ c=>IK (sV hf rfl (by
  rw[fg];exact s.back i j q hr (λg hg=>tV.2.2 g hg) c (ho.mono λk hk=>c.sub k (s.sub j zQ k (tV.2.2 k hk))) (.inl dF) ht hl (F' v') (hR v') (hO v') (hQ v') (hn v') (k v') yE))
theorem St.next (s:St w0 bZ w X own F) (c:ee G X w X' w') (hG: ∀k,G k->gy own k) (h':Hs F' w' aI) (e:BY own aI w.heap.size) (hx: ∀k,aI k≠0->w.heap.size<=k->X' k):St w0 bZ w' X' aI F':=by
 have AK: ∀k,aI k≠0->X' k:=λk hk=>by
  by_cases hl:k<w.heap.size
  ·exact c.sub k (s.x k λe0=>hk ((e k hl).1 e0))
  grind
 refine⟨s.t.dY c hG λk hk=>?_,h',AK,λk hk=>?_⟩
 ·by_cases hl:k<w.heap.size
  ·exact .inl ⟨λe0=>hk.1 ((e k hl).1 e0),λe0=>hk.2 ((e k hl).2 e0)⟩
  ·exact .inr ⟨AK k hk.1,by omega⟩
 ·have h1:=s.e k hk;have h2:=e k (aw hk s.t.s.kp.size)
  grind
def St.m4 (s:St w0 bZ w X own F) (c:ee G X w X' w') (hG: ∀k,G k->gy own k) (e:BY own aI w.heap.size):Mv (bN own 4) w (bN aI 4) w':=λk (hk:own k=4) hl=>⟨(e k hl).2 hk,c.block k (s.x k zQ) λh=>(hG k h).2 hk⟩
variable {f : FuncId}
theorem St.XJ {n':σ} (s:St w0 bZ w X own F) (hle:w.heap.size<=wa.heap.size) (gn: ∀k,made wa w' k->X' k) (c:ee (gy own) X w X' w') (e:BY own aI wa.heap.size) (h':Hs (dX n') w' aI):St w0 bZ w' X' aI (dX n')/\Mv (bN own 4) w (bN aI 4) w':=
 ⟨s.next c (λ_ h=>h) h' (λk hk=>e k (aw hk hle)) λk hk hl=>by
   by_cases AP:k<wa.heap.size
   ·exact absurd ((e k AP).1 (s.nw hl).1) hk
   ·exact gn k ⟨by omega,h'.lt k hk⟩,s.m4 c (λ_ h=>h) λk hk=>e k (aw hk hle)⟩
def St.call {N:Value->World->XS->Prop} {Q:Value->World->Fi->σ->Prop} (s:St w0 bZ w X own F) (h:Ct P f args w X (gy own) λv wa w'=>NQ dX own wa w' (Q v w')) (hf:enters P f=true)
  (k: ∀v w' X' aI n',St w0 bZ w' X' aI (dX n')->Q v w' aI n'->Mv (bN own 4) w (bN aI 4) w'->N v w' X'):eC P R X w true f args N:=
 s.t.call h hf (λ_ h=>h) λv wa w' X' ⟨aI,n',e,h',q⟩ hle gn _ c=>k v w' X' aI n' (s.XJ hle gn c e h').1 q (s.XJ hle gn c e h').2
def St.fin {Q:Value->World->Fi->σ->Prop} (s:St w0 bZ w X own (dX n)) (hq: ∀wa,Kp X w wa->Q v wa own n):aK.fin (uF (gy bZ) w0 λv w'=>NQ dX bZ w0 w' (Q v w')) X w v:=
 s.t.fin λwa hk=>⟨own,n,s.e,s.h.kp s.x hk,hq wa hk⟩
def St.xO {Q:Value->World->Fi->σ->Prop} {QP:List PanicEntry->World->Prop} (s:St w0 bZ w X own (dX n)) (hq: ∀wa,Kp X w wa->Q v wa own n):aK.fin (ES (gy bZ) w0 (λv w'=>NQ dX bZ w0 w' (Q v w')) QP) X w v:=
 s.t.xO λwa hk=>⟨own,n,s.e,s.h.kp s.x hk,hq wa hk⟩
end
end Go.aK
namespace Go.aK
variable {P : Program} {R : Ending -> World -> Prop} {X : XS} {w : World} {m : Bool}
variable {N : Value -> Prop} {i : Nat} {z : Int} {s : ByteArray} {t : TypeId}
theorem alR (hz:z=i) (hi:i<=s.size) (ht:P.underlying t=some .string) (k:N (.string (s.extract 0 i))):
  aV P X w (bJ t (.string s) none (some (.int .i64 z)) none) N:=by
 subst hz;refine bF (λwa=>?_) k;rw[run_sliceAt_string wa t _ _ _ _ ht,run_slice_string_h wa t s ht .i64 i zQ zQ];rfl
theorem alS (hz:z=i) (hi:i<=s.size) (ht:P.underlying t=some .string) (k:N (.string (s.extract i s.size))):
  aV P X w (bJ t (.string s) (some (.int .i64 z)) none none) N:=by
 subst hz;refine bF (λwa=>?_) k;rw[run_sliceAt_string wa t _ _ _ _ ht,run_slice_string_l wa t s ht .i64 i zQ zQ];rfl
def uZ (s:ByteArray):List Nat:=s.data.toList.map UInt8.toNat
theorem Iu (s:ByteArray):(uZ s).length=s.size:=by unfold uZ;simp_all
theorem aka {x:Nat} (h:x∈uZ s):x<256:=by
 obtain⟨b,_,rfl⟩:=List.mem_map.1 h;exact UInt8.toNat_lt b
theorem afg {src dst e:TypeId} {N:Value->World->XS->Prop} (hX: ∀k,X k->k<w.heap.size) (hl:s.size<=2^62) (hs:P.underlying src=some .string) (hd:P.underlying dst=some (.slice e)) (he:P.underlying e=some (.int .u8))
  (n: ∀v w' X',ai X w X' w'->Sl w' X' 1 v ((uZ s).map λx:Nat=>[.int .u8 (x:Int)])->N v w' X'):eV P R X w m (convert src dst (.string s)) N:=by
 unfold eV eW;intro wa hk;unfold jA;have hr:=run_bytes_of_string (P:=P) wa src dst e s hs hd he;simp only[vS,bq,hr,aM,bQ];generalize hC:bytesRow s (grownCap wa s.size 0 e)=C;have hblk: ∀k,k<wa.heap.size->(wa.drew.alloc (.cells C e (C.size,C.size+1))).heap[k]? =wa.heap[k]? :=λk hk=>heap_alloc_old wa.drew _ hk;have hx:Ext wa (wa.drew.alloc (.cells C e (C.size,C.size+1))):=⟨rfl,rfl,rfl,by simp,λk tZ _=>hblk k tZ⟩;have dD:=grownCap_ge wa s.size 0 e;have iF:grownCap wa s.size 0 e<=maxLen:=grownCap_le_maxLen wa _ 0 e (by simp only[maxLen];omega);refine⟨Step.eP hx,n _ _ _ (ai.eP hX hk hx) ?_⟩;have hlen:((uZ s).map λx:Nat=>[az .u8 (x:Int)]).length=s.size:=by rw[af,Iu]
 refine⟨λr hr=>?_,by omega,_,_,by rw[hlen],λ_=>⟨wa.heap.size,0,rfl,.inr ⟨au _,by simp⟩,C,e,_,heap_alloc_new wa.drew _,λj v hj=>?_⟩,by simp,by omega,iF⟩
 ·obtain⟨x,_,rfl⟩:=List.mem_map.1 hr;rfl
 ·have hf:((uZ s).map λx:Nat=>[az .u8 (x:Int)]).flatten=(uZ s).map λx:Nat=>az .u8 (x:Int):=by
   generalize uZ s=l
   induction l with
   |nil=>rfl
   |cons a l ih=>simp only[bB,dd,List.singleton_append,ih]
  rw[hf,cP] at hj;rw[<-hC,fg];unfold bytesRow;have gh:j<s.data.size:=by
   cases hq:(uZ s)[j]? with
   |none=>rw[hq] at hj;cases hj
   |some x=>
    have:=(List.getElem?_eq_some_iff.1 hq).1;rw[Iu] at this;exact this
  rw[kD (by rw[Array.size_map];omega),Array.getElem?_map];unfold uZ at hj;rw[cP,mY] at hj;rw[<-hj];cases s.data[j]? <;>rfl
structure Two (A B:Prop):Prop where
 a:A
 b:B
variable {A B p : Prop}
def q0t (h:A->B->p):Two A B->p:=λt=>h t.a t.b
def cM (a:A) (b:B):Two A B:=⟨a,b⟩
variable {q : Prop}
theorem q0b (h:q->p:=by first|(intro q9;first|(with_reducible first|apply abI|apply Sp|apply XV|apply HP|apply akJ|apply aij|apply Fb|apply akK|apply YM|apply aik|apply ag5|apply ag6|apply Tx|apply ae5|apply amS|apply Kr|apply Ks|apply alq|apply apK|apply aoh|apply ajk|apply XU|apply afo|apply IK|apply akO|apply aoV);exact q9|(with_reducible apply akI);(case k=>exact q9);(· rfl)|(with_reducible apply aoT);(case k=>exact q9);(· exact qN)|(with_reducible apply aoU);(case k=>exact q9);(· exact qN)|(with_reducible apply Q8);(case k=>exact q9);(· exact qF);(· kernel_rfl);(· rfl)|(with_reducible apply aoQ);(case k=>exact q9);(· exact qF);(· kernel_rfl);(· rfl);(· exact qN)|(with_reducible apply aef);(case k=>exact q9);(· exact qF);(· exact qM);(· kernel_rfl);(· rfl)|(with_reducible apply acJ);(case k=>exact q9);(· exact qF);(· exact qM);(· kernel_rfl);(· rfl)|(with_reducible apply aoR);(case n=>exact q9);(· exact qO);(· kernel_rfl)|(with_reducible apply aoS);(case n=>exact q9);(· assumption);(· kernel_rfl)|(with_reducible apply aoP);(case k=>exact q9);(· kernel_rfl)|(with_reducible apply ajG);(case n=>exact q9);(· exact qO);(try (case hz=>rfl));(case hr=>first|assumption|(clear q9;exact List.getElem?_eq_getElem (by omega)));(try (case hz=>omega));(case ht=>kernel_rfl);(case hs=>kernel_rfl)|(with_reducible apply aed);(case k=>exact q9);(· kernel_rfl)|(with_reducible apply ajr);(case h=>exact q9);(· rfl)|(with_reducible apply akP);(case k=>exact q9);(· kernel_rfl)|(with_reducible apply akQ);(case k=>exact q9);(· kernel_rfl)|(with_reducible apply ann);(case k=>exact q9);(· kernel_rfl)|(with_reducible apply ano);(case k=>exact q9);(· kernel_rfl)|(with_reducible apply ani);(case k=>exact q9);(case h=>exact qE)|(with_reducible apply anj);(case k=>exact q9);(case h=>exact qE)|(with_reducible apply ad7);(case k=>exact q9);(· exact qC)|(with_reducible apply ajF);(case h=>exact q9);(· omega);(· omega)|(with_reducible apply aoN);(case h=>exact q9);(· omega);(· omega)|(with_reducible apply aeg);(case h=>exact q9);(· kernel_rfl);(· kernel_rfl)|(with_reducible apply aoW);(case h=>exact q9);(· kernel_rfl);(· kernel_rfl)|(with_reducible apply aoZ);(case k=>exact q9);(try (case hz=>rfl));(case hb=>assumption);(try (case hz=>omega));(case ht=>kernel_rfl)|(with_reducible apply aoX);(case k=>exact q9);(· kernel_rfl);(· kernel_rfl);(try (case hz=>rfl));(case hn=>omega);(case hl=>rfl)|(with_reducible apply anm);(case k=>exact q9);(case hf=>kernel_rfl);(case hg=>kernel_rfl);(case hlen=>rfl);(case hl=>exact qN)|(with_reducible apply ao0);(case h=>exact q9);(· rfl)|fail)|(apply q0t;intro a9 b9;first|(with_reducible first|apply ad8|apply aeb|apply aec|apply ajE|apply ad9|apply aea|apply am4|apply am5|apply am6|apply am7|apply am8|apply am9|apply ana|apply anb|apply anc|apply ane|apply anf|apply ang|apply ajZ);(· exact a9);exact b9|(with_reducible apply anh);(case hT=>exact a9);(case hF=>exact b9);(· exact qO);(· kernel_rfl)|fail)|fail):q->p:=h
theorem q0d (h:q->p:=by intro q9;first|(with_reducible refine amT ?_ ?_);rotate_left;exact q9;omega|(with_reducible refine amU ?_ ?_);rotate_left;exact q9;omega|(with_reducible refine am0 ?_ ?_);rotate_left;exact q9;omega|(with_reducible refine am1 ?_ ?_);rotate_left;exact q9;omega|(with_reducible refine am2 ?_ ?_);rotate_left;exact q9;omega|(with_reducible refine am3 ?_ ?_);rotate_left;exact q9;omega|(with_reducible refine amV ?_ ?_);rotate_left;exact q9;omega|(with_reducible refine amW ?_ ?_);rotate_left;exact q9;omega|(with_reducible refine amX ?_ ?_);rotate_left;exact q9;omega|(with_reducible refine amY ?_ ?_);rotate_left;exact q9;omega|(with_reducible refine amZ ?_ ?_);rotate_left;exact q9;omega|fail):q->p:=h
theorem ak (k:q) (h:q->p:=by exact q0b):p:=h k
theorem aJ (k:q) (h:q->p:=by first|exact q0d|exact q0b|fail):p:=h k
variable {P : Program} {R : Ending -> World -> Prop} {X : XS} {w w0 : World} {b m : Bool} {v : Value} {l : List Value}
section
variable {X0 : XS} {f : FuncId} {args : Array Value} {N : Value -> World -> XS -> Prop} {t e k : Nat}
theorem px (h:Pure P f args v) (hs:ai X0 w0 X w) (n: ∀w' X',ai X0 w0 X' w'->N v w' X') (hf:enters P f=true:=by kernel_rfl):eC P R X w m f args N:=rL h hf hs.has λw' X' h1=>n w' X' (hs.trans h1)
theorem j5 (h:Pure P f args (.bool b)) (hs:ai X0 w0 X w) (hT:b=true-> ∀w' X',ai X0 w0 X' w'->N (.bool true) w' X') (hF:b=false-> ∀w' X',ai X0 w0 X' w'->N (.bool false) w' X') (hf:enters P f=true:=by kernel_rfl):eC P R X w m f args N:=MV h hf hs.has (λhb w' X' h1=>hT hb w' X' (hs.trans h1)) λhb w' X' h1=>hF hb w' X' (hs.trans h1)
theorem qk (h:Ct P f args w X nX λv _ _=>v= .bool b) (hs:ai X0 w0 X w) (hT:b=true-> ∀w' X',ai X0 w0 X' w'->N (.bool true) w' X') (hF:b=false-> ∀w' X',ai X0 w0 X' w'->N (.bool false) w' X') (hf:enters P f=true:=by kernel_rfl):eC P R X w m f args N:=Ht h hf hs.has (λhb w' X' h1=>hT hb w' X' (hs.trans h1)) λhb w' X' h1=>hF hb w' X' (hs.trans h1)
theorem UE {u:Value} (h:Ct P f args w X nX λv _ _=>v=u) (hs:ai X0 w0 X w) (n: ∀w' X',ai X0 w0 X' w'->N u w' X') (hf:enters P f=true:=by kernel_rfl):eC P R X w m f args N:=dL h hf hs.has λw' X' h1=>n w' X' (hs.trans h1)
theorem xR (h:Ct P f args w X nX λv _ _=> ∃n:Int,v= .int .i64 n) (hs:ai X0 w0 X w) (n: ∀(z:Int) w' X',ai X0 w0 X' w'->N (.int .i64 z) w' X') (hf:enters P f=true:=by kernel_rfl):eC P R X w m f args N:=ank h hf hs.has λz w' X' h1=>n z w' X' (hs.trans h1)
theorem q1e (hs:ai X0 w0 X w) (n: ∀a b c w' X',ai X0 w0 X' w'->Own w' X' w.heap.size e k (.slice a b c) [l]->N (.slice a b c) w' X') (he:MX P t e k=true:=by kernel_rfl) (hk:(l.length==k)=true:=by rfl):eV P R X w m (gO t e k 1 #[(0,.agg l.toArray)]) N:=
 Qd hs.has he hk λv w' X' h1 ho=>by
  obtain⟨_,_,_,rfl⟩:=ho.sl.form;exact n _ _ _ w' X' (hs.trans h1) ho
theorem q1s {x:Value} (hs:ai X0 w0 X w) (n: ∀a b c w' X',ai X0 w0 X' w'->Own w' X' w.heap.size e k (.slice a b c) [[x]]->N (.slice a b c) w' X') (he:MX P t e k=true:=by kernel_rfl) (ho:one x=true:=by first|rfl|assumption) (hk:(k==1)=true:=by rfl):eV P R X w m (gO t e k 1 #[(0,x)]) N:=
 WX hs.has he ho hk λv w' X' h1 ho=>by
  obtain⟨_,_,_,rfl⟩:=ho.sl.form;exact n _ _ _ w' X' (hs.trans h1) ho
theorem Qu (hs:ai X0 w0 X w) (n: ∀v w' X',ai X0 w0 X' w'->Own w' X' w.heap.size e k v []->N v w' X') (hu:P.underlying t=some (.slice e):=by kernel_rfl) (hz:(P.info? e).map (·.size)=some k:=by kernel_rfl):eV P R X w m (gO t e k 0 #[]) N:=
 acQ hs.has hu hz λv w' X' h1 ho=>n v w' X' (hs.trans h1) ho
def NV (hs:ai X0 w0 X w) (n: ∀b w' X',w.heap.size<=b->ai X w X' w'->ai X0 w0 X' w'->ai X' w' X' w'->aG w' X' b l t->N (ptr b 0) w' X'):eV P R X w m (bW t (.agg l.toArray)) N:=
 AZ hs.has λb w' X' hb h1 hr=>n b w' X' hb h1 (hs.trans h1) (ai.eQ h1.has) hr
theorem q1x (hs:ai X0 w0 X w) (n: ∀b w' X',w.heap.size<=b->ai X w X' w'->ai X0 w0 X' w'->ai X' w' X' w'->aG w' X' b [v] t->N (ptr b 0) w' X') (ho:one v=true:=by rfl):eV P R X w m (bW t v) N:=
 sP ho hs.has λb w' X' hb h1 hr=>n b w' X' hb h1 (hs.trans h1) (ai.eQ h1.has) hr
end
theorem qr {Q:Value->World->Prop} (h: ∀wa,Kp X w wa->Q v wa) (hs:ai (bI w0) w0 X w:=by first|exact hs|exact fv.trans hs):fin (uF nX w0 Q) X w v:=bM hs h
end Go.aK
namespace Go.Proofs.YtgfijddlkhkopaaGreat
open Go.Proofs.Tryz renaming prog → pg
open Go.aK
set_option maxRecDepth 100000
set_option maxHeartbeats 4000000
abbrev BA:=ByteArray
@[ext] structure cx where
 wall:Int
 dC:Int
 node:Int
 deriving DecidableEq
abbrev cx.l (s:cx):List Value:=[I s.wall,I s.dC,I s.node]
abbrev cx.v (s:cx):Value:=.agg #[I s.wall,I s.dC,I s.node]
abbrev cx.zero:cx:=⟨0,0,0⟩
@[ext] structure bL where
 eh:Int
 aW:Int
 sq:Int
 deriving DecidableEq
abbrev bL.l (s:bL):List Value:=[I s.eh,I s.aW,I s.sq]
abbrev bL.v (s:bL):Value:=.agg #[I s.eh,I s.aW,I s.sq]
abbrev bL.zero:bL:=⟨0,0,0⟩
@[ext] structure gL where
 kind:Int
 num:Nat
 text:BA
 deriving DecidableEq
abbrev gL.l (x:gL):List Value:=[I x.kind,.float .f64 x.num,.string x.text]
abbrev gL.v (x:gL):Value:=.agg #[I x.kind,.float .f64 x.num,.string x.text]
abbrev gL.zero:gL:=⟨0,0,⟨#[]⟩⟩
@[ext] structure KV where
 key:BA
 val:gL
 deriving DecidableEq
abbrev KV.l (x:KV):List Value:=[.string x.key,I x.val.kind,.float .f64 x.val.num,.string x.val.text]
abbrev KV.v (x:KV):Value:=.agg #[.string x.key,I x.val.kind,.float .f64 x.val.num,.string x.val.text]
abbrev S1 (x:BA):List Value:=[.string x]
abbrev I1 (x:Int):List Value:=[I x]
@[ext] structure pz where
 aS:cx
 val:gL
 deriving DecidableEq
abbrev pz.l (x:pz):List Value:=[I x.aS.wall,I x.aS.dC,I x.aS.node,I x.val.kind,.float .f64 x.val.num,.string x.val.text]
@[ext] structure ku where
 key:BA
 mI:List pz
 deriving DecidableEq
abbrev ku.l (h:ku) (vv:Value):List Value:=[.string h.key,vv]
def ku.rd (w:World) (X:XS) (l:List Value) (h:ku):Prop:= ∃vv,l=h.l vv/\Sl w X 6 vv (h.mI.map pz.l)
@[ext] structure gu where
 aO:bL
 aS:cx
 reads:List BA
 writes:List KV
 deriving DecidableEq
abbrev gu.l (p:gu) (vr vw:Value):List Value:=[I p.aO.eh,I p.aO.aW,I p.aO.sq,I p.aS.wall,I p.aS.dC,I p.aS.node,vr,vw]
abbrev gu.v (p:gu) (vr vw:Value):Value:=.agg #[I p.aO.eh,I p.aO.aW,I p.aO.sq,I p.aS.wall,I p.aS.dC,I p.aS.node,vr,vw]
def gu.rd (w:World) (X:XS) (l:List Value) (p:gu):Prop:= ∃vr vw,l=p.l vr vw/\Sl w X 1 vr (p.reads.map S1)/\Sl w X 4 vw (p.writes.map KV.l)
@[ext] structure dR where
 id:Int
 iD:Int
 lo:Nat
 hi:Nat
 deriving DecidableEq
abbrev dR.l (r:dR):List Value:=[I r.id,I r.iD,.float .f64 r.lo,.float .f64 r.hi]
abbrev dR.v (r:dR):Value:=.agg #[I r.id,I r.iD,.float .f64 r.lo,.float .f64 r.hi]
@[ext] structure State where
 range:dR
 floor:cx
 closed:cx
 iz:List ku
 gX:List gu
 deriving DecidableEq
abbrev State.l (s:State) (vh vp:Value):List Value:=[I s.range.id,I s.range.iD,.float .f64 s.range.lo,.float .f64 s.range.hi,
 I s.floor.wall,I s.floor.dC,I s.floor.node,I s.closed.wall,I s.closed.dC,I s.closed.node,vh,vp]
abbrev State.v (s:State) (vh vp:Value):Value:=.agg #[I s.range.id,I s.range.iD,.float .f64 s.range.lo,.float .f64 s.range.hi,
 I s.floor.wall,I s.floor.dC,I s.floor.node,I s.closed.wall,I s.closed.dC,I s.closed.node,vh,vp]
abbrev qy (w:World) (X:XS) (v:Value) (l:List ku):Prop:=fp w X 2 v ku.rd l
abbrev qx (w:World) (X:XS) (v:Value) (l:List gu):Prop:=fp w X 8 v gu.rd l
def State.rd (w:World) (X:XS) (l:List Value) (s:State):Prop:= ∃vh vp,l=s.l vh vp/\qy w X vh s.iz/\qx w X vp s.gX
@[ext] structure Rec where
 kind:Int
 aO:bL
 aS:cx
 prev:cx
 jF:Bool
 n:Int
 rV:Nat
 reads:List BA
 writes:List KV
 parts:List Int
 wV:List KV
 state:State
 deriving DecidableEq
abbrev Rec.l (r:Rec) (vr vw vp vq vh vd:Value):List Value:=[I r.kind,I r.aO.eh,I r.aO.aW,I r.aO.sq,I r.aS.wall,I r.aS.dC,I r.aS.node,
 I r.prev.wall,I r.prev.dC,I r.prev.node,B r.jF,I r.n,.float .f64 r.rV,vr,vw,vp,vq,I r.state.range.id,I r.state.range.iD,.float .f64 r.state.range.lo,.float .f64 r.state.range.hi,
 I r.state.floor.wall,I r.state.floor.dC,I r.state.floor.node,I r.state.closed.wall,I r.state.closed.dC,I r.state.closed.node,vh,vd]
abbrev Rec.v (r:Rec) (vr vw vp vq vh vd:Value):Value:=.agg #[I r.kind,I r.aO.eh,I r.aO.aW,I r.aO.sq,I r.aS.wall,I r.aS.dC,I r.aS.node,
 I r.prev.wall,I r.prev.dC,I r.prev.node,B r.jF,I r.n,.float .f64 r.rV,vr,vw,vp,vq,I r.state.range.id,I r.state.range.iD,.float .f64 r.state.range.lo,.float .f64 r.state.range.hi,
 I r.state.floor.wall,I r.state.floor.dC,I r.state.floor.node,I r.state.closed.wall,I r.state.closed.dC,I r.state.closed.node,vh,vd]
def Rec.at (w:World) (X:XS) (r:Rec) (vr vw vp vq vh vd:Value):Prop:=
 Sl w X 1 vr (r.reads.map S1)/\Sl w X 4 vw (r.writes.map KV.l)/\Sl w X 1 vp (r.parts.map I1)/\Sl w X 4 vq (r.wV.map KV.l)/\qy w X vh r.state.iz/\qx w X vd r.state.gX
def Rec.rd (w:World) (X:XS) (l:List Value) (r:Rec):Prop:= ∃vr vw vp vq vh vd,l=r.l vr vw vp vq vh vd/\r.at w X vr vw vp vq vh vd
@[ext] structure fe where
 key:BA
 val:gL
 aS:cx
 deriving DecidableEq
abbrev fe.l (x:fe):List Value:=[.string x.key,I x.val.kind,.float .f64 x.val.num,.string x.val.text,I x.aS.wall,I x.aS.dC,I x.aS.node]
@[ext] structure cO where
 kind:Int
 fr:Int
 to:Int
 aO:bL
 range:Int
 iD:Int
 code:Int
 aS:cx
 prev:cx
 jF:Bool
 n:Int
 mx:Int
 keys:List BA
 seen:List fe
 writes:List KV
 parts:List Int
 ranges:List dR
 bt:List Rec
 state:State
 deriving DecidableEq
abbrev cO.l (m:cO) (vk vs vw vp vr vc vh vd:Value):List Value:=[I m.kind,I m.fr,I m.to,I m.aO.eh,I m.aO.aW,I m.aO.sq,I m.range,I m.iD,I m.code,
 I m.aS.wall,I m.aS.dC,I m.aS.node,I m.prev.wall,I m.prev.dC,I m.prev.node,B m.jF,I m.n,I m.mx,vk,vs,vw,vp,vr,vc,
 I m.state.range.id,I m.state.range.iD,.float .f64 m.state.range.lo,.float .f64 m.state.range.hi,
 I m.state.floor.wall,I m.state.floor.dC,I m.state.floor.node,I m.state.closed.wall,I m.state.closed.dC,I m.state.closed.node,vh,vd]
abbrev cO.v (m:cO) (vk vs vw vp vr vc vh vd:Value):Value:=.agg #[I m.kind,I m.fr,I m.to,I m.aO.eh,I m.aO.aW,I m.aO.sq,I m.range,I m.iD,I m.code,
 I m.aS.wall,I m.aS.dC,I m.aS.node,I m.prev.wall,I m.prev.dC,I m.prev.node,B m.jF,I m.n,I m.mx,vk,vs,vw,vp,vr,vc,
 I m.state.range.id,I m.state.range.iD,.float .f64 m.state.range.lo,.float .f64 m.state.range.hi,
 I m.state.floor.wall,I m.state.floor.dC,I m.state.floor.node,I m.state.closed.wall,I m.state.closed.dC,I m.state.closed.node,vh,vd]
section
variable (R : Ending -> World -> Prop) (w0 : World) (X0 : XS)
noncomputable def SI:gx:=⟨43,[],[],[0,2,3,4,5,7,8,9,12,26,40],[35,36,37,38,39],[]⟩
def HI (p0:Value):Prop:=
 eV pg nP X0 w0 true (gd 73 true (dr #[])) λa b c=>
 eV pg nP c b true (gd 37 true (dr #[])) λd e g=>
 (aV pg g e (cC (Fn.func 132) #[] #[a,d]) λh=>
 (aV pg g e (kZ 151 3 p0) λi=>
 aV pg g e (binOp .gtr 3 i (I 262144)) λj=>
 (me j
 (aV pg g e (rF 73 #[(I 0),(I 0),(I 0),(I 0),(I 0),(I 0),(I 0),(I 0),(I 0),(I 0),(B false),(I 0),(.float .f64 0),(.slice none 0 0),(.slice none 0 0),(.slice none 0 0),(.slice none 0 0),(I 0),(I 0),(.float .f64 0),(.float .f64 0),(I 0),(I 0),(I 0),(I 0),(I 0),(I 0),(.slice none 0 0),(.slice none 0 0)] #[]) λk=>
 eU pg (dP pg Tryz.f79 R [a,d,h]) g e true (st1 73 29 a k) λ_ l m=>
 eU pg (dP pg Tryz.f79 R [a,d,h]) m l true (st1 37 1 d (I 4)) λ_ n o=>
 (fin (dP pg Tryz.f79 R [a,d,h]) o n (dr #[a,d,h])))
 ((eC pg (dP pg Tryz.f79 R [a,d,h]) g e true 133 #[p0] λq r s=>
 (aV pg s r (rF 249 #[(.pointer none),q] #[(1,q)]) λt=>
 eV pg (dP pg Tryz.f79 R [a,d,h]) s r true (bW 249 t) λv y z=>
 eC pg (dP pg Tryz.f79 R [a,d,h]) z y true 134 #[v,a] λ_ A C=>
 (eC pg (dP pg Tryz.f79 R [a,d,h]) C A true 135 #[q] λD E F=>
 aV pg F E (gz D 0) λG=>
 aV pg F E (gz D 1) λ_=>
 (aV pg F E (eB .neq 37 (.tmp 25) (.const (I 0)) G (I 0)) λH=>
 (me H
 (aV pg F E (rF 73 #[(I 0),(I 0),(I 0),(I 0),(I 0),(I 0),(I 0),(I 0),(I 0),(I 0),(B false),(I 0),(.float .f64 0),(.slice none 0 0),(.slice none 0 0),(.slice none 0 0),(.slice none 0 0),(I 0),(I 0),(.float .f64 0),(.float .f64 0),(I 0),(I 0),(I 0),(I 0),(I 0),(I 0),(.slice none 0 0),(.slice none 0 0)] #[]) λL=>
 eU pg (dP pg Tryz.f79 R [a,d,h]) F E true (st1 73 29 a L) λ_ M N=>
 eU pg (dP pg Tryz.f79 R [a,d,h]) N M true (st1 37 1 d (I 4)) λ_ O Q=>
 (fin (dP pg Tryz.f79 R [a,d,h]) Q O (dr #[a,d,h])))
 ((aV pg F E (iw 73 29 a) λS=>
 eC pg (dP pg Tryz.f79 R [a,d,h]) F E true 136 #[S] λT U V=>
 aV pg V U (gz T 0) λY=>
 aV pg V U (gz T 1) λZ=>
 (aV pg V U (eB .neq 37 (.tmp 33) (.const (I 0)) Z (I 0)) λa0=>
 un (pT a0 false Y) λb0=>
 un (pT a0 false p0) λc0=>
 jn (λ(d0:Value) (e0:World) (g0:XS)=>
 lB pg g0 e0 a0 false (vS (Op.unary UnOp.not d0)) λh0=>
 lK pg g0 e0 (iu a0 (B true) h0) λi0=>
 (me i0
 (aV pg g0 e0 (rF 73 #[(I 0),(I 0),(I 0),(I 0),(I 0),(I 0),(I 0),(I 0),(I 0),(I 0),(B false),(I 0),(.float .f64 0),(.slice none 0 0),(.slice none 0 0),(.slice none 0 0),(.slice none 0 0),(I 0),(I 0),(.float .f64 0),(.float .f64 0),(I 0),(I 0),(I 0),(I 0),(I 0),(I 0),(.slice none 0 0),(.slice none 0 0)] #[]) λj0=>
 eU pg (dP pg Tryz.f79 R [a,d,h]) g0 e0 true (st1 73 29 a j0) λ_ k0 l0=>
 eU pg (dP pg Tryz.f79 R [a,d,h]) l0 k0 true (st1 37 1 d (I 4)) λ_ m0 n0=>
 (fin (dP pg Tryz.f79 R [a,d,h]) n0 m0 (dr #[a,d,h])))
 ((aV pg g0 e0 (iw 73 29 a) λo0=>
 eU pg (dP pg Tryz.f79 R [a,d,h]) g0 e0 true (st1 73 29 a o0) λ_ q0 r0=>
 eU pg (dP pg Tryz.f79 R [a,d,h]) r0 q0 true (st1 37 1 d (I 0)) λ_ s0 t0=>
 (fin (dP pg Tryz.f79 R [a,d,h]) t0 s0 (dr #[a,d,h])))))) λv0=>
 (gE a0 false (eC pg (dP pg Tryz.f79 R [a,d,h]) V U true 137 #[b0,c0] v0) (v0 undef U V))))))))))))))
end
def oT (l:Array Operand):List Nat:=l.toList.filterMap λo=>match o with| .tmp t=>some t|_=>none
def L1:Code->List (List Oper)×List Nat
 | .region _ o _=>([o.toList],[])
 | .seq a b=>((L1 a).1++(L1 b).1,(L1 a).2++(L1 b).2)
 | .cond c a b=>((L1 a).1++(L1 b).1,oT #[c]++(L1 a).2++(L1 b).2)
 | .block _ a=>L1 a
 | .loop a=>L1 a
 |_=>([],[])
def isT (l:List Nat):Operand->Bool
 | .tmp t=>yz l t
 |_=>false
def ant (bx:List Nat):List Oper->List Nat->List Nat
 |[],d=>d
 |o::r,d=>ant bx r (match o.op,o.dst with| .fieldAddr _ x _,some y=>if isT bx x||isT d x then y::d else d|_,_=>d)
def anu:List Oper->List Nat->List Nat×List Nat
 |[],_=>([],[])
 |o::r,s=>let t:=oT o.op.operands;let u:=anu r (o.dst.toList++s);(t++o.dst.toList++u.1,t.filter (λx=>!yz s x)++u.2)
def aeo (t:Nat):List (List Nat)->Bool->Bool
 |[],_=>false
 |l::r,m=>if yz l t then m||aeo t r true else aeo t r m
def aep (fn:Func) (bx:List (Nat×Nat)) (mat car:List Nat):gx:=
 let c:=L1 (fn.body.getD .skip)
 let b:=bx.map Prod.fst
 let d:=ant b c.1.flatten []
 let u:=c.1.map λl=>anu l []
 let x:=c.2++fn.results.toList.filterMap (λr=>match r with| .tmp t=>some t|_=>none)++(u.map Prod.snd).flatten
 ⟨fn.ntmps,bx,d,(List.range fn.ntmps).filter λt=>!yz b t&&!yz d t&&(t<fn.params.size+fn.nfree||yz x t||aeo t (u.map Prod.fst) false),mat,car⟩
variable {R : Ending -> World -> Prop} {args : Array Value} {fn : Func} {f : FuncId}
theorem cv {w:World} {V:Prop} (pl:gx) (hf:pg.funcs[f]? =some fn) (h:V)
 (hs:(decide (args.size<=pl.n)&&pl.boxes.all λp=>decide (args.size<=p.1))=true:=by kernel_rfl) (hv:V=OB pg (cF pg pl fn) R args w:=by kernel_rfl):Calls pg f args w R:=Gq hf hs hv h
structure CQ (f:FuncId) (args:Array Value) (V:SP):Prop where
 g: ∀{R:Ending->World->Prop} {w:World} {q:Prop},(ai (bI w) w (bI w) w->q)->(e:V pg R (bI w) w=q:=by dsimp only [bg,ae,nQ,Zq3,l7,dy,ja,dx,Zq8,pQ,gC,cE,iH,lH,kg,bA,l8,B4,SE,gD,dH,cX,rN,cG,aio,du,jG,cT,aip,bz,cU,fR,GO,qJ,nW,cH,IL,fz,eZ,qe,aiq,dG,fE,vz,ky,oL,iI,fS,jY,fT,qf,qg,sC,qK,vA,gI,jh,nY,fj,gP,nZ,gT,rO,fU,ia,gg,fX,uq,qL,kz,vB,vC,sD,air,kU,jN,wy,wz,nG,cj,sw,pP,Gb,tc,ZcU,uN,C2,Q7,aR,mz,ik,kR,ZcR,Of,j6,jS,YV,vU,um,Zck,qs,lQ,oF,Zic,tH,xU,Zcn,Zcs,jr,pB,iW,kT,uo,xg,xV,pC,YW,LQ,GK,fW,B3,kG,ail,lG,nF,tN,YX,V8,sB,rM,GN,aim,ain];try exact rfl)->Calls pg f args w R
variable {V : SP}
theorem cy (g:Func->gx)
 (hs:((pg.funcs[f]?).any λfn=>decide (args.size<=(g fn).n)&&(g fn).boxes.all λp=>decide (args.size<=p.1))=true)
 (hv: ∀R w,V pg R (bI w) w=OB pg ((pg.funcs[f]?).bind λfn=>cF pg (g fn) fn) R args w):CQ f args V:=⟨λh e=>by
 cases hf:pg.funcs[f]? with
 |none=>rw[hf] at hs;cases hs
 |some fn=>rw[hf] at hs;exact Gq (pl:=g fn) hf (by simpa using hs) (by have:=hv;rw[hf] at this;exact e.symm.trans (this _ _)) (h (ai.init _))⟩
theorem cq (b:List (Nat×Nat):=[]) (m:List Nat:=[]) (c:List Nat:=[])
 (hs:((pg.funcs[f]?).any λfn=>decide (args.size<=fn.ntmps)&&b.all λp=>decide (args.size<=p.1))=true:=by kernel_rfl)
 (hv: ∀R w,V pg R (bI w) w=OB pg ((pg.funcs[f]?).bind λfn=>cF pg (aep fn (b.map λp=>(p.1,pg.cellsOf p.2)) m c) fn) R args w:=by intro R w;kernel_rfl):CQ f args V:=cy (λfn=>aep fn (b.map λp=>(p.1,pg.cellsOf p.2)) m c) (by simpa [aep,Function.comp_def] using hs) hv
theorem cp (pl:gx)
 (hs:((pg.funcs[f]?).any λfn=>decide (args.size<=pl.n)&&pl.boxes.all λp=>decide (args.size<=p.1))=true:=by kernel_rfl)
 (hv: ∀R w,V pg R (bI w) w=OB pg ((pg.funcs[f]?).bind λfn=>cF pg pl fn) R args w:=by intro R w;kernel_rfl):CQ f args V:=cy (λ_=>pl) hs hv
structure CL (f:FuncId) (fn:Func) (pl:gx) (args:Array Value) (V:(Ending->World->Prop)->SP):Prop where
 g: ∀{R:Ending->World->Prop} {RP:List PanicEntry->World->Prop} {g0:FuncId} {cb:List Nat} {cv:List (Option Value)} {w:World},Yi fn=some (g0,cb)->(cv=[]\/cv=aiC pg pl fn args)->Idle pg g0->QK pg pl fn R g0 cb cv RP->V (FR R RP) pg (noP R) (bI w) w->Calls pg f args w R
theorem cl {pl:gx} {V:(Ending->World->Prop)->SP} (hf:pg.funcs[f]? =some fn)
 (hs:(decide (args.size<=pl.n)&&pl.boxes.all λp=>decide (args.size<=p.1))=true:=by kernel_rfl) (hv: ∀R S w,V S pg R (bI w) w=aiD pg (ftL pg pl fn) R S args w:=by intro R S w;kernel_rfl):CL f fn pl args V:=⟨λa b c d e=>Y6 hf hs a b c d (hv _ _ _) e⟩
section
variable {w0 : World} {p0 p1 p2 p3 p4 p5 p6 p7 p8 p9 p10 Uz : Value} {i0 i1 i2 i3 i4 i5 i6 i7 i8 i9 i10 i11 i12 i13 i14 i15 i16 i17 i18 i19 i20 i21 i22 i23 i24 i25 i26 i27 i28 i29 i30 i31 i32 i33 i34 i35 i36 i37 i38 i39 : Int} {n0 n1 n2 n3 n4 n5 n6 n7 : Nat} {b0 b1 b2 b3 b4 b5 : Bool} {s0 s1 s2 s3 s4 s5 s6 s7 s8 s9 QI QR : ByteArray} {m : cO} {r : Rec} {vk vs vw vp vr vc vh vd vq : Value}
def Fc:CQ 8 #[p0,m.v vk vs vw vp vr vc vh vd] (uN 9 #[] λa=>kG a gT (vB 10 p0 (Op.unary UnOp.not) λ_ c=>fR c (m.v vk vs vw vp vr vc vh vd) λd=>wz c false (λe=>binOp .gtr 3 e (I 20000)) c du (uN 9 #[] aR) (uN 11 #[] λj=>kT j λk l=>lH 26 34 l fS gT (rM ae l 7 6 λn o q=>cU 22 p0 λr=>fz o r (qs 22 41 p0 o λs=>cj (iw 57 41 s) λt=>fX 12 k q t λy=>kT y λz A=>Of y 2 λC=>fW A 2 λ_=>fW C 3 λ_=>lH 26 53 z fS gT (cH o λD=>n D z)) (bA 13 q λE=>ik E (uN 9 #[] aR) (cG 14 k ae λ_=>bA 15 q λG=>rM ae dx 13 12 λH L M=>cU 59 G λN=>fz L N (wy M G M L λO Q=>gC M false (kY 59 3 O Q) M false (iw 34 3) λ_ T=>YW M (.agg #[I m.aO.eh,I m.aO.aW,I m.aO.sq]) (kU .eql 34 74 76 T) λV=>cH L λY=>H Y V) (jh 3 80 (I m.to) (I 21) λZ=>cT Z M λa0=>cT Z a0 λb0=>fR b0 (I m.kind) λc0=>nQ b0 false (vz .eql 3 (.tmp 86) (I 7) c0 (I 7)) λd0=>pP Z true (iu b0 du d0) λe0=>cT Z e0 λg0=>fR g0 (I m.kind) λh0=>nQ g0 false (vz .eql 3 (.tmp 91) (I 6) h0 (I 6)) λi0=>pP Z true (iu g0 du i0) λj0=>l8 Z j0 dx (uN 9 #[] aR) (bA 31 k λm0=>bA 20 q λn0=>bA 32 q λo0=>fX 25 q (I 3) (m.v vk vs vw vp vr vc vh vd) λq0=>kT q0 λr0 s0=>fW r0 2 λt0=>uN 9 #[] λv0=>xV v0 s0 .eql 37 110 ae λy0=>cE t0 (ja t0 0 λz0=>cT y0 z0 λA0=>qg y0 true (kZ 29 3 A0) y0 true .eql 3 (.tmp 116) ae ae λ_ D0=>iH y0 D0 dx λE0=>ja t0 1 λF0=>cT E0 F0 λG0=>qg E0 true (kZ 30 3 G0) E0 true .eql 3 (.tmp 122) ae ae λ_ L0=>kg E0 L0 dx true k λM0 N0=>nW (λO0=>cT M0 m0 λQ0=>qK M0 dx true q (λ_ T0 U0=>nW (λV0=>cT T0 n0 λY0=>qK T0 dx true q (λ_ a1 b1=>nW (λc1=>cT a1 o0 λd1=>qK a1 dx true q (λ_ g1 h1=>nW (λi1=>cT g1 G λj1=>nW (λk1=>iH g1 k1 dx aR) g1 true 28 #[i1,j1]) g1 true 15 #[h1]) a1 true 34 #[c1,d1]) a1 true 32 #[b1]) T0 true 23 #[V0,Y0]) T0 true 20 #[U0]) M0 true 33 #[O0,Q0]) M0 true 31 #[N0]))))))) c false 30 #[d,I 20000])):=cq [(3,54),(9,32),(10,34),(17,32)] [24,25,26,27,69,70,71,72,73,74,76,77,82,83,84,86,87,88,89,91,92,93,109,110,111,113,115,116,117,119,121,122,123,125,126,127,128,129,131,132,133,134,135,137,138,139,140,141,143,144,145,146,147] [6,7,12,13]
def LH:CQ 9 #[] (uN 35 #[] λa=>lH 25 13 a fS gT (uN 37 #[] λb=>uN 36 #[a,dy,I 4096,b] λc=>kT c λd e=>jh 26 21 d fS λg=>LQ g e .neq 37 24 ae λh=>ik h gT (gD 97 #[dy,bg 4607182418800017408,.string ⟨#[]⟩] #[(0,dy),(1,bg 4607182418800017408)] λi=>ja i 0 λj=>rN i 1 i 2 λk l=>gD 99 #[I 4,.string ⟨#[]⟩,j,k,l] #[(0,I 4),(2,i)] λm=>gD 99 #[I 2,.string { data:= #[107] },ae,bg 0,.string ⟨#[]⟩] #[(0,I 2),(1,.string { data:= #[107] })] λn=>cX (gO 55 99 5 2 #[(0,m),(1,n)]) λo=>fX 29 d (I 5) o λq=>kT q λr s=>Of q 2 λt=>fW r 3 λv=>fW s 2 λy=>gD 39 #[I 7,ae,dy] #[(0,I 7),(2,dy)] λz=>fW z 3 λA=>cE v (cE A (fj v 3 λC=>fj A 3 λD=>rN C 0 C 1 λE F=>sD C 2 D 0 D 1 D 2 λG H L M=>gD 54 #[I 4,dy,I 21,E,F,G,dy,ae,ae,H,L,M,ae,ae,ae,dx,ae,ae,bz,bz,bz,bz,bz,bz,ae,ae,bg 0,bg 0,ae,ae,ae,ae,ae,ae,bz,bz] #[(0,I 4),(1,dy),(2,I 21),(3,C),(4,dy),(7,D)] λN=>fX 25 d (I 5) N λO=>kT O λQ S=>fW Q 2 λT=>cE y (ja y 0 λU=>cU 29 U λV=>jh 3 48 V dy λY=>cT Y U λZ=>gC Y true (kY 29 36 Z ae) Y true (iE 54 0 0 1) λ_ b0=>qg Y true (ld1 3 b0) Y true .eql 3 (.tmp 55) (I 3) (I 3) λ_ d0=>kg Y d0 dx true U λe0 g0=>gC e0 true (kY 29 36 g0 ae) e0 true (iE 54 2 2 1) λ_ i0=>qg e0 true (ld1 3 i0) e0 true .eql 3 (.tmp 63) dy dy λ_ k0=>iH e0 k0 dx λl0=>ja y 1 λm0=>cT l0 m0 λn0=>qg l0 true (kZ 30 3 n0) l0 true .eql 3 (.tmp 69) ae ae λ_ q0=>iH l0 q0 dx λr0=>cE T (ja T 1 λs0=>cU 30 s0 λt0=>jh 3 74 t0 dy λv0=>cT v0 s0 λy0=>gC v0 true (kY 30 9 y0 ae) v0 true (iE 64 0 0 1) λ_ A0=>qg v0 true (ld1 37 A0) v0 true .eql 37 (.tmp 81) ae ae λ_ D0=>kg v0 D0 dx true s0 λE0 F0=>rO E0 true (kY 30 9 F0 ae) E0 true (iE 64 2 4 3) E0 true (iw 39 3) λ_ _ L0=>cE A (xg E0 D (kU .eql 39 89 90 L0) λN0=>ja T 0 λO0=>cT N0 O0 λQ0=>qg N0 true (kZ 29 3 Q0) N0 true .eql 3 (.tmp 96) dy dy λ_ T0=>kg N0 T0 dx true O0 λU0 V0=>rO U0 true (kY 29 36 V0 ae) U0 true (iE 54 9 15 1) U0 true (ld1 4) λ_ _ a1=>iH U0 a1 dx λb1=>jh 37 106 t ae λc1=>xV c1 S .eql 37 109 ae λd1=>cE v (cT d1 C λe1=>gC d1 true (rF 34 #[dy,dy,dy] #[(0,dy),(1,dy),(2,dy)]) d1 true (kU .eql 34 113 114 e1) λ_ h1=>kg d1 h1 dx true r0 λi1 j1=>kg i1 j1 dx true b1 λk1 l1=>kg k1 l1 dx true d λm1 n1=>sC m1 true (λo1=>vz .eql 3 (.tmp 125) dy o1 dy) (λ_ q1=>iH m1 q1 dx aR) m1 true 26 #[n1]))))))))):=cq [(4,34),(5,32),(7,39),(8,32)] [23,24,25,50,52,53,54,55,56,58,60,61,62,63,64,66,68,69,70,76,78,79,80,81,82,84,86,87,88,89,90,91,93,95,96,97,99,101,102,103,104,108,109,110,112,113,114,115,117,118,120,121,123,124,125,126]
end
end Go.Proofs.YtgfijddlkhkopaaGreat