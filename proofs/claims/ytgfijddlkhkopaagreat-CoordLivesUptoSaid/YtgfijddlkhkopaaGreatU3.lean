/- Part 3 of the proof. -/
import Derived.Laws.Pointers
import Derived.Shelf.SlSortCmp.WholeK
import Derived.Shelf.SlSortCmp.NoneTotal
import Derived.Recover
import Derived.Laws.MakeOwn
import Derived.Laws.BytesArg
import Derived.Laws.Concat
import Derived.Lib.Overlaps
import Derived.Lib.AppendZerosOnto
import Derived.Laws.Externs
import Derived.Laws.Slices
import Derived.Laws.IdiomStrings
import Derived.KernelRfl
import Derived.Test.YtgfijddlkhkopaaGreatProg
import Derived.Test.YtgfijddlkhkopaaGreatU2
set_option linter.all false
open Option.some renaming injEq → aj
open Nat renaming le_trans → ad, le_refl → au, lt_of_lt_of_le → av, zero_add → fe, mul_le_mul_right → cR, zero_le → aq, add_mul → jf, succ_mul → z6, add_zero → z7, mul_le_mul → xX
open Go.Sem renaming run_bind → bq, run_pure → bO
open Go.Result renaming andThen_ok → aN
open List renaming length_append → aa, getElem?_map → cL, length_drop → bR, size_toArray → kM, append_assoc → ao, mem_of_getElem? → aA, flatten_cons → cW, getElem?_eq_getElem → aS, getElem?_drop → gq, length_take → aB, take_left → sZ, map_cons → bm, ext_getElem? → uq, length_map → ah, flatten_append → dO, mem_cons_of_mem → bG, all_eq_true → lp, getD → pR, getElem?_append_left → dM, getElem?_append_right → cT, take_of_length_le → az, eq_nil_of_length_eq_zero → iH, nil_append → cC, getElem?_take → lY, length_nil → br, getElem?_zip_eq_some → tH, getElem_mem → Bp
open Go.Builtin renaming append_ → ff, zeroCells → jK, lenOf → qt, clear_ → mP, firstCells → zp, nextslicecap → xY
open Option renaming map_some → aY, bind_some → cM
open Prod.mk renaming injEq → cP
open Array renaming length_toList → fw, getElem?_append_left → kH, getElem?_toList → mV, ext' → xd, size_append → uu, toList_append → sF, replicate → cZ, getD_eq_getD_getElem? → mZ, getElem?_eq_getElem → tI, getElem?_modify → xe, getElem?_setIfInBounds → dL, toList_map → nk, getElem?_append → kD, getElem?_replicate → jB
open Go.Instr renaming sliceAt → bJ, alloc → fZ, makeFunc → cE, extract → gD, panic → kI, box → bT, makeSlice → BP, buildSlice → jh, makeInterface → jb, typeAssert → nH
open Go.Value renaming int → ay, ownBlock → im, tuple → di
open Go.Addr renaming add_lit → oL
open Bool renaming and_eq_true → aF, not_eq_true' → cX
open Go.Region renaming wanted → cG
open Go.Sort renaming grow → vy
open Go.World renaming freeze → vz, cell? → fj
open Go.Op renaming unary → bp
open Go.UnOp renaming not → bY
open Go.Deferred renaming ofValue → lr
open Go.Oper renaming upon_defer → BQ
open Go.Code.seq renaming injEq → C7
namespace Go.aL
open Go.Sort Go.Shelf Go.RowKit Go.Proofs
variable {P : Program} {ρ : Ren} {α : Type}
def acE (W w':World):Prop:= ∃os',w'=vy W os'
def zI (W w':World):Prop:= ∃q os,w'=vy (W.drewN q) os
theorem zI.refl (W:World):zI W W:=⟨0,#[],by rfl⟩
variable {W w : World}
theorem zI.alloc (h:zI W w) (o:Obj):zI W (w.alloc o):=by
 obtain⟨q,os,rfl⟩:=h;exact⟨q,os.push o,by simp[World.alloc,vy]⟩
variable {w' : World}
theorem zI.trans (h:zI W w) (k:zI w w'):zI W w':=by
 obtain⟨q,os,rfl⟩:=h;obtain⟨q',os',rfl⟩:=k;exact⟨q+q',os++os',by simp[World.drewN,vy,Nat.add_assoc]⟩
variable {g : Nat}
theorem zI.row (h:zI W w') {o:Obj} (hg:W.heap[g]? =some o):w'.heap[g]? =some o:=by
 obtain⟨q,os,rfl⟩:=h
 show(W.heap++os)[g]? =some o
 rw[kH (Array.getElem?_eq_some_iff.1 hg).1,hg]
variable {k : Nat}
theorem flat_get [Inhabited α] {enc:α->List Value} (hk: ∀x,(enc x).length=k) (h0:0<k): ∀(l:List α) (t:Nat),t<l.length*k->((l.map enc).flatten)[t]? =some ((enc l[t/k]!)[t % k]!)
 |[],t,h=>by simp at h
 |x::l,t,h=>by
  rw[bm,cW];by_cases ht:t<k
  ·rw[dM gQ,Nat.div_eq_of_lt ht,Nat.mod_eq_of_lt ht];simp_all
  ·obtain⟨s,rfl⟩: ∃s,t=s+k:=⟨t-k,by omega⟩;rw[cT gQ,hk,Nat.add_sub_cancel,Nat.add_div_right _ h0,Nat.add_mod_right];have hs:s<l.length*k:=by rw[List.length_cons,z6] at h;omega
   rw[flat_get hk h0 l s hs];simp
theorem aex [Inhabited α] {enc:α->List Value} (hk: ∀x,(enc x).length=k) (h0:0<k) (l:List α):(flatK enc k l.toArray).toList=(l.map enc).flatten:=by
 have hl:((l.map enc).flatten).length=l.length*k:=by
  rw[lG (k:=k) gQ];simp
 apply uq;intro t;by_cases ht:t<l.length*k
 ·rw[flat_get hk h0 l t ht];have h1:t<(flatK enc k l.toArray).size:=by simpa using ht
  have h2:=get_flatK enc k l.toArray t zQ;rw[getElem!_pos (flatK enc k l.toArray) t h1] at h2;rw[mV,tI h1,h2];simp
 simp_all
theorem VA (F cs:Array Value) (h:F.size<=cs.size):(putCells id 0 F cs).toList=F.toList++cs.toList.drop F.size:=by
 apply uq;intro t;unfold putCells;rw[mV,Array.getElem?_mapIdx];by_cases ht:t<F.size
 ·rw[dM zQ,tI zQ];simp[ht]
 ·rw[cT gQ,gq];simp only[fw,mV];rw[show F.size+(t-F.size)=t by omega]
  grind
variable {v : Value} {lo : Nat} {X : XS} {e : TypeId}
theorem aiI [Inhabited α] (L:SlLaysF0.n6 P ρ) (h0:0<k) (aE: ∀w,(isAgg (ρ.t 24)).run P w= .ok true w) (zE: ∀w,(Go.sizeOf (ρ.t 24)).run P w= .ok k w) {enc:α->List Value} (hk: ∀x,(enc x).length=k)
    (h1: ∀x,∀v∈enc x,v.oneCell'=true) {cf:α->α->Int} (hO:SWO (ltOf cf)) (eg: ∀args w,(callFunc g args).run P w= .ok (.enter g args) w)
    (aiJ: ∀x y W,Calls P g #[.agg (enc x).toArray,.agg (enc y).toArray] W λe w'=>e= .returned (.int .i64 (cf x y))/\zI W w')
 {xs:List α} (own:Own w X lo e k v (xs.map enc)) (hb:xs.length<2^61):
    Ct P (ρ.f 6) #[v,.func (.func g) #[] #[]] w X (eT v) λr _ w'=>r= .tuple #[]/\ ∃ys:List α,ys.Perm xs/\ys.Pairwise (λa b=>ltOf cf b a=false)/\Own w' (eT v) lo e k v (ys.map enc):=by
  intro w0 DG;have bN:=own.mv DG.mv;have emp: ∀(p:Option Addr) (cap:Nat),v= .slice p 0 cap->xs=[]->Calls P (ρ.f 6) #[v,.func (.func g) #[] #[]] w0 (uF (eT v) w0 λr w'=>r= .tuple #[]/\ ∃ys:List α,ys.Perm xs/\ys.Pairwise (λa b=>ltOf cf b a=false)/\Own w' (eT v) lo e k v (ys.map enc)):=by
    intro p cap hv hx;have ho:Own w0 (eT v) lo e k v (xs.map enc):=⟨bN.1,bN.2.1,λ_ hg=>hg⟩;subst hx;rw[hv] at ho⊢;exact(AnyF.slices_SortFunc_none L p cap (.func (.func g) #[] #[]) w0).mono λe w' ⟨he,hw⟩=>⟨_,he,by subst hw;exact⟨rfl,rfl,rfl,au _,λ_ _ _=>rfl⟩,rfl,[],List.Perm.refl _,List.Pairwise.nil,by grind⟩
  rcases bN.row with⟨hv,he⟩|⟨b,cap,cs,hv,gA,bw,pL,iC,pG,uG⟩
  · exact emp none 0 hv (by simpa using he)
  · rw[ah] at hv pL uG
    by_cases hx:xs=[]
    · exact emp _ cap (by rw[hv,hx];rfl) hx
    have hH:HoldsK enc k w0 b 0 xs.toArray:=by
      intro j hj;have hj':j<xs.length*k:=by simpa using hj
      have cB:j<cs.length:=by
        rw[pG];exact av hj' (cR _ pL)
      have hf:=flat_get hk h0 xs j hj';rw[<-uG,List.getElem?_take_of_lt hj'] at hf;refine⟨?_,?_⟩
      · unfold fj
        rw[bw.2];simp only[fe,Option.isSome_none,Bool.false_eq_true,if_false,id];rw[get_flatK enc k _ _ zQ];simpa using hf
      · unfold World.frozen?
        rw[bw.2];simp
    have hc:=AnyQ.slices_SortFunc L k aE zE enc hk h1 cf hO g #[] b 0 cap xs.toArray w0 eg (λm os dk _ x y=>(aiJ x y _).mono λ_ _ ⟨he,q,os',hw⟩=>⟨he,q,os',hw⟩) hH bw.lt oQ;rw[show xs.toArray.size=xs.length by simp] at hc;rw[hv];refine hc.mono ?_;rintro _ w' ⟨rfl,d',n,os,hp,hs,rfl⟩;obtain⟨Gh,_,hpp⟩:=hp;have Gh:d'.size=xs.length:=by simpa using Gh
    have hblk: ∀q,q<w0.heap.size-> ¬eT (.slice (some ⟨b,0,none⟩) xs.length cap) q->q≠b:=λq _ hq e=>hq (by rw[e];rfl);have aey:(sortWorldK enc k w0 b 0 n d' os).heap=(w0.heap.modify b (onCells (putCells id 0 (flatK enc k d'))))++os:=rfl;have hF:(flatK enc k d').toList=(d'.toList.map enc).flatten:=by
      have:=aex hk h0 d'.toList;simpa using this
    have hFs:(flatK enc k d').size=xs.length*k:=by rw[size_flatK,Gh]
    refine⟨_,rfl,⟨rfl,rfl,rfl,?_,?_⟩,rfl,d'.toList,?_,?_,?_⟩
    · rw[aey];simp
    · intro q hq hn
      rw[aey,kH (by simpa using hq),xe,if_neg (Ne.symm (hblk q hq hn))]
    · have h3:(d'.extract 0 xs.length)=d':=by rw[<-Gh];simp
      have h4:(xs.toArray.extract 0 xs.length)=xs.toArray:=by simp
      rw[h3,h4] at hpp;omega
    · rw[List.pairwise_iff_getElem]
      intro i j hi hj yD;have:=hs i j (aq _) yD (by rw[<-Gh];omega);rw[getElem!_pos d' j zQ,getElem!_pos d' i zQ] at this;assumption
    · have GR:(sortWorldK enc k w0 b 0 n d' os).heap[b]? =some (.cells (putCells id 0 (flatK enc k d') cs.toArray) e (0,0)):=by
        rw[aey,kH (by simpa using bw.lt),xe,if_pos rfl,bw.2];rfl
      have hle:xs.length*k<=cs.length:=by rw[pG];exact cR _ pL
      have vJ:=VA (flatK enc k d') cs.toArray (by rw[hFs];omega);have DS:aH (sortWorldK enc k w0 b 0 n d' os) (eT (.slice (some ⟨b,0,none⟩) xs.length cap)) b (putCells id 0 (flatK enc k d') cs.toArray).toList e:=⟨rfl,by omega⟩;refine Own.Hy DS gA (by intro r hr;obtain⟨x,_,rfl⟩:=List.mem_map.1 hr;exact hk x) (by simpa using Gh) pL iC ?_ ?_
      · rw[vJ,aa,bR,fw,hFs];simp;omega
      · rw[vJ,List.take_append_of_le_length (by simp[Gh]),az (by simp[Gh]),hF]
def abL [Inhabited α] (L:SlLaysF0.n6 P ρ) (h0:0<k) (aE: ∀w,(isAgg (ρ.t 24)).run P w= .ok true w) (zE: ∀w,(Go.sizeOf (ρ.t 24)).run P w= .ok k w) {enc:α->List Value} (hk: ∀x,(enc x).length=k)
    (h1: ∀x,∀v∈enc x,v.oneCell'=true) {cf:α->α->Int} (hO:SWO (ltOf cf)) (eg: ∀args w,(callFunc g args).run P w= .ok (.enter g args) w)
    (aiJ: ∀x y W,Calls P g #[.agg (enc x).toArray,.agg (enc y).toArray] W λe w'=>e= .returned (.int .i64 (cf x y))/\acE W w')
 {xs:List α} (own:Own w X lo e k v (xs.map enc)) (hb:xs.length<2^61):
    Ct P (ρ.f 6) #[v,.func (.func g) #[] #[]] w X (eT v) λr _ w'=>r= .tuple #[]/\ ∃ys:List α,ys.Perm xs/\ys.Pairwise (λa b=>ltOf cf b a=false)/\Own w' (eT v) lo e k v (ys.map enc):=
  aiI L h0 aE zE hk h1 hO eg (λx y W=>(aiJ x y W).mono λ_ _ ⟨he,os,hw⟩=>⟨he,0,os,hw⟩) own hb
variable {P : Program} {R : Ending -> World -> Prop} {X : XS} {w : World} {m : Bool}
variable {bytes t ty : Nat} {rows : List (List Value)} {N : Value -> World -> XS -> Prop}
section
variable {e : Nat} {x s : Value} {dq : List (List Value)} {row : List Value}
theorem ak8 (own:Own w X lo e k v rows) (hX: ∀k,X k->k<w.heap.size) (gA:lo<=w.heap.size) (he:nF P t e k bytes=true) (hx:x.cells.toList=row) (hk:(row.length==k)=true)
  (h1:row.all one=true) (hb:(rows.length+1)*bytes<=140737488355328) (hl:rows.length+1<=2^63-1)
  (n: ∀v' w' X',dY (eT v) X w X' w'->Own w' X' lo e k v' (rows++[row])->(v'.ownBlock=v.ownBlock\/ ∃g,v'.ownBlock=some g/\w.heap.size<=g)->N v' w' X'):
  eV P R X w m (gR t e k 1 #[(0,x)]) λs w1 X1=>eV P R X1 w1 true (gu t e k bytes ty v s) N:=by
 obtain⟨hu,ik,Fa,z,hi,hz,wZ⟩:=mh he;have af:row.length=k:=by simpa using hk
 have JL:x.cells.size=k:=by rw[<-af,<-hx,fw]
 refine B9 (rows:=[row]) x.cells z hX hu hz zQ zQ ?_ (by simpa using af) rfl gQ λs w1 X1 ax F9=>?_
 ·simp only[Nat.one_mul];exact Fk JL sQ
 ·have S5:lo<=w1.heap.size:=ad gA ax.kp.size;refine C5 (dq:=[row]) z hu hi wZ ik ax.has S5 (own.since ax) F9.sl (by simpa using h1) zQ zQ λv2 w2 X2 hg ho dh=>?_;refine n v2 w2 X2 ((dY.nz ax (eT v)).trans (hg.dX.mono λk _ hk=>hk.symm)) ho ?_;rcases dh with h|⟨g,h,dB⟩
  ·exact .inl h
  ·exact .inr ⟨g,h,ad ax.kp.size dB⟩
theorem HI (own:Own w X lo e k v rows) (hX: ∀k,X k->k<w.heap.size) (gA:lo<=w.heap.size) (he:nF P t e k bytes=true) (src:Sl w X k s dq) (h1: ∀r∈dq,∀u∈r,one u=true)
  (hb:(rows.length+dq.length)*bytes<=140737488355328) (hl:rows.length+dq.length<=2^63-1)
  (n: ∀v' w' X',dY (eT v) X w X' w'->Own w' X' lo e k v' (rows++dq)->(v'.ownBlock=v.ownBlock\/ ∃g,v'.ownBlock=some g/\w.heap.size<=g)->N v' w' X'):
  eV P R X w true (gu t e k bytes ty v s) N:=by
 obtain⟨hu,ik,Fa,z,hi,hz,wZ⟩:=mh he;refine C5 (dq:=dq) z hu hi wZ ik hX gA own src h1 hb hl λv2 w2 X2 hg ho dh=>?_;exact n v2 w2 X2 (hg.dX.mono λk _ hk=>hk.symm) ho dh
end
def yL (s:ByteArray):List Value:=s.data.toList.map λb=>.int .u8 b.toNat
theorem M6 (s:ByteArray):(yL s).length=s.size:=by unfold yL;simp_all
theorem L3 (s:ByteArray):(zp 1 s.size (.string s))=(pure (yL s).toArray:Sem (Array Value)):=by
 have hx:(s.extract 0 s.size)=s:=by
  apply ByteArray.ext;simp[ByteArray.data_extract]
 show(pure ((s.extract 0 s.size).data.map λb=>ay .u8 b.toNat):Sem (Array Value))=_
 rw[hx]
 congr 1
 apply xd;simp[yL]
theorem J8 (t u ty e:TypeId) (i:TypeInfo) (ht:P.underlying t=some (.slice e)) (hu:P.underlying u=some .string) (hi:P.info? e=some i) (h1:i.size=1)
  (g lA uv:Nat) (cur:Array Value) (hg:w.heap[g]? =some (.cells cur e (0,0))) (s:ByteArray) (xf:lA+s.size<=uv) (IK:lA+s.size<=cur.size):
  (ff #[t,u] ty #[.slice (some ⟨g,0,none⟩) lA uv,.string s]).run P w=
   .ok (.slice (some ⟨g,0,none⟩) (lA+s.size) uv) (w.setRow g (cur.toList.take lA++yL s++cur.toList.drop (lA+s.size)).toArray):=by
 have fP:=run_storeCells_at P g lA e (yL s) 0 cur w hg (by grind [M6]) (λv hv=>by
  unfold yL at hv;obtain⟨b,_,rfl⟩:=List.mem_map.1 hv;rfl)
 simp only[z7,M6] at fP;simp[ff,run_underlying ht,run_underlying hu,sizeOf,typeInfo,hi,qt,xf,h1,L3,oL,fP]
theorem J9 (t u ty e:TypeId) (i:TypeInfo) (z:Value) (ht:P.underlying t=some (.slice e)) (hu:P.underlying u=some .string) (hi:P.info? e=some i) (hz:i.zero=some z) (h1:i.size=1)
  (b:Addr) (lA uv:Nat) (aez:List Value) (gA:aez.length=lA) (holds: ∀j v,aez[j]? =some v->w.cell? (b.add j)=some v) (s:ByteArray)
  (hg:uv<lA+s.size) (h63:((lA+s.size:Nat):Int)<=9223372036854775807) (IK:xY (lA+s.size) uv*i.bytes<=281474976710656):
  (ff #[t,u] ty #[.slice (some b) lA uv,.string s]).run P w=
   .ok (.slice (some ⟨w.heap.size,0,none⟩) (lA+s.size) (grownCap w (lA+s.size) uv e))
    (w.drew.alloc (.cells (aez.toArray++(yL s).toArray++jK z.cells (grownCap w (lA+s.size) uv e-(lA+s.size))) e)):=by
 have hn: ¬(lA+s.size<=uv):=by omega
 have ara: ¬(9223372036854775807<((lA:Int)+(s.size:Int))):=by omega
 have arb: ¬(281474976710656<xY (lA+s.size) uv*i.bytes):=by omega
 have hfo:=run_firstCells_some (P:=P) w.drew 1 lA b lA uv aez zQ aQ;simp[ff,run_underlying ht,run_underlying hu,sizeOf,typeInfo,zeroValue,hi,hz,qt,hn,ara,arb,Question.forced,L3,h1,hfo,newRow,grownCap]
 congr 2
 apply xd;simp_all
theorem L4 (base:Nat) (t u ty e:TypeId) (i:TypeInfo) (z:Value) (bytes:Nat) (ht:P.underlying t=some (.slice e)) (hu:P.underlying u=some .string) (hi:P.info? e=some i) (hz:i.zero=some z)
  (h1:i.size=1) (F8:i.bytes=bytes) (wZ:z.cells.size=1) (v:Value) (n:Nat) (xs:List Value) (xx:w.ownsRow base e 1 v n xs) (s:ByteArray)
  (h63:n+s.size<=maxLen) (agf:(n+s.size)*bytes<=140737488355328) (acY:base<=w.heap.size):
  ∃v' w',(ff #[t,u] ty #[v,.string s]).run P w= .ok v' w'/\w'.ownsRow base e 1 v' (n+s.size) (xs++yL s)/\w.grownBy w' v.ownBlock/\(v'.ownBlock=v.ownBlock\/v'.ownBlock=some w.heap.size):=by
 subst F8;have Ro:n+s.size<=9223372036854775807:=by simp only[maxLen] at h63;omega
 have hl:=M6 s;have Uk:xs.length=n:=by simpa using xx.1
 have hlen:(xs++yL s).length=(n+s.size)*1:=by rw[aa,Uk,hl];omega
 have grown: ∀(bK:Nat),bK<n+s.size-> ∀(row:Option Nat),
   (w.drew.alloc (.cells (xs.toArray++(yL s).toArray++jK z.cells (grownCap w (n+s.size) bK e-(n+s.size))) e)).ownsRow base e 1
    (.slice (some ⟨w.heap.size,0,none⟩) (n+s.size) (grownCap w (n+s.size) bK e)) (n+s.size) (xs++yL s)/\
   w.grownBy (w.drew.alloc (.cells (xs.toArray++(yL s).toArray++jK z.cells (grownCap w (n+s.size) bK e-(n+s.size))) e)) row:=by
  intro bK ho row;have dB:=grownCap_ge w (n+s.size) bK e;have iC:grownCap w (n+s.size) bK e<=maxLen:=grownCap_le_maxLen w (n+s.size) bK e h63;refine⟨⟨hlen,.inr ⟨w.heap.size,_,_,rfl,acY,heap_alloc_new w.drew _,dB,iC,?_,?_⟩⟩,⟨rfl,rfl,rfl,by simp,λk hk _=>by first|exact heap_alloc_old w.drew _ k hk|exact heap_alloc_old w.drew _ hk⟩⟩
  ·simp only[uu,kM,size_zeroCells,wZ,Uk,hl];omega
  ·simp only[sF,ao];rw[<-ao,<-hlen]
   grind
 rcases xx.2 with⟨rfl,rfl⟩|⟨g,cap,cur,rfl,hbg,hg,pL,iC,iN,M7⟩
 ·have hx:xs=[]:=iH Uk;subst hx;by_cases hm:s.size=0
  ·have hn:yL s=[]:=iH (by rw[hl,hm]);refine⟨.slice none 0 0,w,?_,by simp_all,⟨rfl,rfl,rfl,au _,λ_ _ _=>rfl⟩,Or.inl rfl⟩;have hf:=L3 s;rw[hm,hn] at hf;simp[ff,run_underlying ht,run_underlying hu,sizeOf,typeInfo,hi,qt,hm,h1,hf]
  ·have hr:=run_append_nil_string (P:=P) w t u ty e i z ht hu hi hz s zQ zQ (by have hb:=agf;simp only[fe] at hb;omega);have Ev:=grown 0 zQ (im (.slice none 0 0));have he:(s.data.map λb:UInt8=>ay .u8 b.toNat)=(yL s).toArray:=by
    apply xd;simp[yL]
   rw[he] at hr;simp only[fe,cC,Array.empty_append] at Ev⊢;exact⟨_,_,hr,Ev.1,Ev.2,Or.inr rfl⟩
 ·rw[Nat.mul_one] at iN M7;by_cases xf:n+s.size<=cap
  ·have IK:n+s.size<=cur.size:=by rw[iN];exact xf
   have hr:=J8 (P:=P) (w:=w) t u ty e i ht hu hi h1 g n cap cur hg s xf IK;refine⟨_,_,hr,⟨hlen,.inr ⟨g,cap,_,rfl,hbg,setRow_heap w g cur _ e _ hg,xf,iC,?_,?_⟩⟩,⟨rfl,rfl,rfl,by simp,λk _ hk=>setRow_other w g k _ (λe=>hk (by simp[im,e]))⟩,Or.inl rfl⟩
   ·simp only[kM,aa,aB,bR,fw,hl];omega
   ·rw[M7,<-hlen];exact sZ
  ·have holds: ∀j u,xs[j]? =some u->w.cell? ((⟨g,0,none⟩:Addr).add j)=some u:=xx.cells (g:=g) rfl;have hr:=J9 (P:=P) (w:=w) t u ty e i z ht hu hi hz h1 ⟨g,0,none⟩ n cap xs Uk holds s zQ zQ (growslice_fits zQ agf);have Ev:=grown cap zQ (im (.slice (some ⟨g,0,none⟩) n cap));exact⟨_,_,hr,Ev.1,Ev.2,Or.inr rfl⟩
theorem anG {u e:Nat} {s:ByteArray} (own:Own w X lo e 1 v rows) (hX: ∀k,X k->k<w.heap.size) (gA:lo<=w.heap.size)
  (he:nF P t e 1 bytes=true) (hu:P.underlying u=some .string) (hb:(rows.length+s.size)*bytes<=140737488355328) (hl:rows.length+s.size<=2^63-1)
  (n: ∀v' w' X',dY (eT v) X w X' w'->Own w' X' lo e 1 v' (rows++(yL s).map λx=>[x])->(v'.ownBlock=v.ownBlock\/ ∃g,v'.ownBlock=some g/\w.heap.size<=g)->N v' w' X'):
  eV P R X w true (ff #[t,u] ty #[v,.string s]) N:=by
 obtain⟨ht,ik,Fa,z,hi,hz,wZ⟩:=mh he;intro wa hk;have own:=own.kp hk;cases hq:P.info? e with
 |none=>grind
 |some ie=>
  cases tG:ie.zero with
  |none=>grind
  |some z'=>
   simp only[hq,tG,cM,aY,aj,cP] at hi;obtain⟨h1,rfl,rfl⟩:=hi;unfold jP;obtain⟨v',w',hr,tU,hg,dh⟩:=L4 (P:=P) (w:=wa) lo t u ty e ie z' ie.bytes ht hu hq tG h1 rfl wZ v rows.length rows.flatten own.2.1 s hl hb (ad gA hk.size);simp only[vS,bq,hr,aN,bO];have iP:((yL s).map λx=>[x]).flatten=yL s:=by
    induction yL s with
    |nil=>rfl
    |cons a l ih=>simp[ih]
   refine⟨⟨hg.os,hg.tape,hg.output,hg.size,λk wP nf=>hg.block k wP λe=>nf (own.2.2 k e.symm)⟩,n _ _ _ ?_ ⟨?_,?_,?_⟩ ?_⟩
   ·exact⟨hg.os.trans hk.os,hg.tape.trans hk.tape,hg.output.trans hk.output,ad hk.size hg.size,
     λk hx ct=>(hg.block k (av (hX k hx) hk.size) λe=>ct e.symm).trans (hk.block k hx),λk h=>.inl h,
     λk h=>h.elim (λh=>av (hX k h) (ad hk.size hg.size)) (λh=>h.2)⟩
   ·intro r hr;rcases List.mem_append.1 hr with h|h
    ·exact own.1 r h
    ·obtain⟨x,_,rfl⟩:=List.mem_map.1 h;rfl
   ·rw[aa,ah,M6,dO,iP];omega
   ·intro g JJ;rcases dh with h|h
    ·exact .inl (own.2.2 g (h▸JJ))
    ·rw[JJ] at h;cases h;exact .inr ⟨au _,(tU.lt _ JJ).2⟩
   ·rcases dh with h|h
    ·exact .inl h
    ·exact .inr ⟨_,h,hk.size⟩
theorem C3 {f:FuncId} {a b:Value} (h:eC P R X w m f #[a,b] N):eF P R X w m (.func (.func f) #[a] #[]) #[b] N:=by
 have e: ∀wa,(H8 (.func (.func f) #[a] #[]) #[b]).run P wa=(callFunc f #[a,b]).run P wa:=by
  intro wa;simp[H8,lr,invoke]
 intro wa hk;have:=h wa hk
 grind
end Go.aL
namespace Go.aL
variable {P : Program} {R : Ending -> World -> Prop} {X : XS} {w : World} {m : Bool}
def Ow (w:World) (X:XS) (e k:Nat) (v:Value) (rows:List (List Value)):Prop:=
 (∀r∈rows,r.length=k)/\((v= .slice none 0 0/\rows=[])\/ ∃g off cap cur,v= .slice (some ⟨g,off,none⟩) rows.length cap/\X g/\w.heap[g]? =some (.cells cur e (0,0))/\
  rows.length<=cap/\cap<=maxLen/\off+cap*k<=cur.size/\(cur.toList.drop off).take (rows.length*k)=rows.flatten)
theorem Ow.nil (w:World) (X:XS) (e k:Nat):Ow w X e k (.slice none 0 0) []:=⟨by simp,.inl ⟨rfl,rfl⟩⟩
variable {rows : List (List Value)} {v : Value} {e k : Nat}
theorem Own.ow {lo:Nat} (h:Own w X lo e k v rows):Ow w X e k v rows:=by
 obtain⟨h1,h2,h3⟩:=h;refine⟨h1,?_⟩;rcases h2.2 with⟨rfl,hn⟩|⟨g,cap,cur,rfl,hb,hg,pL,iC,iN,ht⟩
 ·simp_all
 ·exact .inr ⟨g,0,cap,cur,rfl,h3 g rfl,hg,pL,iC,by omega,by assumption⟩
theorem Ow.sl (h:Ow w X e k v rows):Sl w X k v rows:=by
 obtain⟨h1,⟨rfl,rfl⟩|⟨g,off,cap,cur,rfl,hx,hg,pL,iC,iN,ht⟩⟩:=h
 ·exact Sl.nil w X k
 ·have hm:cap<=2^63-1:=iC;refine⟨h1,ad pL hm,_,cap,rfl,λ_=>⟨g,off,rfl,hx,cur,e,(0,0),hg,λj v hj=>?_⟩,by simp,pL,hm⟩;rw[<-ht,lY,gq] at hj;split at hj
  ·simpa using hj
  ·cases hj
theorem Ow.one (h:Ow w X e k v rows):one v=true:=h.sl.one
variable {Y : XS}
theorem Ow.mono (h:Ow w X e k v rows) (hs: ∀k,X k->Y k):Ow w Y e k v rows:=by
 obtain⟨h1,h|⟨g,off,cap,cur,hv,hx,hr⟩⟩:=h
 ·exact⟨h1,.inl h⟩
 ·exact⟨h1,.inr ⟨g,off,cap,cur,hv,hs _ hx,hr⟩⟩
variable {w' : World}
theorem Ow.mv (h:Ow w X e k v rows) (m:Mv X w Y w'):Ow w' Y e k v rows:=by
 obtain⟨h1,h|⟨g,off,cap,cur,hv,hx,hg,hr⟩⟩:=h
 ·exact⟨h1,.inl h⟩
 ·obtain⟨m1,m2⟩:=m g hx (Array.getElem?_eq_some_iff.1 hg).1;exact⟨h1,.inr ⟨g,off,cap,cur,hv,m1,by grind,hr⟩⟩
theorem Ow.kp (h:Ow w X e k v rows) (hk:Kp X w w'):Ow w' X e k v rows:=by
 obtain⟨h1,h|⟨g,off,cap,cur,hv,hx,hg,hr⟩⟩:=h
 ·exact⟨h1,.inl h⟩
 ·exact⟨h1,.inr ⟨g,off,cap,cur,hv,hx,by rw[hk.block g hx];exact hg,hr⟩⟩
variable {g : Nat}
theorem Ow.bA (h:Ow w X e k v rows) (hg:v.ownBlock=some g):X g/\g<w.heap.size:=by
 obtain⟨h1,⟨rfl,_⟩|⟨g',off,cap,cur,rfl,hx,hb,hr⟩⟩:=h
 ·cases hg
 ·simp only[im,aj] at hg;grind
theorem Ow.tag (h:Ow w X e k v rows) (hg:v.ownBlock=some g): ∃cs:List Value,w.heap[g]? =some (.cells cs.toArray e (0,0)):=by
 obtain⟨h1,⟨rfl,_⟩|⟨g',off,cap,cur,rfl,hx,hb,hr⟩⟩:=h
 ·cases hg
 ·simp only[im,aj] at hg;subst hg;exact⟨cur.toList,by omega⟩
variable {cs : List Value}
theorem Ow.eH {e':Nat} (h:Ow w X e k v rows) (hr:aH w Y g cs e') (he:decide (e≠e')=true):v.ownBlock≠some g:=λhg=>by
 obtain⟨c,h1⟩:=h.tag hg;rw[hr.2] at h1
 grind
variable {F X' : XS}
theorem Ow.dX (h:Ow w X e k v rows) (c:dY F X w X' w') (hd: ∀g,v.ownBlock=some g-> ¬F g):Ow w' X' e k v rows:=by
 obtain⟨h1,h|⟨g,off,cap,cur,rfl,hx,hg,hr⟩⟩:=h
 ·exact⟨h1,.inl h⟩
 ·exact⟨h1,.inr ⟨g,off,cap,cur,rfl,c.sub g hx,by rw[c.block g hx (hd g rfl)];exact hg,hr⟩⟩
theorem Ow.tight (h:Ow w X e k v rows):Ow w (eT v) e k v rows:=by
 obtain⟨h1,h|⟨g,off,cap,cur,rfl,hx,hr⟩⟩:=h
 ·exact⟨h1,.inl h⟩
 ·exact⟨h1,.inr ⟨g,off,cap,cur,rfl,rfl,hr⟩⟩
theorem z8 (t ty e:TypeId) (i:TypeInfo) (ht:P.underlying t=some (.slice e)) (hi:P.info? e=some i)
  (g off lA uv:Nat) (cur:Array Value) (hg:w.heap[g]? =some (.cells cur e (0,0)))
  (a:Addr) (m c:Nat) (news:List Value) (hl:news.length=m*i.size) (apg: ∀j u,news[j]? =some u->w.cell? (a.add j)=some u) (h1: ∀u∈news,u.oneCell'=true)
  (xf:lA+m<=uv) (IK:off+lA*i.size+news.length<=cur.size):
  (ff #[t,t] ty #[.slice (some ⟨g,off,none⟩) lA uv,.slice (some a) m c]).run P w=
   .ok (.slice (some ⟨g,off,none⟩) (lA+m) uv) (w.setRow g (cur.toList.take (off+lA*i.size)++news++cur.toList.drop (off+lA*i.size+news.length)).toArray):=by
 have hf:=run_firstCells_some (P:=P) w i.size m a m c news hl apg;have fP:=run_storeCells_at P g (off+lA*i.size) e news 0 cur w hg zQ h1;simp only[z7] at fP;simp[ff,run_underlying ht,sizeOf,typeInfo,hi,qt,xf,hf,oL,fP]
theorem Aa (t ty e:TypeId) (i:TypeInfo) (ht:P.underlying t=some (.slice e)) (hi:P.info? e=some i)
  (b:Addr) (lA uv:Nat) (xf:lA<=uv):
  (ff #[t,t] ty #[.slice (some b) lA uv,.slice none 0 0]).run P w= .ok (.slice (some b) lA uv) w:=by
 simp[ff,run_underlying ht,sizeOf,typeInfo,hi,qt,xf,zp,storeCells]
variable {N : Value -> World -> XS -> Prop} {dq : List (List Value)} {s : Value} {bytes t ty : Nat}
theorem Rs
  (he:nF P t e k bytes=true)
  (hX: ∀k,X k->k<w.heap.size) (own:Ow w X e k v rows) (src:Sl w X k s dq) (h1: ∀r∈dq,∀u∈r,one u=true)
  (hb:(rows.length+dq.length)*bytes<=140737488355328) (hl:rows.length+dq.length<=2^63-1)
  (n: ∀v' w' X',dY (eT v) X w X' w'->Ow w' X' e k v' (rows++dq)->(v'.ownBlock=v.ownBlock\/ ∃g,v'.ownBlock=some g/\w.heap.size<=g)->N v' w' X'):
  eV P R X w true (gu t e k bytes ty v s) N:=by
 obtain⟨hu,ik,Fa,z,hi,Jn,wZ⟩:=mh he;obtain⟨qU,⟨rfl,rfl⟩|⟨g,off,cap,cur,rfl,hx,hg,pL,iC,iN,uG⟩⟩:=own
 ·exact C5 (rows:=[]) (dq:=dq) z hu hi wZ ik hX (aq _) (Own.nil w X 0 e k) src h1 hb hl λv2 w2 X2 hg ho dh=>
   n v2 w2 X2 (hg.dX.mono λk _ hk=>hk.symm) ho.ow dh
 ·intro wa hk;have rz:wa.heap[g]? =some (.cells cur e (0,0)):=by rw[hk.block g hx];exact hg
  have src:=src.kp hk;cases hq:P.info? e with
  |none=>simp[hq] at hi
  |some ie=>
   cases tG:ie.zero with
   |none=>simp_all
   |some z'=>
    simp only[hq,tG,cM,aY,aj,cP] at hi;obtain⟨rfl,rfl,rfl⟩:=hi;unfold gu jP;rcases src.src with⟨rfl,rfl⟩|⟨a,c,rfl,Cv⟩
    ·have hr:=Aa (P:=P) (w:=wa) t ty e ie hu hq ⟨g,off,none⟩ rows.length cap pL;simp only[vS,bq,hr,aN,bO];have AN:=Ext.refl wa;have hs:=ai.eZ hX hk AN;refine⟨Step.eZ AN,n _ _ _ (dY.nz hs _) ?_ (.inl rfl)⟩;rw[List.append_nil];exact⟨qU,.inr ⟨g,off,cap,cur,rfl,.inl hx,rz,pL,iC,iN,uG⟩⟩
    ·have si:dq.flatten.length=dq.length*ie.size:=lG src.1;have Ws:rows.flatten.length=rows.length*ie.size:=lG qU;have IB: ∀u∈dq.flatten,u.oneCell'=true:=λu hu=>by
      obtain⟨r,hr,hur⟩:=List.mem_flatten.1 hu;rw[<-P4];exact h1 r hr u hur
     have Cu: ∀r∈rows++dq,r.length=ie.size:=λr hr=>by
      rcases List.mem_append.1 hr with h|h
      ·exact qU r h
      ·exact src.1 r h
     have aph:rows.length+dq.length<=maxLen:=hl;by_cases xf:rows.length+dq.length<=cap
     ·have hmul:(rows.length+dq.length)*ie.size<=cap*ie.size:=cR _ xf;rw[jf] at hmul;have hr:=z8 (P:=P) (w:=wa) t ty e ie hu hq g off rows.length cap cur rz a dq.length c dq.flatten si Cv IB xf zQ;simp only[vS,bq,hr,aN,bO];have EZ: ∀k,k≠g->(wa.setRow g (cur.toList.take (off+rows.length*ie.size)++dq.flatten++cur.toList.drop (off+rows.length*ie.size+dq.flatten.length)).toArray).heap[k]? =wa.heap[k]? :=λk hk=>setRow_other wa g k _ hk;refine⟨⟨rfl,rfl,rfl,by simp,λk wP nf=>EZ k λe=>nf (e▸hx)⟩,n _ _ _ ?_ ⟨Cu,.inr ⟨g,off,cap,_,by rw[aa],.inl hx,setRow_heap wa g cur _ e _ rz,by rw[aa];omega,iC,?_,?_⟩⟩ (.inl rfl)⟩
      ·exact⟨hk.os,hk.tape,hk.output,by simpa using hk.size,λk AN ct=>(EZ k λe=>ct (by rw[e];rfl)).trans (hk.block k AN),λk h=>.inl h,
        λk h=>h.elim (λh=>by have:=hX k h;have:=hk.size;simp;omega) (λh=>h.2)⟩
      ·simp only[kM,aa,aB,bR,fw];omega
      ·have gd:off<=cur.toList.length:=by rw[fw (xs:=cur)];omega
       have e1:(cur.toList.take (off+rows.length*ie.size)).drop off=rows.flatten:=by
        rw[List.drop_take,show off+rows.length*ie.size-off=rows.length*ie.size by omega,uG]
       have CK:(cur.toList.take (off+rows.length*ie.size)).length=off+rows.length*ie.size:=by rw[aB,fw (xs:=cur)];omega
       rw[ao,List.drop_append_of_le_length zQ,e1,aa,jf,dO,<-ao,<-Ws,<-si,<-aa];exact sZ
     ·have holds: ∀j u,rows.flatten[j]? =some u->wa.cell? ((⟨g,off,none⟩:Addr).add j)=some u:=λj u hj=>by
       rw[<-uG,lY,gq] at hj;split at hj
       ·rw[oL];simp only[fj,rz];simpa using hj
       ·cases hj
      have hr:=run_append_grow (P:=P) wa t ty e ie z' hu hq tG ⟨g,off,none⟩ rows.length cap rows.flatten Ws holds a dq.length c dq.flatten si Cv zQ zQ (growslice_fits zQ hb);simp only[vS,bq,hr,aN,bO];have dB:=grownCap_ge wa (rows.length+dq.length) cap e;have iC:grownCap wa (rows.length+dq.length) cap e<=maxLen:=grownCap_le_maxLen wa _ cap e aph;have hblk: ∀k,k<wa.heap.size->(wa.drew.alloc (.cells (rows.flatten.toArray++dq.flatten.toArray++jK z'.cells (grownCap wa (rows.length+dq.length) cap e-(rows.length+dq.length))) e)).heap[k]? =wa.heap[k]? :=λk hk=>heap_alloc_old wa.drew _ hk;refine⟨⟨rfl,rfl,rfl,by simp,λk wP _=>hblk k wP⟩,n _ _ _ ?_ ⟨Cu,.inr ⟨wa.heap.size,0,_,_,by rw[aa],.inr ⟨au _,by simp⟩,heap_alloc_new wa.drew _,by rw[aa];omega,iC,?_,?_⟩⟩ (.inr ⟨_,rfl,hk.size⟩)⟩
      ·exact⟨hk.os,hk.tape,hk.output,by have:=hk.size;simp;omega,λk AN _=>(hblk k (av (hX k AN) hk.size)).trans (hk.block k AN),λk h=>.inl h,
        λk h=>h.elim (λh=>by have:=hX k h;have:=hk.size;simp;omega) (λh=>h.2)⟩
      ·simp only[uu,kM,size_zeroCells,wZ,Ws,si,<-jf];rw[fe];apply cR;omega
      ·simp only[sF,List.drop_zero,ao,dO];rw[<-ao,aa,jf,<-Ws,<-si,<-aa];exact sZ
section
variable {x : Value} {row : List Value}
theorem XP (own:Ow w X e k v rows) (hX: ∀k,X k->k<w.heap.size) (he:nF P t e k bytes=true) (hx:x.cells.toList=row) (hk:(row.length==k)=true)
  (h1:row.all one=true) (hb:(rows.length+1)*bytes<=140737488355328) (hl:rows.length+1<=2^63-1)
  (n: ∀v' w' X',dY (eT v) X w X' w'->Ow w' X' e k v' (rows++[row])->(v'.ownBlock=v.ownBlock\/ ∃g,v'.ownBlock=some g/\w.heap.size<=g)->N v' w' X'):
  eV P R X w m (gR t e k 1 #[(0,x)]) λs w1 X1=>eV P R X1 w1 true (gu t e k bytes ty v s) N:=by
 obtain⟨hu,ik,Fa,z,hi,Jn,wZ⟩:=mh he;have af:row.length=k:=by simpa using hk
 have JL:x.cells.size=k:=by rw[<-af,<-hx,fw]
 refine B9 (rows:=[row]) x.cells z hX hu Jn zQ zQ ?_ (by simpa using af) rfl gQ λs w1 X1 ax F9=>?_
 ·simp only[Nat.one_mul];exact Fk JL sQ
 ·refine Rs (dq:=[row]) he ax.has (own.mv ax.mv) F9.sl (by simpa using h1) zQ zQ λv2 w2 X2 hg ho dh=>?_;refine n v2 w2 X2 ((dY.nz ax (eT v)).trans hg) ho ?_;rcases dh with h|⟨g,h,dB⟩
  ·exact .inl h
  ·exact .inr ⟨g,h,ad ax.kp.size dB⟩
end
theorem CI: ∀{rows:List (List Value)} (i:Nat),(∀r∈rows,r.length=k)->(rows.drop i).flatten=rows.flatten.drop (i*k)
 |_,0,_=>by simp
 |[],i+1,_=>by simp
 |r::rows,i+1,h=>by
  have hr:=h r sQ;rw[List.drop_succ_cons,CI i λx hx=>h x (bG _ hx),cW,z6,Nat.add_comm,<-List.drop_drop,List.drop_left' hr]
theorem lM: ∀{rows:List (List Value)} (i:Nat),(∀r∈rows,r.length=k)->(rows.take i).flatten=rows.flatten.take (i*k)
 |_,0,_=>by simp
 |[],i+1,_=>by simp
 |r::rows,i+1,h=>by
  have hr:=h r sQ;have e1:r.take (k+i*k)=r:=az zQ;rw[List.take_succ_cons,cW,lM i λx hx=>h x (bG _ hx),cW,z6,Nat.add_comm,List.take_append,hr,e1,show k+i*k-k=i*k by omega]
variable {z : Int}
theorem XH {z':Int} {i:Nat} {N:Value->Prop} (h:Ow w X e k v rows) (hz:z=i) (uC:z'=i) (hi:i<=rows.length) (ht:P.underlying t=some (.slice (P.elem t)))
  (hs:(P.info? (P.elem t)).map (·.size)=some k)
  (n: ∀v',Ow w X e k v' (rows.take i)->v'.ownBlock=v.ownBlock->N v'):aX P X w (bJ t v none (some (.int .i64 z)) (some (.int .i64 z'))) N:=by
 subst hz;subst uC;have hq: ∃inf,P.info? (P.elem t)=some inf/\inf.size=k:=by
  cases hq:P.info? (P.elem t)with
  |none=>grind
  |some inf=>grind
 obtain⟨inf,hq,gd⟩:=hq;obtain⟨h1,⟨rfl,rfl⟩|⟨g,off,cap,cur,rfl,hx,hg,pL,iC,iN,uG⟩⟩:=h
 ·simp only[br,Nat.le_zero] at hi;subst hi;have nQ: ∀wa:World,(bJ t (.slice none 0 0) none (some (.int .i64 ((0:Nat):Int))) (some (.int .i64 ((0:Nat):Int)))).run P wa= .ok (.slice none 0 0) wa:=λwa=>by
   rw[run_sliceAt_slice wa t _ _ _ _ ht,show((0:Nat):Int)=0 from rfl,run_slice_hm wa t none 0 0 ht .i64 .i64 0 0 zQ zQ zQ];simp[sizeOf,typeInfo,hq,sliced]
  exact bF nQ (n _ (Ow.nil w X e k) rfl)
 ·have hlen:(rows.take i).length=i:=by rw[aB];omega
  have nQ: ∀wa:World,(bJ t (.slice (some ⟨g,off,none⟩) rows.length cap) none (some (.int .i64 (i:Int))) (some (.int .i64 (i:Int)))).run P wa= .ok (.slice (some ⟨g,off,none⟩) (rows.take i).length i) wa:=λwa=>by
   rw[run_sliceAt_slice wa t _ _ _ _ ht,run_slice_hm wa t _ _ cap ht .i64 .i64 i i zQ zQ zQ,hlen];simp[sizeOf,typeInfo,hq,gd,sliced,oL]
  refine bF nQ (n _ ⟨λr hr=>h1 r (List.mem_of_mem_take hr),.inr ⟨g,off,i,cur,rfl,hx,hg,by omega,by omega,?_,?_⟩⟩ rfl)
  ·have:=cR k (ad hi pL);omega
  ·rw[lM i h1,<-uG,List.take_take,hlen,Nat.min_eq_left (cR k hi)]
variable {b : Nat} {A : XS}
theorem dK.eH {κ α:Type} [DecidableEq κ] {kv:κ->Value} {rd:World->XS->Value->α->Prop} {l:List (κ×α)} {e:TypeId} (h:dK w X A b kv rd l) (hr:aH w F g cs e):b≠g:=by
 rintro rfl;obtain⟨es,c,h1,_⟩:=h;have:=h1.2.1;rw[hr.2] at this;cases this
theorem aH.eH {pE:List Value} {e e':TypeId} (h:aH w X b cs e) (hr:aH w F g pE e') (he:decide (e≠e')=true):b≠g:=by
 rintro rfl;have:=h.2;rw[hr.2] at this
 grind
theorem dK.aiK {κ α:Type} [DecidableEq κ] {kv:κ->Value} {rd:World->XS->Value->α->Prop} {l:List (κ×α)} (h:dK w X A b kv rd l) (hr:Ow w F e k v rows):v.ownBlock≠some b:=λhg=>by
 obtain⟨cs,h2⟩:=hr.tag hg;obtain⟨es,c,h1,_⟩:=h;have:=h1.2.1
 grind
section
variable {t : TypeId}
theorem MU {l:List Value} (hX: ∀k,X k->k<w.heap.size) (hz:(P.info? t).bind (·.zero)=some (.agg l.toArray))
  (n: ∀b w' X',w.heap.size<=b->ai X w X' w'->aH w' X' b l t->N (ptr b 0) w' X'):eV P R X w m (fZ t true (.tuple #[])) N:=by
 intro wa hk;unfold jP;have XA: ∀w,(zeroValue t).run P w= .ok (.agg l.toArray) w:=by
  intro w;cases hi:P.info? t with
  |none=>grind
  |some inf=>
   have uC:inf.zero=some (.agg l.toArray):=by simpa [hi] using hz
   simp[zeroValue,typeInfo,hi,uC]
 have hr:(fZ t true (.tuple #[])).run P wa= .ok (ptr wa.heap.size 0) (wa.alloc (.cells l.toArray t)):=by simp[fZ,XA,newVar,newRow,Value.cells]
 simp only[vS,bq,hr,aN,bO];have hx:Ext wa (wa.alloc (.cells l.toArray t)):=Ext.alloc _ _;exact⟨Step.eZ hx,n _ _ _ hk.size (ai.eZ hX hk hx) ⟨.inr ⟨au _,by simp⟩,by simpa using heap_alloc_new wa _⟩⟩
theorem agh {c:Nat} (hX: ∀k,X k->k<w.heap.size) (he:nF P t e k bytes=true) (hz:z=c) (hc:c<=2^32) (hb:bytes<=1024) (hk:k<=1024)
  (n: ∀v w' X',ai X w X' w'->Own w' X' w.heap.size e k v []->N v w' X'):eV P R X w m (BP t (I 0) (I z)) N:=by
 subst hz;obtain⟨hu,ik,Fa,z,hi,Jn,wZ⟩:=mh he;intro wa af;unfold jP;cases hq:P.info? e with
 |none=>simp[hq] at hi
 |some ie=>
  cases tG:ie.zero with
  |none=>simp_all
  |some z'=>
   simp only[hq,tG,cM,aY,aj,cP] at hi;obtain⟨h1,h2,h3⟩:=hi;have WQ:ie.bytes*c<=281474976710656:=by
    have:=xX (show ie.bytes<=1024 by omega) hc;omega
   obtain⟨w',hr,tU,hg⟩:=run_make_own (P:=P) wa w.heap.size t e ie z' k hu hq tG h1 .i64 .i64 c WQ (by simp only[maxLen];omega) af.size;have jS:(BP t (I 0) (I (c:Int))).run P wa= .ok (.slice (some ⟨wa.heap.size,0,none⟩) 0 c) w':=hr;simp only[vS,bq,jS,aN,bO];have hx:Ext wa w':=⟨hg.os,hg.tape,hg.output,hg.size,λk hk _=>hg.block k hk sQ⟩;refine⟨Step.eZ hx,n _ _ _ (ai.eZ hX af hx) ⟨by simp,tU,λg JJ=>?_⟩⟩;simp only[im,aj] at JJ;subst JJ;exact .inr ⟨au _,(tU.lt _ rfl).2⟩
end
structure Ft (w0:World) (F0:XS) (w:World) (X F:XS):Prop where
 s:ai (out F0 w0) w0 X w
 bA: ∀k,F k->X k
 v: ∀k,F k->F0 k\/w0.heap.size<=k
variable {w0 : World}
section
variable {F0 F' G : XS} {Q : Value -> World -> World -> Prop} {f : FuncId} {args : Array Value}
def Ft.init (h: ∀k,F0 k->k<w.heap.size):Ft w F0 w (bK w) F0:=⟨ai.out _ _,h,λ_ h=>.inl h⟩
def Ft.since (h:Ft w0 F0 w X F) (hs:ai X w X' w'):Ft w0 F0 w' X' F:=⟨h.s.trans hs,λk hk=>hs.sub k (h.bA k hk),h.v⟩
theorem Ft.no (h:Ft w0 F0 w X F) (hk:F k) (h0:out F0 w0 k):False:=by
 rcases h.v k hk with h1|h1
 ·exact h0.2 h1
 ·have:=h0.1;omega
theorem Ft.dX (h:Ft w0 F0 w X F) (c:dY G X w X' w') (hG: ∀k,G k->F k) (hF: ∀k,F' k->F k\/(X' k/\w.heap.size<=k)):Ft w0 F0 w' X' F':=by
 refine⟨h.s.dX c λk h0 hk=>h.no (hG k hk) h0,λk hk=>?_,λk hk=>?_⟩
 ·rcases hF k hk with h1|h1
  ·exact c.sub k (h.bA k h1)
  grind
 ·rcases hF k hk with h1|h1
  ·exact h.v k h1
  ·right;have:=h1.2;have:=h.s.kp.size;omega
theorem Ft.less (h:Ft w0 F0 w X F) (hF: ∀k,F' k->F k):Ft w0 F0 w X F':=⟨h.s,λk hk=>h.bA k (hF k hk),λk hk=>h.v k (hF k hk)⟩
theorem Ft.more (h:Ft w0 F0 w X F) (hF: ∀k,F' k->F k\/(X k/\w0.heap.size<=k)):Ft w0 F0 w X F':=by
 refine⟨h.s,λk hk=>?_,λk hk=>?_⟩
 ·rcases hF k hk with h1|h1
  ·exact h.bA k h1
  grind
 ·rcases hF k hk with h1|h1
  ·exact h.v k h1
  omega
theorem Ft.call (hT:Ft w0 F0 w X F) (h:Ct P f args w X G Q) (hf:enters P f=true) (hG: ∀k,G k->F k)
  (k: ∀v wa w' X',Q v wa w'->w.heap.size<=wa.heap.size->(∀k,made wa w' k->X' k)->Ft w0 F0 w' X' (λk=>F k\/made wa w' k)->dY G X w X' w'->N v w' X'):eC P R X w true f args N:=by
 refine yP h hf hT.s.has (λq hq=>hT.bA q (hG q hq)) λv wa w' X' hq hle gv DG hc=>k v wa w' X' hq hle gv ?_ hc;exact hT.dX hc hG λq hq=>hq.imp id λhm=>⟨gv q hm,ad hle hm.1⟩
def Ft.fin {Q:Value->World->Prop} (h:Ft w0 F0 w X F) (hq: ∀wa,Kp X w wa->Q v wa):fin (uF F0 w0 Q) X w v:=aci h.s hq
theorem Ft.ju (h:Ft w0 F0 w X F) {wa:World} (hk:Kp X w wa) (hF: ∀k,F' k->F k): ∀k,F' k->F0 k\/made w0 wa k:=λk af=>by
 rcases h.v k (hF k af)with h1|h1
 ·grind
 ·exact .inr ⟨h1,av (h.s.has k (h.bA k (hF k af))) hk.size⟩
def Ft.C8 (h:Ft w0 nX w X F):ai (aL.bK w0) w0 X w:=
 ⟨⟨h.s.kp.os,h.s.kp.tape,h.s.kp.output,h.s.kp.size,λk af=>h.s.kp.block k ⟨af,λh=>h.elim⟩⟩,λk af=>h.s.sub k ⟨af,λh=>h.elim⟩,h.s.has⟩
def DK (w0:World) (X:XS):XS:=λk=>X k/\w0.heap.size<=k
def Ft.new (h:Ft w0 F0 w X F):Ft w0 F0 w X (λk=>F k\/DK w0 X k):=h.more λk hk=>hk.imp id λh=>h
def Ft.Pb (h:Ft w0 nX w X F):Ft w0 nX w X (DK w0 X):=h.more λk hk=>.inr hk
def dY.jd (c:dY G X w X' w') (h: ∀k,A k->X k/\ ¬G k):Mv A w A w':=λk hk _=>⟨hk,c.block k (h k hk).1 (h k hk).2⟩
def Kp.jd (hk:Kp X w w') (h: ∀k,A k->X k):Mv A w A w':=λk af _=>⟨af,hk.block k (h k af)⟩
def ai.gV (hs:ai X w X' w') (h: ∀k,A k->X k):Mv A w A w':=λk af _=>⟨af,hs.kp.block k (h k af)⟩
end
theorem api (hT:Ft w0 nX w X (DK w0 X)) (hO:Ow w (DK w0 X) e k v rows) (he:nF P t e k bytes=true)
  (src:Sl w X k s dq) (h1: ∀r∈dq,∀u∈r,one u=true) (hb:(rows.length+dq.length)*bytes<=140737488355328) (hl:rows.length+dq.length<=2^63-1)
  (n: ∀v' w' X',Ft w0 nX w' X' (DK w0 X')->Ow w' (DK w0 X') e k v' (rows++dq)->dY (eT v) X w X' w'->(v'.ownBlock=v.ownBlock\/ ∃g,v'.ownBlock=some g/\w.heap.size<=g)->N v' w' X'):
  eV P R X w true (gu t e k bytes ty v s) N:=by
 refine Rs he hT.s.has (hO.mono hT.bA) src h1 hb hl λv' w' X' c ho dh=>?_;have hT':Ft w0 nX w' X' (DK w0 X'):=Ft.Pb (F:=DK w0 X) (hT.dX c (λk hk=>(hO.bA hk).1) λk hk=>.inl hk);refine n v' w' X' hT' (ho.tight.mono λk hk=>⟨(ho.bA hk).1,?_⟩) c dh;have af:v'.ownBlock=some k:=hk;rcases dh with e|⟨g,e,dB⟩
 ·exact(hO.bA (e▸af)).1.2
 ·rw[af] at e;have:k=g:=Option.some.inj e;have:=hT.s.kp.size;omega
def Dj (A B:XS):Prop:= ∀k,A k->B k->False
variable {B : XS}
theorem Dj.symm (h:Dj A B):Dj B A:=λk a b=>h k b a
variable {B' : XS}
def Dj.grow {C:XS} (h:Dj A B) (hB: ∀k,B' k->B k\/C k) (hc:Dj A C):Dj A B':=λk a b=>(hB k b).elim (h k a) (hc k a)
theorem Dj.less {A':XS} (h:Dj A B) (ha: ∀k,A' k->A k) (hb: ∀k,B' k->B k):Dj A' B':=λk a b=>h k (ha k a) (hb k b)
end Go.aL
namespace Go.aL
variable {P : Program} {R : Ending -> World -> Prop} {X : XS} {w : World} {m : Bool}
def IL (w:World) (X:XS) (b:Nat) (cs:List Value) (ty:TypeId):Prop:=X b/\w.heap[b]? =some (.cells cs.toArray ty (cs.length,cs.length+1))
variable {ty : TypeId} {cs : List Value} {b : Nat}
theorem IL.cells (h:IL w X b cs ty):Cells w X b 0 cs:=⟨h.1,_,_,_,h.2,λj v hj=>by grind⟩
theorem IL.since {Y:XS} {w':World} (h:IL w X b cs ty) (hs:ai X w Y w'):IL w' Y b cs ty:=⟨hs.sub _ h.1,by rw[hs.kp.block b h.1];exact h.2⟩
theorem abc (wa:World) (g n:Nat) (cs:Array Value) (e:TypeId) (h:wa.heap[g]? =some (.cells cs e (0,0))):(wa.freeze ⟨g,n,none⟩ 1).heap=wa.heap.setIfInBounds g (.cells cs e (n,n+1)):=by
 unfold vz;rw[if_neg dQ];obtain⟨hl,he⟩:=Array.getElem?_eq_some_iff.1 h;apply Array.ext
 ·simp
 ·intro i h1 h2;simp only[Array.getElem_modify,Array.getElem_setIfInBounds];split
  ·simp_all
  ·rename_i hi;exact(Array.getElem_setIfInBounds_ne (by simpa using h2) hi).symm
variable {N : Value -> World -> XS -> Prop} {e t : Nat}
theorem ak9 {g n c:Nat} (h:aH w X g cs e) (ht:P.underlying t=some (.slice e)) (he:P.underlying e=some (.int .u8)) (hX: ∀k,X k->k<w.heap.size)
  (k: ∀w' X',dY (· =g) X w X' w'->IL w' X' g cs e->N (.slice (some ⟨g,0,none⟩) n c) w' X'):eV P R X w true (convert t t (.slice (some ⟨g,0,none⟩) n c)) N:=by
 intro wa hk;have hb:=(h.kp hk).2;have cB:=(Array.getElem?_eq_some_iff.1 hb).1;have hsh:wa.shape? g=some (e,cs.length):=by unfold World.shape?;rw[hb];simp
 have hr:(convert t t (.slice (some ⟨g,0,none⟩) n c)).run P wa= .ok (.slice (some ⟨g,0,none⟩) n c) (wa.freeze ⟨g,cs.length,none⟩ 1):=by
  simp[convert,run_underlying ht,run_underlying he,markStringish,hsh]
 have hh:=abc wa g cs.length cs.toArray e hb;unfold jP;simp only[vS,bq,hr,aN,bO];have wO:(wa.freeze ⟨g,cs.length,none⟩ 1).os=wa.os:=by unfold vz;rw[if_neg dQ]
 have htp:(wa.freeze ⟨g,cs.length,none⟩ 1).tape=wa.tape:=by unfold vz;rw[if_neg dQ]
 have wG:(wa.freeze ⟨g,cs.length,none⟩ 1).output=wa.output:=by unfold vz;rw[if_neg dQ]
 have gd:(wa.freeze ⟨g,cs.length,none⟩ 1).heap.size=wa.heap.size:=by rw[hh];simp
 have hblk: ∀q,q≠g->(wa.freeze ⟨g,cs.length,none⟩ 1).heap[q]? =wa.heap[q]? :=λq hq=>by rw[hh,dL,if_neg (Ne.symm hq)]
 refine⟨⟨wO,htp,wG,by omega,λq _ hx=>hblk q λe=>hx (e▸h.1)⟩,k _ _ ?_ ⟨.inl h.1,by rw[hh,dL,if_pos rfl,if_pos cB]⟩⟩;refine⟨wO.trans hk.os,htp.trans hk.tape,wG.trans hk.output,by rw[gd];exact hk.size,λq hx ct=>(hblk q ct).trans (hk.block q hx),λq h=>.inl h,λq h=>?_⟩;rw[gd];exact h.elim (λh=>av (hX q h) hk.size) (λh=>by omega)
variable {v : Value} {o : Nat}
theorem apj (h:IL w X b cs ty) (ht:(P.info? t).map (·.size)=some 1)
  (hl:o<cs.length) (h1:one v=true) (hX: ∀k,X k->k<w.heap.size)
  (n: ∀w' X',dY (· =b) X w X' w'->IL w' X' b (cs.set o v) ty->N undef w' X'):eU P R X w true (st1 t 1 (ptr b o) v) N:=by
 intro wa hk;have hb:wa.heap[b]? =some (.cells cs.toArray ty (cs.length,cs.length+1)):=by rw[hk.block b h.1];exact h.2
 have cB:=(Array.getElem?_eq_some_iff.1 hb).1;have hv:v.cells= #[v]:=sL h1;have Cv:wa.cell? ⟨b,o,none⟩=some cs[o]:=by simp[fj,hb,hl]
 have arc:wa.frozen? ⟨b,o,none⟩=false:=by simp[World.frozen?,hb];omega
 have fP:(store ⟨b,o,none⟩ v).run P wa= .ok () (wa.setRow b (cs.toArray.setIfInBounds o v)):=by
  rw[run_store P wa _ v _ aQ,Cv];simp[arc,setCell_eq_setRow wa b o cs.toArray ty _ v hb]
 have hr:(Instr.storeAt t (ptr b o) v).run P wa= .ok () (wa.setRow b (cs.toArray.setIfInBounds o v)):=by
  cases hi:P.info? t with
  |none=>grind
  |some i=>
   simp only[hi,aY,aj] at ht;simp[Instr.storeAt,Instr.sureAddr,ej,storeVar,sizeOf,typeInfo,hi,ht,hv,storeCells,oL]
   grind
 unfold st1 jP;simp only[uS,bq,hr,aN,bO];have gd:(wa.setRow b (cs.toArray.setIfInBounds o v)).heap.size=wa.heap.size:=by simp
 refine⟨⟨rfl,rfl,rfl,by omega,λk _ hx=>setRow_other wa b k _ λe=>hx (e▸h.1)⟩,n _ _ ?_ ⟨.inl h.1,?_⟩⟩
 ·refine⟨hk.os,hk.tape,hk.output,by rw[gd];exact hk.size,λk hx ct=>?_,λk h=>.inl h,λk h=>?_⟩
  ·rw[setRow_other wa b k _ ct,hk.block k hx]
  ·rw[gd];exact h.elim (λh=>av (hX k h) hk.size) (λh=>by omega)
 ·have:=setRow_heap wa b cs.toArray (cs.toArray.setIfInBounds o v) ty _ hb;simp_all
def B4 (l:List Nat):ByteArray:=⟨(l.map UInt8.ofNat).toArray⟩
theorem UX (l:List Nat):(B4 l).size=l.length:=by simp[B4,ByteArray.size]
theorem Sy {src dst cap len:Nat} {l:List Nat} (hlen:len=l.length) (hc:Cells w X b o (l.map λx:Nat=>ay .u8 x)) (hs:P.underlying src=some (.slice e)) (he:P.underlying e=some (.int .u8)) (hd:P.underlying dst=some .string)
  (hX: ∀k,X k->k<w.heap.size) (n: ∀w' X',ai X w X' w'->N (.string (B4 l)) w' X'):eV P R X w m (convert src dst (.slice (some ⟨b,o,none⟩) len cap)) N:=by
 subst hlen;intro wa hk;have hr:=run_convert_bytes_arg (P:=P) wa src e hs he b o l.length cap (l.map λx:Nat=>(x:Int)) sQ (λi hi=>by
  have:=(hc.kp hk).range i (.int .u8 ((l[i]:Nat):Int)) (by simp[hi]);simp_all) dst hd
 have e1:strOfNums (l.map λx:Nat=>(x:Int))=B4 l:=by
  unfold strOfNums B4;simp
 rw[e1] at hr;unfold jP;simp only[vS,bq,hr,aN,bO];have hx:=Ext.refl wa;exact⟨Step.eZ hx,n _ _ (ai.eZ hX hk hx)⟩
theorem Zh {t:TypeId} {a b:ByteArray} {N:Value->Prop} (h:a.size+b.size<=2^62) (k:N (.string (a++b))):aX P X w (binOp .add t (.string a) (.string b)) N:=
 bF (λwa=>by
  have:=run_string_add_sum (P:=P) wa a b zQ;assumption) k
theorem apk {k bytes ty:Nat} {s:Value} {rows:List (List Value)} {m':Bool} (hX: ∀k,X k->k<w.heap.size) (he:nF P t e k bytes=true) (src:Sl w X k s rows) (h1: ∀r∈rows,∀u∈r,one u=true)
  (hb:rows.length*bytes<=140737488355328) (hl:rows.length<=2^63-1)
  (n: ∀v w' X',ai X w X' w'->Ow w' (DK w X') e k v rows->N v w' X'):eV P R X w m (gR t e k 0 #[]) λa w1 X1=>eV P R X1 w1 m' (gu t e k bytes ty a s) N:=by
 obtain⟨hu,ik,Fa,z,hi,Jn,wZ⟩:=mh he;cases hq:P.info? e with
 |none=>simp[hq] at hi
 |some ie=>
  cases tG:ie.zero with
  |none=>simp[hq,tG] at hi
  |some z'=>
   simp only[hq,tG,cM,aY,aj,cP] at hi;obtain⟨rfl,rfl,rfl⟩:=hi;intro wa hk;have hr:(jh t 0 #[]).run P wa= .ok (.slice (some ⟨wa.heap.size,0,none⟩) 0 0) (wa.alloc (.cells #[] e)):=by
    simp[jh,run_underlying hu,sizeOf,typeInfo,hq,Instr.fill,newRow];have KL: ∀f:Nat->Value,Array.map f (Array.range 0)= #[]:=λf=>Array.eq_empty_of_size_eq_zero sQ;rw[KL]
   unfold gR jP;simp only[vS,bq,hr,aN,bO];have hx:Ext wa (wa.alloc (.cells #[] e)):=Ext.alloc _ _;have ax:=ai.eZ hX hk hx;refine⟨Step.eZ hx,?_⟩;intro wb pe;unfold gu jP;have ard:=(src.since ax).kp pe;have GR:wb.heap[wa.heap.size]? =some (.cells #[] e (0,0)):=by
    rw[pe.block _ (.inr ⟨au _,by simp⟩)];exact heap_alloc_new wa _
   have gd:=pe.size;have Yb:=ax.kp.size;rcases ard.src with⟨rfl,rfl⟩|⟨a,c,rfl,Cv⟩
   ·have jD:=Aa (P:=P) (w:=wb) t ty e ie hu hq ⟨wa.heap.size,0,none⟩ 0 0 (au _);simp only[vS,bq,jD,aN,bO];have bB:=ai.eZ ax.has pe (Ext.refl wb);exact⟨Step.eZ (Ext.refl _),n _ _ _ (ax.trans bB) ⟨by simp,.inr ⟨wa.heap.size,0,0,#[],rfl,⟨.inl (.inr ⟨au _,by simp⟩),hk.size⟩,GR,au _,aq _,by simp,by simp⟩⟩⟩
   ·have si:rows.flatten.length=rows.length*ie.size:=lG src.1;by_cases h0:rows=[]
    ·subst h0;have jD:=z8 (P:=P) (w:=wb) t ty e ie hu hq wa.heap.size 0 0 0 #[] GR a 0 c [] sQ sQ sQ (au _) sQ;have e0:wb.setRow wa.heap.size (#[].toList.take (0+0*ie.size)++[]++ #[].toList.drop (0+0*ie.size+([]:List Value).length)).toArray=wb:=by
      have:=setRow_self wb wa.heap.size #[] e (0,0) GR;simpa using this
     rw[e0] at jD;have DD:(ff #[t,t] ty #[.slice (some ⟨wa.heap.size,0,none⟩) 0 0,.slice (some a) ([]:List (List Value)).length c]).run P wb= .ok (.slice (some ⟨wa.heap.size,0,none⟩) 0 0) wb:=jD;simp only[vS,bq,DD,aN,bO];have bB:=ai.eZ ax.has pe (Ext.refl wb);exact⟨Step.eZ (Ext.refl _),n _ _ _ (ax.trans bB) ⟨by simp,.inr ⟨wa.heap.size,0,0,#[],rfl,⟨.inl (.inr ⟨au _,by simp⟩),hk.size⟩,GR,au _,aq _,by simp,by simp⟩⟩⟩
    ·have Yq:0<rows.length:=List.length_pos_iff.2 h0;have jD:=run_append_grow (P:=P) wb t ty e ie z' hu hq tG ⟨wa.heap.size,0,none⟩ 0 0 [] sQ sQ a rows.length c rows.flatten si Cv zQ zQ (growslice_fits zQ (by simpa using hb));simp only[fe] at jD;simp only[vS,bq,jD,aN,bO];have dB:=grownCap_ge wb rows.length 0 e;have iC:grownCap wb rows.length 0 e<=maxLen:=grownCap_le_maxLen wb _ 0 e hl;have W9:Ext wb (wb.drew.alloc (.cells ([].toArray++rows.flatten.toArray++jK z'.cells (grownCap wb rows.length 0 e-rows.length)) e)):=⟨rfl,rfl,rfl,by simp,λk hk _=>heap_alloc_old wb.drew _ hk⟩;have gv:w.heap.size<=wb.heap.size:=ad Yb gd;refine⟨Step.eZ W9,n _ _ _ (ax.trans (ai.eZ ax.has pe W9)) ⟨src.1,.inr ⟨wb.heap.size,0,_,_,rfl,⟨.inr ⟨au _,by simp⟩,gv⟩,heap_alloc_new wb.drew _,dB,iC,?_,?_⟩⟩⟩
     ·simp only[uu,kM,size_zeroCells,wZ,si,br,fe,<-jf];apply cR;omega
     ·simp only[sF,List.drop_zero,cC];rw[<-si];exact sZ
variable {o' : Nat}
theorem pM (h:aH w X b cs ty) (L5:o'=o) (ht:(P.info? t).map (·.size)=some 1)
  (hl:o<cs.length) (h1:one v=true) (hX: ∀k,X k->k<w.heap.size)
  (n: ∀w' X',dY (· =b) X w X' w'->aH w' X' b (dr cs o [v]) ty->N undef w' X'):eU P R X w true (st1 t 1 (ptr b o') v) N:=by
 subst L5;have hv:=sL h1;refine D4 h ht zQ (by rw[hv];rfl) gQ hX λw' X' c hr=>n w' X' c ?_
 grind
theorem FU {sz:Nat} (h:aH w X b cs ty) (L5:o'=o) (ht:(P.info? t).map (·.size)=some sz)
  (hl:o+sz<=cs.length) (hv:v.cells.size=sz) (h1:v.cells.toList.all one=true) (hX: ∀k,X k->k<w.heap.size)
  (n: ∀w' X',dY (· =b) X w X' w'->aH w' X' b (dr cs o v.cells.toList) ty->N undef w' X'):eU P R X w true (st1 t sz (ptr b o') v) N:=by
 subst L5;exact D4 h ht hl hv h1 hX n
end Go.aL
namespace Go.aL
variable {P : Program} {R : Ending -> World -> Prop} {X : XS} {w : World} {m : Bool}
variable {N : Value -> Prop} {i k : Nat} {z : Int} {v : Value} {t : TypeId}
theorem abN {rows:List (List Value)} (h:Sl w X k v rows) (hz:z=i) (hi:i<=rows.length) (ht:P.underlying t=some (.slice (P.elem t))) (hs:(P.info? (P.elem t)).map (·.size)=some k)
  (n: ∀v',Sl w X k v' (rows.drop i)->N v'):aX P X w (bJ t v (some (.int .i64 z)) none none) N:=by
 subst hz;obtain⟨h1,h2,base,cap,rfl,hc,hb,XD,iC⟩:=h;have hq: ∃inf,P.info? (P.elem t)=some inf/\inf.size=k:=by
  cases hq:P.info? (P.elem t)with
  |none=>grind
  |some inf=>grind
 obtain⟨inf,hq,gd⟩:=hq;have nQ: ∀wa:World,(bJ t (.slice base rows.length cap) (some (.int .i64 (i:Int))) none none).run P wa= .ok (sliced base i rows.length cap k) wa:=λwa=>by
  rw[run_sliceAt_slice wa t _ _ _ _ ht,run_slice_l wa t _ _ cap ht .i64 i zQ zQ];simp[sizeOf,typeInfo,hq,gd]
 refine bF nQ (n _ ?_);refine⟨λr hr=>h1 r (List.mem_of_mem_drop hr),by rw[bR];omega,_,cap-i,by unfold sliced;rw[bR],λct=>?_,λAl=>?_,by rw[bR];omega,by omega⟩
 ·have pK:i<rows.length:=by
   refine Nat.lt_of_not_le λhle=>ct (List.drop_of_length_le hle)
  obtain⟨b,o,rfl,iN⟩:=hc gQ;refine⟨b,o+i*k,?_,?_⟩
  ·rw[if_neg zQ];simp only[aY,aj];unfold Addr.add;split
   ·grind
   ·rfl
  ·rw[aL.CI i h1];obtain⟨hx,c,ty,fr,dT,BF⟩:=iN;exact⟨hx,c,ty,fr,dT,λj v hj=>by rw[gq] at hj;have:=BF _ _ hj;rwa [<-Nat.add_assoc] at this⟩
 ·split at Al
  ·omega
  ·have:base=none:=by simpa using Al
   grind
variable {z' : Int} {cap j n : Nat}
theorem abM {a:Option Addr} {q:Nat} {z2:Int} (hz:z=i) (uC:z'=j) (Jn:z2=q) (hi:i<=j) (hj:j<=q) (hq:q<=cap) (ht:P.underlying t=some (.slice (P.elem t))) (hs:((P.info? (P.elem t)).map (·.size)).isSome=true)
  (h: ∀v,N v):aX P X w (bJ t (.slice a n cap) (some (.int .i64 z)) (some (.int .i64 z')) (some (.int .i64 z2))) N:=by
 subst hz;subst uC;subst Jn;obtain⟨k,hk⟩:=Option.isSome_iff_exists.1 hs;refine bF (v:=sliced a i j q k) (λwa=>?_) (h _);rw[run_sliceAt_slice wa t _ _ _ _ ht,run_slice_lhm wa t a n cap ht .i64 .i64 .i64 i j q zQ zQ zQ zQ];cases hq:P.info? (P.elem t)with
 |none=>grind
 |some inf=>
  have:inf.size=k:=by simpa [hq] using hk
  simp[sizeOf,typeInfo,hq,this]
variable {g off : Nat}
theorem Xt (hz:z=i) (uC:z'=j) (hi:i<=j) (hj:j<=cap) (hic:i<cap) (ht:P.underlying t=some (.slice (P.elem t))) (hs:(P.info? (P.elem t)).map (·.size)=some k)
  (h:N (.slice (some ⟨g,off+i*k,none⟩) (j-i) (cap-i))):aX P X w (bJ t (.slice (some ⟨g,off,none⟩) n cap) (some (.int .i64 z)) (some (.int .i64 z')) none) N:=by
 subst hz;subst uC;refine bF (λwa=>?_) h;rw[run_sliceAt_slice wa t _ _ _ _ ht,run_slice_lh wa t _ n cap ht .i64 .i64 i j zQ zQ zQ];cases hq:P.info? (P.elem t)with
 |none=>grind
 |some inf=>
  have:inf.size=k:=by simpa [hq] using hs
  have ct: ¬cap=i:=by omega
  simp[sizeOf,typeInfo,hq,sliced,this,oL,ct]
variable {bytes e ty : Nat}
theorem Xs {t:Nat} {s:Value} {cur:List Value} {dq:List (List Value)} {N:Value->World->XS->Prop} (he:nF P t e k bytes=true) (h:aH w X g cur e) (src:Sl w X k s dq) (h1: ∀r∈dq,∀u∈r,one u=true)
  (xf:n+dq.length<=cap) (IK:off+n*k+dq.length*k<=cur.length) (hX: ∀k,X k->k<w.heap.size)
  (nx: ∀w' X',dY (λk=>k=g) X w X' w'->aH w' X' g (dr cur (off+n*k) dq.flatten) e->N (.slice (some ⟨g,off,none⟩) (n+dq.length) cap) w' X'):
  eV P R X w true (gu t e k bytes ty (.slice (some ⟨g,off,none⟩) n cap) s) N:=by
 obtain⟨hu,ik,Fa,z,hi,Jn,wZ⟩:=mh he;intro wa hk;have hb:=(h.kp hk).2;have src:=src.kp hk;cases hq:P.info? e with
 |none=>grind
 |some ie=>
  cases tG:ie.zero with
  |none=>simp_all
  |some z'=>
   simp only[hq,tG,cM,aY,aj,cP] at hi;obtain⟨rfl,rfl,rfl⟩:=hi;unfold gu jP;rcases src.src with⟨rfl,rfl⟩|⟨a,c,rfl,Cv⟩
   ·have hr:=Aa (P:=P) (w:=wa) t ty e ie hu hq ⟨g,off,none⟩ n cap zQ;simp only[vS,bq,hr,aN,bO];have AN:=Ext.refl wa;have hs:=ai.eZ hX hk AN;refine⟨Step.eZ AN,nx _ _ (dY.nz hs _) ?_⟩;have:dr cur (off+n*ie.size) ([]:List (List Value)).flatten=cur:=by simp[dr]
    rw[this];exact h.since hs
   ·have si:dq.flatten.length=dq.length*ie.size:=lG src.1;have IB: ∀u∈dq.flatten,u.oneCell'=true:=λu hu=>by
     obtain⟨r,hr,hur⟩:=List.mem_flatten.1 hu;rw[<-P4];exact h1 r hr u hur
    have hr:=z8 (P:=P) (w:=wa) t ty e ie hu hq g off n cap cur.toArray hb a dq.length c dq.flatten si Cv IB xf (by rw[si,kM];omega);simp only[vS,bq,hr,aN,bO];have EZ: ∀k,k≠g->(wa.setRow g (dr cur (off+n*ie.size) dq.flatten).toArray).heap[k]? =wa.heap[k]? :=λk hk=>setRow_other wa g k _ hk;refine⟨⟨rfl,rfl,rfl,by simp,λk wP nf=>EZ k λe=>nf (e▸h.1)⟩,nx _ _ ⟨hk.os,hk.tape,hk.output,by simpa using hk.size,λk hx ct=>(EZ k ct).trans (hk.block k hx),λk h=>.inl h,
     λk h=>h.elim (λh=>by have:=hX k h;have:=hk.size;simp;omega) (λh=>h.2)⟩ ⟨.inl h.1,?_⟩⟩
    exact setRow_heap wa g cur.toArray _ e _ hb
def Zi (P:Program) (e:TypeId):Bool:=match(P.info? e).bind (·.zero)with
 |some z=>z.cells.toList.all one
 |none=>false
theorem Xu {t o:Nat} {cs:List Value} {tb:TypeId} {N:Value->World->XS->Prop} (h:aH w X g cs tb) (he:nF P t e k bytes=true) (hzo:Zi P e=true) (h0:0<n) (hl:o+n*k<=cs.length) (hX: ∀k,X k->k<w.heap.size)
  (nx: ∀w' X' zs,zs.length=n*k->dY (λk=>k=g) X w X' w'->aH w' X' g (dr cs o zs) tb->N (.tuple #[]) w' X'):
  eV P R X w true (mP #[t] ty #[.slice (some ⟨g,o,none⟩) n cap]) N:=by
 obtain⟨hu,ik,Fa,z,hi,Jn,wZ⟩:=mh he;intro wa hk;have hb:=(h.kp hk).2;cases hq:P.info? e with
 |none=>simp[hq] at hi
 |some ie=>
  cases tG:ie.zero with
  |none=>simp_all
  |some z'=>
   simp only[hq,tG,cM,aY,aj,cP] at hi;obtain⟨rfl,rfl,rfl⟩:=hi;have XA: ∀w,(zeroValue e).run P w= .ok z' w:=by
    intro w;simp[zeroValue,typeInfo,hq,tG]
   obtain⟨zs,aiL⟩: ∃zs,zs=(jK z'.cells n).toList:=⟨_,rfl⟩;have Xv:zs.length=n*ie.size:=by rw[aiL,fw,size_zeroCells,wZ]
   have Qf: ∀v∈zs,v.oneCell'=true:=λv hv=>by
    rw[aiL] at hv;simp only[jK,nk,List.mem_map,Array.toList_range,List.mem_range] at hv;obtain⟨q,Lo,rfl⟩:=hv;have cB:q % z'.cells.size<z'.cells.size:=Nat.mod_lt _ zQ;rw[getElem!_pos z'.cells _ cB];have:=hzo;simp only[Zi,hq,cM,tG,lp] at this;rw[<-P4];exact this _ sQ
   have fP:=run_storeCells_at P g o tb zs 0 cs.toArray wa hb (by simp[Xv];omega) Qf;simp only[z7] at fP;obtain⟨q,rfl⟩: ∃q,n=q+1:=⟨n-1,by omega⟩;have hr:(mP #[t] ty #[.slice (some ⟨g,o,none⟩) (q+1) cap]).run P wa= .ok (.tuple #[]) (wa.setRow g (dr cs o zs).toArray):=by
    simp only[mP];simp[run_underlying hu,XA,<-aiL,fP,dr]
   unfold jP;simp only[vS,bq,hr,aN,bO];have EZ: ∀k,k≠g->(wa.setRow g (dr cs o zs).toArray).heap[k]? =wa.heap[k]? :=λk hk=>setRow_other wa g k _ hk;refine⟨⟨rfl,rfl,rfl,by simp,λk wP nf=>EZ k λe=>nf (e▸h.1)⟩,nx _ _ zs Xv ⟨hk.os,hk.tape,hk.output,by simpa using hk.size,λk hx ct=>(EZ k ct).trans (hk.block k hx),λk h=>.inl h,
    λk h=>h.elim (λh=>by have:=hX k h;have:=hk.size;simp;omega) (λh=>h.2)⟩ ⟨.inl h.1,?_⟩⟩
   exact setRow_heap wa g cs.toArray _ tb _ hb
variable {P : Program}
variable {w : World} {args : Array Value} {fn : Func} {pl : gC}
theorem anH (hn:fn.ntmps=pl.n) (ajx:args.size<=pl.n) (zO:(pl.boxes.all λp=>decide (args.size<=p.1))=true):
  fE pl ⟨[],[]⟩ .start (mS args) (bK w) w { tmps:=args++cZ (fn.ntmps-args.size) undef,defers:=[] } w:=by
 have acB:(args++cZ (fn.ntmps-args.size) undef).size=pl.n:=by simp;omega
 have Df: ∀s,s<pl.n->(args++cZ (fn.ntmps-args.size) undef)[s]? =some (mS args s):=by
  intro s hs;rw[kD];split
  ·rename_i h1;simp[mS,pR,h1]
  ·rename_i h1;rw[jB,if_pos zQ];simp only[mS,pR];simp_all
 have KE: ∀b n,look pl.boxes b=some n->mS args b=undef:=by
  intro b n hb;have h1:=List.all_eq_true.1 zO _ (BW hb);simp only[decide_eq_true_eq] at h1;simp only[mS,pR];rw[List.getElem?_eq_none zQ];rfl
 exact {
  size:=acB
  defers:=rfl
  Ai:=λ_ hp=>(by cases hp)
  ext:=Kp.refl _ _
  xl:=λ_ hk=>hk
  qy:=λs hs=>Df s (tn hs).1
  sig:=λ_ hp=>(by cases hp)
  box:=λb n hb cells hc=>by rw[KE b n hb] at hc;cases hc
  inj:=λb b' n n' hb dT h1=>by rw[KE b n hb] at h1;cases h1
  conv:=λb n hb k hk=>by
   have h1:=List.all_eq_true.1 zO _ (BW hb);simp only[decide_eq_true_eq] at h1;rw[kD,if_neg zQ,jB] at hk;split at hk
   ·cases hk
   ·cases hk
  live:=λ_ hp=>(by cases hp)
  ptr:=λ_ hp=>(by cases hp) }
def Idle (P:Program) (g:FuncId):Prop:=enters P g=true/\ ∀gJ w,CallsD P g gJ .returning w λe u' w'=>(∃x,e= .returned x)/\u'= .returning/\w'=w
variable {w0 : World} {X : XS}
theorem fE.aside {ds:Bk} {env:Env} {a:Act} {d:Nat} (h:fE pl ds .start env X w0 a w) (hd:d<pl.n) (hb:look pl.boxes d=none) (hg:pl.j8 d=false):
  fE pl ds .start env X w0 (a.put (some d) v) w:=by
 have ne: ∀b n,look pl.boxes b=some n->b≠d:=λb n dT e=>by grind
 exact {
  size:=by simp[Act.put,h.size]
  defers:=h.defers
  Ai:=λp hp=>by
   obtain⟨ht,h2⟩:=h.Ai p hp;refine⟨?_,h2⟩;have ct:p.1≠d:=λe=>by grind
   rw[gp _ _ _ _ ct];exact ht
  ext:=h.ext
  xl:=h.xl
  qy:=λs hs=>by
   have sP:s≠d:=λe=>by grind
   rw[gp _ _ _ _ sP];exact h.qy s hs
  sig:=λ_ hp=>(by cases hp)
  box:=λb n dT cells hc=>by
   obtain⟨k,ty,h1,h2⟩:=h.box b n dT cells hc;exact⟨k,ty,by rw[gp _ _ _ _ (ne b n dT)];exact h1,h2⟩
  inj:=λb b' n n' h1 h2 h3 h4 k h5 h6=>h.inj b b' n n' h1 h2 h3 h4 k (by rwa [gp _ _ _ _ (ne b n h1)] at h5) (by rwa [gp _ _ _ _ (ne b' n' h2)] at h6)
  conv:=λb n dT k hk=>h.conv b n dT k (by rwa [gp _ _ _ _ (ne b n dT)] at hk)
  live:=λ_ hp=>(by cases hp)
  ptr:=λ_ hp=>(by cases hp) }
def isSimple:TI->Bool
 | .box .. =>true
 | .BU .. =>true
 | .zJ _=>true
 | .set .. =>true
 |_=>false
def C9:List TI->Env->Env
 |[],e=>e
 | .box b _ x::l,e=>C9 l (jR e b (.agg (x.ev e).cells))
 | .BU b x::l,e=>C9 l (jR e b (.agg #[x.ev e]))
 | .set d x::l,e=>C9 l (jR e d (x.ev e))
 |_::l,e=>C9 l e
theorem zq {jc:List PanicEntry->Env->World->XS->Prop} {next:Env->World->XS->Prop} : ∀(l:List TI) (env:Env),l.all isSimple=true->hU P jc next l env w X->
  hU P jc (λe w' X'=>e=C9 l env/\next e w' X') l env w X
 |[],env,_,h=>⟨rfl,h⟩
 |i::l,env,hs,h=>by
  rw[List.all_cons,aF] at hs;obtain⟨h1,h2⟩:=hs;cases i with
  |box b n x=>exact dJ.2 ⟨(dJ.1 h).1,zq l _ h2 (dJ.1 h).2⟩
  |BU b x=>exact dJ.2 ⟨(dJ.1 h).1,zq l _ h2 (dJ.1 h).2⟩
  |zJ b=>exact dJ.2 ⟨(dJ.1 h).1,zq l _ h2 (dJ.1 h).2⟩
  |set d x=>exact zq l _ h2 h
  |_=>cases h1
def vA:List Operand->Option (List Nat)
 |[]=>some []
 | .tmp b::l=>(vA l).map (b:: ·)
 |_::_=>none
def aiM:Value->Option Value
 | .agg ⟨[v]⟩=>some v
 |_=>none
def Rt:List Nat->Bool
 |[]=>true
 |b::l=>!yz l b&&Rt l
theorem Ox: ∀{l:List Operand} {cb:List Nat},vA l=some cb->l=cb.map .tmp
 |[],cb,h=>by simp only[vA,aj] at h;subst h;rfl
 |x::l,cb,h=>by
  cases x with
  |tmp b=>
   simp only[vA,Option.map_eq_some_iff] at h;obtain⟨c,h1,rfl⟩:=h;rw[Ox h1];rfl
  |const v=>simp[vA] at h
  |global v=>simp[vA] at h
  |func v=>simp[vA] at h
theorem acm {tmps:Array Value} : ∀(cb:List Nat),(∀b∈cb,∃k,tmps[b]? =some (ej k 0))-> ∃ks:List Nat,ks.length=cb.length/\ ∀(i:Nat) b,cb[i]? =some b-> ∃k,ks[i]? =some k/\tmps[b]? =some (ej k 0)
 |[],_=>⟨[],rfl,λi b h=>by simp at h⟩
 |b::cb,h=>by
  obtain⟨k,hk⟩:=h b sQ;obtain⟨ks,h1,h2⟩:=acm cb λc hc=>h c (bG _ hc);refine⟨k::ks,by simp[h1],λi c hc=>?_⟩;cases i with
  |zero=>simp only[List.getElem?_cons_zero,aj] at hc;subst hc;exact⟨k,rfl,hk⟩
  |succ i=>simpa using h2 i c aQ
theorem Oy: ∀{l:List Nat},Rt l=true->l.Nodup
 |[],_=>List.nodup_nil
 |b::l,h=>by
  simp only[Rt,aF,cX] at h;exact List.nodup_cons.2 ⟨λhm=>by
   rw[Ah.2 hm] at h
   grind,Oy h.2⟩
theorem S6 {α:Type} {cb:List Nat} {ks:List α} {p:Nat×α} (h:p∈cb.zip ks): ∃i:Nat,cb[i]? =some p.1/\ks[i]? =some p.2:=by
 obtain⟨i,hi,e⟩:=List.getElem_of_mem h;refine⟨i,?_⟩;have h2:(cb.zip ks)[i]? =some p:=by rw[aS hi,e]
 rw[tH] at h2;exact h2
structure Outside (ks:List Nat) (w wa:World):Prop where
 os:wa.os=w.os
 tape:wa.tape=w.tape
 output:wa.output=w.output
 size:w.heap.size<=wa.heap.size
 block: ∀k,k<w.heap.size-> ¬k∈ks->wa.heap[k]? =w.heap[k]?
theorem Outside.refl (ks:List Nat) (w:World):Outside ks w w:=⟨rfl,rfl,rfl,au _,λ_ _ _=>rfl⟩
variable {ks : List Nat}
theorem Outside.trans {a b c:World} (h:Outside ks a b) (k:Outside ks b c):Outside ks a c:=
 ⟨k.os.trans h.os,k.tape.trans h.tape,k.output.trans h.output,ad h.size k.size,λi hl hi=>(k.block i (av hl h.size) hi).trans (h.block i hl hi)⟩
theorem Outside.kp {wa:World} (h:Outside ks w wa) (k:Kp X w0 w) (hl: ∀i,X i->i<w.heap.size) (hX: ∀i,i∈ks-> ¬X i):Kp X w0 wa:=
 ⟨h.os.trans k.os,h.tape.trans k.tape,h.output.trans k.output,ad k.size h.size,λi hi=>(h.block i (hl i hi) λhm=>hX i hm hi).trans (k.block i hi)⟩
def QZ (P:Program) (pl:gC) (fn:Func) (R:Ending->World->Prop) (g:FuncId) (cb:List Nat) (cv:List (Option Value)) (RP:List PanicEntry->World->Prop):Prop:=
 ∀(ks:List Nat) (EY:List (Array Value)) ch w',ks.length=cb.length->EY.length=cb.length->ks.Nodup->(∀(i:Nat) k cells,ks[i]? =some k->EY[i]? =some cells-> ∃ty,w'.heap[k]? =some (.cells cells ty (0,0)))->
  (∀(i:Nat) v cells,cv[i]? =some (some v)->EY[i]? =some cells->cells= #[v])->(∀(i:Nat) b n cells,cb[i]? =some b->look pl.boxes b=some n->EY[i]? =some cells->cells.size=n)->(∀wa,Outside ks w' wa->RP ch wa)->
  CallsD P g (ks.map λk=>ej k 0).toArray (.panicking ch) w' λe u mi=>(∃x,e= .returned x)/\settle u= .returning/\ ∃v,R (.returned v) mi/\
   ∀tmps:Array Value,(∀(i:Nat) b k,cb[i]? =some b->ks[i]? =some k->tmps[b]? =some (ej k 0))->(results fn tmps).run P mi= .ok v mi
def Gg (R:Ending->World->Prop) (RP:List PanicEntry->World->Prop):Ending->World->Prop
 | .panicked ch,w=>RP ch w
 |e,w=>R e w
theorem agi {l:List Nat} (h: ∀(i j:Nat) k,l[i]? =some k->l[j]? =some k->i=j):l.Nodup:=
 List.pairwise_iff_getElem.2 λi j hi hj yD e=>by
  have:=h i j l[i] (aS hi) gQ;omega
def xZ (fn:Func):List Nat:=fn.results.toList.map λr=>match r with
 | .cell c _=>c
 | .tmp t=>t
def aiN (fn:Func):Bool:=fn.results.toList.all λr=>match r with
 | .cell _ _=>true
 | .tmp _=>false
def ftD (P:Program) (pl:gC) (fn:Func):Option FT:=
 if fn.ntmps==pl.n then match fn.body with
  |some (.seq (.region _ aeA false) (.seq (.region _ yV false) rest))=>match yV.toList with
   |[mk,df]=>match df.op,df.guard,df.dst with
    | .defer ⟨.value (.tmp d),⟨[]⟩,_⟩,none,none=>match Ia P pl aeA aeA.toList .start,Ia P pl yV [mk] .start,jM P pl rest with
     |some t0,some t1,some t2=>match t1 with
      |[.rd d' (.makeFunc (.func _) ⟨[]⟩ _) _ _]=>
       if d'==d&&pl.j8 d&&(xZ fn).all (λc=>pl.j8 c&&!yz t2.mk c&&!yz t2.wr c)&&aiN fn&&!(t2.wr.contains d)&&!fn.results.isEmpty then some ⟨.seq (.Bw t0) (.seq (.Bw t1) t2),(xZ fn).map Ex.t++[Ex.t d],[]⟩else none
      |_=>none
     |_,_,_=>none
    |_,_,_=>none
   |_=>none
  |_=>none
 else none
def HC (P:Program) (fn:Func) (R:Ending->World->Prop) (vs:List Value) (u:FrameMode) (w:World):Prop:=
 ∃(ps:List Value) (g:FuncId) (gJ:Array Value),vs=ps++[Value.func (.func g) #[] gJ]/\enters P g=true/\
  CallsD P g gJ u w λe' u' w'=> ∃x v,e'= .returned x/\settle u'= .returning/\
   (∀tmps:Array Value,(∀(i:Nat) c,(xZ fn)[i]? =some c->tmps[c]? =ps[i]?)->(results fn tmps).run P w'= .ok v w')/\R (.returned v) w'
def dP (P:Program) (fn:Func) (R:Ending->World->Prop) (vs:List Value):Ending->World->Prop
 | .returned _,w=>HC P fn R vs .returning w
 | .panicked ch,w=>HC P fn R vs (.panicking ch) w
 | .outgrown,_=>False
def nP:Ending->World->Prop:=λ_ _=>False
def aj0 (P:Program) (fn:Func) (R:Ending->World->Prop) (res:List Ex):lD
 | .normal,e,w,X| .ret,e,w,X=> ∀wa,Kp X w wa->HC P fn R (res.map (·.ev e)) .returning wa
 | .panic ch,e,w,X=> ∀wa,Kp X w wa->HC P fn R (res.map (·.ev e)) (.panicking ch) wa
 |_,_,_,_=>False
def anI (P:Program) (pl:gC) (fn:Func) (R:Ending->World->Prop) (args:Array Value) (w:World):Prop:=match ftD P pl fn with
 |some ft=>match ft.code with
  | .seq (.Bw t0) (.seq (.Bw t1) t2)=>hU P (λch _ w X=>pn nP ch w X) (λe w X=>hU P (λch _ w X=>pn nP ch w X) (λe w X=>den P t2 (aj0 P fn R ft.res) e w X) t1 e w X) t0 (mS args) w (bK w)
  |_=>False
 |none=>False
variable {R : Ending -> World -> Prop}
theorem Zj {f:FuncId} {V:Prop} (hf:P.funcs[f]? =some fn)
  (hs:(decide (args.size<=pl.n)&&pl.boxes.all λp=>decide (args.size<=p.1))=true) (hv:V=anI P pl fn R args w) (h:V):Calls P f args w R:=by
 subst hv;unfold anI at h;simp only[aF,decide_eq_true_eq] at hs;split at h;case h_2=>exact h.elim
 rename_i ft hc;unfold ftD at hc;split at hc;case isFalse=>cases hc
 rename_i hn;have mj:fn.ntmps=pl.n:=by simpa using hn
 split at hc;case h_2=>cases hc
 rename_i _ id0 aeA id1 yV rest hb;split at hc;case h_2=>cases hc
 rename_i _ mk df aeB;split at hc;case h_2=>cases hc
 rename_i _ _ _ d Zk aiO Zl Jk;split at hc;case h_2=>cases hc
 rename_i _ _ _ t0 t1 t2 wF BE qi;split at hc;case h_2=>cases hc
 rename_i _ d' g0 Cw ty ss;split at hc;case isFalse=>cases hc
 rename_i sM;simp only[aF,beq_iff_eq,cX,lp] at sM;obtain⟨⟨⟨⟨⟨KD,hgd⟩,hgc⟩,nu⟩,hwr⟩,ct⟩:=sM;subst KD;injection hc with hc
 subst hc;have hdw: ¬d'∈t2.wr:=λhm=>by simp[hm] at hwr
 have aiP:=anH (w:=w) mj hs.1 gQ;refine calls_of_wp_defers hf hb ?_
 let K:=aj0 P fn R ((xZ fn).map Ex.t++[Ex.t d'])
 have hnp: ∀{ch X w0 w'},Kp X w0 w'->pn nP ch w0 X->False:=λhk hq=>hq _ hk;have h0:hU P (λch _ w X=>pn nP ch w X) (λe w X=>hU P (λch _ w X=>pn nP ch w X) (λe w X=>den P t2 K e w X) [.rd d' (.makeFunc (.func g0) ⟨[]⟩ Cw) ty ss] e w X) t0 (mS args) w (bK w):=h;refine wp_seq (wp_region_list (P8 (P:=P) (pl:=pl) (ds:=⟨[],[]⟩) ?_ ?_ aeA.toList .start t0 _ _ _ _ _ wF (λ_ _ _ hp=>by cases hp) aiP h0));case refine_2=>exact λch a' w' dt X' eh _ hk _ hq=>(hnp hk hq).elim
 intro WO a1 w1 xm X1 L6 ax hd1;replace ax:=ax.drop
 show(Code.seq (Code.region id1 yV false) rest).wp P (bodyPostD P fn R) a1 w1
 refine wp_seq (wp_region_list ?_);rw[aeB];have h1:hU P (λch _ w X=>pn nP ch w X) (λe w X=>den P t2 (λex e' w' X'=>K ex e' w' X'/\ ∀s,¬s∈t2.wr->e' s=e s) e w X/\ ∃gJ,e d'= .func (.func g0) #[] gJ) [.rd d' (.makeFunc (.func g0) ⟨[]⟩ Cw) ty ss] xm L6 X1:=by
  obtain⟨v,hv,hq⟩: ∃v,Rd P X1 L6 (PX (FF xm ss) (.makeFunc (.func g0) ⟨[]⟩ Cw) ty) v/\den P t2 K (jR xm d' v) L6 X1:=hd1;refine⟨v,hv,mH t2 hq λex e w' X' _ he hk=>⟨hk,he⟩,?_⟩;have hr:(vS (cE (.func g0) (xk (FF xm ss) ⟨[]⟩) (xk (FF xm ss) Cw))).run P L6= .ok (.value v) L6:=hv L6 (Kp.refl _ _);rw[Sc,Sc] at hr;rw[mu];simp[vS,cE] at hr;exact⟨_,hr.symm⟩
 have h2:=P8 (P:=P) (pl:=pl) (ds:=⟨[],[]⟩) (ops:=yV) (Q:=λex a w=>match ex with
   | .normal=>wpList P yV (Exit.then (rest.wp P (bodyPostD P fn R)) (bodyPostD P fn R)) [df] a w
   |ex=>Exit.then (rest.wp P (bodyPostD P fn R)) (bodyPostD P fn R) ex a w) ?_ ?_ [mk] .start _ xm X1 L6 a1 w1 BE (λ_ _ _ hp=>by cases hp) ax h1
 ·assumption
 ·rintro cs2 a2 w2 Fm X2 w02 bB ⟨sk,gJ,pG⟩
  show wpList P yV _ [df] a2 w2
  have TO:a2.eval (.tmp d')= .func (.func g0) #[] gJ:=by
   have:=bB.qy d' hgd;simp[Act.eval,mZ,this,pG]
  have nQ:(execOp a2.eval df).run P w2= .ok (.defer { target:=.fn (.func g0) gJ,args:= #[] }) w2:=by
   simp[execOp,aiO,resolve,TO,lr]
  unfold wpList;have hw:cG df (yielded yV a2.tmps)=true:=by simp[cG,Zl]
  rw[if_pos hw];left;unfold Oper.wp;rw[nQ,BQ,Jk]
  show rest.wp P (bodyPostD P fn R) { a2 with defers:= { target:=.fn (.func g0) gJ,args:= #[] } ::a2.defers } w2
  rw[bB.defers];have xK:=bB.drop;have dp:fE pl ⟨[{ target:=.fn (.func g0) gJ,args:= #[] }],(xZ fn).map λc=>(c,Fm c)⟩ .start Fm X2 w02 { a2 with defers:=[{ target:=.fn (.func g0) gJ,args:= #[] }] } w2:=
   ⟨xK.size,rfl,λp hp=>by
    obtain⟨c,hc,rfl⟩:=List.mem_map.1 hp;have hg:=(hgc c hc).1.1;exact⟨bB.qy c hg,.inr hg⟩,xK.ext,xK.xl,xK.qy,xK.sig,xK.box,xK.inj,xK.conv,xK.live,xK.ptr⟩
  refine wp_mono (MF (pl:=pl) (ds:=⟨[{ target:=.fn (.func g0) gJ,args:= #[] }],(xZ fn).map λc=>(c,Fm c)⟩) rest t2 _ Fm X2 w02 _ w2 qi (λb dT p hp e=>?_) dp sk) λex a' w' hq=>?_
  ·obtain⟨c,hc,rfl⟩:=List.mem_map.1 hp;have h3:=(hgc c hc).1.2;have e:c=b:=e;rw[e,Ah.2 dT] at h3;cases h3
  have hcw: ∀c∈xZ fn,¬c∈t2.wr:=λc hc hm=>by
   have h3:=(hgc c hc).2;rw[Ah.2 hm] at h3;cases h3
  have close: ∀(e:Env) (u:FrameMode) (wx:World),u≠ .run->(∀s,¬s∈t2.wr->e s=Fm s)->(∀c∈xZ fn,a'.tmps[c]? =some (Fm c))->
    HC P fn R (((xZ fn).map Ex.t++[Ex.t d']).map (·.ev e)) u wx->Leaves P fn a'.tmps R [{ target:=.fn (.func g0) gJ,args:= #[] }] u wx:=by
   rintro e u wx hu he htm ⟨vs,g,apl,UI,aiQ,hcd⟩;rw[List.map_append,List.map_map,bm,List.map_nil] at UI;obtain⟨kW,rD⟩:=List.append_inj' UI rfl;simp only[List.cons.injEq,and_true] at rD;have are:(Value.func (.func g0) #[] gJ)= .func (.func g) #[] apl:=by
    rw[<-pG,<-he d' hdw];exact rD
   injection are with YG _ xp
   injection YG with YG
   subst YG;subst xp;refine leaves_cons hu (f:=g0) (args:=gJ) ?_ ?_
   ·simp only[invoke];have:=oR aiQ (#[]++gJ) wx;simpa using this
   ·refine hcd.mono ?_;rintro _ u' mi ⟨x,v,rfl,Im,OO,hR⟩
    show Leaves P fn a'.tmps R [] (settle u') mi
    rw[Im];refine⟨v,OO _ λi c hi=>?_,hR⟩;have lT:c∈xZ fn:=aA hi;rw[htm c lT,<-kW,cL,hi]
    show some (Fm c)=some (e c)
    rw[he c (hcw c lT)]
  have done:(∃env X w0,fE pl ⟨[{ target:=.fn (.func g0) gJ,args:= #[] }],(xZ fn).map λc=>(c,Fm c)⟩ .start env X w0 a' w'/\K .ret env w0 X/\ ∀s,¬s∈t2.wr->env s=Fm s)->Leaves P fn a'.tmps R a'.defers .returning w':=by
   rintro⟨e,X',eh,h5,h6,h7⟩;rw[h5.defers];exact close e .returning w' sQ h7 (λc hc=>(h5.Ai (c,Fm c) (List.mem_map.2 ⟨c,hc,rfl⟩)).1) (h6 w' h5.ext)
  cases ex with
  |normal=>exact done hq
  |ret=>exact done hq
  |panic ch=>
   obtain⟨h5,e,X',eh,h6,⟨h7,h8⟩,AI⟩:=hq
   show Leaves P fn a'.tmps R a'.defers (.panicking ch) w'
   rw[h5];exact close e (.panicking ch) w' sQ h8 (λc hc=>(AI.2 (c,Fm c) (List.mem_map.2 ⟨c,hc,rfl⟩)).1) (h7 w' h6)
  |exit i=>obtain⟨e,X',eh,h5,h6,_⟩:=hq;exact h6.elim
  |goto i=>obtain⟨e,X',eh,h5,h6,_⟩:=hq;exact h6.elim
  |outgrown=>exact hq.elim
 ·exact λch a' w' dt X' eh _ hk _ hq=>(hnp hk hq).elim
end Go.aL
namespace Go.aL
variable {P : Program} {R : Ending -> World -> Prop} {X F G : XS} {w w0 : World} {m : Bool}
def EV (F:XS) (w0:World) (Q:Value->World->Prop) (QP:List PanicEntry->World->Prop):Ending->World->Prop:=λe w'=>
 (∃v,e= .returned v/\Fr F w0 w'/\Q v w')\/ ∃ch,e= .panicked ch/\Fr F w0 w'/\QP ch w'
def EU (P:Program) (f:FuncId) (args:Array Value) (w:World) (X F:XS) (Q:Value->World->World->Prop) (QP:List PanicEntry->World->World->Prop):Prop:=
 ∀wa,Kp X w wa->Calls P f args wa (EV F wa (λv w'=>Q v wa w') λch w'=>QP ch wa w')
variable {QP : List PanicEntry -> World -> World -> Prop} {args : Array Value} {f : FuncId}
def EU.mono {Q Q':Value->World->World->Prop} {Ye:List PanicEntry->World->World->Prop} (h:EU P f args w X F Q QP) (k: ∀v wa w',Kp X w wa->Q v wa w'->Q' v wa w') (kp: ∀ch wa w',Kp X w wa->QP ch wa w'->Ye ch wa w'):EU P f args w X F Q' Ye:=
 λwa hk=>(h wa hk).mono λ_ _ hq=>hq.imp (λ⟨v,he,hf,hq⟩=>⟨v,he,hf,k v wa _ hk hq⟩) λ⟨v,he,hf,hq⟩=>⟨v,he,hf,kp v wa _ hk hq⟩
variable {N : Value -> World -> XS -> Prop}
theorem apm {Q:Value->World->World->Prop}
  (h:EU P f args w X F Q QP) (hf:enters P f=true) (hX: ∀k,X k->k<w.heap.size) (hF: ∀k,F k->X k)
  (k: ∀v wa w' X',Q v wa w'->w.heap.size<=wa.heap.size->(∀k,made wa w' k->X' k)->Kp X w wa->dY F X w X' w'->N v w' X')
  (kp: ∀ch wa w' X',QP ch wa w'->w.heap.size<=wa.heap.size->(∀k,made wa w' k->X' k)->Kp X w wa->dY F X w X' w'-> ∀wb,Kp X' w' wb->R (.panicked ch) wb):eC P R X w true f args N:=by
 intro wa hk;unfold jP;rw[oR hf args wa];refine⟨rfl,(h wa hk).mono ?_⟩;rintro e w' (⟨v,rfl,wT,hq⟩|⟨ch,rfl,wT,hq⟩)
 ·exact⟨wT.mono hF,k v wa w' _ hq hk.size (λg hg=>.inr hg) hk (dY.aes hX hk wT)⟩
 ·exact⟨wT.mono hF,kp ch wa w' _ hq hk.size (λg hg=>.inr hg) hk (dY.aes hX hk wT)⟩
variable {x : Value} {t : TypeId}
theorem SF (hX: ∀k,X k->k<w.heap.size) (h: ∀wa,Kp X w wa->R (.panicked [{ v:=.iface t x,recovered:=false }]) wa):eV P R X w m (kI (.iface t x)) N:=by
 intro wa hk;have hr:(vS (kI (.iface t x))).run P wa= .halt (.panic (.iface t x)) wa:=by simp[vS,kI,goPanic,Sem.run]
 unfold jP;rw[hr];refine⟨Step.eZ (Ext.refl wa),λwb hb=>h wb ⟨hb.os.trans hk.os,hb.tape.trans hk.tape,hb.output.trans hk.output,ad hk.size hb.size,λk hx=>(hb.block k (.inl hx)).trans (hk.block k hx)⟩⟩
def isIface (P:Program) (t:TypeId):Bool:=match P.underlying t with
 |some (.interface _)=>true
 |some _=>false
 |none=>true
theorem SE {N:Value->Prop} (ht:isIface P t=false) (h:N (.iface t x)):aX P X w (jb t x) N:=by
 unfold isIface at ht;cases hu:P.underlying t with
 |none=>simp[hu] at ht
 |some d=>refine bF (v:=.iface t x) (λwa=>?_) h;cases d<;>simp_all [jb,run_underlying hu]
theorem aku {st:TypeId} {N:Value->Prop} (ht:isIface P t=false) (h:N (.tuple #[x,.bool true])):aX P X w (nH (.iface t x) st t true) N:=by
 unfold isIface at ht;cases hu:P.underlying t with
 |none=>simp[hu] at ht
 |some d=>refine bF (v:=.tuple #[x,.bool true]) (λwa=>?_) h;cases d<;>simp_all [nH,run_underlying hu]
variable {wa : World} {v : Value} {RP : List PanicEntry -> World -> Prop} {R : Ending -> World -> Prop}
section
variable {F0 X' : XS} {Q : Value -> World -> World -> Prop}
def Ft.Gc (hT:Ft w0 F0 w X F) (h:EU P f args w X G Q QP) (hf:enters P f=true) (hG: ∀k,G k->F k)
  (k: ∀v wa w' X',Q v wa w'->w.heap.size<=wa.heap.size->(∀k,made wa w' k->X' k)->Ft w0 F0 w' X' (λk=>F k\/made wa w' k)->dY G X w X' w'->N v w' X')
  (kp: ∀ch wa w' X',QP ch wa w'->w.heap.size<=wa.heap.size->(∀k,made wa w' k->X' k)->Ft w0 F0 w' X' (λk=>F k\/made wa w' k)->dY G X w X' w'-> ∀wb,Kp X' w' wb->R (.panicked ch) wb):eC P R X w true f args N:=
 apm h hf hT.s.has (λq hq=>hT.bA q (hG q hq)) (λv wa w' X' hq hle gv _ hc=>k v wa w' X' hq hle gv (hT.dX hc hG λq hq=>hq.imp id λhm=>⟨gv q hm,ad hle hm.1⟩) hc)
  λch wa w' X' hq hle gv _ hc=>kp ch wa w' X' hq hle gv (hT.dX hc hG λq hq=>hq.imp id λhm=>⟨gv q hm,ad hle hm.1⟩) hc
theorem Ft.fr (h:Ft w0 F0 w X F) (hk:Kp X w wa):Fr F0 w0 wa:=
 ⟨hk.os.trans h.s.kp.os,hk.tape.trans h.s.kp.tape,hk.output.trans h.s.kp.output,ad h.s.kp.size hk.size,
  λk hl hn=>(hk.block k (h.s.sub k ⟨hl,hn⟩)).trans (h.s.kp.block k ⟨hl,hn⟩)⟩
def Ft.xN {Q:Value->World->Prop} {QP:List PanicEntry->World->Prop} (h:Ft w0 F0 w X F) (hq: ∀wa,Kp X w wa->Q v wa):aL.fin (EV F0 w0 Q QP) X w v:=
 λwa hk=>.inl ⟨v,rfl,h.fr hk,hq wa hk⟩
def Ft.jc {ch:List PanicEntry} {Q:Value->World->Prop} {QP:List PanicEntry->World->Prop} (h:Ft w0 F0 w X F) (hk:Kp X w wa) (hq:QP ch wa):EV F0 w0 Q QP (.panicked ch) wa:=.inr ⟨ch,rfl,h.fr hk,hq⟩
def agj (h:aL.fin R X w v):aL.fin (Gg R RP) X w v:=λwa hk=>h wa hk
def Ft.adS {Q:Value->World->Prop} (h:Ft w0 F0 w X F) (hq: ∀wa,Kp X w wa->Q v wa):aL.fin (Gg (uF F0 w0 Q) RP) X w v:=
 agj (h.fin hq)
def Ft.ret {Q:Value->World->Prop} (h:Ft w0 F0 w X F) (hk:Kp X w wa) (hq:Q v wa):uF F0 w0 Q (.returned v) wa:=⟨v,rfl,h.fr hk,hq⟩
def Ct.Gc (hT:Ft w0 F0 w X F) (h:Ct P f args w X G Q) (hf:enters P f=true) (hG: ∀k,G k->F k)
  (k: ∀v wa w' X',Q v wa w'->w.heap.size<=wa.heap.size->(∀k,made wa w' k->X' k)->Ft w0 F0 w' X' (λk=>F k\/made wa w' k)->dY G X w X' w'->N v w' X'):eC P R X w true f args N:=
 hT.call h hf hG k
end
end Go.aL
namespace Go.aL
variable {P : Program}
def apn (ops:Array Oper):Bool:=match ops.toList with
 |[mk,df]=>match mk.op,mk.guard,mk.dst,df.op,df.guard,df.dst with
  | .makeFunc (.func _) ⟨[]⟩ _,none,some d',.defer ⟨.value (.tmp d),⟨[]⟩,_⟩,none,none=>d'==d
  |_,_,_,_,_,_=>false
 |_=>false
def Da:Code->Option (Code×Nat×Array Oper×Code)
 | .seq (.region id ops false) rest=>if apn ops then some (.skip,id,ops,rest)else match Da rest with
  |some (p,i,o,r)=>some (.seq (.region id ops false) p,i,o,r)
  |none=>none
 | .seq a b=>match Da b with
  |some (p,i,o,r)=>some (.seq a p,i,o,r)
  |none=>none
 |_=>none
def Ru (fn:Func):Option (Code×Nat×Array Oper×Code):=match fn.body with
 |some c=>Da c
 |none=>none
def ftL (P:Program) (pl:gC) (fn:Func):Option FT:=
 if fn.ntmps==pl.n then match Ru fn with
  |some (c1,_,yV,rest)=>match yV.toList with
   |[mk,df]=>match mk.op,mk.guard,mk.dst,df.op,df.guard,df.dst with
    | .makeFunc (.func _) ⟨[]⟩ Cw,none,some d',.defer ⟨.value (.tmp d),⟨[]⟩,_⟩,none,none=>match jM P pl c1,vA Cw.toList,jM P pl rest,El P pl fn.results.toList with
     |some t1,some cb,some t2,some (r,n)=>if d'==d&&decide (d<pl.n)&&(look pl.boxes d).isNone&&!pl.j8 d&&Rt cb&&cb.all (λb=>(look pl.boxes b).isSome&&!yz t2.mk b)then some ⟨.seq t1 (.seq (.Bw (cb.map .zJ)) t2),r,n⟩else none
     |_,_,_,_=>none
    |_,_,_,_,_,_=>none
   |_=>none
  |none=>none
 else none
def YA (fn:Func):Option (FuncId×List Nat):=match Ru fn with
 |some (_,_,yV,_)=>match yV.toList with
  |[mk,_]=>match mk.op with
   | .makeFunc (.func g) _ Cw=>(vA Cw.toList).map λcb=>(g,cb)
   |_=>none
  |_=>none
 |none=>none
def aiR (P:Program) (pl:gC) (fn:Func) (args:Array Value):List (Option Value):=match Ru fn,YA fn with
 |some (c1,_,_,rest),some (_,cb)=>match jM P pl c1,jM P pl rest with
  |some (.Bw t0),some t2=>if t0.all isSimple then cb.map λb=>if yz t2.wr b then none else aiM (C9 t0 (mS args) b)else []
  |_,_=>[]
 |_,_=>[]
def noP (R:Ending->World->Prop):Ending->World->Prop
 | .panicked _,_=>False
 |e,w=>R e w
def aiS (P:Program) (o:Option FT) (R1 R2:Ending->World->Prop) (args:Array Value) (w:World):Prop:=match o with
 |some ft=>match ft.code with
  | .seq t1 t2=>den P t1 (lD.FG (λe w X=>den P t2 (OJ ft R2) e w X) (OJ ft R1)) (mS args) w (bK w)
  |_=>False
 |none=>False
variable {pl : gC}
theorem aeC {next:Env->World->XS->Prop} {K:lD} {Q:Exit->Act->World->Prop} {id:Nat} {o1:Array Oper} {rest:Code}
  (hn: ∀env X w0 a w,fE pl ⟨[],[]⟩ .start env X w0 a w->next env w0 X->(Code.seq (Code.region id o1 false) rest).wp P Q a w)
  (hK: ∀ex a w,ex≠ .normal->QP pl ⟨[],[]⟩ K ex a w->Q ex a w): ∀(c c1:Code),Da c=some (c1,id,o1,rest)-> ∀(t1:T) (env:Env) (X:XS) (w0:World) (a:Act) (w:World),
   jM P pl c1=some t1->fE pl ⟨[],[]⟩ .start env X w0 a w->den P t1 (lD.FG next K) env w0 X->c.wp P Q a w:=by
 intro c
 induction c with
 |seq x y ihx ihy=>
  intro c1 hs t1 env X w0 a w hc h hd;have key: ∀p,Da y=some (p,id,o1,rest)->c1= .seq x p->(Code.seq x y).wp P Q a w:=λp hp BE=>by
   subst BE;simp only[jM] at hc;cases hx:jM P pl x with
   |none=>simp[hx] at hc
   |some tx=>
    cases hy:jM P pl p with
    |none=>simp[hx,hy] at hc
    |some ty=>
     simp only[hx,hy,aj] at hc;have KD:den P (.seq tx ty) (lD.FG next K) env w0 X:=by
      subst hc;split at hd
      ·exact hd
      ·show den P tx (lD.FG (λe w X=>den P .skip (lD.FG next K) e w X) (lD.FG next K)) env w0 X
       refine mH tx hd λex e w' X' _ _ hq=>?_;cases ex<;>exact hq
      ·exact hd
     refine wp_seq (wp_mono (MF (pl:=pl) (ds:=⟨[],[]⟩) x tx _ env X w0 a w hx (λ_ _ _ hp=>by cases hp) h KD) λex a' w' hq=>?_);cases ex with
     |normal=>
      obtain⟨e,X',eh,h1,h2⟩:=hq;exact ihy p hp ty e X' eh a' w' hy h1 h2
     |exit i=>exact hK _ _ _ sQ hq
     |goto i=>exact hK _ _ _ sQ hq
     |ret=>exact hK _ _ _ sQ hq
     |panic c=>exact hK _ _ _ sQ hq
     |outgrown=>exact hK _ _ _ sQ hq
  unfold Da at hs;split at hs
  ·rename_i id' ops asv heq;simp only[C7] at heq;obtain⟨rfl,rfl⟩:=heq;split at hs
   ·simp only[aj,cP] at hs;obtain⟨rfl,rfl,rfl,rfl⟩:=hs;simp only[jM,aj] at hc;subst hc;exact hn env X w0 a w h hd
   ·split at hs
    ·rename_i p i o r hp;simp only[aj,cP] at hs;obtain⟨rfl,rfl,rfl,rfl⟩:=hs;exact key p hp rfl
    ·cases hs
  ·rename_i x' y' _ heq;simp only[C7] at heq;obtain⟨rfl,rfl⟩:=heq;split at hs
   ·rename_i p i o r hp;simp only[aj,cP] at hs;obtain⟨rfl,rfl,rfl,rfl⟩:=hs;exact key p hp rfl
   ·cases hs
  ·cases hs
 |_=>grind [Da]
variable {X : XS} {w : World}
theorem UY {K:Env->World->XS->Prop} {jc:List PanicEntry->Env->World->XS->Prop} {env:Env} : ∀(l:List Nat),hU P jc K (l.map TI.zJ) env w X->(∀b∈l,gy (env b)=true)/\K env w X
 |[],h=>⟨λ_ h=>(by cases h),h⟩
 |b::l,h=>by
  have h':=dJ.1 h;have ih:=UY l h'.2;exact⟨λc hc=>by
   rcases List.mem_cons.1 hc with rfl|hc
   ·exact h'.1
   ·exact ih.1 c hc,ih.2⟩
variable {cb : List Nat} {R : Ending -> World -> Prop} {fn : Func}
def DV {g:FuncId} :QZ P pl fn R g cb [] λ_ _=>False:=
 λks EY ch w' _ _ _ _ _ _ h=>(h w' (Outside.refl _ _)).elim
theorem Zm {f:FuncId} {args:Array Value} {RP:List PanicEntry->World->Prop} {g0:FuncId} {cv:List (Option Value)} {V:Prop} (hf:P.funcs[f]? =some fn)
  (hs:(decide (args.size<=pl.n)&&pl.boxes.all λp=>decide (args.size<=p.1))=true) (Di:YA fn=some (g0,cb)) (hcv:cv=[]\/cv=aiR P pl fn args) (qg:Idle P g0) (uG:QZ P pl fn R g0 cb cv RP) (hv:V=aiS P (ftL P pl fn) (noP R) (Gg R RP) args w) (h:V):Calls P f args w R:=by
 subst hv;unfold aiS at h;simp only[aF,decide_eq_true_eq] at hs;split at h;case h_2=>exact h.elim
 rename_i ft hc;unfold ftL at hc;split at hc;case isFalse=>cases hc
 rename_i hn;have mj:fn.ntmps=pl.n:=by simpa using hn
 split at hc;case h_2=>cases hc
 rename_i _ c1 id1 yV rest Eo;split at hc;case h_2=>cases hc
 rename_i _ mk df aeB;split at hc;case h_2=>cases hc
 rename_i _ _ _ _ _ _ g Cw d' d Zk anJ hmg hmd aiO Zl Jk;split at hc;case h_2=>cases hc
 rename_i _ _ _ _ t1 tc t2 r nd BE iN qi OO;split at hc;case isFalse=>cases hc
 rename_i sM;simp only[aF,beq_iff_eq,cX,decide_eq_true_eq,Option.isNone_iff_eq_none,lp] at sM;obtain⟨⟨⟨⟨⟨KD,jN⟩,hdb⟩,arf⟩,ry⟩,zO⟩:=sM;subst KD;injection hc with hc
 subst hc;have apo:=Di;unfold YA at Di;rw[Eo] at Di;dsimp only at Di;rw[aeB] at Di;dsimp only at Di;rw[anJ] at Di;dsimp only at Di;rw[iN] at Di;simp only[aY,aj,cP] at Di;obtain⟨rfl,rfl⟩:=Di;obtain⟨aiQ,apq⟩:=qg;have aiP:=anH (w:=w) mj hs.1 gQ;have adD: ∃c,fn.body=some c/\Da c=some (c1,id1,yV,rest):=by
  unfold Ru at Eo;split at Eo
  ·rename_i c hb;exact⟨c,hb,Eo⟩
  ·cases Eo
 obtain⟨c,hb,arh⟩:=adD;refine calls_of_wp_defers hf hb ?_
 let K:=OJ ⟨.seq t1 (.seq (.Bw (tc.map .zJ)) t2),r,nd⟩ (Gg R RP)
 let S:Env->Prop:=λe=> ∀(i:Nat) b v,tc[i]? =some b->cv[i]? =some (some v)-> ¬b∈t2.wr/\e b= .agg #[v]
 have h0:den P t1 (lD.FG (λe w X=>S e/\den P (.seq (.Bw (tc.map .zJ)) t2) K e w X) (OJ ⟨.seq t1 (.seq (.Bw (tc.map .zJ)) t2),r,nd⟩ (noP R))) (mS args) w (bK w):=by
  have hn: ∀(N:Env->World->XS->Prop),(∀e,S e)->(λe w X=>S e/\N e w X)=N:=λN hS=>by
   funext e w X;exact propext ⟨λh=>h.2,λh=>⟨hS e,h⟩⟩
  have Se:cv=[]\/ ∃t0,t1= .Bw t0/\t0.all isSimple=true/\cv=tc.map λb=>if yz t2.wr b then none else aiM (C9 t0 (mS args) b):=by
   rcases hcv with h|h
   ·exact .inl h
   ·unfold aiR at h;rw[Eo,apo] at h;dsimp only at h;rw[BE,qi] at h;split at h
    ·rename_i t0 t2' e1 e2;cases e1;cases e2;split at h
     ·rename_i ha;exact .inr ⟨t0,rfl,ha,h⟩
     ·exact .inl h
    ·exact .inl h
  rcases Se with hS|⟨t0,rfl,ha,ari⟩
  ·rw[hn _ λe i b v _ h=>by rw[hS] at h;simp at h];exact h
  ·have h2:=zq t0 (mS args) ha (show hU P _ _ t0 (mS args) w (bK w)from h);refine Ie t0 h2 (λe w' X' _ _ ⟨he,hq⟩=>⟨λi b v g1 g2=>?_,hq⟩) λ_ _ _ _ _ _ hq=>hq;subst he;rw[ari,cL,g1] at g2;simp only[aY,aj] at g2;split at g2
   ·cases g2
   ·rename_i hnw;refine⟨λhm=>hnw (Ah.2 hm),?_⟩;generalize C9 t0 (mS args) b=u at g2;unfold aiM at g2;split at g2
    ·cases g2;rfl
    ·cases g2
 refine aeC (P:=P) (pl:=pl) ?_ ?_ c c1 arh t1 (mS args) (bK w) w _ w BE aiP h0;case refine_2=>
  intro ex a w hex hq;cases ex with
  |normal=>exact absurd rfl hex
  |ret=>
   obtain⟨e,X',eh,h5,h6⟩:=hq;have h6':jk (nd.all λb=>gy (e b)) (∀wa,Kp X' eh wa->R (.returned (WH r e)) wa):=h6;obtain⟨h7,h8⟩:=dJ.1 h6'
   show Leaves P fn a.tmps R a.defers .returning w
   rw[h5.defers];exact⟨_,MG h5 OO (List.all_eq_true.1 h7),h8 w h5.ext⟩
  |panic ch=>obtain⟨_,e,X',eh,h6,h7,_⟩:=hq;exact(h7 w h6).elim
  |exit i=>obtain⟨e,X',eh,h5,h6⟩:=hq;exact h6.elim
  |goto i=>obtain⟨e,X',eh,h5,h6⟩:=hq;exact h6.elim
  |outgrown=>exact hq.elim
 intro xm X1 L6 a1 w1 ax ⟨lU,hd0⟩;have arj:hU P (λch=>lD.FG (λe w X=>den P t2 K e w X) K (.panic ch)) (λe w X=>den P t2 K e w X) (tc.map .zJ) xm L6 X1:=hd0;obtain⟨ark,hd1⟩:=UY _ arj;have pe: ∀b∈tc,(∃n,look pl.boxes b=some n)/\ ∃k,a1.tmps[b]? =some (ej k 0):=λb dT=>by
  obtain⟨n,hn⟩:=Option.isSome_iff_exists.1 (zO b dT).1;obtain⟨cells,pG⟩:=vQ.1 (ark b dT);obtain⟨k,ty,g1,_⟩:=ax.box b n hn cells pG;exact⟨⟨n,hn⟩,k,g1⟩
 obtain⟨ks,wP,Jz⟩:=acm tc λb dT=>(pe b dT).2;have apr: ∀p,p∈tc.zip (ks.map λk=>ej k 0)->a1.tmps[p.1]? =some p.2/\((∃n k,look pl.boxes p.1=some n/\p.2=ej k 0)\/pl.j8 p.1=true):=λp hp=>by
  obtain⟨i,g1,g2⟩:=S6 hp;obtain⟨k,g3,g4⟩:=Jz i p.1 g1;rw[cL,g3] at g2;simp only[aY,aj] at g2;obtain⟨⟨n,hn⟩,_⟩:=pe p.1 (aA g1);exact⟨by rw[<-g2];exact g4,.inl ⟨n,k,hn,g2.symm⟩⟩
 have arl:ks.Nodup:=by
  refine agi λi j k hi hj=>?_;have pK:i<tc.length:=by rw[<-wP];exact(List.getElem?_eq_some_iff.1 hi).1
  have HE:j<tc.length:=by rw[<-wP];exact(List.getElem?_eq_some_iff.1 hj).1
  have gi:tc[i]? =some tc[i]:=aS pK;have gj:tc[j]? =some tc[j]:=aS HE;obtain⟨k1,e1,f1⟩:=Jz i _ gi;obtain⟨k2,e2,f2⟩:=Jz j _ gj;rw[hi] at e1;cases e1;rw[hj] at e2;cases e2;obtain⟨⟨m1,qo⟩,_⟩:=pe tc[i] (Bp pK);obtain⟨⟨m2,ri⟩,_⟩:=pe tc[j] (Bp HE);have:=ax.inj tc[i] tc[j] m1 m2 qo ri (ax.conv _ _ qo _ f1) (ax.conv _ _ ri _ f2) k f1 f2;exact(List.getElem_inj (Oy ry)).1 this
 refine wp_seq (wp_region_list ?_);rw[aeB];have Eu:cG mk (yielded yV a1.tmps)=true:=by simp[cG,hmg]
 have aj1:Cw.map a1.eval=(ks.map λk=>ej k 0).toArray:=by
  apply xd;rw[nk,(Ox iN),List.map_map];refine uq λi=>?_;rw[cL,cL];cases hci:tc[i]? with
  |none=>
   have:ks[i]? =none:=by rw[List.getElem?_eq_none_iff] at hci⊢;omega
   rw[this];rfl
  |some b=>
   obtain⟨k,g1,g2⟩:=Jz i b hci;rw[g1];simp[Act.eval,mZ,g2]
 have aj2:(execOp a1.eval mk).run P w1= .ok (.value (.func (.func g) #[] (ks.map λk=>ej k 0).toArray)) w1:=by
  rw[<-aj1];simp[execOp,anJ,cE]
 have aps: ∀b∈tc,b≠d':=λb dT e=>by
  obtain⟨⟨n,hn⟩,_⟩:=pe b dT;rw[e,hdb] at hn;cases hn
 clear aj1;generalize hcg:(ks.map λk=>ej k 0).toArray=gJ at aj2;unfold wpList;rw[if_pos Eu];left;unfold Oper.wp;rw[aj2,Oper.upon_value,hmd];have bB:=ax.aside (v:=.func (.func g) #[] gJ) jN hdb arf;have TO:(a1.put (some d') (.func (.func g) #[] gJ)).eval (.tmp d')= .func (.func g) #[] gJ:=by
  have:d'<a1.tmps.size:=by rw[ax.size];exact jN
  simp[Act.eval,Act.put,mZ,this]
 have agk: ∀p,p∈tc.zip (ks.map λk=>ej k 0)->(a1.put (some d') (.func (.func g) #[] gJ)).tmps[p.1]? =some p.2/\((∃n k,look pl.boxes p.1=some n/\p.2=ej k 0)\/pl.j8 p.1=true):=λp hp=>by
  obtain⟨g1,g2⟩:=apr p hp;obtain⟨i,g3,_⟩:=S6 hp;exact⟨by rw[gp _ _ _ _ (aps p.1 (aA g3))];exact g1,g2⟩
 generalize a1.put (some d') (.func (.func g) #[] gJ)=a2 at bB TO agk;have nQ:(execOp a2.eval df).run P w1= .ok (.defer { target:=.fn (.func g) gJ,args:= #[] }) w1:=by
  simp[execOp,aiO,resolve,TO,lr]
 unfold wpList;have hw:cG df (yielded yV a2.tmps)=true:=by simp[cG,Zl]
 rw[if_pos hw];left;unfold Oper.wp;rw[nQ,BQ,Jk]
 show rest.wp P (bodyPostD P fn R) { a2 with defers:= { target:=.fn (.func g) gJ,args:= #[] } ::a2.defers } w1
 rw[bB.defers];have dp:fE pl ⟨[{ target:=.fn (.func g) gJ,args:= #[] }],tc.zip (ks.map λk=>ej k 0)⟩ .start xm X1 L6 { a2 with defers:=[{ target:=.fn (.func g) gJ,args:= #[] }] } w1:=
  ⟨bB.size,rfl,agk,bB.ext,bB.xl,bB.qy,bB.sig,bB.box,bB.inj,bB.conv,bB.live,bB.ptr⟩
 have sk:=mH t2 (K':=λex e w' X'=>K ex e w' X'/\ ∀s,¬s∈t2.wr->e s=xm s) hd1 λex e w' X' _ he hk=>⟨hk,he⟩;refine wp_mono (MF (pl:=pl) (ds:=⟨[{ target:=.fn (.func g) gJ,args:= #[] }],tc.zip (ks.map λk=>ej k 0)⟩) rest t2 _ xm X1 L6 _ w1 qi (λb dT p hp e=>?_) dp sk) λex a' w' hq=>?_
 ·obtain⟨i,g1,_⟩:=S6 hp;have h1:=(zO p.1 (aA g1)).2;rw[e,Ah.2 dT] at h1;cases h1
 have agl: ∀w',(invoke (.fn (.func g) gJ) #[]).run P w'= .ok (.enter g gJ) w':=λw'=>by
  simp only[invoke];have:=oR aiQ (#[]++gJ) w';simpa using this
 have done:(∃env X w0,fE pl ⟨[{ target:=.fn (.func g) gJ,args:= #[] }],tc.zip (ks.map λk=>ej k 0)⟩ .start env X w0 a' w'/\K .ret env w0 X/\ ∀s,¬s∈t2.wr->env s=xm s)->Leaves P fn a'.tmps R a'.defers .returning w':=by
  rintro⟨e,X',eh,h5,h6,_⟩;have h6':jk (nd.all λb=>gy (e b)) (∀wa,Kp X' eh wa->R (.returned (WH r e)) wa):=h6;obtain⟨h7,h8⟩:=dJ.1 h6';rw[h5.defers];refine leaves_cons sQ (f:=g) (args:=gJ) (agl w') ?_;refine(apq gJ w').mono ?_;rintro _ _ mi ⟨⟨x,rfl⟩,rfl,rfl⟩;exact⟨_,MG h5 OO (List.all_eq_true.1 h7),h8 mi h5.ext⟩
 cases ex with
 |normal=>exact done hq
 |ret=>exact done hq
 |panic ch=>
  obtain⟨h5,e,X',eh,h6,⟨h7,he⟩,AI⟩:=hq
  show Leaves P fn a'.tmps R a'.defers (.panicking ch) w'
  rw[h5];refine leaves_cons sQ (f:=g) (args:=gJ) (agl w') ?_;have pc: ∀(i:Nat) b k,tc[i]? =some b->ks[i]? =some k->a'.tmps[b]? =some (ej k 0)/\ ∃n cells ty,look pl.boxes b=some n/\e b= .agg cells/\w'.heap[k]? =some (.cells cells ty (0,0))/\cells.size=n/\ ¬X' k:=λi b k g1 g2=>by
   obtain⟨q1,q2⟩:=AI.2 (b,ej k 0) (aA (i:=i) (by rw[tH];exact⟨g1,by rw[cL,g2];rfl⟩));refine⟨q1,?_⟩;rcases q2 with q2|⟨n,k',cells,ty,q3,q4⟩
   ·obtain⟨⟨n,hn⟩,_⟩:=pe b (aA g1);rw[(tn q2).2.1] at hn;cases hn
   ·have:k=k':=by simpa [ej] using q3
    subst this;exact⟨n,cells,ty,q4⟩
  have Y7: ∀(i:Nat) b,tc[i]? =some b->gy (e b)=true:=λi b g1=>by
   obtain⟨k,g2,_⟩:=Jz i b g1;obtain⟨_,_,cells,_,_,g4,_⟩:=pc i b k g1 g2;rw[g4];rfl
  have hkX: ∀k,k∈ks-> ¬X' k:=λk hm=>by
   obtain⟨i,g1⟩:=List.getElem?_of_mem hm;have pK:i<tc.length:=by rw[<-wP];exact(List.getElem?_eq_some_iff.1 g1).1
   obtain⟨_,_,_,_,_,_,_,_,g9⟩:=pc i _ k (aS pK) g1;exact g9
  rw[<-hcg];refine(uG ks (tc.map λb=>(e b).cells) ch w' wP sQ arl (λi k cells g1 g2=>?_) (λi v cells g1 g2=>?_) (λi b n cells g1 g2 g3=>?_) λwa ho=>h7 wa (ho.kp h6 AI.1 hkX)).mono ?_
  ·rw[cL] at g2;obtain⟨b,g3,rfl⟩:=Option.map_eq_some_iff.1 g2;obtain⟨_,_,cells,ty,_,g4,g5,_⟩:=pc i b k g3 g1;rw[g4];exact⟨ty,g5⟩
  ·rw[cL] at g2;obtain⟨b,g3,rfl⟩:=Option.map_eq_some_iff.1 g2;obtain⟨hnw,hv⟩:=lU i b v g3 g1;rw[he b hnw,hv];rfl
  ·rw[cL,g1] at g3;simp only[aY,aj] at g3;obtain⟨k,g4,_⟩:=Jz i b g1;obtain⟨_,n',za,ty,q1,q2,q3,q4,_⟩:=pc i b k g1 g4;rw[g2] at q1;cases q1;rw[<-g3,q2];exact q4
  ·rintro e' u mi ⟨⟨x,rfl⟩,Im,v,hR,apt⟩
   show Leaves P fn a'.tmps R [] (settle u) mi
   rw[Im];exact⟨v,apt a'.tmps λi b k g1 g2=>(pc i b k g1 g2).1,hR⟩
 |exit i=>obtain⟨e,X',eh,h5,h6,_⟩:=hq;exact h6.elim
 |goto i=>obtain⟨e,X',eh,h5,h6,_⟩:=hq;exact h6.elim
 |outgrown=>exact hq.elim
theorem Xq (hR: ∀ch w,¬R (.panicked ch) w):noP R=R:=by
 funext e w
 cases e with
 |panicked ch=>exact propext ⟨False.elim,hR ch w⟩
 |returned v=>rfl
 |outgrown=>rfl
theorem OX (hR: ∀ch w,¬R (.panicked ch) w):Gg R (λ_ _=>False)=R:=by
 funext e w
 cases e with
 |panicked ch=>exact propext ⟨False.elim,hR ch w⟩
 |returned v=>rfl
 |outgrown=>rfl
theorem Hw {F:XS} {w0:World} {Q:Value->World->Prop} (ch:List PanicEntry) (w:World): ¬uF F w0 Q (.panicked ch) w:=λ⟨_,he,_⟩=>by cases he
def acn {v:Value} (h:aL.fin R X w v):aL.fin (noP R) X w v:=λwa hk=>h wa hk
end Go.aL
namespace Go.aL
variable {P : Program} {R : Ending -> World -> Prop} {X : XS} {w : World} {m : Bool} {t : TypeId}
variable {N : Value -> World -> XS -> Prop}
theorem aiT {z:Value} (hX: ∀k,X k->k<w.heap.size) (hz:(P.info? t).bind (·.zero)=some z) (ho:one z=true)
  (n: ∀b w' X',w.heap.size<=b->ai X w X' w'->aH w' X' b [z] t->N (ptr b 0) w' X'):eV P R X w m (fZ t true (.tuple #[])) N:=by
 intro wa hk;unfold jP;have XA: ∀w,(zeroValue t).run P w= .ok z w:=by
  intro w;cases hi:P.info? t with
  |none=>grind
  |some inf=>
   have uC:inf.zero=some z:=by simpa [hi] using hz
   simp[zeroValue,typeInfo,hi,uC]
 have hc:z.cells= #[z]:=sL ho;have hr:(fZ t true (.tuple #[])).run P wa= .ok (ptr wa.heap.size 0) (wa.alloc (.cells [z].toArray t)):=by simp[fZ,XA,newVar,newRow,hc]
 simp only[vS,bq,hr,aN,bO];have hx:Ext wa (wa.alloc (.cells [z].toArray t)):=Ext.alloc _ _;exact⟨Step.eZ hx,n _ _ _ hk.size (ai.eZ hX hk hx) ⟨.inr ⟨au _,by simp⟩,by simpa using heap_alloc_new wa _⟩⟩
structure pN where
 p:World->XS->XS->Prop
 mv: ∀{w w':World} {K K' A A':XS},p w K A->Mv K w K' w'->Mv A w A' w'->p w' K' A'
abbrev Fo:=Nat->Nat
def bQ (own:Fo) (c:Nat):XS:=λk=>own k=c
def gF (own:Fo):XS:=λk=>own k≠0/\own k≠4
def Bd (own aG:Fo) (n0:Nat):Prop:= ∀k,k<n0->(own k=0->aG k=0)/\(own k=4->aG k=4)
theorem Bd.refl (own:Fo) (n0:Nat):Bd own own n0:=λ_ _=>⟨id,id⟩
structure Hs (F:Nat->pN) (w:World) (own:Fo):Prop where
 gI: ∀c,c≠0->c≠4->(F c).p w (bQ own 4) (bQ own c)
 lt: ∀k,own k≠0->k<w.heap.size
structure St (w0:World) (bN:Fo) (w:World) (X:XS) (own:Fo) (F:Nat->pN):Prop where
 t:Ft w0 (gF bN) w X (gF own)
 h:Hs F w own
 x: ∀k,own k≠0->X k
 e:Bd bN own w0.heap.size
def NQ {σ:Type} (dR:σ->Nat->pN) (own:Fo) (wa w':World) (P:Fo->σ->Prop):Prop:= ∃aG n',Bd own aG wa.heap.size/\Hs (dR n') w' aG/\P aG n'
def QT:pN:=⟨λ_ _ _=>True,λ_ _ _=>trivial⟩
def puR (q:Prop):pN:=⟨λ_ _ _=>q,λh _ _=>h⟩
def Yf (b:Nat) (cs:List Value) (t:TypeId):pN:=⟨λw _ A=>aH w A b cs t,λh _ m=>h.mv m⟩
def Zn (e k:Nat) (v:Value) (rows:List (List Value)):pN:=⟨λw _ A=>Own w A 0 e k v rows,λh _ m=>h.mv m⟩
def CW (q:Prop) (r:pN):pN:=⟨λw K A=>q->r.p w K A,λh m m' hq=>r.mv (h hq) m m'⟩
variable {T b bytes e f kk o o' sz ty : Nat} {w : World} {X : XS} {P : Program} {R : Ending -> World -> Prop} {sv v v' : Value} {cs : List Value} {rows M8 dq : List (List Value)} {args : Array Value}
section
theorem sT {N:Value->Prop} {S fo:Nat} (hf:fieldInfo P S f=some (fo,sz)) (hz:(sz !=0)=true) (k:N (ptr b (o+fo))):aX P X w (iA S f fo sz (ptr b o)) N:=by
 unfold iA;exact GX hf (by simpa using hz) k
variable {w' wa w0 : World} {X' G N A' : XS} {own aG bN : Fo} {F F' : Nat -> pN} {σ : Type} {dR : σ -> Nat -> pN} {n : σ} {i j : Nat}
def Hs.mv (h:Hs F w own) (hb: ∀k,own k≠0->w'.heap[k]? =w.heap[k]?) (hz:w.heap.size<=w'.heap.size):Hs F w' own:=
 ⟨λc h0 h4=>(F c).mv (h.gI c h0 h4) (λk (e:own k=4) _=>⟨e,hb k zQ⟩) λk (e:own k=c) _=>⟨e,hb k zQ⟩,λk hk=>av (h.lt k hk) hz⟩
theorem Hs.kp (h:Hs F w own) (hX: ∀k,own k≠0->X k) (hk:Kp X w wa):Hs F wa own:=h.mv (λk af=>hk.block k (hX k af)) hk.size
def Hs.to (h:Hs F w own) (hf: ∀c,c≠0->c≠4-> ∀w K A,(F c).p w K A->(F' c).p w K A):Hs F' w own:=⟨λc h0 h4=>hf c h0 h4 _ _ _ (h.gI c h0 h4),h.lt⟩
theorem Hs.one (h:Hs F w own) (j:Nat) (hz:w.heap.size<=w'.heap.size) (hb: ∀k,own k≠0->own k≠j->w'.heap[k]? =w.heap[k]?) (hR:(F' j).p w' (bQ own 4) (bQ own j)) (hn: ∀c,c≠j-> ∀w K A,(F c).p w K A->(F' c).p w K A) (h4:j≠4:=by decide):Hs F' w' own:=by
 refine⟨λc c0 c4=>?_,λk hk=>av (h.lt k hk) hz⟩;by_cases e:c=j
 ·subst e;exact hR
 ·exact hn c e _ _ _ ((F c).mv (h.gI c c0 c4) (λk (e4:own k=4) _=>⟨e4,hb k zQ zQ⟩) λk (e':own k=c) _=>⟨e',hb k zQ zQ⟩)
def St.init (h:Hs F w own) (hX: ∀k,own k≠0->X k) (hk:Kp X w wa):St wa own wa (bK wa) own F:=
 have h':=h.kp hX hk
 ⟨Ft.init λk af=>h'.lt k af.1,h',λk af=>h'.lt k af,Bd.refl _ _⟩
theorem St.has (s:St w0 bN w X own F): ∀k,X k->k<w.heap.size:=s.t.s.has
def St.rf (s:St w0 bN w X own F):ai X w X w:=⟨Kp.refl _ _,λ_ h=>h,s.has⟩
def St.since (s:St w0 bN w X own F) (hs:ai X w X' w'):St w0 bN w' X' own F:=
 ⟨s.t.since hs,s.h.mv (λk hk=>hs.kp.block k (s.x k hk)) hs.kp.size,λk hk=>hs.sub k (s.x k hk),s.e⟩
def St.to (s:St w0 bN w X own F) (hf: ∀c,c≠0->c≠4-> ∀w K A,(F c).p w K A->(F' c).p w K A):St w0 bN w X own F':=⟨s.t,s.h.to hf,s.x,s.e⟩
theorem St.get (s:St w0 bN w X own F) (c:Nat) (h0:c≠0:=by decide) (h4:c≠4:=by decide):(F c).p w (bQ own 4) (bQ own c):=s.h.gI c h0 h4
theorem St.sub (s:St w0 bN w X own F) (c:Nat) (h0:c≠0:=by decide): ∀k,bQ own c k->X k:=λk (e:own k=c)=>s.x k zQ
theorem St.zP (s:St w0 bN w X own F) (c:Nat) (h0:c≠0:=by decide) (h4:c≠4:=by decide):(F c).p w X X:=(F c).mv (s.h.gI c h0 h4) (Mv.sub (s.sub 4)) (Mv.sub (s.sub c h0))
def St.fx (s:St w0 bN w X own F):(∀k,gF own k->X k/\k<w.heap.size):=λk hk=>⟨s.x k hk.1,s.h.lt k hk.1⟩
theorem St.fxc (s:St w0 bN w X own F) (c:Nat) (h0:c≠0:=by decide): ∀k,bQ own c k->X k/\k<w.heap.size:=λk (e:own k=c)=>⟨s.x k zQ,s.h.lt k zQ⟩
theorem St.nw (s:St w0 bN w X own F) {k:Nat} (hk:w.heap.size<=k):own k=0/\w0.heap.size<=k:=
 ⟨Classical.byContradiction λe=>by have:=s.h.lt k e;omega,ad s.t.s.kp.size hk⟩
theorem St.jR (s:St w0 bN w X own F) (c:dY G X w X' w') (S:Nat->Prop) (hG: ∀k,G k->S (own k)) (h0: ¬S 0) (h4: ¬S 4) (hN: ∀k,N k->X' k/\own k=0/\w0.heap.size<=k)
  (hj:j≠0) (hS: ∀aG,(∀k,own k≠0->aG k=own k)->(∀k,N k->aG k=j)->Mv (bQ own 4) w (bQ aG 4) w'-> ∀c,S c->(F' c).p w' (bQ aG 4) (bQ aG c))
  (hn: ∀c,¬S c-> ∀K A,Mv (bQ own 4) w K w'->(F c).p w' K A->(F' c).p w' K A): ∃aG,St w0 bN w' X' aG F'/\Mv (bQ own 4) w (bQ aG 4) w'/\(∀k,¬N k->aG k=own k)/\ ∀k,N k->aG k=j:=by
 classical
 obtain⟨q,hq⟩: ∃q:Fo,q=λk=>if N k then j else own k:=⟨_,rfl⟩
 have e1: ∀k,N k->q k=j:=λk hk=>by rw[hq];exact if_pos hk
 have e2: ∀k,¬N k->q k=own k:=λk hk=>by rw[hq];exact if_neg hk
 have e3: ∀k,own k≠0->q k=own k:=λk hk=>e2 k λhn=>hk (hN k hn).2.1;have hx: ∀k,q k≠0->X' k:=λk hk=>by
  by_cases e:N k
  ·exact(hN k e).1
  ·rw[e2 k e] at hk;exact c.sub k (s.x k hk)
 have mv: ∀d,d≠0-> ¬S d->Mv (bQ own d) w (bQ q d) w':=λd hd hS k (hk:own k=d) _=>⟨(e3 k zQ).trans hk,c.block k (s.x k zQ) λhg=>hS (hk▸hG k hg)⟩;have m4:=mv 4 dQ h4;refine⟨q,⟨(s.t.dX (F':=gF own) c (λk hk=>⟨λe=>h0 (e▸hG k hk),λe=>h4 (e▸hG k hk)⟩) λ_ h=>.inl h).more λk hk=>?_,⟨λd d0 d4=>?_,λk hk=>?_⟩,hx,λk hk=>?_⟩,m4,e2,e1⟩
 ·by_cases e:N k
  ·exact .inr ⟨(hN k e).1,(hN k e).2.2⟩
  ·exact .inl ⟨by rw[<-e2 k e];exact hk.1,by rw[<-e2 k e];exact hk.2⟩
 ·by_cases hd:S d
  ·exact hS q e3 e1 m4 d hd
  ·exact hn d hd _ _ m4 ((F d).mv (s.h.gI d d0 d4) m4 (mv d d0 hd))
 ·exact c.has k (hx k hk)
 ·rw[e2 k λhn=>by have:=(hN k hn).2.2;omega];exact s.e k hk
def St.uR (s:St w0 bN w X own F) (hN: ∀k,N k->X k/\own k=0/\w0.heap.size<=k): ∃aG,St w0 bN w X aG F/\Mv (bQ own 4) w (bQ aG 4) w/\(∀k,¬N k->aG k=own k)/\ ∀k,N k->aG k=4:=
 s.jR (dY.nz s.rf nX) (λ_=>False) (λ_ h=>h) id id hN dQ (λ_ _ _ _ _ h=>h.elim) λ_ _ _ _ _ h=>h
theorem St.loc (s:St w0 bN w X own F) (c:dY G X w X' w') (hG: ∀k,G k->own k=0/\w0.heap.size<=k):St w0 bN w' X' own F:=by
 have h0: ∀k,own k≠0->w'.heap[k]? =w.heap[k]? :=λk hk=>c.block k (s.x k hk) λhg=>hk (hG k hg).1;exact⟨⟨s.t.s.dX c λk h h'=>by have:=(hG k h').2;have:=h.1;omega,λk hk=>c.sub k (s.t.bA k hk),s.t.v⟩,s.h.mv h0 c.size,λk hk=>c.sub k (s.x k hk),s.e⟩
theorem St.Dh (s:St w0 bN w X own F) (j:Nat) (c:dY G X w X' w') (hG: ∀k,G k->own k=j) (A':XS) (hA: ∀k,A' k->own k=j\/(X' k/\w.heap.size<=k)) (hR: ∀K,Mv (bQ own 4) w K w'->(F' j).p w' K A')
  (hn: ∀c,c≠j-> ∀w' K A,(F c).p w' K A->(F' c).p w' K A) (h0:j≠0:=by omega) (h4:j≠4:=by omega): ∃aG,St w0 bN w' X' aG F'/\Mv (bQ own 4) w (bQ aG 4) w':=by
 obtain⟨aG,s',m,_⟩:=s.jR (F':=F') (j:=j) (N:=λk=>A' k/\own k≠j) c (· =j) hG h0.symm h4.symm (λk ⟨hk,hn⟩=>(hA k hk).elim (λe=>absurd e hn) λe=>⟨e.1,s.nw e.2⟩) h0
  (λaG e1 e2 m d hd=>by
   subst hd;exact(F' d).mv (hR _ m) (Mv.sub λ_ h=>h) (Mv.sub λk hk=>by
    by_cases e:own k=d
    ·exact(e1 k zQ).trans e
    ·exact e2 k ⟨hk,e⟩)) λc hc K A _=>hn c hc _ K A
 exact⟨aG,s',m⟩
theorem St.st {t:Nat} {N:Value->World->XS->Prop} (s:St w0 bN w X own F) (i:Nat) (hr:aH w (bQ own i) b cs ty) (F':Nat->pN) (L5:o'=o) (ht:(P.info? t).map (·.size)=some 1) (hl:o<cs.length) (h1:one v=true)
  (hR: ∀w' K A,aH w' A b (dr cs o [v]) ty->(F' i).p w' K A) (hn: ∀c,c≠i-> ∀w' K A,(F c).p w' K A->(F' c).p w' K A)
  (k: ∀w' X' aG,St w0 bN w' X' aG F'->Mv (bQ own 4) w (bQ aG 4) w'->N undef w' X') (h0:i≠0:=by omega) (h4:i≠4:=by omega):eU P R X w true (st1 t 1 (ptr b o') v) N:=
 pM (o:=o) (hr.mono (s.sub i h0)) L5 ht hl h1 s.has λw' X' c jS=>by
  obtain⟨aG,s',m⟩:=s.Dh (F':=F') i c (λk e=>by rw[show k=b from e];exact hr.1) (· =b) (λk e=>.inl (by rw[show k=b from e];exact hr.1)) (λK _=>hR w' K _ ⟨rfl,jS.2⟩) hn h0 h4;exact k w' X' aG s' m
theorem St.stN {t:Nat} {N:Value->World->XS->Prop} (s:St w0 bN w X own F) (i:Nat) (hr:aH w (bQ own i) b cs ty) (F':Nat->pN) (L5:o'=o) (ht:(P.info? t).map (·.size)=some sz) (hl:o+sz<=cs.length) (hv:v.cells.size=sz) (h1:v.cells.toList.all one=true)
  (hR: ∀w' K A,aH w' A b (dr cs o v.cells.toList) ty->(F' i).p w' K A) (hn: ∀c,c≠i-> ∀w' K A,(F c).p w' K A->(F' c).p w' K A)
  (k: ∀w' X' aG,St w0 bN w' X' aG F'->Mv (bQ own 4) w (bQ aG 4) w'->N undef w' X') (h0:i≠0:=by omega) (h4:i≠4:=by omega):eU P R X w true (st1 t sz (ptr b o') v) N:=
 FU (o:=o) (hr.mono (s.sub i h0)) L5 ht hl hv h1 s.has λw' X' c jS=>by
  obtain⟨aG,s',m⟩:=s.Dh (F':=F') i c (λk e=>by rw[show k=b from e];exact hr.1) (· =b) (λk e=>.inl (by rw[show k=b from e];exact hr.1)) (λK _=>hR w' K _ ⟨rfl,jS.2⟩) hn h0 h4;exact k w' X' aG s' m
theorem St.Xm (s:St w0 bN w X own F) (S:Nat->Prop) (h0: ¬S 0) (hR: ∀c,S c-> ∀w K,(F' c).p w K λ_=>False) (hn: ∀c,¬S c-> ∀K A,(∀k,S (own k)->K k)->(F c).p w K A->(F' c).p w K A):
  ∃aG,St w0 bN w X aG F'/\Mv (bQ own 4) w (bQ aG 4) w/\(∀k,S (own k)->aG k=4)/\ ∀k,¬S (own k)->aG k=own k:=by
 classical
 obtain⟨q,hq⟩: ∃q:Fo,q=λk=>if S (own k)then 4 else own k:=⟨_,rfl⟩
 have e1: ∀k,S (own k)->q k=4:=λk hk=>by rw[hq];exact if_pos hk
 have e2: ∀k,¬S (own k)->q k=own k:=λk hk=>by rw[hq];exact if_neg hk
 have en: ∀k,q k≠0->own k≠0:=λk hk e=>by
  by_cases h:S (own k)
  ·exact h0 (e▸h)
  ·exact hk ((e2 k h).trans e)
 have e4: ∀k,own k=4->q k=4:=λk hk=>by
  by_cases h:S (own k)
  ·exact e1 k h
  ·exact(e2 k h).trans hk
 refine⟨q,⟨s.t.less λk hk=>⟨en k hk.1,λe=>hk.2 (e4 k e)⟩,⟨λc c0 c4=>?_,λk hk=>s.h.lt k (en k hk)⟩,λk hk=>s.x k (en k hk),λk hk=>⟨λe=>?_,λe=>e4 k ((s.e k hk).2 e)⟩⟩,Mv.sub e4,e1,e2⟩
 ·by_cases h:S c
  ·exact(F' c).mv (hR c h w _) (Mv.sub λ_ h=>h) (Mv.sub λ_ h=>h.elim)
  ·exact hn c h _ _ e1 ((F c).mv (s.h.gI c c0 c4) (Mv.sub e4) (Mv.sub λk (e:own k=c)=>(e2 k (by rw[e];exact h)).trans e))
 ·have h:=(s.e k hk).1 e;exact(e2 k λh'=>h0 (h▸h')).trans h
theorem St.fs {k':Nat} {ty:TypeId} (s:St w0 bN w X own F) (i j q:Nat) (c:dY G X w X' w') (hG: ∀k,G k->k=b\/v.ownBlock=some k) (hb:own b=i) (hv: ∀g,v.ownBlock=some g->own g=j)
  (hr:aH w' X' b cs ty) (ho:Own w' X' 0 e k' v' M8) (dh:v'.ownBlock=v.ownBlock\/ ∃g,v'.ownBlock=some g/\w.heap.size<=g) (F':Nat->pN)
  (hR: ∀K A,aH w' A b cs ty->(F' i).p w' K A) (hO: ∀K A,Own w' A 0 e k' v' M8->(F' j).p w' K A) (hQ: ∀K A,Mv (bQ own 4) w K w'->(F q).p w' K A->(F' q).p w' K A)
  (hn: ∀c,(c≠i/\c≠j/\c≠q)-> ∀w' K A,(F c).p w' K A->(F' c).p w' K A) (hi:i≠0/\i≠4:=by omega) (hj:j≠0/\j≠4:=by omega):
  ∃aG,St w0 bN w' X' aG F'/\Mv (bQ own 4) w (bQ aG 4) w':=by
 obtain⟨aG,s',m,_⟩:=s.jR (F':=F') (j:=j) (N:=λk=>v'.ownBlock=some k/\w.heap.size<=k) c (λc=>c=i\/c=j) (λk hk=>(hG k hk).imp (λe=>by rw[e];exact hb) (hv k))
  (λh=>h.elim (λe=>hi.1 e.symm) λe=>hj.1 e.symm) (λh=>h.elim (λe=>hi.2 e.symm) λe=>hj.2 e.symm) (λk hk=>⟨ho.2.2 k hk.1,s.nw hk.2⟩) hj.1
  (λaG e1 e2 m c hc=>by
   have P9:aG b=i:=(e1 b (by rw[hb];exact hi.1)).trans hb;have hvj: ∀g,v'.ownBlock=some g->aG g=j:=λg hg=>by
    rcases dh with h|⟨g',h,hl⟩
    ·have:=hv g (h▸hg);exact(e1 g (by rw[this];exact hj.1)).trans this
    ·exact e2 g ⟨hg,by rw[h] at hg;cases hg;exact hl⟩
   by_cases Cy:c=i
   ·subst Cy;exact hR _ _ ⟨P9,hr.2⟩
   ·have:c=j:=hc.elim (λe=>absurd e Cy) id;subst this;exact hO _ _ ⟨ho.1,ho.2.1,hvj⟩) λc hc K A m h=>by
   by_cases hq:c=q
   ·subst hq;exact hQ K A m h
   ·exact hn c ⟨λe=>hc (.inl e),λe=>hc (.inr e),hq⟩ _ _ _ h
 exact⟨aG,s',m⟩
theorem St.back {w1:World} {X1:XS} {N:World->XS->Prop} (s:St w0 bN w X own F) (i j q:Nat) (hr:aH w (bQ own i) b cs ty) (hv: ∀g,v.ownBlock=some g->own g=j) (c:dY (eT v) X w X1 w1)
  (ho:Own w1 X1 0 e kk v' M8) (dh:v'.ownBlock=v.ownBlock\/ ∃g,v'.ownBlock=some g/\w.heap.size<=g) (ht:(P.info? T).map (·.size)=some 1) (hl:o<cs.length) (F':Nat->pN)
  (hR: ∀w' K A,aH w' A b (dr cs o [v']) ty->(F' i).p w' K A) (hO: ∀w' K A,Own w' A 0 e kk v' M8->(F' j).p w' K A) (hQ: ∀w' K A,Mv (bQ own 4) w K w'->(F q).p w' K A->(F' q).p w' K A)
  (hn: ∀c,(c≠i/\c≠j/\c≠q)-> ∀w' K A,(F c).p w' K A->(F' c).p w' K A) (k: ∀w' X' aG,St w0 bN w' X' aG F'->Mv (bQ own 4) w (bQ aG 4) w'->N w' X') (yD:i≠j/\i≠0/\i≠4/\j≠0/\j≠4:=by omega):
  eU P R X1 w1 true (st1 T 1 (ptr b o) v') λ_ w' X'=>N w' X':=by
 have hb: ∀g,v'.ownBlock=some g->g≠b:=λg hg e=>by
  have hl:=hr.lt;have qU:own b=i:=hr.1;rcases dh with h|⟨g',h,AS⟩
  ·have:=hv g (h▸hg);rw[e] at this;omega
  ·rw[h] at hg;cases hg;omega
 have hX:X b:=s.x b (by rw[show own b=i from hr.1];omega);have Al: ¬eT v b:=λhg=>by have:=hv b hg;have:own b=i:=hr.1;omega
 refine pM (o:=o) (cs:=cs) (ty:=ty) ⟨c.sub b hX,(c.block b hX Al).trans hr.2⟩ rfl ht hl ho.sl.one c.has λw' X' c' jS=>?_;obtain⟨aG,s',m⟩:=s.fs (F':=F') i j q (G:=λk=>k=b\/v.ownBlock=some k) ((c.mono λk _ e=>.inr e).trans (c'.mono λk _ e=>.inl e)) (λ_ h=>h) hr.1 hv jS (ho.dX c' λg hg e=>hb g hg e) dh
  (λK A=>hR w' K A) (λK A=>hO w' K A) (λK A=>hQ w' K A) hn ⟨yD.2.1,yD.2.2.1⟩ yD.2.2.2
 exact k w' X' aG s' m
theorem St.ap1 {t:Nat} {N:World->XS->Prop} (s:St w0 bN w X own F) (i j q:Nat) (hr:aH w (bQ own i) b cs ty) (tU:Own w (bQ own j) 0 e kk v rows) (src:Sl w X kk sv dq) (h1: ∀r∈dq,∀u∈r,one u=true) (hb:rows.length+dq.length<=2^36)
  (F':Value->Nat->pN) (hR: ∀v' w' K A,aH w' A b (dr cs o [v']) ty->(F' v' i).p w' K A) (hO: ∀v' w' K A,Own w' A 0 e kk v' (rows++dq)->(F' v' j).p w' K A) (hQ: ∀v' w' K A,Mv (bQ own 4) w K w'->(F q).p w' K A->(F' v' q).p w' K A)
  (hn: ∀v' c,(c≠i/\c≠j/\c≠q)-> ∀w' K A,(F c).p w' K A->(F' v' c).p w' K A) (k: ∀v' w' X' aG,St w0 bN w' X' aG (F' v')->Mv (bQ own 4) w (bQ aG 4) w'->N w' X')
  (he:nF P T e kk bytes=true:=by kernel_rfl) (hf:fieldInfo P t f=some (o,1):=by kernel_rfl) (ht:(P.info? T).map (·.size)=some 1:=by kernel_rfl) (F8:bytes<=2^10:=by decide) (hl:o<cs.length:=by exact Nat.le_of_ble_eq_true rfl) (yD:i≠j/\i≠0/\i≠4/\j≠0/\j≠4:=by omega):
  eV P R X w true (gu T e kk bytes T v sv) λx w' X'=>lR P X' w' (bu (ptr b 0)) λx1=>aX P X' w' (iA t f o 1 x1) λx2=>eU P R X' w' true (st1 T 1 x2 x) λ_ w' X'=>N w' X':=
 HI (tU.mono (s.sub j zQ)) s.has (aq _) he src h1 (ad (xX hb F8) dQ) zQ λv' w1 X1 c ho dh=>II (sT hf rfl (by
  rw[fe];exact s.back i j q hr (λg hg=>tU.2.2 g hg) c ho dh ht hl (F' v') (hR v') (hO v') (hQ v') (hn v') (k v') yD))
theorem St.ap2 {t z t2 f2 o2:Nat} {N:World->XS->Prop} (s:St w0 bN w X own F) (i j q:Nat) (hr:aH w (bQ own i) b cs ty) (tU:Own w (bQ own j) 0 e kk v rows) (src:Sl w X kk sv dq) (h1: ∀r∈dq,∀u∈r,one u=true) (hb:rows.length+dq.length<=2^36)
  (F':Value->Nat->pN) (hR: ∀v' w' K A,aH w' A b (dr cs (o+o2) [v']) ty->(F' v' i).p w' K A) (hO: ∀v' w' K A,Own w' A 0 e kk v' (rows++dq)->(F' v' j).p w' K A) (hQ: ∀v' w' K A,Mv (bQ own 4) w K w'->(F q).p w' K A->(F' v' q).p w' K A)
  (hn: ∀v' c,(c≠i/\c≠j/\c≠q)-> ∀w' K A,(F c).p w' K A->(F' v' c).p w' K A) (k: ∀v' w' X' aG,St w0 bN w' X' aG (F' v')->Mv (bQ own 4) w (bQ aG 4) w'->N w' X')
  (he:nF P T e kk bytes=true:=by kernel_rfl) (hf:fieldInfo P t f=some (o,z):=by kernel_rfl) (hz:(z !=0)=true:=by rfl) (Xa:fieldInfo P t2 f2=some (o2,1):=by kernel_rfl) (ht:(P.info? T).map (·.size)=some 1:=by kernel_rfl) (F8:bytes<=2^10:=by decide) (hl:o+o2<cs.length:=by exact Nat.le_of_ble_eq_true rfl) (yD:i≠j/\i≠0/\i≠4/\j≠0/\j≠4:=by omega):
  eV P R X w true (gu T e kk bytes T v sv) λx w' X'=>lR P X' w' (bu (ptr b 0)) λx1=>aX P X' w' (iA t f o z x1) λx2=>aX P X' w' (iA t2 f2 o2 1 x2) λx3=>eU P R X' w' true (st1 T 1 x3 x) λ_ w' X'=>N w' X':=
 HI (tU.mono (s.sub j zQ)) s.has (aq _) he src h1 (ad (xX hb F8) dQ) zQ λv' w1 X1 c ho dh=>II (sT hf hz (sT Xa rfl (by
  rw[fe];exact s.back i j q hr (λg hg=>tU.2.2 g hg) c ho dh ht hl (F' v') (hR v') (hO v') (hQ v') (hn v') (k v') yD)))
theorem St.ahB {t fi:Nat} {N:World->XS->Prop} {f:FuncId} (s:St w0 bN w X own F) (i j q:Nat) (hr:aH w (bQ own i) b cs ty) (tU:Own w (bQ own j) 0 e kk v rows)
  (hc:Ct P f args w X (eT v) λv' _ w'=>Own w' (eT v) 0 e kk v' M8/\v'.ownBlock=v.ownBlock) (F':Value->Nat->pN) (hR: ∀v' w' K A,aH w' A b (dr cs o [v']) ty->(F' v' i).p w' K A) (hO: ∀v' w' K A,Own w' A 0 e kk v' M8->(F' v' j).p w' K A) (hQ: ∀v' w' K A,Mv (bQ own 4) w K w'->(F q).p w' K A->(F' v' q).p w' K A)
  (hn: ∀v' c,(c≠i/\c≠j/\c≠q)-> ∀w' K A,(F c).p w' K A->(F' v' c).p w' K A) (k: ∀v' w' X' aG,St w0 bN w' X' aG (F' v')->Mv (bQ own 4) w (bQ aG 4) w'->N w' X')
  (he:enters P f=true:=by kernel_rfl) (hf:fieldInfo P t fi=some (o,1):=by kernel_rfl) (ht:(P.info? T).map (·.size)=some 1:=by kernel_rfl) (hl:o<cs.length:=by exact Nat.le_of_ble_eq_true rfl) (yD:i≠j/\i≠0/\i≠4/\j≠0/\j≠4:=by omega):
  eC P R X w true f args λx w' X'=>lR P X' w' (bu (ptr b 0)) λx1=>aX P X' w' (iA t fi o 1 x1) λx2=>eU P R X' w' true (st1 T 1 x2 x) λ_ w' X'=>N w' X':=
 yP hc he s.has (λk hk=>s.sub j zQ k (tU.2.2 k hk)) λv' wa w1 X1 ⟨ho,dh⟩ _ _ _ c=>II (sT hf rfl (by
  rw[fe];exact s.back i j q hr (λg hg=>tU.2.2 g hg) c (ho.mono λk hk=>c.sub k (s.sub j zQ k (tU.2.2 k hk))) (.inl dh) ht hl (F' v') (hR v') (hO v') (hQ v') (hn v') (k v') yD))
theorem St.next (s:St w0 bN w X own F) (c:dY G X w X' w') (hG: ∀k,G k->gF own k) (h':Hs F' w' aG) (e:Bd own aG w.heap.size) (hx: ∀k,aG k≠0->w.heap.size<=k->X' k):St w0 bN w' X' aG F':=by
 have AN: ∀k,aG k≠0->X' k:=λk hk=>by
  by_cases hl:k<w.heap.size
  ·exact c.sub k (s.x k λe0=>hk ((e k hl).1 e0))
  grind
 refine⟨s.t.dX c hG λk hk=>?_,h',AN,λk hk=>?_⟩
 ·by_cases hl:k<w.heap.size
  ·exact .inl ⟨λe0=>hk.1 ((e k hl).1 e0),λe0=>hk.2 ((e k hl).2 e0)⟩
  ·exact .inr ⟨AN k hk.1,by omega⟩
 ·have h1:=s.e k hk;have h2:=e k (av hk s.t.s.kp.size)
  grind
def St.m4 (s:St w0 bN w X own F) (c:dY G X w X' w') (hG: ∀k,G k->gF own k) (e:Bd own aG w.heap.size):Mv (bQ own 4) w (bQ aG 4) w':=λk (hk:own k=4) hl=>⟨(e k hl).2 hk,c.block k (s.x k zQ) λh=>(hG k h).2 hk⟩
variable {f : FuncId}
theorem St.Yd {n':σ} (s:St w0 bN w X own F) (hle:w.heap.size<=wa.heap.size) (gv: ∀k,made wa w' k->X' k) (c:dY (gF own) X w X' w') (e:Bd own aG wa.heap.size) (h':Hs (dR n') w' aG):St w0 bN w' X' aG (dR n')/\Mv (bQ own 4) w (bQ aG 4) w':=
 ⟨s.next c (λ_ h=>h) h' (λk hk=>e k (av hk hle)) λk hk hl=>by
   by_cases AS:k<wa.heap.size
   ·exact absurd ((e k AS).1 (s.nw hl).1) hk
   ·exact gv k ⟨by omega,h'.lt k hk⟩,s.m4 c (λ_ h=>h) λk hk=>e k (av hk hle)⟩
def St.call {N:Value->World->XS->Prop} {Q:Value->World->Fo->σ->Prop} (s:St w0 bN w X own F) (h:Ct P f args w X (gF own) λv wa w'=>NQ dR own wa w' (Q v w')) (hf:enters P f=true)
  (k: ∀v w' X' aG n',St w0 bN w' X' aG (dR n')->Q v w' aG n'->Mv (bQ own 4) w (bQ aG 4) w'->N v w' X'):eC P R X w true f args N:=
 s.t.call h hf (λ_ h=>h) λv wa w' X' ⟨aG,n',e,h',q⟩ hle gv _ c=>k v w' X' aG n' (s.Yd hle gv c e h').1 q (s.Yd hle gv c e h').2
def St.fin {Q:Value->World->Fo->σ->Prop} (s:St w0 bN w X own (dR n)) (hq: ∀wa,Kp X w wa->Q v wa own n):aL.fin (uF (gF bN) w0 λv w'=>NQ dR bN w0 w' (Q v w')) X w v:=
 s.t.fin λwa hk=>⟨own,n,s.e,s.h.kp s.x hk,hq wa hk⟩
def St.xN {Q:Value->World->Fo->σ->Prop} {QP:List PanicEntry->World->Prop} (s:St w0 bN w X own (dR n)) (hq: ∀wa,Kp X w wa->Q v wa own n):aL.fin (EV (gF bN) w0 (λv w'=>NQ dR bN w0 w' (Q v w')) QP) X w v:=
 s.t.xN λwa hk=>⟨own,n,s.e,s.h.kp s.x hk,hq wa hk⟩
end
end Go.aL
namespace Go.aL
variable {P : Program} {R : Ending -> World -> Prop} {X : XS} {w : World} {m : Bool}
variable {N : Value -> Prop} {i : Nat} {z : Int} {s : ByteArray} {t : TypeId}
theorem al8 (hz:z=i) (hi:i<=s.size) (ht:P.underlying t=some .string) (k:N (.string (s.extract 0 i))):
  aX P X w (bJ t (.string s) none (some (.int .i64 z)) none) N:=by
 subst hz;refine bF (λwa=>?_) k;rw[run_sliceAt_string wa t _ _ _ _ ht,run_slice_string_h wa t s ht .i64 i zQ zQ];rfl
theorem al9 (hz:z=i) (hi:i<=s.size) (ht:P.underlying t=some .string) (k:N (.string (s.extract i s.size))):
  aX P X w (bJ t (.string s) (some (.int .i64 z)) none none) N:=by
 subst hz;refine bF (λwa=>?_) k;rw[run_sliceAt_string wa t _ _ _ _ ht,run_slice_string_l wa t s ht .i64 i zQ zQ];rfl
def uV (s:ByteArray):List Nat:=s.data.toList.map UInt8.toNat
theorem It (s:ByteArray):(uV s).length=s.size:=by unfold uV;simp_all
theorem aks {x:Nat} (h:x∈uV s):x<256:=by
 obtain⟨b,_,rfl⟩:=List.mem_map.1 h;exact UInt8.toNat_lt b
theorem afy {src dst e:TypeId} {N:Value->World->XS->Prop} (hX: ∀k,X k->k<w.heap.size) (hl:s.size<=2^62) (hs:P.underlying src=some .string) (hd:P.underlying dst=some (.slice e)) (he:P.underlying e=some (.int .u8))
  (n: ∀v w' X',ai X w X' w'->Sl w' X' 1 v ((uV s).map λx:Nat=>[.int .u8 (x:Int)])->N v w' X'):eV P R X w m (convert src dst (.string s)) N:=by
 unfold eV eW;intro wa hk;unfold jP;have hr:=run_bytes_of_string (P:=P) wa src dst e s hs hd he;simp only[vS,bq,hr,aN,bO];generalize hC:bytesRow s (grownCap wa s.size 0 e)=C;have hblk: ∀k,k<wa.heap.size->(wa.drew.alloc (.cells C e (C.size,C.size+1))).heap[k]? =wa.heap[k]? :=λk hk=>heap_alloc_old wa.drew _ hk;have hx:Ext wa (wa.drew.alloc (.cells C e (C.size,C.size+1))):=⟨rfl,rfl,rfl,by simp,λk wP _=>hblk k wP⟩;have dB:=grownCap_ge wa s.size 0 e;have iC:grownCap wa s.size 0 e<=maxLen:=grownCap_le_maxLen wa _ 0 e (by simp only[maxLen];omega);refine⟨Step.eZ hx,n _ _ _ (ai.eZ hX hk hx) ?_⟩;have hlen:((uV s).map λx:Nat=>[ay .u8 (x:Int)]).length=s.size:=by rw[ah,It]
 refine⟨λr hr=>?_,by omega,_,_,by rw[hlen],λ_=>⟨wa.heap.size,0,rfl,.inr ⟨au _,by simp⟩,C,e,_,heap_alloc_new wa.drew _,λj v hj=>?_⟩,by simp,by omega,iC⟩
 ·obtain⟨x,_,rfl⟩:=List.mem_map.1 hr;rfl
 ·have hf:((uV s).map λx:Nat=>[ay .u8 (x:Int)]).flatten=(uV s).map λx:Nat=>ay .u8 (x:Int):=by
   generalize uV s=l
   induction l with
   |nil=>rfl
   |cons a l ih=>simp only[bm,cW,List.singleton_append,ih]
  rw[hf,cL] at hj;rw[<-hC,fe];unfold bytesRow;have gd:j<s.data.size:=by
   cases hq:(uV s)[j]? with
   |none=>rw[hq] at hj;cases hj
   |some x=>
    have:=(List.getElem?_eq_some_iff.1 hq).1;rw[It] at this;exact this
  rw[kH (by rw[Array.size_map];omega),Array.getElem?_map];unfold uV at hj;rw[cL,mV] at hj;rw[<-hj];cases s.data[j]? <;>rfl
structure Two (A B:Prop):Prop where
 a:A
 b:B
variable {A B p : Prop}
def q0t (h:A->B->p):Two A B->p:=λt=>h t.a t.b
def cQ (a:A) (b:B):Two A B:=⟨a,b⟩
variable {q : Prop}
theorem q0b (h:q->p:=by first|(intro q9;first|(with_reducible first|apply abY|apply SL|apply Ym|apply HQ|apply ak0|apply aix|apply Ff|apply ak1|apply YZ|apply aiy|apply ahi|apply ahj|apply TT|apply afl|apply am8|apply KF|apply KG|apply alI|apply ap0|apply aox|apply ajz|apply Yl|apply afG|apply II|apply ak5|apply apa);exact q9|(with_reducible apply akZ);(case k=>exact q9);(· rfl)|(with_reducible apply ao8);(case k=>exact q9);(· exact qN)|(with_reducible apply ao9);(case k=>exact q9);(· exact qN)|(with_reducible apply Rq);(case k=>exact q9);(· exact qF);(· kernel_rfl);(· rfl)|(with_reducible apply ao5);(case k=>exact q9);(· exact qF);(· kernel_rfl);(· rfl);(· exact qN)|(with_reducible apply aeu);(case k=>exact q9);(· exact qF);(· exact qM);(· kernel_rfl);(· rfl)|(with_reducible apply ac4);(case k=>exact q9);(· exact qF);(· exact qM);(· kernel_rfl);(· rfl)|(with_reducible apply ao6);(case n=>exact q9);(· exact qO);(· kernel_rfl)|(with_reducible apply ao7);(case n=>exact q9);(· assumption);(· kernel_rfl)|(with_reducible apply ao4);(case k=>exact q9);(· kernel_rfl)|(with_reducible apply ajY);(case n=>exact q9);(· exact qO);(try (case hz=>rfl));(case hr=>first|assumption|(clear q9;exact List.getElem?_eq_getElem (by omega)));(try (case hz=>omega));(case ht=>kernel_rfl);(case hs=>kernel_rfl)|(with_reducible apply aer);(case k=>exact q9);(· kernel_rfl)|(with_reducible apply ajG);(case h=>exact q9);(· rfl)|(with_reducible apply ak6);(case k=>exact q9);(· kernel_rfl)|(with_reducible apply ak7);(case k=>exact q9);(· kernel_rfl)|(with_reducible apply anE);(case k=>exact q9);(· kernel_rfl)|(with_reducible apply anF);(case k=>exact q9);(· kernel_rfl)|(with_reducible apply anz);(case k=>exact q9);(case h=>exact qE)|(with_reducible apply anA);(case k=>exact q9);(case h=>exact qE)|(with_reducible apply ael);(case k=>exact q9);(· exact qC)|(with_reducible apply ajX);(case h=>exact q9);(· omega);(· omega)|(with_reducible apply ao2);(case h=>exact q9);(· omega);(· omega)|(with_reducible apply aev);(case h=>exact q9);(· kernel_rfl);(· kernel_rfl)|(with_reducible apply apb);(case h=>exact q9);(· kernel_rfl);(· kernel_rfl)|(with_reducible apply ape);(case k=>exact q9);(try (case hz=>rfl));(case hb=>assumption);(try (case hz=>omega));(case ht=>kernel_rfl)|(with_reducible apply apc);(case k=>exact q9);(· kernel_rfl);(· kernel_rfl);(try (case hz=>rfl));(case hn=>omega);(case hl=>rfl)|(with_reducible apply anD);(case k=>exact q9);(case hf=>kernel_rfl);(case hg=>kernel_rfl);(case hlen=>rfl);(case hl=>exact qN)|(with_reducible apply apf);(case h=>exact q9);(· rfl)|fail)|(apply q0t;intro a9 b9;first|(with_reducible first|apply aem|apply aep|apply aeq|apply ajW|apply aen|apply aeo|apply anl|apply anm|apply ann|apply ano|apply anp|apply anq|apply anr|apply ans|apply ant|apply anu|apply anv|apply anw|apply akh);(· exact a9);exact b9|(with_reducible apply anx);(case hT=>exact a9);(case hF=>exact b9);(· exact qO);(· kernel_rfl)|fail)|fail):q->p:=h
theorem q0d (h:q->p:=by intro q9;first|(with_reducible refine am9 ?_ ?_);rotate_left;exact q9;omega|(with_reducible refine ana ?_ ?_);rotate_left;exact q9;omega|(with_reducible refine anh ?_ ?_);rotate_left;exact q9;omega|(with_reducible refine ani ?_ ?_);rotate_left;exact q9;omega|(with_reducible refine anj ?_ ?_);rotate_left;exact q9;omega|(with_reducible refine ank ?_ ?_);rotate_left;exact q9;omega|(with_reducible refine anb ?_ ?_);rotate_left;exact q9;omega|(with_reducible refine anc ?_ ?_);rotate_left;exact q9;omega|(with_reducible refine ane ?_ ?_);rotate_left;exact q9;omega|(with_reducible refine anf ?_ ?_);rotate_left;exact q9;omega|(with_reducible refine ang ?_ ?_);rotate_left;exact q9;omega|fail):q->p:=h
theorem ak (k:q) (h:q->p:=by exact q0b):p:=h k
theorem aJ (k:q) (h:q->p:=by first|exact q0d|exact q0b|fail):p:=h k
variable {P : Program} {R : Ending -> World -> Prop} {X : XS} {w w0 : World} {b m : Bool} {v : Value} {l : List Value}
section
variable {X0 : XS} {f : FuncId} {args : Array Value} {N : Value -> World -> XS -> Prop} {t e k : Nat}
theorem ph (h:Pure P f args v) (hs:ai X0 w0 X w) (n: ∀w' X',ai X0 w0 X' w'->N v w' X') (hf:enters P f=true:=by kernel_rfl):eC P R X w m f args N:=rL h hf hs.has λw' X' h1=>n w' X' (hs.trans h1)
theorem kh (h:Pure P f args (.bool b)) (hs:ai X0 w0 X w) (hT:b=true-> ∀w' X',ai X0 w0 X' w'->N (.bool true) w' X') (hF:b=false-> ∀w' X',ai X0 w0 X' w'->N (.bool false) w' X') (hf:enters P f=true:=by kernel_rfl):eC P R X w m f args N:=M1 h hf hs.has (λhb w' X' h1=>hT hb w' X' (hs.trans h1)) λhb w' X' h1=>hF hb w' X' (hs.trans h1)
theorem qk (h:Ct P f args w X nX λv _ _=>v= .bool b) (hs:ai X0 w0 X w) (hT:b=true-> ∀w' X',ai X0 w0 X' w'->N (.bool true) w' X') (hF:b=false-> ∀w' X',ai X0 w0 X' w'->N (.bool false) w' X') (hf:enters P f=true:=by kernel_rfl):eC P R X w m f args N:=Hv h hf hs.has (λhb w' X' h1=>hT hb w' X' (hs.trans h1)) λhb w' X' h1=>hF hb w' X' (hs.trans h1)
theorem UZ {u:Value} (h:Ct P f args w X nX λv _ _=>v=u) (hs:ai X0 w0 X w) (n: ∀w' X',ai X0 w0 X' w'->N u w' X') (hf:enters P f=true:=by kernel_rfl):eC P R X w m f args N:=dS h hf hs.has λw' X' h1=>n w' X' (hs.trans h1)
theorem xS (h:Ct P f args w X nX λv _ _=> ∃n:Int,v= .int .i64 n) (hs:ai X0 w0 X w) (n: ∀(z:Int) w' X',ai X0 w0 X' w'->N (.int .i64 z) w' X') (hf:enters P f=true:=by kernel_rfl):eC P R X w m f args N:=anB h hf hs.has λz w' X' h1=>n z w' X' (hs.trans h1)
theorem q1e (hs:ai X0 w0 X w) (n: ∀a b c w' X',ai X0 w0 X' w'->Own w' X' w.heap.size e k (.slice a b c) [l]->N (.slice a b c) w' X') (he:M4 P t e k=true:=by kernel_rfl) (hk:(l.length==k)=true:=by rfl):eV P R X w m (gR t e k 1 #[(0,.agg l.toArray)]) N:=
 Qq hs.has he hk λv w' X' h1 ho=>by
  obtain⟨_,_,_,rfl⟩:=ho.sl.form;exact n _ _ _ w' X' (hs.trans h1) ho
theorem q1s {x:Value} (hs:ai X0 w0 X w) (n: ∀a b c w' X',ai X0 w0 X' w'->Own w' X' w.heap.size e k (.slice a b c) [[x]]->N (.slice a b c) w' X') (he:M4 P t e k=true:=by kernel_rfl) (ho:one x=true:=by first|rfl|assumption) (hk:(k==1)=true:=by rfl):eV P R X w m (gR t e k 1 #[(0,x)]) N:=
 Xk hs.has he ho hk λv w' X' h1 ho=>by
  obtain⟨_,_,_,rfl⟩:=ho.sl.form;exact n _ _ _ w' X' (hs.trans h1) ho
theorem QG (hs:ai X0 w0 X w) (n: ∀v w' X',ai X0 w0 X' w'->Own w' X' w.heap.size e k v []->N v w' X') (hu:P.underlying t=some (.slice e):=by kernel_rfl) (hz:(P.info? e).map (·.size)=some k:=by kernel_rfl):eV P R X w m (gR t e k 0 #[]) N:=
 adb hs.has hu hz λv w' X' h1 ho=>n v w' X' (hs.trans h1) ho
def Od (hs:ai X0 w0 X w) (n: ∀b w' X',w.heap.size<=b->ai X w X' w'->ai X0 w0 X' w'->ai X' w' X' w'->aH w' X' b l t->N (ptr b 0) w' X'):eV P R X w m (bT t (.agg l.toArray)) N:=
 A6 hs.has λb w' X' hb h1 hr=>n b w' X' hb h1 (hs.trans h1) (ai.fG h1.has) hr
theorem q1x (hs:ai X0 w0 X w) (n: ∀b w' X',w.heap.size<=b->ai X w X' w'->ai X0 w0 X' w'->ai X' w' X' w'->aH w' X' b [v] t->N (ptr b 0) w' X') (ho:one v=true:=by rfl):eV P R X w m (bT t v) N:=
 tR ho hs.has λb w' X' hb h1 hr=>n b w' X' hb h1 (hs.trans h1) (ai.fG h1.has) hr
end
theorem qr {Q:Value->World->Prop} (h: ∀wa,Kp X w wa->Q v wa) (hs:ai (bK w0) w0 X w:=by first|exact hs|exact gf.trans hs):fin (uF nX w0 Q) X w v:=bS hs h
end Go.aL
namespace Go.Proofs.YtgfijddlkhkopaaGreat
open Go.Proofs.Tryz renaming prog → pg
open Go.aL
set_option maxRecDepth 100000
set_option maxHeartbeats 4000000
abbrev BA:=ByteArray
@[ext] structure cn where
 wall:Int
 dy:Int
 node:Int
 deriving DecidableEq
abbrev cn.l (s:cn):List Value:=[I s.wall,I s.dy,I s.node]
abbrev cn.v (s:cn):Value:=.agg #[I s.wall,I s.dy,I s.node]
abbrev cn.zero:cn:=⟨0,0,0⟩
@[ext] structure bE where
 ep:Int
 aR:Int
 sq:Int
 deriving DecidableEq
abbrev bE.l (s:bE):List Value:=[I s.ep,I s.aR,I s.sq]
abbrev bE.v (s:bE):Value:=.agg #[I s.ep,I s.aR,I s.sq]
abbrev bE.zero:bE:=⟨0,0,0⟩
@[ext] structure gL where
 kind:Int
 num:Nat
 text:BA
 deriving DecidableEq
abbrev gL.l (x:gL):List Value:=[I x.kind,.float .f64 x.num,.string x.text]
abbrev gL.v (x:gL):Value:=.agg #[I x.kind,.float .f64 x.num,.string x.text]
abbrev gL.zero:gL:=⟨0,0,⟨#[]⟩⟩
@[ext] structure KV where
 key:BA
 val:gL
 deriving DecidableEq
abbrev KV.l (x:KV):List Value:=[.string x.key,I x.val.kind,.float .f64 x.val.num,.string x.val.text]
abbrev KV.v (x:KV):Value:=.agg #[.string x.key,I x.val.kind,.float .f64 x.val.num,.string x.val.text]
abbrev S1 (x:BA):List Value:=[.string x]
abbrev I1 (x:Int):List Value:=[I x]
@[ext] structure pt where
 aV:cn
 val:gL
 deriving DecidableEq
abbrev pt.l (x:pt):List Value:=[I x.aV.wall,I x.aV.dy,I x.aV.node,I x.val.kind,.float .f64 x.val.num,.string x.val.text]
@[ext] structure kz where
 key:BA
 mE:List pt
 deriving DecidableEq
abbrev kz.l (h:kz) (vv:Value):List Value:=[.string h.key,vv]
def kz.rd (w:World) (X:XS) (l:List Value) (h:kz):Prop:= ∃vv,l=h.l vv/\Sl w X 6 vv (h.mE.map pt.l)
@[ext] structure gw where
 aM:bE
 aV:cn
 reads:List BA
 writes:List KV
 deriving DecidableEq
abbrev gw.l (p:gw) (vr vw:Value):List Value:=[I p.aM.ep,I p.aM.aR,I p.aM.sq,I p.aV.wall,I p.aV.dy,I p.aV.node,vr,vw]
abbrev gw.v (p:gw) (vr vw:Value):Value:=.agg #[I p.aM.ep,I p.aM.aR,I p.aM.sq,I p.aV.wall,I p.aV.dy,I p.aV.node,vr,vw]
def gw.rd (w:World) (X:XS) (l:List Value) (p:gw):Prop:= ∃vr vw,l=p.l vr vw/\Sl w X 1 vr (p.reads.map S1)/\Sl w X 4 vw (p.writes.map KV.l)
@[ext] structure eI where
 id:Int
 iB:Int
 lo:Nat
 hi:Nat
 deriving DecidableEq
abbrev eI.l (r:eI):List Value:=[I r.id,I r.iB,.float .f64 r.lo,.float .f64 r.hi]
abbrev eI.v (r:eI):Value:=.agg #[I r.id,I r.iB,.float .f64 r.lo,.float .f64 r.hi]
@[ext] structure State where
 range:eI
 floor:cn
 closed:cn
 iu:List kz
 gY:List gw
 deriving DecidableEq
abbrev State.l (s:State) (vh vp:Value):List Value:=[I s.range.id,I s.range.iB,.float .f64 s.range.lo,.float .f64 s.range.hi,
 I s.floor.wall,I s.floor.dy,I s.floor.node,I s.closed.wall,I s.closed.dy,I s.closed.node,vh,vp]
abbrev State.v (s:State) (vh vp:Value):Value:=.agg #[I s.range.id,I s.range.iB,.float .f64 s.range.lo,.float .f64 s.range.hi,
 I s.floor.wall,I s.floor.dy,I s.floor.node,I s.closed.wall,I s.closed.dy,I s.closed.node,vh,vp]
abbrev qx (w:World) (X:XS) (v:Value) (l:List kz):Prop:=fg w X 2 v kz.rd l
abbrev qw (w:World) (X:XS) (v:Value) (l:List gw):Prop:=fg w X 8 v gw.rd l
def State.rd (w:World) (X:XS) (l:List Value) (s:State):Prop:= ∃vh vp,l=s.l vh vp/\qx w X vh s.iu/\qw w X vp s.gY
@[ext] structure Rec where
 kind:Int
 aM:bE
 aV:cn
 prev:cn
 jG:Bool
 n:Int
 rW:Nat
 reads:List BA
 writes:List KV
 parts:List Int
 wR:List KV
 state:State
 deriving DecidableEq
abbrev Rec.l (r:Rec) (vr vw vp vq vh vd:Value):List Value:=[I r.kind,I r.aM.ep,I r.aM.aR,I r.aM.sq,I r.aV.wall,I r.aV.dy,I r.aV.node,
 I r.prev.wall,I r.prev.dy,I r.prev.node,B r.jG,I r.n,.float .f64 r.rW,vr,vw,vp,vq,I r.state.range.id,I r.state.range.iB,.float .f64 r.state.range.lo,.float .f64 r.state.range.hi,
 I r.state.floor.wall,I r.state.floor.dy,I r.state.floor.node,I r.state.closed.wall,I r.state.closed.dy,I r.state.closed.node,vh,vd]
abbrev Rec.v (r:Rec) (vr vw vp vq vh vd:Value):Value:=.agg #[I r.kind,I r.aM.ep,I r.aM.aR,I r.aM.sq,I r.aV.wall,I r.aV.dy,I r.aV.node,
 I r.prev.wall,I r.prev.dy,I r.prev.node,B r.jG,I r.n,.float .f64 r.rW,vr,vw,vp,vq,I r.state.range.id,I r.state.range.iB,.float .f64 r.state.range.lo,.float .f64 r.state.range.hi,
 I r.state.floor.wall,I r.state.floor.dy,I r.state.floor.node,I r.state.closed.wall,I r.state.closed.dy,I r.state.closed.node,vh,vd]
def Rec.at (w:World) (X:XS) (r:Rec) (vr vw vp vq vh vd:Value):Prop:=
 Sl w X 1 vr (r.reads.map S1)/\Sl w X 4 vw (r.writes.map KV.l)/\Sl w X 1 vp (r.parts.map I1)/\Sl w X 4 vq (r.wR.map KV.l)/\qx w X vh r.state.iu/\qw w X vd r.state.gY
def Rec.rd (w:World) (X:XS) (l:List Value) (r:Rec):Prop:= ∃vr vw vp vq vh vd,l=r.l vr vw vp vq vh vd/\r.at w X vr vw vp vq vh vd
@[ext] structure fb where
 key:BA
 val:gL
 aV:cn
 deriving DecidableEq
abbrev fb.l (x:fb):List Value:=[.string x.key,I x.val.kind,.float .f64 x.val.num,.string x.val.text,I x.aV.wall,I x.aV.dy,I x.aV.node]
@[ext] structure cJ where
 kind:Int
 fr:Int
 to:Int
 aM:bE
 range:Int
 iB:Int
 code:Int
 aV:cn
 prev:cn
 jG:Bool
 n:Int
 mx:Int
 keys:List BA
 seen:List fb
 writes:List KV
 parts:List Int
 ranges:List eI
 bh:List Rec
 state:State
 deriving DecidableEq
abbrev cJ.l (m:cJ) (vk vs vw vp vr vc vh vd:Value):List Value:=[I m.kind,I m.fr,I m.to,I m.aM.ep,I m.aM.aR,I m.aM.sq,I m.range,I m.iB,I m.code,
 I m.aV.wall,I m.aV.dy,I m.aV.node,I m.prev.wall,I m.prev.dy,I m.prev.node,B m.jG,I m.n,I m.mx,vk,vs,vw,vp,vr,vc,
 I m.state.range.id,I m.state.range.iB,.float .f64 m.state.range.lo,.float .f64 m.state.range.hi,
 I m.state.floor.wall,I m.state.floor.dy,I m.state.floor.node,I m.state.closed.wall,I m.state.closed.dy,I m.state.closed.node,vh,vd]
abbrev cJ.v (m:cJ) (vk vs vw vp vr vc vh vd:Value):Value:=.agg #[I m.kind,I m.fr,I m.to,I m.aM.ep,I m.aM.aR,I m.aM.sq,I m.range,I m.iB,I m.code,
 I m.aV.wall,I m.aV.dy,I m.aV.node,I m.prev.wall,I m.prev.dy,I m.prev.node,B m.jG,I m.n,I m.mx,vk,vs,vw,vp,vr,vc,
 I m.state.range.id,I m.state.range.iB,.float .f64 m.state.range.lo,.float .f64 m.state.range.hi,
 I m.state.floor.wall,I m.state.floor.dy,I m.state.floor.node,I m.state.closed.wall,I m.state.closed.dy,I m.state.closed.node,vh,vd]
section
variable (R : Ending -> World -> Prop) (w0 : World) (X0 : XS)
noncomputable def S7:gC:=⟨43,[],[],[0,2,3,4,5,7,8,9,12,26,40],[35,36,37,38,39],[]⟩
def HJ (p0:Value):Prop:=
 eV pg nP X0 w0 true (fZ 73 true (di #[])) λa b c=>
 eV pg nP c b true (fZ 37 true (di #[])) λd e g=>
 (aX pg g e (cE (Fn.func 132) #[] #[a,d]) λh=>
 (aX pg g e (kU 151 3 p0) λi=>
 aX pg g e (binOp .gtr 3 i (I 262144)) λj=>
 (mR j
 (aX pg g e (rE 73 #[(I 0),(I 0),(I 0),(I 0),(I 0),(I 0),(I 0),(I 0),(I 0),(I 0),(B false),(I 0),(.float .f64 0),(.slice none 0 0),(.slice none 0 0),(.slice none 0 0),(.slice none 0 0),(I 0),(I 0),(.float .f64 0),(.float .f64 0),(I 0),(I 0),(I 0),(I 0),(I 0),(I 0),(.slice none 0 0),(.slice none 0 0)] #[]) λk=>
 eU pg (dP pg Tryz.f79 R [a,d,h]) g e true (st1 73 29 a k) λ_ l m=>
 eU pg (dP pg Tryz.f79 R [a,d,h]) m l true (st1 37 1 d (I 4)) λ_ n o=>
 (fin (dP pg Tryz.f79 R [a,d,h]) o n (di #[a,d,h])))
 ((eC pg (dP pg Tryz.f79 R [a,d,h]) g e true 133 #[p0] λq r s=>
 (aX pg s r (rE 249 #[(.pointer none),q] #[(1,q)]) λt=>
 eV pg (dP pg Tryz.f79 R [a,d,h]) s r true (bT 249 t) λv y z=>
 eC pg (dP pg Tryz.f79 R [a,d,h]) z y true 134 #[v,a] λ_ A C=>
 (eC pg (dP pg Tryz.f79 R [a,d,h]) C A true 135 #[q] λD E F=>
 aX pg F E (gD D 0) λG=>
 aX pg F E (gD D 1) λ_=>
 (aX pg F E (dG .neq 37 (.tmp 25) (.const (I 0)) G (I 0)) λH=>
 (mR H
 (aX pg F E (rE 73 #[(I 0),(I 0),(I 0),(I 0),(I 0),(I 0),(I 0),(I 0),(I 0),(I 0),(B false),(I 0),(.float .f64 0),(.slice none 0 0),(.slice none 0 0),(.slice none 0 0),(.slice none 0 0),(I 0),(I 0),(.float .f64 0),(.float .f64 0),(I 0),(I 0),(I 0),(I 0),(I 0),(I 0),(.slice none 0 0),(.slice none 0 0)] #[]) λL=>
 eU pg (dP pg Tryz.f79 R [a,d,h]) F E true (st1 73 29 a L) λ_ M N=>
 eU pg (dP pg Tryz.f79 R [a,d,h]) N M true (st1 37 1 d (I 4)) λ_ O Q=>
 (fin (dP pg Tryz.f79 R [a,d,h]) Q O (di #[a,d,h])))
 ((aX pg F E (su 73 29 a) λS=>
 eC pg (dP pg Tryz.f79 R [a,d,h]) F E true 136 #[S] λT U V=>
 aX pg V U (gD T 0) λY=>
 aX pg V U (gD T 1) λZ=>
 (aX pg V U (dG .neq 37 (.tmp 33) (.const (I 0)) Z (I 0)) λa0=>
 un (pT a0 false Y) λb0=>
 un (pT a0 false p0) λc0=>
 jn (λ(d0:Value) (e0:World) (g0:XS)=>
 lS pg g0 e0 a0 false (vS (bp bY d0)) λh0=>
 lR pg g0 e0 (iE a0 (B true) h0) λi0=>
 (mR i0
 (aX pg g0 e0 (rE 73 #[(I 0),(I 0),(I 0),(I 0),(I 0),(I 0),(I 0),(I 0),(I 0),(I 0),(B false),(I 0),(.float .f64 0),(.slice none 0 0),(.slice none 0 0),(.slice none 0 0),(.slice none 0 0),(I 0),(I 0),(.float .f64 0),(.float .f64 0),(I 0),(I 0),(I 0),(I 0),(I 0),(I 0),(.slice none 0 0),(.slice none 0 0)] #[]) λj0=>
 eU pg (dP pg Tryz.f79 R [a,d,h]) g0 e0 true (st1 73 29 a j0) λ_ k0 l0=>
 eU pg (dP pg Tryz.f79 R [a,d,h]) l0 k0 true (st1 37 1 d (I 4)) λ_ m0 n0=>
 (fin (dP pg Tryz.f79 R [a,d,h]) n0 m0 (di #[a,d,h])))
 ((aX pg g0 e0 (su 73 29 a) λo0=>
 eU pg (dP pg Tryz.f79 R [a,d,h]) g0 e0 true (st1 73 29 a o0) λ_ q0 r0=>
 eU pg (dP pg Tryz.f79 R [a,d,h]) r0 q0 true (st1 37 1 d (I 0)) λ_ s0 t0=>
 (fin (dP pg Tryz.f79 R [a,d,h]) t0 s0 (di #[a,d,h])))))) λv0=>
 (gE a0 false (eC pg (dP pg Tryz.f79 R [a,d,h]) V U true 137 #[b0,c0] v0) (v0 undef U V))))))))))))))
end
def oT (l:Array Operand):List Nat:=l.toList.filterMap λo=>match o with| .tmp t=>some t|_=>none
def L7:Code->List (List Oper)×List Nat
 | .region _ o _=>([o.toList],[])
 | .seq a b=>((L7 a).1++(L7 b).1,(L7 a).2++(L7 b).2)
 | .cond c a b=>((L7 a).1++(L7 b).1,oT #[c]++(L7 a).2++(L7 b).2)
 | .block _ a=>L7 a
 | .loop a=>L7 a
 |_=>([],[])
def isT (l:List Nat):Operand->Bool
 | .tmp t=>yz l t
 |_=>false
def anK (bx:List Nat):List Oper->List Nat->List Nat
 |[],d=>d
 |o::r,d=>anK bx r (match o.op,o.dst with| .fieldAddr _ x _,some y=>if isT bx x||isT d x then y::d else d|_,_=>d)
def anM:List Oper->List Nat->List Nat×List Nat
 |[],_=>([],[])
 |o::r,s=>let t:=oT o.op.operands;let u:=anM r (o.dst.toList++s);(t++o.dst.toList++u.1,t.filter (λx=>!yz s x)++u.2)
def aeD (t:Nat):List (List Nat)->Bool->Bool
 |[],_=>false
 |l::r,m=>if yz l t then m||aeD t r true else aeD t r m
def aeE (fn:Func) (bx:List (Nat×Nat)) (mat car:List Nat):gC:=
 let c:=L7 (fn.body.getD .skip)
 let b:=bx.map Prod.fst
 let d:=anK b c.1.flatten []
 let u:=c.1.map λl=>anM l []
 let x:=c.2++fn.results.toList.filterMap (λr=>match r with| .tmp t=>some t|_=>none)++(u.map Prod.snd).flatten
 ⟨fn.ntmps,bx,d,(List.range fn.ntmps).filter λt=>!yz b t&&!yz d t&&(t<fn.params.size+fn.nfree||yz x t||aeD t (u.map Prod.fst) false),mat,car⟩
variable {R : Ending -> World -> Prop} {args : Array Value} {fn : Func} {f : FuncId}
theorem cv {w:World} {V:Prop} (pl:gC) (hf:pg.funcs[f]? =some fn) (h:V)
 (hs:(decide (args.size<=pl.n)&&pl.boxes.all λp=>decide (args.size<=p.1))=true:=by kernel_rfl) (hv:V=ON pg (cF pg pl fn) R args w:=by kernel_rfl):Calls pg f args w R:=GC hf hs hv h
structure CQ (f:FuncId) (args:Array Value) (V:SP):Prop where
 g: ∀{R:Ending->World->Prop} {w:World} {q:Prop},(ai (bK w) w (bK w) w->q)->(e:V pg R (bK w) w=q:=by dsimp only [aZ,ae,pP,Zq3,dd,lP,iQ,Zq7,dw,pQ,bX,gx,iK,lz,jv,kX,bD,Bo,gK,S3,dC,cO,rM,cx,aiC,de,aiD,bt,jJ,dz,cV,fL,G5,qK,oI,cA,IJ,eQ,fC,qe,aiE,dD,fD,fA,aet,kA,oJ,iz,rN,j5,fU,oK,vi,eY,vj,jj,rO,gN,sD,gT,nU,fO,tA,nV,fV,tB,ib,aiF,j6,rP,Fj,um,kB,jQ,wh,sE,wj,wo,lZ,iU,gU,pz,aiG,ja,xW,nE,du,sA,qq,Gp,xT,ZcU,uL,C6,ZcE,aU,mr,iv,lj,ZcR,LX,j7,jV,UU,xc,sY,Zck,Ay,lO,oD,Zic,ug,xU,Zcn,Zcs,jt,qI,ji,kJ,ui,Rp,xV,py,Zd,LY,G4,fF,Cc,kK,aiz,lH,qd,tM,Ze,Wo,uj,qJ,Fi,aiA,aiB];try exact rfl)->Calls pg f args w R
variable {V : SP}
theorem cy (g:Func->gC)
 (hs:((pg.funcs[f]?).any λfn=>decide (args.size<=(g fn).n)&&(g fn).boxes.all λp=>decide (args.size<=p.1))=true)
 (hv: ∀R w,V pg R (bK w) w=ON pg ((pg.funcs[f]?).bind λfn=>cF pg (g fn) fn) R args w):CQ f args V:=⟨λh e=>by
 cases hf:pg.funcs[f]? with
 |none=>rw[hf] at hs;cases hs
 |some fn=>rw[hf] at hs;exact GC (pl:=g fn) hf (by simpa using hs) (by have:=hv;rw[hf] at this;exact e.symm.trans (this _ _)) (h (ai.init _))⟩
theorem cq (b:List (Nat×Nat):=[]) (m:List Nat:=[]) (c:List Nat:=[])
 (hs:((pg.funcs[f]?).any λfn=>decide (args.size<=fn.ntmps)&&b.all λp=>decide (args.size<=p.1))=true:=by kernel_rfl)
 (hv: ∀R w,V pg R (bK w) w=ON pg ((pg.funcs[f]?).bind λfn=>cF pg (aeE fn (b.map λp=>(p.1,pg.cellsOf p.2)) m c) fn) R args w:=by intro R w;kernel_rfl):CQ f args V:=cy (λfn=>aeE fn (b.map λp=>(p.1,pg.cellsOf p.2)) m c) (by simpa [aeE,Function.comp_def] using hs) hv
theorem cp (pl:gC)
 (hs:((pg.funcs[f]?).any λfn=>decide (args.size<=pl.n)&&pl.boxes.all λp=>decide (args.size<=p.1))=true:=by kernel_rfl)
 (hv: ∀R w,V pg R (bK w) w=ON pg ((pg.funcs[f]?).bind λfn=>cF pg pl fn) R args w:=by intro R w;kernel_rfl):CQ f args V:=cy (λ_=>pl) hs hv
structure CL (f:FuncId) (fn:Func) (pl:gC) (args:Array Value) (V:(Ending->World->Prop)->SP):Prop where
 g: ∀{R:Ending->World->Prop} {RP:List PanicEntry->World->Prop} {g0:FuncId} {cb:List Nat} {cv:List (Option Value)} {w:World},YA fn=some (g0,cb)->(cv=[]\/cv=aiR pg pl fn args)->Idle pg g0->QZ pg pl fn R g0 cb cv RP->V (Gg R RP) pg (noP R) (bK w) w->Calls pg f args w R
theorem cl {pl:gC} {V:(Ending->World->Prop)->SP} (hf:pg.funcs[f]? =some fn)
 (hs:(decide (args.size<=pl.n)&&pl.boxes.all λp=>decide (args.size<=p.1))=true:=by kernel_rfl) (hv: ∀R S w,V S pg R (bK w) w=aiS pg (ftL pg pl fn) R S args w:=by intro R S w;kernel_rfl):CL f fn pl args V:=⟨λa b c d e=>Zm hf hs a b c d (hv _ _ _) e⟩
section
variable {w0 : World} {p0 p1 p2 p3 p4 p5 p6 p7 p8 p9 Y5 p11 : Value} {i0 i1 i2 i3 i4 i5 i6 i7 i8 i9 i10 i11 i12 i13 i14 i15 i16 i17 i18 i19 i20 i21 i22 i23 i24 i25 i26 i27 i28 i29 i30 i31 i32 i33 i34 i35 i36 i37 i38 i39 : Int} {n0 n1 n2 n3 n4 n5 n6 n7 : Nat} {b0 b1 b2 b3 b4 b5 : Bool} {s0 s1 s2 s3 s4 s5 s6 s7 s8 s9 QX Ot : ByteArray} {m : cJ} {r : Rec} {vk vs vw vp vr vc vh vd vq : Value}
def FA:CQ 7 #[p0] (uL 9 #[] λa=>kK a gT (bD 10 p0 λb=>kK b (uL 9 #[] aU) (uL 11 #[] λd=>kJ d λe g=>lz 26 33 g fD gT (qJ ae g 5 4 λh i j=>cV 22 p0 λk=>fC i k (xW 22 41 p0 i 57 41 λ_ m=>fV 12 e j m λn=>kJ n λo q=>LX n 2 λr=>fF q 2 λ_=>fF r 3 λ_=>lz 26 52 o fD gT (cA i λs=>h s o)) (bD 24 e λt=>lz 26 57 t fD gT (bD 26 t λv=>bD 20 t λy=>bD 27 t λz=>bD 24 e λA=>jj 26 67 A fD λC=>fL C A λD=>oI (λE=>fL C v λF=>gx C false (binOp .add 3 F dd) C false (j6 .neq 3 71 73 E) λ_ H=>jv C de H false A λL M=>oI (λN=>pz L false (kU 59 3 N) L false .neq 3 (.tmp 79) ae ae λ_ Q=>jv L de Q false A λS T=>oI (λU=>fL S y λV=>rN S false (bp bY) (λ_ Z=>jv S de Z false A λa0 b0=>oI (λc0=>fL a0 z λd0=>wh a0 false (bp bY) a0 de gT (sD 16 A ae λ_ j0 k0=>fF j0 2 λl0=>UU .neq 37 101 k0 ae λm0=>bX l0 (iQ l0 1 λn0=>fL m0 n0 λo0=>pz m0 false (kU 30 3 o0) m0 false .neq 3 (.tmp 106) ae ae λ_ r0=>kX m0 de r0 gT (Fi ae ae undef 16 15 19 λt0 v0 y0 _=>cV 59 z λz0=>fC v0 z0 (xW 59 3 z v0 34 3 λ_ C0=>sD 19 y C0 λ_ E0 F0=>fF E0 29 λG0=>qJ ae y0 19 15 λH0 L0 M0=>dz F0 L0 λN0=>bX G0 (iQ G0 15 λO0=>dz F0 O0 λQ0=>gx F0 true (kU 43 3 Q0) F0 true (binOp .lss 3 N0) λ_ T0=>kX F0 T0 dw (bX l0 (iQ l0 0 λV0=>cV 29 V0 λY0=>fO .geq M0 Y0 λZ0=>um Z0 V0 Z0 M0 λa1 b1=>gx Z0 false (kT 29 36 a1 b1) Z0 false (iA 54 0 0 1) λ_ d1=>pz Z0 false (ld1 3 d1) Z0 false .neq 3 (.tmp 145) (I 5) (I 5) λ_ g1=>jv Z0 de g1 false V0 λh1 i1=>fL h1 M0 λj1=>gx h1 false (kT 29 36 i1 j1) h1 false (iA 54 9 15 1) λ_ l1=>gx h1 false (ld1 4 l1) h1 false (bp bY) λ_ n1=>jv h1 de n1 false V0 λo1 q1=>fL o1 M0 λr1=>oK o1 false (kT 29 36 q1 r1) o1 false (iA 54 7 9 3) o1 false (su 39 3) λ_ _ v1=>bX G0 (Bo G0 4 3 λy1=>Zd o1 y1 (j6 .neq 39 163 165 v1) λA1=>um A1 V0 A1 M0 λC1 D1=>oK A1 false (kT 29 36 C1 D1) A1 false (iA 54 2 2 1) A1 false (ld1 3) λ_ _ G1=>um A1 O0 A1 L0 λH1 L1=>oK A1 false (kT 43 1 H1 L1) A1 false (ld1 3) A1 false (j6 .neq 3 174 179 G1) λ_ _ O1=>jv A1 de O1 false V0 λQ1 S1=>fL Q1 M0 λT1=>oK Q1 false (kT 29 36 S1 T1) Q1 false (iA 54 3 3 3) Q1 false (su 34 3) λ_ _ Y1=>um Q1 z Q1 v0 λZ1 a2=>oK Q1 false (kT 59 3 Z1 a2) Q1 false (su 34 3) Q1 false (j6 .neq 34 188 192 Y1) λ_ _ d2=>kX Q1 de d2 gT (cA M0 λg2=>cA L0 λh2=>H0 h2 g2)))) (cA v0 λi2=>t0 i2 M0 L0))) (fV 29 A ae bt λj2=>kJ j2 λk2 l2=>LX j2 2 λm2=>fF k2 3 λn2=>fF l2 2 λ_=>uL 9 #[] λo2=>dz o2 y0 λq2=>bX l0 (iQ l0 0 λr2=>dz o2 r2 λs2=>gx o2 true (kU 29 3 s2) o2 true (j6 .eql 3 205 208 q2) λ_ v2=>iK o2 v2 dw λy2=>xV y2 m2 .eql 37 212 ae λz2=>bX n2 (eY n2 3 λA2=>dz z2 A2 λC2=>dz z2 v λD2=>oK z2 true (binOp .add 3 D2 dd) z2 true (λE2=>rE 34 #[dd,E2,dd] #[(0,dd),(1,E2),(2,dd)]) z2 true (j6 .eql 34 216 219 C2) λ_ _ G2=>iK z2 G2 dw aU)))))) a0 false 28 #[c0,d0]) a0 false 27 #[b0]) S false 23 #[U,V]) S false 20 #[T]) L false 15 #[M]) C false 26 #[D])))))):=cq [(7,32),(8,34),(13,32),(17,73),(20,34),(21,32)] [69,70,71,72,73,74,76,77,78,79,80,82,83,84,85,86,87,89,90,91,92,93,94,103,105,106,107,125,126,128,129,130,139,141,142,143,144,145,146,148,150,151,152,153,154,155,157,159,160,161,162,163,165,166,168,170,171,172,173,174,176,177,178,179,180,182,184,185,186,187,188,189,190,191,192,193,204,205,207,208,209,211,212,213,215,216,217,218,219,220] [4,5,15,16,19]
end
end Go.Proofs.YtgfijddlkhkopaaGreat