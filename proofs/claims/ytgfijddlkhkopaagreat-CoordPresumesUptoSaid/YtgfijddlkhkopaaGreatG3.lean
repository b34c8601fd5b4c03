/- Part 3 of the proof. -/
import Derived.Laws.Pointers
import Derived.Shelf.SlSortCmp.WholeK
import Derived.Shelf.SlSortCmp.NoneTotal
import Derived.Recover
import Derived.Laws.MakeOwn
import Derived.Laws.BytesArg
import Derived.Laws.Concat
import Derived.Lib.Overlaps
import Derived.Lib.AppendZerosOnto
import Derived.Laws.Externs
import Derived.Laws.Slices
import Derived.Laws.IdiomStrings
import Derived.KernelRfl
import Derived.Test.YtgfijddlkhkopaaGreatProg
import Derived.Test.YtgfijddlkhkopaaGreatG2
set_option linter.all false
open Option.some renaming injEq → aj
open Nat renaming le_trans → ad, le_refl → au, lt_of_lt_of_le → aw, zero_add → ff, mul_le_mul_right → cO, zero_le → aq, add_mul → jk, succ_mul → AK, add_zero → AL, mul_le_mul → yA
open Go.Sem renaming run_bind → bp, run_pure → bO
open Go.Result renaming andThen_ok → aO
open List renaming length_append → aa, getElem?_map → cK, length_drop → bR, size_toArray → kX, append_assoc → ak, mem_of_getElem? → ax, flatten_cons → cV, getElem?_eq_getElem → aS, getElem?_drop → gp, length_take → aD, take_left → tA, map_cons → aZ, ext_getElem? → uO, length_map → af, flatten_append → dR, mem_cons_of_mem → bS, all_eq_true → lA, getD → qd, getElem?_append_left → dM, getElem?_append_right → cQ, take_of_length_le → aB, eq_nil_of_length_eq_zero → iK, nil_append → cB, getElem?_take → mq, length_nil → bF, getElem?_zip_eq_some → ua, getElem_mem → B4
open Go.Builtin renaming append_ → fg, zeroCells → jN, lenOf → qH, clear_ → nj, firstCells → Aa, nextslicecap → yB
open Option renaming map_some → ba, bind_some → cL
open Go.Instr renaming sliceAt → bD, alloc → ga, makeFunc → cC, extract → gB, panic → kO, box → bT, makeSlice → Cq, buildSlice → jr, makeInterface → jc, typeAssert → oc
open Prod.mk renaming injEq → cN
open Array renaming length_toList → fv, getElem?_append_left → kP, getElem?_toList → nu, ext' → xC, size_append → uP, toList_append → sW, replicate → cY, getD_eq_getD_getElem? → nA, getElem?_eq_getElem → ub, getElem?_modify → xD, getElem?_setIfInBounds → dK, toList_map → nH, getElem?_append → kJ, getElem?_replicate → jF
open Go.Value renaming int → aA, ownBlock → iv, tuple → dh
open Go.Addr renaming add_lit → oZ
open Bool renaming and_eq_true → aC, not_eq_true' → cW
open Go.Region renaming wanted → cE
open Go.Sort renaming grow → vW
open Go.World renaming freeze → vX, cell? → fp
open Go.Op renaming unary → bt
open Go.UnOp renaming not → cr
open Go.Deferred renaming ofValue → lC
open Go.Oper renaming upon_defer → Cr
open Go.Code.seq renaming injEq → DN
namespace Go.aJ
open Go.Sort Go.Shelf Go.RowKit Go.Proofs
variable {P : Program} {ρ : Ren} {α : Type}
def adn (W w':World):Prop:= ∃os',w'=vW W os'
def Ap (W w':World):Prop:= ∃q os,w'=vW (W.drewN q) os
theorem Ap.refl (W:World):Ap W W:=⟨0,#[],by rfl⟩
variable {W w : World}
theorem Ap.alloc (h:Ap W w) (o:Obj):Ap W (w.alloc o):=by
 obtain⟨q,os,rfl⟩:=h;exact⟨q,os.push o,by simp[World.alloc,vW]⟩
variable {w' : World}
theorem Ap.trans (h:Ap W w) (k:Ap w w'):Ap W w':=by
 obtain⟨q,os,rfl⟩:=h;obtain⟨q',os',rfl⟩:=k;exact⟨q+q',os++os',by simp[World.drewN,vW,Nat.add_assoc]⟩
variable {g : Nat}
theorem Ap.row (h:Ap W w') {o:Obj} (hg:W.heap[g]? =some o):w'.heap[g]? =some o:=by
 obtain⟨q,os,rfl⟩:=h
 show(W.heap++os)[g]? =some o
 rw[kP (Array.getElem?_eq_some_iff.1 hg).1,hg]
variable {k : Nat}
theorem flat_get [Inhabited α] {enc:α->List Value} (hk: ∀x,(enc x).length=k) (h0:0<k): ∀(l:List α) (t:Nat),t<l.length*k->((l.map enc).flatten)[t]? =some ((enc l[t/k]!)[t % k]!)
 |[],t,h=>by simp at h
 |x::l,t,h=>by
  rw[aZ,cV];by_cases ht:t<k
  ·rw[dM gQ,Nat.div_eq_of_lt ht,Nat.mod_eq_of_lt ht];simp_all
  ·obtain⟨s,rfl⟩: ∃s,t=s+k:=⟨t-k,by omega⟩;rw[cQ gQ,hk,Nat.add_sub_cancel,Nat.add_div_right _ h0,Nat.add_mod_right];have hs:s<l.length*k:=by rw[List.length_cons,AK] at h;omega
   rw[flat_get hk h0 l s hs];simp
theorem ae9 [Inhabited α] {enc:α->List Value} (hk: ∀x,(enc x).length=k) (h0:0<k) (l:List α):(flatK enc k l.toArray).toList=(l.map enc).flatten:=by
 have hl:((l.map enc).flatten).length=l.length*k:=by
  rw[lS (k:=k) gQ];simp
 apply uO;intro t;by_cases ht:t<l.length*k
 ·rw[flat_get hk h0 l t ht];have h1:t<(flatK enc k l.toArray).size:=by simpa using ht
  have h2:=get_flatK enc k l.toArray t zQ;rw[getElem!_pos (flatK enc k l.toArray) t h1] at h2;rw[nu,ub h1,h2];simp
 simp_all
theorem We (F cs:Array Value) (h:F.size<=cs.size):(putCells id 0 F cs).toList=F.toList++cs.toList.drop F.size:=by
 apply uO;intro t;unfold putCells;rw[nu,Array.getElem?_mapIdx];by_cases ht:t<F.size
 ·rw[dM zQ,ub zQ];simp[ht]
 ·rw[cQ gQ,gp];simp only[fv,nu];rw[show F.size+(t-F.size)=t by omega]
  grind
variable {v : Value} {lo : Nat} {X : XS} {e : TypeId}
theorem ajw [Inhabited α] (L:SlLaysF0.n6 P ρ) (h0:0<k) (aE: ∀w,(isAgg (ρ.t 24)).run P w= .ok true w) (zE: ∀w,(Go.sizeOf (ρ.t 24)).run P w= .ok k w) {enc:α->List Value} (hk: ∀x,(enc x).length=k)
    (h1: ∀x,∀v∈enc x,v.oneCell'=true) {cf:α->α->Int} (hO:SWO (ltOf cf)) (eg: ∀args w,(callFunc g args).run P w= .ok (.enter g args) w)
    (ajx: ∀x y W,Calls P g #[.agg (enc x).toArray,.agg (enc y).toArray] W λe w'=>e= .returned (.int .i64 (cf x y))/\Ap W w')
 {xs:List α} (own:Own w X lo e k v (xs.map enc)) (hb:xs.length<2^61):
    Ct P (ρ.f 6) #[v,.func (.func g) #[] #[]] w X (cU v) λr _ w'=>r= .tuple #[]/\ ∃ys:List α,ys.Perm xs/\ys.Pairwise (λa b=>ltOf cf b a=false)/\Own w' (cU v) lo e k v (ys.map enc):=by
  intro w0 Em;have bK:=own.mv Em.mv;have emp: ∀(p:Option Addr) (cap:Nat),v= .slice p 0 cap->xs=[]->Calls P (ρ.f 6) #[v,.func (.func g) #[] #[]] w0 (vi (cU v) w0 λr w'=>r= .tuple #[]/\ ∃ys:List α,ys.Perm xs/\ys.Pairwise (λa b=>ltOf cf b a=false)/\Own w' (cU v) lo e k v (ys.map enc)):=by
    intro p cap hv hx;have ho:Own w0 (cU v) lo e k v (xs.map enc):=⟨bK.1,bK.2.1,λ_ hg=>hg⟩;subst hx;rw[hv] at ho⊢;exact(AnyF.slices_SortFunc_none L p cap (.func (.func g) #[] #[]) w0).mono λe w' ⟨he,hw⟩=>⟨_,he,by subst hw;exact⟨rfl,rfl,rfl,au _,λ_ _ _=>rfl⟩,rfl,[],List.Perm.refl _,List.Pairwise.nil,by grind⟩
  rcases bK.row with⟨hv,he⟩|⟨b,cap,cs,hv,gy,br,pV,iH,pz,vj⟩
  · exact emp none 0 hv (by simpa using he)
  · rw[af] at hv pV vj
    by_cases hx:xs=[]
    · exact emp _ cap (by rw[hv,hx];rfl) hx
    have hH:HoldsK enc k w0 b 0 xs.toArray:=by
      intro j hj;have hj':j<xs.length*k:=by simpa using hj
      have cx:j<cs.length:=by
        rw[pz];exact aw hj' (cO _ pV)
      have hf:=flat_get hk h0 xs j hj';rw[<-vj,List.getElem?_take_of_lt hj'] at hf;refine⟨?_,?_⟩
      · unfold fp
        rw[br.2];simp only[ff,Option.isSome_none,Bool.false_eq_true,if_false,id];rw[get_flatK enc k _ _ zQ];simpa using hf
      · unfold World.frozen?
        rw[br.2];simp
    have hc:=AnyQ.slices_SortFunc L k aE zE enc hk h1 cf hO g #[] b 0 cap xs.toArray w0 eg (λm os dk _ x y=>(ajx x y _).mono λ_ _ ⟨he,q,os',hw⟩=>⟨he,q,os',hw⟩) hH br.lt oQ;rw[show xs.toArray.size=xs.length by simp] at hc;rw[hv];refine hc.mono ?_;rintro _ w' ⟨rfl,d',n,os,hp,hs,rfl⟩;obtain⟨GS,_,hpp⟩:=hp;have GS:d'.size=xs.length:=by simpa using GS
    have hblk: ∀q,q<w0.heap.size-> ¬cU (.slice (some ⟨b,0,none⟩) xs.length cap) q->q≠b:=λq _ hq e=>hq (by rw[e];rfl);have afa:(sortWorldK enc k w0 b 0 n d' os).heap=(w0.heap.modify b (onCells (putCells id 0 (flatK enc k d'))))++os:=rfl;have hF:(flatK enc k d').toList=(d'.toList.map enc).flatten:=by
      have:=ae9 hk h0 d'.toList;simpa using this
    have hFs:(flatK enc k d').size=xs.length*k:=by rw[size_flatK,GS]
    refine⟨_,rfl,⟨rfl,rfl,rfl,?_,?_⟩,rfl,d'.toList,?_,?_,?_⟩
    · rw[afa];simp
    · intro q hq hn
      rw[afa,kP (by simpa using hq),xD,if_neg (Ne.symm (hblk q hq hn))]
    · have h3:(d'.extract 0 xs.length)=d':=by rw[<-GS];simp
      have h4:(xs.toArray.extract 0 xs.length)=xs.toArray:=by simp
      rw[h3,h4] at hpp;omega
    · rw[List.pairwise_iff_getElem]
      intro i j hi hj zd;have:=hs i j (aq _) zd (by rw[<-GS];omega);rw[getElem!_pos d' j zQ,getElem!_pos d' i zQ] at this;assumption
    · have Hx:(sortWorldK enc k w0 b 0 n d' os).heap[b]? =some (.cells (putCells id 0 (flatK enc k d') cs.toArray) e (0,0)):=by
        rw[afa,kP (by simpa using br.lt),xD,if_pos rfl,br.2];rfl
      have hle:xs.length*k<=cs.length:=by rw[pz];exact cO _ pV
      have wu:=We (flatK enc k d') cs.toArray (by rw[hFs];omega);have Ew:aI (sortWorldK enc k w0 b 0 n d' os) (cU (.slice (some ⟨b,0,none⟩) xs.length cap)) b (putCells id 0 (flatK enc k d') cs.toArray).toList e:=⟨rfl,by omega⟩;refine Own.H9 Ew gy (by intro r hr;obtain⟨x,_,rfl⟩:=List.mem_map.1 hr;exact hk x) (by simpa using GS) pV iH ?_ ?_
      · rw[wu,aa,bR,fv,hFs];simp;omega
      · rw[wu,List.take_append_of_le_length (by simp[GS]),aB (by simp[GS]),hF]
def acr [Inhabited α] (L:SlLaysF0.n6 P ρ) (h0:0<k) (aE: ∀w,(isAgg (ρ.t 24)).run P w= .ok true w) (zE: ∀w,(Go.sizeOf (ρ.t 24)).run P w= .ok k w) {enc:α->List Value} (hk: ∀x,(enc x).length=k)
    (h1: ∀x,∀v∈enc x,v.oneCell'=true) {cf:α->α->Int} (hO:SWO (ltOf cf)) (eg: ∀args w,(callFunc g args).run P w= .ok (.enter g args) w)
    (ajx: ∀x y W,Calls P g #[.agg (enc x).toArray,.agg (enc y).toArray] W λe w'=>e= .returned (.int .i64 (cf x y))/\adn W w')
 {xs:List α} (own:Own w X lo e k v (xs.map enc)) (hb:xs.length<2^61):
    Ct P (ρ.f 6) #[v,.func (.func g) #[] #[]] w X (cU v) λr _ w'=>r= .tuple #[]/\ ∃ys:List α,ys.Perm xs/\ys.Pairwise (λa b=>ltOf cf b a=false)/\Own w' (cU v) lo e k v (ys.map enc):=
  ajw L h0 aE zE hk h1 hO eg (λx y W=>(ajx x y W).mono λ_ _ ⟨he,os,hw⟩=>⟨he,0,os,hw⟩) own hb
variable {P : Program} {R : Ending -> World -> Prop} {X : XS} {w : World} {m : Bool}
variable {bytes t ty : Nat} {rows : List (List Value)} {N : Value -> World -> XS -> Prop}
section
variable {e : Nat} {x s : Value} {cT : List (List Value)} {row : List Value}
theorem alS (own:Own w X lo e k v rows) (hX: ∀k,X k->k<w.heap.size) (gy:lo<=w.heap.size) (he:nf P t e k bytes=true) (hx:x.cells.toList=row) (hk:(row.length==k)=true)
  (h1:row.all one=true) (hb:(rows.length+1)*bytes<=140737488355328) (hl:rows.length+1<=2^63-1)
  (n: ∀v' w' X',ee (cU v) X w X' w'->Own w' X' lo e k v' (rows++[row])->(v'.ownBlock=v.ownBlock\/ ∃g,v'.ownBlock=some g/\w.heap.size<=g)->N v' w' X'):
  eV P R X w m (gR t e k 1 #[(0,x)]) λs w1 X1=>eV P R X1 w1 true (ru t e k bytes ty v s) N:=by
 obtain⟨hu,iq,FU,z,hi,hz,uI⟩:=mC he;have ah:row.length=k:=by simpa using hk
 have Kw:x.cells.size=k:=by rw[<-ah,<-hx,fv]
 refine CN (rows:=[row]) x.cells z hX hu hz zQ zQ ?_ (by simpa using ah) rfl gQ λs w1 X1 ay GN=>?_
 ·simp only[Nat.one_mul];exact F9 Kw sQ
 ·have TB:lo<=w1.heap.size:=ad gy ay.kp.size;refine DK (cT:=[row]) z hu hi uI iq ay.has TB (own.since ay) GN.sl (by simpa using h1) zQ zQ λv2 w2 X2 hg ho dg=>?_;refine n v2 w2 X2 ((ee.nQ ay (cU v)).trans (hg.ea.mono λk _ hk=>hk.symm)) ho ?_;rcases dg with h|⟨g,h,dA⟩
  ·exact .inl h
  ·exact .inr ⟨g,h,ad ay.kp.size dA⟩
theorem EV (own:Own w X lo e k v rows) (hX: ∀k,X k->k<w.heap.size) (gy:lo<=w.heap.size) (he:nf P t e k bytes=true) (src:Sl w X k s cT) (h1: ∀r∈cT,∀u∈r,one u=true)
  (hb:(rows.length+cT.length)*bytes<=140737488355328) (hl:rows.length+cT.length<=2^63-1)
  (n: ∀v' w' X',ee (cU v) X w X' w'->Own w' X' lo e k v' (rows++cT)->(v'.ownBlock=v.ownBlock\/ ∃g,v'.ownBlock=some g/\w.heap.size<=g)->N v' w' X'):
  eV P R X w true (ru t e k bytes ty v s) N:=by
 obtain⟨hu,iq,FU,z,hi,hz,uI⟩:=mC he;refine DK (cT:=cT) z hu hi uI iq hX gy own src h1 hb hl λv2 w2 X2 hg ho dg=>?_;exact n v2 w2 X2 (hg.ea.mono λk _ hk=>hk.symm) ho dg
end
def zm (s:ByteArray):List Value:=s.data.toList.map λb=>.int .u8 b.toNat
theorem NL (s:ByteArray):(zm s).length=s.size:=by unfold zm;simp_all
theorem ME (s:ByteArray):(Aa 1 s.size (.string s))=(pure (zm s).toArray:Sem (Array Value)):=by
 have hx:(s.extract 0 s.size)=s:=by
  apply ByteArray.ext;simp[ByteArray.data_extract]
 show(pure ((s.extract 0 s.size).data.map λb=>aA .u8 b.toNat):Sem (Array Value))=_
 rw[hx]
 congr 1
 apply xC;simp[zm]
theorem KP (t u ty e:TypeId) (i:TypeInfo) (ht:P.underlying t=some (.slice e)) (hu:P.underlying u=some .string) (hi:P.info? e=some i) (h1:i.size=1)
  (g lK uQ:Nat) (cur:Array Value) (hg:w.heap[g]? =some (.cells cur e (0,0))) (s:ByteArray) (xE:lK+s.size<=uQ) (Jn:lK+s.size<=cur.size):
  (fg #[t,u] ty #[.slice (some ⟨g,0,none⟩) lK uQ,.string s]).run P w=
   .ok (.slice (some ⟨g,0,none⟩) (lK+s.size) uQ) (w.setRow g (cur.toList.take lK++zm s++cur.toList.drop (lK+s.size)).toArray):=by
 have fO:=run_storeCells_at P g lK e (zm s) 0 cur w hg (by grind [NL]) (λv hv=>by
  unfold zm at hv;obtain⟨b,_,rfl⟩:=List.mem_map.1 hv;rfl)
 simp only[AL,NL] at fO;simp[fg,run_underlying ht,run_underlying hu,sizeOf,typeInfo,hi,qH,xE,h1,ME,oZ,fO]
theorem KQ (t u ty e:TypeId) (i:TypeInfo) (z:Value) (ht:P.underlying t=some (.slice e)) (hu:P.underlying u=some .string) (hi:P.info? e=some i) (hz:i.zero=some z) (h1:i.size=1)
  (b:Addr) (lK uQ:Nat) (afb:List Value) (gy:afb.length=lK) (holds: ∀j v,afb[j]? =some v->w.cell? (b.add j)=some v) (s:ByteArray)
  (hg:uQ<lK+s.size) (h63:((lK+s.size:Nat):Int)<=9223372036854775807) (Jn:yB (lK+s.size) uQ*i.bytes<=281474976710656):
  (fg #[t,u] ty #[.slice (some b) lK uQ,.string s]).run P w=
   .ok (.slice (some ⟨w.heap.size,0,none⟩) (lK+s.size) (grownCap w (lK+s.size) uQ e))
    (w.drew.alloc (.cells (afb.toArray++(zm s).toArray++jN z.cells (grownCap w (lK+s.size) uQ e-(lK+s.size))) e)):=by
 have hn: ¬(lK+s.size<=uQ):=by omega
 have ar3: ¬(9223372036854775807<((lK:Int)+(s.size:Int))):=by omega
 have ar4: ¬(281474976710656<yB (lK+s.size) uQ*i.bytes):=by omega
 have hfo:=run_firstCells_some (P:=P) w.drew 1 lK b lK uQ afb zQ aQ;simp[fg,run_underlying ht,run_underlying hu,sizeOf,typeInfo,zeroValue,hi,hz,qH,hn,ar3,ar4,Question.forced,ME,h1,hfo,newRow,grownCap]
 congr 2
 apply xC;simp_all
theorem MF (base:Nat) (t u ty e:TypeId) (i:TypeInfo) (z:Value) (bytes:Nat) (ht:P.underlying t=some (.slice e)) (hu:P.underlying u=some .string) (hi:P.info? e=some i) (hz:i.zero=some z)
  (h1:i.size=1) (GK:i.bytes=bytes) (uI:z.cells.size=1) (v:Value) (n:Nat) (xs:List Value) (xS:w.ownsRow base e 1 v n xs) (s:ByteArray)
  (h63:n+s.size<=maxLen) (agV:(n+s.size)*bytes<=140737488355328) (adF:base<=w.heap.size):
  ∃v' w',(fg #[t,u] ty #[v,.string s]).run P w= .ok v' w'/\w'.ownsRow base e 1 v' (n+s.size) (xs++zm s)/\w.grownBy w' v.ownBlock/\(v'.ownBlock=v.ownBlock\/v'.ownBlock=some w.heap.size):=by
 subst GK;have R3:n+s.size<=9223372036854775807:=by simp only[maxLen] at h63;omega
 have hl:=NL s;have UQ:xs.length=n:=by simpa using xS.1
 have hlen:(xs++zm s).length=(n+s.size)*1:=by rw[aa,UQ,hl];omega
 have grown: ∀(bN:Nat),bN<n+s.size-> ∀(row:Option Nat),
   (w.drew.alloc (.cells (xs.toArray++(zm s).toArray++jN z.cells (grownCap w (n+s.size) bN e-(n+s.size))) e)).ownsRow base e 1
    (.slice (some ⟨w.heap.size,0,none⟩) (n+s.size) (grownCap w (n+s.size) bN e)) (n+s.size) (xs++zm s)/\
   w.grownBy (w.drew.alloc (.cells (xs.toArray++(zm s).toArray++jN z.cells (grownCap w (n+s.size) bN e-(n+s.size))) e)) row:=by
  intro bN ho row;have dA:=grownCap_ge w (n+s.size) bN e;have iH:grownCap w (n+s.size) bN e<=maxLen:=grownCap_le_maxLen w (n+s.size) bN e h63;refine⟨⟨hlen,.inr ⟨w.heap.size,_,_,rfl,adF,heap_alloc_new w.drew _,dA,iH,?_,?_⟩⟩,⟨rfl,rfl,rfl,by simp,λk hk _=>by first|exact heap_alloc_old w.drew _ k hk|exact heap_alloc_old w.drew _ hk⟩⟩
  ·simp only[uP,kX,size_zeroCells,uI,UQ,hl];omega
  ·simp only[sW,ak];rw[<-ak,<-hlen]
   grind
 rcases xS.2 with⟨rfl,rfl⟩|⟨g,cap,cur,rfl,hbg,hg,pV,iH,jG,NM⟩
 ·have hx:xs=[]:=iK UQ;subst hx;by_cases hm:s.size=0
  ·have hn:zm s=[]:=iK (by rw[hl,hm]);refine⟨.slice none 0 0,w,?_,by simp_all,⟨rfl,rfl,rfl,au _,λ_ _ _=>rfl⟩,Or.inl rfl⟩;have hf:=ME s;rw[hm,hn] at hf;simp[fg,run_underlying ht,run_underlying hu,sizeOf,typeInfo,hi,qH,hm,h1,hf]
  ·have hr:=run_append_nil_string (P:=P) w t u ty e i z ht hu hi hz s zQ zQ (by have hb:=agV;simp only[ff] at hb;omega);have Fb:=grown 0 zQ (iv (.slice none 0 0));have he:(s.data.map λb:UInt8=>aA .u8 b.toNat)=(zm s).toArray:=by
    apply xC;simp[zm]
   rw[he] at hr;simp only[ff,cB,Array.empty_append] at Fb⊢;exact⟨_,_,hr,Fb.1,Fb.2,Or.inr rfl⟩
 ·rw[Nat.mul_one] at jG NM;by_cases xE:n+s.size<=cap
  ·have Jn:n+s.size<=cur.size:=by rw[jG];exact xE
   have hr:=KP (P:=P) (w:=w) t u ty e i ht hu hi h1 g n cap cur hg s xE Jn;refine⟨_,_,hr,⟨hlen,.inr ⟨g,cap,_,rfl,hbg,setRow_heap w g cur _ e _ hg,xE,iH,?_,?_⟩⟩,⟨rfl,rfl,rfl,by simp,λk _ hk=>setRow_other w g k _ (λe=>hk (by simp[iv,e]))⟩,Or.inl rfl⟩
   ·simp only[kX,aa,aD,bR,fv,hl];omega
   ·rw[NM,<-hlen];exact tA
  ·have holds: ∀j u,xs[j]? =some u->w.cell? ((⟨g,0,none⟩:Addr).add j)=some u:=xS.cells (g:=g) rfl;have hr:=KQ (P:=P) (w:=w) t u ty e i z ht hu hi hz h1 ⟨g,0,none⟩ n cap xs UQ holds s zQ zQ (growslice_fits zQ agV);have Fb:=grown cap zQ (iv (.slice (some ⟨g,0,none⟩) n cap));exact⟨_,_,hr,Fb.1,Fb.2,Or.inr rfl⟩
theorem aot {u e:Nat} {s:ByteArray} (own:Own w X lo e 1 v rows) (hX: ∀k,X k->k<w.heap.size) (gy:lo<=w.heap.size)
  (he:nf P t e 1 bytes=true) (hu:P.underlying u=some .string) (hb:(rows.length+s.size)*bytes<=140737488355328) (hl:rows.length+s.size<=2^63-1)
  (n: ∀v' w' X',ee (cU v) X w X' w'->Own w' X' lo e 1 v' (rows++(zm s).map λx=>[x])->(v'.ownBlock=v.ownBlock\/ ∃g,v'.ownBlock=some g/\w.heap.size<=g)->N v' w' X'):
  eV P R X w true (fg #[t,u] ty #[v,.string s]) N:=by
 obtain⟨ht,iq,FU,z,hi,hz,uI⟩:=mC he;intro wa hk;have own:=own.kp hk;cases hq:P.info? e with
 |none=>grind
 |some ie=>
  cases tZ:ie.zero with
  |none=>grind
  |some z'=>
   simp only[hq,tZ,cL,ba,aj,cN] at hi;obtain⟨h1,rfl,rfl⟩:=hi;unfold jS;obtain⟨v',w',hr,uy,hg,dg⟩:=MF (P:=P) (w:=wa) lo t u ty e ie z' ie.bytes ht hu hq tZ h1 rfl uI v rows.length rows.flatten own.2.1 s hl hb (ad gy hk.size);simp only[vS,bp,hr,aO,bO];have iT:((zm s).map λx=>[x]).flatten=zm s:=by
    induction zm s with
    |nil=>rfl
    |cons a l ih=>simp[ih]
   refine⟨⟨hg.os,hg.tape,hg.output,hg.size,λk xq nD=>hg.block k xq λe=>nD (own.2.2 k e.symm)⟩,n _ _ _ ?_ ⟨?_,?_,?_⟩ ?_⟩
   ·exact⟨hg.os.trans hk.os,hg.tape.trans hk.tape,hg.output.trans hk.output,ad hk.size hg.size,
     λk hx bU=>(hg.block k (aw (hX k hx) hk.size) λe=>bU e.symm).trans (hk.block k hx),λk h=>.inl h,
     λk h=>h.elim (λh=>aw (hX k h) (ad hk.size hg.size)) (λh=>h.2)⟩
   ·intro r hr;rcases List.mem_append.1 hr with h|h
    ·exact own.1 r h
    ·obtain⟨x,_,rfl⟩:=List.mem_map.1 h;rfl
   ·rw[aa,af,NL,dR,iT];omega
   ·intro g Ku;rcases dg with h|h
    ·exact .inl (own.2.2 g (h▸Ku))
    ·rw[Ku] at h;cases h;exact .inr ⟨au _,(uy.lt _ Ku).2⟩
   ·rcases dg with h|h
    ·exact .inl h
    ·exact .inr ⟨_,h,hk.size⟩
theorem DH {f:FuncId} {a b:Value} (h:eC P R X w m f #[a,b] N):eF P R X w m (.func (.func f) #[a] #[]) #[b] N:=by
 have e: ∀wa,(IM (.func (.func f) #[a] #[]) #[b]).run P wa=(callFunc f #[a,b]).run P wa:=by
  intro wa;simp[IM,lC,invoke]
 intro wa hk;have:=h wa hk
 grind
end Go.aJ
namespace Go.aJ
variable {P : Program} {R : Ending -> World -> Prop} {X : XS} {w : World} {m : Bool}
def Ow (w:World) (X:XS) (e k:Nat) (v:Value) (rows:List (List Value)):Prop:=
 (∀r∈rows,r.length=k)/\((v= .slice none 0 0/\rows=[])\/ ∃g off cap cur,v= .slice (some ⟨g,off,none⟩) rows.length cap/\X g/\w.heap[g]? =some (.cells cur e (0,0))/\
  rows.length<=cap/\cap<=maxLen/\off+cap*k<=cur.size/\(cur.toList.drop off).take (rows.length*k)=rows.flatten)
theorem Ow.nil (w:World) (X:XS) (e k:Nat):Ow w X e k (.slice none 0 0) []:=⟨by simp,.inl ⟨rfl,rfl⟩⟩
variable {rows : List (List Value)} {v : Value} {e k : Nat}
theorem Own.ow {lo:Nat} (h:Own w X lo e k v rows):Ow w X e k v rows:=by
 obtain⟨h1,h2,h3⟩:=h;refine⟨h1,?_⟩;rcases h2.2 with⟨rfl,hn⟩|⟨g,cap,cur,rfl,hb,hg,pV,iH,jG,ht⟩
 ·simp_all
 ·exact .inr ⟨g,0,cap,cur,rfl,h3 g rfl,hg,pV,iH,by omega,by assumption⟩
theorem Ow.sl (h:Ow w X e k v rows):Sl w X k v rows:=by
 obtain⟨h1,⟨rfl,rfl⟩|⟨g,off,cap,cur,rfl,hx,hg,pV,iH,jG,ht⟩⟩:=h
 ·exact Sl.nil w X k
 ·have hm:cap<=2^63-1:=iH;refine⟨h1,ad pV hm,_,cap,rfl,λ_=>⟨g,off,rfl,hx,cur,e,(0,0),hg,λj v hj=>?_⟩,by simp,pV,hm⟩;rw[<-ht,mq,gp] at hj;split at hj
  ·simpa using hj
  ·cases hj
theorem Ow.one (h:Ow w X e k v rows):one v=true:=h.sl.one
variable {Y : XS}
theorem Ow.mono (h:Ow w X e k v rows) (hs: ∀k,X k->Y k):Ow w Y e k v rows:=by
 obtain⟨h1,h|⟨g,off,cap,cur,hv,hx,hr⟩⟩:=h
 ·exact⟨h1,.inl h⟩
 ·exact⟨h1,.inr ⟨g,off,cap,cur,hv,hs _ hx,hr⟩⟩
variable {w' : World}
theorem Ow.mv (h:Ow w X e k v rows) (m:Mv X w Y w'):Ow w' Y e k v rows:=by
 obtain⟨h1,h|⟨g,off,cap,cur,hv,hx,hg,hr⟩⟩:=h
 ·exact⟨h1,.inl h⟩
 ·obtain⟨m1,m2⟩:=m g hx (Array.getElem?_eq_some_iff.1 hg).1;exact⟨h1,.inr ⟨g,off,cap,cur,hv,m1,by grind,hr⟩⟩
theorem Ow.kp (h:Ow w X e k v rows) (hk:Kp X w w'):Ow w' X e k v rows:=by
 obtain⟨h1,h|⟨g,off,cap,cur,hv,hx,hg,hr⟩⟩:=h
 ·exact⟨h1,.inl h⟩
 ·exact⟨h1,.inr ⟨g,off,cap,cur,hv,hx,by rw[hk.block g hx];exact hg,hr⟩⟩
variable {g : Nat}
theorem Ow.bo (h:Ow w X e k v rows) (hg:v.ownBlock=some g):X g/\g<w.heap.size:=by
 obtain⟨h1,⟨rfl,_⟩|⟨g',off,cap,cur,rfl,hx,hb,hr⟩⟩:=h
 ·cases hg
 ·simp only[iv,aj] at hg;grind
theorem Ow.tag (h:Ow w X e k v rows) (hg:v.ownBlock=some g): ∃cs:List Value,w.heap[g]? =some (.cells cs.toArray e (0,0)):=by
 obtain⟨h1,⟨rfl,_⟩|⟨g',off,cap,cur,rfl,hx,hb,hr⟩⟩:=h
 ·cases hg
 ·simp only[iv,aj] at hg;subst hg;exact⟨cur.toList,by omega⟩
variable {cs : List Value}
theorem Ow.eT {e':Nat} (h:Ow w X e k v rows) (hr:aI w Y g cs e') (he:decide (e≠e')=true):v.ownBlock≠some g:=λhg=>by
 obtain⟨c,h1⟩:=h.tag hg;rw[hr.2] at h1
 grind
variable {F X' : XS}
theorem Ow.ea (h:Ow w X e k v rows) (c:ee F X w X' w') (hd: ∀g,v.ownBlock=some g-> ¬F g):Ow w' X' e k v rows:=by
 obtain⟨h1,h|⟨g,off,cap,cur,rfl,hx,hg,hr⟩⟩:=h
 ·exact⟨h1,.inl h⟩
 ·exact⟨h1,.inr ⟨g,off,cap,cur,rfl,c.sub g hx,by rw[c.block g hx (hd g rfl)];exact hg,hr⟩⟩
theorem Ow.tight (h:Ow w X e k v rows):Ow w (cU v) e k v rows:=by
 obtain⟨h1,h|⟨g,off,cap,cur,rfl,hx,hr⟩⟩:=h
 ·exact⟨h1,.inl h⟩
 ·exact⟨h1,.inr ⟨g,off,cap,cur,rfl,rfl,hr⟩⟩
theorem AM (t ty e:TypeId) (i:TypeInfo) (ht:P.underlying t=some (.slice e)) (hi:P.info? e=some i)
  (g off lK uQ:Nat) (cur:Array Value) (hg:w.heap[g]? =some (.cells cur e (0,0)))
  (a:Addr) (m c:Nat) (news:List Value) (hl:news.length=m*i.size) (apX: ∀j u,news[j]? =some u->w.cell? (a.add j)=some u) (h1: ∀u∈news,u.oneCell'=true)
  (xE:lK+m<=uQ) (Jn:off+lK*i.size+news.length<=cur.size):
  (fg #[t,t] ty #[.slice (some ⟨g,off,none⟩) lK uQ,.slice (some a) m c]).run P w=
   .ok (.slice (some ⟨g,off,none⟩) (lK+m) uQ) (w.setRow g (cur.toList.take (off+lK*i.size)++news++cur.toList.drop (off+lK*i.size+news.length)).toArray):=by
 have hf:=run_firstCells_some (P:=P) w i.size m a m c news hl apX;have fO:=run_storeCells_at P g (off+lK*i.size) e news 0 cur w hg zQ h1;simp only[AL] at fO;simp[fg,run_underlying ht,sizeOf,typeInfo,hi,qH,xE,hf,oZ,fO]
theorem AN (t ty e:TypeId) (i:TypeInfo) (ht:P.underlying t=some (.slice e)) (hi:P.info? e=some i)
  (b:Addr) (lK uQ:Nat) (xE:lK<=uQ):
  (fg #[t,t] ty #[.slice (some b) lK uQ,.slice none 0 0]).run P w= .ok (.slice (some b) lK uQ) w:=by
 simp[fg,run_underlying ht,sizeOf,typeInfo,hi,qH,xE,Aa,storeCells]
variable {N : Value -> World -> XS -> Prop} {cT : List (List Value)} {s : Value} {bytes t ty : Nat}
theorem R7
  (he:nf P t e k bytes=true)
  (hX: ∀k,X k->k<w.heap.size) (own:Ow w X e k v rows) (src:Sl w X k s cT) (h1: ∀r∈cT,∀u∈r,one u=true)
  (hb:(rows.length+cT.length)*bytes<=140737488355328) (hl:rows.length+cT.length<=2^63-1)
  (n: ∀v' w' X',ee (cU v) X w X' w'->Ow w' X' e k v' (rows++cT)->(v'.ownBlock=v.ownBlock\/ ∃g,v'.ownBlock=some g/\w.heap.size<=g)->N v' w' X'):
  eV P R X w true (ru t e k bytes ty v s) N:=by
 obtain⟨hu,iq,FU,z,hi,JZ,uI⟩:=mC he;obtain⟨rr,⟨rfl,rfl⟩|⟨g,off,cap,cur,rfl,hx,hg,pV,iH,jG,vj⟩⟩:=own
 ·exact DK (rows:=[]) (cT:=cT) z hu hi uI iq hX (aq _) (Own.nil w X 0 e k) src h1 hb hl λv2 w2 X2 hg ho dg=>
   n v2 w2 X2 (hg.ea.mono λk _ hk=>hk.symm) ho.ow dg
 ·intro wa hk;have rJ:wa.heap[g]? =some (.cells cur e (0,0)):=by rw[hk.block g hx];exact hg
  have src:=src.kp hk;cases hq:P.info? e with
  |none=>simp[hq] at hi
  |some ie=>
   cases tZ:ie.zero with
   |none=>simp_all
   |some z'=>
    simp only[hq,tZ,cL,ba,aj,cN] at hi;obtain⟨rfl,rfl,rfl⟩:=hi;unfold ru jS;rcases src.src with⟨rfl,rfl⟩|⟨a,c,rfl,Dg⟩
    ·have hr:=AN (P:=P) (w:=wa) t ty e ie hu hq ⟨g,off,none⟩ rows.length cap pV;simp only[vS,bp,hr,aO,bO];have Br:=Ext.refl wa;have hs:=ai.fb hX hk Br;refine⟨Step.fb Br,n _ _ _ (ee.nQ hs _) ?_ (.inl rfl)⟩;rw[List.append_nil];exact⟨rr,.inr ⟨g,off,cap,cur,rfl,.inl hx,rJ,pV,iH,jG,vj⟩⟩
    ·have sE:cT.flatten.length=cT.length*ie.size:=lS src.1;have Xh:rows.flatten.length=rows.length*ie.size:=lS rr;have CH: ∀u∈cT.flatten,u.oneCell'=true:=λu hu=>by
      obtain⟨r,hr,hur⟩:=List.mem_flatten.1 hu;rw[<-QH];exact h1 r hr u hur
     have Df: ∀r∈rows++cT,r.length=ie.size:=λr hr=>by
      rcases List.mem_append.1 hr with h|h
      ·exact rr r h
      ·exact src.1 r h
     have apY:rows.length+cT.length<=maxLen:=hl;by_cases xE:rows.length+cT.length<=cap
     ·have hmul:(rows.length+cT.length)*ie.size<=cap*ie.size:=cO _ xE;rw[jk] at hmul;have hr:=AM (P:=P) (w:=wa) t ty e ie hu hq g off rows.length cap cur rJ a cT.length c cT.flatten sE Dg CH xE zQ;simp only[vS,bp,hr,aO,bO];have FH: ∀k,k≠g->(wa.setRow g (cur.toList.take (off+rows.length*ie.size)++cT.flatten++cur.toList.drop (off+rows.length*ie.size+cT.flatten.length)).toArray).heap[k]? =wa.heap[k]? :=λk hk=>setRow_other wa g k _ hk;refine⟨⟨rfl,rfl,rfl,by simp,λk xq nD=>FH k λe=>nD (e▸hx)⟩,n _ _ _ ?_ ⟨Df,.inr ⟨g,off,cap,_,by rw[aa],.inl hx,setRow_heap wa g cur _ e _ rJ,by rw[aa];omega,iH,?_,?_⟩⟩ (.inl rfl)⟩
      ·exact⟨hk.os,hk.tape,hk.output,by simpa using hk.size,λk Br bU=>(FH k λe=>bU (by rw[e];rfl)).trans (hk.block k Br),λk h=>.inl h,
        λk h=>h.elim (λh=>by have:=hX k h;have:=hk.size;simp;omega) (λh=>h.2)⟩
      ·simp only[kX,aa,aD,bR,fv];omega
      ·have gf:off<=cur.toList.length:=by rw[fv (xs:=cur)];omega
       have e1:(cur.toList.take (off+rows.length*ie.size)).drop off=rows.flatten:=by
        rw[List.drop_take,show off+rows.length*ie.size-off=rows.length*ie.size by omega,vj]
       have Dv:(cur.toList.take (off+rows.length*ie.size)).length=off+rows.length*ie.size:=by rw[aD,fv (xs:=cur)];omega
       rw[ak,List.drop_append_of_le_length zQ,e1,aa,jk,dR,<-ak,<-Xh,<-sE,<-aa];exact tA
     ·have holds: ∀j u,rows.flatten[j]? =some u->wa.cell? ((⟨g,off,none⟩:Addr).add j)=some u:=λj u hj=>by
       rw[<-vj,mq,gp] at hj;split at hj
       ·rw[oZ];simp only[fp,rJ];simpa using hj
       ·cases hj
      have hr:=run_append_grow (P:=P) wa t ty e ie z' hu hq tZ ⟨g,off,none⟩ rows.length cap rows.flatten Xh holds a cT.length c cT.flatten sE Dg zQ zQ (growslice_fits zQ hb);simp only[vS,bp,hr,aO,bO];have dA:=grownCap_ge wa (rows.length+cT.length) cap e;have iH:grownCap wa (rows.length+cT.length) cap e<=maxLen:=grownCap_le_maxLen wa _ cap e apY;have hblk: ∀k,k<wa.heap.size->(wa.drew.alloc (.cells (rows.flatten.toArray++cT.flatten.toArray++jN z'.cells (grownCap wa (rows.length+cT.length) cap e-(rows.length+cT.length))) e)).heap[k]? =wa.heap[k]? :=λk hk=>heap_alloc_old wa.drew _ hk;refine⟨⟨rfl,rfl,rfl,by simp,λk xq _=>hblk k xq⟩,n _ _ _ ?_ ⟨Df,.inr ⟨wa.heap.size,0,_,_,by rw[aa],.inr ⟨au _,by simp⟩,heap_alloc_new wa.drew _,by rw[aa];omega,iH,?_,?_⟩⟩ (.inr ⟨_,rfl,hk.size⟩)⟩
      ·exact⟨hk.os,hk.tape,hk.output,by have:=hk.size;simp;omega,λk Br _=>(hblk k (aw (hX k Br) hk.size)).trans (hk.block k Br),λk h=>.inl h,
        λk h=>h.elim (λh=>by have:=hX k h;have:=hk.size;simp;omega) (λh=>h.2)⟩
      ·simp only[uP,kX,size_zeroCells,uI,Xh,sE,<-jk];rw[ff];apply cO;omega
      ·simp only[sW,List.drop_zero,ak,dR];rw[<-ak,aa,jk,<-Xh,<-sE,<-aa];exact tA
section
variable {x : Value} {row : List Value}
theorem YI (own:Ow w X e k v rows) (hX: ∀k,X k->k<w.heap.size) (he:nf P t e k bytes=true) (hx:x.cells.toList=row) (hk:(row.length==k)=true)
  (h1:row.all one=true) (hb:(rows.length+1)*bytes<=140737488355328) (hl:rows.length+1<=2^63-1)
  (n: ∀v' w' X',ee (cU v) X w X' w'->Ow w' X' e k v' (rows++[row])->(v'.ownBlock=v.ownBlock\/ ∃g,v'.ownBlock=some g/\w.heap.size<=g)->N v' w' X'):
  eV P R X w m (gR t e k 1 #[(0,x)]) λs w1 X1=>eV P R X1 w1 true (ru t e k bytes ty v s) N:=by
 obtain⟨hu,iq,FU,z,hi,JZ,uI⟩:=mC he;have ah:row.length=k:=by simpa using hk
 have Kw:x.cells.size=k:=by rw[<-ah,<-hx,fv]
 refine CN (rows:=[row]) x.cells z hX hu JZ zQ zQ ?_ (by simpa using ah) rfl gQ λs w1 X1 ay GN=>?_
 ·simp only[Nat.one_mul];exact F9 Kw sQ
 ·refine R7 (cT:=[row]) he ay.has (own.mv ay.mv) GN.sl (by simpa using h1) zQ zQ λv2 w2 X2 hg ho dg=>?_;refine n v2 w2 X2 ((ee.nQ ay (cU v)).trans hg) ho ?_;rcases dg with h|⟨g,h,dA⟩
  ·exact .inl h
  ·exact .inr ⟨g,h,ad ay.kp.size dA⟩
end
theorem Dt: ∀{rows:List (List Value)} (i:Nat),(∀r∈rows,r.length=k)->(rows.drop i).flatten=rows.flatten.drop (i*k)
 |_,0,_=>by simp
 |[],i+1,_=>by simp
 |r::rows,i+1,h=>by
  have hr:=h r sQ;rw[List.drop_succ_cons,Dt i λx hx=>h x (bS _ hx),cV,AK,Nat.add_comm,<-List.drop_drop,List.drop_left' hr]
theorem lY: ∀{rows:List (List Value)} (i:Nat),(∀r∈rows,r.length=k)->(rows.take i).flatten=rows.flatten.take (i*k)
 |_,0,_=>by simp
 |[],i+1,_=>by simp
 |r::rows,i+1,h=>by
  have hr:=h r sQ;have e1:r.take (k+i*k)=r:=aB zQ;rw[List.take_succ_cons,cV,lY i λx hx=>h x (bS _ hx),cV,AK,Nat.add_comm,List.take_append,hr,e1,show k+i*k-k=i*k by omega]
variable {z : Int}
theorem YB {z':Int} {i:Nat} {N:Value->Prop} (h:Ow w X e k v rows) (hz:z=i) (uX:z'=i) (hi:i<=rows.length) (ht:P.underlying t=some (.slice (P.elem t)))
  (hs:(P.info? (P.elem t)).map (·.size)=some k)
  (n: ∀v',Ow w X e k v' (rows.take i)->v'.ownBlock=v.ownBlock->N v'):aX P X w (bD t v none (some (.int .i64 z)) (some (.int .i64 z'))) N:=by
 subst hz;subst uX;have hq: ∃inf,P.info? (P.elem t)=some inf/\inf.size=k:=by
  cases hq:P.info? (P.elem t)with
  |none=>grind
  |some inf=>grind
 obtain⟨inf,hq,gf⟩:=hq;obtain⟨h1,⟨rfl,rfl⟩|⟨g,off,cap,cur,rfl,hx,hg,pV,iH,jG,vj⟩⟩:=h
 ·simp only[bF,Nat.le_zero] at hi;subst hi;have oB: ∀wa:World,(bD t (.slice none 0 0) none (some (.int .i64 ((0:Nat):Int))) (some (.int .i64 ((0:Nat):Int)))).run P wa= .ok (.slice none 0 0) wa:=λwa=>by
   rw[run_sliceAt_slice wa t _ _ _ _ ht,show((0:Nat):Int)=0 from rfl,run_slice_hm wa t none 0 0 ht .i64 .i64 0 0 zQ zQ zQ];simp[sizeOf,typeInfo,hq,sliced]
  exact bB oB (n _ (Ow.nil w X e k) rfl)
 ·have hlen:(rows.take i).length=i:=by rw[aD];omega
  have oB: ∀wa:World,(bD t (.slice (some ⟨g,off,none⟩) rows.length cap) none (some (.int .i64 (i:Int))) (some (.int .i64 (i:Int)))).run P wa= .ok (.slice (some ⟨g,off,none⟩) (rows.take i).length i) wa:=λwa=>by
   rw[run_sliceAt_slice wa t _ _ _ _ ht,run_slice_hm wa t _ _ cap ht .i64 .i64 i i zQ zQ zQ,hlen];simp[sizeOf,typeInfo,hq,gf,sliced,oZ]
  refine bB oB (n _ ⟨λr hr=>h1 r (List.mem_of_mem_take hr),.inr ⟨g,off,i,cur,rfl,hx,hg,by omega,by omega,?_,?_⟩⟩ rfl)
  ·have:=cO k (ad hi pV);omega
  ·rw[lY i h1,<-vj,List.take_take,hlen,Nat.min_eq_left (cO k hi)]
variable {b : Nat} {A : XS}
theorem dL.eT {κ α:Type} [DecidableEq κ] {kv:κ->Value} {rd:World->XS->Value->α->Prop} {l:List (κ×α)} {e:TypeId} (h:dL w X A b kv rd l) (hr:aI w F g cs e):b≠g:=by
 rintro rfl;obtain⟨es,c,h1,_⟩:=h;have:=h1.2.1;rw[hr.2] at this;cases this
theorem aI.eT {oh:List Value} {e e':TypeId} (h:aI w X b cs e) (hr:aI w F g oh e') (he:decide (e≠e')=true):b≠g:=by
 rintro rfl;have:=h.2;rw[hr.2] at this
 grind
theorem dL.ajy {κ α:Type} [DecidableEq κ] {kv:κ->Value} {rd:World->XS->Value->α->Prop} {l:List (κ×α)} (h:dL w X A b kv rd l) (hr:Ow w F e k v rows):v.ownBlock≠some b:=λhg=>by
 obtain⟨cs,h2⟩:=hr.tag hg;obtain⟨es,c,h1,_⟩:=h;have:=h1.2.1
 grind
section
variable {t : TypeId}
theorem Ny {l:List Value} (hX: ∀k,X k->k<w.heap.size) (hz:(P.info? t).bind (·.zero)=some (.agg l.toArray))
  (n: ∀b w' X',w.heap.size<=b->ai X w X' w'->aI w' X' b l t->N (ptr b 0) w' X'):eV P R X w m (ga t true (.tuple #[])) N:=by
 intro wa hk;unfold jS;have Yt: ∀w,(zeroValue t).run P w= .ok (.agg l.toArray) w:=by
  intro w;cases hi:P.info? t with
  |none=>grind
  |some inf=>
   have uX:inf.zero=some (.agg l.toArray):=by simpa [hi] using hz
   simp[zeroValue,typeInfo,hi,uX]
 have hr:(ga t true (.tuple #[])).run P wa= .ok (ptr wa.heap.size 0) (wa.alloc (.cells l.toArray t)):=by simp[ga,Yt,newVar,newRow,Value.cells]
 simp only[vS,bp,hr,aO,bO];have hx:Ext wa (wa.alloc (.cells l.toArray t)):=Ext.alloc _ _;exact⟨Step.fb hx,n _ _ _ hk.size (ai.fb hX hk hx) ⟨.inr ⟨au _,by simp⟩,by simpa using heap_alloc_new wa _⟩⟩
theorem agW {c:Nat} (hX: ∀k,X k->k<w.heap.size) (he:nf P t e k bytes=true) (hz:z=c) (hc:c<=2^32) (hb:bytes<=1024) (hk:k<=1024)
  (n: ∀v w' X',ai X w X' w'->Own w' X' w.heap.size e k v []->N v w' X'):eV P R X w m (Cq t (I 0) (I z)) N:=by
 subst hz;obtain⟨hu,iq,FU,z,hi,JZ,uI⟩:=mC he;intro wa ah;unfold jS;cases hq:P.info? e with
 |none=>simp[hq] at hi
 |some ie=>
  cases tZ:ie.zero with
  |none=>simp_all
  |some z'=>
   simp only[hq,tZ,cL,ba,aj,cN] at hi;obtain⟨h1,h2,h3⟩:=hi;have XC:ie.bytes*c<=281474976710656:=by
    have:=yA (show ie.bytes<=1024 by omega) hc;omega
   obtain⟨w',hr,uy,hg⟩:=run_make_own (P:=P) wa w.heap.size t e ie z' k hu hq tZ h1 .i64 .i64 c XC (by simp only[maxLen];omega) ah.size;have jU:(Cq t (I 0) (I (c:Int))).run P wa= .ok (.slice (some ⟨wa.heap.size,0,none⟩) 0 c) w':=hr;simp only[vS,bp,jU,aO,bO];have hx:Ext wa w':=⟨hg.os,hg.tape,hg.output,hg.size,λk hk _=>hg.block k hk sQ⟩;refine⟨Step.fb hx,n _ _ _ (ai.fb hX ah hx) ⟨by simp,uy,λg Ku=>?_⟩⟩;simp only[iv,aj] at Ku;subst Ku;exact .inr ⟨au _,(uy.lt _ rfl).2⟩
end
structure Ft (w0:World) (F0:XS) (w:World) (X F:XS):Prop where
 s:ai (out F0 w0) w0 X w
 bo: ∀k,F k->X k
 v: ∀k,F k->F0 k\/w0.heap.size<=k
variable {w0 : World}
section
variable {F0 F' G : XS} {Q : Value -> World -> World -> Prop} {f : FuncId} {args : Array Value}
def Ft.init (h: ∀k,F0 k->k<w.heap.size):Ft w F0 w (bN w) F0:=⟨ai.out _ _,h,λ_ h=>.inl h⟩
def Ft.since (h:Ft w0 F0 w X F) (hs:ai X w X' w'):Ft w0 F0 w' X' F:=⟨h.s.trans hs,λk hk=>hs.sub k (h.bo k hk),h.v⟩
theorem Ft.no (h:Ft w0 F0 w X F) (hk:F k) (h0:out F0 w0 k):False:=by
 rcases h.v k hk with h1|h1
 ·exact h0.2 h1
 ·have:=h0.1;omega
theorem Ft.ea (h:Ft w0 F0 w X F) (c:ee G X w X' w') (hG: ∀k,G k->F k) (hF: ∀k,F' k->F k\/(X' k/\w.heap.size<=k)):Ft w0 F0 w' X' F':=by
 refine⟨h.s.ea c λk h0 hk=>h.no (hG k hk) h0,λk hk=>?_,λk hk=>?_⟩
 ·rcases hF k hk with h1|h1
  ·exact c.sub k (h.bo k h1)
  grind
 ·rcases hF k hk with h1|h1
  ·exact h.v k h1
  ·right;have:=h1.2;have:=h.s.kp.size;omega
theorem Ft.less (h:Ft w0 F0 w X F) (hF: ∀k,F' k->F k):Ft w0 F0 w X F':=⟨h.s,λk hk=>h.bo k (hF k hk),λk hk=>h.v k (hF k hk)⟩
theorem Ft.more (h:Ft w0 F0 w X F) (hF: ∀k,F' k->F k\/(X k/\w0.heap.size<=k)):Ft w0 F0 w X F':=by
 refine⟨h.s,λk hk=>?_,λk hk=>?_⟩
 ·rcases hF k hk with h1|h1
  ·exact h.bo k h1
  grind
 ·rcases hF k hk with h1|h1
  ·exact h.v k h1
  omega
theorem Ft.call (hT:Ft w0 F0 w X F) (h:Ct P f args w X G Q) (hf:enters P f=true) (hG: ∀k,G k->F k)
  (k: ∀v wa w' X',Q v wa w'->w.heap.size<=wa.heap.size->(∀k,made wa w' k->X' k)->Ft w0 F0 w' X' (λk=>F k\/made wa w' k)->ee G X w X' w'->N v w' X'):eC P R X w true f args N:=by
 refine zq h hf hT.s.has (λq hq=>hT.bo q (hG q hq)) λv wa w' X' hq hle gu Em hc=>k v wa w' X' hq hle gu ?_ hc;exact hT.ea hc hG λq hq=>hq.imp id λhm=>⟨gu q hm,ad hle hm.1⟩
def Ft.fin {Q:Value->World->Prop} (h:Ft w0 F0 w X F) (hq: ∀wa,Kp X w wa->Q v wa):fin (vi F0 w0 Q) X w v:=acZ h.s hq
theorem Ft.jz (h:Ft w0 F0 w X F) {wa:World} (hk:Kp X w wa) (hF: ∀k,F' k->F k): ∀k,F' k->F0 k\/made w0 wa k:=λk ah=>by
 rcases h.v k (hF k ah)with h1|h1
 ·grind
 ·exact .inr ⟨h1,aw (h.s.has k (h.bo k (hF k ah))) hk.size⟩
def Ft.DO (h:Ft w0 nX w X F):ai (aJ.bN w0) w0 X w:=
 ⟨⟨h.s.kp.os,h.s.kp.tape,h.s.kp.output,h.s.kp.size,λk ah=>h.s.kp.block k ⟨ah,λh=>h.elim⟩⟩,λk ah=>h.s.sub k ⟨ah,λh=>h.elim⟩,h.s.has⟩
def Ep (w0:World) (X:XS):XS:=λk=>X k/\w0.heap.size<=k
def Ft.new (h:Ft w0 F0 w X F):Ft w0 F0 w X (λk=>F k\/Ep w0 X k):=h.more λk hk=>hk.imp id λh=>h
def Ft.PM (h:Ft w0 nX w X F):Ft w0 nX w X (Ep w0 X):=h.more λk hk=>.inr hk
def ee.je (c:ee G X w X' w') (h: ∀k,A k->X k/\ ¬G k):Mv A w A w':=λk hk _=>⟨hk,c.block k (h k hk).1 (h k hk).2⟩
def Kp.je (hk:Kp X w w') (h: ∀k,A k->X k):Mv A w A w':=λk ah _=>⟨ah,hk.block k (h k ah)⟩
def ai.gW (hs:ai X w X' w') (h: ∀k,A k->X k):Mv A w A w':=λk ah _=>⟨ah,hs.kp.block k (h k ah)⟩
end
theorem apZ (hT:Ft w0 nX w X (Ep w0 X)) (hO:Ow w (Ep w0 X) e k v rows) (he:nf P t e k bytes=true)
  (src:Sl w X k s cT) (h1: ∀r∈cT,∀u∈r,one u=true) (hb:(rows.length+cT.length)*bytes<=140737488355328) (hl:rows.length+cT.length<=2^63-1)
  (n: ∀v' w' X',Ft w0 nX w' X' (Ep w0 X')->Ow w' (Ep w0 X') e k v' (rows++cT)->ee (cU v) X w X' w'->(v'.ownBlock=v.ownBlock\/ ∃g,v'.ownBlock=some g/\w.heap.size<=g)->N v' w' X'):
  eV P R X w true (ru t e k bytes ty v s) N:=by
 refine R7 he hT.s.has (hO.mono hT.bo) src h1 hb hl λv' w' X' c ho dg=>?_;have hT':Ft w0 nX w' X' (Ep w0 X'):=Ft.PM (F:=Ep w0 X) (hT.ea c (λk hk=>(hO.bo hk).1) λk hk=>.inl hk);refine n v' w' X' hT' (ho.tight.mono λk hk=>⟨(ho.bo hk).1,?_⟩) c dg;have ah:v'.ownBlock=some k:=hk;rcases dg with e|⟨g,e,dA⟩
 ·exact(hO.bo (e▸ah)).1.2
 ·rw[ah] at e;have:k=g:=Option.some.inj e;have:=hT.s.kp.size;omega
def Dj (A B:XS):Prop:= ∀k,A k->B k->False
variable {B : XS}
theorem Dj.symm (h:Dj A B):Dj B A:=λk a b=>h k b a
variable {B' : XS}
def Dj.grow {C:XS} (h:Dj A B) (hB: ∀k,B' k->B k\/C k) (hc:Dj A C):Dj A B':=λk a b=>(hB k b).elim (h k a) (hc k a)
theorem Dj.less {A':XS} (h:Dj A B) (ha: ∀k,A' k->A k) (hb: ∀k,B' k->B k):Dj A' B':=λk a b=>h k (ha k a) (hb k b)
end Go.aJ
namespace Go.aJ
variable {P : Program} {R : Ending -> World -> Prop} {X : XS} {w : World} {m : Bool}
def Jo (w:World) (X:XS) (b:Nat) (cs:List Value) (ty:TypeId):Prop:=X b/\w.heap[b]? =some (.cells cs.toArray ty (cs.length,cs.length+1))
variable {ty : TypeId} {cs : List Value} {b : Nat}
theorem Jo.cells (h:Jo w X b cs ty):Cells w X b 0 cs:=⟨h.1,_,_,_,h.2,λj v hj=>by grind⟩
theorem Jo.since {Y:XS} {w':World} (h:Jo w X b cs ty) (hs:ai X w Y w'):Jo w' Y b cs ty:=⟨hs.sub _ h.1,by rw[hs.kp.block b h.1];exact h.2⟩
theorem abP (wa:World) (g n:Nat) (cs:Array Value) (e:TypeId) (h:wa.heap[g]? =some (.cells cs e (0,0))):(wa.freeze ⟨g,n,none⟩ 1).heap=wa.heap.setIfInBounds g (.cells cs e (n,n+1)):=by
 unfold vX;rw[if_neg dQ];obtain⟨hl,he⟩:=Array.getElem?_eq_some_iff.1 h;apply Array.ext
 ·simp
 ·intro i h1 h2;simp only[Array.getElem_modify,Array.getElem_setIfInBounds];split
  ·simp_all
  ·rename_i hi;exact(Array.getElem_setIfInBounds_ne (by simpa using h2) hi).symm
variable {N : Value -> World -> XS -> Prop} {e t : Nat}
theorem alT {g n c:Nat} (h:aI w X g cs e) (ht:P.underlying t=some (.slice e)) (he:P.underlying e=some (.int .u8)) (hX: ∀k,X k->k<w.heap.size)
  (k: ∀w' X',ee (· =g) X w X' w'->Jo w' X' g cs e->N (.slice (some ⟨g,0,none⟩) n c) w' X'):eV P R X w true (convert t t (.slice (some ⟨g,0,none⟩) n c)) N:=by
 intro wa hk;have hb:=(h.kp hk).2;have cx:=(Array.getElem?_eq_some_iff.1 hb).1;have hsh:wa.shape? g=some (e,cs.length):=by unfold World.shape?;rw[hb];simp
 have hr:(convert t t (.slice (some ⟨g,0,none⟩) n c)).run P wa= .ok (.slice (some ⟨g,0,none⟩) n c) (wa.freeze ⟨g,cs.length,none⟩ 1):=by
  simp[convert,run_underlying ht,run_underlying he,markStringish,hsh]
 have hh:=abP wa g cs.length cs.toArray e hb;unfold jS;simp only[vS,bp,hr,aO,bO];have xp:(wa.freeze ⟨g,cs.length,none⟩ 1).os=wa.os:=by unfold vX;rw[if_neg dQ]
 have htp:(wa.freeze ⟨g,cs.length,none⟩ 1).tape=wa.tape:=by unfold vX;rw[if_neg dQ]
 have xf:(wa.freeze ⟨g,cs.length,none⟩ 1).output=wa.output:=by unfold vX;rw[if_neg dQ]
 have gf:(wa.freeze ⟨g,cs.length,none⟩ 1).heap.size=wa.heap.size:=by rw[hh];simp
 have hblk: ∀q,q≠g->(wa.freeze ⟨g,cs.length,none⟩ 1).heap[q]? =wa.heap[q]? :=λq hq=>by rw[hh,dK,if_neg (Ne.symm hq)]
 refine⟨⟨xp,htp,xf,by omega,λq _ hx=>hblk q λe=>hx (e▸h.1)⟩,k _ _ ?_ ⟨.inl h.1,by rw[hh,dK,if_pos rfl,if_pos cx]⟩⟩;refine⟨xp.trans hk.os,htp.trans hk.tape,xf.trans hk.output,by rw[gf];exact hk.size,λq hx bU=>(hblk q bU).trans (hk.block q hx),λq h=>.inl h,λq h=>?_⟩;rw[gf];exact h.elim (λh=>aw (hX q h) hk.size) (λh=>by omega)
variable {v : Value} {o : Nat}
theorem ap0 (h:Jo w X b cs ty) (ht:(P.info? t).map (·.size)=some 1)
  (hl:o<cs.length) (h1:one v=true) (hX: ∀k,X k->k<w.heap.size)
  (n: ∀w' X',ee (· =b) X w X' w'->Jo w' X' b (cs.set o v) ty->N undef w' X'):eU P R X w true (st1 t 1 (ptr b o) v) N:=by
 intro wa hk;have hb:wa.heap[b]? =some (.cells cs.toArray ty (cs.length,cs.length+1)):=by rw[hk.block b h.1];exact h.2
 have cx:=(Array.getElem?_eq_some_iff.1 hb).1;have hv:v.cells= #[v]:=tg h1;have Dg:wa.cell? ⟨b,o,none⟩=some cs[o]:=by simp[fp,hb,hl]
 have ar5:wa.frozen? ⟨b,o,none⟩=false:=by simp[World.frozen?,hb];omega
 have fO:(store ⟨b,o,none⟩ v).run P wa= .ok () (wa.setRow b (cs.toArray.setIfInBounds o v)):=by
  rw[run_store P wa _ v _ aQ,Dg];simp[ar5,setCell_eq_setRow wa b o cs.toArray ty _ v hb]
 have hr:(Instr.storeAt t (ptr b o) v).run P wa= .ok () (wa.setRow b (cs.toArray.setIfInBounds o v)):=by
  cases hi:P.info? t with
  |none=>grind
  |some i=>
   simp only[hi,ba,aj] at ht;simp[Instr.storeAt,Instr.sureAddr,eB,storeVar,sizeOf,typeInfo,hi,ht,hv,storeCells,oZ]
   grind
 unfold st1 jS;simp only[uS,bp,hr,aO,bO];have gf:(wa.setRow b (cs.toArray.setIfInBounds o v)).heap.size=wa.heap.size:=by simp
 refine⟨⟨rfl,rfl,rfl,by omega,λk _ hx=>setRow_other wa b k _ λe=>hx (e▸h.1)⟩,n _ _ ?_ ⟨.inl h.1,?_⟩⟩
 ·refine⟨hk.os,hk.tape,hk.output,by rw[gf];exact hk.size,λk hx bU=>?_,λk h=>.inl h,λk h=>?_⟩
  ·rw[setRow_other wa b k _ bU,hk.block k hx]
  ·rw[gf];exact h.elim (λh=>aw (hX k h) hk.size) (λh=>by omega)
 ·have:=setRow_heap wa b cs.toArray (cs.toArray.setIfInBounds o v) ty _ hb;simp_all
def CE (l:List Nat):ByteArray:=⟨(l.map UInt8.ofNat).toArray⟩
theorem VB (l:List Nat):(CE l).size=l.length:=by simp[CE,ByteArray.size]
theorem Td {src dst cap len:Nat} {l:List Nat} (hlen:len=l.length) (hc:Cells w X b o (l.map λx:Nat=>aA .u8 x)) (hs:P.underlying src=some (.slice e)) (he:P.underlying e=some (.int .u8)) (hd:P.underlying dst=some .string)
  (hX: ∀k,X k->k<w.heap.size) (n: ∀w' X',ai X w X' w'->N (.string (CE l)) w' X'):eV P R X w m (convert src dst (.slice (some ⟨b,o,none⟩) len cap)) N:=by
 subst hlen;intro wa hk;have hr:=run_convert_bytes_arg (P:=P) wa src e hs he b o l.length cap (l.map λx:Nat=>(x:Int)) sQ (λi hi=>by
  have:=(hc.kp hk).range i (.int .u8 ((l[i]:Nat):Int)) (by simp[hi]);simp_all) dst hd
 have e1:strOfNums (l.map λx:Nat=>(x:Int))=CE l:=by
  unfold strOfNums CE;simp
 rw[e1] at hr;unfold jS;simp only[vS,bp,hr,aO,bO];have hx:=Ext.refl wa;exact⟨Step.fb hx,n _ _ (ai.fb hX hk hx)⟩
theorem Z2 {t:TypeId} {a b:ByteArray} {N:Value->Prop} (h:a.size+b.size<=2^62) (k:N (.string (a++b))):aX P X w (binOp .add t (.string a) (.string b)) N:=
 bB (λwa=>by
  have:=run_string_add_sum (P:=P) wa a b zQ;assumption) k
theorem ap3 {k bytes ty:Nat} {s:Value} {rows:List (List Value)} {m':Bool} (hX: ∀k,X k->k<w.heap.size) (he:nf P t e k bytes=true) (src:Sl w X k s rows) (h1: ∀r∈rows,∀u∈r,one u=true)
  (hb:rows.length*bytes<=140737488355328) (hl:rows.length<=2^63-1)
  (n: ∀v w' X',ai X w X' w'->Ow w' (Ep w X') e k v rows->N v w' X'):eV P R X w m (gR t e k 0 #[]) λa w1 X1=>eV P R X1 w1 m' (ru t e k bytes ty a s) N:=by
 obtain⟨hu,iq,FU,z,hi,JZ,uI⟩:=mC he;cases hq:P.info? e with
 |none=>simp[hq] at hi
 |some ie=>
  cases tZ:ie.zero with
  |none=>simp[hq,tZ] at hi
  |some z'=>
   simp only[hq,tZ,cL,ba,aj,cN] at hi;obtain⟨rfl,rfl,rfl⟩:=hi;intro wa hk;have hr:(jr t 0 #[]).run P wa= .ok (.slice (some ⟨wa.heap.size,0,none⟩) 0 0) (wa.alloc (.cells #[] e)):=by
    simp[jr,run_underlying hu,sizeOf,typeInfo,hq,Instr.fill,newRow];have Ls: ∀f:Nat->Value,Array.map f (Array.range 0)= #[]:=λf=>Array.eq_empty_of_size_eq_zero sQ;rw[Ls]
   unfold gR jS;simp only[vS,bp,hr,aO,bO];have hx:Ext wa (wa.alloc (.cells #[] e)):=Ext.alloc _ _;have ay:=ai.fb hX hk hx;refine⟨Step.fb hx,?_⟩;intro wb pF;unfold ru jS;have ar6:=(src.since ay).kp pF;have Hx:wb.heap[wa.heap.size]? =some (.cells #[] e (0,0)):=by
    rw[pF.block _ (.inr ⟨au _,by simp⟩)];exact heap_alloc_new wa _
   have gf:=pF.size;have YV:=ay.kp.size;rcases ar6.src with⟨rfl,rfl⟩|⟨a,c,rfl,Dg⟩
   ·have jI:=AN (P:=P) (w:=wb) t ty e ie hu hq ⟨wa.heap.size,0,none⟩ 0 0 (au _);simp only[vS,bp,jI,aO,bO];have bA:=ai.fb ay.has pF (Ext.refl wb);exact⟨Step.fb (Ext.refl _),n _ _ _ (ay.trans bA) ⟨by simp,.inr ⟨wa.heap.size,0,0,#[],rfl,⟨.inl (.inr ⟨au _,by simp⟩),hk.size⟩,Hx,au _,aq _,by simp,by simp⟩⟩⟩
   ·have sE:rows.flatten.length=rows.length*ie.size:=lS src.1;by_cases h0:rows=[]
    ·subst h0;have jI:=AM (P:=P) (w:=wb) t ty e ie hu hq wa.heap.size 0 0 0 #[] Hx a 0 c [] sQ sQ sQ (au _) sQ;have e0:wb.setRow wa.heap.size (#[].toList.take (0+0*ie.size)++[]++ #[].toList.drop (0+0*ie.size+([]:List Value).length)).toArray=wb:=by
      have:=setRow_self wb wa.heap.size #[] e (0,0) Hx;simpa using this
     rw[e0] at jI;have Ei:(fg #[t,t] ty #[.slice (some ⟨wa.heap.size,0,none⟩) 0 0,.slice (some a) ([]:List (List Value)).length c]).run P wb= .ok (.slice (some ⟨wa.heap.size,0,none⟩) 0 0) wb:=jI;simp only[vS,bp,Ei,aO,bO];have bA:=ai.fb ay.has pF (Ext.refl wb);exact⟨Step.fb (Ext.refl _),n _ _ _ (ay.trans bA) ⟨by simp,.inr ⟨wa.heap.size,0,0,#[],rfl,⟨.inl (.inr ⟨au _,by simp⟩),hk.size⟩,Hx,au _,aq _,by simp,by simp⟩⟩⟩
    ·have Zd:0<rows.length:=List.length_pos_iff.2 h0;have jI:=run_append_grow (P:=P) wb t ty e ie z' hu hq tZ ⟨wa.heap.size,0,none⟩ 0 0 [] sQ sQ a rows.length c rows.flatten sE Dg zQ zQ (growslice_fits zQ (by simpa using hb));simp only[ff] at jI;simp only[vS,bp,jI,aO,bO];have dA:=grownCap_ge wb rows.length 0 e;have iH:grownCap wb rows.length 0 e<=maxLen:=grownCap_le_maxLen wb _ 0 e hl;have XR:Ext wb (wb.drew.alloc (.cells ([].toArray++rows.flatten.toArray++jN z'.cells (grownCap wb rows.length 0 e-rows.length)) e)):=⟨rfl,rfl,rfl,by simp,λk hk _=>heap_alloc_old wb.drew _ hk⟩;have gu:w.heap.size<=wb.heap.size:=ad YV gf;refine⟨Step.fb XR,n _ _ _ (ay.trans (ai.fb ay.has pF XR)) ⟨src.1,.inr ⟨wb.heap.size,0,_,_,rfl,⟨.inr ⟨au _,by simp⟩,gu⟩,heap_alloc_new wb.drew _,dA,iH,?_,?_⟩⟩⟩
     ·simp only[uP,kX,size_zeroCells,uI,sE,bF,ff,<-jk];apply cO;omega
     ·simp only[sW,List.drop_zero,cB];rw[<-sE];exact tA
variable {o' : Nat}
theorem pW (h:aI w X b cs ty) (MG:o'=o) (ht:(P.info? t).map (·.size)=some 1)
  (hl:o<cs.length) (h1:one v=true) (hX: ∀k,X k->k<w.heap.size)
  (n: ∀w' X',ee (· =b) X w X' w'->aI w' X' b (dr cs o [v]) ty->N undef w' X'):eU P R X w true (st1 t 1 (ptr b o') v) N:=by
 subst MG;have hv:=tg h1;refine EH h ht zQ (by rw[hv];rfl) gQ hX λw' X' c hr=>n w' X' c ?_
 grind
theorem GD {sz:Nat} (h:aI w X b cs ty) (MG:o'=o) (ht:(P.info? t).map (·.size)=some sz)
  (hl:o+sz<=cs.length) (hv:v.cells.size=sz) (h1:v.cells.toList.all one=true) (hX: ∀k,X k->k<w.heap.size)
  (n: ∀w' X',ee (· =b) X w X' w'->aI w' X' b (dr cs o v.cells.toList) ty->N undef w' X'):eU P R X w true (st1 t sz (ptr b o') v) N:=by
 subst MG;exact EH h ht hl hv h1 hX n
end Go.aJ
namespace Go.aJ
variable {P : Program} {R : Ending -> World -> Prop} {X : XS} {w : World} {m : Bool}
variable {N : Value -> Prop} {i k : Nat} {z : Int} {v : Value} {t : TypeId}
theorem acu {rows:List (List Value)} (h:Sl w X k v rows) (hz:z=i) (hi:i<=rows.length) (ht:P.underlying t=some (.slice (P.elem t))) (hs:(P.info? (P.elem t)).map (·.size)=some k)
  (n: ∀v',Sl w X k v' (rows.drop i)->N v'):aX P X w (bD t v (some (.int .i64 z)) none none) N:=by
 subst hz;obtain⟨h1,h2,base,cap,rfl,hc,hb,Yw,iH⟩:=h;have hq: ∃inf,P.info? (P.elem t)=some inf/\inf.size=k:=by
  cases hq:P.info? (P.elem t)with
  |none=>grind
  |some inf=>grind
 obtain⟨inf,hq,gf⟩:=hq;have oB: ∀wa:World,(bD t (.slice base rows.length cap) (some (.int .i64 (i:Int))) none none).run P wa= .ok (sliced base i rows.length cap k) wa:=λwa=>by
  rw[run_sliceAt_slice wa t _ _ _ _ ht,run_slice_l wa t _ _ cap ht .i64 i zQ zQ];simp[sizeOf,typeInfo,hq,gf]
 refine bB oB (n _ ?_);refine⟨λr hr=>h1 r (List.mem_of_mem_drop hr),by rw[bR];omega,_,cap-i,by unfold sliced;rw[bR],λbU=>?_,λuq=>?_,by rw[bR];omega,by omega⟩
 ·have nN:i<rows.length:=by
   refine Nat.lt_of_not_le λhle=>bU (List.drop_of_length_le hle)
  obtain⟨b,o,rfl,jG⟩:=hc gQ;refine⟨b,o+i*k,?_,?_⟩
  ·rw[if_neg zQ];simp only[ba,aj];unfold Addr.add;split
   ·grind
   ·rfl
  ·rw[aJ.Dt i h1];obtain⟨hx,c,ty,fr,dW,Cf⟩:=jG;exact⟨hx,c,ty,fr,dW,λj v hj=>by rw[gp] at hj;have:=Cf _ _ hj;rwa [<-Nat.add_assoc] at this⟩
 ·split at uq
  ·omega
  ·have:base=none:=by simpa using uq
   grind
variable {z' : Int} {cap j n : Nat}
theorem acs {a:Option Addr} {q:Nat} {z2:Int} (hz:z=i) (uX:z'=j) (JZ:z2=q) (hi:i<=j) (hj:j<=q) (hq:q<=cap) (ht:P.underlying t=some (.slice (P.elem t))) (hs:((P.info? (P.elem t)).map (·.size)).isSome=true)
  (h: ∀v,N v):aX P X w (bD t (.slice a n cap) (some (.int .i64 z)) (some (.int .i64 z')) (some (.int .i64 z2))) N:=by
 subst hz;subst uX;subst JZ;obtain⟨k,hk⟩:=Option.isSome_iff_exists.1 hs;refine bB (v:=sliced a i j q k) (λwa=>?_) (h _);rw[run_sliceAt_slice wa t _ _ _ _ ht,run_slice_lhm wa t a n cap ht .i64 .i64 .i64 i j q zQ zQ zQ zQ];cases hq:P.info? (P.elem t)with
 |none=>grind
 |some inf=>
  have:inf.size=k:=by simpa [hq] using hk
  simp[sizeOf,typeInfo,hq,this]
variable {g off : Nat}
theorem Yn (hz:z=i) (uX:z'=j) (hi:i<=j) (hj:j<=cap) (hic:i<cap) (ht:P.underlying t=some (.slice (P.elem t))) (hs:(P.info? (P.elem t)).map (·.size)=some k)
  (h:N (.slice (some ⟨g,off+i*k,none⟩) (j-i) (cap-i))):aX P X w (bD t (.slice (some ⟨g,off,none⟩) n cap) (some (.int .i64 z)) (some (.int .i64 z')) none) N:=by
 subst hz;subst uX;refine bB (λwa=>?_) h;rw[run_sliceAt_slice wa t _ _ _ _ ht,run_slice_lh wa t _ n cap ht .i64 .i64 i j zQ zQ zQ];cases hq:P.info? (P.elem t)with
 |none=>grind
 |some inf=>
  have:inf.size=k:=by simpa [hq] using hs
  have bU: ¬cap=i:=by omega
  simp[sizeOf,typeInfo,hq,sliced,this,oZ,bU]
variable {bytes e ty : Nat}
theorem Ym {t:Nat} {s:Value} {cur:List Value} {cT:List (List Value)} {N:Value->World->XS->Prop} (he:nf P t e k bytes=true) (h:aI w X g cur e) (src:Sl w X k s cT) (h1: ∀r∈cT,∀u∈r,one u=true)
  (xE:n+cT.length<=cap) (Jn:off+n*k+cT.length*k<=cur.length) (hX: ∀k,X k->k<w.heap.size)
  (nx: ∀w' X',ee (λk=>k=g) X w X' w'->aI w' X' g (dr cur (off+n*k) cT.flatten) e->N (.slice (some ⟨g,off,none⟩) (n+cT.length) cap) w' X'):
  eV P R X w true (ru t e k bytes ty (.slice (some ⟨g,off,none⟩) n cap) s) N:=by
 obtain⟨hu,iq,FU,z,hi,JZ,uI⟩:=mC he;intro wa hk;have hb:=(h.kp hk).2;have src:=src.kp hk;cases hq:P.info? e with
 |none=>grind
 |some ie=>
  cases tZ:ie.zero with
  |none=>simp_all
  |some z'=>
   simp only[hq,tZ,cL,ba,aj,cN] at hi;obtain⟨rfl,rfl,rfl⟩:=hi;unfold ru jS;rcases src.src with⟨rfl,rfl⟩|⟨a,c,rfl,Dg⟩
   ·have hr:=AN (P:=P) (w:=wa) t ty e ie hu hq ⟨g,off,none⟩ n cap zQ;simp only[vS,bp,hr,aO,bO];have Br:=Ext.refl wa;have hs:=ai.fb hX hk Br;refine⟨Step.fb Br,nx _ _ (ee.nQ hs _) ?_⟩;have:dr cur (off+n*ie.size) ([]:List (List Value)).flatten=cur:=by simp[dr]
    rw[this];exact h.since hs
   ·have sE:cT.flatten.length=cT.length*ie.size:=lS src.1;have CH: ∀u∈cT.flatten,u.oneCell'=true:=λu hu=>by
     obtain⟨r,hr,hur⟩:=List.mem_flatten.1 hu;rw[<-QH];exact h1 r hr u hur
    have hr:=AM (P:=P) (w:=wa) t ty e ie hu hq g off n cap cur.toArray hb a cT.length c cT.flatten sE Dg CH xE (by rw[sE,kX];omega);simp only[vS,bp,hr,aO,bO];have FH: ∀k,k≠g->(wa.setRow g (dr cur (off+n*ie.size) cT.flatten).toArray).heap[k]? =wa.heap[k]? :=λk hk=>setRow_other wa g k _ hk;refine⟨⟨rfl,rfl,rfl,by simp,λk xq nD=>FH k λe=>nD (e▸h.1)⟩,nx _ _ ⟨hk.os,hk.tape,hk.output,by simpa using hk.size,λk hx bU=>(FH k bU).trans (hk.block k hx),λk h=>.inl h,
     λk h=>h.elim (λh=>by have:=hX k h;have:=hk.size;simp;omega) (λh=>h.2)⟩ ⟨.inl h.1,?_⟩⟩
    exact setRow_heap wa g cur.toArray _ e _ hb
def Z3 (P:Program) (e:TypeId):Bool:=match(P.info? e).bind (·.zero)with
 |some z=>z.cells.toList.all one
 |none=>false
theorem Yo {t o:Nat} {cs:List Value} {tb:TypeId} {N:Value->World->XS->Prop} (h:aI w X g cs tb) (he:nf P t e k bytes=true) (hzo:Z3 P e=true) (h0:0<n) (hl:o+n*k<=cs.length) (hX: ∀k,X k->k<w.heap.size)
  (nx: ∀w' X' zs,zs.length=n*k->ee (λk=>k=g) X w X' w'->aI w' X' g (dr cs o zs) tb->N (.tuple #[]) w' X'):
  eV P R X w true (nj #[t] ty #[.slice (some ⟨g,o,none⟩) n cap]) N:=by
 obtain⟨hu,iq,FU,z,hi,JZ,uI⟩:=mC he;intro wa hk;have hb:=(h.kp hk).2;cases hq:P.info? e with
 |none=>simp[hq] at hi
 |some ie=>
  cases tZ:ie.zero with
  |none=>simp_all
  |some z'=>
   simp only[hq,tZ,cL,ba,aj,cN] at hi;obtain⟨rfl,rfl,rfl⟩:=hi;have Yt: ∀w,(zeroValue e).run P w= .ok z' w:=by
    intro w;simp[zeroValue,typeInfo,hq,tZ]
   obtain⟨zs,ajz⟩: ∃zs,zs=(jN z'.cells n).toList:=⟨_,rfl⟩;have UD:zs.length=n*ie.size:=by rw[ajz,fv,size_zeroCells,uI]
   have QT: ∀v∈zs,v.oneCell'=true:=λv hv=>by
    rw[ajz] at hv;simp only[jN,nH,List.mem_map,Array.toList_range,List.mem_range] at hv;obtain⟨q,L7,rfl⟩:=hv;have cx:q % z'.cells.size<z'.cells.size:=Nat.mod_lt _ zQ;rw[getElem!_pos z'.cells _ cx];have:=hzo;simp only[Z3,hq,cL,tZ,lA] at this;rw[<-QH];exact this _ sQ
   have fO:=run_storeCells_at P g o tb zs 0 cs.toArray wa hb (by simp[UD];omega) QT;simp only[AL] at fO;obtain⟨q,rfl⟩: ∃q,n=q+1:=⟨n-1,by omega⟩;have hr:(nj #[t] ty #[.slice (some ⟨g,o,none⟩) (q+1) cap]).run P wa= .ok (.tuple #[]) (wa.setRow g (dr cs o zs).toArray):=by
    simp only[nj];simp[run_underlying hu,Yt,<-ajz,fO,dr]
   unfold jS;simp only[vS,bp,hr,aO,bO];have FH: ∀k,k≠g->(wa.setRow g (dr cs o zs).toArray).heap[k]? =wa.heap[k]? :=λk hk=>setRow_other wa g k _ hk;refine⟨⟨rfl,rfl,rfl,by simp,λk xq nD=>FH k λe=>nD (e▸h.1)⟩,nx _ _ zs UD ⟨hk.os,hk.tape,hk.output,by simpa using hk.size,λk hx bU=>(FH k bU).trans (hk.block k hx),λk h=>.inl h,
    λk h=>h.elim (λh=>by have:=hX k h;have:=hk.size;simp;omega) (λh=>h.2)⟩ ⟨.inl h.1,?_⟩⟩
   exact setRow_heap wa g cs.toArray _ tb _ hb
variable {P : Program}
variable {w : World} {args : Array Value} {fn : Func} {pl : gz}
theorem aou (hn:fn.ntmps=pl.n) (akk:args.size<=pl.n) (Ax:(pl.boxes.all λp=>decide (args.size<=p.1))=true):
  fB pl ⟨[],[]⟩ .start (nq args) (bN w) w { tmps:=args++cY (fn.ntmps-args.size) undef,defers:=[] } w:=by
 have adk:(args++cY (fn.ntmps-args.size) undef).size=pl.n:=by simp;omega
 have DW: ∀s,s<pl.n->(args++cY (fn.ntmps-args.size) undef)[s]? =some (nq args s):=by
  intro s hs;rw[kJ];split
  ·rename_i h1;simp[nq,qd,h1]
  ·rename_i h1;rw[jF,if_pos zQ];simp only[nq,qd];simp_all
 have Lm: ∀b n,look pl.boxes b=some n->nq args b=undef:=by
  intro b n hb;have h1:=List.all_eq_true.1 Ax _ (Cx hb);simp only[decide_eq_true_eq] at h1;simp only[nq,qd];rw[List.getElem?_eq_none zQ];rfl
 exact {
  size:=adk
  defers:=rfl
  AW:=λ_ hp=>(by cases hp)
  ext:=Kp.refl _ _
  xK:=λ_ hk=>hk
  qP:=λs hs=>DW s (tI hs).1
  sig:=λ_ hp=>(by cases hp)
  box:=λb n hb cells hc=>by rw[Lm b n hb] at hc;cases hc
  inj:=λb b' n n' hb dW h1=>by rw[Lm b n hb] at h1;cases h1
  conv:=λb n hb k hk=>by
   have h1:=List.all_eq_true.1 Ax _ (Cx hb);simp only[decide_eq_true_eq] at h1;rw[kJ,if_neg zQ,jF] at hk;split at hk
   ·cases hk
   ·cases hk
  live:=λ_ hp=>(by cases hp)
  ptr:=λ_ hp=>(by cases hp) }
def Idle (P:Program) (g:FuncId):Prop:=enters P g=true/\ ∀gG w,CallsD P g gG .returning w λe u' w'=>(∃x,e= .returned x)/\u'= .returning/\w'=w
variable {w0 : World} {X : XS}
theorem fB.aside {ds:Bk} {env:Env} {a:Act} {d:Nat} (h:fB pl ds .start env X w0 a w) (hd:d<pl.n) (hb:look pl.boxes d=none) (hg:pl.kf d=false):
  fB pl ds .start env X w0 (a.put (some d) v) w:=by
 have ne: ∀b n,look pl.boxes b=some n->b≠d:=λb n dW e=>by grind
 exact {
  size:=by simp[Act.put,h.size]
  defers:=h.defers
  AW:=λp hp=>by
   obtain⟨ht,h2⟩:=h.AW p hp;refine⟨?_,h2⟩;have bU:p.1≠d:=λe=>by grind
   rw[gh _ _ _ _ bU];exact ht
  ext:=h.ext
  xK:=h.xK
  qP:=λs hs=>by
   have tn:s≠d:=λe=>by grind
   rw[gh _ _ _ _ tn];exact h.qP s hs
  sig:=λ_ hp=>(by cases hp)
  box:=λb n dW cells hc=>by
   obtain⟨k,ty,h1,h2⟩:=h.box b n dW cells hc;exact⟨k,ty,by rw[gh _ _ _ _ (ne b n dW)];exact h1,h2⟩
  inj:=λb b' n n' h1 h2 h3 h4 k h5 h6=>h.inj b b' n n' h1 h2 h3 h4 k (by rwa [gh _ _ _ _ (ne b n h1)] at h5) (by rwa [gh _ _ _ _ (ne b' n' h2)] at h6)
  conv:=λb n dW k hk=>h.conv b n dW k (by rwa [gh _ _ _ _ (ne b n dW)] at hk)
  live:=λ_ hp=>(by cases hp)
  ptr:=λ_ hp=>(by cases hp) }
def isSimple:TI->Bool
 | .box .. =>true
 | .Cv .. =>true
 | .Ar _=>true
 | .set .. =>true
 |_=>false
def DP:List TI->Env->Env
 |[],e=>e
 | .box b _ x::l,e=>DP l (jT e b (.agg (x.ev e).cells))
 | .Cv b x::l,e=>DP l (jT e b (.agg #[x.ev e]))
 | .set d x::l,e=>DP l (jT e d (x.ev e))
 |_::l,e=>DP l e
theorem Ab {jd:List PanicEntry->Env->World->XS->Prop} {next:Env->World->XS->Prop} : ∀(l:List TI) (env:Env),l.all isSimple=true->ia P jd next l env w X->
  ia P jd (λe w' X'=>e=DP l env/\next e w' X') l env w X
 |[],env,_,h=>⟨rfl,h⟩
 |i::l,env,hs,h=>by
  rw[List.all_cons,aC] at hs;obtain⟨h1,h2⟩:=hs;cases i with
  |box b n x=>exact dJ.2 ⟨(dJ.1 h).1,Ab l _ h2 (dJ.1 h).2⟩
  |Cv b x=>exact dJ.2 ⟨(dJ.1 h).1,Ab l _ h2 (dJ.1 h).2⟩
  |Ar b=>exact dJ.2 ⟨(dJ.1 h).1,Ab l _ h2 (dJ.1 h).2⟩
  |set d x=>exact Ab l _ h2 h
  |_=>cases h1
def vY:List Operand->Option (List Nat)
 |[]=>some []
 | .tmp b::l=>(vY l).map (b:: ·)
 |_::_=>none
def ajA:Value->Option Value
 | .agg ⟨[v]⟩=>some v
 |_=>none
def R8:List Nat->Bool
 |[]=>true
 |b::l=>!yZ l b&&R8 l
theorem O8: ∀{l:List Operand} {cb:List Nat},vY l=some cb->l=cb.map .tmp
 |[],cb,h=>by simp only[vY,aj] at h;subst h;rfl
 |x::l,cb,h=>by
  cases x with
  |tmp b=>
   simp only[vY,Option.map_eq_some_iff] at h;obtain⟨c,h1,rfl⟩:=h;rw[O8 h1];rfl
  |const v=>simp[vY] at h
  |global v=>simp[vY] at h
  |func v=>simp[vY] at h
theorem ac3 {tmps:Array Value} : ∀(cb:List Nat),(∀b∈cb,∃k,tmps[b]? =some (eB k 0))-> ∃ks:List Nat,ks.length=cb.length/\ ∀(i:Nat) b,cb[i]? =some b-> ∃k,ks[i]? =some k/\tmps[b]? =some (eB k 0)
 |[],_=>⟨[],rfl,λi b h=>by simp at h⟩
 |b::cb,h=>by
  obtain⟨k,hk⟩:=h b sQ;obtain⟨ks,h1,h2⟩:=ac3 cb λc hc=>h c (bS _ hc);refine⟨k::ks,by simp[h1],λi c hc=>?_⟩;cases i with
  |zero=>simp only[List.getElem?_cons_zero,aj] at hc;subst hc;exact⟨k,rfl,hk⟩
  |succ i=>simpa using h2 i c aQ
theorem O9: ∀{l:List Nat},R8 l=true->l.Nodup
 |[],_=>List.nodup_nil
 |b::l,h=>by
  simp only[R8,aC,cW] at h;exact List.nodup_cons.2 ⟨λhm=>by
   rw[AV.2 hm] at h
   grind,O9 h.2⟩
theorem TC {α:Type} {cb:List Nat} {ks:List α} {p:Nat×α} (h:p∈cb.zip ks): ∃i:Nat,cb[i]? =some p.1/\ks[i]? =some p.2:=by
 obtain⟨i,hi,e⟩:=List.getElem_of_mem h;refine⟨i,?_⟩;have h2:(cb.zip ks)[i]? =some p:=by rw[aS hi,e]
 rw[ua] at h2;exact h2
structure Outside (ks:List Nat) (w wa:World):Prop where
 os:wa.os=w.os
 tape:wa.tape=w.tape
 output:wa.output=w.output
 size:w.heap.size<=wa.heap.size
 block: ∀k,k<w.heap.size-> ¬k∈ks->wa.heap[k]? =w.heap[k]?
theorem Outside.refl (ks:List Nat) (w:World):Outside ks w w:=⟨rfl,rfl,rfl,au _,λ_ _ _=>rfl⟩
variable {ks : List Nat}
theorem Outside.trans {a b c:World} (h:Outside ks a b) (k:Outside ks b c):Outside ks a c:=
 ⟨k.os.trans h.os,k.tape.trans h.tape,k.output.trans h.output,ad h.size k.size,λi hl hi=>(k.block i (aw hl h.size) hi).trans (h.block i hl hi)⟩
theorem Outside.kp {wa:World} (h:Outside ks w wa) (k:Kp X w0 w) (hl: ∀i,X i->i<w.heap.size) (hX: ∀i,i∈ks-> ¬X i):Kp X w0 wa:=
 ⟨h.os.trans k.os,h.tape.trans k.tape,h.output.trans k.output,ad k.size h.size,λi hi=>(h.block i (hl i hi) λhm=>hX i hm hi).trans (k.block i hi)⟩
def RG (P:Program) (pl:gz) (fn:Func) (R:Ending->World->Prop) (g:FuncId) (cb:List Nat) (cv:List (Option Value)) (RP:List PanicEntry->World->Prop):Prop:=
 ∀(ks:List Nat) (FG:List (Array Value)) ch w',ks.length=cb.length->FG.length=cb.length->ks.Nodup->(∀(i:Nat) k cells,ks[i]? =some k->FG[i]? =some cells-> ∃ty,w'.heap[k]? =some (.cells cells ty (0,0)))->
  (∀(i:Nat) v cells,cv[i]? =some (some v)->FG[i]? =some cells->cells= #[v])->(∀(i:Nat) b n cells,cb[i]? =some b->look pl.boxes b=some n->FG[i]? =some cells->cells.size=n)->(∀wa,Outside ks w' wa->RP ch wa)->
  CallsD P g (ks.map λk=>eB k 0).toArray (.panicking ch) w' λe u mD=>(∃x,e= .returned x)/\settle u= .returning/\ ∃v,R (.returned v) mD/\
   ∀tmps:Array Value,(∀(i:Nat) b k,cb[i]? =some b->ks[i]? =some k->tmps[b]? =some (eB k 0))->(results fn tmps).run P mD= .ok v mD
def GR (R:Ending->World->Prop) (RP:List PanicEntry->World->Prop):Ending->World->Prop
 | .panicked ch,w=>RP ch w
 |e,w=>R e w
theorem agX {l:List Nat} (h: ∀(i j:Nat) k,l[i]? =some k->l[j]? =some k->i=j):l.Nodup:=
 List.pairwise_iff_getElem.2 λi j hi hj zd e=>by
  have:=h i j l[i] (aS hi) gQ;omega
def yC (fn:Func):List Nat:=fn.results.toList.map λr=>match r with
 | .cell c _=>c
 | .tmp t=>t
def ajB (fn:Func):Bool:=fn.results.toList.all λr=>match r with
 | .cell _ _=>true
 | .tmp _=>false
def ftD (P:Program) (pl:gz) (fn:Func):Option FT:=
 if fn.ntmps==pl.n then match fn.body with
  |some (.seq (.region _ afc false) (.seq (.region _ zF false) rest))=>match zF.toList with
   |[mk,df]=>match df.op,df.guard,df.dst with
    | .defer ⟨.value (.tmp d),⟨[]⟩,_⟩,none,none=>match IP P pl afc afc.toList .start,IP P pl zF [mk] .start,jP P pl rest with
     |some t0,some t1,some t2=>match t1 with
      |[.rd d' (.makeFunc (.func _) ⟨[]⟩ _) _ _]=>
       if d'==d&&pl.kf d&&(yC fn).all (λc=>pl.kf c&&!yZ t2.mk c&&!yZ t2.wr c)&&ajB fn&&!(t2.wr.contains d)&&!fn.results.isEmpty then some ⟨.seq (.B9 t0) (.seq (.B9 t1) t2),(yC fn).map Ex.t++[Ex.t d],[]⟩else none
      |_=>none
     |_,_,_=>none
    |_,_,_=>none
   |_=>none
  |_=>none
 else none
def Ie (P:Program) (fn:Func) (R:Ending->World->Prop) (vs:List Value) (u:FrameMode) (w:World):Prop:=
 ∃(ps:List Value) (g:FuncId) (gG:Array Value),vs=ps++[Value.func (.func g) #[] gG]/\enters P g=true/\
  CallsD P g gG u w λe' u' w'=> ∃x v,e'= .returned x/\settle u'= .returning/\
   (∀tmps:Array Value,(∀(i:Nat) c,(yC fn)[i]? =some c->tmps[c]? =ps[i]?)->(results fn tmps).run P w'= .ok v w')/\R (.returned v) w'
def dP (P:Program) (fn:Func) (R:Ending->World->Prop) (vs:List Value):Ending->World->Prop
 | .returned _,w=>Ie P fn R vs .returning w
 | .panicked ch,w=>Ie P fn R vs (.panicking ch) w
 | .outgrown,_=>False
def nP:Ending->World->Prop:=λ_ _=>False
def akJ (P:Program) (fn:Func) (R:Ending->World->Prop) (res:List Ex):lO
 | .normal,e,w,X| .ret,e,w,X=> ∀wa,Kp X w wa->Ie P fn R (res.map (·.ev e)) .returning wa
 | .panic ch,e,w,X=> ∀wa,Kp X w wa->Ie P fn R (res.map (·.ev e)) (.panicking ch) wa
 |_,_,_,_=>False
def aov (P:Program) (pl:gz) (fn:Func) (R:Ending->World->Prop) (args:Array Value) (w:World):Prop:=match ftD P pl fn with
 |some ft=>match ft.code with
  | .seq (.B9 t0) (.seq (.B9 t1) t2)=>ia P (λch _ w X=>pn nP ch w X) (λe w X=>ia P (λch _ w X=>pn nP ch w X) (λe w X=>den P t2 (akJ P fn R ft.res) e w X) t1 e w X) t0 (nq args) w (bN w)
  |_=>False
 |none=>False
variable {R : Ending -> World -> Prop}
theorem Z4 {f:FuncId} {V:Prop} (hf:P.funcs[f]? =some fn)
  (hs:(decide (args.size<=pl.n)&&pl.boxes.all λp=>decide (args.size<=p.1))=true) (hv:V=aov P pl fn R args w) (h:V):Calls P f args w R:=by
 subst hv;unfold aov at h;simp only[aC,decide_eq_true_eq] at hs;split at h;case h_2=>exact h.elim
 rename_i ft hc;unfold ftD at hc;split at hc;case isFalse=>cases hc
 rename_i hn;have mE:fn.ntmps=pl.n:=by simpa using hn
 split at hc;case h_2=>cases hc
 rename_i _ id0 afc id1 zF rest hb;split at hc;case h_2=>cases hc
 rename_i _ mk df afd;split at hc;case h_2=>cases hc
 rename_i _ _ _ d Z5 ajC Z6 JV;split at hc;case h_2=>cases hc
 rename_i _ _ _ t0 t1 t2 xe GG qt;split at hc;case h_2=>cases hc
 rename_i _ d' g0 Dh ty ss;split at hc;case isFalse=>cases hc
 rename_i th;simp only[aC,beq_iff_eq,cW,lA] at th;obtain⟨⟨⟨⟨⟨Ll,hgd⟩,hgc⟩,nM⟩,hwr⟩,bU⟩:=th;subst Ll;injection hc with hc
 subst hc;have hdw: ¬d'∈t2.wr:=λhm=>by simp[hm] at hwr
 have ajD:=aou (w:=w) mE hs.1 gQ;refine calls_of_wp_defers hf hb ?_
 let K:=akJ P fn R ((yC fn).map Ex.t++[Ex.t d'])
 have hnp: ∀{ch X w0 w'},Kp X w0 w'->pn nP ch w0 X->False:=λhk hq=>hq _ hk;have h0:ia P (λch _ w X=>pn nP ch w X) (λe w X=>ia P (λch _ w X=>pn nP ch w X) (λe w X=>den P t2 K e w X) [.rd d' (.makeFunc (.func g0) ⟨[]⟩ Dh) ty ss] e w X) t0 (nq args) w (bN w):=h;refine wp_seq (wp_region_list (QL (P:=P) (pl:=pl) (ds:=⟨[],[]⟩) ?_ ?_ afc.toList .start t0 _ _ _ _ _ xe (λ_ _ _ hp=>by cases hp) ajD h0));case refine_2=>exact λch a' w' dt X' eu _ hk _ hq=>(hnp hk hq).elim
 intro XB a1 w1 xL X1 MH ay hd1;replace ay:=ay.drop
 show(Code.seq (Code.region id1 zF false) rest).wp P (bodyPostD P fn R) a1 w1
 refine wp_seq (wp_region_list ?_);rw[afd];have h1:ia P (λch _ w X=>pn nP ch w X) (λe w X=>den P t2 (λex e' w' X'=>K ex e' w' X'/\ ∀s,¬s∈t2.wr->e' s=e s) e w X/\ ∃gG,e d'= .func (.func g0) #[] gG) [.rd d' (.makeFunc (.func g0) ⟨[]⟩ Dh) ty ss] xL MH X1:=by
  obtain⟨v,hv,hq⟩: ∃v,Rd P X1 MH (QA (Gr xL ss) (.makeFunc (.func g0) ⟨[]⟩ Dh) ty) v/\den P t2 K (jT xL d' v) MH X1:=hd1;refine⟨v,hv,mV t2 hq λex e w' X' _ he hk=>⟨hk,he⟩,?_⟩;have hr:(vS (cC (.func g0) (xJ (Gr xL ss) ⟨[]⟩) (xJ (Gr xL ss) Dh))).run P MH= .ok (.value v) MH:=hv MH (Kp.refl _ _);rw[SQ,SQ] at hr;rw[mJ];simp[vS,cC] at hr;exact⟨_,hr.symm⟩
 have h2:=QL (P:=P) (pl:=pl) (ds:=⟨[],[]⟩) (ops:=zF) (Q:=λex a w=>match ex with
   | .normal=>wpList P zF (Exit.then (rest.wp P (bodyPostD P fn R)) (bodyPostD P fn R)) [df] a w
   |ex=>Exit.then (rest.wp P (bodyPostD P fn R)) (bodyPostD P fn R) ex a w) ?_ ?_ [mk] .start _ xL X1 MH a1 w1 GG (λ_ _ _ hp=>by cases hp) ay h1
 ·assumption
 ·rintro cs2 a2 w2 Gb X2 w02 bA ⟨sG,gG,pz⟩
  show wpList P zF _ [df] a2 w2
  have Um:a2.eval (.tmp d')= .func (.func g0) #[] gG:=by
   have:=bA.qP d' hgd;simp[Act.eval,nA,this,pz]
  have oB:(execOp a2.eval df).run P w2= .ok (.defer { target:=.fn (.func g0) gG,args:= #[] }) w2:=by
   simp[execOp,ajC,resolve,Um,lC]
  unfold wpList;have hw:cE df (yielded zF a2.tmps)=true:=by simp[cE,Z6]
  rw[if_pos hw];left;unfold Oper.wp;rw[oB,Cr,JV]
  show rest.wp P (bodyPostD P fn R) { a2 with defers:= { target:=.fn (.func g0) gG,args:= #[] } ::a2.defers } w2
  rw[bA.defers];have ye:=bA.drop;have dm:fB pl ⟨[{ target:=.fn (.func g0) gG,args:= #[] }],(yC fn).map λc=>(c,Gb c)⟩ .start Gb X2 w02 { a2 with defers:=[{ target:=.fn (.func g0) gG,args:= #[] }] } w2:=
   ⟨ye.size,rfl,λp hp=>by
    obtain⟨c,hc,rfl⟩:=List.mem_map.1 hp;have hg:=(hgc c hc).1.1;exact⟨bA.qP c hg,.inr hg⟩,ye.ext,ye.xK,ye.qP,ye.sig,ye.box,ye.inj,ye.conv,ye.live,ye.ptr⟩
  refine wp_mono (Ni (pl:=pl) (ds:=⟨[{ target:=.fn (.func g0) gG,args:= #[] }],(yC fn).map λc=>(c,Gb c)⟩) rest t2 _ Gb X2 w02 _ w2 qt (λb dW p hp e=>?_) dm sG) λex a' w' hq=>?_
  ·obtain⟨c,hc,rfl⟩:=List.mem_map.1 hp;have h3:=(hgc c hc).1.2;have e:c=b:=e;rw[e,AV.2 dW] at h3;cases h3
  have hcw: ∀c∈yC fn,¬c∈t2.wr:=λc hc hm=>by
   have h3:=(hgc c hc).2;rw[AV.2 hm] at h3;cases h3
  have close: ∀(e:Env) (u:FrameMode) (wx:World),u≠ .run->(∀s,¬s∈t2.wr->e s=Gb s)->(∀c∈yC fn,a'.tmps[c]? =some (Gb c))->
    Ie P fn R (((yC fn).map Ex.t++[Ex.t d']).map (·.ev e)) u wx->Leaves P fn a'.tmps R [{ target:=.fn (.func g0) gG,args:= #[] }] u wx:=by
   rintro e u wx hu he htm ⟨vs,g,ap4,Vi,ajE,hcd⟩;rw[List.map_append,List.map_map,aZ,List.map_nil] at Vi;obtain⟨lq,rN⟩:=List.append_inj' Vi rfl;simp only[List.cons.injEq,and_true] at rN;have ar7:(Value.func (.func g0) #[] gG)= .func (.func g) #[] ap4:=by
    rw[<-pz,<-he d' hdw];exact rN
   injection ar7 with Zr _ xN
   injection Zr with Zr
   subst Zr;subst xN;refine leaves_cons hu (f:=g0) (args:=gG) ?_ ?_
   ·simp only[invoke];have:=pe ajE (#[]++gG) wx;simpa using this
   ·refine hcd.mono ?_;rintro _ u' mD ⟨x,v,rfl,I0,Pq,hR⟩
    show Leaves P fn a'.tmps R [] (settle u') mD
    rw[I0];refine⟨v,Pq _ λi c hi=>?_,hR⟩;have mf:c∈yC fn:=ax hi;rw[htm c mf,<-lq,cK,hi]
    show some (Gb c)=some (e c)
    rw[he c (hcw c mf)]
  have done:(∃env X w0,fB pl ⟨[{ target:=.fn (.func g0) gG,args:= #[] }],(yC fn).map λc=>(c,Gb c)⟩ .start env X w0 a' w'/\K .ret env w0 X/\ ∀s,¬s∈t2.wr->env s=Gb s)->Leaves P fn a'.tmps R a'.defers .returning w':=by
   rintro⟨e,X',eu,h5,h6,h7⟩;rw[h5.defers];exact close e .returning w' sQ h7 (λc hc=>(h5.AW (c,Gb c) (List.mem_map.2 ⟨c,hc,rfl⟩)).1) (h6 w' h5.ext)
  cases ex with
  |normal=>exact done hq
  |ret=>exact done hq
  |panic ch=>
   obtain⟨h5,e,X',eu,h6,⟨h7,h8⟩,Bj⟩:=hq
   show Leaves P fn a'.tmps R a'.defers (.panicking ch) w'
   rw[h5];exact close e (.panicking ch) w' sQ h8 (λc hc=>(Bj.2 (c,Gb c) (List.mem_map.2 ⟨c,hc,rfl⟩)).1) (h7 w' h6)
  |exit i=>obtain⟨e,X',eu,h5,h6,_⟩:=hq;exact h6.elim
  |goto i=>obtain⟨e,X',eu,h5,h6,_⟩:=hq;exact h6.elim
  |outgrown=>exact hq.elim
 ·exact λch a' w' dt X' eu _ hk _ hq=>(hnp hk hq).elim
end Go.aJ
namespace Go.aJ
variable {P : Program} {R : Ending -> World -> Prop} {X F G : XS} {w w0 : World} {m : Bool}
def FC (F:XS) (w0:World) (Q:Value->World->Prop) (QP:List PanicEntry->World->Prop):Ending->World->Prop:=λe w'=>
 (∃v,e= .returned v/\Fr F w0 w'/\Q v w')\/ ∃ch,e= .panicked ch/\Fr F w0 w'/\QP ch w'
def FB (P:Program) (f:FuncId) (args:Array Value) (w:World) (X F:XS) (Q:Value->World->World->Prop) (QP:List PanicEntry->World->World->Prop):Prop:=
 ∀wa,Kp X w wa->Calls P f args wa (FC F wa (λv w'=>Q v wa w') λch w'=>QP ch wa w')
variable {QP : List PanicEntry -> World -> World -> Prop} {args : Array Value} {f : FuncId}
def FB.mono {Q Q':Value->World->World->Prop} {YY:List PanicEntry->World->World->Prop} (h:FB P f args w X F Q QP) (k: ∀v wa w',Kp X w wa->Q v wa w'->Q' v wa w') (kp: ∀ch wa w',Kp X w wa->QP ch wa w'->YY ch wa w'):FB P f args w X F Q' YY:=
 λwa hk=>(h wa hk).mono λ_ _ hq=>hq.imp (λ⟨v,he,hf,hq⟩=>⟨v,he,hf,k v wa _ hk hq⟩) λ⟨v,he,hf,hq⟩=>⟨v,he,hf,kp v wa _ hk hq⟩
variable {N : Value -> World -> XS -> Prop}
theorem ap5 {Q:Value->World->World->Prop}
  (h:FB P f args w X F Q QP) (hf:enters P f=true) (hX: ∀k,X k->k<w.heap.size) (hF: ∀k,F k->X k)
  (k: ∀v wa w' X',Q v wa w'->w.heap.size<=wa.heap.size->(∀k,made wa w' k->X' k)->Kp X w wa->ee F X w X' w'->N v w' X')
  (kp: ∀ch wa w' X',QP ch wa w'->w.heap.size<=wa.heap.size->(∀k,made wa w' k->X' k)->Kp X w wa->ee F X w X' w'-> ∀wb,Kp X' w' wb->R (.panicked ch) wb):eC P R X w true f args N:=by
 intro wa hk;unfold jS;rw[pe hf args wa];refine⟨rfl,(h wa hk).mono ?_⟩;rintro e w' (⟨v,rfl,xv,hq⟩|⟨ch,rfl,xv,hq⟩)
 ·exact⟨xv.mono hF,k v wa w' _ hq hk.size (λg hg=>.inr hg) hk (ee.ae5 hX hk xv)⟩
 ·exact⟨xv.mono hF,kp ch wa w' _ hq hk.size (λg hg=>.inr hg) hk (ee.ae5 hX hk xv)⟩
variable {x : Value} {t : TypeId}
theorem Tk (hX: ∀k,X k->k<w.heap.size) (h: ∀wa,Kp X w wa->R (.panicked [{ v:=.iface t x,recovered:=false }]) wa):eV P R X w m (kO (.iface t x)) N:=by
 intro wa hk;have hr:(vS (kO (.iface t x))).run P wa= .halt (.panic (.iface t x)) wa:=by simp[vS,kO,goPanic,Sem.run]
 unfold jS;rw[hr];refine⟨Step.fb (Ext.refl wa),λwb hb=>h wb ⟨hb.os.trans hk.os,hb.tape.trans hk.tape,hb.output.trans hk.output,ad hk.size hb.size,λk hx=>(hb.block k (.inl hx)).trans (hk.block k hx)⟩⟩
def isIface (P:Program) (t:TypeId):Bool:=match P.underlying t with
 |some (.interface _)=>true
 |some _=>false
 |none=>true
theorem Tj {N:Value->Prop} (ht:isIface P t=false) (h:N (.iface t x)):aX P X w (jc t x) N:=by
 unfold isIface at ht;cases hu:P.underlying t with
 |none=>simp[hu] at ht
 |some d=>refine bB (v:=.iface t x) (λwa=>?_) h;cases d<;>simp_all [jc,run_underlying hu]
theorem alb {st:TypeId} {N:Value->Prop} (ht:isIface P t=false) (h:N (.tuple #[x,.bool true])):aX P X w (oc (.iface t x) st t true) N:=by
 unfold isIface at ht;cases hu:P.underlying t with
 |none=>simp[hu] at ht
 |some d=>refine bB (v:=.tuple #[x,.bool true]) (λwa=>?_) h;cases d<;>simp_all [oc,run_underlying hu]
variable {wa : World} {v : Value} {RP : List PanicEntry -> World -> Prop} {R : Ending -> World -> Prop}
section
variable {F0 X' : XS} {Q : Value -> World -> World -> Prop}
def Ft.GP (hT:Ft w0 F0 w X F) (h:FB P f args w X G Q QP) (hf:enters P f=true) (hG: ∀k,G k->F k)
  (k: ∀v wa w' X',Q v wa w'->w.heap.size<=wa.heap.size->(∀k,made wa w' k->X' k)->Ft w0 F0 w' X' (λk=>F k\/made wa w' k)->ee G X w X' w'->N v w' X')
  (kp: ∀ch wa w' X',QP ch wa w'->w.heap.size<=wa.heap.size->(∀k,made wa w' k->X' k)->Ft w0 F0 w' X' (λk=>F k\/made wa w' k)->ee G X w X' w'-> ∀wb,Kp X' w' wb->R (.panicked ch) wb):eC P R X w true f args N:=
 ap5 h hf hT.s.has (λq hq=>hT.bo q (hG q hq)) (λv wa w' X' hq hle gu _ hc=>k v wa w' X' hq hle gu (hT.ea hc hG λq hq=>hq.imp id λhm=>⟨gu q hm,ad hle hm.1⟩) hc)
  λch wa w' X' hq hle gu _ hc=>kp ch wa w' X' hq hle gu (hT.ea hc hG λq hq=>hq.imp id λhm=>⟨gu q hm,ad hle hm.1⟩) hc
theorem Ft.fr (h:Ft w0 F0 w X F) (hk:Kp X w wa):Fr F0 w0 wa:=
 ⟨hk.os.trans h.s.kp.os,hk.tape.trans h.s.kp.tape,hk.output.trans h.s.kp.output,ad h.s.kp.size hk.size,
  λk hl hn=>(hk.block k (h.s.sub k ⟨hl,hn⟩)).trans (h.s.kp.block k ⟨hl,hn⟩)⟩
def Ft.yi {Q:Value->World->Prop} {QP:List PanicEntry->World->Prop} (h:Ft w0 F0 w X F) (hq: ∀wa,Kp X w wa->Q v wa):aJ.fin (FC F0 w0 Q QP) X w v:=
 λwa hk=>.inl ⟨v,rfl,h.fr hk,hq wa hk⟩
def Ft.jd {ch:List PanicEntry} {Q:Value->World->Prop} {QP:List PanicEntry->World->Prop} (h:Ft w0 F0 w X F) (hk:Kp X w wa) (hq:QP ch wa):FC F0 w0 Q QP (.panicked ch) wa:=.inr ⟨ch,rfl,h.fr hk,hq⟩
def agY (h:aJ.fin R X w v):aJ.fin (GR R RP) X w v:=λwa hk=>h wa hk
def Ft.aew {Q:Value->World->Prop} (h:Ft w0 F0 w X F) (hq: ∀wa,Kp X w wa->Q v wa):aJ.fin (GR (vi F0 w0 Q) RP) X w v:=
 agY (h.fin hq)
def Ft.ret {Q:Value->World->Prop} (h:Ft w0 F0 w X F) (hk:Kp X w wa) (hq:Q v wa):vi F0 w0 Q (.returned v) wa:=⟨v,rfl,h.fr hk,hq⟩
def Ct.GP (hT:Ft w0 F0 w X F) (h:Ct P f args w X G Q) (hf:enters P f=true) (hG: ∀k,G k->F k)
  (k: ∀v wa w' X',Q v wa w'->w.heap.size<=wa.heap.size->(∀k,made wa w' k->X' k)->Ft w0 F0 w' X' (λk=>F k\/made wa w' k)->ee G X w X' w'->N v w' X'):eC P R X w true f args N:=
 hT.call h hf hG k
end
end Go.aJ
namespace Go.aJ
variable {P : Program}
def ap6 (ops:Array Oper):Bool:=match ops.toList with
 |[mk,df]=>match mk.op,mk.guard,mk.dst,df.op,df.guard,df.dst with
  | .makeFunc (.func _) ⟨[]⟩ _,none,some d',.defer ⟨.value (.tmp d),⟨[]⟩,_⟩,none,none=>d'==d
  |_,_,_,_,_,_=>false
 |_=>false
def DR:Code->Option (Code×Nat×Array Oper×Code)
 | .seq (.region id ops false) rest=>if ap6 ops then some (.skip,id,ops,rest)else match DR rest with
  |some (p,i,o,r)=>some (.seq (.region id ops false) p,i,o,r)
  |none=>none
 | .seq a b=>match DR b with
  |some (p,i,o,r)=>some (.seq a p,i,o,r)
  |none=>none
 |_=>none
def R9 (fn:Func):Option (Code×Nat×Array Oper×Code):=match fn.body with
 |some c=>DR c
 |none=>none
def ftL (P:Program) (pl:gz) (fn:Func):Option FT:=
 if fn.ntmps==pl.n then match R9 fn with
  |some (c1,_,zF,rest)=>match zF.toList with
   |[mk,df]=>match mk.op,mk.guard,mk.dst,df.op,df.guard,df.dst with
    | .makeFunc (.func _) ⟨[]⟩ Dh,none,some d',.defer ⟨.value (.tmp d),⟨[]⟩,_⟩,none,none=>match jP P pl c1,vY Dh.toList,jP P pl rest,E3 P pl fn.results.toList with
     |some t1,some cb,some t2,some (r,n)=>if d'==d&&decide (d<pl.n)&&(look pl.boxes d).isNone&&!pl.kf d&&R8 cb&&cb.all (λb=>(look pl.boxes b).isSome&&!yZ t2.mk b)then some ⟨.seq t1 (.seq (.B9 (cb.map .Ar)) t2),r,n⟩else none
     |_,_,_,_=>none
    |_,_,_,_,_,_=>none
   |_=>none
  |none=>none
 else none
def Zk (fn:Func):Option (FuncId×List Nat):=match R9 fn with
 |some (_,_,zF,_)=>match zF.toList with
  |[mk,_]=>match mk.op with
   | .makeFunc (.func g) _ Dh=>(vY Dh.toList).map λcb=>(g,cb)
   |_=>none
  |_=>none
 |none=>none
def ajF (P:Program) (pl:gz) (fn:Func) (args:Array Value):List (Option Value):=match R9 fn,Zk fn with
 |some (c1,_,_,rest),some (_,cb)=>match jP P pl c1,jP P pl rest with
  |some (.B9 t0),some t2=>if t0.all isSimple then cb.map λb=>if yZ t2.wr b then none else ajA (DP t0 (nq args) b)else []
  |_,_=>[]
 |_,_=>[]
def noP (R:Ending->World->Prop):Ending->World->Prop
 | .panicked _,_=>False
 |e,w=>R e w
def ajG (P:Program) (o:Option FT) (R1 R2:Ending->World->Prop) (args:Array Value) (w:World):Prop:=match o with
 |some ft=>match ft.code with
  | .seq t1 t2=>den P t1 (lO.Gs (λe w X=>den P t2 (Pk ft R2) e w X) (Pk ft R1)) (nq args) w (bN w)
  |_=>False
 |none=>False
variable {pl : gz}
theorem afe {next:Env->World->XS->Prop} {K:lO} {Q:Exit->Act->World->Prop} {id:Nat} {o1:Array Oper} {rest:Code}
  (hn: ∀env X w0 a w,fB pl ⟨[],[]⟩ .start env X w0 a w->next env w0 X->(Code.seq (Code.region id o1 false) rest).wp P Q a w)
  (hK: ∀ex a w,ex≠ .normal->QP pl ⟨[],[]⟩ K ex a w->Q ex a w): ∀(c c1:Code),DR c=some (c1,id,o1,rest)-> ∀(t1:T) (env:Env) (X:XS) (w0:World) (a:Act) (w:World),
   jP P pl c1=some t1->fB pl ⟨[],[]⟩ .start env X w0 a w->den P t1 (lO.Gs next K) env w0 X->c.wp P Q a w:=by
 intro c
 induction c with
 |seq x y ihx ihy=>
  intro c1 hs t1 env X w0 a w hc h hd;have key: ∀p,DR y=some (p,id,o1,rest)->c1= .seq x p->(Code.seq x y).wp P Q a w:=λp hp GG=>by
   subst GG;simp only[jP] at hc;cases hx:jP P pl x with
   |none=>simp[hx] at hc
   |some tx=>
    cases hy:jP P pl p with
    |none=>simp[hx,hy] at hc
    |some ty=>
     simp only[hx,hy,aj] at hc;have Ll:den P (.seq tx ty) (lO.Gs next K) env w0 X:=by
      subst hc;split at hd
      ·exact hd
      ·show den P tx (lO.Gs (λe w X=>den P .skip (lO.Gs next K) e w X) (lO.Gs next K)) env w0 X
       refine mV tx hd λex e w' X' _ _ hq=>?_;cases ex<;>exact hq
      ·exact hd
     refine wp_seq (wp_mono (Ni (pl:=pl) (ds:=⟨[],[]⟩) x tx _ env X w0 a w hx (λ_ _ _ hp=>by cases hp) h Ll) λex a' w' hq=>?_);cases ex with
     |normal=>
      obtain⟨e,X',eu,h1,h2⟩:=hq;exact ihy p hp ty e X' eu a' w' hy h1 h2
     |exit i=>exact hK _ _ _ sQ hq
     |goto i=>exact hK _ _ _ sQ hq
     |ret=>exact hK _ _ _ sQ hq
     |panic c=>exact hK _ _ _ sQ hq
     |outgrown=>exact hK _ _ _ sQ hq
  unfold DR at hs;split at hs
  ·rename_i id' ops atg heq;simp only[DN] at heq;obtain⟨rfl,rfl⟩:=heq;split at hs
   ·simp only[aj,cN] at hs;obtain⟨rfl,rfl,rfl,rfl⟩:=hs;simp only[jP,aj] at hc;subst hc;exact hn env X w0 a w h hd
   ·split at hs
    ·rename_i p i o r hp;simp only[aj,cN] at hs;obtain⟨rfl,rfl,rfl,rfl⟩:=hs;exact key p hp rfl
    ·cases hs
  ·rename_i x' y' _ heq;simp only[DN] at heq;obtain⟨rfl,rfl⟩:=heq;split at hs
   ·rename_i p i o r hp;simp only[aj,cN] at hs;obtain⟨rfl,rfl,rfl,rfl⟩:=hs;exact key p hp rfl
   ·cases hs
  ·cases hs
 |_=>grind [DR]
variable {X : XS} {w : World}
theorem VC {K:Env->World->XS->Prop} {jd:List PanicEntry->Env->World->XS->Prop} {env:Env} : ∀(l:List Nat),ia P jd K (l.map TI.Ar) env w X->(∀b∈l,gx (env b)=true)/\K env w X
 |[],h=>⟨λ_ h=>(by cases h),h⟩
 |b::l,h=>by
  have h':=dJ.1 h;have ih:=VC l h'.2;exact⟨λc hc=>by
   rcases List.mem_cons.1 hc with rfl|hc
   ·exact h'.1
   ·exact ih.1 c hc,ih.2⟩
variable {cb : List Nat} {R : Ending -> World -> Prop} {fn : Func}
def EA {g:FuncId} :RG P pl fn R g cb [] λ_ _=>False:=
 λks FG ch w' _ _ _ _ _ _ h=>(h w' (Outside.refl _ _)).elim
theorem Z7 {f:FuncId} {args:Array Value} {RP:List PanicEntry->World->Prop} {g0:FuncId} {cv:List (Option Value)} {V:Prop} (hf:P.funcs[f]? =some fn)
  (hs:(decide (args.size<=pl.n)&&pl.boxes.all λp=>decide (args.size<=p.1))=true) (DZ:Zk fn=some (g0,cb)) (hcv:cv=[]\/cv=ajF P pl fn args) (qs:Idle P g0) (vj:RG P pl fn R g0 cb cv RP) (hv:V=ajG P (ftL P pl fn) (noP R) (GR R RP) args w) (h:V):Calls P f args w R:=by
 subst hv;unfold ajG at h;simp only[aC,decide_eq_true_eq] at hs;split at h;case h_2=>exact h.elim
 rename_i ft hc;unfold ftL at hc;split at hc;case isFalse=>cases hc
 rename_i hn;have mE:fn.ntmps=pl.n:=by simpa using hn
 split at hc;case h_2=>cases hc
 rename_i _ c1 id1 zF rest E6;split at hc;case h_2=>cases hc
 rename_i _ mk df afd;split at hc;case h_2=>cases hc
 rename_i _ _ _ _ _ _ g Dh d' d Z5 aow hmg hmd ajC Z6 JV;split at hc;case h_2=>cases hc
 rename_i _ _ _ _ t1 tB t2 r nd GG jG qt Pq;split at hc;case isFalse=>cases hc
 rename_i th;simp only[aC,beq_iff_eq,cW,decide_eq_true_eq,Option.isNone_iff_eq_none,lA] at th;obtain⟨⟨⟨⟨⟨Ll,jQ⟩,hdb⟩,ar8⟩,py⟩,Ax⟩:=th;subst Ll;injection hc with hc
 subst hc;have ap7:=DZ;unfold Zk at DZ;rw[E6] at DZ;dsimp only at DZ;rw[afd] at DZ;dsimp only at DZ;rw[aow] at DZ;dsimp only at DZ;rw[jG] at DZ;simp only[ba,aj,cN] at DZ;obtain⟨rfl,rfl⟩:=DZ;obtain⟨ajE,ap8⟩:=qs;have ajD:=aou (w:=w) mE hs.1 gQ;have aeg: ∃c,fn.body=some c/\DR c=some (c1,id1,zF,rest):=by
  unfold R9 at E6;split at E6
  ·rename_i c hb;exact⟨c,hb,E6⟩
  ·cases E6
 obtain⟨c,hb,ar9⟩:=aeg;refine calls_of_wp_defers hf hb ?_
 let K:=Pk ⟨.seq t1 (.seq (.B9 (tB.map .Ar)) t2),r,nd⟩ (GR R RP)
 let S:Env->Prop:=λe=> ∀(i:Nat) b v,tB[i]? =some b->cv[i]? =some (some v)-> ¬b∈t2.wr/\e b= .agg #[v]
 have h0:den P t1 (lO.Gs (λe w X=>S e/\den P (.seq (.B9 (tB.map .Ar)) t2) K e w X) (Pk ⟨.seq t1 (.seq (.B9 (tB.map .Ar)) t2),r,nd⟩ (noP R))) (nq args) w (bN w):=by
  have hn: ∀(N:Env->World->XS->Prop),(∀e,S e)->(λe w X=>S e/\N e w X)=N:=λN hS=>by
   funext e w X;exact propext ⟨λh=>h.2,λh=>⟨hS e,h⟩⟩
  have SS:cv=[]\/ ∃t0,t1= .B9 t0/\t0.all isSimple=true/\cv=tB.map λb=>if yZ t2.wr b then none else ajA (DP t0 (nq args) b):=by
   rcases hcv with h|h
   ·exact .inl h
   ·unfold ajF at h;rw[E6,ap7] at h;dsimp only at h;rw[GG,qt] at h;split at h
    ·rename_i t0 t2' e1 e2;cases e1;cases e2;split at h
     ·rename_i ha;exact .inr ⟨t0,rfl,ha,h⟩
     ·exact .inl h
    ·exact .inl h
  rcases SS with hS|⟨t0,rfl,ha,asa⟩
  ·rw[hn _ λe i b v _ h=>by rw[hS] at h;simp at h];exact h
  ·have h2:=Ab t0 (nq args) ha (show ia P _ _ t0 (nq args) w (bN w)from h);refine IT t0 h2 (λe w' X' _ _ ⟨he,hq⟩=>⟨λi b v g1 g2=>?_,hq⟩) λ_ _ _ _ _ _ hq=>hq;subst he;rw[asa,cK,g1] at g2;simp only[ba,aj] at g2;split at g2
   ·cases g2
   ·rename_i hnw;refine⟨λhm=>hnw (AV.2 hm),?_⟩;generalize DP t0 (nq args) b=u at g2;unfold ajA at g2;split at g2
    ·cases g2;rfl
    ·cases g2
 refine afe (P:=P) (pl:=pl) ?_ ?_ c c1 ar9 t1 (nq args) (bN w) w _ w GG ajD h0;case refine_2=>
  intro ex a w hex hq;cases ex with
  |normal=>exact absurd rfl hex
  |ret=>
   obtain⟨e,X',eu,h5,h6⟩:=hq;have h6':jg (nd.all λb=>gx (e b)) (∀wa,Kp X' eu wa->R (.returned (Xu r e)) wa):=h6;obtain⟨h7,h8⟩:=dJ.1 h6'
   show Leaves P fn a.tmps R a.defers .returning w
   rw[h5.defers];exact⟨_,Nj h5 Pq (List.all_eq_true.1 h7),h8 w h5.ext⟩
  |panic ch=>obtain⟨_,e,X',eu,h6,h7,_⟩:=hq;exact(h7 w h6).elim
  |exit i=>obtain⟨e,X',eu,h5,h6⟩:=hq;exact h6.elim
  |goto i=>obtain⟨e,X',eu,h5,h6⟩:=hq;exact h6.elim
  |outgrown=>exact hq.elim
 intro xL X1 MH a1 w1 ay ⟨mh,hd0⟩;have asb:ia P (λch=>lO.Gs (λe w X=>den P t2 K e w X) K (.panic ch)) (λe w X=>den P t2 K e w X) (tB.map .Ar) xL MH X1:=hd0;obtain⟨asc,hd1⟩:=VC _ asb;have pF: ∀b∈tB,(∃n,look pl.boxes b=some n)/\ ∃k,a1.tmps[b]? =some (eB k 0):=λb dW=>by
  obtain⟨n,hn⟩:=Option.isSome_iff_exists.1 (Ax b dW).1;obtain⟨cells,pz⟩:=wG.1 (asc b dW);obtain⟨k,ty,g1,_⟩:=ay.box b n hn cells pz;exact⟨⟨n,hn⟩,k,g1⟩
 obtain⟨ks,xq,Kj⟩:=ac3 tB λb dW=>(pF b dW).2;have ap9: ∀p,p∈tB.zip (ks.map λk=>eB k 0)->a1.tmps[p.1]? =some p.2/\((∃n k,look pl.boxes p.1=some n/\p.2=eB k 0)\/pl.kf p.1=true):=λp hp=>by
  obtain⟨i,g1,g2⟩:=TC hp;obtain⟨k,g3,g4⟩:=Kj i p.1 g1;rw[cK,g3] at g2;simp only[ba,aj] at g2;obtain⟨⟨n,hn⟩,_⟩:=pF p.1 (ax g1);exact⟨by rw[<-g2];exact g4,.inl ⟨n,k,hn,g2.symm⟩⟩
 have asd:ks.Nodup:=by
  refine agX λi j k hi hj=>?_;have nN:i<tB.length:=by rw[<-xq];exact(List.getElem?_eq_some_iff.1 hi).1
  have Ij:j<tB.length:=by rw[<-xq];exact(List.getElem?_eq_some_iff.1 hj).1
  have gi:tB[i]? =some tB[i]:=aS nN;have gj:tB[j]? =some tB[j]:=aS Ij;obtain⟨k1,e1,f1⟩:=Kj i _ gi;obtain⟨k2,e2,f2⟩:=Kj j _ gj;rw[hi] at e1;cases e1;rw[hj] at e2;cases e2;obtain⟨⟨m1,qy⟩,_⟩:=pF tB[i] (B4 nN);obtain⟨⟨m2,rC⟩,_⟩:=pF tB[j] (B4 Ij);have:=ay.inj tB[i] tB[j] m1 m2 qy rC (ay.conv _ _ qy _ f1) (ay.conv _ _ rC _ f2) k f1 f2;exact(List.getElem_inj (O9 py)).1 this
 refine wp_seq (wp_region_list ?_);rw[afd];have A2:cE mk (yielded zF a1.tmps)=true:=by simp[cE,hmg]
 have akK:Dh.map a1.eval=(ks.map λk=>eB k 0).toArray:=by
  apply xC;rw[nH,(O8 jG),List.map_map];refine uO λi=>?_;rw[cK,cK];cases hci:tB[i]? with
  |none=>
   have:ks[i]? =none:=by rw[List.getElem?_eq_none_iff] at hci⊢;omega
   rw[this];rfl
  |some b=>
   obtain⟨k,g1,g2⟩:=Kj i b hci;rw[g1];simp[Act.eval,nA,g2]
 have akL:(execOp a1.eval mk).run P w1= .ok (.value (.func (.func g) #[] (ks.map λk=>eB k 0).toArray)) w1:=by
  rw[<-akK];simp[execOp,aow,cC]
 have aqa: ∀b∈tB,b≠d':=λb dW e=>by
  obtain⟨⟨n,hn⟩,_⟩:=pF b dW;rw[e,hdb] at hn;cases hn
 clear akK;generalize hcg:(ks.map λk=>eB k 0).toArray=gG at akL;unfold wpList;rw[if_pos A2];left;unfold Oper.wp;rw[akL,Oper.upon_value,hmd];have bA:=ay.aside (v:=.func (.func g) #[] gG) jQ hdb ar8;have Um:(a1.put (some d') (.func (.func g) #[] gG)).eval (.tmp d')= .func (.func g) #[] gG:=by
  have:d'<a1.tmps.size:=by rw[ay.size];exact jQ
  simp[Act.eval,Act.put,nA,this]
 have agZ: ∀p,p∈tB.zip (ks.map λk=>eB k 0)->(a1.put (some d') (.func (.func g) #[] gG)).tmps[p.1]? =some p.2/\((∃n k,look pl.boxes p.1=some n/\p.2=eB k 0)\/pl.kf p.1=true):=λp hp=>by
  obtain⟨g1,g2⟩:=ap9 p hp;obtain⟨i,g3,_⟩:=TC hp;exact⟨by rw[gh _ _ _ _ (aqa p.1 (ax g3))];exact g1,g2⟩
 generalize a1.put (some d') (.func (.func g) #[] gG)=a2 at bA Um agZ;have oB:(execOp a2.eval df).run P w1= .ok (.defer { target:=.fn (.func g) gG,args:= #[] }) w1:=by
  simp[execOp,ajC,resolve,Um,lC]
 unfold wpList;have hw:cE df (yielded zF a2.tmps)=true:=by simp[cE,Z6]
 rw[if_pos hw];left;unfold Oper.wp;rw[oB,Cr,JV]
 show rest.wp P (bodyPostD P fn R) { a2 with defers:= { target:=.fn (.func g) gG,args:= #[] } ::a2.defers } w1
 rw[bA.defers];have dm:fB pl ⟨[{ target:=.fn (.func g) gG,args:= #[] }],tB.zip (ks.map λk=>eB k 0)⟩ .start xL X1 MH { a2 with defers:=[{ target:=.fn (.func g) gG,args:= #[] }] } w1:=
  ⟨bA.size,rfl,agZ,bA.ext,bA.xK,bA.qP,bA.sig,bA.box,bA.inj,bA.conv,bA.live,bA.ptr⟩
 have sG:=mV t2 (K':=λex e w' X'=>K ex e w' X'/\ ∀s,¬s∈t2.wr->e s=xL s) hd1 λex e w' X' _ he hk=>⟨hk,he⟩;refine wp_mono (Ni (pl:=pl) (ds:=⟨[{ target:=.fn (.func g) gG,args:= #[] }],tB.zip (ks.map λk=>eB k 0)⟩) rest t2 _ xL X1 MH _ w1 qt (λb dW p hp e=>?_) dm sG) λex a' w' hq=>?_
 ·obtain⟨i,g1,_⟩:=TC hp;have h1:=(Ax p.1 (ax g1)).2;rw[e,AV.2 dW] at h1;cases h1
 have ag0: ∀w',(invoke (.fn (.func g) gG) #[]).run P w'= .ok (.enter g gG) w':=λw'=>by
  simp only[invoke];have:=pe ajE (#[]++gG) w';simpa using this
 have done:(∃env X w0,fB pl ⟨[{ target:=.fn (.func g) gG,args:= #[] }],tB.zip (ks.map λk=>eB k 0)⟩ .start env X w0 a' w'/\K .ret env w0 X/\ ∀s,¬s∈t2.wr->env s=xL s)->Leaves P fn a'.tmps R a'.defers .returning w':=by
  rintro⟨e,X',eu,h5,h6,_⟩;have h6':jg (nd.all λb=>gx (e b)) (∀wa,Kp X' eu wa->R (.returned (Xu r e)) wa):=h6;obtain⟨h7,h8⟩:=dJ.1 h6';rw[h5.defers];refine leaves_cons sQ (f:=g) (args:=gG) (ag0 w') ?_;refine(ap8 gG w').mono ?_;rintro _ _ mD ⟨⟨x,rfl⟩,rfl,rfl⟩;exact⟨_,Nj h5 Pq (List.all_eq_true.1 h7),h8 mD h5.ext⟩
 cases ex with
 |normal=>exact done hq
 |ret=>exact done hq
 |panic ch=>
  obtain⟨h5,e,X',eu,h6,⟨h7,he⟩,Bj⟩:=hq
  show Leaves P fn a'.tmps R a'.defers (.panicking ch) w'
  rw[h5];refine leaves_cons sQ (f:=g) (args:=gG) (ag0 w') ?_;have nC: ∀(i:Nat) b k,tB[i]? =some b->ks[i]? =some k->a'.tmps[b]? =some (eB k 0)/\ ∃n cells ty,look pl.boxes b=some n/\e b= .agg cells/\w'.heap[k]? =some (.cells cells ty (0,0))/\cells.size=n/\ ¬X' k:=λi b k g1 g2=>by
   obtain⟨q1,q2⟩:=Bj.2 (b,eB k 0) (ax (i:=i) (by rw[ua];exact⟨g1,by rw[cK,g2];rfl⟩));refine⟨q1,?_⟩;rcases q2 with q2|⟨n,k',cells,ty,q3,q4⟩
   ·obtain⟨⟨n,hn⟩,_⟩:=pF b (ax g1);rw[(tI q2).2.1] at hn;cases hn
   ·have:k=k':=by simpa [eB] using q3
    subst this;exact⟨n,cells,ty,q4⟩
  have ZQ: ∀(i:Nat) b,tB[i]? =some b->gx (e b)=true:=λi b g1=>by
   obtain⟨k,g2,_⟩:=Kj i b g1;obtain⟨_,_,cells,_,_,g4,_⟩:=nC i b k g1 g2;rw[g4];rfl
  have hkX: ∀k,k∈ks-> ¬X' k:=λk hm=>by
   obtain⟨i,g1⟩:=List.getElem?_of_mem hm;have nN:i<tB.length:=by rw[<-xq];exact(List.getElem?_eq_some_iff.1 g1).1
   obtain⟨_,_,_,_,_,_,_,_,g9⟩:=nC i _ k (aS nN) g1;exact g9
  rw[<-hcg];refine(vj ks (tB.map λb=>(e b).cells) ch w' xq sQ asd (λi k cells g1 g2=>?_) (λi v cells g1 g2=>?_) (λi b n cells g1 g2 g3=>?_) λwa ho=>h7 wa (ho.kp h6 Bj.1 hkX)).mono ?_
  ·rw[cK] at g2;obtain⟨b,g3,rfl⟩:=Option.map_eq_some_iff.1 g2;obtain⟨_,_,cells,ty,_,g4,g5,_⟩:=nC i b k g3 g1;rw[g4];exact⟨ty,g5⟩
  ·rw[cK] at g2;obtain⟨b,g3,rfl⟩:=Option.map_eq_some_iff.1 g2;obtain⟨hnw,hv⟩:=mh i b v g3 g1;rw[he b hnw,hv];rfl
  ·rw[cK,g1] at g3;simp only[ba,aj] at g3;obtain⟨k,g4,_⟩:=Kj i b g1;obtain⟨_,n',zL,ty,q1,q2,q3,q4,_⟩:=nC i b k g1 g4;rw[g2] at q1;cases q1;rw[<-g3,q2];exact q4
  ·rintro e' u mD ⟨⟨x,rfl⟩,I0,v,hR,aqb⟩
   show Leaves P fn a'.tmps R [] (settle u) mD
   rw[I0];exact⟨v,aqb a'.tmps λi b k g1 g2=>(nC i b k g1 g2).1,hR⟩
 |exit i=>obtain⟨e,X',eu,h5,h6,_⟩:=hq;exact h6.elim
 |goto i=>obtain⟨e,X',eu,h5,h6,_⟩:=hq;exact h6.elim
 |outgrown=>exact hq.elim
theorem Yk (hR: ∀ch w,¬R (.panicked ch) w):noP R=R:=by
 funext e w
 cases e with
 |panicked ch=>exact propext ⟨False.elim,hR ch w⟩
 |returned v=>rfl
 |outgrown=>rfl
theorem Pz (hR: ∀ch w,¬R (.panicked ch) w):GR R (λ_ _=>False)=R:=by
 funext e w
 cases e with
 |panicked ch=>exact propext ⟨False.elim,hR ch w⟩
 |returned v=>rfl
 |outgrown=>rfl
theorem H7 {F:XS} {w0:World} {Q:Value->World->Prop} (ch:List PanicEntry) (w:World): ¬vi F w0 Q (.panicked ch) w:=λ⟨_,he,_⟩=>by cases he
def ac4 {v:Value} (h:aJ.fin R X w v):aJ.fin (noP R) X w v:=λwa hk=>h wa hk
end Go.aJ
namespace Go.aJ
variable {P : Program} {R : Ending -> World -> Prop} {X : XS} {w : World} {m : Bool} {t : TypeId}
variable {N : Value -> World -> XS -> Prop}
theorem ajH {z:Value} (hX: ∀k,X k->k<w.heap.size) (hz:(P.info? t).bind (·.zero)=some z) (ho:one z=true)
  (n: ∀b w' X',w.heap.size<=b->ai X w X' w'->aI w' X' b [z] t->N (ptr b 0) w' X'):eV P R X w m (ga t true (.tuple #[])) N:=by
 intro wa hk;unfold jS;have Yt: ∀w,(zeroValue t).run P w= .ok z w:=by
  intro w;cases hi:P.info? t with
  |none=>grind
  |some inf=>
   have uX:inf.zero=some z:=by simpa [hi] using hz
   simp[zeroValue,typeInfo,hi,uX]
 have hc:z.cells= #[z]:=tg ho;have hr:(ga t true (.tuple #[])).run P wa= .ok (ptr wa.heap.size 0) (wa.alloc (.cells [z].toArray t)):=by simp[ga,Yt,newVar,newRow,hc]
 simp only[vS,bp,hr,aO,bO];have hx:Ext wa (wa.alloc (.cells [z].toArray t)):=Ext.alloc _ _;exact⟨Step.fb hx,n _ _ _ hk.size (ai.fb hX hk hx) ⟨.inr ⟨au _,by simp⟩,by simpa using heap_alloc_new wa _⟩⟩
structure pX where
 p:World->XS->XS->Prop
 mv: ∀{w w':World} {K K' A A':XS},p w K A->Mv K w K' w'->Mv A w A' w'->p w' K' A'
abbrev Gc:=Nat->Nat
def bI (own:Gc) (c:Nat):XS:=λk=>own k=c
def gC (own:Gc):XS:=λk=>own k≠0/\own k≠4
def BT (own aG:Gc) (n0:Nat):Prop:= ∀k,k<n0->(own k=0->aG k=0)/\(own k=4->aG k=4)
theorem BT.refl (own:Gc) (n0:Nat):BT own own n0:=λ_ _=>⟨id,id⟩
structure Hs (F:Nat->pX) (w:World) (own:Gc):Prop where
 gJ: ∀c,c≠0->c≠4->(F c).p w (bI own 4) (bI own c)
 lt: ∀k,own k≠0->k<w.heap.size
structure St (w0:World) (bK:Gc) (w:World) (X:XS) (own:Gc) (F:Nat->pX):Prop where
 t:Ft w0 (gC bK) w X (gC own)
 h:Hs F w own
 x: ∀k,own k≠0->X k
 e:BT bK own w0.heap.size
def NQ {σ:Type} (dV:σ->Nat->pX) (own:Gc) (wa w':World) (P:Gc->σ->Prop):Prop:= ∃aG n',BT own aG wa.heap.size/\Hs (dV n') w' aG/\P aG n'
def RA:pX:=⟨λ_ _ _=>True,λ_ _ _=>trivial⟩
def puR (q:Prop):pX:=⟨λ_ _ _=>q,λh _ _=>h⟩
def YZ (b:Nat) (cs:List Value) (t:TypeId):pX:=⟨λw _ A=>aI w A b cs t,λh _ m=>h.mv m⟩
def Z8 (e k:Nat) (v:Value) (rows:List (List Value)):pX:=⟨λw _ A=>Own w A 0 e k v rows,λh _ m=>h.mv m⟩
def DD (q:Prop) (r:pX):pX:=⟨λw K A=>q->r.p w K A,λh m m' hq=>r.mv (h hq) m m'⟩
variable {T b bytes e f kk o o' sz ty : Nat} {w : World} {X : XS} {P : Program} {R : Ending -> World -> Prop} {sv v v' : Value} {cs : List Value} {rows NN cT : List (List Value)} {args : Array Value}
section
theorem tr {N:Value->Prop} {S fo:Nat} (hf:fieldInfo P S f=some (fo,sz)) (hz:(sz !=0)=true) (k:N (ptr b (o+fo))):aX P X w (iN S f fo sz (ptr b o)) N:=by
 unfold iN;exact HB hf (by simpa using hz) k
variable {w' wa w0 : World} {X' G N A' : XS} {own aG bK : Gc} {F F' : Nat -> pX} {σ : Type} {dV : σ -> Nat -> pX} {n : σ} {i j : Nat}
def Hs.mv (h:Hs F w own) (hb: ∀k,own k≠0->w'.heap[k]? =w.heap[k]?) (hz:w.heap.size<=w'.heap.size):Hs F w' own:=
 ⟨λc h0 h4=>(F c).mv (h.gJ c h0 h4) (λk (e:own k=4) _=>⟨e,hb k zQ⟩) λk (e:own k=c) _=>⟨e,hb k zQ⟩,λk hk=>aw (h.lt k hk) hz⟩
theorem Hs.kp (h:Hs F w own) (hX: ∀k,own k≠0->X k) (hk:Kp X w wa):Hs F wa own:=h.mv (λk ah=>hk.block k (hX k ah)) hk.size
def Hs.to (h:Hs F w own) (hf: ∀c,c≠0->c≠4-> ∀w K A,(F c).p w K A->(F' c).p w K A):Hs F' w own:=⟨λc h0 h4=>hf c h0 h4 _ _ _ (h.gJ c h0 h4),h.lt⟩
theorem Hs.one (h:Hs F w own) (j:Nat) (hz:w.heap.size<=w'.heap.size) (hb: ∀k,own k≠0->own k≠j->w'.heap[k]? =w.heap[k]?) (hR:(F' j).p w' (bI own 4) (bI own j)) (hn: ∀c,c≠j-> ∀w K A,(F c).p w K A->(F' c).p w K A) (h4:j≠4:=by decide):Hs F' w' own:=by
 refine⟨λc c0 c4=>?_,λk hk=>aw (h.lt k hk) hz⟩;by_cases e:c=j
 ·subst e;exact hR
 ·exact hn c e _ _ _ ((F c).mv (h.gJ c c0 c4) (λk (e4:own k=4) _=>⟨e4,hb k zQ zQ⟩) λk (e':own k=c) _=>⟨e',hb k zQ zQ⟩)
def St.init (h:Hs F w own) (hX: ∀k,own k≠0->X k) (hk:Kp X w wa):St wa own wa (bN wa) own F:=
 have h':=h.kp hX hk
 ⟨Ft.init λk ah=>h'.lt k ah.1,h',λk ah=>h'.lt k ah,BT.refl _ _⟩
theorem St.has (s:St w0 bK w X own F): ∀k,X k->k<w.heap.size:=s.t.s.has
def St.rf (s:St w0 bK w X own F):ai X w X w:=⟨Kp.refl _ _,λ_ h=>h,s.has⟩
def St.since (s:St w0 bK w X own F) (hs:ai X w X' w'):St w0 bK w' X' own F:=
 ⟨s.t.since hs,s.h.mv (λk hk=>hs.kp.block k (s.x k hk)) hs.kp.size,λk hk=>hs.sub k (s.x k hk),s.e⟩
def St.to (s:St w0 bK w X own F) (hf: ∀c,c≠0->c≠4-> ∀w K A,(F c).p w K A->(F' c).p w K A):St w0 bK w X own F':=⟨s.t,s.h.to hf,s.x,s.e⟩
theorem St.get (s:St w0 bK w X own F) (c:Nat) (h0:c≠0:=by decide) (h4:c≠4:=by decide):(F c).p w (bI own 4) (bI own c):=s.h.gJ c h0 h4
theorem St.sub (s:St w0 bK w X own F) (c:Nat) (h0:c≠0:=by decide): ∀k,bI own c k->X k:=λk (e:own k=c)=>s.x k zQ
theorem St.Ay (s:St w0 bK w X own F) (c:Nat) (h0:c≠0:=by decide) (h4:c≠4:=by decide):(F c).p w X X:=(F c).mv (s.h.gJ c h0 h4) (Mv.sub (s.sub 4)) (Mv.sub (s.sub c h0))
def St.fx (s:St w0 bK w X own F):(∀k,gC own k->X k/\k<w.heap.size):=λk hk=>⟨s.x k hk.1,s.h.lt k hk.1⟩
theorem St.fxc (s:St w0 bK w X own F) (c:Nat) (h0:c≠0:=by decide): ∀k,bI own c k->X k/\k<w.heap.size:=λk (e:own k=c)=>⟨s.x k zQ,s.h.lt k zQ⟩
theorem St.nw (s:St w0 bK w X own F) {k:Nat} (hk:w.heap.size<=k):own k=0/\w0.heap.size<=k:=
 ⟨Classical.byContradiction λe=>by have:=s.h.lt k e;omega,ad s.t.s.kp.size hk⟩
theorem St.jT (s:St w0 bK w X own F) (c:ee G X w X' w') (S:Nat->Prop) (hG: ∀k,G k->S (own k)) (h0: ¬S 0) (h4: ¬S 4) (hN: ∀k,N k->X' k/\own k=0/\w0.heap.size<=k)
  (hj:j≠0) (hS: ∀aG,(∀k,own k≠0->aG k=own k)->(∀k,N k->aG k=j)->Mv (bI own 4) w (bI aG 4) w'-> ∀c,S c->(F' c).p w' (bI aG 4) (bI aG c))
  (hn: ∀c,¬S c-> ∀K A,Mv (bI own 4) w K w'->(F c).p w' K A->(F' c).p w' K A): ∃aG,St w0 bK w' X' aG F'/\Mv (bI own 4) w (bI aG 4) w'/\(∀k,¬N k->aG k=own k)/\ ∀k,N k->aG k=j:=by
 classical
 obtain⟨q,hq⟩: ∃q:Gc,q=λk=>if N k then j else own k:=⟨_,rfl⟩
 have e1: ∀k,N k->q k=j:=λk hk=>by rw[hq];exact if_pos hk
 have e2: ∀k,¬N k->q k=own k:=λk hk=>by rw[hq];exact if_neg hk
 have e3: ∀k,own k≠0->q k=own k:=λk hk=>e2 k λhn=>hk (hN k hn).2.1;have hx: ∀k,q k≠0->X' k:=λk hk=>by
  by_cases e:N k
  ·exact(hN k e).1
  ·rw[e2 k e] at hk;exact c.sub k (s.x k hk)
 have mv: ∀d,d≠0-> ¬S d->Mv (bI own d) w (bI q d) w':=λd hd hS k (hk:own k=d) _=>⟨(e3 k zQ).trans hk,c.block k (s.x k zQ) λhg=>hS (hk▸hG k hg)⟩;have m4:=mv 4 dQ h4;refine⟨q,⟨(s.t.ea (F':=gC own) c (λk hk=>⟨λe=>h0 (e▸hG k hk),λe=>h4 (e▸hG k hk)⟩) λ_ h=>.inl h).more λk hk=>?_,⟨λd d0 d4=>?_,λk hk=>?_⟩,hx,λk hk=>?_⟩,m4,e2,e1⟩
 ·by_cases e:N k
  ·exact .inr ⟨(hN k e).1,(hN k e).2.2⟩
  ·exact .inl ⟨by rw[<-e2 k e];exact hk.1,by rw[<-e2 k e];exact hk.2⟩
 ·by_cases hd:S d
  ·exact hS q e3 e1 m4 d hd
  ·exact hn d hd _ _ m4 ((F d).mv (s.h.gJ d d0 d4) m4 (mv d d0 hd))
 ·exact c.has k (hx k hk)
 ·rw[e2 k λhn=>by have:=(hN k hn).2.2;omega];exact s.e k hk
def St.vI (s:St w0 bK w X own F) (hN: ∀k,N k->X k/\own k=0/\w0.heap.size<=k): ∃aG,St w0 bK w X aG F/\Mv (bI own 4) w (bI aG 4) w/\(∀k,¬N k->aG k=own k)/\ ∀k,N k->aG k=4:=
 s.jT (ee.nQ s.rf nX) (λ_=>False) (λ_ h=>h) id id hN dQ (λ_ _ _ _ _ h=>h.elim) λ_ _ _ _ _ h=>h
theorem St.loc (s:St w0 bK w X own F) (c:ee G X w X' w') (hG: ∀k,G k->own k=0/\w0.heap.size<=k):St w0 bK w' X' own F:=by
 have h0: ∀k,own k≠0->w'.heap[k]? =w.heap[k]? :=λk hk=>c.block k (s.x k hk) λhg=>hk (hG k hg).1;exact⟨⟨s.t.s.ea c λk h h'=>by have:=(hG k h').2;have:=h.1;omega,λk hk=>c.sub k (s.t.bo k hk),s.t.v⟩,s.h.mv h0 c.size,λk hk=>c.sub k (s.x k hk),s.e⟩
theorem St.DY (s:St w0 bK w X own F) (j:Nat) (c:ee G X w X' w') (hG: ∀k,G k->own k=j) (A':XS) (hA: ∀k,A' k->own k=j\/(X' k/\w.heap.size<=k)) (hR: ∀K,Mv (bI own 4) w K w'->(F' j).p w' K A')
  (hn: ∀c,c≠j-> ∀w' K A,(F c).p w' K A->(F' c).p w' K A) (h0:j≠0:=by omega) (h4:j≠4:=by omega): ∃aG,St w0 bK w' X' aG F'/\Mv (bI own 4) w (bI aG 4) w':=by
 obtain⟨aG,s',m,_⟩:=s.jT (F':=F') (j:=j) (N:=λk=>A' k/\own k≠j) c (· =j) hG h0.symm h4.symm (λk ⟨hk,hn⟩=>(hA k hk).elim (λe=>absurd e hn) λe=>⟨e.1,s.nw e.2⟩) h0
  (λaG e1 e2 m d hd=>by
   subst hd;exact(F' d).mv (hR _ m) (Mv.sub λ_ h=>h) (Mv.sub λk hk=>by
    by_cases e:own k=d
    ·exact(e1 k zQ).trans e
    ·exact e2 k ⟨hk,e⟩)) λc hc K A _=>hn c hc _ K A
 exact⟨aG,s',m⟩
theorem St.st {t:Nat} {N:Value->World->XS->Prop} (s:St w0 bK w X own F) (i:Nat) (hr:aI w (bI own i) b cs ty) (F':Nat->pX) (MG:o'=o) (ht:(P.info? t).map (·.size)=some 1) (hl:o<cs.length) (h1:one v=true)
  (hR: ∀w' K A,aI w' A b (dr cs o [v]) ty->(F' i).p w' K A) (hn: ∀c,c≠i-> ∀w' K A,(F c).p w' K A->(F' c).p w' K A)
  (k: ∀w' X' aG,St w0 bK w' X' aG F'->Mv (bI own 4) w (bI aG 4) w'->N undef w' X') (h0:i≠0:=by omega) (h4:i≠4:=by omega):eU P R X w true (st1 t 1 (ptr b o') v) N:=
 pW (o:=o) (hr.mono (s.sub i h0)) MG ht hl h1 s.has λw' X' c jU=>by
  obtain⟨aG,s',m⟩:=s.DY (F':=F') i c (λk e=>by rw[show k=b from e];exact hr.1) (· =b) (λk e=>.inl (by rw[show k=b from e];exact hr.1)) (λK _=>hR w' K _ ⟨rfl,jU.2⟩) hn h0 h4;exact k w' X' aG s' m
theorem St.stN {t:Nat} {N:Value->World->XS->Prop} (s:St w0 bK w X own F) (i:Nat) (hr:aI w (bI own i) b cs ty) (F':Nat->pX) (MG:o'=o) (ht:(P.info? t).map (·.size)=some sz) (hl:o+sz<=cs.length) (hv:v.cells.size=sz) (h1:v.cells.toList.all one=true)
  (hR: ∀w' K A,aI w' A b (dr cs o v.cells.toList) ty->(F' i).p w' K A) (hn: ∀c,c≠i-> ∀w' K A,(F c).p w' K A->(F' c).p w' K A)
  (k: ∀w' X' aG,St w0 bK w' X' aG F'->Mv (bI own 4) w (bI aG 4) w'->N undef w' X') (h0:i≠0:=by omega) (h4:i≠4:=by omega):eU P R X w true (st1 t sz (ptr b o') v) N:=
 GD (o:=o) (hr.mono (s.sub i h0)) MG ht hl hv h1 s.has λw' X' c jU=>by
  obtain⟨aG,s',m⟩:=s.DY (F':=F') i c (λk e=>by rw[show k=b from e];exact hr.1) (· =b) (λk e=>.inl (by rw[show k=b from e];exact hr.1)) (λK _=>hR w' K _ ⟨rfl,jU.2⟩) hn h0 h4;exact k w' X' aG s' m
theorem St.Yf (s:St w0 bK w X own F) (S:Nat->Prop) (h0: ¬S 0) (hR: ∀c,S c-> ∀w K,(F' c).p w K λ_=>False) (hn: ∀c,¬S c-> ∀K A,(∀k,S (own k)->K k)->(F c).p w K A->(F' c).p w K A):
  ∃aG,St w0 bK w X aG F'/\Mv (bI own 4) w (bI aG 4) w/\(∀k,S (own k)->aG k=4)/\ ∀k,¬S (own k)->aG k=own k:=by
 classical
 obtain⟨q,hq⟩: ∃q:Gc,q=λk=>if S (own k)then 4 else own k:=⟨_,rfl⟩
 have e1: ∀k,S (own k)->q k=4:=λk hk=>by rw[hq];exact if_pos hk
 have e2: ∀k,¬S (own k)->q k=own k:=λk hk=>by rw[hq];exact if_neg hk
 have en: ∀k,q k≠0->own k≠0:=λk hk e=>by
  by_cases h:S (own k)
  ·exact h0 (e▸h)
  ·exact hk ((e2 k h).trans e)
 have e4: ∀k,own k=4->q k=4:=λk hk=>by
  by_cases h:S (own k)
  ·exact e1 k h
  ·exact(e2 k h).trans hk
 refine⟨q,⟨s.t.less λk hk=>⟨en k hk.1,λe=>hk.2 (e4 k e)⟩,⟨λc c0 c4=>?_,λk hk=>s.h.lt k (en k hk)⟩,λk hk=>s.x k (en k hk),λk hk=>⟨λe=>?_,λe=>e4 k ((s.e k hk).2 e)⟩⟩,Mv.sub e4,e1,e2⟩
 ·by_cases h:S c
  ·exact(F' c).mv (hR c h w _) (Mv.sub λ_ h=>h) (Mv.sub λ_ h=>h.elim)
  ·exact hn c h _ _ e1 ((F c).mv (s.h.gJ c c0 c4) (Mv.sub e4) (Mv.sub λk (e:own k=c)=>(e2 k (by rw[e];exact h)).trans e))
 ·have h:=(s.e k hk).1 e;exact(e2 k λh'=>h0 (h▸h')).trans h
theorem St.fs {k':Nat} {ty:TypeId} (s:St w0 bK w X own F) (i j q:Nat) (c:ee G X w X' w') (hG: ∀k,G k->k=b\/v.ownBlock=some k) (hb:own b=i) (hv: ∀g,v.ownBlock=some g->own g=j)
  (hr:aI w' X' b cs ty) (ho:Own w' X' 0 e k' v' NN) (dg:v'.ownBlock=v.ownBlock\/ ∃g,v'.ownBlock=some g/\w.heap.size<=g) (F':Nat->pX)
  (hR: ∀K A,aI w' A b cs ty->(F' i).p w' K A) (hO: ∀K A,Own w' A 0 e k' v' NN->(F' j).p w' K A) (hQ: ∀K A,Mv (bI own 4) w K w'->(F q).p w' K A->(F' q).p w' K A)
  (hn: ∀c,(c≠i/\c≠j/\c≠q)-> ∀w' K A,(F c).p w' K A->(F' c).p w' K A) (hi:i≠0/\i≠4:=by omega) (hj:j≠0/\j≠4:=by omega):
  ∃aG,St w0 bK w' X' aG F'/\Mv (bI own 4) w (bI aG 4) w':=by
 obtain⟨aG,s',m,_⟩:=s.jT (F':=F') (j:=j) (N:=λk=>v'.ownBlock=some k/\w.heap.size<=k) c (λc=>c=i\/c=j) (λk hk=>(hG k hk).imp (λe=>by rw[e];exact hb) (hv k))
  (λh=>h.elim (λe=>hi.1 e.symm) λe=>hj.1 e.symm) (λh=>h.elim (λe=>hi.2 e.symm) λe=>hj.2 e.symm) (λk hk=>⟨ho.2.2 k hk.1,s.nw hk.2⟩) hj.1
  (λaG e1 e2 m c hc=>by
   have QM:aG b=i:=(e1 b (by rw[hb];exact hi.1)).trans hb;have hvj: ∀g,v'.ownBlock=some g->aG g=j:=λg hg=>by
    rcases dg with h|⟨g',h,hl⟩
    ·have:=hv g (h▸hg);exact(e1 g (by rw[this];exact hj.1)).trans this
    ·exact e2 g ⟨hg,by rw[h] at hg;cases hg;exact hl⟩
   by_cases AX:c=i
   ·subst AX;exact hR _ _ ⟨QM,hr.2⟩
   ·have:c=j:=hc.elim (λe=>absurd e AX) id;subst this;exact hO _ _ ⟨ho.1,ho.2.1,hvj⟩) λc hc K A m h=>by
   by_cases hq:c=q
   ·subst hq;exact hQ K A m h
   ·exact hn c ⟨λe=>hc (.inl e),λe=>hc (.inr e),hq⟩ _ _ _ h
 exact⟨aG,s',m⟩
theorem St.back {w1:World} {X1:XS} {N:World->XS->Prop} (s:St w0 bK w X own F) (i j q:Nat) (hr:aI w (bI own i) b cs ty) (hv: ∀g,v.ownBlock=some g->own g=j) (c:ee (cU v) X w X1 w1)
  (ho:Own w1 X1 0 e kk v' NN) (dg:v'.ownBlock=v.ownBlock\/ ∃g,v'.ownBlock=some g/\w.heap.size<=g) (ht:(P.info? T).map (·.size)=some 1) (hl:o<cs.length) (F':Nat->pX)
  (hR: ∀w' K A,aI w' A b (dr cs o [v']) ty->(F' i).p w' K A) (hO: ∀w' K A,Own w' A 0 e kk v' NN->(F' j).p w' K A) (hQ: ∀w' K A,Mv (bI own 4) w K w'->(F q).p w' K A->(F' q).p w' K A)
  (hn: ∀c,(c≠i/\c≠j/\c≠q)-> ∀w' K A,(F c).p w' K A->(F' c).p w' K A) (k: ∀w' X' aG,St w0 bK w' X' aG F'->Mv (bI own 4) w (bI aG 4) w'->N w' X') (zd:i≠j/\i≠0/\i≠4/\j≠0/\j≠4:=by omega):
  eU P R X1 w1 true (st1 T 1 (ptr b o) v') λ_ w' X'=>N w' X':=by
 have hb: ∀g,v'.ownBlock=some g->g≠b:=λg hg e=>by
  have hl:=hr.lt;have rr:own b=i:=hr.1;rcases dg with h|⟨g',h,Bz⟩
  ·have:=hv g (h▸hg);rw[e] at this;omega
  ·rw[h] at hg;cases hg;omega
 have hX:X b:=s.x b (by rw[show own b=i from hr.1];omega);have uq: ¬cU v b:=λhg=>by have:=hv b hg;have:own b=i:=hr.1;omega
 refine pW (o:=o) (cs:=cs) (ty:=ty) ⟨c.sub b hX,(c.block b hX uq).trans hr.2⟩ rfl ht hl ho.sl.one c.has λw' X' c' jU=>?_;obtain⟨aG,s',m⟩:=s.fs (F':=F') i j q (G:=λk=>k=b\/v.ownBlock=some k) ((c.mono λk _ e=>.inr e).trans (c'.mono λk _ e=>.inl e)) (λ_ h=>h) hr.1 hv jU (ho.ea c' λg hg e=>hb g hg e) dg
  (λK A=>hR w' K A) (λK A=>hO w' K A) (λK A=>hQ w' K A) hn ⟨zd.2.1,zd.2.2.1⟩ zd.2.2.2
 exact k w' X' aG s' m
theorem St.ap1 {t:Nat} {N:World->XS->Prop} (s:St w0 bK w X own F) (i j q:Nat) (hr:aI w (bI own i) b cs ty) (uy:Own w (bI own j) 0 e kk v rows) (src:Sl w X kk sv cT) (h1: ∀r∈cT,∀u∈r,one u=true) (hb:rows.length+cT.length<=2^36)
  (F':Value->Nat->pX) (hR: ∀v' w' K A,aI w' A b (dr cs o [v']) ty->(F' v' i).p w' K A) (hO: ∀v' w' K A,Own w' A 0 e kk v' (rows++cT)->(F' v' j).p w' K A) (hQ: ∀v' w' K A,Mv (bI own 4) w K w'->(F q).p w' K A->(F' v' q).p w' K A)
  (hn: ∀v' c,(c≠i/\c≠j/\c≠q)-> ∀w' K A,(F c).p w' K A->(F' v' c).p w' K A) (k: ∀v' w' X' aG,St w0 bK w' X' aG (F' v')->Mv (bI own 4) w (bI aG 4) w'->N w' X')
  (he:nf P T e kk bytes=true:=by kernel_rfl) (hf:fieldInfo P t f=some (o,1):=by kernel_rfl) (ht:(P.info? T).map (·.size)=some 1:=by kernel_rfl) (GK:bytes<=2^10:=by decide) (hl:o<cs.length:=by exact Nat.le_of_ble_eq_true rfl) (zd:i≠j/\i≠0/\i≠4/\j≠0/\j≠4:=by omega):
  eV P R X w true (ru T e kk bytes T v sv) λx w' X'=>lW P X' w' (cj (ptr b 0)) λx1=>aX P X' w' (iN t f o 1 x1) λx2=>eU P R X' w' true (st1 T 1 x2 x) λ_ w' X'=>N w' X':=
 EV (uy.mono (s.sub j zQ)) s.has (aq _) he src h1 (ad (yA hb GK) dQ) zQ λv' w1 X1 c ho dg=>Jl (tr hf rfl (by
  rw[ff];exact s.back i j q hr (λg hg=>uy.2.2 g hg) c ho dg ht hl (F' v') (hR v') (hO v') (hQ v') (hn v') (k v') zd))
theorem St.ap2 {t z t2 f2 o2:Nat} {N:World->XS->Prop} (s:St w0 bK w X own F) (i j q:Nat) (hr:aI w (bI own i) b cs ty) (uy:Own w (bI own j) 0 e kk v rows) (src:Sl w X kk sv cT) (h1: ∀r∈cT,∀u∈r,one u=true) (hb:rows.length+cT.length<=2^36)
  (F':Value->Nat->pX) (hR: ∀v' w' K A,aI w' A b (dr cs (o+o2) [v']) ty->(F' v' i).p w' K A) (hO: ∀v' w' K A,Own w' A 0 e kk v' (rows++cT)->(F' v' j).p w' K A) (hQ: ∀v' w' K A,Mv (bI own 4) w K w'->(F q).p w' K A->(F' v' q).p w' K A)
  (hn: ∀v' c,(c≠i/\c≠j/\c≠q)-> ∀w' K A,(F c).p w' K A->(F' v' c).p w' K A) (k: ∀v' w' X' aG,St w0 bK w' X' aG (F' v')->Mv (bI own 4) w (bI aG 4) w'->N w' X')
  (he:nf P T e kk bytes=true:=by kernel_rfl) (hf:fieldInfo P t f=some (o,z):=by kernel_rfl) (hz:(z !=0)=true:=by rfl) (XT:fieldInfo P t2 f2=some (o2,1):=by kernel_rfl) (ht:(P.info? T).map (·.size)=some 1:=by kernel_rfl) (GK:bytes<=2^10:=by decide) (hl:o+o2<cs.length:=by exact Nat.le_of_ble_eq_true rfl) (zd:i≠j/\i≠0/\i≠4/\j≠0/\j≠4:=by omega):
  eV P R X w true (ru T e kk bytes T v sv) λx w' X'=>lW P X' w' (cj (ptr b 0)) λx1=>aX P X' w' (iN t f o z x1) λx2=>aX P X' w' (iN t2 f2 o2 1 x2) λx3=>eU P R X' w' true (st1 T 1 x3 x) λ_ w' X'=>N w' X':=
 EV (uy.mono (s.sub j zQ)) s.has (aq _) he src h1 (ad (yA hb GK) dQ) zQ λv' w1 X1 c ho dg=>Jl (tr hf hz (tr XT rfl (by
  rw[ff];exact s.back i j q hr (λg hg=>uy.2.2 g hg) c ho dg ht hl (F' v') (hR v') (hO v') (hQ v') (hn v') (k v') zd)))
theorem St.aih {t fi:Nat} {N:World->XS->Prop} {f:FuncId} (s:St w0 bK w X own F) (i j q:Nat) (hr:aI w (bI own i) b cs ty) (uy:Own w (bI own j) 0 e kk v rows)
  (hc:Ct P f args w X (cU v) λv' _ w'=>Own w' (cU v) 0 e kk v' NN/\v'.ownBlock=v.ownBlock) (F':Value->Nat->pX) (hR: ∀v' w' K A,aI w' A b (dr cs o [v']) ty->(F' v' i).p w' K A) (hO: ∀v' w' K A,Own w' A 0 e kk v' NN->(F' v' j).p w' K A) (hQ: ∀v' w' K A,Mv (bI own 4) w K w'->(F q).p w' K A->(F' v' q).p w' K A)
  (hn: ∀v' c,(c≠i/\c≠j/\c≠q)-> ∀w' K A,(F c).p w' K A->(F' v' c).p w' K A) (k: ∀v' w' X' aG,St w0 bK w' X' aG (F' v')->Mv (bI own 4) w (bI aG 4) w'->N w' X')
  (he:enters P f=true:=by kernel_rfl) (hf:fieldInfo P t fi=some (o,1):=by kernel_rfl) (ht:(P.info? T).map (·.size)=some 1:=by kernel_rfl) (hl:o<cs.length:=by exact Nat.le_of_ble_eq_true rfl) (zd:i≠j/\i≠0/\i≠4/\j≠0/\j≠4:=by omega):
  eC P R X w true f args λx w' X'=>lW P X' w' (cj (ptr b 0)) λx1=>aX P X' w' (iN t fi o 1 x1) λx2=>eU P R X' w' true (st1 T 1 x2 x) λ_ w' X'=>N w' X':=
 zq hc he s.has (λk hk=>s.sub j zQ k (uy.2.2 k hk)) λv' wa w1 X1 ⟨ho,dg⟩ _ _ _ c=>Jl (tr hf rfl (by
  rw[ff];exact s.back i j q hr (λg hg=>uy.2.2 g hg) c (ho.mono λk hk=>c.sub k (s.sub j zQ k (uy.2.2 k hk))) (.inl dg) ht hl (F' v') (hR v') (hO v') (hQ v') (hn v') (k v') zd))
theorem St.next (s:St w0 bK w X own F) (c:ee G X w X' w') (hG: ∀k,G k->gC own k) (h':Hs F' w' aG) (e:BT own aG w.heap.size) (hx: ∀k,aG k≠0->w.heap.size<=k->X' k):St w0 bK w' X' aG F':=by
 have Br: ∀k,aG k≠0->X' k:=λk hk=>by
  by_cases hl:k<w.heap.size
  ·exact c.sub k (s.x k λe0=>hk ((e k hl).1 e0))
  grind
 refine⟨s.t.ea c hG λk hk=>?_,h',Br,λk hk=>?_⟩
 ·by_cases hl:k<w.heap.size
  ·exact .inl ⟨λe0=>hk.1 ((e k hl).1 e0),λe0=>hk.2 ((e k hl).2 e0)⟩
  ·exact .inr ⟨Br k hk.1,by omega⟩
 ·have h1:=s.e k hk;have h2:=e k (aw hk s.t.s.kp.size)
  grind
def St.m4 (s:St w0 bK w X own F) (c:ee G X w X' w') (hG: ∀k,G k->gC own k) (e:BT own aG w.heap.size):Mv (bI own 4) w (bI aG 4) w':=λk (hk:own k=4) hl=>⟨(e k hl).2 hk,c.block k (s.x k zQ) λh=>(hG k h).2 hk⟩
variable {f : FuncId}
theorem St.YX {n':σ} (s:St w0 bK w X own F) (hle:w.heap.size<=wa.heap.size) (gu: ∀k,made wa w' k->X' k) (c:ee (gC own) X w X' w') (e:BT own aG wa.heap.size) (h':Hs (dV n') w' aG):St w0 bK w' X' aG (dV n')/\Mv (bI own 4) w (bI aG 4) w':=
 ⟨s.next c (λ_ h=>h) h' (λk hk=>e k (aw hk hle)) λk hk hl=>by
   by_cases Bz:k<wa.heap.size
   ·exact absurd ((e k Bz).1 (s.nw hl).1) hk
   ·exact gu k ⟨by omega,h'.lt k hk⟩,s.m4 c (λ_ h=>h) λk hk=>e k (aw hk hle)⟩
def St.call {N:Value->World->XS->Prop} {Q:Value->World->Gc->σ->Prop} (s:St w0 bK w X own F) (h:Ct P f args w X (gC own) λv wa w'=>NQ dV own wa w' (Q v w')) (hf:enters P f=true)
  (k: ∀v w' X' aG n',St w0 bK w' X' aG (dV n')->Q v w' aG n'->Mv (bI own 4) w (bI aG 4) w'->N v w' X'):eC P R X w true f args N:=
 s.t.call h hf (λ_ h=>h) λv wa w' X' ⟨aG,n',e,h',q⟩ hle gu _ c=>k v w' X' aG n' (s.YX hle gu c e h').1 q (s.YX hle gu c e h').2
def St.fin {Q:Value->World->Gc->σ->Prop} (s:St w0 bK w X own (dV n)) (hq: ∀wa,Kp X w wa->Q v wa own n):aJ.fin (vi (gC bK) w0 λv w'=>NQ dV bK w0 w' (Q v w')) X w v:=
 s.t.fin λwa hk=>⟨own,n,s.e,s.h.kp s.x hk,hq wa hk⟩
def St.yi {Q:Value->World->Gc->σ->Prop} {QP:List PanicEntry->World->Prop} (s:St w0 bK w X own (dV n)) (hq: ∀wa,Kp X w wa->Q v wa own n):aJ.fin (FC (gC bK) w0 (λv w'=>NQ dV bK w0 w' (Q v w')) QP) X w v:=
 s.t.yi λwa hk=>⟨own,n,s.e,s.h.kp s.x hk,hq wa hk⟩
end
end Go.aJ
namespace Go.aJ
variable {P : Program} {R : Ending -> World -> Prop} {X : XS} {w : World} {m : Bool}
variable {N : Value -> Prop} {i : Nat} {z : Int} {s : ByteArray} {t : TypeId}
theorem amP (hz:z=i) (hi:i<=s.size) (ht:P.underlying t=some .string) (k:N (.string (s.extract 0 i))):
  aX P X w (bD t (.string s) none (some (.int .i64 z)) none) N:=by
 subst hz;refine bB (λwa=>?_) k;rw[run_sliceAt_string wa t _ _ _ _ ht,run_slice_string_h wa t s ht .i64 i zQ zQ];rfl
theorem amQ (hz:z=i) (hi:i<=s.size) (ht:P.underlying t=some .string) (k:N (.string (s.extract i s.size))):
  aX P X w (bD t (.string s) (some (.int .i64 z)) none none) N:=by
 subst hz;refine bB (λwa=>?_) k;rw[run_sliceAt_string wa t _ _ _ _ ht,run_slice_string_l wa t s ht .i64 i zQ zQ];rfl
def vL (s:ByteArray):List Nat:=s.data.toList.map UInt8.toNat
theorem I7 (s:ByteArray):(vL s).length=s.size:=by unfold vL;simp_all
theorem ak9 {x:Nat} (h:x∈vL s):x<256:=by
 obtain⟨b,_,rfl⟩:=List.mem_map.1 h;exact UInt8.toNat_lt b
theorem aga {src dst e:TypeId} {N:Value->World->XS->Prop} (hX: ∀k,X k->k<w.heap.size) (hl:s.size<=2^62) (hs:P.underlying src=some .string) (hd:P.underlying dst=some (.slice e)) (he:P.underlying e=some (.int .u8))
  (n: ∀v w' X',ai X w X' w'->Sl w' X' 1 v ((vL s).map λx:Nat=>[.int .u8 (x:Int)])->N v w' X'):eV P R X w m (convert src dst (.string s)) N:=by
 unfold eV eW;intro wa hk;unfold jS;have hr:=run_bytes_of_string (P:=P) wa src dst e s hs hd he;simp only[vS,bp,hr,aO,bO];generalize hC:bytesRow s (grownCap wa s.size 0 e)=C;have hblk: ∀k,k<wa.heap.size->(wa.drew.alloc (.cells C e (C.size,C.size+1))).heap[k]? =wa.heap[k]? :=λk hk=>heap_alloc_old wa.drew _ hk;have hx:Ext wa (wa.drew.alloc (.cells C e (C.size,C.size+1))):=⟨rfl,rfl,rfl,by simp,λk xq _=>hblk k xq⟩;have dA:=grownCap_ge wa s.size 0 e;have iH:grownCap wa s.size 0 e<=maxLen:=grownCap_le_maxLen wa _ 0 e (by simp only[maxLen];omega);refine⟨Step.fb hx,n _ _ _ (ai.fb hX hk hx) ?_⟩;have hlen:((vL s).map λx:Nat=>[aA .u8 (x:Int)]).length=s.size:=by rw[af,I7]
 refine⟨λr hr=>?_,by omega,_,_,by rw[hlen],λ_=>⟨wa.heap.size,0,rfl,.inr ⟨au _,by simp⟩,C,e,_,heap_alloc_new wa.drew _,λj v hj=>?_⟩,by simp,by omega,iH⟩
 ·obtain⟨x,_,rfl⟩:=List.mem_map.1 hr;rfl
 ·have hf:((vL s).map λx:Nat=>[aA .u8 (x:Int)]).flatten=(vL s).map λx:Nat=>aA .u8 (x:Int):=by
   generalize vL s=l
   induction l with
   |nil=>rfl
   |cons a l ih=>simp only[aZ,cV,List.singleton_append,ih]
  rw[hf,cK] at hj;rw[<-hC,ff];unfold bytesRow;have gf:j<s.data.size:=by
   cases hq:(vL s)[j]? with
   |none=>rw[hq] at hj;cases hj
   |some x=>
    have:=(List.getElem?_eq_some_iff.1 hq).1;rw[I7] at this;exact this
  rw[kP (by rw[Array.size_map];omega),Array.getElem?_map];unfold vL at hj;rw[cK,nu] at hj;rw[<-hj];cases s.data[j]? <;>rfl
structure Two (A B:Prop):Prop where
 a:A
 b:B
variable {A B p : Prop}
def q0t (h:A->B->p):Two A B->p:=λt=>h t.a t.b
def cP (a:A) (b:B):Two A B:=⟨a,b⟩
variable {q : Prop}
theorem q0b (h:q->p:=by first|(intro q9;first|(with_reducible first|apply acF|apply Nw|apply Y8|apply EX|apply alK|apply ajh|apply CM|apply alL|apply PY|apply aji|apply ahX|apply ahY|apply Ln|apply afY|apply anV|apply Gv|apply Gw|apply amp|apply aqH|apply aph|apply akm|apply Y7|apply agk|apply Jl|apply alQ|apply apQ);exact q9|(with_reducible apply alJ);(case k=>exact q9);(· rfl)|(with_reducible apply apO);(case k=>exact q9);(· exact qN)|(with_reducible apply apP);(case k=>exact q9);(· exact qN)|(with_reducible apply R5);(case k=>exact q9);(· exact qF);(· kernel_rfl);(· rfl)|(with_reducible apply apL);(case k=>exact q9);(· exact qF);(· kernel_rfl);(· rfl);(· exact qN)|(with_reducible apply ae6);(case k=>exact q9);(· exact qF);(· exact qM);(· kernel_rfl);(· rfl)|(with_reducible apply adL);(case k=>exact q9);(· exact qF);(· exact qM);(· kernel_rfl);(· rfl)|(with_reducible apply apM);(case n=>exact q9);(· exact qO);(· kernel_rfl)|(with_reducible apply apN);(case n=>exact q9);(· assumption);(· kernel_rfl)|(with_reducible apply apK);(case k=>exact q9);(· kernel_rfl)|(with_reducible apply akH);(case n=>exact q9);(· exact qO);(try (case hz=>rfl));(case hr=>first|assumption|(clear q9;exact List.getElem?_eq_getElem (by omega)));(try (case hz=>omega));(case ht=>kernel_rfl);(case hs=>kernel_rfl)|(with_reducible apply Xd);(case k=>exact q9);(· kernel_rfl)|(with_reducible apply akt);(case h=>exact q9);(· rfl)|(with_reducible apply acW);(case k=>exact q9);(· kernel_rfl)|(with_reducible apply alR);(case k=>exact q9);(· kernel_rfl)|(with_reducible apply aor);(case k=>exact q9);(· kernel_rfl)|(with_reducible apply aos);(case k=>exact q9);(· kernel_rfl)|(with_reducible apply aom);(case k=>exact q9);(case h=>exact qE)|(with_reducible apply aon);(case k=>exact q9);(case h=>exact qE)|(with_reducible apply ND);(case k=>exact q9);(· exact qC)|(with_reducible apply akG);(case h=>exact q9);(· omega);(· omega)|(with_reducible apply apI);(case h=>exact q9);(· omega);(· omega)|(with_reducible apply ae7);(case h=>exact q9);(· kernel_rfl);(· kernel_rfl)|(with_reducible apply apR);(case h=>exact q9);(· kernel_rfl);(· kernel_rfl)|(with_reducible apply apV);(case k=>exact q9);(try (case hz=>rfl));(case hb=>assumption);(try (case hz=>omega));(case ht=>kernel_rfl)|(with_reducible apply apT);(case k=>exact q9);(· kernel_rfl);(· kernel_rfl);(try (case hz=>rfl));(case hn=>omega);(case hl=>rfl)|(with_reducible apply aoq);(case k=>exact q9);(case hf=>kernel_rfl);(case hg=>kernel_rfl);(case hlen=>rfl);(case hl=>exact qN)|(with_reducible apply apW);(case h=>exact q9);(· rfl)|fail)|(apply q0t;intro a9 b9;first|(with_reducible first|apply ae0|apply ae3|apply ae4|apply akF|apply ae1|apply ae2|apply an8|apply an9|apply aoa|apply aob|apply aoc|apply aod|apply aoe|apply aof|apply aog|apply aoh|apply aoi|apply aoj|apply acq);(· exact a9);exact b9|(with_reducible apply aol);(case hT=>exact a9);(case hF=>exact b9);(· exact qO);(· kernel_rfl)|fail)|fail):q->p:=h
theorem q0d (h:q->p:=by intro q9;first|(with_reducible refine anW ?_ ?_);rotate_left;exact q9;omega|(with_reducible refine anX ?_ ?_);rotate_left;exact q9;omega|(with_reducible refine an3 ?_ ?_);rotate_left;exact q9;omega|(with_reducible refine an4 ?_ ?_);rotate_left;exact q9;omega|(with_reducible refine an5 ?_ ?_);rotate_left;exact q9;omega|(with_reducible refine an7 ?_ ?_);rotate_left;exact q9;omega|(with_reducible refine anY ?_ ?_);rotate_left;exact q9;omega|(with_reducible refine anZ ?_ ?_);rotate_left;exact q9;omega|(with_reducible refine an0 ?_ ?_);rotate_left;exact q9;omega|(with_reducible refine an1 ?_ ?_);rotate_left;exact q9;omega|(with_reducible refine an2 ?_ ?_);rotate_left;exact q9;omega|fail):q->p:=h
theorem ao (k:q) (h:q->p:=by exact q0b):p:=h k
theorem aL (k:q) (h:q->p:=by first|exact q0d|exact q0b|fail):p:=h k
variable {P : Program} {R : Ending -> World -> Prop} {X : XS} {w w0 : World} {b m : Bool} {v : Value} {l : List Value}
section
variable {X0 : XS} {f : FuncId} {args : Array Value} {N : Value -> World -> XS -> Prop} {t e k : Nat}
theorem pH (h:Pure P f args v) (hs:ai X0 w0 X w) (n: ∀w' X',ai X0 w0 X' w'->N v w' X') (hf:enters P f=true:=by kernel_rfl):eC P R X w m f args N:=rV h hf hs.has λw' X' h1=>n w' X' (hs.trans h1)
theorem kn (h:Pure P f args (.bool b)) (hs:ai X0 w0 X w) (hT:b=true-> ∀w' X',ai X0 w0 X' w'->N (.bool true) w' X') (hF:b=false-> ∀w' X',ai X0 w0 X' w'->N (.bool false) w' X') (hf:enters P f=true:=by kernel_rfl):eC P R X w m f args N:=NH h hf hs.has (λhb w' X' h1=>hT hb w' X' (hs.trans h1)) λhb w' X' h1=>hF hb w' X' (hs.trans h1)
theorem qv (h:Ct P f args w X nX λv _ _=>v= .bool b) (hs:ai X0 w0 X w) (hT:b=true-> ∀w' X',ai X0 w0 X' w'->N (.bool true) w' X') (hF:b=false-> ∀w' X',ai X0 w0 X' w'->N (.bool false) w' X') (hf:enters P f=true:=by kernel_rfl):eC P R X w m f args N:=H6 h hf hs.has (λhb w' X' h1=>hT hb w' X' (hs.trans h1)) λhb w' X' h1=>hF hb w' X' (hs.trans h1)
theorem VD {u:Value} (h:Ct P f args w X nX λv _ _=>v=u) (hs:ai X0 w0 X w) (n: ∀w' X',ai X0 w0 X' w'->N u w' X') (hf:enters P f=true:=by kernel_rfl):eC P R X w m f args N:=dZ h hf hs.has λw' X' h1=>n w' X' (hs.trans h1)
theorem yp (h:Ct P f args w X nX λv _ _=> ∃n:Int,v= .int .i64 n) (hs:ai X0 w0 X w) (n: ∀(z:Int) w' X',ai X0 w0 X' w'->N (.int .i64 z) w' X') (hf:enters P f=true:=by kernel_rfl):eC P R X w m f args N:=aoo h hf hs.has λz w' X' h1=>n z w' X' (hs.trans h1)
theorem Y6 (hs:ai X0 w0 X w) (n: ∀a b c w' X',ai X0 w0 X' w'->Own w' X' w.heap.size e k (.slice a b c) [l]->N (.slice a b c) w' X') (he:NJ P t e k=true:=by kernel_rfl) (hk:(l.length==k)=true:=by rfl):eV P R X w m (gR t e k 1 #[(0,.agg l.toArray)]) N:=
 Q7 hs.has he hk λv w' X' h1 ho=>by
  obtain⟨_,_,_,rfl⟩:=ho.sl.form;exact n _ _ _ w' X' (hs.trans h1) ho
theorem q1s {x:Value} (hs:ai X0 w0 X w) (n: ∀a b c w' X',ai X0 w0 X' w'->Own w' X' w.heap.size e k (.slice a b c) [[x]]->N (.slice a b c) w' X') (he:NJ P t e k=true:=by kernel_rfl) (ho:one x=true:=by first|rfl|assumption) (hk:(k==1)=true:=by rfl):eV P R X w m (gR t e k 1 #[(0,x)]) N:=
 Yd hs.has he ho hk λv w' X' h1 ho=>by
  obtain⟨_,_,_,rfl⟩:=ho.sl.form;exact n _ _ _ w' X' (hs.trans h1) ho
theorem Ro (hs:ai X0 w0 X w) (n: ∀v w' X',ai X0 w0 X' w'->Own w' X' w.heap.size e k v []->N v w' X') (hu:P.underlying t=some (.slice e):=by kernel_rfl) (hz:(P.info? e).map (·.size)=some k:=by kernel_rfl):eV P R X w m (gR t e k 0 #[]) N:=
 adQ hs.has hu hz λv w' X' h1 ho=>n v w' X' (hs.trans h1) ho
def OQ (hs:ai X0 w0 X w) (n: ∀b w' X',w.heap.size<=b->ai X w X' w'->ai X0 w0 X' w'->ai X' w' X' w'->aI w' X' b l t->N (ptr b 0) w' X'):eV P R X w m (bT t (.agg l.toArray)) N:=
 BL hs.has λb w' X' hb h1 hr=>n b w' X' hb h1 (hs.trans h1) (ai.fK h1.has) hr
theorem q1x (hs:ai X0 w0 X w) (n: ∀b w' X',w.heap.size<=b->ai X w X' w'->ai X0 w0 X' w'->ai X' w' X' w'->aI w' X' b [v] t->N (ptr b 0) w' X') (ho:one v=true:=by rfl):eV P R X w m (bT t v) N:=
 uv ho hs.has λb w' X' hb h1 hr=>n b w' X' hb h1 (hs.trans h1) (ai.fK h1.has) hr
end
theorem qr {Q:Value->World->Prop} (h: ∀wa,Kp X w wa->Q v wa) (hs:ai (bN w0) w0 X w:=by first|exact hs|exact gn.trans hs):fin (vi nX w0 Q) X w v:=bQ hs h
end Go.aJ
namespace Go.Proofs.YtgfijddlkhkopaaGreat
open Go.Proofs.Tryz renaming prog → pg
open Go.aJ
set_option maxRecDepth 100000
set_option maxHeartbeats 4000000
abbrev BA:=ByteArray
@[ext] structure bX where
 wall:Int
 dx:Int
 node:Int
 deriving DecidableEq
abbrev bX.l (s:bX):List Value:=[I s.wall,I s.dx,I s.node]
abbrev bX.v (s:bX):Value:=.agg #[I s.wall,I s.dx,I s.node]
abbrev bX.zero:bX:=⟨0,0,0⟩
@[ext] structure bu where
 dU:Int
 aN:Int
 sq:Int
 deriving DecidableEq
abbrev bu.l (s:bu):List Value:=[I s.dU,I s.aN,I s.sq]
abbrev bu.v (s:bu):Value:=.agg #[I s.dU,I s.aN,I s.sq]
abbrev bu.zero:bu:=⟨0,0,0⟩
@[ext] structure gK where
 kind:Int
 num:Nat
 text:BA
 deriving DecidableEq
abbrev gK.l (x:gK):List Value:=[I x.kind,.float .f64 x.num,.string x.text]
abbrev gK.v (x:gK):Value:=.agg #[I x.kind,.float .f64 x.num,.string x.text]
abbrev gK.zero:gK:=⟨0,0,⟨#[]⟩⟩
@[ext] structure KV where
 key:BA
 val:gK
 deriving DecidableEq
abbrev KV.l (x:KV):List Value:=[.string x.key,I x.val.kind,.float .f64 x.val.num,.string x.val.text]
abbrev KV.v (x:KV):Value:=.agg #[.string x.key,I x.val.kind,.float .f64 x.val.num,.string x.val.text]
abbrev S1 (x:BA):List Value:=[.string x]
abbrev I1 (x:Int):List Value:=[I x]
@[ext] structure pJ where
 aV:bX
 val:gK
 deriving DecidableEq
abbrev pJ.l (x:pJ):List Value:=[I x.aV.wall,I x.aV.dx,I x.aV.node,I x.val.kind,.float .f64 x.val.num,.string x.val.text]
@[ext] structure kF where
 key:BA
 mS:List pJ
 deriving DecidableEq
abbrev kF.l (h:kF) (vv:Value):List Value:=[.string h.key,vv]
def kF.rd (w:World) (X:XS) (l:List Value) (h:kF):Prop:= ∃vv,l=h.l vv/\Sl w X 6 vv (h.mS.map pJ.l)
@[ext] structure gv where
 aH:bu
 aV:bX
 reads:List BA
 writes:List KV
 deriving DecidableEq
abbrev gv.l (p:gv) (vr vw:Value):List Value:=[I p.aH.dU,I p.aH.aN,I p.aH.sq,I p.aV.wall,I p.aV.dx,I p.aV.node,vr,vw]
abbrev gv.v (p:gv) (vr vw:Value):Value:=.agg #[I p.aH.dU,I p.aH.aN,I p.aH.sq,I p.aV.wall,I p.aV.dx,I p.aV.node,vr,vw]
def gv.rd (w:World) (X:XS) (l:List Value) (p:gv):Prop:= ∃vr vw,l=p.l vr vw/\Sl w X 1 vr (p.reads.map S1)/\Sl w X 4 vw (p.writes.map KV.l)
@[ext] structure eY where
 id:Int
 iF:Int
 lo:Nat
 hi:Nat
 deriving DecidableEq
abbrev eY.l (r:eY):List Value:=[I r.id,I r.iF,.float .f64 r.lo,.float .f64 r.hi]
abbrev eY.v (r:eY):Value:=.agg #[I r.id,I r.iF,.float .f64 r.lo,.float .f64 r.hi]
@[ext] structure State where
 range:eY
 floor:bX
 closed:bX
 iG:List kF
 ib:List gv
 deriving DecidableEq
abbrev State.l (s:State) (vh vp:Value):List Value:=[I s.range.id,I s.range.iF,.float .f64 s.range.lo,.float .f64 s.range.hi,
 I s.floor.wall,I s.floor.dx,I s.floor.node,I s.closed.wall,I s.closed.dx,I s.closed.node,vh,vp]
abbrev State.v (s:State) (vh vp:Value):Value:=.agg #[I s.range.id,I s.range.iF,.float .f64 s.range.lo,.float .f64 s.range.hi,
 I s.floor.wall,I s.floor.dx,I s.floor.node,I s.closed.wall,I s.closed.dx,I s.closed.node,vh,vp]
abbrev qL (w:World) (X:XS) (v:Value) (l:List kF):Prop:=fh w X 2 v kF.rd l
abbrev qK (w:World) (X:XS) (v:Value) (l:List gv):Prop:=fh w X 8 v gv.rd l
def State.rd (w:World) (X:XS) (l:List Value) (s:State):Prop:= ∃vh vp,l=s.l vh vp/\qL w X vh s.iG/\qK w X vp s.ib
@[ext] structure Rec where
 kind:Int
 aH:bu
 aV:bX
 prev:bX
 jK:Bool
 n:Int
 su:Nat
 reads:List BA
 writes:List KV
 parts:List Int
 xu:List KV
 state:State
 deriving DecidableEq
abbrev Rec.l (r:Rec) (vr vw vp vq vh vd:Value):List Value:=[I r.kind,I r.aH.dU,I r.aH.aN,I r.aH.sq,I r.aV.wall,I r.aV.dx,I r.aV.node,
 I r.prev.wall,I r.prev.dx,I r.prev.node,B r.jK,I r.n,.float .f64 r.su,vr,vw,vp,vq,I r.state.range.id,I r.state.range.iF,.float .f64 r.state.range.lo,.float .f64 r.state.range.hi,
 I r.state.floor.wall,I r.state.floor.dx,I r.state.floor.node,I r.state.closed.wall,I r.state.closed.dx,I r.state.closed.node,vh,vd]
abbrev Rec.v (r:Rec) (vr vw vp vq vh vd:Value):Value:=.agg #[I r.kind,I r.aH.dU,I r.aH.aN,I r.aH.sq,I r.aV.wall,I r.aV.dx,I r.aV.node,
 I r.prev.wall,I r.prev.dx,I r.prev.node,B r.jK,I r.n,.float .f64 r.su,vr,vw,vp,vq,I r.state.range.id,I r.state.range.iF,.float .f64 r.state.range.lo,.float .f64 r.state.range.hi,
 I r.state.floor.wall,I r.state.floor.dx,I r.state.floor.node,I r.state.closed.wall,I r.state.closed.dx,I r.state.closed.node,vh,vd]
def Rec.at (w:World) (X:XS) (r:Rec) (vr vw vp vq vh vd:Value):Prop:=
 Sl w X 1 vr (r.reads.map S1)/\Sl w X 4 vw (r.writes.map KV.l)/\Sl w X 1 vp (r.parts.map I1)/\Sl w X 4 vq (r.xu.map KV.l)/\qL w X vh r.state.iG/\qK w X vd r.state.ib
def Rec.rd (w:World) (X:XS) (l:List Value) (r:Rec):Prop:= ∃vr vw vp vq vh vd,l=r.l vr vw vp vq vh vd/\r.at w X vr vw vp vq vh vd
@[ext] structure fc where
 key:BA
 val:gK
 aV:bX
 deriving DecidableEq
abbrev fc.l (x:fc):List Value:=[.string x.key,I x.val.kind,.float .f64 x.val.num,.string x.val.text,I x.aV.wall,I x.aV.dx,I x.aV.node]
@[ext] structure cD where
 kind:Int
 fr:Int
 to:Int
 aH:bu
 range:Int
 iF:Int
 code:Int
 aV:bX
 prev:bX
 jK:Bool
 n:Int
 mx:Int
 keys:List BA
 seen:List fc
 writes:List KV
 parts:List Int
 ranges:List eY
 aY:List Rec
 state:State
 deriving DecidableEq
abbrev cD.l (m:cD) (vk vs vw vp vr vc vh vd:Value):List Value:=[I m.kind,I m.fr,I m.to,I m.aH.dU,I m.aH.aN,I m.aH.sq,I m.range,I m.iF,I m.code,
 I m.aV.wall,I m.aV.dx,I m.aV.node,I m.prev.wall,I m.prev.dx,I m.prev.node,B m.jK,I m.n,I m.mx,vk,vs,vw,vp,vr,vc,
 I m.state.range.id,I m.state.range.iF,.float .f64 m.state.range.lo,.float .f64 m.state.range.hi,
 I m.state.floor.wall,I m.state.floor.dx,I m.state.floor.node,I m.state.closed.wall,I m.state.closed.dx,I m.state.closed.node,vh,vd]
abbrev cD.v (m:cD) (vk vs vw vp vr vc vh vd:Value):Value:=.agg #[I m.kind,I m.fr,I m.to,I m.aH.dU,I m.aH.aN,I m.aH.sq,I m.range,I m.iF,I m.code,
 I m.aV.wall,I m.aV.dx,I m.aV.node,I m.prev.wall,I m.prev.dx,I m.prev.node,B m.jK,I m.n,I m.mx,vk,vs,vw,vp,vr,vc,
 I m.state.range.id,I m.state.range.iF,.float .f64 m.state.range.lo,.float .f64 m.state.range.hi,
 I m.state.floor.wall,I m.state.floor.dx,I m.state.floor.node,I m.state.closed.wall,I m.state.closed.dx,I m.state.closed.node,vh,vd]
section
variable (R : Ending -> World -> Prop) (w0 : World) (X0 : XS)
noncomputable def TD:gz:=⟨43,[],[],[0,2,3,4,5,7,8,9,12,26,40],[35,36,37,38,39],[]⟩
def Ip (p0:Value):Prop:=
 eV pg nP X0 w0 true (ga 73 true (dh #[])) λa b c=>
 eV pg nP c b true (ga 37 true (dh #[])) λd e g=>
 (aX pg g e (cC (Fn.func 132) #[] #[a,d]) λh=>
 (aX pg g e (lN 151 3 p0) λi=>
 aX pg g e (binOp .gtr 3 i (I 262144)) λj=>
 (np j
 (aX pg g e (sH 73 #[(I 0),(I 0),(I 0),(I 0),(I 0),(I 0),(I 0),(I 0),(I 0),(I 0),(B false),(I 0),(.float .f64 0),(.slice none 0 0),(.slice none 0 0),(.slice none 0 0),(.slice none 0 0),(I 0),(I 0),(.float .f64 0),(.float .f64 0),(I 0),(I 0),(I 0),(I 0),(I 0),(I 0),(.slice none 0 0),(.slice none 0 0)] #[]) λk=>
 eU pg (dP pg Tryz.f79 R [a,d,h]) g e true (st1 73 29 a k) λ_ l m=>
 eU pg (dP pg Tryz.f79 R [a,d,h]) m l true (st1 37 1 d (I 4)) λ_ n o=>
 (fin (dP pg Tryz.f79 R [a,d,h]) o n (dh #[a,d,h])))
 ((eC pg (dP pg Tryz.f79 R [a,d,h]) g e true 133 #[p0] λq r s=>
 (aX pg s r (sH 249 #[(.pointer none),q] #[(1,q)]) λt=>
 eV pg (dP pg Tryz.f79 R [a,d,h]) s r true (bT 249 t) λv y z=>
 eC pg (dP pg Tryz.f79 R [a,d,h]) z y true 134 #[v,a] λ_ A C=>
 (eC pg (dP pg Tryz.f79 R [a,d,h]) C A true 135 #[q] λD E F=>
 aX pg F E (gB D 0) λG=>
 aX pg F E (gB D 1) λ_=>
 (aX pg F E (eP .neq 37 (.tmp 25) (.const (I 0)) G (I 0)) λH=>
 (np H
 (aX pg F E (sH 73 #[(I 0),(I 0),(I 0),(I 0),(I 0),(I 0),(I 0),(I 0),(I 0),(I 0),(B false),(I 0),(.float .f64 0),(.slice none 0 0),(.slice none 0 0),(.slice none 0 0),(.slice none 0 0),(I 0),(I 0),(.float .f64 0),(.float .f64 0),(I 0),(I 0),(I 0),(I 0),(I 0),(I 0),(.slice none 0 0),(.slice none 0 0)] #[]) λL=>
 eU pg (dP pg Tryz.f79 R [a,d,h]) F E true (st1 73 29 a L) λ_ M N=>
 eU pg (dP pg Tryz.f79 R [a,d,h]) N M true (st1 37 1 d (I 4)) λ_ O Q=>
 (fin (dP pg Tryz.f79 R [a,d,h]) Q O (dh #[a,d,h])))
 ((aX pg F E (tW 73 29 a) λS=>
 eC pg (dP pg Tryz.f79 R [a,d,h]) F E true 136 #[S] λT U V=>
 aX pg V U (gB T 0) λY=>
 aX pg V U (gB T 1) λZ=>
 (aX pg V U (eP .neq 37 (.tmp 33) (.const (I 0)) Z (I 0)) λa0=>
 un (pA a0 false Y) λb0=>
 un (pA a0 false p0) λc0=>
 jn (λ(d0:Value) (e0:World) (g0:XS)=>
 lP pg g0 e0 a0 false (vS (bt cr d0)) λh0=>
 lW pg g0 e0 (ix a0 (B true) h0) λi0=>
 (np i0
 (aX pg g0 e0 (sH 73 #[(I 0),(I 0),(I 0),(I 0),(I 0),(I 0),(I 0),(I 0),(I 0),(I 0),(B false),(I 0),(.float .f64 0),(.slice none 0 0),(.slice none 0 0),(.slice none 0 0),(.slice none 0 0),(I 0),(I 0),(.float .f64 0),(.float .f64 0),(I 0),(I 0),(I 0),(I 0),(I 0),(I 0),(.slice none 0 0),(.slice none 0 0)] #[]) λj0=>
 eU pg (dP pg Tryz.f79 R [a,d,h]) g0 e0 true (st1 73 29 a j0) λ_ k0 l0=>
 eU pg (dP pg Tryz.f79 R [a,d,h]) l0 k0 true (st1 37 1 d (I 4)) λ_ m0 n0=>
 (fin (dP pg Tryz.f79 R [a,d,h]) n0 m0 (dh #[a,d,h])))
 ((aX pg g0 e0 (tW 73 29 a) λo0=>
 eU pg (dP pg Tryz.f79 R [a,d,h]) g0 e0 true (st1 73 29 a o0) λ_ q0 r0=>
 eU pg (dP pg Tryz.f79 R [a,d,h]) r0 q0 true (st1 37 1 d (I 0)) λ_ s0 t0=>
 (fin (dP pg Tryz.f79 R [a,d,h]) t0 s0 (dh #[a,d,h])))))) λv0=>
 (gE a0 false (eC pg (dP pg Tryz.f79 R [a,d,h]) V U true 137 #[b0,c0] v0) (v0 undef U V))))))))))))))
end
def oT (l:Array Operand):List Nat:=l.toList.filterMap λo=>match o with| .tmp t=>some t|_=>none
def MI:Code->List (List Oper)×List Nat
 | .region _ o _=>([o.toList],[])
 | .seq a b=>((MI a).1++(MI b).1,(MI a).2++(MI b).2)
 | .cond c a b=>((MI a).1++(MI b).1,oT #[c]++(MI a).2++(MI b).2)
 | .block _ a=>MI a
 | .loop a=>MI a
 |_=>([],[])
def isT (l:List Nat):Operand->Bool
 | .tmp t=>yZ l t
 |_=>false
def aox (bx:List Nat):List Oper->List Nat->List Nat
 |[],d=>d
 |o::r,d=>aox bx r (match o.op,o.dst with| .fieldAddr _ x _,some y=>if isT bx x||isT d x then y::d else d|_,_=>d)
def aoy:List Oper->List Nat->List Nat×List Nat
 |[],_=>([],[])
 |o::r,s=>let t:=oT o.op.operands;let u:=aoy r (o.dst.toList++s);(t++o.dst.toList++u.1,t.filter (λx=>!yZ s x)++u.2)
def aff (t:Nat):List (List Nat)->Bool->Bool
 |[],_=>false
 |l::r,m=>if yZ l t then m||aff t r true else aff t r m
def afg (fn:Func) (bx:List (Nat×Nat)) (mat car:List Nat):gz:=
 let c:=MI (fn.body.getD .skip)
 let b:=bx.map Prod.fst
 let d:=aox b c.1.flatten []
 let u:=c.1.map λl=>aoy l []
 let x:=c.2++fn.results.toList.filterMap (λr=>match r with| .tmp t=>some t|_=>none)++(u.map Prod.snd).flatten
 ⟨fn.ntmps,bx,d,(List.range fn.ntmps).filter λt=>!yZ b t&&!yZ d t&&(t<fn.params.size+fn.nfree||yZ x t||aff t (u.map Prod.fst) false),mat,car⟩
variable {R : Ending -> World -> Prop} {args : Array Value} {fn : Func} {f : FuncId}
theorem cv {w:World} {V:Prop} (pl:gz) (hf:pg.funcs[f]? =some fn) (h:V)
 (hs:(decide (args.size<=pl.n)&&pl.boxes.all λp=>decide (args.size<=p.1))=true:=by kernel_rfl) (hv:V=Pp pg (cF pg pl fn) R args w:=by kernel_rfl):Calls pg f args w R:=Hj hf hs hv h
structure CQ (f:FuncId) (args:Array Value) (V:SP):Prop where
 g: ∀{R:Ending->World->Prop} {w:World} {q:Prop},(ai (bN w) w (bN w) w->q)->(e:V pg R (bN w) w=q:=by dsimp only [bJ,ae,qa,Zq3,dq,Zq5,Zq6,dy,js,dz,lH,gw,iS,lI,bM,Tz,mr,B3,kR,gH,dE,dY,rX,ct,dB,ajo,ajp,bq,jL,fS,dC,HF,qY,gr,cu,Jm,gA,rY,gS,qp,ajq,dF,sS,fz,ajr,fI,iC,oY,fT,kc,yw,vU,eZ,gI,vV,jt,rZ,jM,r6,oD,fJ,gU,tQ,tR,oE,tS,ig,fX,sT,sU,F8,uM,kG,sV,wQ,wR,ajs,lJ,pN,wS,wT,iX,gV,ajt,jb,yy,zA,kH,yz,im,iD,jA,zB,zC,zD,aju,iE,nY,du,sM,qD,G6,yu,ZcU,vC,DL,ZcE,aU,mI,ir,lu,ZcR,O5,ke,jZ,ZW,vD,B2,Zck,xB,l9,oS,Zic,uK,yv,Zcn,Zcs,R4,qo,jx,lv,uL,O6,zz,pL,Zgo,MB,HE,fH,CT,qX,ajj,lT,pM,ui,ZX,Xe,ajk,rW,sR,F5,ajl,ajm,ajn];try exact rfl)->Calls pg f args w R
variable {V : SP}
theorem cy (g:Func->gz)
 (hs:((pg.funcs[f]?).any λfn=>decide (args.size<=(g fn).n)&&(g fn).boxes.all λp=>decide (args.size<=p.1))=true)
 (hv: ∀R w,V pg R (bN w) w=Pp pg ((pg.funcs[f]?).bind λfn=>cF pg (g fn) fn) R args w):CQ f args V:=⟨λh e=>by
 cases hf:pg.funcs[f]? with
 |none=>rw[hf] at hs;cases hs
 |some fn=>rw[hf] at hs;exact Hj (pl:=g fn) hf (by simpa using hs) (by have:=hv;rw[hf] at this;exact e.symm.trans (this _ _)) (h (ai.init _))⟩
theorem cq (b:List (Nat×Nat):=[]) (m:List Nat:=[]) (c:List Nat:=[])
 (hs:((pg.funcs[f]?).any λfn=>decide (args.size<=fn.ntmps)&&b.all λp=>decide (args.size<=p.1))=true:=by kernel_rfl)
 (hv: ∀R w,V pg R (bN w) w=Pp pg ((pg.funcs[f]?).bind λfn=>cF pg (afg fn (b.map λp=>(p.1,pg.cellsOf p.2)) m c) fn) R args w:=by intro R w;kernel_rfl):CQ f args V:=cy (λfn=>afg fn (b.map λp=>(p.1,pg.cellsOf p.2)) m c) (by simpa [afg,Function.comp_def] using hs) hv
theorem cp (pl:gz)
 (hs:((pg.funcs[f]?).any λfn=>decide (args.size<=pl.n)&&pl.boxes.all λp=>decide (args.size<=p.1))=true:=by kernel_rfl)
 (hv: ∀R w,V pg R (bN w) w=Pp pg ((pg.funcs[f]?).bind λfn=>cF pg pl fn) R args w:=by intro R w;kernel_rfl):CQ f args V:=cy (λ_=>pl) hs hv
structure CL (f:FuncId) (fn:Func) (pl:gz) (args:Array Value) (V:(Ending->World->Prop)->SP):Prop where
 g: ∀{R:Ending->World->Prop} {RP:List PanicEntry->World->Prop} {g0:FuncId} {cb:List Nat} {cv:List (Option Value)} {w:World},Zk fn=some (g0,cb)->(cv=[]\/cv=ajF pg pl fn args)->Idle pg g0->RG pg pl fn R g0 cb cv RP->V (GR R RP) pg (noP R) (bN w) w->Calls pg f args w R
theorem cl {pl:gz} {V:(Ending->World->Prop)->SP} (hf:pg.funcs[f]? =some fn)
 (hs:(decide (args.size<=pl.n)&&pl.boxes.all λp=>decide (args.size<=p.1))=true:=by kernel_rfl) (hv: ∀R S w,V S pg R (bN w) w=ajG pg (ftL pg pl fn) R S args w:=by intro R S w;kernel_rfl):CL f fn pl args V:=⟨λa b c d e=>Z7 hf hs a b c d (hv _ _ _) e⟩
section
variable {w0 : World} {p0 p1 p2 p3 p4 p5 p6 p7 p8 p9 p10 p11 : Value} {i0 i1 i2 i3 i4 i5 i6 i7 i8 i9 i10 i11 i12 i13 i14 i15 i16 i17 i18 i19 i20 i21 i22 i23 i24 i25 i26 i27 i28 i29 i30 i31 i32 i33 i34 i35 i36 i37 i38 i39 : Int} {n0 n1 n2 n3 n4 n5 n6 n7 : Nat} {b0 b1 b2 b3 b4 b5 : Bool} {s0 s1 s2 s3 s4 s5 s6 s7 s8 s9 RE RL : ByteArray} {m : cD} {r : Rec} {vk vs vw vp vr vc vh vd vq : Value}
def D7:CQ 5 #[p0] (vC 9 #[] λa=>qX a gU (zD 10 p0 (vC 9 #[] aU) (vC 11 #[] λd=>lv d λe g=>lI 26 35 g fI gU (ajn ae bq undef bq undef bq undef g 8 7 15 6 14 5 13 4 λh i j k l _ m _ n=>wQ 22 p0 i (ajk (λq r s t v y z=>cu i λA=>h A t z s y r v q) λC=>zB 22 41 p0 i 57 41 λ_ E=>fX 12 e n E λF=>lv F λG H=>O5 F 2 λL=>fH H 2 λM=>fH L 3 λN=>lI 26 54 G fI gU (dz N (gI 34 #[ae,ae,ae] λO=>eZ N 3 λQ=>vD .eql 34 57 58 Q O λS=>rW ae 13 λT U=>dC 59 m λV=>fJ .lss U V λY=>O6 Y S (bt cr) λa0=>ir a0 (zB 59 3 m U 34 3 λ_ c0=>dz N (uK .eql 34 73 74 c0 Q gU (cu U T))) (pM (λe0=>F5 ae l k 14 6 15 λg0 h0 i0 j0=>dz M (js M 1 λk0=>wQ 30 k0 h0 (rW ae 15 λm0 n0=>wQ 30 i0 n0 (xB 30 9 i0 n0 λq0=>zC 64 1 1 3 q0 34 3 λ_ s0=>dz M (xB 30 9 k0 h0 λt0=>zC 64 1 1 3 t0 34 3 λ_ y0=>uK .eql 34 99 105 s0 y0 gU (cu n0 m0))) (dz M (zB 30 9 k0 h0 64 9 λ_ C0=>tQ (gR 30 64 9 1 #[(0,C0)]) 30 64 9 88 30 i0 λ_ E0=>cu h0 λF0=>g0 F0 E0 n0))) (bM 13 G λG0=>ir G0 (C G e0 i0 j U h0 j0) (bM 20 G λH0=>dC 45 H0 λL0=>dC 45 j λM0=>fJ .lss L0 M0 λN0=>yy N0 H0 N0 j λO0 Q0=>gw N0 false (lN 45 3 Q0) N0 false (λS0=>bD 45 O0 none (some S0) none) λ_ T0=>wR N0 false (bt cr) N0 dB gU (C G e0 i0 H0 U h0 j0) N0 false 23 #[T0,Q0])))) λa1=>qX S (dz N (dY (gR 59 34 3 1 #[(0,Q)]) λb1=>jM 59 34 3 24 59 m b1 a1)) (a1 m))))) (bM 24 e λd1=>lI 26 136 d1 fI gU (bM 20 d1 λe1=>rW ae 18 λg1 h1=>wQ 45 e1 h1 (pM (λj1=>ir j1 gU (cu h1 g1)) λl1=>du (bD 45 e1 none (some h1) none) λm1=>xB 45 29 e1 h1 λn1=>zC 73 1 1 3 n1 34 3 λ_ q1=>lu (r6 19 m1 q1 λ_ s1 t1=>fH s1 29 λ_=>l1 t1) (r6 19 m1 q1 λ_ y1 z1=>fH y1 29 λ_=>l1 z1)) (rW ae 21 λA1 C1=>wQ 30 l C1 (xB 30 9 l C1 λE1=>zC 64 1 1 3 E1 34 3 λ_ G1=>r6 19 e1 G1 λ_ L1 M1=>fH L1 29 λN1=>qo 30 9 l C1 64 0 0 1 37 λO1=>jt 37 179 O1 ae λQ1=>zA Q1 l Q1 C1 λS1 T1=>gw Q1 true (mG 30 9 S1 T1) Q1 true (iN 64 3 7 1) λ_ V1=>gw Q1 true (ld1 4 V1) Q1 true (bt cr) λ_ Z1=>iS Q1 Z1 dy λa2=>vD .neq 4 189 190 M1 a2 λb2=>gr b2 a2 λc2=>gr b2 c2 λd2=>dz N1 (B3 N1 4 3 λe2=>fS d2 e2 λg2=>zA d2 l d2 C1 λh2 i2=>gw d2 true (mG 30 9 h2 i2) d2 true (iN 64 2 4 3) λ_ k2=>gw d2 true (tW 39 3 k2) d2 true (lJ .neq 39 196 201 g2) λ_ m2=>qD b2 false (ix d2 m2 dy) λn2=>mr b2 dB n2 gU (cu C1 A1))) (vC 9 #[] aU)))))))):=cq [(10,32),(11,34),(19,73),(22,73)] [64,65,66,124,125,126,127,128,129,130,131,181,182,183,184,185,186,187,192,193,194,196,197,198,199,200,201,202,203] [4,5,6,7,8,13,14,15,18,21]
end
end Go.Proofs.YtgfijddlkhkopaaGreat