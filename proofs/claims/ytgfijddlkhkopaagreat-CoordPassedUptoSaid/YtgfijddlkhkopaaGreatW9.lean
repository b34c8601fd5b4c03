/- Part 9 of the proof. -/
import Derived.Test.YtgfijddlkhkopaaGreatProg
import Derived.Recover
import Derived.Shelf.Abstract
import Derived.RegionTactic
import Derived.KernelRfl
import Derived.Tactics
import Derived.Test.YtgfijddlkhkopaaGreatW8
set_option linter.all false
open Go.Value renaming string → aN
open List renaming length_cons → aL, length_map → af, length_tail → qT, length_nil → br, length_append → aa, mem_of_getElem? → ay, length_take → aD, not_mem_nil → dq, foldl_cons → iB, map_append → aC
open Nat renaming zero_le → aq, lt_of_lt_of_le → aw
open Array renaming replicate → dg
open Go.Instr renaming typeAssert → nJ
namespace Go.Proofs.YtgfijddlkhkopaaGreat
open Go.Proofs.Tryz renaming prog → pg
open Go.aK
set_option maxRecDepth 100000
set_option maxHeartbeats 4000000
theorem ajc:Idle pg 167:=by
 refine⟨by kernel_rfl,λgH w=>?_⟩;refine callsD_of_wpS Tryz.func167 rfl λc₀ cs hu=>?_;rw[Tryz.ntmps167];have gh:8<=(gH++dg (13-gH.size) undef).size:=by simp;omega
 generalize gH++dg (13-gH.size) undef=tm at gh;have h2:2<tm.size:=by omega
 have h5:5<tm.size:=by omega
 have h7:7<tm.size:=by omega
 apply wpS_seq;apply wpS_region;simp[wpOpsS,go_sem,recoverD,hu,Exit.thenS];refine wpS_of_wp ?_;refine wp_block ?_;apply wp_seq;apply wp_region;simp[wpOps,go_sem,Exit.then,h2,h5,h7];refine .inl (wp_cond (t:=true) (by simp[Act.eval,h2,h5,h7]) ?_);simp only[if_true];apply wp_region;simp[wpOps,go_sem,Exit.then,Exit.inBlock,h2,h5,h7];cases c₀;simp_all [bodyPostS,results,Tryz.results167]
variable {x : Value} {w : World}
theorem aeT {st:TypeId} :(nJ (.iface 291 x) st 291 true).run pg w= .ok (.tuple #[x,.bool true]) w:=by
 obtain⟨fs,hu⟩: ∃fs,pg.underlying 291=some (.struct fs):=⟨_,rfl⟩;simp[nJ,run_underlying hu]
variable {ty : TypeId} {k : Nat} {W : World}
theorem Ca (h:W.heap[k]? =some (.cells #[x] ty (0,0))):W.cell? ⟨k,0,none⟩=some x:=by simp[World.cell?,h]
theorem RO (h:W.heap[k]? =some (.cells #[x] ty (0,0))):W.frozen? ⟨k,0,none⟩=false:=by simp[World.frozen?,h]
variable {b : Nat}
theorem Mt (v:Value) (hb:w.heap[b]? =some (.cells #[x] ty (0,0))) (k:Nat):(w.setCell ⟨b,0,none⟩ v).heap[k]? =if k=b then some (.cells #[v] ty (0,0))else w.heap[k]? :=by
 unfold World.setCell;simp only[Array.getElem?_modify];by_cases h:b=k
 ·subst h;simp[hb]
 grind
variable {e : Int}
theorem Ue (h:w.cell? ⟨k,0,none⟩=some (I e)):(loadVar 37 ⟨k,0,none⟩).run pg w= .ok (I e) w:=by
 have Wu:(isAgg 37).run pg w= .ok false w:=run_isAgg_plain (d:=.int .i64) kQ rfl w;simp[loadVar,Wu,run_load,h]
theorem agz {v:Value} (h:w.cell? ⟨k,0,none⟩=some v):(loadVar 42 ⟨k,0,none⟩).run pg w= .ok v w:=by
 have Wu:(isAgg 42).run pg w= .ok false w:=run_isAgg_plain (d:=.slice 178) kQ rfl w;simp[loadVar,Wu,run_load,h]
theorem ale:Tryz.f113.results= #[.cell 4 42,.cell 5 37]:=by kernel_rfl
theorem agA {R:Ending->World->Prop} {RP:List PanicEntry->World->Prop}
  (hR: ∀ch w,RP ch w-> ∃e,ch=vJ e/\R (.returned (.tuple #[.slice none 0 0,I e])) w):QK pg Oj Tryz.f113 R 167 [4,5] [] RP:=by
 intro ks EV ch w tZ mu tR hh hv gh hRP;obtain⟨k1,k2,rfl⟩: ∃a b,ks=[a,b]:=by
  match ks,tZ with
  |[a,b],_=>exact⟨a,b,rfl⟩
 obtain⟨c1,c2,rfl⟩: ∃a b,EV=[a,b]:=by
  match EV,mu with
  |[a,b],_=>exact⟨a,b,rfl⟩
 obtain⟨Ud,g1⟩:=hh 0 k1 c1 rfl rfl;obtain⟨Ny,g2⟩:=hh 1 k2 c2 rfl rfl;have s1:c1.size=1:=gh 0 4 1 c1 rfl kQ rfl;have s2:c2.size=1:=gh 1 5 1 c2 rfl kQ rfl;obtain⟨e,rfl,_⟩:=hR _ _ (hRP w (aK.Outside.refl _ _));refine callsD_of_wpS Tryz.func167 rfl λc₀ cs hu=>?_;rw[Tryz.ntmps167];simp only[List.map_cons,List.map_nil,List.size_toArray,aL,br];apply wpS_seq;apply wpS_region;simp[wpOpsS,go_sem,recoverD,hu,Exit.thenS];refine wpS_of_wp ?_;refine wp_block ?_;apply wp_seq;apply wp_region;simp[wpOps,go_sem,Exit.then];refine .inl (wp_cond (t:=false) (by simp[Act.eval]) ?_);simp only[Bool.false_eq_true,if_false];apply wp_seq;apply wp_region;simp[wpOps,go_sem,Exit.then,aeT];repeat left
 refine wp_cond (t:=true) (by simp[Act.eval]) ?_;simp only[if_true];change Code.wp _ _ _ { tmps:= #[ez k1 0,ez k2 0,undef,undef,undef,.iface 291 (.agg #[I e]),undef,B false,.tuple #[.agg #[I e],B true],B true,.agg #[I e],undef,undef],defers:=[] } w;apply wp_seq;apply wp_region;simp[wpOps,go_sem,Exit.then];repeat left
 have l1:=(Array.getElem?_eq_some_iff.1 g1).1;have l2:=(Array.getElem?_eq_some_iff.1 g2).1;obtain⟨x1,rfl⟩: ∃x,c1= #[x]:=by
  match c1,s1 with
  |⟨[x]⟩,_=>exact⟨x,rfl⟩
 obtain⟨x2,rfl⟩: ∃x,c2= #[x]:=by
  match c2,s2 with
  |⟨[x]⟩,_=>exact⟨x,rfl⟩
 have q0:(w.alloc (.cells #[I e] 291)).heap[w.heap.size]? =some (.cells #[I e] 291 (0,0)):=heap_alloc_new _ _;have q1:(w.alloc (.cells #[I e] 291)).heap[k1]? =some (.cells #[x1] Ud (0,0)):=(heap_alloc_old _ _ (h:=l1)).trans g1;have q2:(w.alloc (.cells #[I e] 291)).heap[k2]? =some (.cells #[x2] Ny (0,0)):=(heap_alloc_old _ _ (h:=l2)).trans g2;simp only[List.nodup_cons,List.mem_cons,dq,or_false,not_or] at tR;have hW: ∀k,k<w.heap.size->(w.alloc (.cells #[I e] 291)).heap[k]? =w.heap[k]? :=λk hk=>heap_alloc_old _ _ (h:=hk);have hWo:(w.alloc (.cells #[I e] 291)).os=w.os/\(w.alloc (.cells #[I e] 291)).tape=w.tape/\(w.alloc (.cells #[I e] 291)).output=w.output/\(w.alloc (.cells #[I e] 291)).heap.size=w.heap.size+1:=⟨rfl,rfl,rfl,Array.size_push _⟩;change Code.wp _ _ _ { tmps:= #[.pointer (some ⟨k1,0,none⟩),.pointer (some ⟨k2,0,none⟩),undef,.pointer (some ⟨w.heap.size,0,none⟩),undef,.iface 291 (.agg #[I e]),undef,B false,.tuple #[.agg #[I e],B true],B true,.agg #[I e],undef,undef],defers:=[] } (w.alloc (.cells #[I e] 291));generalize w.alloc (.cells #[I e] 291)=W at q0 q1 q2 hW hWo⊢;generalize fv:w.heap.size=s0 at l1 l2 q0 hW hWo⊢;have aiT:s0≠k1:=by omega
 have p0:W.drew.cell? ⟨s0,0,none⟩=some (I e):=Ca (W:=W.drew) q0;have p1:W.drew.cell? ⟨k1,0,none⟩=some x1:=Ca (W:=W.drew) q1;have f1:W.drew.frozen? ⟨k1,0,none⟩=false:=RO (W:=W.drew) q1;have r: ∀k,(W.setCell ⟨k1,0,none⟩ (.slice none 0 0)).heap[k]? =if k=k1 then some (.cells #[.slice none 0 0] Ud (0,0))else W.heap[k]? :=Mt _ q1
 have r0:(W.setCell ⟨k1,0,none⟩ (.slice none 0 0)).heap[s0]? =some (.cells #[I e] 291 (0,0)):=by rw[r,if_neg aiT];exact q0
 have r2:(W.setCell ⟨k1,0,none⟩ (.slice none 0 0)).heap[k2]? =some (.cells #[x2] Ny (0,0)):=by rw[r,if_neg (λe=>tR.1 e.symm)];exact q2
 have t0:(W.setCell ⟨k1,0,none⟩ (.slice none 0 0)).drew.cell? ⟨s0,0,none⟩=some (I e):=Ca (W:=(W.setCell ⟨k1,0,none⟩ (.slice none 0 0)).drew) r0;have t2:(W.setCell ⟨k1,0,none⟩ (.slice none 0 0)).drew.cell? ⟨k2,0,none⟩=some x2:=Ca (W:=(W.setCell ⟨k1,0,none⟩ (.slice none 0 0)).drew) r2;have t3:(W.setCell ⟨k1,0,none⟩ (.slice none 0 0)).drew.frozen? ⟨k2,0,none⟩=false:=RO (W:=(W.setCell ⟨k1,0,none⟩ (.slice none 0 0)).drew) r2
 go_region
 have r': ∀k,(((W.setCell ⟨k1,0,none⟩ (.slice none 0 0)).setCell ⟨k2,0,none⟩ (.int .i64 e)).drew).heap[k]? =if k=k2 then some (.cells #[I e] Ny (0,0))else(W.setCell ⟨k1,0,none⟩ (.slice none 0 0)).heap[k]? :=Mt _ r2
 have arZ:W.heap.size<=(((W.setCell ⟨k1,0,none⟩ (.slice none 0 0)).setCell ⟨k2,0,none⟩ (.int .i64 e)).drew).heap.size:=by
  show W.heap.size<=((W.setCell ⟨k1,0,none⟩ (.slice none 0 0)).setCell ⟨k2,0,none⟩ (.int .i64 e)).heap.size
  unfold World.setCell;simp only[Array.size_modify];exact Nat.le_refl _
 have aeU:(((W.setCell ⟨k1,0,none⟩ (.slice none 0 0)).setCell ⟨k2,0,none⟩ (.int .i64 e)).drew).os=w.os/\(((W.setCell ⟨k1,0,none⟩ (.slice none 0 0)).setCell ⟨k2,0,none⟩ (.int .i64 e)).drew).tape=w.tape/\(((W.setCell ⟨k1,0,none⟩ (.slice none 0 0)).setCell ⟨k2,0,none⟩ (.int .i64 e)).drew).output=w.output:=⟨hWo.1,hWo.2.1,hWo.2.2.1⟩;generalize ((W.setCell ⟨k1,0,none⟩ (.slice none 0 0)).setCell ⟨k2,0,none⟩ (.int .i64 e)).drew=w4 at r' arZ aeU⊢;have d1:w4.cell? ⟨k1,0,none⟩=some (.slice none 0 0):=Ca (ty:=Ud) (by rw[r',if_neg tR.1,r,if_pos rfl]);have d2:w4.cell? ⟨k2,0,none⟩=some (I e):=Ca (ty:=Ny) (by rw[r',if_pos rfl]);have ar0:aK.Outside [k1,k2] w w4:=by
  refine⟨aeU.1,aeU.2.1,aeU.2.2,?_,λk hl hk=>?_⟩
  ·omega
  ·simp only[List.mem_cons,dq,or_false,not_or] at hk;rw[r',if_neg hk.2,r,if_neg hk.1];exact hW k zQ
 obtain⟨e',Aj,hRe⟩:=hR _ _ (hRP w4 ar0);have he:e=e':=by simpa [vJ] using Aj
 subst he;simp only[Exit.inBlock];refine⟨rfl,.panicking [{ v:=.iface 291 (.agg #[I e]),recovered:=true }],rfl,.tuple #[],?_,⟨_,rfl⟩,rfl,_,hRe,λtmps ht=>?_⟩
 ·simp[results,Tryz.results167]
 ·unfold results;rw[ale];simp[ht 0 4 k1 rfl rfl,ht 1 5 k2 rfl rfl,asAddr,ez,Ue d2,agz d1]
open Go.Maps Go.Shelf
attribute [local irreducible] un jn jc iE ld1 iw st1 kY kZ oP rF o9 Hg Dz gO ga aV lK lB eW eV eU eC eF gE me fin iu bu eB vS Kz Hh Hi Hj Hk Hl KA KB KC KD Et Eu Hm Hn Ho KE KF KG
def runM:List jD->List gL->F5->Except Int (List gL×F5)
 |[],s,wr=>.ok (s,wr)
 |o::r,s,wr=>match uD o s wr with
  | .ok (s',oG)=>runM r s' oG
  | .error e=>.error e
def E4 (wr:F5):List KV:=(fG (wr.map (·.1))).map λk=>⟨k,(getM k wr).getD .zero⟩
theorem ajd {c:Int} {a b:gL} {l:List gL} (h:za c a b= .ok l):l.length=if c=15 then 2 else 1:=by
 unfold za at h;split at h
 ·cases h;rename_i e;rw[if_neg zQ];rfl
 ·split at h
  ·cases h;rename_i e;rw[if_neg zQ];rfl
  ·split at h
   ·cases h;rename_i e;rw[if_pos e];rfl
   ·split at h
    ·cases h
    ·cases h;rename_i e _;rw[if_neg e];rfl
variable {wr oG : F5} {s s' : List gL} {o : jD}
theorem alf (h:uD o s wr= .ok (s',oG)) (hc:1<=o.code/\o.code<=15) (hg:o.code≠1) (ht:tC o.code<=s.length):(s'.length:Int)=s.length+(Bl o.code-tC o.code):=by
 have h1:tC o.code=if o.code=3\/o.code=4 then 0 else if o.code=2\/o.code=13\/o.code=14 then 1 else 2:=by
  unfold tC;rw[if_neg zQ];by_cases q:o.code=3\/o.code=4
  ·rw[if_pos zQ,if_pos q]
  ·rw[if_neg zQ,if_neg q]
 have h2:Bl o.code=if o.code=2\/o.code=3\/o.code=13 then 0 else if o.code=14\/o.code=15 then 2 else 1:=by unfold Bl;rw[if_neg zQ]
 unfold uD at h;split at h
 ·rename_i e;cases h;rw[if_neg zQ,if_pos zQ] at h1;rw[if_pos zQ] at h2;rw[qT];omega
 ·split at h
  ·rename_i e;cases h;rw[if_pos zQ] at h1;rw[if_pos zQ] at h2;omega
  ·split at h
   ·rename_i e;cases h;rw[if_pos zQ] at h1;rw[if_neg zQ,if_neg zQ] at h2;rw[aL];omega
   ·split at h
    ·rename_i e;split at h
     ·cases h;rw[if_neg zQ,if_pos zQ] at h1;rw[if_pos zQ] at h2;rw[qT];omega
     ·cases h
    ·split at h
     ·rename_i e;cases h;rw[if_neg zQ,if_pos zQ] at h1;rw[if_neg zQ,if_pos zQ] at h2;rw[aL];omega
     ·split at h
      ·rename_i l hl;cases h;have:=ajd hl;rw[if_neg zQ,if_neg zQ] at h1;rw[aa,qT,qT];by_cases e15:o.code=15
       ·rw[if_pos e15] at this;rw[if_neg zQ,if_pos zQ] at h2;omega
       ·rw[if_neg e15] at this;rw[if_neg zQ,if_neg zQ] at h2;omega
      ·cases h
theorem an8 (h:uD o s wr= .ok (s',oG)):oG=wr\/ ∃v,oG=cL o.key v wr/\(o.code=2\/o.code=3):=by
 unfold uD at h;split at h
 ·rename_i e;cases h;exact .inr ⟨_,rfl,.inl e⟩
 ·split at h
  ·rename_i e;cases h;exact .inr ⟨_,rfl,.inr e⟩
  ·split at h
   ·cases h;exact .inl rfl
   ·split at h
    ·split at h
     ·cases h;exact .inl rfl
     ·cases h
    ·split at h
     ·cases h;exact .inl rfl
     ·split at h
      ·cases h;exact .inl rfl
      ·cases h
theorem aeV (h:Fs o (Jd o.code)=true) (hc:o.code=2\/o.code=3):o.key.size<=24:=by
 have hn:Jd o.code=1:=by unfold Jd;rw[if_neg zQ,if_neg zQ,if_pos zQ]
 unfold Fs at h;rw[hn] at h;split at h
 ·cases h
 ·rename_i h1;cases hg:iM o.key with
  |true=>unfold iM at hg;simp at hg;omega
  |false=>exact absurd (.inl ⟨rfl,hg⟩) h1
theorem aah {a b:Int} : ∀(p:List jD) (t:List (BA×Int)),t≠[]->p.foldl (kK a b) t≠[]
 |[],t,h=>h
 |o::p,t,h=>by
  rw[iB];refine aah p _ ?_;unfold kK;split
  ·cases t with
   |nil=>exact absurd rfl h
   |cons x t=>unfold cL;split<;>simp
  ·exact h
theorem aai {a b:Int} : ∀(p:List jD) (t:List (BA×Int)) (o:jD),o∈p->(o.code=a\/o.code=b)->iM o.key=true->p.foldl (kK a b) t≠[]
 |q::p,t,o,hm,hc,hk=>by
  rw[iB];rcases List.mem_cons.1 hm with rfl|hm
  ·refine aah p _ ?_;unfold kK;rw[if_pos ⟨hc,hk⟩];cases t with
   |nil=>simp[cL]
   |cons x t=>unfold cL;split<;>simp
  ·exact aai p _ o hm hc hk
theorem agB {l:List BA} (h:fG l=[]):l=[]:=by
 have:=(jx l).length_eq;rw[h] at this;exact List.length_eq_zero_iff.1 this.symm
theorem Mu: ∀{p:List jD} {h:Int},yQ p h=0-> ∀o∈p,Fs o (Jd o.code)=true/\1<=o.code/\o.code<=15
 |o::p,h,hc,q,hq=>by
  unfold yQ at hc;split at hc
  ·omega
  ·rename_i h1;split at hc
   ·omega
   ·rename_i h2;split at hc
    ·omega
    ·split at hc
     ·omega
     ·rcases List.mem_cons.1 hq with rfl|hq
      ·exact⟨by simpa using h2,Classical.not_not.1 h1⟩
      ·exact Mu hc q hq
variable {p : List jD}
theorem agC {h:Int} (hc:yQ p h=0) (hr:fq 1 1 p=[]): ∀o∈p,o.code≠1:=λo ho e=>by
 have hf:=(Mu hc o ho).1;have hk:iM o.key=true:=by
  unfold Fs at hf;rw[e] at hf;have:Jd 1=1:=by decide
  rw[this] at hf;split at hf
  ·cases hf
  ·rename_i h1;cases hg:iM o.key with
   |true=>rfl
   |false=>exact absurd (.inl ⟨rfl,hg⟩) h1
 have h2:=agB hr;rw[List.map_eq_nil_iff] at h2;exact aai p [] o ho (.inl e) hk h2
variable {N : Value -> Prop} {t : F5} {mb : Nat} {X : XS}
theorem aaj {k:BA} (h:dM w X nX mb aN mZ t) (n:N ((getM k t).getD .zero).v):aV pg X w (Instr.lookup 287 (.map (some mb)) (.string k) false) N:=by
 refine lO (kt:=9) (et:=97) (kv:=aN) gL.zero.v h yb kQ kQ (λv a hg hv=>?_) (λhg=>?_)
 ·simp only[mZ] at hv;subst hv;rw[hg] at n;exact n
 ·rw[hg] at n;exact n
variable {cs : List Value} {f : FuncId} {a : Value}
theorem PH {xs:List fe} {p:fe->Bool} (ha:Sl w X 7 a (xs.map fe.l)) (hX: ∀k,X k->k<w.heap.size) (hf:enters pg f=true)
  (hp: ∀x,Ct pg f ((.agg x.l.toArray)::cs).toArray w X nX λv _ _=>v=B (p x)):
  Ct pg 232 #[a,.func (.func f) #[] cs.toArray] w X nX λv _ _=>v=I (idxOf p xs):=by
 intro w0 hk;replace ha:=ha.mv hk.bY;replace hp:=λx=>((hp x).kp hk).bI λk hx=>aw (hX k hx) hk.size;have kn:=ha.gR;refine vG.1 λhs=>?_;repeat' refine ak ?_;intros
 refine eY (λn a w X=> ∃i:Nat,a=I (i:Nat)/\n=(xs).length-i/\i<=(xs).length/\ai (bI w0) w0 X w/\(∀(j:Nat) x,j<i->xs[j]? =some x->p x=false)) (xs).length ⟨0,rfl,rfl,aq _,hs,by simp⟩ ?_;rintro n a w X ⟨i,rfl,rfl,hi,hs,hw⟩;rcases dE (xs) i with⟨cD,x,hx,hd⟩|⟨dD,hd⟩
 ·repeat' first|refine aJ ?_;intros|(refine qr ?_;intro wa hk;(rw[BW hw hx ‹_›]))|((with_reducible refine ep ((xs).length-(i+1)) ?_ ?_);omega;exact⟨i+1,by simp,rfl,by omega,hs,λj y hj hy=>by rcases Nat.lt_succ_iff_lt_or_eq.1 hj with h|h;exact hw j y h hy;subst h;rw[hx] at hy;cases hy;assumption⟩)|(refine Ht ((hp x).since hs) hf hs.has ?_ ?_<;>(intro _ w X ax;replace hs:=hs.trans ax))
 ·repeat' first|refine aJ ?_;intros|(refine qr ?_;intro wa hk;(rw[yp λj x hj hx=>hw j x zQ hx]))
theorem aak {k:BA} (h:aG w X b [.string k] 9) (x:fe):Ct pg 233 ((.agg x.l.toArray)::[ptr b 0]).toArray w X nX λv _ _=>v=B (decide (x.key=k)):=by
 intro w0 hk;replace h:=h.mv hk.bY;have hs:=ai.init w0;refine Ro.1 λ_=>?_;repeat' first|refine ak ?_;intros|refine cM ?_ ?_<;>intros|(refine qr ?_;intro wa hk;(congr 1;simp_all))
theorem GD {α:Type} {p:α->Bool} {l:List α} :(idxOf p l= -1/\ ∀x∈l,p x=false)\/ ∃(i:Nat) (x:α),l[i]? =some x/\p x=true/\idxOf p l=i:=by
 by_cases h: ∀(k:Nat) x,k<l.length->l[k]? =some x->p x=false
 ·exact .inl ⟨yp h,λx hx=>by obtain⟨k,hk,e⟩:=List.getElem_of_mem hx;exact h k x hk (by rw[List.getElem?_eq_getElem hk,e])⟩
 ·right;have key: ∀n,(∃(i:Nat) (x:α),i<n/\l[i]? =some x/\p x=true)-> ∃(i:Nat) (x:α),l[i]? =some x/\p x=true/\ ∀k y,k<i->l[k]? =some y->p y=false:=λn=>by
   induction n with
   |zero=>rintro⟨i,_,hi,_⟩;omega
   |succ n ih=>
    rintro⟨i,x,hi,hx,hp⟩;by_cases h2: ∃(i:Nat) (x:α),i<n/\l[i]? =some x/\p x=true
    ·exact ih h2
    ·refine⟨i,x,hx,hp,λk y hk hy=>?_⟩;cases hpy:p y with
     |false=>rfl
     |true=>exact absurd ⟨k,y,by omega,hy,hpy⟩ h2
  have h3: ∃(i:Nat) (x:α),i<l.length/\l[i]? =some x/\p x=true:=Classical.byContradiction λhn=>h λk x hk hx=>by
   cases hpx:p x with
   |false=>rfl
   |true=>exact absurd ⟨k,x,hk,hx,hpx⟩ hn
  obtain⟨i,x,hx,hp,hm⟩:=key _ h3;exact⟨i,x,hx,hp,BW hm hx hp⟩
variable {sn : List fe}
theorem abq {b:Value} {ks:List BA} (ha:Sl w X 1 a (ks.map S1)) (hb:Sl w X 7 b (sn.map fe.l)):
  Ct pg 166 #[a,b] w X nX λv wa w'=> ∃e vm,v= .tuple #[vm,I e]/\(ks=[]->e=0)/\(e=0-> ∃sb sd,vm= .map (some sb)/\dM w' (made wa w') nX sb aN mZ sd):=by
 obtain⟨bb,bn,bc,rfl⟩:=hb.form;intro w0 hk;replace ha:=ha.mv hk.bY;replace hb:=hb.mv hk.bY;have kn:=ha.gR;have hs:=ai.init w0;refine Zd.1 λ_=>?_;refine ri (kv:=λk:BA=>aN k) mZ nX hs.has λmb w1 X1 ZP ax qp=>?_;have bp:=hs.trans ax;have rK:=ha.mv bp.mv;have hF:FX nX (bI w0) w0:=λk ah=>ah.elim;have ea:Ft w0 nX w1 X1 (· =mb):=((hF.ft (Kp.refl _ _)).since ax).more λk e=>.inr ⟨by rw[e];exact qp.x.1,by rw[e];exact ZP⟩;clear hs bp;have hs:=ai.eQ ea.s.has;repeat' refine ak ?_;intros
 refine gv (λn a b w X=> ∃(i:Nat) (bad:Bool) (sd:List (BA×gL)),a=I i/\b=B bad/\n=ks.length-i/\i<=ks.length/\(ks=[]->bad=false)/\Ft w0 nX w X (· =mb)/\dM w (· =mb) nX mb aN mZ sd) ks.length ⟨0,_,[],rfl,rfl,rfl,aq _,λ_=>rfl,ea,lp qp rfl⟩ ?_;clear hs ea ax qp rK;rintro n _ _ w X ⟨i,bad,sd,rfl,rfl,rfl,hi,pG,hT,hm⟩;have hs:=hT.C4;have uJ:=hb.mv hs.mv;rcases dE (ks) i with⟨cD,y,hx,hd⟩|⟨dD,hd⟩
 ·have cA:ks≠[]:=λe=>by rw[e] at hx;simp at hx
  repeat' refine aJ ?_;intros
  refine aiE (z:=.string ⟨#[]⟩) hs.has kQ rfl λbx w1 X1 fY ax bo=>?_;have ea:Ft w0 nX w1 X1 (λk=>k=mb\/k=bx):=(hT.since ax).more λk e=>e.imp id λe=>⟨by rw[e];exact bo.1,by rw[e];have:=hT.s.kp.size;omega⟩;refine pM (o:=0) bo zQ kQ sQ rfl ea.s.has λw2 X2 c2 jC=>?_;have dh:Ft w0 nX w2 X2 (λk=>k=mb\/k=bx):=ea.dY c2 (λk e=>.inr e) λk e=>.inl e;have an9:aG w2 X2 bx [.string y] 9:=jC;have rl:dM w2 (· =mb) nX mb aN mZ sd:=hm.mv kA (λk ah hl=>⟨ah,(c2.block k (ax.sub k (by rw[ah];exact hT.bw _ rfl)) (by have:=hm.x.2;omega)).trans (ax.kp.block k (by rw[ah];exact hT.bw _ rfl))⟩) λ_ h=>h.elim;have OU:=hb.mv dh.C4.mv;clear hs ax hm hT uJ ea bo jC c2;have hs:=ai.eQ dh.s.has;repeat' refine ak ?_;intros
  refine dL (PH (p:=λx=>decide (x.key=y)) OU dh.s.has kQ (aak an9)) kQ hs.has λw3 X3 cY=>?_;have dU:=dh.since cY;have qo:=rl.mv kA (cY.gU λk (ah:k=mb)=>by rw[ah];exact dh.bw _ (.inl rfl)) (A':=nX) λ_ h=>h.elim;have aqd:=OU.mv cY.mv;clear hs;have hs:=ai.eQ cY.has;rcases GD (p:=λx:fe=>decide (x.key=y)) (l:=sn)with⟨e,_⟩|⟨j,z,hz,hpz,e⟩
  ·rw[e];repeat' refine aJ ?_;intros
   exact dU.fin λwa aH=>⟨_,_,rfl,λh=>absurd h cA,λh=>absurd h dQ⟩
  ·rw[e];have MD:=an9.since cY;have Mp: ∀{w4:World} {X4:XS},ai X3 w3 X4 w4-> ∀{K:World->XS->Prop},(∀w5 X5,Ft w0 nX w5 X5 (· =mb)->dM w5 (· =mb) nX mb aN mZ (cL y z.val sd)->K w5 X5)->
     eU pg (uF nX w0 λv w'=>(λv wa w'=> ∃e vm,v= .tuple #[vm,I e]/\(ks=[]->e=0)/\(e=0-> ∃sb sd,vm= .map (some sb)/\dM w' (made wa w') nX sb aN mZ sd)) v w0 w') X4 w4 true (Instr.mapUpdate 287 (.map (some mb)) (.string y) z.val.v) (λ_=>K):=λ{w4} {X4} fV {K} hK=>by
    have fO:=dU.since fV;have Ao:=qo.mv kA (fV.gU λk (ah:k=mb)=>by rw[ah];exact dU.bw _ (.inl rfl)) (A':=nX) λ_ h=>h.elim;refine uY (kv:=aN) (k:=y) (a:=z.val) (kt:=9) (et:=97) (lp Ao (fO.bw _ (.inl rfl))) kA rfl (λ_ h=>h.elim) yb kQ fO.s.has λw5 X5 c5 xC=>?_;exact hK _ _ (fO.dY (F':=(· =mb)) c5 (λk ah=>.inl ah) λk ah=>.inl (.inl ah)) (lp xC rfl)
   have nj: ∀{w5:World} {X5:XS} {b2:Bool},Ft w0 nX w5 X5 (· =mb)->dM w5 (· =mb) nX mb aN mZ (cL y z.val sd)->Eu (J2 λn a b w X=> ∃(i:Nat) (bad:Bool) (sd:List (BA×gL)),a=I i/\b=B bad/\n=ks.length-i/\i<=ks.length/\(ks=[]->bad=false)/\Ft w0 nX w X (· =mb)/\dM w (· =mb) nX mb aN mZ sd) (ks.length-i) (I ((i+1:Nat):Int)) (B b2) w5 X5:=λiN xC=>
    fw (ks.length-(i+1)) zQ ⟨i+1,_,_,rfl,rfl,rfl,by omega,λe=>absurd e cA,iN,xC⟩
   have Ql:(i:Int)+1=((i+1:Nat):Int):=by simp
   cases bad
   ·repeat' first|refine aJ ?_;intros|with_reducible apply cB|(refine j5 (l9 _) hs ?_ ?_<;>intro _ w X hs)
    all_goals
     refine Mp hs λw5 X5 iN xC=>?_;clear hs;have hs:=iN.C4;repeat' first|refine ak ?_;intros|(rw[Ql];exact nj iN xC)
   ·repeat' first|refine aJ ?_;intros|with_reducible apply cB
    refine Mp (ai.eQ dU.s.has) λw5 X5 iN xC=>?_;clear hs;have hs:=iN.C4;repeat' first|refine ak ?_;intros|(rw[Ql];exact nj iN xC)
 ·cases bad
  ·repeat' refine aJ ?_;intros
   exact hT.fin λwa aH=>⟨_,_,rfl,λ_=>rfl,λ_=>⟨mb,sd,rfl,hm.mv kA (λk (ah:k=mb) hl=>by subst ah;exact⟨⟨ZP,aw hl aH.size⟩,aH.block _ (hT.bw _ rfl)⟩) λ_ h=>h.elim⟩⟩
  ·repeat' refine aJ ?_;intros
   exact hT.fin λwa aH=>⟨_,_,rfl,λe=>absurd (pG e) dQ,λh=>absurd h dQ⟩
structure cO.small (m:cO):Prop where
 seen:m.seen.length<=2^40
 writes:m.writes.length<=2^40
 bt: ∀r∈m.bt,r.small
 enc: ∀r∈m.bt,r.err=0->(gf r).length<=2^33
 state:m.state.small
def cO.MM (m:cO):Bool:=m.aO.may&&wg m.range&&(
 if m.kind=1 then decide (m.iD>=0)&&m.aS.may&&yw m.keys&&decide ((m.keys.length:Int)>0)
 else if m.kind=2 then codeOk m.code (H7 m.seen&&decide ((m.seen.length:Int)>0)) m.ranges&&m.aS.may&&(decide (m.code=0)||decide ((m.seen.length:Int)=0))
 else if m.kind=3 then decide (m.iD>=0)&&m.aS.may&&H7 m.seen&&Mb m.writes&&yt m.parts&&M9 m.parts m.range
 else if m.kind=4 then codeOk m.code true m.ranges&&m.aS.may
 else if m.kind=5 then(if m.jF then m.aS.may&&decide (m.aS≠ .zero)else decide (m.aS= .zero))
 else true)
variable {vc vd vh vk vp vr vs vw : Value} {m : cO}
theorem aal (h:m.at w X vk vs vw vp vr vc vh vd) (lX:m.small):
  Ct pg 149 #[m.v vk vs vw vp vr vc vh vd] w X nX λv _ _=>v=B m.MM:=by
 intro w0 hk;replace h:=h.mv hk.bY;obtain⟨h1,h2,h3,h4,h5,h6,h7,h8⟩:=h;obtain⟨b1,n1,c1,rfl⟩:=h1.form;obtain⟨b2,n2,c2,rfl⟩:=h2.form;obtain⟨b3,n3,c3,rfl⟩:=h3.form;obtain⟨b4,n4,c4,rfl⟩:=h4.form;obtain⟨b5,n5,c5,rfl⟩:=h5.form;refine Vl.1 λhs=>?_;repeat' first|refine ak ?_;intros|refine cM ?_ ?_<;>intros|(with_reducible refine Fk _ ?_ ?_ ?_);(· kernel_rfl);all_goals intros|(with_reducible refine af8 _ ?_ ?_ ?_);(· kernel_rfl);all_goals intros|with_reducible apply cB|(refine j5 (pD _) hs ?_ ?_<;>intro _ w X hs)|(refine j5 (Dv _) hs ?_ ?_<;>intro _ w X hs)|(refine j5 (Dr _) hs ?_ ?_<;>intro _ w X hs)|(refine qk (G4  qA) hs ?_ ?_<;>intro _ w X hs)|(refine qk (abo  qA lX.seen) hs ?_ ?_<;>intro _ w X hs)|(refine qk (Ti  qA lX.writes) hs ?_ ?_<;>intro _ w X hs)|(refine qk (Mc  qA) hs ?_ ?_<;>intro _ w X hs)|(refine qk (aeN  qA) hs ?_ ?_<;>intro _ w X hs)|(refine qk ((abp (xs:=m.ranges))  qA) hs ?_ ?_<;>intro _ w X hs)
 all_goals
  (with_reducible refine bM hs ?_)
  intro wa aH;unfold cO.MM;repeat (first|rw[if_pos zQ]|rw[if_neg zQ])
  simp_all [wg]<;>first|omega|(rename_i z9;intro e9;simp[e9] at z9;done)|(intro e9;simp_all;done)|grind
def cO.qa (m:cO):Bool:=
 if 1<=m.kind/\m.kind<=7 then m.MM
 else if m.kind=8 then wg m.range&&decide (m.n>=1)&&decide (m.mx>=0)&&decide (m.mx<=8)&&m.aS.may
 else if m.kind=9 then wg m.range&&decide (m.n>=1)&&Na m.bt
 else if m.kind=10 then wg m.range&&m.state.may&&decide (m.state.range.id=m.range)
 else if m.kind=11 then wg m.range
 else if m.kind=12 then M5 m.prev m.aS m.aO m.writes
 else if m.kind=14 then m.aS.may
 else true
theorem Tj (h:m.at w X vk vs vw vp vr vc vh vd) (lX:m.small):
  Ct pg 99 #[m.v vk vs vw vp vr vc vh vd] w X nX λv _ _=>v=B m.qa:=by
 intro w0 hk;replace h:=h.mv hk.bY;obtain⟨h1,h2,h3,h4,h5,h6,h7,h8⟩:=id h;obtain⟨b3,n3,c3,rfl⟩:=h3.form;refine SK.1 λhs=>?_;repeat' first|refine ak ?_;intros|refine cM ?_ ?_<;>intros|with_reducible apply cB|(refine j5 (pD _) hs ?_ ?_<;>intro _ w X hs)|(refine j5 (Dv _) hs ?_ ?_<;>intro _ w X hs)|(refine qk ((aal (m:=m))  (h.mv (ai.mv hs)) lX) hs ?_ ?_<;>intro _ w X hs)|(refine qk ((aad (xs:=m.bt))  (fp.mv h6 Rec.mv (ai.mv hs)) lX.bt lX.enc) hs ?_ ?_<;>intro _ w X hs)|(refine qk (Gg  (s:=m.state) qA qA lX.state) hs ?_ ?_<;>intro _ w X hs)|(refine qk ((Mk (l:=m.writes))  qA lX.writes) hs ?_ ?_<;>intro _ w X hs)
 all_goals
  (with_reducible refine bM hs ?_)
  intro wa aH;unfold cO.qa;repeat (first|rw[if_pos zQ]|rw[if_neg zQ])
  try (simp_all [wg]<;>first|omega|grind)
def cO.isZero (m:cO):Bool:=decide (m.aO= .zero)&&decide (m.range=0)&&decide (m.iD=0)&&decide (m.code=0)&&decide (m.aS= .zero)&&decide (m.prev= .zero)&&!m.jF&&decide (m.n=0)&&decide (m.mx=0)&&
 m.state.isZero&&decide ((m.keys.length:Int)+m.seen.length+m.writes.length+m.parts.length+m.ranges.length+m.bt.length=0)
theorem aam (h:m.at w X vk vs vw vp vr vc vh vd) (zm:m.keys.length+m.seen.length+m.writes.length+m.parts.length+m.ranges.length+m.bt.length<=2^62):
  Ct pg 98 #[m.v vk vs vw vp vr vc vh vd] w X nX λv _ _=>v=B m.isZero:=by
 intro w0 hk;replace h:=h.mv hk.bY;obtain⟨h1,h2,h3,h4,h5,h6,h7,h8⟩:=h;have o7:=h7.one;have o8:=h8.one;refine Y9.1 λhs=>?_;cases hc:m.jF<;>
 repeat' first|refine ak ?_;intros|refine cM ?_ ?_<;>intros|(with_reducible refine Fk _ ?_ ?_ ?_);(· kernel_rfl);all_goals intros|(with_reducible refine af9 _ ?_ ?_ ?_);(· kernel_rfl);all_goals intros|with_reducible apply cB|(refine qr ?_;intro wa hk;(simp_all [cO.isZero,State.isZero,dR.ext_iff]<;>omega))|((with_reducible refine CZ (Ad _) hs.has ?_);intro w X ax;replace hs:=hs.trans ax)
def cO.strip (m:cO):cO×Bool:=
 if m.kind=1 then({ m with aO:=.zero,range:=0,iD:=0,aS:=.zero,keys:=[] },true)
 else if m.kind=2 then({ m with aO:=.zero,range:=0,code:=0,aS:=.zero,seen:=[],ranges:=[] },true)
 else if m.kind=3 then({ m with aO:=.zero,range:=0,iD:=0,aS:=.zero,seen:=[],writes:=[],parts:=[] },true)
 else if m.kind=4 then({ m with aO:=.zero,range:=0,code:=0,aS:=.zero,ranges:=[] },true)
 else if m.kind=5 then({ m with aO:=.zero,range:=0,jF:=false,aS:=.zero },true)
 else if m.kind=6\/m.kind=7 then({ m with aO:=.zero,range:=0 },true)
 else if m.kind=8 then({ m with range:=0,n:=0,mx:=0,aS:=.zero },true)
 else if m.kind=9 then({ m with range:=0,n:=0,bt:=[] },true)
 else if m.kind=10 then({ m with range:=0,state:=.zero },true)
 else if m.kind=11 then({ m with range:=0 },true)
 else if m.kind=12 then({ m with prev:=.zero,aS:=.zero,aO:=.zero,writes:=[] },true)
 else if m.kind=13 then(m,true)
 else if m.kind=14 then({ m with aS:=.zero },true)
 else(m,false)
theorem RQ (h:m.at w X vk vs vw vp vr vc vh vd):
  Ct pg 96 #[m.v vk vs vw vp vr vc vh vd] w X nX λv wa w'=> ∃Hq CA lz Ju ZD vc' ZE ZF,v= .tuple #[m.strip.1.v Hq CA lz Ju ZD vc' ZE ZF,B m.strip.2]/\
   m.strip.1.at w X Hq CA lz Ju ZD vc' ZE ZF:=by
 intro w0 hk;obtain⟨h1,h2,h3,h4,h5,h6,h7,h8⟩:=h;have o1:=h1.one;have o2:=h2.one;have o3:=h3.one;have o4:=h4.one;have o5:=h5.one;have o6:=h6.one;have o7:=h7.one;have o8:=h8.one;refine Ri.1 λhs=>?_;have n1:Sl w X 1 (.slice none 0 0) (([]:List BA).map S1):=Sl.nil _ _ _;have n2:Sl w X 7 (.slice none 0 0) (([]:List fe).map fe.l):=Sl.nil _ _ _;have n4:Sl w X 1 (.slice none 0 0) (([]:List Int).map I1):=Sl.nil _ _ _;have n5:Sl w X 4 (.slice none 0 0) (([]:List dR).map dR.l):=Sl.nil _ _ _;have n6:fp w X 29 (.slice none 0 0) Rec.rd []:=fp.nil _ _ _;have n7:qy w X (.slice none 0 0) []:=fp.nil _ _ _;have n8:qx w X (.slice none 0 0) []:=fp.nil _ _ _;repeat' first|refine ak ?_;intros|refine cM ?_ ?_<;>intros|with_reducible apply cB
 all_goals
  refine bM hs ?_;intro wa aH;unfold cO.strip;repeat (first|rw[if_pos zQ]|rw[if_neg zQ])
  exact⟨_,_,_,_,_,_,_,_,rfl,by omega,by assumption,by assumption,by assumption,by omega,by assumption,by assumption,by assumption⟩
def cO.err (m:cO):Int:=if !m.strip.2 then 7 else if !RM m.fr||!RM m.to||!m.strip.1.isZero||!m.qa then 4 else 0
def cO.lens (m:cO):Nat:=m.keys.length+m.seen.length+m.writes.length+m.parts.length+m.ranges.length+m.bt.length
theorem aje {c:Prop} [Decidable c] {a b:cO×Bool} {n:Nat} (ha:a.1.lens<=n) (hb:b.1.lens<=n):(if c then a else b).1.lens<=n:=by grind
theorem cO.aeW (m:cO):m.strip.1.lens<=m.lens:=by
 unfold cO.strip;repeat' with_reducible apply aje
 all_goals (unfold cO.lens;grind)
theorem aaP (h:m.at w X vk vs vw vp vr vc vh vd) (lX:m.small) (zm:m.lens<=2^62):
  Ct pg 53 #[m.v vk vs vw vp vr vc vh vd] w X nX λv _ _=>v=I m.err:=by
 intro w0 hk;have h:=h.mv hk.bY;have ar1:=Nat.le_trans m.aeW zm;refine aaY.1 λhs=>?_;refine cd (RQ h) kQ hs.has ?_;rintro v wa w X ⟨Hq,CA,lz,Ju,ZD,vc',ZE,ZF,rfl,dF⟩ hle gn ax;replace hs:=hs.trans ax;have q1:=dF.1.one;have q2:=dF.2.one;have q3:=dF.3.one;have q4:=dF.4.one;have q5:=dF.5.one;have q6:=dF.6.one;have q7:=dF.7.one;have q8:=dF.8.one;cases hb:m.strip.2<;>
 repeat' first|refine ak ?_;intros|with_reducible apply cB|(refine j5 (abn _) hs ?_ ?_<;>intro _ w X hs)|(refine qr ?_;intro wa hk;(simp[cO.err, *]))|(refine qk ((aam (m:=m.strip.1))  (dF.mv (ai.mv (by first|assumption|exact ai.trans aQ aQ))) ar1) hs ?_ ?_<;>intro _ w X hs)|(refine qk ((Tj (m:=m))  (h.mv (ai.mv hs)) lX) hs ?_ ?_<;>intro _ w X hs)
variable {xo yo : Operand} {P : Program}
theorem alg {t:TypeId} {a:Bool} (ht:P.underlying t=some .bool) (k:N (.bool false)):aV P X w (eB .neq t xo yo (.bool a) (.bool a)) N:=by
 refine bF (λwa=>?_) k;simp[eB,eqGuard,run_neq_bool wa t a a ht]
theorem alh {t:TypeId} {a b:Bool} (ht:P.underlying t=some .bool) (h:a≠b) (k:N (.bool true)):aV P X w (eB .neq t xo yo (.bool a) (.bool b)) N:=by
 refine bF (λwa=>?_) k;have:(a==b)=false:=by cases a<;>cases b<;>simp_all
 simp[eB,eqGuard,run_neq_bool wa t a b ht,this]
theorem PI {xs:List cO} {p:cO->Bool} (ha:fp w X 36 a cO.rd xs) (hX: ∀k,X k->k<w.heap.size) (hf:enters pg f=true)
  (hp: ∀(x:cO) vk vs vw vp vr vc vh vd,aK.one vk=true->aK.one vs=true->aK.one vw=true->aK.one vp=true->aK.one vr=true->aK.one vc=true->aK.one vh=true->aK.one vd=true->Ct pg f ((x.v vk vs vw vp vr vc vh vd)::cs).toArray w X nX λv _ _=>v=B (p x)):
  Ct pg 225 #[a,.func (.func f) #[] cs.toArray] w X nX λv _ _=>v=I (idxOf p xs):=by
 intro w0 hk;replace ha:=fp.mv ha cO.mv hk.bY;replace hp:=λ(x:cO) vk vs vw vp vr vc vh vd h1 h2 h3 h4 h5 h6 h7 h8=>((hp x vk vs vw vp vr vc vh vd h1 h2 h3 h4 h5 h6 h7 h8).kp hk).bI λk hx=>aw (hX k hx) hk.size;have kn:=ha.len;refine wB.1 λhs=>?_;repeat' refine ak ?_;intros
 refine eY (λn a w X=> ∃i:Nat,a=I (i:Nat)/\n=(xs).length-i/\i<=(xs).length/\ai (bI w0) w0 X w/\(∀(j:Nat) x,j<i->xs[j]? =some x->p x=false)) (xs).length ⟨0,rfl,rfl,aq _,hs,by simp⟩ ?_;rintro n a w X ⟨i,rfl,rfl,hi,hs,hw⟩;rcases dE (xs) i with⟨cD,x,hx,hd⟩|⟨dD,hd⟩
 ·have rK:=fp.mv ha cO.mv hs.mv;repeat' refine aJ ?_;intros
  refine FH rK hx rfl kQ kQ λbb oo ll hc jv=>?_;obtain⟨vk,vs,vw,vp,vr,vc,vh,vd,rfl,dF⟩:=jv;have q1:=dF.keys.one;have q2:=dF.seen.one;have q3:=dF.writes.one;have q4:=dF.parts.one;have q5:=dF.ranges.one;have q6:=dF.bt.one;have q7:=dF.iz.one;repeat' refine ak ?_;intros
  refine Ht ((hp x vk vs vw vp vr vc vh vd q1 q2 q3 q4 q5 q6 q7 dF.gX.one).since hs) hf hs.has (λhb w2 X2 bp=>?_) (λhb w2 X2 bp=>?_)
  ·repeat' refine ak ?_;intros
   exact bM (hs.trans bp) λ_ _=>by rw[BW hw hx hb]
  ·repeat' refine ak ?_;intros
   exact ep (xs.length-(i+1)) zQ ⟨i+1,by simp,rfl,by omega,hs.trans bp,λj y hj hy=>by rcases Nat.lt_succ_iff_lt_or_eq.1 hj with h|h;exact hw j y h hy;subst h;rw[hx] at hy;cases hy;exact hb⟩
 ·repeat' first|refine ak ?_;intros|refine cM ?_ ?_<;>intros|(refine qr ?_;intro wa hk;(rw[yp λj x hj hx=>hw j x zQ hx]))|(exfalso;omega)
theorem agD {c t:cx} (h:c.may=true) (ht:t.may=true):(c.later ⟨t.wall,t.dC,c.node⟩).may=true:=by
 unfold cx.later;split
 ·simp only[cx.may,Bool.and_eq_true,decide_eq_true_eq] at h ht⊢;(try simp only);omega
 ·exact h
variable {w' : World} {X' : XS} {n : bE} {id : Int}
section
variable {wa w0 : World} {own aI bZ : Nat -> Nat} {n' : bE} {x : AcV} {ws : List cO}
theorem aan (h:aG w X b [I id] 3):
  Ct pg 226 #[m.v vk vs vw vp vr vc vh vd,ptr b 0] w X nX λv _ _=>v=B (decide (m.range=id)):=by
 intro w0 hk;replace h:=h.mv hk.bY;refine Dq.1 λhs=>?_;repeat' first|refine ak ?_;intros|refine cM ?_ ?_<;>intros|(refine qr ?_;intro wa hk;(simp[*]))
theorem Fu (ha:aG w X b (Jq x vw) aT) (hw:fp w X 36 vw cO.rd ws):Ct pg 153 #[ptr b 0,I id] w X nX λv _ _=>v=I (idxOf (λm=>decide (m.range=id)) ws):=by
 intro w0 hk;replace ha:=ha.mv hk.bY;replace hw:=fp.mv hw cO.mv hk.bY;have o1:=hw.one;have hs:=ai.init w0;refine Fv.1 λ_=>?_;repeat' first|refine ak ?_;intros|(refine q1x hs ?_;intro bx w X fY ax fv hs bo)
 refine dL (PI (cs:=[ptr bx 0]) (p:=λm=>decide (m.range=id)) (fp.mv hw cO.mv fv.mv) hs.has kQ λx vk vs vw vp vr vc vh vd _ _ _ _ _ _ _ _=>aan bo) kQ hs.has λw2 X2 bp=>?_;exact bM (fv.trans bp) λ_ _=>rfl
def _root_.Go.aK.St.wts (s:Sn w0 bZ w X own n) (hb:n.dI b):fp w X 36 (n.A b).vw cO.rd (n.A b).ws:=
 have⟨_,h2,_,h4,_⟩:=s.h.act hb
 ⟨_,h2.sl.mono (s.sub _ iy.1),h4.1,λi l m h1 h2=>cO.mv (h4.2 i l m h1 h2) (Mv.sub (s.sub 4))⟩
theorem Qg (hp:n.pre=false):n.DA=ptr n.c.cb 0:=by unfold bE.DA;rw[hp];rfl
theorem Hv {e':List Nat} (h: ∀b∈e',b∈n.ex): ∀c,c≠0->c≠4-> ∀w K A,(dX n c).p w K A->(dX { n with ex:=e' } c).p w K A:=λc h0 _=>nz (Q:=λc=>c≠0) (n':= { n with ex:=e' }) (λb i hi _ w K A p=>by
 have q:({ n with ex:=e' } :bE).dI b->n.dI b:=.imp id (h b);rcases i with _|_|_|_|_|_|_|_|i<;>first|exact λha=>p (q ha)|exact p) (λi _ _ w K A p=>by rcases i with _|_|_|_|_|_|_|_|_|_|_|_|_|i<;>exact p) c h0
def DR (n:bE) (m:cO) (pp:Bool) (n':bE):Prop:= ∃b iq A3 oB yL,getM m.aO n.al=some b/\(n.A b).x.pre=pp/\m.code≠0/\
 n'= { n with ck:=iq,ds:=m.ranges.foldl ib n.ds,al:=j9 m.aO n.al,vm:=A3,va:=oB,rm:=yL,ra:=n.ra++[Ey m.code m.aO .zero false aP],ms:=n.ms++(if pp then(n.A b).ids.map λid=>(Sj m.aO id).pU (20+n.c.id)else []) }
structure DS (n:bE) (m:cO) (pp:Bool) (b i:Nat) (y:cO):Prop where
 g:getM m.aO n.al=some b
 pre:(n.A b).x.pre=pp
 code:m.code=0
 gK:(n.A b).ws[i]? =some y
 oR:y.range=m.range
def NoW (n:bE) (m:cO) (pp:Bool):Prop:= ∀b i y,¬DS n m pp b i y
def ajP (n:bE) (m:cO) (pp:Bool) (v:Value) (n':bE):Prop:=
 (v= .tuple #[.pointer none,I 0]/\((∃iq,n'= { n with ck:=iq } /\NoW n m pp)\/DR n m pp n'))\/
 ∃(b i:Nat) (y:cO) (iq:cx),DS n m pp b i y/\v= .tuple #[ptr b 0,I i]/\n'= { n with ck:=iq }
theorem Hy {lz:Value} {pp:Bool} (h:jd w own n) (hX:qW own X) (hp:n.pre=false) (fN:m.aS.may=true) (HM:Sl w (bN own 4) 4 vr (m.ranges.map dR.l)) (hi:1<=n.c.id/\n.c.id<=2) (hl:n.ra.length<=2^20) (hpq: ∀b,getM m.aO n.al=some b->(n.A b).pq=false) (xx: ∀b,getM m.aO n.al=some b->n.rm.length+(n.A b).ids.length<=2^20):
  Ct pg 100 #[ptr n.nb 0,m.v vk vs lz vp vr vc vh vd,B pp] w X (gy own) λv wa w'=>NQ dX own wa w' λ_ n'=>ajP n m pp v n':=by
 intro w0 hk;have s:=St.init h hX hk;replace HM:=HM.mv (yG hX hk);have hr:=s.v.1;have hs:=s.rf;have no:(∀b i y,¬DS n m pp b i y)->ajP n m pp (.tuple #[.pointer none,I 0]) n:=λh=>.inl ⟨rfl,.inl ⟨n.ck,rfl,h⟩⟩;refine IQ.1 λ_=>?_;repeat' refine ak ?_;intros
 refine lO (kt:=34) (et:=116) (kv:=λk:bL=>k.v) (k:=m.aO) (.pointer none) (s.zO 5:) sJ kQ kQ (λv b kO rE=>?_) (λhn=>?_);case refine_2=>
  repeat' first|refine ak ?_;intros|with_reducible apply cB
  exact s.fin λ_ _=>no λb i y h=>by rw[h.g] at hn;cases hn
 simp only[xz] at rE;subst rE;have hb:n.dI b:=.inl ⟨_,kO⟩;obtain⟨ha,o1,o2,o3,o4⟩:=s.va hb;have only: ∀{b' i y},DS n m pp b' i y->b'=b:=λh=>by have:=h.g;rw[kO] at this;cases this;rfl
 repeat' refine ak ?_;intros
 by_cases hpp:(n.A b).x.pre=pp;case neg=>
  refine alh kQ hpp ?_;repeat' first|refine ak ?_;intros|with_reducible apply cB
  exact s.fin λ_ _=>no λb' i y h=>hpp (by have e:=only h;subst e;exact h.pre)
 subst hpp;refine alg kQ ?_;repeat' first|refine ak ?_;intros|with_reducible apply cB
 refine dL (Fu (id:=m.range) ha (s.wts hb)) kQ hs.has λw1 X1 ax=>?_;have s1:=s.since ax;replace HM:=HM.mv (ax.gU (s.sub 4));rcases GD (p:=λy:cO=>decide (y.range=m.range)) (l:=(n.A b).ws)with⟨e,en⟩|⟨i,y,hy,hpy,e⟩
 ·rw[e];clear hs;repeat' refine aJ ?_;intros
  exact s1.fin λ_ _=>no λb' i y h=>by
   have e:=only h;subst e;exact absurd (en y (ay h.gK)) (by simp[h.oR])
 have hyr:y.range=m.range:=by simpa using hpy
 rw[e];clear hs hr ha s;have hs:=s1.rf;have hr:=s1.v.1;rw[Qg hp] at hr;repeat' refine aJ ?_;intros
 have AQ:=(show n.pre=false->aG w1 (bN own 7) n.c.cb (Gv n.ck) Il/\n.ck.may=true from s1.get 7) hp;have Qi: ∀k,k=n.c.cb->own k=7:=λk e=>by rw[e];exact AQ.1.1
 refine yR (VO (AQ.1.mono (s1.sub 7)) fN) kQ s1.has (λk e=>s1.x k (by have:=Qi k e;omega)) λv vM w2 X2 q2 kF jt _ c2=>?_;obtain⟨_,VT⟩:=q2;obtain⟨lC,s2,m2⟩:=s1.De (F':=dX { n with ck:=n.ck.later ⟨m.aS.wall,m.aS.dC,n.ck.node⟩ }) 7 c2 Qi (· =n.c.cb) (λk e=>.inl (Qi k e)) (λK _ _=>⟨VT,agD AQ.2 fN⟩) nz;replace HM:=HM.mv m2;clear hs hr s1;generalize n.ck.later ⟨m.aS.wall,m.aS.dC,n.ck.node⟩=iq at s2;have hs:=s2.rf;have hr:=s2.v.1;by_cases hcd:m.code=0
 ·repeat' refine aJ ?_;intros
  refine dL (Fu (id:=m.range) (s2.va (b:=b) hb).1 (s2.wts (b:=b) hb)) kQ hs.has λw3 X3 cY=>?_;rw[e];exact(s2.since cY).fin λwa aH=>.inr ⟨b,i,y,iq,⟨kO,rfl,hcd,hy,hyr⟩,rfl,rfl⟩
 repeat' refine aJ ?_;intros
 have hd:kJ w2 (bN lC 2) n.c.R9 n.mb n.ds:=s2.get 2;refine yR (Ov hd (s2.fxc 2) HM λk (e:lC k=4)=>⟨s2.x k zQ,λe'=>by have:lC n.mb=2:=hd.map.x.1;rw[e'] at e;omega⟩) kQ s2.has (λk e=>s2.x k (by rw[show k=n.mb from e,show lC n.mb=2 from hd.map.x.1];decide)) λv yD w3 X3 q3 pV lT _ c3=>?_;obtain⟨nf,s3,m3⟩:=s2.De (F':=dX { n with ck:=iq,ds:=m.ranges.foldl ib n.ds }) 2 c3 (λk e=>by rw[show k=n.mb from e];exact hd.map.x.1) (bN lC 2) (λk e=>.inl e) (λK _=>q3.2) nz;clear hs hr s2;have hs:=s3.rf
 skip
 refine s3.call (zF (n:= { n with ck:=iq,ds:=_ }) (b:=b) (code:=m.code) s3.h s3.x hb (hpq b kO) hl hi (xx b kO)) kQ λv w4 X4 lD n4 s4 q4 m4=>?_;obtain⟨oB,A3,yL,rfl,_⟩:=q4;have s5:=s4.to (Hv (e':=n.ex) λ_=>List.mem_cons_of_mem _);clear hs
 skip
 have hk:(n.A b).x.aO=m.aO:=(show∀t b,getM t n.al=some b->(n.A b).x.aO=t from h.gK 12 dQ dQ) _ _ kO;refine s5.fin λwa aH=>.inl ⟨rfl,.inr ⟨b,iq,A3,oB,yL,kO,rfl,hcd,?_⟩⟩;rw[<-hk]
end
section
variable {N N' S : XS} {rb sb wb : Nat} {xl od : Value} {sd : List (BA × gL)}
theorem ali {k:BA} {C:Value->Prop} (h:dM w X nX mb aN mZ t) (n: ∀(v:gL) b,C (.tuple #[v.v,.bool b])):aV pg X w (Instr.lookup 287 (.map (some mb)) (.string k) true) C:=by
 refine Fg (kt:=9) (et:=97) (kv:=aN) gL.zero.v h yb kQ kQ (λv a hg hv=>?_) (λhg=>?_)
 ·grind [mZ]
 ·exact n _ _
theorem agE {k:BA} (h:iv w N rb sb wb xl s wr) (hN: ∀k,N k->X k) (hm:dM w X nX sb aN mZ sd):Ct pg 235 #[ptr rb 0,.string k] w X nX λv _ _=> ∃x:gL,v=x.v:=by
 intro w0 hk;have bo:=(h.row.mono hN).mv hk.bY;have hwm:=(lp h.map (hN _ h.map.x.1)).mv kA hk.bY (A':=nX) λ_ h=>h.elim;replace hm:=hm.mv kA hk.bY (A':=nX) λ_ h=>h.elim;have hs:=ai.init w0;refine Rp.1 λ_=>?_;repeat' first|refine ak ?_;intros|refine cM ?_ ?_<;>intros|(refine ali zQ λv b=>?_)|(refine aaj zQ ?_)|(refine qr ?_;intro wa hk;(exact⟨_,rfl⟩))
def DoQ (o:jD) (N:XS) (rb sb wb:Nat) (s:List gL) (wr:F5) (wa w':World):Prop:= ∃s' oG N' od,(s'.length:Int)=s.length+(Bl o.code-tC o.code)/\(oG=wr\/ ∃v,oG=cL o.key v wr/\(o.code=2\/o.code=3))/\(o.code≠1->uD o s wr= .ok (s',oG))/\(∀k,N' k->N k\/made wa w' k)/\iv w' N' rb sb wb od s' oG
theorem agF (h:iv w N rb sb wb xl s wr) (hN:FX N X w) (hm:dM w X nX sb aN mZ sd) (hl:s.length<=2^20) (e1:o.code=1):
  ER pg 168 #[ptr rb 0,.agg o.l.toArray] w X N (λ_ wa w'=>DoQ o N rb sb wb s wr wa w') (λch _ _=> ∃e,ch=vJ e/\(o.code≠1->uD o s wr= .error e)):=by
 intro w0 hk;have hT:=hN.ft hk;replace h:=h.mv (hN.mv hk);replace hm:=hm.mv kA hk.bY (A':=nX) λ_ h=>h.elim;have hs:=ai.init w0;refine oN.1 λ_=>?_;repeat' first|refine aJ ?_;intros|with_reducible apply cB
 refine cd (agE h hT.bw hm) kQ hs.has ?_;rintro _ wa w1 X1 ⟨v,rfl⟩ hle gn ax;have ea:=hT.since ax;have h1:=h.mv (ax.gU λk ah=>hT.bw k ah);refine ea.call (Ji (v:=v) h1 (λk ah=>⟨ea.bw k ah,ea.s.has k (ea.bw k ah)⟩) zQ) kQ (λ_ h=>h) λv zk w4 X4 hq tr oH fO c4=>?_;obtain⟨N4,G1,Uy,h4⟩:=hq;have zT:=fO.less Uy;have ajj:(Bl o.code-tC o.code:Int)=1:=by rw[e1];decide
 exact zT.xO λwa aH=>⟨_,_,_,_,by grind,.inl rfl,λe=>absurd e1 e,zT.js aH λ_ h=>h,h4.mv (aH.iZ zT.bw)⟩
theorem agG (h:iv w N rb sb wb xl s wr) (hN:FX N X w) (hm:dM w X nX sb aN mZ sd) (hl:s.length<=2^20) (hc:1<=o.code/\o.code<=15) (ht:tC o.code<=s.length):
  ER pg 168 #[ptr rb 0,.agg o.l.toArray] w X N (λ_ wa w'=>DoQ o N rb sb wb s wr wa w') (λch _ _=> ∃e,ch=vJ e/\(o.code≠1->uD o s wr= .error e)):=by
 by_cases e1:o.code=1
 ·exact agF h hN hm hl e1
 ·refine(aja h hN hl e1 hc ht).mono (λ_ _ _ _ hq=>?_) λch _ _ _ hq=>?_
  ·obtain⟨s',oG,N',od,h1,h2,h3⟩:=hq;exact⟨s',oG,N',od,alf h1 hc e1 ht,an8 h1,λ_=>h1,h2,h3⟩
  grind
end
def WV (p:List jD) (e:Int) (wl:List KV):Prop:=fq 1 1 p=[]->na p=0->match runM p [] [] with
 | .ok (_,wr)=>e=0/\wl=E4 wr
 | .error e'=>e=e'
theorem WV.err (h:fq 1 1 p=[]->na p=0->runM p [] []= .error e):WV p e []:=λh1 h2=>by rw[h h1 h2]
def aoa (p:List jD) (v:Value) (wa w':World):Prop:= ∃(vl:Value) (wl:List KV) (e:Int),v= .tuple #[vl,I e]/\Sl w' (made wa w') 4 vl (wl.map KV.l)/\wl.length<=40/\(∀x∈wl,x.key.size<=24/\ ∃o∈p,x.key=o.key/\(o.code=2\/o.code=3))/\WV p e wl
theorem aay {b:Value} (ha:Sl w X 5 a (p.map jD.l)) (hb:Sl w X 7 b (sn.map fe.l)):
  Ct pg 113 #[a,b] w X nX λv wa w'=>aoa p v wa w':=by
 intro w0 hk;replace ha:=ha.mv hk.bY;replace hb:=hb.mv hk.bY;have kn:=ha.gR;have hF:FX nX (bI w0) w0:=λk ah=>ah.elim;have hT:=hF.ft (Kp.refl _ _);refine Zt.g (RP:=λch w'=> ∃e,ch=vJ e/\Fr nX w0 w'/\(fq 1 1 p=[]->na p=0->runM p [] []= .error e)) kQ (.inl rfl) ajc (agA λch w' ⟨e,h1,h2,h9⟩=>⟨e,h1,_,rfl,h2,?_⟩) ?_
 ·exact⟨_,[],e,rfl,Sl.nil _ _ _,by simp,λx hx=>absurd hx sQ,WV.err h9⟩
 refine cz ?_;have hs:=ai.init w0;refine dL (KN ha) kQ hs.has λw1 X1 ax=>?_;have ea:=hT.since ax;have rK:=ha.since ax;replace hs:=hs.trans ax;by_cases hc:na p≠0
 ·repeat' refine aJ ?_;intros
  exact ab1 (ea.fin λwa aH=>⟨_,[],_,rfl,Sl.nil _ _ _,by simp,λx hx=>absurd hx sQ,WV.err λ_ h=>absurd h hc⟩)
 ·repeat' refine aJ ?_;intros
  have hlen:p.length<=40:=by
   unfold na at hc;split at hc
   ·exact absurd dQ hc
   ·omega
  have hcf:yQ p 0=0:=by
   unfold na at hc;split at hc
   ·exact absurd dQ hc
   ·split at hc
    ·exact absurd ‹_› hc
    ·omega
  refine cd (AM rK zQ) kQ hs.has ?_;rintro vr wa w2 X2 ho hle gn bp;have dh:=ea.since bp;have ha2:=rK.since bp;replace hs:=hs.trans bp;refine cd (abq ((ho.mono gn).sl) (hb.mv hs.mv)) kQ hs.has ?_;rintro _ wb w3 X3 ⟨ef,vm,rfl,hf0,hfm⟩ pV lT cY;have dU:=dh.since cY;have ha3:=ha2.since cY;replace hs:=hs.trans cY;by_cases hef:ef=0;case neg=>
   repeat' refine aJ ?_;intros
   exact ab1 (dU.fin λwa aH=>⟨_,[],_,rfl,Sl.nil _ _ _,by simp,λx hx=>absurd hx sQ,WV.err λh=>absurd (hf0 h) hef⟩)
  obtain⟨sb,sd,rfl,aao⟩:=hfm hef;replace aao:=lp aao (lT _ aao.x.1);subst hef;have aeJ:=hs;clear ax bp cY;repeat' refine aJ ?_;intros
  refine ri (kv:=aN) mZ nX hs.has λmb w4 X4 ZP fV Ao=>?_;have fO:=dU.since fV;have ha4:=ha3.since fV;have qm:=hs.trans fV;clear hs;repeat' refine ak ?_;intros
  refine AZ qm.has λrb w5 X5 NJ sU bo=>?_;have iN:=fO.since sU;have ha5:=ha4.since sU;have xC:=Ao.mv kA sU.mv (λ_ h=>h.elim) (A':=nX);have Ky:=qm.kp.size;have h5:iv w5 (λk=>k=rb\/k=mb) rb sb mb (.slice none 0 0) [] []:=⟨⟨.inl rfl,bo.2⟩,Own.nil _ _ _ _ _,lp xC (.inr rfl)⟩;have aob:Ft w0 nX w5 X5 (λk=>k=rb\/k=mb):=iN.more λk e=>by
   have:=aeJ.kp.size;rcases e with e|e<;>subst e
   ·exact .inr ⟨bo.1,by omega⟩
   ·exact .inr ⟨xC.x.1,by omega⟩
  have hs:=qm.trans sU;clear Ao xC bo;have ar2:=(aao.mv kA fV.mv (A':=nX) λ_ h=>h.elim).mv kA sU.mv (A':=nX) λ_ h=>h.elim;have ar3: ¬(sb=rb\/sb=mb):=λe=>by
   have h1:=aao.x.2;have:=fV.kp.size;rcases e with e|e<;>omega
  clear fV sU;repeat' refine ak ?_;intros
  refine eY (λn a w X=> ∃(i:Nat) (N:XS) (xl:Value) (s:List gL) (wr:F5),a=I i/\n=p.length-i/\i<=p.length/\Ft w0 nX w X N/\iv w N rb sb mb xl s wr/\yQ (p.drop i) s.length=0/\(s.length:Int)<=16/\(∀x∈wr,x.1.size<=24/\ ∃o∈p,x.1=o.key/\(o.code=2\/o.code=3))/\wr.length<=i/\dM w X nX sb aN mZ sd/\ ¬N sb/\(fq 1 1 p=[]->runM p [] []=runM (p.drop i) s wr)) p.length
   ⟨0,_,_,_,_,rfl,rfl,aq _,aob,h5,hcf,by simp,λx hx=>absurd hx sQ,Nat.le_refl _,ar2,ar3,λ_=>rfl⟩ ?_
  clear aob h5 iN fO dU dh ea hs ha5 ha4 ha3 ha2 rK;rintro n _ w X ⟨i,N,xl,s,wr,rfl,rfl,hi,kc,h6,G6,hl6,hwk,Hp,aap,ajQ,KM⟩;have ha6:Sl w X 5 a (p.map jD.l):=ha.mv λk ah _=>⟨kc.s.sub k ⟨ah,λe=>e.elim⟩,kc.s.kp.block k ⟨ah,λe=>e.elim⟩⟩;have hs:=ai.eQ kc.s.has;rcases dE (p) i with⟨cD,o,hx,hd⟩|⟨dD,hd⟩
  ·have Ut:=ay hx;rw[hd] at G6;have hf6:=Mu G6 o sQ;unfold yQ at G6;rw[if_neg (λh=>h hf6.2),if_neg (by rw[hf6.1];simp)] at G6;have uG:tC o.code<=s.length:=by
    split at G6
    ·omega
    ·omega
   rw[if_neg zQ] at G6;have aoE:(s.length:Int)+(Bl o.code-tC o.code)<=16:=by
    split at G6
    ·omega
    ·omega
   rw[if_neg zQ] at G6;repeat' refine aJ ?_;intros
   refine kc.FP (agG h6 (λk ah=>⟨kc.bw k ah,kc.s.has k (kc.bw k ah)⟩) aap zQ hf6.2 uG) kQ (λ_ h=>h) (λv Qc w7 X7 hq R8 Gu CO c7=>?_) λch Qc w7 X7 hq R8 Gu CO c7 wb7 pj=>?_
   ·obtain⟨s',oG,N',od,apA,hwr,hdo,hN',h7⟩:=hq;have ar4:fq 1 1 p=[]->runM p [] []=runM (p.drop (i+1)) s' oG:=λe=>by rw[KM e,hd,runM,hdo (agC hcf e o Ut)]
    have apB: ¬N' sb:=λe=>(hN' sb e).elim ajQ λe=>by have:=aap.x.2;have:=e.1;omega
    have ar5:dM w7 X7 nX sb aN mZ sd:=lp ((lp aap (Y:=(· =sb)) rfl).mv kA (λk ah _=>⟨ah,c7.block k (by rw[ah];exact aap.x.1) (by rw[ah];exact ajQ)⟩) (A':=nX) λ_ h=>h.elim) (c7.sub _ aap.x.1);have Sd:=CO.less hN';have ar6: ∀x∈oG,x.1.size<=24/\ ∃o∈p,x.1=o.key/\(o.code=2\/o.code=3):=λx hx=>by
     rcases hwr with e|⟨v,e,Bw⟩
     ·rw[e] at hx;exact hwk x hx
     ·rw[e] at hx;rcases mC h6.map.nodup hx with rfl|⟨hx,_⟩
      ·exact⟨aeV hf6.1 Bw,o,ay aQ,rfl,Bw⟩
      ·exact hwk x hx
    have ar7:oG.length<=i+1:=by
     rcases hwr with e|⟨v,e,Bw⟩
     ·rw[e];omega
     ·rw[e];have:=Cw (k:=o.key) (a:=v) wr;omega
    rw[<-apA] at G6;repeat' first|refine ak ?_;intros|((with_reducible refine ep (p.length-(i+1)) ?_ ?_);omega;exact⟨i+1,N',od,s',oG,by simp,rfl,by omega,Sd,h7,G6,by omega,ar6,ar7,ar5,apB,ar4⟩)
   ·obtain⟨e,hch,hdo⟩:=hq;exact⟨e,hch,CO.fr pj,λe1 _=>by rw[KM e1,hd,runM,hdo (agC hcf e1 o Ut)]⟩
  ·have apC:=h6.row.mono λk ah=>kc.bw k ah;repeat' refine aJ ?_;intros
   have hNX: ∀k,N k->X k:=kc.bw;have hm6:dM w X nX mb aN mZ wr:=lp h6.map (hNX _ h6.map.x.1);refine cd ak3 kQ kc.s.has ?_;rintro _ Qc w7 X7 ⟨bx,rfl,hb⟩ R8 Gu oS;have hm7:=hm6.mv kA oS.mv (λ_ h=>h.elim) (A':=nX);have CO:=kc.since oS;refine cd (agk hm7 (hb.mono Gu) (λe he=>Nat.le_trans (hwk e he).1 dQ) zQ) kQ CO.s.has ?_;rintro vs wb8 w8 X8 yJ atm ar8 jZ;have Ug:=CO.since jZ;have hz7:=CO.s.kp.size;have wT:Own w8 X8 w0.heap.size 9 1 vs ((fG (wr.map (·.1))).map S1):=yJ.up ar8 zQ;have hW:E4 wr=(fG (wr.map (·.1))).map λk=>(⟨k,(getM k wr).getD .zero⟩:KV):=rfl;have Xx:(fG (wr.map (·.1))).length=wr.length:=by rw[(jx _).length_eq,af]
   have xB: ∀{w9:World} {X9:XS} {v:Value},Ft w0 nX w9 X9 N->Own w9 X9 w0.heap.size 178 4 v ((E4 wr).map KV.l)->fin (FR (uF nX w0 λv w'=>(λv wa w'=>aoa p v wa w') v w0 w') (λch w'=> ∃e,ch=vJ e/\Fr nX w0 w'/\(fq 1 1 p=[]->na p=0->runM p [] []= .error e))) X9 w9 (.tuple #[v,I 0]):=λq1 q2=>
    q1.adB λwa aH=>⟨_,_,_,rfl,(q2.kp aH).tight.sl,by rw[hW,af,Xx];omega,λx hx=>by
     rw[hW] at hx;obtain⟨k,ah,rfl⟩:=List.mem_map.1 hx;obtain⟨y,hy,rfl⟩:=List.mem_map.1 ((jx _).mem_iff.1 ah);exact hwk y hy,λe _=>by rw[KM e,hd];exact⟨rfl,rfl⟩⟩
   rw[hW] at xB;generalize fG (wr.map (·.1))=ids at wT Xx xB;have h8:=h6.mv ((oS.trans jZ).gU hNX);have hN8: ∀k,N k->X8 k:=λk ah=>jZ.sub k (oS.sub k (hNX k ah));clear hW ha6 hs hm6 hm7 CO hb yJ oS jZ;have oC:=wT.sl;have hs:=ai.eQ Ug.s.has;repeat' refine ak ?_;intros
   refine gv (λn a b w X=> ∃(j:Nat) (v:Value),a=I j/\b= .agg #[v]/\n=ids.length-j/\j<=ids.length/\ai X8 w8 X w/\Own w X w8.heap.size 178 4 v (((ids.take j).map λk=>(⟨k,(getM k wr).getD .zero⟩:KV)).map KV.l)) ids.length ⟨0,_,rfl,rfl,rfl,aq _,ai.eQ Ug.s.has,Own.nil _ _ _ _ _⟩ ?_;rintro n _ _ w9 X9 ⟨j,v,rfl,rfl,rfl,hj,As,TU⟩;have hT9:=Ug.since As;have h9:=h8.mv (As.gU hN8);have asn:=h9.row.mono λk ah=>As.sub k (hN8 k ah);have atn:=oC.since As;have apD:dM w9 X9 nX mb aN mZ wr:=lp h9.map (As.sub _ (hN8 _ h8.map.x.1));have fv:=ai.eQ Ug.s.has;clear hs oC apC;have hs:=As;have ov:=TU.sl.one;rcases dE ids j with⟨cD,k,hx,hd9⟩|⟨ar9,hd9⟩
   ·have fN:(ids.take (j+1)).map (λk=>(⟨k,(getM k wr).getD .zero⟩:KV))=(ids.take j).map (λk=>(⟨k,(getM k wr).getD .zero⟩:KV))++[⟨k,(getM k wr).getD .zero⟩]:=by rw[List.take_add_one,hx,aC];rfl
    have hl9:((ids.take j).map λk=>(⟨k,(getM k wr).getD .zero⟩:KV)).length=j:=by rw[af,aD];omega
    repeat' first|refine aJ ?_;intros|((with_reducible apply abU);(case own=>first|assumption|exact Own.since aQ aQ);(case hs=>assumption);(case h0=>first|exact λ_ h=>h|exact fv.has);(case he=>kernel_rfl);(case hk=>rfl);(case h1=>exact qE);(case hb=>(simp only[af,aD,aa,aL,br];omega));(case hl=>(simp only[af,aD,aa,aL,br];omega));intro acc w X ax ho hc dF;replace hs:=ax)|(refine aaj apD ?_)|((with_reducible refine fw (ids.length-(j+1)) ?_ ?_);omega;exact⟨j+1,_,by simp,rfl,rfl,by omega,hs,by rw[fN,aC];exact ho⟩)
   ·rw[List.take_of_length_le ar9] at TU;have hz8:=Ug.s.kp.size;repeat' first|refine aJ ?_;intros|(exact xB hT9 (TU.low hz8))
end Go.Proofs.YtgfijddlkhkopaaGreat