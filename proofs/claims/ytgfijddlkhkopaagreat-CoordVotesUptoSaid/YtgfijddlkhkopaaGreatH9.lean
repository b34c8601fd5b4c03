/- Part 9 of the proof. -/
import Derived.Test.YtgfijddlkhkopaaGreatProg
import Derived.Recover
import Derived.Shelf.Abstract
import Derived.RegionTactic
import Derived.KernelRfl
import Derived.Tactics
import Derived.Test.YtgfijddlkhkopaaGreatH8
set_option linter.all false
open Go.Value renaming string → aP
open List renaming length_cons → aJ, length_map → af, length_tail → rE, length_nil → bL, length_append → aa, mem_of_getElem? → av, length_take → aD, not_mem_nil → dJ, foldl_cons → fN, map_append → aC
open Nat renaming zero_le → ak, lt_of_lt_of_le → aw
open Array renaming replicate → dh
open Go.Instr renaming typeAssert → oF
namespace Go.Proofs.YtgfijddlkhkopaaGreat
open Go.Proofs.Tryz renaming prog → pg
open Go.aK
set_option maxRecDepth 100000
set_option maxHeartbeats 4000000
theorem ajv:Idle pg 167:=by
 refine⟨by kernel_rfl,λgI w=>?_⟩;refine callsD_of_wpS Tryz.func167 rfl λc₀ cs hu=>?_;rw[Tryz.ntmps167];have gh:8<=(gI++dh (13-gI.size) undef).size:=by simp;omega
 generalize gI++dh (13-gI.size) undef=tm at gh;have h2:2<tm.size:=by omega
 have h5:5<tm.size:=by omega
 have h7:7<tm.size:=by omega
 apply wpS_seq;apply wpS_region;simp[wpOpsS,go_sem,recoverD,hu,Exit.thenS];refine wpS_of_wp ?_;refine wp_block ?_;apply wp_seq;apply wp_region;simp[wpOps,go_sem,Exit.then,h2,h5,h7];refine .inl (wp_cond (t:=true) (by simp[Act.eval,h2,h5,h7]) ?_);simp only[if_true];apply wp_region;simp[wpOps,go_sem,Exit.then,Exit.inBlock,h2,h5,h7];cases c₀;simp_all [bodyPostS,results,Tryz.results167]
variable {x : Value} {w : World}
theorem afc {st:TypeId} :(oF (.iface 291 x) st 291 true).run pg w= .ok (.tuple #[x,.bool true]) w:=by
 obtain⟨fs,hu⟩: ∃fs,pg.underlying 291=some (.struct fs):=⟨_,rfl⟩;simp[oF,run_underlying hu]
variable {ty : TypeId} {k : Nat} {W : World}
theorem CD (h:W.heap[k]? =some (.cells #[x] ty (0,0))):W.cell? ⟨k,0,none⟩=some x:=by simp[World.cell?,h]
theorem Sb (h:W.heap[k]? =some (.cells #[x] ty (0,0))):W.frozen? ⟨k,0,none⟩=false:=by simp[World.frozen?,h]
variable {b : Nat}
theorem MQ (v:Value) (hb:w.heap[b]? =some (.cells #[x] ty (0,0))) (k:Nat):(w.setCell ⟨b,0,none⟩ v).heap[k]? =if k=b then some (.cells #[v] ty (0,0))else w.heap[k]? :=by
 unfold World.setCell;simp only[Array.getElem?_modify];by_cases h:b=k
 ·subst h;simp[hb]
 grind
variable {e : Int}
theorem Uu (h:w.cell? ⟨k,0,none⟩=some (I e)):(loadVar 37 ⟨k,0,none⟩).run pg w= .ok (I e) w:=by
 have WQ:(isAgg 37).run pg w= .ok false w:=run_isAgg_plain (d:=.int .i64) kQ rfl w;simp[loadVar,WQ,run_load,h]
theorem agR {v:Value} (h:w.cell? ⟨k,0,none⟩=some v):(loadVar 42 ⟨k,0,none⟩).run pg w= .ok v w:=by
 have WQ:(isAgg 42).run pg w= .ok false w:=run_isAgg_plain (d:=.slice 178) kQ rfl w;simp[loadVar,WQ,run_load,h]
theorem alr:Tryz.f113.results= #[.cell 4 42,.cell 5 37]:=by kernel_rfl
theorem agS {R:Ending->World->Prop} {RP:List PanicEntry->World->Prop}
  (hR: ∀ch w,RP ch w-> ∃e,ch=wg e/\R (.returned (.tuple #[.slice none 0 0,I e])) w):Rb pg OM Tryz.f113 R 167 [4,5] [] RP:=by
 intro ks Fo ch w uF lE qf hh hv gh hRP;obtain⟨k1,k2,rfl⟩: ∃a b,ks=[a,b]:=by
  match ks,uF with
  |[a,b],_=>exact⟨a,b,rfl⟩
 obtain⟨c1,c2,rfl⟩: ∃a b,Fo=[a,b]:=by
  match Fo,lE with
  |[a,b],_=>exact⟨a,b,rfl⟩
 obtain⟨Ut,g1⟩:=hh 0 k1 c1 rfl rfl;obtain⟨NS,g2⟩:=hh 1 k2 c2 rfl rfl;have s1:c1.size=1:=gh 0 4 1 c1 rfl kQ rfl;have s2:c2.size=1:=gh 1 5 1 c2 rfl kQ rfl;obtain⟨e,rfl,_⟩:=hR _ _ (hRP w (aK.Outside.refl _ _));refine callsD_of_wpS Tryz.func167 rfl λc₀ cs hu=>?_;rw[Tryz.ntmps167];simp only[List.map_cons,List.map_nil,List.size_toArray,aJ,bL];apply wpS_seq;apply wpS_region;simp[wpOpsS,go_sem,recoverD,hu,Exit.thenS];refine wpS_of_wp ?_;refine wp_block ?_;apply wp_seq;apply wp_region;simp[wpOps,go_sem,Exit.then];refine .inl (wp_cond (t:=false) (by simp[Act.eval]) ?_);simp only[Bool.false_eq_true,if_false];apply wp_seq;apply wp_region;simp[wpOps,go_sem,Exit.then,afc];repeat left
 refine wp_cond (t:=true) (by simp[Act.eval]) ?_;simp only[if_true];change Code.wp _ _ _ { tmps:= #[eI k1 0,eI k2 0,undef,undef,undef,.iface 291 (.agg #[I e]),undef,B false,.tuple #[.agg #[I e],B true],B true,.agg #[I e],undef,undef],defers:=[] } w;apply wp_seq;apply wp_region;simp[wpOps,go_sem,Exit.then];repeat left
 have l1:=(Array.getElem?_eq_some_iff.1 g1).1;have l2:=(Array.getElem?_eq_some_iff.1 g2).1;obtain⟨x1,rfl⟩: ∃x,c1= #[x]:=by
  match c1,s1 with
  |⟨[x]⟩,_=>exact⟨x,rfl⟩
 obtain⟨x2,rfl⟩: ∃x,c2= #[x]:=by
  match c2,s2 with
  |⟨[x]⟩,_=>exact⟨x,rfl⟩
 have q0:(w.alloc (.cells #[I e] 291)).heap[w.heap.size]? =some (.cells #[I e] 291 (0,0)):=heap_alloc_new _ _;have q1:(w.alloc (.cells #[I e] 291)).heap[k1]? =some (.cells #[x1] Ut (0,0)):=(heap_alloc_old _ _ (h:=l1)).trans g1;have q2:(w.alloc (.cells #[I e] 291)).heap[k2]? =some (.cells #[x2] NS (0,0)):=(heap_alloc_old _ _ (h:=l2)).trans g2;simp only[List.nodup_cons,List.mem_cons,dJ,or_false,not_or] at qf;have hW: ∀k,k<w.heap.size->(w.alloc (.cells #[I e] 291)).heap[k]? =w.heap[k]? :=λk hk=>heap_alloc_old _ _ (h:=hk);have hWo:(w.alloc (.cells #[I e] 291)).os=w.os/\(w.alloc (.cells #[I e] 291)).tape=w.tape/\(w.alloc (.cells #[I e] 291)).output=w.output/\(w.alloc (.cells #[I e] 291)).heap.size=w.heap.size+1:=⟨rfl,rfl,rfl,Array.size_push _⟩;change Code.wp _ _ _ { tmps:= #[.pointer (some ⟨k1,0,none⟩),.pointer (some ⟨k2,0,none⟩),undef,.pointer (some ⟨w.heap.size,0,none⟩),undef,.iface 291 (.agg #[I e]),undef,B false,.tuple #[.agg #[I e],B true],B true,.agg #[I e],undef,undef],defers:=[] } (w.alloc (.cells #[I e] 291));generalize w.alloc (.cells #[I e] 291)=W at q0 q1 q2 hW hWo⊢;generalize gw:w.heap.size=s0 at l1 l2 q0 hW hWo⊢;have ajc:s0≠k1:=by omega
 have p0:W.drew.cell? ⟨s0,0,none⟩=some (I e):=CD (W:=W.drew) q0;have p1:W.drew.cell? ⟨k1,0,none⟩=some x1:=CD (W:=W.drew) q1;have f1:W.drew.frozen? ⟨k1,0,none⟩=false:=Sb (W:=W.drew) q1;have r: ∀k,(W.setCell ⟨k1,0,none⟩ (.slice none 0 0)).heap[k]? =if k=k1 then some (.cells #[.slice none 0 0] Ut (0,0))else W.heap[k]? :=MQ _ q1
 have r0:(W.setCell ⟨k1,0,none⟩ (.slice none 0 0)).heap[s0]? =some (.cells #[I e] 291 (0,0)):=by rw[r,if_neg ajc];exact q0
 have r2:(W.setCell ⟨k1,0,none⟩ (.slice none 0 0)).heap[k2]? =some (.cells #[x2] NS (0,0)):=by rw[r,if_neg (λe=>qf.1 e.symm)];exact q2
 have t0:(W.setCell ⟨k1,0,none⟩ (.slice none 0 0)).drew.cell? ⟨s0,0,none⟩=some (I e):=CD (W:=(W.setCell ⟨k1,0,none⟩ (.slice none 0 0)).drew) r0;have t2:(W.setCell ⟨k1,0,none⟩ (.slice none 0 0)).drew.cell? ⟨k2,0,none⟩=some x2:=CD (W:=(W.setCell ⟨k1,0,none⟩ (.slice none 0 0)).drew) r2;have t3:(W.setCell ⟨k1,0,none⟩ (.slice none 0 0)).drew.frozen? ⟨k2,0,none⟩=false:=Sb (W:=(W.setCell ⟨k1,0,none⟩ (.slice none 0 0)).drew) r2
 go_region
 have r': ∀k,(((W.setCell ⟨k1,0,none⟩ (.slice none 0 0)).setCell ⟨k2,0,none⟩ (.int .i64 e)).drew).heap[k]? =if k=k2 then some (.cells #[I e] NS (0,0))else(W.setCell ⟨k1,0,none⟩ (.slice none 0 0)).heap[k]? :=MQ _ r2
 have arT:W.heap.size<=(((W.setCell ⟨k1,0,none⟩ (.slice none 0 0)).setCell ⟨k2,0,none⟩ (.int .i64 e)).drew).heap.size:=by
  show W.heap.size<=((W.setCell ⟨k1,0,none⟩ (.slice none 0 0)).setCell ⟨k2,0,none⟩ (.int .i64 e)).heap.size
  unfold World.setCell;simp only[Array.size_modify];exact Nat.le_refl _
 have afd:(((W.setCell ⟨k1,0,none⟩ (.slice none 0 0)).setCell ⟨k2,0,none⟩ (.int .i64 e)).drew).os=w.os/\(((W.setCell ⟨k1,0,none⟩ (.slice none 0 0)).setCell ⟨k2,0,none⟩ (.int .i64 e)).drew).tape=w.tape/\(((W.setCell ⟨k1,0,none⟩ (.slice none 0 0)).setCell ⟨k2,0,none⟩ (.int .i64 e)).drew).output=w.output:=⟨hWo.1,hWo.2.1,hWo.2.2.1⟩;generalize ((W.setCell ⟨k1,0,none⟩ (.slice none 0 0)).setCell ⟨k2,0,none⟩ (.int .i64 e)).drew=w4 at r' arT afd⊢;have d1:w4.cell? ⟨k1,0,none⟩=some (.slice none 0 0):=CD (ty:=Ut) (by rw[r',if_neg qf.1,r,if_pos rfl]);have d2:w4.cell? ⟨k2,0,none⟩=some (I e):=CD (ty:=NS) (by rw[r',if_pos rfl]);have aii:aK.Outside [k1,k2] w w4:=by
  refine⟨afd.1,afd.2.1,afd.2.2,?_,λk hl hk=>?_⟩
  ·omega
  ·simp only[List.mem_cons,dJ,or_false,not_or] at hk;rw[r',if_neg hk.2,r,if_neg hk.1];exact hW k zQ
 obtain⟨e',yQ,hRe⟩:=hR _ _ (hRP w4 aii);have he:e=e':=by simpa [wg] using yQ
 subst he;simp only[Exit.inBlock];refine⟨rfl,.panicking [{ v:=.iface 291 (.agg #[I e]),recovered:=true }],rfl,.tuple #[],?_,⟨_,rfl⟩,rfl,_,hRe,λtmps ht=>?_⟩
 ·simp[results,Tryz.results167]
 ·unfold results;rw[alr];simp[ht 0 4 k1 rfl rfl,ht 1 5 k2 rfl rfl,asAddr,eI,Uu d2,agR d1]
open Go.Maps Go.Shelf
attribute [local irreducible] un jn jh ji ld1 jt st1 nW mP pN sR qj JG ET gT rY aY nU nV eW eV eU eC eF gE nB fin jl bC dF vS N9 JH JI HP JJ JK Oa Ob JL Oc Gi Gj JM JN JO Od Oe JP
def runM:List jz->List gO->GG->Except Int (List gO×GG)
 |[],s,wr=>.ok (s,wr)
 |o::r,s,wr=>match uZ o s wr with
  | .ok (s',px)=>runM r s' px
  | .error e=>.error e
def Fy (wr:GG):List KV:=(fT (wr.map (·.1))).map λk=>⟨k,(getM k wr).getD .zero⟩
theorem ajw {c:Int} {a b:gO} {l:List gO} (h:zt c a b= .ok l):l.length=if c=15 then 2 else 1:=by
 unfold zt at h;split at h
 ·cases h;rename_i e;rw[if_neg zQ];rfl
 ·split at h
  ·cases h;rename_i e;rw[if_neg zQ];rfl
  ·split at h
   ·cases h;rename_i e;rw[if_pos e];rfl
   ·split at h
    ·cases h
    ·cases h;rename_i e _;rw[if_neg e];rfl
variable {wr px : GG} {s s' : List gO} {o : jz}
theorem als (h:uZ o s wr= .ok (s',px)) (hc:1<=o.code/\o.code<=15) (hg:o.code≠1) (ht:tV o.code<=s.length):(s'.length:Int)=s.length+(BM o.code-tV o.code):=by
 have h1:tV o.code=if o.code=3\/o.code=4 then 0 else if o.code=2\/o.code=13\/o.code=14 then 1 else 2:=by
  unfold tV;rw[if_neg zQ];by_cases q:o.code=3\/o.code=4
  ·rw[if_pos zQ,if_pos q]
  ·rw[if_neg zQ,if_neg q]
 have h2:BM o.code=if o.code=2\/o.code=3\/o.code=13 then 0 else if o.code=14\/o.code=15 then 2 else 1:=by unfold BM;rw[if_neg zQ]
 unfold uZ at h;split at h
 ·rename_i e;cases h;rw[if_neg zQ,if_pos zQ] at h1;rw[if_pos zQ] at h2;rw[rE];omega
 ·split at h
  ·rename_i e;cases h;rw[if_pos zQ] at h1;rw[if_pos zQ] at h2;omega
  ·split at h
   ·rename_i e;cases h;rw[if_pos zQ] at h1;rw[if_neg zQ,if_neg zQ] at h2;rw[aJ];omega
   ·split at h
    ·rename_i e;split at h
     ·cases h;rw[if_neg zQ,if_pos zQ] at h1;rw[if_pos zQ] at h2;rw[rE];omega
     ·cases h
    ·split at h
     ·rename_i e;cases h;rw[if_neg zQ,if_pos zQ] at h1;rw[if_neg zQ,if_pos zQ] at h2;rw[aJ];omega
     ·split at h
      ·rename_i l hl;cases h;have:=ajw hl;rw[if_neg zQ,if_neg zQ] at h1;rw[aa,rE,rE];by_cases e15:o.code=15
       ·rw[if_pos e15] at this;rw[if_neg zQ,if_pos zQ] at h2;omega
       ·rw[if_neg e15] at this;rw[if_neg zQ,if_neg zQ] at h2;omega
      ·cases h
theorem aod (h:uZ o s wr= .ok (s',px)):px=wr\/ ∃v,px=cU o.key v wr/\(o.code=2\/o.code=3):=by
 unfold uZ at h;split at h
 ·rename_i e;cases h;exact .inr ⟨_,rfl,.inl e⟩
 ·split at h
  ·rename_i e;cases h;exact .inr ⟨_,rfl,.inr e⟩
  ·split at h
   ·cases h;exact .inl rfl
   ·split at h
    ·split at h
     ·cases h;exact .inl rfl
     ·cases h
    ·split at h
     ·cases h;exact .inl rfl
     ·split at h
      ·cases h;exact .inl rfl
      ·cases h
theorem afe (h:FW o (Ju o.code)=true) (hc:o.code=2\/o.code=3):o.key.size<=24:=by
 have hn:Ju o.code=1:=by unfold Ju;rw[if_neg zQ,if_neg zQ,if_pos zQ]
 unfold FW at h;rw[hn] at h;split at h
 ·cases h
 ·rename_i h1;cases hg:iN o.key with
  |true=>unfold iN at hg;simp at hg;omega
  |false=>exact absurd (.inl ⟨rfl,hg⟩) h1
theorem aax {a b:Int} : ∀(p:List jz) (t:List (BA×Int)),t≠[]->p.foldl (lr a b) t≠[]
 |[],t,h=>h
 |o::p,t,h=>by
  rw[fN];refine aax p _ ?_;unfold lr;split
  ·cases t with
   |nil=>exact absurd rfl h
   |cons x t=>unfold cU;split<;>simp
  ·exact h
theorem aay {a b:Int} : ∀(p:List jz) (t:List (BA×Int)) (o:jz),o∈p->(o.code=a\/o.code=b)->iN o.key=true->p.foldl (lr a b) t≠[]
 |q::p,t,o,hm,hc,hk=>by
  rw[fN];rcases List.mem_cons.1 hm with rfl|hm
  ·refine aax p _ ?_;unfold lr;rw[if_pos ⟨hc,hk⟩];cases t with
   |nil=>simp[cU]
   |cons x t=>unfold cU;split<;>simp
  ·exact aay p _ o hm hc hk
theorem agT {l:List BA} (h:fT l=[]):l=[]:=by
 have:=(kU l).length_eq;rw[h] at this;exact List.length_eq_zero_iff.1 this.symm
theorem MR: ∀{p:List jz} {h:Int},zg p h=0-> ∀o∈p,FW o (Ju o.code)=true/\1<=o.code/\o.code<=15
 |o::p,h,hc,q,hq=>by
  unfold zg at hc;split at hc
  ·omega
  ·rename_i h1;split at hc
   ·omega
   ·rename_i h2;split at hc
    ·omega
    ·split at hc
     ·omega
     ·rcases List.mem_cons.1 hq with rfl|hq
      ·exact⟨by simpa using h2,Classical.not_not.1 h1⟩
      ·exact MR hc q hq
variable {p : List jz}
theorem agU {h:Int} (hc:zg p h=0) (hr:fq 1 1 p=[]): ∀o∈p,o.code≠1:=λo ho e=>by
 have hf:=(MR hc o ho).1;have hk:iN o.key=true:=by
  unfold FW at hf;rw[e] at hf;have:Ju 1=1:=by decide
  rw[this] at hf;split at hf
  ·cases hf
  ·rename_i h1;cases hg:iN o.key with
   |true=>rfl
   |false=>exact absurd (.inl ⟨rfl,hg⟩) h1
 have h2:=agT hr;rw[List.map_eq_nil_iff] at h2;exact aay p [] o ho (.inl e) hk h2
variable {N : Value -> Prop} {t : GG} {mb : Nat} {X : XS}
theorem aaz {k:BA} (h:dS w X nX mb aP nF t) (n:N ((getM k t).getD .zero).v):aY pg X w (Instr.lookup 287 (.map (some mb)) (.string k) false) N:=by
 refine nr (kt:=9) (et:=97) (kv:=aP) gO.zero.v h yt kQ kQ (λv a hg hv=>?_) (λhg=>?_)
 ·simp only[nF] at hv;subst hv;rw[hg] at n;exact n
 ·rw[hg] at n;exact n
variable {cs : List Value} {f : FuncId} {a : Value}
theorem P4 {xs:List fg} {p:fg->Bool} (ha:Sl w X 7 a (xs.map fg.l)) (hX: ∀k,X k->k<w.heap.size) (hf:enters pg f=true)
  (hp: ∀x,Ct pg f ((.agg x.l.toArray)::cs).toArray w X nX λv _ _=>v=B (p x)):
  Ct pg 232 #[a,.func (.func f) #[] cs.toArray] w X nX λv _ _=>v=I (idxOf p xs):=by
 intro w0 hk;replace ha:=ha.mv hk.cE;replace hp:=λx=>((hp x).kp hk).bP λk hx=>aw (hX k hx) hk.size;have lh:=ha.gV;refine vY.1 λhs=>?_;repeat' refine aq ?_;intros
 refine fY (λn a w X=> ∃i:Nat,a=I (i:Nat)/\n=(xs).length-i/\i<=(xs).length/\ai (bP w0) w0 X w/\(∀(j:Nat) x,j<i->xs[j]? =some x->p x=false)) (xs).length ⟨0,rfl,rfl,ak _,hs,by simp⟩ ?_;rintro n a w X ⟨i,rfl,rfl,hi,hs,hw⟩;rcases dB (xs) i with⟨cI,x,hx,hd⟩|⟨dC,hd⟩
 ·repeat' first|refine aI ?_;intros|(refine qr ?_;intro wa hk;(rw[Cn hw hx ‹_›]))|((with_reducible refine ey ((xs).length-(i+1)) ?_ ?_);omega;exact⟨i+1,by simp,rfl,by omega,hs,λj y hj hy=>by rcases Nat.lt_succ_iff_lt_or_eq.1 hj with h|h;exact hw j y h hy;subst h;rw[hx] at hy;cases hy;assumption⟩)|(refine HS ((hp x).since hs) hf hs.has ?_ ?_<;>(intro _ w X aB;replace hs:=hs.trans aB))
 ·repeat' first|refine aI ?_;intros|(refine qr ?_;intro wa hk;(rw[yI λj x hj hx=>hw j x zQ hx]))
theorem aaA {k:BA} (h:aH w X b [.string k] 9) (x:fg):Ct pg 233 ((.agg x.l.toArray)::[ptr b 0]).toArray w X nX λv _ _=>v=B (decide (x.key=k)):=by
 intro w0 hk;replace h:=h.mv hk.cE;have hs:=ai.init w0;refine RH.1 λ_=>?_;repeat' first|refine aq ?_;intros|refine dg ?_ ?_<;>intros|(refine qr ?_;intro wa hk;(congr 1;simp_all))
theorem Hg {α:Type} {p:α->Bool} {l:List α} :(idxOf p l= -1/\ ∀x∈l,p x=false)\/ ∃(i:Nat) (x:α),l[i]? =some x/\p x=true/\idxOf p l=i:=by
 by_cases h: ∀(k:Nat) x,k<l.length->l[k]? =some x->p x=false
 ·exact .inl ⟨yI h,λx hx=>by obtain⟨k,hk,e⟩:=List.getElem_of_mem hx;exact h k x hk (by rw[List.getElem?_eq_getElem hk,e])⟩
 ·right;have key: ∀n,(∃(i:Nat) (x:α),i<n/\l[i]? =some x/\p x=true)-> ∃(i:Nat) (x:α),l[i]? =some x/\p x=true/\ ∀k y,k<i->l[k]? =some y->p y=false:=λn=>by
   induction n with
   |zero=>rintro⟨i,_,hi,_⟩;omega
   |succ n ih=>
    rintro⟨i,x,hi,hx,hp⟩;by_cases h2: ∃(i:Nat) (x:α),i<n/\l[i]? =some x/\p x=true
    ·exact ih h2
    ·refine⟨i,x,hx,hp,λk y hk hy=>?_⟩;cases hpy:p y with
     |false=>rfl
     |true=>exact absurd ⟨k,y,by omega,hy,hpy⟩ h2
  have h3: ∃(i:Nat) (x:α),i<l.length/\l[i]? =some x/\p x=true:=Classical.byContradiction λhn=>h λk x hk hx=>by
   cases hpx:p x with
   |false=>rfl
   |true=>exact absurd ⟨k,x,hk,hx,hpx⟩ hn
  obtain⟨i,x,hx,hp,hm⟩:=key _ h3;exact⟨i,x,hx,hp,Cn hm hx hp⟩
variable {sn : List fg}
theorem abJ {b:Value} {ks:List BA} (ha:Sl w X 1 a (ks.map S1)) (hb:Sl w X 7 b (sn.map fg.l)):
  Ct pg 166 #[a,b] w X nX λv wa w'=> ∃e vm,v= .tuple #[vm,I e]/\(ks=[]->e=0)/\(e=0-> ∃sb sd,vm= .map (some sb)/\dS w' (made wa w') nX sb aP nF sd):=by
 obtain⟨bb,bn,bc,rfl⟩:=hb.form;intro w0 hk;replace ha:=ha.mv hk.cE;replace hb:=hb.mv hk.cE;have lh:=ha.gV;have hs:=ai.init w0;refine Zx.1 λ_=>?_;refine rL (kv:=λk:BA=>aP k) nF nX hs.has λmb w1 X1 hmb aB pV=>?_;have bH:=hs.trans aB;have sj:=ha.mv bH.mv;have hF:FX nX (bP w0) w0:=λk ah=>ah.elim;have eo:Ft w0 nX w1 X1 (· =mb):=((hF.ft (Kp.refl _ _)).since aB).more λk e=>.inr ⟨by rw[e];exact pV.x.1,by rw[e];exact hmb⟩;clear hs bH;have hs:=ai.fL eo.s.has;repeat' refine aq ?_;intros
 refine gM (λn a b w X=> ∃(i:Nat) (bad:Bool) (sd:List (BA×gO)),a=I i/\b=B bad/\n=ks.length-i/\i<=ks.length/\(ks=[]->bad=false)/\Ft w0 nX w X (· =mb)/\dS w (· =mb) nX mb aP nF sd) ks.length ⟨0,_,[],rfl,rfl,rfl,ak _,λ_=>rfl,eo,mi pV rfl⟩ ?_;clear hs eo aB pV sj;rintro n _ _ w X ⟨i,bad,sd,rfl,rfl,rfl,hi,qg,hT,hm⟩;have hs:=hT.Du;have wA:=hb.mv hs.mv;rcases dB (ks) i with⟨cI,y,hx,hd⟩|⟨dC,hd⟩
 ·have cu:ks≠[]:=λe=>by rw[e] at hx;simp at hx
  repeat' refine aI ?_;intros
  refine aiX (z:=.string ⟨#[]⟩) hs.has kQ rfl λbx w1 X1 gn aB bt=>?_;have eo:Ft w0 nX w1 X1 (λk=>k=mb\/k=bx):=(hT.since aB).more λk e=>e.imp id λe=>⟨by rw[e];exact bt.1,by rw[e];have:=hT.s.kp.size;omega⟩;refine qo (o:=0) bt zQ kQ sQ rfl eo.s.has λw2 X2 c2 jJ=>?_;have da:Ft w0 nX w2 X2 (λk=>k=mb\/k=bx):=eo.dT c2 (λk e=>.inr e) λk e=>.inl e;have aoe:aH w2 X2 bx [.string y] 9:=jJ;have rO:dS w2 (· =mb) nX mb aP nF sd:=hm.mv kP (λk ah hl=>⟨ah,(c2.block k (aB.sub k (by rw[ah];exact hT.bg _ rfl)) (by have:=hm.x.2;omega)).trans (aB.kp.block k (by rw[ah];exact hT.bg _ rfl))⟩) λ_ h=>h.elim;have Pj:=hb.mv da.Du.mv;clear hs aB hm hT wA eo bt jJ c2;have hs:=ai.fL da.s.has;repeat' refine aq ?_;intros
  refine ff (P4 (p:=λx=>decide (x.key=y)) Pj da.s.has kQ (aaA aoe)) kQ hs.has λw3 X3 dt=>?_;have dU:=da.since dt;have qS:=rO.mv kP (dt.gY λk (ah:k=mb)=>by rw[ah];exact da.bg _ (.inl rfl)) (A':=nX) λ_ h=>h.elim;have aqd:=Pj.mv dt.mv;clear hs;have hs:=ai.fL dt.has;rcases Hg (p:=λx:fg=>decide (x.key=y)) (l:=sn)with⟨e,_⟩|⟨j,z,hz,hpz,e⟩
  ·rw[e];repeat' refine aI ?_;intros
   exact dU.fin λwa aL=>⟨_,_,rfl,λh=>absurd h cu,λh=>absurd h dQ⟩
  ·rw[e];have MZ:=aoe.since dt;have MM: ∀{w4:World} {X4:XS},ai X3 w3 X4 w4-> ∀{K:World->XS->Prop},(∀w5 X5,Ft w0 nX w5 X5 (· =mb)->dS w5 (· =mb) nX mb aP nF (cU y z.val sd)->K w5 X5)->
     eU pg (vy nX w0 λv w'=>(λv wa w'=> ∃e vm,v= .tuple #[vm,I e]/\(ks=[]->e=0)/\(e=0-> ∃sb sd,vm= .map (some sb)/\dS w' (made wa w') nX sb aP nF sd)) v w0 w') X4 w4 true (Instr.mapUpdate 287 (.map (some mb)) (.string y) z.val.v) (λ_=>K):=λ{w4} {X4} gd {K} hK=>by
    have fR:=dU.since gd;have Az:=qS.mv kP (gd.gY λk (ah:k=mb)=>by rw[ah];exact dU.bg _ (.inl rfl)) (A':=nX) λ_ h=>h.elim;refine vJ (kv:=aP) (k:=y) (a:=z.val) (kt:=9) (et:=97) (mi Az (fR.bg _ (.inl rfl))) kP rfl (λ_ h=>h.elim) yt kQ fR.s.has λw5 X5 c5 xS=>?_;exact hK _ _ (fR.dT (F':=(· =mb)) c5 (λk ah=>.inl ah) λk ah=>.inl (.inl ah)) (mi xS rfl)
   have nL: ∀{w5:World} {X5:XS} {b2:Bool},Ft w0 nX w5 X5 (· =mb)->dS w5 (· =mb) nX mb aP nF (cU y z.val sd)->Gj (J2 λn a b w X=> ∃(i:Nat) (bad:Bool) (sd:List (BA×gO)),a=I i/\b=B bad/\n=ks.length-i/\i<=ks.length/\(ks=[]->bad=false)/\Ft w0 nX w X (· =mb)/\dS w (· =mb) nX mb aP nF sd) (ks.length-i) (I ((i+1:Nat):Int)) (B b2) w5 X5:=λiQ xS=>
    fG (ks.length-(i+1)) zQ ⟨i+1,_,_,rfl,rfl,rfl,by omega,λe=>absurd e cu,iQ,xS⟩
   have QJ:(i:Int)+1=((i+1:Nat):Int):=by simp
   cases bad
   ·repeat' first|refine aI ?_;intros|with_reducible apply cK|(refine kG (mA _) hs ?_ ?_<;>intro _ w X hs)
    all_goals
     refine MM hs λw5 X5 iQ xS=>?_;clear hs;have hs:=iQ.Du;repeat' first|refine aq ?_;intros|(rw[QJ];exact nL iQ xS)
   ·repeat' first|refine aI ?_;intros|with_reducible apply cK
    refine MM (ai.fL dU.s.has) λw5 X5 iQ xS=>?_;clear hs;have hs:=iQ.Du;repeat' first|refine aq ?_;intros|(rw[QJ];exact nL iQ xS)
 ·cases bad
  ·repeat' refine aI ?_;intros
   exact hT.fin λwa aL=>⟨_,_,rfl,λ_=>rfl,λ_=>⟨mb,sd,rfl,hm.mv kP (λk (ah:k=mb) hl=>by subst ah;exact⟨⟨hmb,aw hl aL.size⟩,aL.block _ (hT.bg _ rfl)⟩) λ_ h=>h.elim⟩⟩
  ·repeat' refine aI ?_;intros
   exact hT.fin λwa aL=>⟨_,_,rfl,λe=>absurd (qg e) dQ,λh=>absurd h dQ⟩
structure cJ.small (m:cJ):Prop where
 seen:m.seen.length<=2^40
 writes:m.writes.length<=2^40
 bw: ∀r∈m.bw,r.small
 enc: ∀r∈m.bw,r.err=0->(gq r).length<=2^33
 state:m.state.small
def cJ.Na (m:cJ):Bool:=m.aG.may&&wK m.range&&(
 if m.kind=1 then decide (m.iE>=0)&&m.aU.may&&yN m.keys&&decide ((m.keys.length:Int)>0)
 else if m.kind=2 then codeOk m.code (Iu m.seen&&decide ((m.seen.length:Int)>0)) m.ranges&&m.aU.may&&(decide (m.code=0)||decide ((m.seen.length:Int)=0))
 else if m.kind=3 then decide (m.iE>=0)&&m.aU.may&&Iu m.seen&&Mz m.writes&&yK m.parts&&Nv m.parts m.range
 else if m.kind=4 then codeOk m.code true m.ranges&&m.aU.may
 else if m.kind=5 then(if m.jM then m.aU.may&&decide (m.aU≠ .zero)else decide (m.aU= .zero))
 else true)
variable {vc vd vh vk vp vr vs vw : Value} {m : cJ}
theorem aaB (h:m.at w X vk vs vw vp vr vc vh vd) (lW:m.small):
  Ct pg 149 #[m.v vk vs vw vp vr vc vh vd] w X nX λv _ _=>v=B m.Na:=by
 intro w0 hk;replace h:=h.mv hk.cE;obtain⟨h1,h2,h3,h4,h5,h6,h7,h8⟩:=h;obtain⟨b1,n1,c1,rfl⟩:=h1.form;obtain⟨b2,n2,c2,rfl⟩:=h2.form;obtain⟨b3,n3,c3,rfl⟩:=h3.form;obtain⟨b4,n4,c4,rfl⟩:=h4.form;obtain⟨b5,n5,c5,rfl⟩:=h5.form;refine Vy.1 λhs=>?_;repeat' first|refine aq ?_;intros|refine dg ?_ ?_<;>intros|(with_reducible refine FO _ ?_ ?_ ?_);(· kernel_rfl);all_goals intros|(with_reducible refine agr _ ?_ ?_ ?_);(· kernel_rfl);all_goals intros|with_reducible apply cK|(refine kG (qa _) hs ?_ ?_<;>intro _ w X hs)|(refine kG (DT _) hs ?_ ?_<;>intro _ w X hs)|(refine kG (DO _) hs ?_ ?_<;>intro _ w X hs)|(refine qL (HC  qA) hs ?_ ?_<;>intro _ w X hs)|(refine qL (abH  qA lW.seen) hs ?_ ?_<;>intro _ w X hs)|(refine qL (Ty  qA lW.writes) hs ?_ ?_<;>intro _ w X hs)|(refine qL (MA  qA) hs ?_ ?_<;>intro _ w X hs)|(refine qL (ae6  qA) hs ?_ ?_<;>intro _ w X hs)|(refine qL ((abI (xs:=m.ranges))  qA) hs ?_ ?_<;>intro _ w X hs)
 all_goals
  (with_reducible refine cH hs ?_)
  intro wa aL;unfold cJ.Na;repeat (first|rw[if_pos zQ]|rw[if_neg zQ])
  simp_all [wK]<;>first|omega|(rename_i z9;intro e9;simp[e9] at z9;done)|(intro e9;simp_all;done)|grind
def cJ.qD (m:cJ):Bool:=
 if 1<=m.kind/\m.kind<=7 then m.Na
 else if m.kind=8 then wK m.range&&decide (m.n>=1)&&decide (m.mx>=0)&&decide (m.mx<=8)&&m.aU.may
 else if m.kind=9 then wK m.range&&decide (m.n>=1)&&Nw m.bw
 else if m.kind=10 then wK m.range&&m.state.may&&decide (m.state.range.id=m.range)
 else if m.kind=11 then wK m.range
 else if m.kind=12 then Nr m.prev m.aU m.aG m.writes
 else if m.kind=14 then m.aU.may
 else true
theorem Tz (h:m.at w X vk vs vw vp vr vc vh vd) (lW:m.small):
  Ct pg 99 #[m.v vk vs vw vp vr vc vh vd] w X nX λv _ _=>v=B m.qD:=by
 intro w0 hk;replace h:=h.mv hk.cE;obtain⟨h1,h2,h3,h4,h5,h6,h7,h8⟩:=id h;obtain⟨b3,n3,c3,rfl⟩:=h3.form;refine S5.1 λhs=>?_;repeat' first|refine aq ?_;intros|refine dg ?_ ?_<;>intros|with_reducible apply cK|(refine kG (qa _) hs ?_ ?_<;>intro _ w X hs)|(refine kG (DT _) hs ?_ ?_<;>intro _ w X hs)|(refine qL ((aaB (m:=m))  (h.mv (ai.mv hs)) lW) hs ?_ ?_<;>intro _ w X hs)|(refine qL ((aat (xs:=m.bw))  (eY.mv h6 Rec.mv (ai.mv hs)) lW.bw lW.enc) hs ?_ ?_<;>intro _ w X hs)|(refine qL (GR  (s:=m.state) qA qA lW.state) hs ?_ ?_<;>intro _ w X hs)|(refine qL ((MH (l:=m.writes))  qA lW.writes) hs ?_ ?_<;>intro _ w X hs)
 all_goals
  (with_reducible refine cH hs ?_)
  intro wa aL;unfold cJ.qD;repeat (first|rw[if_pos zQ]|rw[if_neg zQ])
  try (simp_all [wK]<;>first|omega|grind)
def cJ.isZero (m:cJ):Bool:=decide (m.aG= .zero)&&decide (m.range=0)&&decide (m.iE=0)&&decide (m.code=0)&&decide (m.aU= .zero)&&decide (m.prev= .zero)&&!m.jM&&decide (m.n=0)&&decide (m.mx=0)&&
 m.state.isZero&&decide ((m.keys.length:Int)+m.seen.length+m.writes.length+m.parts.length+m.ranges.length+m.bw.length=0)
theorem aaC (h:m.at w X vk vs vw vp vr vc vh vd) (Bb:m.keys.length+m.seen.length+m.writes.length+m.parts.length+m.ranges.length+m.bw.length<=2^62):
  Ct pg 98 #[m.v vk vs vw vp vr vc vh vd] w X nX λv _ _=>v=B m.isZero:=by
 intro w0 hk;replace h:=h.mv hk.cE;obtain⟨h1,h2,h3,h4,h5,h6,h7,h8⟩:=h;have o7:=h7.one;have o8:=h8.one;refine Zt.1 λhs=>?_;cases hc:m.jM<;>
 repeat' first|refine aq ?_;intros|refine dg ?_ ?_<;>intros|(with_reducible refine FO _ ?_ ?_ ?_);(· kernel_rfl);all_goals intros|(with_reducible refine ags _ ?_ ?_ ?_);(· kernel_rfl);all_goals intros|with_reducible apply cK|(refine qr ?_;intro wa hk;(simp_all [cJ.isZero,State.isZero,fe.ext_iff]<;>omega))|((with_reducible refine FG (Cz _) hs.has ?_);intro w X aB;replace hs:=hs.trans aB)
def cJ.strip (m:cJ):cJ×Bool:=
 if m.kind=1 then({ m with aG:=.zero,range:=0,iE:=0,aU:=.zero,keys:=[] },true)
 else if m.kind=2 then({ m with aG:=.zero,range:=0,code:=0,aU:=.zero,seen:=[],ranges:=[] },true)
 else if m.kind=3 then({ m with aG:=.zero,range:=0,iE:=0,aU:=.zero,seen:=[],writes:=[],parts:=[] },true)
 else if m.kind=4 then({ m with aG:=.zero,range:=0,code:=0,aU:=.zero,ranges:=[] },true)
 else if m.kind=5 then({ m with aG:=.zero,range:=0,jM:=false,aU:=.zero },true)
 else if m.kind=6\/m.kind=7 then({ m with aG:=.zero,range:=0 },true)
 else if m.kind=8 then({ m with range:=0,n:=0,mx:=0,aU:=.zero },true)
 else if m.kind=9 then({ m with range:=0,n:=0,bw:=[] },true)
 else if m.kind=10 then({ m with range:=0,state:=.zero },true)
 else if m.kind=11 then({ m with range:=0 },true)
 else if m.kind=12 then({ m with prev:=.zero,aU:=.zero,aG:=.zero,writes:=[] },true)
 else if m.kind=13 then(m,true)
 else if m.kind=14 then({ m with aU:=.zero },true)
 else(m,false)
theorem Sc (h:m.at w X vk vs vw vp vr vc vh vd):
  Ct pg 96 #[m.v vk vs vw vp vr vc vh vd] w X nX λv wa w'=> ∃HR qP gX JZ ZX vc' ZY ZZ,v= .tuple #[m.strip.1.v HR qP gX JZ ZX vc' ZY ZZ,B m.strip.2]/\
   m.strip.1.at w X HR qP gX JZ ZX vc' ZY ZZ:=by
 intro w0 hk;obtain⟨h1,h2,h3,h4,h5,h6,h7,h8⟩:=h;have o1:=h1.one;have o2:=h2.one;have o3:=h3.one;have o4:=h4.one;have o5:=h5.one;have o6:=h6.one;have o7:=h7.one;have o8:=h8.one;refine RA.1 λhs=>?_;have n1:Sl w X 1 (.slice none 0 0) (([]:List BA).map S1):=Sl.nil _ _ _;have n2:Sl w X 7 (.slice none 0 0) (([]:List fg).map fg.l):=Sl.nil _ _ _;have n4:Sl w X 1 (.slice none 0 0) (([]:List Int).map I1):=Sl.nil _ _ _;have n5:Sl w X 4 (.slice none 0 0) (([]:List fe).map fe.l):=Sl.nil _ _ _;have n6:eY w X 29 (.slice none 0 0) Rec.rd []:=eY.nil _ _ _;have n7:ri w X (.slice none 0 0) []:=eY.nil _ _ _;have n8:qZ w X (.slice none 0 0) []:=eY.nil _ _ _;repeat' first|refine aq ?_;intros|refine dg ?_ ?_<;>intros|with_reducible apply cK
 all_goals
  refine cH hs ?_;intro wa aL;unfold cJ.strip;repeat (first|rw[if_pos zQ]|rw[if_neg zQ])
  exact⟨_,_,_,_,_,_,_,_,rfl,by omega,by assumption,by assumption,by assumption,by omega,by assumption,by assumption,by assumption⟩
def cJ.err (m:cJ):Int:=if !m.strip.2 then 7 else if !R9 m.fr||!R9 m.to||!m.strip.1.isZero||!m.qD then 4 else 0
def cJ.lens (m:cJ):Nat:=m.keys.length+m.seen.length+m.writes.length+m.parts.length+m.ranges.length+m.bw.length
theorem ajx {c:Prop} [Decidable c] {a b:cJ×Bool} {n:Nat} (ha:a.1.lens<=n) (hb:b.1.lens<=n):(if c then a else b).1.lens<=n:=by grind
theorem cJ.aff (m:cJ):m.strip.1.lens<=m.lens:=by
 unfold cJ.strip;repeat' with_reducible apply ajx
 all_goals (unfold cJ.lens;grind)
theorem aa6 (h:m.at w X vk vs vw vp vr vc vh vd) (lW:m.small) (Bb:m.lens<=2^62):
  Ct pg 53 #[m.v vk vs vw vp vr vc vh vd] w X nX λv _ _=>v=I m.err:=by
 intro w0 hk;have h:=h.mv hk.cE;have arU:=Nat.le_trans m.aff Bb;refine abg.1 λhs=>?_;refine cM (Sc h) kQ hs.has ?_;rintro v wa w X ⟨HR,qP,gX,JZ,ZX,vc',ZY,ZZ,rfl,dc⟩ hle gC aB;replace hs:=hs.trans aB;have q1:=dc.1.one;have q2:=dc.2.one;have q3:=dc.3.one;have q4:=dc.4.one;have q5:=dc.5.one;have q6:=dc.6.one;have q7:=dc.7.one;have q8:=dc.8.one;cases hb:m.strip.2<;>
 repeat' first|refine aq ?_;intros|with_reducible apply cK|(refine kG (abG _) hs ?_ ?_<;>intro _ w X hs)|(refine qr ?_;intro wa hk;(simp[cJ.err, *]))|(refine qL ((aaC (m:=m.strip.1))  (dc.mv (ai.mv (by first|assumption|exact ai.trans aQ aQ))) arU) hs ?_ ?_<;>intro _ w X hs)|(refine qL ((Tz (m:=m))  (h.mv (ai.mv hs)) lW) hs ?_ ?_<;>intro _ w X hs)
variable {xo yo : Operand} {P : Program}
theorem alu {t:TypeId} {a:Bool} (ht:P.underlying t=some .bool) (k:N (.bool false)):aY P X w (dF .neq t xo yo (.bool a) (.bool a)) N:=by
 refine bK (λwa=>?_) k;simp[dF,eqGuard,run_neq_bool wa t a a ht]
theorem alv {t:TypeId} {a b:Bool} (ht:P.underlying t=some .bool) (h:a≠b) (k:N (.bool true)):aY P X w (dF .neq t xo yo (.bool a) (.bool b)) N:=by
 refine bK (λwa=>?_) k;have:(a==b)=false:=by cases a<;>cases b<;>simp_all
 simp[dF,eqGuard,run_neq_bool wa t a b ht,this]
theorem P5 {xs:List cJ} {p:cJ->Bool} (ha:eY w X 36 a cJ.rd xs) (hX: ∀k,X k->k<w.heap.size) (hf:enters pg f=true)
  (hp: ∀(x:cJ) vk vs vw vp vr vc vh vd,aK.one vk=true->aK.one vs=true->aK.one vw=true->aK.one vp=true->aK.one vr=true->aK.one vc=true->aK.one vh=true->aK.one vd=true->Ct pg f ((x.v vk vs vw vp vr vc vh vd)::cs).toArray w X nX λv _ _=>v=B (p x)):
  Ct pg 225 #[a,.func (.func f) #[] cs.toArray] w X nX λv _ _=>v=I (idxOf p xs):=by
 intro w0 hk;replace ha:=eY.mv ha cJ.mv hk.cE;replace hp:=λ(x:cJ) vk vs vw vp vr vc vh vd h1 h2 h3 h4 h5 h6 h7 h8=>((hp x vk vs vw vp vr vc vh vd h1 h2 h3 h4 h5 h6 h7 h8).kp hk).bP λk hx=>aw (hX k hx) hk.size;have lh:=ha.len;refine wU.1 λhs=>?_;repeat' refine aq ?_;intros
 refine fY (λn a w X=> ∃i:Nat,a=I (i:Nat)/\n=(xs).length-i/\i<=(xs).length/\ai (bP w0) w0 X w/\(∀(j:Nat) x,j<i->xs[j]? =some x->p x=false)) (xs).length ⟨0,rfl,rfl,ak _,hs,by simp⟩ ?_;rintro n a w X ⟨i,rfl,rfl,hi,hs,hw⟩;rcases dB (xs) i with⟨cI,x,hx,hd⟩|⟨dC,hd⟩
 ·have sj:=eY.mv ha cJ.mv hs.mv;repeat' refine aI ?_;intros
  refine Gl sj hx rfl kQ kQ λbb oo ll hc jE=>?_;obtain⟨vk,vs,vw,vp,vr,vc,vh,vd,rfl,dc⟩:=jE;have q1:=dc.keys.one;have q2:=dc.seen.one;have q3:=dc.writes.one;have q4:=dc.parts.one;have q5:=dc.ranges.one;have q6:=dc.bw.one;have q7:=dc.iA.one;repeat' refine aq ?_;intros
  refine HS ((hp x vk vs vw vp vr vc vh vd q1 q2 q3 q4 q5 q6 q7 dc.ia.one).since hs) hf hs.has (λhb w2 X2 bH=>?_) (λhb w2 X2 bH=>?_)
  ·repeat' refine aq ?_;intros
   exact cH (hs.trans bH) λ_ _=>by rw[Cn hw hx hb]
  ·repeat' refine aq ?_;intros
   exact ey (xs.length-(i+1)) zQ ⟨i+1,by simp,rfl,by omega,hs.trans bH,λj y hj hy=>by rcases Nat.lt_succ_iff_lt_or_eq.1 hj with h|h;exact hw j y h hy;subst h;rw[hx] at hy;cases hy;exact hb⟩
 ·repeat' first|refine aq ?_;intros|refine dg ?_ ?_<;>intros|(refine qr ?_;intro wa hk;(rw[yI λj x hj hx=>hw j x zQ hx]))|(exfalso;omega)
theorem agV {c t:cn} (h:c.may=true) (ht:t.may=true):(c.later ⟨t.wall,t.dA,c.node⟩).may=true:=by
 unfold cn.later;split
 ·simp only[cn.may,Bool.and_eq_true,decide_eq_true_eq] at h ht⊢;(try simp only);omega
 ·exact h
variable {w' : World} {X' : XS} {n : br} {id : Int}
section
variable {wa w0 : World} {own aM bY : Nat -> Nat} {n' : br} {x : AcV} {ws : List cJ}
theorem aaD (h:aH w X b [I id] 3):
  Ct pg 226 #[m.v vk vs vw vp vr vc vh vd,ptr b 0] w X nX λv _ _=>v=B (decide (m.range=id)):=by
 intro w0 hk;replace h:=h.mv hk.cE;refine DN.1 λhs=>?_;repeat' first|refine aq ?_;intros|refine dg ?_ ?_<;>intros|(refine qr ?_;intro wa hk;(simp[*]))
theorem FY (ha:aH w X b (JQ x vw) aT) (hw:eY w X 36 vw cJ.rd ws):Ct pg 153 #[ptr b 0,I id] w X nX λv _ _=>v=I (idxOf (λm=>decide (m.range=id)) ws):=by
 intro w0 hk;replace ha:=ha.mv hk.cE;replace hw:=eY.mv hw cJ.mv hk.cE;have o1:=hw.one;have hs:=ai.init w0;refine F5.1 λ_=>?_;repeat' first|refine aq ?_;intros|(refine q1x hs ?_;intro bx w X gn aB gw hs bt)
 refine ff (P5 (cs:=[ptr bx 0]) (p:=λm=>decide (m.range=id)) (eY.mv hw cJ.mv gw.mv) hs.has kQ λx vk vs vw vp vr vc vh vd _ _ _ _ _ _ _ _=>aaD bt) kQ hs.has λw2 X2 bH=>?_;exact cH (gw.trans bH) λ_ _=>rfl
def _root_.Go.aK.St.wts (s:Sn w0 bY w X own n) (hb:n.dE b):eY w X 36 (n.A b).vw cJ.rd (n.A b).ws:=
 have⟨_,h2,_,h4,_⟩:=s.h.act hb
 ⟨_,h2.sl.mono (s.sub _ iz.1),h4.1,λi l m h1 h2=>cJ.mv (h4.2 i l m h1 h2) (Mv.sub (s.sub 4))⟩
theorem QE (hp:n.pre=false):n.DY=ptr n.c.cb 0:=by unfold br.DY;rw[hp];rfl
theorem HU {e':List Nat} (h: ∀b∈e',b∈n.ex): ∀c,c≠0->c≠4-> ∀w K A,(ea n c).p w K A->(ea { n with ex:=e' } c).p w K A:=λc h0 _=>oe (Q:=λc=>c≠0) (n':= { n with ex:=e' }) (λb i hi _ w K A p=>by
 have q:({ n with ex:=e' } :br).dE b->n.dE b:=.imp id (h b);rcases i with _|_|_|_|_|_|_|_|i<;>first|exact λha=>p (q ha)|exact p) (λi _ _ w K A p=>by rcases i with _|_|_|_|_|_|_|_|_|_|_|_|_|i<;>exact p) c h0
def CM (n:br) (m:cJ) (pp:Bool) (n':br):Prop:= ∃b gN mR ki lX,getM m.aG n.al=some b/\(n.A b).x.pre=pp/\m.code≠0/\
 n'= { n with ck:=gN,ds:=m.ranges.foldl ja n.ds,al:=kq m.aG n.al,vm:=mR,va:=ki,rm:=lX,ra:=n.ra++[EW m.code m.aG .zero false aX],ms:=n.ms++(if pp then(n.A b).ids.map λid=>(SG m.aG id).pP (20+n.c.id)else []) }
structure CN (n:br) (m:cJ) (pp:Bool) (b i:Nat) (y:cJ):Prop where
 g:getM m.aG n.al=some b
 pre:(n.A b).x.pre=pp
 code:m.code=0
 gL:(n.A b).ws[i]? =some y
 pe:y.range=m.range
def NoW (n:br) (m:cJ) (pp:Bool):Prop:= ∀b i y,¬CN n m pp b i y
def aj2 (n:br) (m:cJ) (pp:Bool) (v:Value) (n':br):Prop:=
 (v= .tuple #[.pointer none,I 0]/\((∃gN,n'= { n with ck:=gN } /\NoW n m pp)\/CM n m pp n'))\/
 ∃(b i:Nat) (y:cJ) (gN:cn),CN n m pp b i y/\v= .tuple #[ptr b 0,I i]/\n'= { n with ck:=gN }
theorem HW {gX:Value} {pp:Bool} (h:j9 w own n) (hX:tn own X) (hp:n.pre=false) (fQ:m.aU.may=true) (Ic:Sl w (bZ own 4) 4 vr (m.ranges.map fe.l)) (hi:1<=n.c.id/\n.c.id<=2) (hl:n.ra.length<=2^20) (hpq: ∀b,getM m.aG n.al=some b->(n.A b).pq=false) (wo: ∀b,getM m.aG n.al=some b->n.rm.length+(n.A b).ids.length<=2^20):
  Ct pg 100 #[ptr n.nb 0,m.v vk vs gX vp vr vc vh vd,B pp] w X (gH own) λv wa w'=>NQ ea own wa w' λ_ n'=>aj2 n m pp v n':=by
 intro w0 hk;have s:=St.init h hX hk;replace Ic:=Ic.mv (yU hX hk);have hr:=s.v.1;have hs:=s.rf;have no:(∀b i y,¬CN n m pp b i y)->aj2 n m pp (.tuple #[.pointer none,I 0]) n:=λh=>.inl ⟨rfl,.inl ⟨n.ck,rfl,h⟩⟩;refine I9.1 λ_=>?_;repeat' refine aq ?_;intros
 refine nr (kt:=34) (et:=116) (kv:=λk:bX=>k.v) (k:=m.aG) (.pointer none) (s.Aa 5:) tf kQ kQ (λv b kV rX=>?_) (λhn=>?_);case refine_2=>
  repeat' first|refine aq ?_;intros|with_reducible apply cK
  exact s.fin λ_ _=>no λb i y h=>by rw[h.g] at hn;cases hn
 simp only[zz] at rX;subst rX;have hb:n.dE b:=.inl ⟨_,kV⟩;obtain⟨ha,o1,o2,o3,o4⟩:=s.va hb;have only: ∀{b' i y},CN n m pp b' i y->b'=b:=λh=>by have:=h.g;rw[kV] at this;cases this;rfl
 repeat' refine aq ?_;intros
 by_cases hpp:(n.A b).x.pre=pp;case neg=>
  refine alv kQ hpp ?_;repeat' first|refine aq ?_;intros|with_reducible apply cK
  exact s.fin λ_ _=>no λb' i y h=>hpp (by have e:=only h;subst e;exact h.pre)
 subst hpp;refine alu kQ ?_;repeat' first|refine aq ?_;intros|with_reducible apply cK
 refine ff (FY (id:=m.range) ha (s.wts hb)) kQ hs.has λw1 X1 aB=>?_;have s1:=s.since aB;replace Ic:=Ic.mv (aB.gY (s.sub 4));rcases Hg (p:=λy:cJ=>decide (y.range=m.range)) (l:=(n.A b).ws)with⟨e,en⟩|⟨i,y,hy,hpy,e⟩
 ·rw[e];clear hs;repeat' refine aI ?_;intros
  exact s1.fin λ_ _=>no λb' i y h=>by
   have e:=only h;subst e;exact absurd (en y (av h.gL)) (by simp[h.pe])
 have Y6:y.range=m.range:=by simpa using hpy
 rw[e];clear hs hr ha s;have hs:=s1.rf;have hr:=s1.v.1;rw[QE hp] at hr;repeat' refine aI ?_;intros
 have A9:=(show n.pre=false->aH w1 (bZ own 7) n.c.cb (Hb n.ck) IF/\n.ck.may=true from s1.get 7) hp;have QG: ∀k,k=n.c.cb->own k=7:=λk e=>by rw[e];exact A9.1.1
 refine xQ (V6 (A9.1.mono (s1.sub 7)) fQ) kQ s1.has (λk e=>s1.x k (by have:=QG k e;omega)) λv xN w2 X2 q2 lK ko _ c2=>?_;obtain⟨_,Wb⟩:=q2;obtain⟨lZ,s2,m2⟩:=s1.DD (F':=ea { n with ck:=n.ck.later ⟨m.aU.wall,m.aU.dA,n.ck.node⟩ }) 7 c2 QG (· =n.c.cb) (λk e=>.inl (QG k e)) (λK _ _=>⟨Wb,agV A9.2 fQ⟩) oe;replace Ic:=Ic.mv m2;clear hs hr s1;generalize n.ck.later ⟨m.aU.wall,m.aU.dA,n.ck.node⟩=gN at s2;have hs:=s2.rf;have hr:=s2.v.1;by_cases hcd:m.code=0
 ·repeat' refine aI ?_;intros
  refine ff (FY (id:=m.range) (s2.va (b:=b) hb).1 (s2.wts (b:=b) hb)) kQ hs.has λw3 X3 dt=>?_;rw[e];exact(s2.since dt).fin λwa aL=>.inr ⟨b,i,y,gN,⟨kV,rfl,hcd,hy,Y6⟩,rfl,rfl⟩
 repeat' refine aI ?_;intros
 have hd:mD w2 (bZ lZ 2) n.c.ac8 n.mb n.ds:=s2.get 2;refine xQ (OU hd (s2.fxc 2) Ic λk (e:lZ k=4)=>⟨s2.x k zQ,λe'=>by have:lZ n.mb=2:=hd.map.x.1;rw[e'] at e;omega⟩) kQ s2.has (λk e=>s2.x k (by rw[show k=n.mb from e,show lZ n.mb=2 from hd.map.x.1];decide)) λv zA w3 X3 q3 rn mX _ c3=>?_;obtain⟨nH,s3,m3⟩:=s2.DD (F':=ea { n with ck:=gN,ds:=m.ranges.foldl ja n.ds }) 2 c3 (λk e=>by rw[show k=n.mb from e];exact hd.map.x.1) (bZ lZ 2) (λk e=>.inl e) (λK _=>q3.2) oe;clear hs hr s2;have hs:=s3.rf
 skip
 refine s3.call (zU (n:= { n with ck:=gN,ds:=_ }) (b:=b) (code:=m.code) s3.h s3.x hb (hpq b kV) hl hi (wo b kV)) kQ λv w4 X4 l7 n4 s4 q4 m4=>?_;obtain⟨ki,mR,lX,rfl,_⟩:=q4;have s5:=s4.to (HU (e':=n.ex) λ_=>List.mem_cons_of_mem _);clear hs
 skip
 have hk:(n.A b).x.aG=m.aG:=(show∀t b,getM t n.al=some b->(n.A b).x.aG=t from h.gL 12 dQ dQ) _ _ kV;refine s5.fin λwa aL=>.inl ⟨rfl,.inr ⟨b,gN,mR,ki,lX,kV,rfl,hcd,?_⟩⟩;rw[<-hk]
end
section
variable {N N' S : XS} {rb sb wb : Nat} {xD oU : Value} {sd : List (BA × gO)}
theorem alw {k:BA} {C:Value->Prop} (h:dS w X nX mb aP nF t) (n: ∀(v:gO) b,C (.tuple #[v.v,.bool b])):aY pg X w (Instr.lookup 287 (.map (some mb)) (.string k) true) C:=by
 refine FJ (kt:=9) (et:=97) (kv:=aP) gO.zero.v h yt kQ kQ (λv a hg hv=>?_) (λhg=>?_)
 ·grind [nF]
 ·exact n _ _
theorem agW {k:BA} (h:ix w N rb sb wb xD s wr) (hN: ∀k,N k->X k) (hm:dS w X nX sb aP nF sd):Ct pg 235 #[ptr rb 0,.string k] w X nX λv _ _=> ∃x:gO,v=x.v:=by
 intro w0 hk;have bt:=(h.row.mono hN).mv hk.cE;have hwm:=(mi h.map (hN _ h.map.x.1)).mv kP hk.cE (A':=nX) λ_ h=>h.elim;replace hm:=hm.mv kP hk.cE (A':=nX) λ_ h=>h.elim;have hs:=ai.init w0;refine RI.1 λ_=>?_;repeat' first|refine aq ?_;intros|refine dg ?_ ?_<;>intros|(refine alw zQ λv b=>?_)|(refine aaz zQ ?_)|(refine qr ?_;intro wa hk;(exact⟨_,rfl⟩))
def DoQ (o:jz) (N:XS) (rb sb wb:Nat) (s:List gO) (wr:GG) (wa w':World):Prop:= ∃s' px N' oU,(s'.length:Int)=s.length+(BM o.code-tV o.code)/\(px=wr\/ ∃v,px=cU o.key v wr/\(o.code=2\/o.code=3))/\(o.code≠1->uZ o s wr= .ok (s',px))/\(∀k,N' k->N k\/made wa w' k)/\ix w' N' rb sb wb oU s' px
theorem agX (h:ix w N rb sb wb xD s wr) (hN:FX N X w) (hm:dS w X nX sb aP nF sd) (hl:s.length<=2^20) (e1:o.code=1):
  Fj pg 168 #[ptr rb 0,.agg o.l.toArray] w X N (λ_ wa w'=>DoQ o N rb sb wb s wr wa w') (λch _ _=> ∃e,ch=wg e/\(o.code≠1->uZ o s wr= .error e)):=by
 intro w0 hk;have hT:=hN.ft hk;replace h:=h.mv (hN.mv hk);replace hm:=hm.mv kP hk.cE (A':=nX) λ_ h=>h.elim;have hs:=ai.init w0;refine pE.1 λ_=>?_;repeat' first|refine aI ?_;intros|with_reducible apply cK
 refine cM (agW h hT.bg hm) kQ hs.has ?_;rintro _ wa w1 X1 ⟨v,rfl⟩ hle gC aB;have eo:=hT.since aB;have h1:=h.mv (aB.gY λk ah=>hT.bg k ah);refine eo.call (JA (v:=v) h1 (λk ah=>⟨eo.bg k ah,eo.s.has k (eo.bg k ah)⟩) zQ) kQ (λ_ h=>h) λv zB w4 X4 hq tJ py fR c4=>?_;obtain⟨N4,HB,UN,h4⟩:=hq;have Ad:=fR.less UN;have ajC:(BM o.code-tV o.code:Int)=1:=by rw[e1];decide
 exact Ad.yf λwa aL=>⟨_,_,_,_,by grind,.inl rfl,λe=>absurd e1 e,Ad.jv aL λ_ h=>h,h4.mv (aL.jj Ad.bg)⟩
theorem agY (h:ix w N rb sb wb xD s wr) (hN:FX N X w) (hm:dS w X nX sb aP nF sd) (hl:s.length<=2^20) (hc:1<=o.code/\o.code<=15) (ht:tV o.code<=s.length):
  Fj pg 168 #[ptr rb 0,.agg o.l.toArray] w X N (λ_ wa w'=>DoQ o N rb sb wb s wr wa w') (λch _ _=> ∃e,ch=wg e/\(o.code≠1->uZ o s wr= .error e)):=by
 by_cases e1:o.code=1
 ·exact agX h hN hm hl e1
 ·refine(ajt h hN hl e1 hc ht).mono (λ_ _ _ _ hq=>?_) λch _ _ _ hq=>?_
  ·obtain⟨s',px,N',oU,h1,h2,h3⟩:=hq;exact⟨s',px,N',oU,als h1 hc e1 ht,aod h1,λ_=>h1,h2,h3⟩
  grind
end
def Xk (p:List jz) (e:Int) (wl:List KV):Prop:=fq 1 1 p=[]->nG p=0->match runM p [] [] with
 | .ok (_,wr)=>e=0/\wl=Fy wr
 | .error e'=>e=e'
theorem Xk.err (h:fq 1 1 p=[]->nG p=0->runM p [] []= .error e):Xk p e []:=λh1 h2=>by rw[h h1 h2]
def aof (p:List jz) (v:Value) (wa w':World):Prop:= ∃(vl:Value) (wl:List KV) (e:Int),v= .tuple #[vl,I e]/\Sl w' (made wa w') 4 vl (wl.map KV.l)/\wl.length<=40/\(∀x∈wl,x.key.size<=24/\ ∃o∈p,x.key=o.key/\(o.code=2\/o.code=3))/\Xk p e wl
theorem aaP {b:Value} (ha:Sl w X 5 a (p.map jz.l)) (hb:Sl w X 7 b (sn.map fg.l)):
  Ct pg 113 #[a,b] w X nX λv wa w'=>aof p v wa w':=by
 intro w0 hk;replace ha:=ha.mv hk.cE;replace hb:=hb.mv hk.cE;have lh:=ha.gV;have hF:FX nX (bP w0) w0:=λk ah=>ah.elim;have hT:=hF.ft (Kp.refl _ _);refine ZO.g (RP:=λch w'=> ∃e,ch=wg e/\Fr nX w0 w'/\(fq 1 1 p=[]->nG p=0->runM p [] []= .error e)) kQ (.inl rfl) ajv (agS λch w' ⟨e,h1,h2,h9⟩=>⟨e,h1,_,rfl,h2,?_⟩) ?_
 ·exact⟨_,[],e,rfl,Sl.nil _ _ _,by simp,λx hx=>absurd hx sQ,Xk.err h9⟩
 refine cz ?_;have hs:=ai.init w0;refine ff (K9 ha) kQ hs.has λw1 X1 aB=>?_;have eo:=hT.since aB;have sj:=ha.since aB;replace hs:=hs.trans aB;by_cases hc:nG p≠0
 ·repeat' refine aI ?_;intros
  exact acr (eo.fin λwa aL=>⟨_,[],_,rfl,Sl.nil _ _ _,by simp,λx hx=>absurd hx sQ,Xk.err λ_ h=>absurd h hc⟩)
 ·repeat' refine aI ?_;intros
  have hlen:p.length<=40:=by
   unfold nG at hc;split at hc
   ·exact absurd dQ hc
   ·omega
  have hcf:zg p 0=0:=by
   unfold nG at hc;split at hc
   ·exact absurd dQ hc
   ·split at hc
    ·exact absurd ‹_› hc
    ·omega
  refine cM (A3 sj zQ) kQ hs.has ?_;rintro vr wa w2 X2 ho hle gC bH;have da:=eo.since bH;have ha2:=sj.since bH;replace hs:=hs.trans bH;refine cM (abJ ((ho.mono gC).sl) (hb.mv hs.mv)) kQ hs.has ?_;rintro _ wb w3 X3 ⟨ef,vm,rfl,hf0,hfm⟩ rn mX dt;have dU:=da.since dt;have ha3:=ha2.since dt;replace hs:=hs.trans dt;by_cases hef:ef=0;case neg=>
   repeat' refine aI ?_;intros
   exact acr (dU.fin λwa aL=>⟨_,[],_,rfl,Sl.nil _ _ _,by simp,λx hx=>absurd hx sQ,Xk.err λh=>absurd (hf0 h) hef⟩)
  obtain⟨sb,sd,rfl,aaE⟩:=hfm hef;replace aaE:=mi aaE (mX _ aaE.x.1);subst hef;have ae2:=hs;clear aB bH dt;repeat' refine aI ?_;intros
  refine rL (kv:=aP) nF nX hs.has λmb w4 X4 hmb gd Az=>?_;have fR:=dU.since gd;have ha4:=ha3.since gd;have sU:=hs.trans gd;clear hs;repeat' refine aq ?_;intros
  refine Bj sU.has λrb w5 X5 N7 tr bt=>?_;have iQ:=fR.since tr;have ha5:=ha4.since tr;have xS:=Az.mv kP tr.mv (λ_ h=>h.elim) (A':=nX);have K3:=sU.kp.size;have h5:ix w5 (λk=>k=rb\/k=mb) rb sb mb (.slice none 0 0) [] []:=⟨⟨.inl rfl,bt.2⟩,Own.nil _ _ _ _ _,mi xS (.inr rfl)⟩;have aog:Ft w0 nX w5 X5 (λk=>k=rb\/k=mb):=iQ.more λk e=>by
   have:=ae2.kp.size;rcases e with e|e<;>subst e
   ·exact .inr ⟨bt.1,by omega⟩
   ·exact .inr ⟨xS.x.1,by omega⟩
  have hs:=sU.trans tr;clear Az xS bt;have arX:=(aaE.mv kP gd.mv (A':=nX) λ_ h=>h.elim).mv kP tr.mv (A':=nX) λ_ h=>h.elim;have arY: ¬(sb=rb\/sb=mb):=λe=>by
   have h1:=aaE.x.2;have:=gd.kp.size;rcases e with e|e<;>omega
  clear gd tr;repeat' refine aq ?_;intros
  refine fY (λn a w X=> ∃(i:Nat) (N:XS) (xD:Value) (s:List gO) (wr:GG),a=I i/\n=p.length-i/\i<=p.length/\Ft w0 nX w X N/\ix w N rb sb mb xD s wr/\zg (p.drop i) s.length=0/\(s.length:Int)<=16/\(∀x∈wr,x.1.size<=24/\ ∃o∈p,x.1=o.key/\(o.code=2\/o.code=3))/\wr.length<=i/\dS w X nX sb aP nF sd/\ ¬N sb/\(fq 1 1 p=[]->runM p [] []=runM (p.drop i) s wr)) p.length
   ⟨0,_,_,_,_,rfl,rfl,ak _,aog,h5,hcf,by simp,λx hx=>absurd hx sQ,Nat.le_refl _,arX,arY,λ_=>rfl⟩ ?_
  clear aog h5 iQ fR dU da eo hs ha5 ha4 ha3 ha2 sj;rintro n _ w X ⟨i,N,xD,s,wr,rfl,rfl,hi,ku,h6,HE,hl6,hwk,HQ,aaF,aj3,Gm⟩;have ha6:Sl w X 5 a (p.map jz.l):=ha.mv λk ah _=>⟨ku.s.sub k ⟨ah,λe=>e.elim⟩,ku.s.kp.block k ⟨ah,λe=>e.elim⟩⟩;have hs:=ai.fL ku.s.has;rcases dB (p) i with⟨cI,o,hx,hd⟩|⟨dC,hd⟩
  ·have UK:=av hx;rw[hd] at HE;have hf6:=MR HE o sQ;unfold zg at HE;rw[if_neg (λh=>h hf6.2),if_neg (by rw[hf6.1];simp)] at HE;have tW:tV o.code<=s.length:=by
    split at HE
    ·omega
    ·omega
   rw[if_neg zQ] at HE;have ase:(s.length:Int)+(BM o.code-tV o.code)<=16:=by
    split at HE
    ·omega
    ·omega
   rw[if_neg zQ] at HE;repeat' refine aI ?_;intros
   refine ku.Gw (agY h6 (λk ah=>⟨ku.bg k ah,ku.s.has k (ku.bg k ah)⟩) aaF zQ hf6.2 tW) kQ (λ_ h=>h) (λv QA w7 X7 hq Ss Ha Dh c7=>?_) λch QA w7 X7 hq Ss Ha Dh c7 wb7 pS=>?_
   ·obtain⟨s',px,N',oU,apz,hwr,hdo,hN',h7⟩:=hq;have arZ:fq 1 1 p=[]->runM p [] []=runM (p.drop (i+1)) s' px:=λe=>by rw[Gm e,hd,runM,hdo (agU hcf e o UK)]
    have apA: ¬N' sb:=λe=>(hN' sb e).elim aj3 λe=>by have:=aaF.x.2;have:=e.1;omega
    have ar0:dS w7 X7 nX sb aP nF sd:=mi ((mi aaF (Y:=(· =sb)) rfl).mv kP (λk ah _=>⟨ah,c7.block k (by rw[ah];exact aaF.x.1) (by rw[ah];exact aj3)⟩) (A':=nX) λ_ h=>h.elim) (c7.sub _ aaF.x.1);have SA:=Dh.less hN';have ar1: ∀x∈px,x.1.size<=24/\ ∃o∈p,x.1=o.key/\(o.code=2\/o.code=3):=λx hx=>by
     rcases hwr with e|⟨v,e,BU⟩
     ·rw[e] at hx;exact hwk x hx
     ·rw[e] at hx;rcases mV h6.map.nodup hx with rfl|⟨hx,_⟩
      ·exact⟨afe hf6.1 BU,o,av aQ,rfl,BU⟩
      ·exact hwk x hx
    have ar2:px.length<=i+1:=by
     rcases hwr with e|⟨v,e,BU⟩
     ·rw[e];omega
     ·rw[e];have:=C4 (k:=o.key) (a:=v) wr;omega
    rw[<-apz] at HE;repeat' first|refine aq ?_;intros|((with_reducible refine ey (p.length-(i+1)) ?_ ?_);omega;exact⟨i+1,N',oU,s',px,by simp,rfl,by omega,SA,h7,HE,by omega,ar1,ar2,ar0,apA,arZ⟩)
   ·obtain⟨e,hch,hdo⟩:=hq;exact⟨e,hch,Dh.fr pS,λe1 _=>by rw[Gm e1,hd,runM,hdo (agU hcf e1 o UK)]⟩
  ·have apB:=h6.row.mono λk ah=>ku.bg k ah;repeat' refine aI ?_;intros
   have hNX: ∀k,N k->X k:=ku.bg;have hm6:dS w X nX mb aP nF wr:=mi h6.map (hNX _ h6.map.x.1);refine cM ale kQ ku.s.has ?_;rintro _ QA w7 X7 ⟨bx,rfl,hb⟩ Ss Ha np;have hm7:=hm6.mv kP np.mv (λ_ h=>h.elim) (A':=nX);have Dh:=ku.since np;refine cM (agB hm7 (hb.mono Ha) (λe he=>Nat.le_trans (hwk e he).1 dQ) zQ) kQ Dh.s.has ?_;rintro vs wb8 w8 X8 Bi aqQ ain lV;have Uw:=Dh.since lV;have hz7:=Dh.s.kp.size;have xl:Own w8 X8 w0.heap.size 9 1 vs ((fT (wr.map (·.1))).map S1):=Bi.up ain zQ;have hW:Fy wr=(fT (wr.map (·.1))).map λk=>(⟨k,(getM k wr).getD .zero⟩:KV):=rfl;have XQ:(fT (wr.map (·.1))).length=wr.length:=by rw[(kU _).length_eq,af]
   have uC: ∀{w9:World} {X9:XS} {v:Value},Ft w0 nX w9 X9 N->Own w9 X9 w0.heap.size 178 4 v ((Fy wr).map KV.l)->fin (Gy (vy nX w0 λv w'=>(λv wa w'=>aof p v wa w') v w0 w') (λch w'=> ∃e,ch=wg e/\Fr nX w0 w'/\(fq 1 1 p=[]->nG p=0->runM p [] []= .error e))) X9 w9 (.tuple #[v,I 0]):=λq1 q2=>
    q1.adY λwa aL=>⟨_,_,_,rfl,(q2.kp aL).tight.sl,by rw[hW,af,XQ];omega,λx hx=>by
     rw[hW] at hx;obtain⟨k,ah,rfl⟩:=List.mem_map.1 hx;obtain⟨y,hy,rfl⟩:=List.mem_map.1 ((kU _).mem_iff.1 ah);exact hwk y hy,λe _=>by rw[Gm e,hd];exact⟨rfl,rfl⟩⟩
   rw[hW] at uC;generalize fT (wr.map (·.1))=ids at xl XQ uC;have h8:=h6.mv ((np.trans lV).gY hNX);have hN8: ∀k,N k->X8 k:=λk ah=>lV.sub k (np.sub k (hNX k ah));clear hW ha6 hs hm6 hm7 Dh hb Bi np lV;have pf:=xl.sl;have hs:=ai.fL Uw.s.has;repeat' refine aq ?_;intros
   refine gM (λn a b w X=> ∃(j:Nat) (v:Value),a=I j/\b= .agg #[v]/\n=ids.length-j/\j<=ids.length/\ai X8 w8 X w/\Own w X w8.heap.size 178 4 v (((ids.take j).map λk=>(⟨k,(getM k wr).getD .zero⟩:KV)).map KV.l)) ids.length ⟨0,_,rfl,rfl,rfl,ak _,ai.fL Uw.s.has,Own.nil _ _ _ _ _⟩ ?_;rintro n _ _ w9 X9 ⟨j,v,rfl,rfl,rfl,hj,BV,JX⟩;have hT9:=Uw.since BV;have h9:=h8.mv (BV.gY hN8);have asf:=h9.row.mono λk ah=>BV.sub k (hN8 k ah);have as9:=pf.since BV;have apC:dS w9 X9 nX mb aP nF wr:=mi h9.map (BV.sub _ (hN8 _ h8.map.x.1));have gw:=ai.fL Uw.s.has;clear hs pf apB;have hs:=BV;have ov:=JX.sl.one;rcases dB ids j with⟨cI,k,hx,hd9⟩|⟨amN,hd9⟩
   ·have fQ:(ids.take (j+1)).map (λk=>(⟨k,(getM k wr).getD .zero⟩:KV))=(ids.take j).map (λk=>(⟨k,(getM k wr).getD .zero⟩:KV))++[⟨k,(getM k wr).getD .zero⟩]:=by rw[List.take_add_one,hx,aC];rfl
    have hl9:((ids.take j).map λk=>(⟨k,(getM k wr).getD .zero⟩:KV)).length=j:=by rw[af,aD];omega
    repeat' first|refine aI ?_;intros|((with_reducible apply akV);(case own=>first|assumption|exact Own.since aQ aQ);(case hs=>assumption);(case h0=>first|exact λ_ h=>h|exact gw.has);(case he=>kernel_rfl);(case hk=>rfl);(case h1=>exact qE);(case hb=>(simp only[af,aD,aa,aJ,bL];omega));(case hl=>(simp only[af,aD,aa,aJ,bL];omega));intro acc w X aB ho hc dc;replace hs:=aB)|(refine aaz apC ?_)|((with_reducible refine fG (ids.length-(j+1)) ?_ ?_);omega;exact⟨j+1,_,by simp,rfl,rfl,by omega,hs,by rw[fQ,aC];exact ho⟩)
   ·rw[List.take_of_length_le amN] at JX;have hz8:=Uw.s.kp.size;repeat' first|refine aI ?_;intros|(exact uC hT9 (JX.low hz8))
end Go.Proofs.YtgfijddlkhkopaaGreat