/- Part 9 of the proof. -/
import Derived.Test.YtgfijddlkhkopaaGreatProg
import Derived.Recover
import Derived.Shelf.Abstract
import Derived.RegionTactic
import Derived.KernelRfl
import Derived.Tactics
import Derived.Test.YtgfijddlkhkopaaGreatU8
set_option linter.all false
open Go.Value renaming string → aO
open List renaming length_cons → aK, length_map → ah, length_tail → qS, length_nil → br, length_append → aa, mem_of_getElem? → aA, length_take → aB, not_mem_nil → dH, foldl_cons → ix, map_append → aD
open Nat renaming zero_le → aq, lt_of_lt_of_le → av
open Array renaming replicate → cZ
open Go.Instr renaming typeAssert → nH
namespace Go.Proofs.YtgfijddlkhkopaaGreat
open Go.Proofs.Tryz renaming prog → pg
open Go.aL
set_option maxRecDepth 100000
set_option maxHeartbeats 4000000
theorem ajr:Idle pg 167:=by
 refine⟨by kernel_rfl,λgJ w=>?_⟩;refine callsD_of_wpS Tryz.func167 rfl λc₀ cs hu=>?_;rw[Tryz.ntmps167];have gd:8<=(gJ++cZ (13-gJ.size) undef).size:=by simp;omega
 generalize gJ++cZ (13-gJ.size) undef=tm at gd;have h2:2<tm.size:=by omega
 have h5:5<tm.size:=by omega
 have h7:7<tm.size:=by omega
 apply wpS_seq;apply wpS_region;simp[wpOpsS,go_sem,recoverD,hu,Exit.thenS];refine wpS_of_wp ?_;refine wp_block ?_;apply wp_seq;apply wp_region;simp[wpOps,go_sem,Exit.then,h2,h5,h7];refine .inl (wp_cond (t:=true) (by simp[Act.eval,h2,h5,h7]) ?_);simp only[if_true];apply wp_region;simp[wpOps,go_sem,Exit.then,Exit.inBlock,h2,h5,h7];cases c₀;simp_all [bodyPostS,results,Tryz.results167]
variable {x : Value} {w : World}
theorem ae9 {st:TypeId} :(nH (.iface 291 x) st 291 true).run pg w= .ok (.tuple #[x,.bool true]) w:=by
 obtain⟨fs,hu⟩: ∃fs,pg.underlying 291=some (.struct fs):=⟨_,rfl⟩;simp[nH,run_underlying hu]
variable {ty : TypeId} {k : Nat} {W : World}
theorem Ci (h:W.heap[k]? =some (.cells #[x] ty (0,0))):W.cell? ⟨k,0,none⟩=some x:=by simp[World.cell?,h]
theorem Sa (h:W.heap[k]? =some (.cells #[x] ty (0,0))):W.frozen? ⟨k,0,none⟩=false:=by simp[World.frozen?,h]
variable {b : Nat}
theorem MA (v:Value) (hb:w.heap[b]? =some (.cells #[x] ty (0,0))) (k:Nat):(w.setCell ⟨b,0,none⟩ v).heap[k]? =if k=b then some (.cells #[v] ty (0,0))else w.heap[k]? :=by
 unfold World.setCell;simp only[Array.getElem?_modify];by_cases h:b=k
 ·subst h;simp[hb]
 grind
variable {e : Int}
theorem Uv (h:w.cell? ⟨k,0,none⟩=some (I e)):(loadVar 37 ⟨k,0,none⟩).run pg w= .ok (I e) w:=by
 have WN:(isAgg 37).run pg w= .ok false w:=run_isAgg_plain (d:=.int .i64) kQ rfl w;simp[loadVar,WN,run_load,h]
theorem agM {v:Value} (h:w.cell? ⟨k,0,none⟩=some v):(loadVar 42 ⟨k,0,none⟩).run pg w= .ok v w:=by
 have WN:(isAgg 42).run pg w= .ok false w:=run_isAgg_plain (d:=.slice 178) kQ rfl w;simp[loadVar,WN,run_load,h]
theorem aly:Tryz.f113.results= #[.cell 4 42,.cell 5 37]:=by kernel_rfl
theorem agN {R:Ending->World->Prop} {RP:List PanicEntry->World->Prop}
  (hR: ∀ch w,RP ch w-> ∃e,ch=vE e/\R (.returned (.tuple #[.slice none 0 0,I e])) w):QZ pg Oz Tryz.f113 R 167 [4,5] [] RP:=by
 intro ks EY ch w wP na ry hh hv gd hRP;obtain⟨k1,k2,rfl⟩: ∃a b,ks=[a,b]:=by
  match ks,wP with
  |[a,b],_=>exact⟨a,b,rfl⟩
 obtain⟨c1,c2,rfl⟩: ∃a b,EY=[a,b]:=by
  match EY,na with
  |[a,b],_=>exact⟨a,b,rfl⟩
 obtain⟨Uu,g1⟩:=hh 0 k1 c1 rfl rfl;obtain⟨NB,g2⟩:=hh 1 k2 c2 rfl rfl;have s1:c1.size=1:=gd 0 4 1 c1 rfl kQ rfl;have s2:c2.size=1:=gd 1 5 1 c2 rfl kQ rfl;obtain⟨e,rfl,_⟩:=hR _ _ (hRP w (aL.Outside.refl _ _));refine callsD_of_wpS Tryz.func167 rfl λc₀ cs hu=>?_;rw[Tryz.ntmps167];simp only[List.map_cons,List.map_nil,List.size_toArray,aK,br];apply wpS_seq;apply wpS_region;simp[wpOpsS,go_sem,recoverD,hu,Exit.thenS];refine wpS_of_wp ?_;refine wp_block ?_;apply wp_seq;apply wp_region;simp[wpOps,go_sem,Exit.then];refine .inl (wp_cond (t:=false) (by simp[Act.eval]) ?_);simp only[Bool.false_eq_true,if_false];apply wp_seq;apply wp_region;simp[wpOps,go_sem,Exit.then,ae9];repeat left
 refine wp_cond (t:=true) (by simp[Act.eval]) ?_;simp only[if_true];change Code.wp _ _ _ { tmps:= #[ej k1 0,ej k2 0,undef,undef,undef,.iface 291 (.agg #[I e]),undef,B false,.tuple #[.agg #[I e],B true],B true,.agg #[I e],undef,undef],defers:=[] } w;apply wp_seq;apply wp_region;simp[wpOps,go_sem,Exit.then];repeat left
 have l1:=(Array.getElem?_eq_some_iff.1 g1).1;have l2:=(Array.getElem?_eq_some_iff.1 g2).1;obtain⟨x1,rfl⟩: ∃x,c1= #[x]:=by
  match c1,s1 with
  |⟨[x]⟩,_=>exact⟨x,rfl⟩
 obtain⟨x2,rfl⟩: ∃x,c2= #[x]:=by
  match c2,s2 with
  |⟨[x]⟩,_=>exact⟨x,rfl⟩
 have q0:(w.alloc (.cells #[I e] 291)).heap[w.heap.size]? =some (.cells #[I e] 291 (0,0)):=heap_alloc_new _ _;have q1:(w.alloc (.cells #[I e] 291)).heap[k1]? =some (.cells #[x1] Uu (0,0)):=(heap_alloc_old _ _ (h:=l1)).trans g1;have q2:(w.alloc (.cells #[I e] 291)).heap[k2]? =some (.cells #[x2] NB (0,0)):=(heap_alloc_old _ _ (h:=l2)).trans g2;simp only[List.nodup_cons,List.mem_cons,dH,or_false,not_or] at ry;have hW: ∀k,k<w.heap.size->(w.alloc (.cells #[I e] 291)).heap[k]? =w.heap[k]? :=λk hk=>heap_alloc_old _ _ (h:=hk);have hWo:(w.alloc (.cells #[I e] 291)).os=w.os/\(w.alloc (.cells #[I e] 291)).tape=w.tape/\(w.alloc (.cells #[I e] 291)).output=w.output/\(w.alloc (.cells #[I e] 291)).heap.size=w.heap.size+1:=⟨rfl,rfl,rfl,Array.size_push _⟩;change Code.wp _ _ _ { tmps:= #[.pointer (some ⟨k1,0,none⟩),.pointer (some ⟨k2,0,none⟩),undef,.pointer (some ⟨w.heap.size,0,none⟩),undef,.iface 291 (.agg #[I e]),undef,B false,.tuple #[.agg #[I e],B true],B true,.agg #[I e],undef,undef],defers:=[] } (w.alloc (.cells #[I e] 291));generalize w.alloc (.cells #[I e] 291)=W at q0 q1 q2 hW hWo⊢;generalize gf:w.heap.size=s0 at l1 l2 q0 hW hWo⊢;have ai8:s0≠k1:=by omega
 have p0:W.drew.cell? ⟨s0,0,none⟩=some (I e):=Ci (W:=W.drew) q0;have p1:W.drew.cell? ⟨k1,0,none⟩=some x1:=Ci (W:=W.drew) q1;have f1:W.drew.frozen? ⟨k1,0,none⟩=false:=Sa (W:=W.drew) q1;have r: ∀k,(W.setCell ⟨k1,0,none⟩ (.slice none 0 0)).heap[k]? =if k=k1 then some (.cells #[.slice none 0 0] Uu (0,0))else W.heap[k]? :=MA _ q1
 have r0:(W.setCell ⟨k1,0,none⟩ (.slice none 0 0)).heap[s0]? =some (.cells #[I e] 291 (0,0)):=by rw[r,if_neg ai8];exact q0
 have r2:(W.setCell ⟨k1,0,none⟩ (.slice none 0 0)).heap[k2]? =some (.cells #[x2] NB (0,0)):=by rw[r,if_neg (λe=>ry.1 e.symm)];exact q2
 have t0:(W.setCell ⟨k1,0,none⟩ (.slice none 0 0)).drew.cell? ⟨s0,0,none⟩=some (I e):=Ci (W:=(W.setCell ⟨k1,0,none⟩ (.slice none 0 0)).drew) r0;have t2:(W.setCell ⟨k1,0,none⟩ (.slice none 0 0)).drew.cell? ⟨k2,0,none⟩=some x2:=Ci (W:=(W.setCell ⟨k1,0,none⟩ (.slice none 0 0)).drew) r2;have t3:(W.setCell ⟨k1,0,none⟩ (.slice none 0 0)).drew.frozen? ⟨k2,0,none⟩=false:=Sa (W:=(W.setCell ⟨k1,0,none⟩ (.slice none 0 0)).drew) r2
 go_region
 have r': ∀k,(((W.setCell ⟨k1,0,none⟩ (.slice none 0 0)).setCell ⟨k2,0,none⟩ (.int .i64 e)).drew).heap[k]? =if k=k2 then some (.cells #[I e] NB (0,0))else(W.setCell ⟨k1,0,none⟩ (.slice none 0 0)).heap[k]? :=MA _ r2
 have ar8:W.heap.size<=(((W.setCell ⟨k1,0,none⟩ (.slice none 0 0)).setCell ⟨k2,0,none⟩ (.int .i64 e)).drew).heap.size:=by
  show W.heap.size<=((W.setCell ⟨k1,0,none⟩ (.slice none 0 0)).setCell ⟨k2,0,none⟩ (.int .i64 e)).heap.size
  unfold World.setCell;simp only[Array.size_modify];exact Nat.le_refl _
 have afa:(((W.setCell ⟨k1,0,none⟩ (.slice none 0 0)).setCell ⟨k2,0,none⟩ (.int .i64 e)).drew).os=w.os/\(((W.setCell ⟨k1,0,none⟩ (.slice none 0 0)).setCell ⟨k2,0,none⟩ (.int .i64 e)).drew).tape=w.tape/\(((W.setCell ⟨k1,0,none⟩ (.slice none 0 0)).setCell ⟨k2,0,none⟩ (.int .i64 e)).drew).output=w.output:=⟨hWo.1,hWo.2.1,hWo.2.2.1⟩;generalize ((W.setCell ⟨k1,0,none⟩ (.slice none 0 0)).setCell ⟨k2,0,none⟩ (.int .i64 e)).drew=w4 at r' ar8 afa⊢;have d1:w4.cell? ⟨k1,0,none⟩=some (.slice none 0 0):=Ci (ty:=Uu) (by rw[r',if_neg ry.1,r,if_pos rfl]);have d2:w4.cell? ⟨k2,0,none⟩=some (I e):=Ci (ty:=NB) (by rw[r',if_pos rfl]);have ar9:aL.Outside [k1,k2] w w4:=by
  refine⟨afa.1,afa.2.1,afa.2.2,?_,λk hl hk=>?_⟩
  ·omega
  ·simp only[List.mem_cons,dH,or_false,not_or] at hk;rw[r',if_neg hk.2,r,if_neg hk.1];exact hW k zQ
 obtain⟨e',Aj,hRe⟩:=hR _ _ (hRP w4 ar9);have he:e=e':=by simpa [vE] using Aj
 subst he;simp only[Exit.inBlock];refine⟨rfl,.panicking [{ v:=.iface 291 (.agg #[I e]),recovered:=true }],rfl,.tuple #[],?_,⟨_,rfl⟩,rfl,_,hRe,λtmps ht=>?_⟩
 ·simp[results,Tryz.results167]
 ·unfold results;rw[aly];simp[ht 0 4 k1 rfl rfl,ht 1 5 k2 rfl rfl,asAddr,ej,Uv d2,agM d1]
open Go.Maps Go.Shelf
attribute [local irreducible] un jn jk iA ld1 su st1 kT kU oY rE pH Jp Ew gR gu aX lR lS eW eV eU eC eF gE mR fin iE bu dG vS NO Jq Jr Js Jt Ju NP NR NS NT FN FO Jv Jw Jx NU NV NW
def runM:List jE->List gL->Gj->Except Int (List gL×Gj)
 |[],s,wr=>.ok (s,wr)
 |o::r,s,wr=>match uB o s wr with
  | .ok (s',oE)=>runM r s' oE
  | .error e=>.error e
def E7 (wr:Gj):List KV:=(fR (wr.map (·.1))).map λk=>⟨k,(getM k wr).getD .zero⟩
theorem ajs {c:Int} {a b:gL} {l:List gL} (h:yZ c a b= .ok l):l.length=if c=15 then 2 else 1:=by
 unfold yZ at h;split at h
 ·cases h;rename_i e;rw[if_neg zQ];rfl
 ·split at h
  ·cases h;rename_i e;rw[if_neg zQ];rfl
  ·split at h
   ·cases h;rename_i e;rw[if_pos e];rfl
   ·split at h
    ·cases h
    ·cases h;rename_i e _;rw[if_neg e];rfl
variable {wr oE : Gj} {s s' : List gL} {o : jE}
theorem alz (h:uB o s wr= .ok (s',oE)) (hc:1<=o.code/\o.code<=15) (hg:o.code≠1) (ht:tD o.code<=s.length):(s'.length:Int)=s.length+(Bu o.code-tD o.code):=by
 have h1:tD o.code=if o.code=3\/o.code=4 then 0 else if o.code=2\/o.code=13\/o.code=14 then 1 else 2:=by
  unfold tD;rw[if_neg zQ];by_cases q:o.code=3\/o.code=4
  ·rw[if_pos zQ,if_pos q]
  ·rw[if_neg zQ,if_neg q]
 have h2:Bu o.code=if o.code=2\/o.code=3\/o.code=13 then 0 else if o.code=14\/o.code=15 then 2 else 1:=by unfold Bu;rw[if_neg zQ]
 unfold uB at h;split at h
 ·rename_i e;cases h;rw[if_neg zQ,if_pos zQ] at h1;rw[if_pos zQ] at h2;rw[qS];omega
 ·split at h
  ·rename_i e;cases h;rw[if_pos zQ] at h1;rw[if_pos zQ] at h2;omega
  ·split at h
   ·rename_i e;cases h;rw[if_pos zQ] at h1;rw[if_neg zQ,if_neg zQ] at h2;rw[aK];omega
   ·split at h
    ·rename_i e;split at h
     ·cases h;rw[if_neg zQ,if_pos zQ] at h1;rw[if_pos zQ] at h2;rw[qS];omega
     ·cases h
    ·split at h
     ·rename_i e;cases h;rw[if_neg zQ,if_pos zQ] at h1;rw[if_neg zQ,if_pos zQ] at h2;rw[aK];omega
     ·split at h
      ·rename_i l hl;cases h;have:=ajs hl;rw[if_neg zQ,if_neg zQ] at h1;rw[aa,qS,qS];by_cases e15:o.code=15
       ·rw[if_pos e15] at this;rw[if_neg zQ,if_pos zQ] at h2;omega
       ·rw[if_neg e15] at this;rw[if_neg zQ,if_neg zQ] at h2;omega
      ·cases h
theorem aoo (h:uB o s wr= .ok (s',oE)):oE=wr\/ ∃v,oE=cK o.key v wr/\(o.code=2\/o.code=3):=by
 unfold uB at h;split at h
 ·rename_i e;cases h;exact .inr ⟨_,rfl,.inl e⟩
 ·split at h
  ·rename_i e;cases h;exact .inr ⟨_,rfl,.inr e⟩
  ·split at h
   ·cases h;exact .inl rfl
   ·split at h
    ·split at h
     ·cases h;exact .inl rfl
     ·cases h
    ·split at h
     ·cases h;exact .inl rfl
     ·split at h
      ·cases h;exact .inl rfl
      ·cases h
theorem afb (h:Fy o (Jb o.code)=true) (hc:o.code=2\/o.code=3):o.key.size<=24:=by
 have hn:Jb o.code=1:=by unfold Jb;rw[if_neg zQ,if_neg zQ,if_pos zQ]
 unfold Fy at h;rw[hn] at h;split at h
 ·cases h
 ·rename_i h1;cases hg:iJ o.key with
  |true=>unfold iJ at hg;simp at hg;omega
  |false=>exact absurd (.inl ⟨rfl,hg⟩) h1
theorem aaw {a b:Int} : ∀(p:List jE) (t:List (BA×Int)),t≠[]->p.foldl (kN a b) t≠[]
 |[],t,h=>h
 |o::p,t,h=>by
  rw[ix];refine aaw p _ ?_;unfold kN;split
  ·cases t with
   |nil=>exact absurd rfl h
   |cons x t=>unfold cK;split<;>simp
  ·exact h
theorem aax {a b:Int} : ∀(p:List jE) (t:List (BA×Int)) (o:jE),o∈p->(o.code=a\/o.code=b)->iJ o.key=true->p.foldl (kN a b) t≠[]
 |q::p,t,o,hm,hc,hk=>by
  rw[ix];rcases List.mem_cons.1 hm with rfl|hm
  ·refine aaw p _ ?_;unfold kN;rw[if_pos ⟨hc,hk⟩];cases t with
   |nil=>simp[cK]
   |cons x t=>unfold cK;split<;>simp
  ·exact aax p _ o hm hc hk
theorem agO {l:List BA} (h:fR l=[]):l=[]:=by
 have:=(kF l).length_eq;rw[h] at this;exact List.length_eq_zero_iff.1 this.symm
theorem MB: ∀{p:List jE} {h:Int},yO p h=0-> ∀o∈p,Fy o (Jb o.code)=true/\1<=o.code/\o.code<=15
 |o::p,h,hc,q,hq=>by
  unfold yO at hc;split at hc
  ·omega
  ·rename_i h1;split at hc
   ·omega
   ·rename_i h2;split at hc
    ·omega
    ·split at hc
     ·omega
     ·rcases List.mem_cons.1 hq with rfl|hq
      ·exact⟨by simpa using h2,Classical.not_not.1 h1⟩
      ·exact MB hc q hq
variable {p : List jE}
theorem agP {h:Int} (hc:yO p h=0) (hr:fh 1 1 p=[]): ∀o∈p,o.code≠1:=λo ho e=>by
 have hf:=(MB hc o ho).1;have hk:iJ o.key=true:=by
  unfold Fy at hf;rw[e] at hf;have:Jb 1=1:=by decide
  rw[this] at hf;split at hf
  ·cases hf
  ·rename_i h1;cases hg:iJ o.key with
   |true=>rfl
   |false=>exact absurd (.inl ⟨rfl,hg⟩) h1
 have h2:=agO hr;rw[List.map_eq_nil_iff] at h2;exact aax p [] o ho (.inl e) hk h2
variable {N : Value -> Prop} {t : Gj} {mb : Nat} {X : XS}
theorem aay {k:BA} (h:dK w X nX mb aO mW t) (n:N ((getM k t).getD .zero).v):aX pg X w (Instr.lookup 287 (.map (some mb)) (.string k) false) N:=by
 refine mL (kt:=9) (et:=97) (kv:=aO) gL.zero.v h yc kQ kQ (λv a hg hv=>?_) (λhg=>?_)
 ·simp only[mW] at hv;subst hv;rw[hg] at n;exact n
 ·rw[hg] at n;exact n
variable {cs : List Value} {f : FuncId} {a : Value}
theorem PV {xs:List fb} {p:fb->Bool} (ha:Sl w X 7 a (xs.map fb.l)) (hX: ∀k,X k->k<w.heap.size) (hf:enters pg f=true)
  (hp: ∀x,Ct pg f ((.agg x.l.toArray)::cs).toArray w X nX λv _ _=>v=B (p x)):
  Ct pg 232 #[a,.func (.func f) #[] cs.toArray] w X nX λv _ _=>v=I (idxOf p xs):=by
 intro w0 hk;replace ha:=ha.mv hk.cr;replace hp:=λx=>((hp x).kp hk).bK λk hx=>av (hX k hx) hk.size;have kG:=ha.gO;refine vB.1 λhs=>?_;repeat' refine ak ?_;intros
 refine fp (λn a w X=> ∃i:Nat,a=I (i:Nat)/\n=(xs).length-i/\i<=(xs).length/\ai (bK w0) w0 X w/\(∀(j:Nat) x,j<i->xs[j]? =some x->p x=false)) (xs).length ⟨0,rfl,rfl,aq _,hs,by simp⟩ ?_;rintro n a w X ⟨i,rfl,rfl,hi,hs,hw⟩;rcases dA (xs) i with⟨cB,x,hx,hd⟩|⟨dB,hd⟩
 ·repeat' first|refine aJ ?_;intros|(refine qr ?_;intro wa hk;(rw[B7 hw hx ‹_›]))|((with_reducible refine eP ((xs).length-(i+1)) ?_ ?_);omega;exact⟨i+1,by simp,rfl,by omega,hs,λj y hj hy=>by rcases Nat.lt_succ_iff_lt_or_eq.1 hj with h|h;exact hw j y h hy;subst h;rw[hx] at hy;cases hy;assumption⟩)|(refine Hv ((hp x).since hs) hf hs.has ?_ ?_<;>(intro _ w X ax;replace hs:=hs.trans ax))
 ·repeat' first|refine aJ ?_;intros|(refine qr ?_;intro wa hk;(rw[yq λj x hj hx=>hw j x zQ hx]))
theorem aaz {k:BA} (h:aH w X b [.string k] 9) (x:fb):Ct pg 233 ((.agg x.l.toArray)::[ptr b 0]).toArray w X nX λv _ _=>v=B (decide (x.key=k)):=by
 intro w0 hk;replace h:=h.mv hk.cr;have hs:=ai.init w0;refine RG.1 λ_=>?_;repeat' first|refine ak ?_;intros|refine cQ ?_ ?_<;>intros|(refine qr ?_;intro wa hk;(congr 1;simp_all))
theorem GP {α:Type} {p:α->Bool} {l:List α} :(idxOf p l= -1/\ ∀x∈l,p x=false)\/ ∃(i:Nat) (x:α),l[i]? =some x/\p x=true/\idxOf p l=i:=by
 by_cases h: ∀(k:Nat) x,k<l.length->l[k]? =some x->p x=false
 ·exact .inl ⟨yq h,λx hx=>by obtain⟨k,hk,e⟩:=List.getElem_of_mem hx;exact h k x hk (by rw[List.getElem?_eq_getElem hk,e])⟩
 ·right;have key: ∀n,(∃(i:Nat) (x:α),i<n/\l[i]? =some x/\p x=true)-> ∃(i:Nat) (x:α),l[i]? =some x/\p x=true/\ ∀k y,k<i->l[k]? =some y->p y=false:=λn=>by
   induction n with
   |zero=>rintro⟨i,_,hi,_⟩;omega
   |succ n ih=>
    rintro⟨i,x,hi,hx,hp⟩;by_cases h2: ∃(i:Nat) (x:α),i<n/\l[i]? =some x/\p x=true
    ·exact ih h2
    ·refine⟨i,x,hx,hp,λk y hk hy=>?_⟩;cases hpy:p y with
     |false=>rfl
     |true=>exact absurd ⟨k,y,by omega,hy,hpy⟩ h2
  have h3: ∃(i:Nat) (x:α),i<l.length/\l[i]? =some x/\p x=true:=Classical.byContradiction λhn=>h λk x hk hx=>by
   cases hpx:p x with
   |false=>rfl
   |true=>exact absurd ⟨k,x,hk,hx,hpx⟩ hn
  obtain⟨i,x,hx,hp,hm⟩:=key _ h3;exact⟨i,x,hx,hp,B7 hm hx hp⟩
variable {sn : List fb}
theorem abH {b:Value} {ks:List BA} (ha:Sl w X 1 a (ks.map S1)) (hb:Sl w X 7 b (sn.map fb.l)):
  Ct pg 166 #[a,b] w X nX λv wa w'=> ∃e vm,v= .tuple #[vm,I e]/\(ks=[]->e=0)/\(e=0-> ∃sb sd,vm= .map (some sb)/\dK w' (made wa w') nX sb aO mW sd):=by
 obtain⟨bb,bn,bc,rfl⟩:=hb.form;intro w0 hk;replace ha:=ha.mv hk.cr;replace hb:=hb.mv hk.cr;have kG:=ha.gO;have hs:=ai.init w0;refine Zt.1 λ_=>?_;refine qY (kv:=λk:BA=>aO k) mW nX hs.has λmb w1 X1 Z7 ax qo=>?_;have bB:=hs.trans ax;have rK:=ha.mv bB.mv;have hF:FX nX (bK w0) w0:=λk af=>af.elim;have dW:Ft w0 nX w1 X1 (· =mb):=((hF.ft (Kp.refl _ _)).since ax).more λk e=>.inr ⟨by rw[e];exact qo.x.1,by rw[e];exact Z7⟩;clear hs bB;have hs:=ai.fG dW.s.has;repeat' refine ak ?_;intros
 refine gz (λn a b w X=> ∃(i:Nat) (bad:Bool) (sd:List (BA×gL)),a=I i/\b=B bad/\n=ks.length-i/\i<=ks.length/\(ks=[]->bad=false)/\Ft w0 nX w X (· =mb)/\dK w (· =mb) nX mb aO mW sd) ks.length ⟨0,_,[],rfl,rfl,rfl,aq _,λ_=>rfl,dW,lv qo rfl⟩ ?_;clear hs dW ax qo rK;rintro n _ _ w X ⟨i,bad,sd,rfl,rfl,rfl,hi,pD,hT,hm⟩;have hs:=hT.C8;have wN:=hb.mv hs.mv;rcases dA (ks) i with⟨cB,y,hx,hd⟩|⟨dB,hd⟩
 ·have ct:ks≠[]:=λe=>by rw[e] at hx;simp at hx
  repeat' refine aJ ?_;intros
  refine aiT (z:=.string ⟨#[]⟩) hs.has kQ rfl λbx w1 X1 gr ax bw=>?_;have dW:Ft w0 nX w1 X1 (λk=>k=mb\/k=bx):=(hT.since ax).more λk e=>e.imp id λe=>⟨by rw[e];exact bw.1,by rw[e];have:=hT.s.kp.size;omega⟩;refine pM (o:=0) bw zQ kQ sQ rfl dW.s.has λw2 X2 c2 jD=>?_;have cY:Ft w0 nX w2 X2 (λk=>k=mb\/k=bx):=dW.dX c2 (λk e=>.inr e) λk e=>.inl e;have aop:aH w2 X2 bx [.string y] 9:=jD;have ri:dK w2 (· =mb) nX mb aO mW sd:=hm.mv kC (λk af hl=>⟨af,(c2.block k (ax.sub k (by rw[af];exact hT.bA _ rfl)) (by have:=hm.x.2;omega)).trans (ax.kp.block k (by rw[af];exact hT.bA _ rfl))⟩) λ_ h=>h.elim;have O6:=hb.mv cY.C8.mv;clear hs ax hm hT wN dW bw jD c2;have hs:=ai.fG cY.s.has;repeat' refine ak ?_;intros
  refine dS (PV (p:=λx=>decide (x.key=y)) O6 cY.s.has kQ (aaz aop)) kQ hs.has λw3 X3 dp=>?_;have dU:=cY.since dp;have qm:=ri.mv kC (dp.gV λk (af:k=mb)=>by rw[af];exact cY.bA _ (.inl rfl)) (A':=nX) λ_ h=>h.elim;have aqs:=O6.mv dp.mv;clear hs;have hs:=ai.fG dp.has;rcases GP (p:=λx:fb=>decide (x.key=y)) (l:=sn)with⟨e,_⟩|⟨j,z,hz,hpz,e⟩
  ·rw[e];repeat' refine aJ ?_;intros
   exact dU.fin λwa aI=>⟨_,_,rfl,λh=>absurd h ct,λh=>absurd h dQ⟩
  ·rw[e];have MJ:=aop.since dp;have Mw: ∀{w4:World} {X4:XS},ai X3 w3 X4 w4-> ∀{K:World->XS->Prop},(∀w5 X5,Ft w0 nX w5 X5 (· =mb)->dK w5 (· =mb) nX mb aO mW (cK y z.val sd)->K w5 X5)->
     eU pg (uF nX w0 λv w'=>(λv wa w'=> ∃e vm,v= .tuple #[vm,I e]/\(ks=[]->e=0)/\(e=0-> ∃sb sd,vm= .map (some sb)/\dK w' (made wa w') nX sb aO mW sd)) v w0 w') X4 w4 true (Instr.mapUpdate 287 (.map (some mb)) (.string y) z.val.v) (λ_=>K):=λ{w4} {X4} fX {K} hK=>by
    have fQ:=dU.since fX;have Ao:=qm.mv kC (fX.gV λk (af:k=mb)=>by rw[af];exact dU.bA _ (.inl rfl)) (A':=nX) λ_ h=>h.elim;refine uU (kv:=aO) (k:=y) (a:=z.val) (kt:=9) (et:=97) (lv Ao (fQ.bA _ (.inl rfl))) kC rfl (λ_ h=>h.elim) yc kQ fQ.s.has λw5 X5 c5 xA=>?_;exact hK _ _ (fQ.dX (F':=(· =mb)) c5 (λk af=>.inl af) λk af=>.inl (.inl af)) (lv xA rfl)
   have nf: ∀{w5:World} {X5:XS} {b2:Bool},Ft w0 nX w5 X5 (· =mb)->dK w5 (· =mb) nX mb aO mW (cK y z.val sd)->FO (J2 λn a b w X=> ∃(i:Nat) (bad:Bool) (sd:List (BA×gL)),a=I i/\b=B bad/\n=ks.length-i/\i<=ks.length/\(ks=[]->bad=false)/\Ft w0 nX w X (· =mb)/\dK w (· =mb) nX mb aO mW sd) (ks.length-i) (I ((i+1:Nat):Int)) (B b2) w5 X5:=λiL xA=>
    fB (ks.length-(i+1)) zQ ⟨i+1,_,_,rfl,rfl,rfl,by omega,λe=>absurd e ct,iL,xA⟩
   have Qy:(i:Int)+1=((i+1:Nat):Int):=by simp
   cases bad
   ·repeat' first|refine aJ ?_;intros|with_reducible apply cD|(refine kh (l7 _) hs ?_ ?_<;>intro _ w X hs)
    all_goals
     refine Mw hs λw5 X5 iL xA=>?_;clear hs;have hs:=iL.C8;repeat' first|refine ak ?_;intros|(rw[Qy];exact nf iL xA)
   ·repeat' first|refine aJ ?_;intros|with_reducible apply cD
    refine Mw (ai.fG dU.s.has) λw5 X5 iL xA=>?_;clear hs;have hs:=iL.C8;repeat' first|refine ak ?_;intros|(rw[Qy];exact nf iL xA)
 ·cases bad
  ·repeat' refine aJ ?_;intros
   exact hT.fin λwa aI=>⟨_,_,rfl,λ_=>rfl,λ_=>⟨mb,sd,rfl,hm.mv kC (λk (af:k=mb) hl=>by subst af;exact⟨⟨Z7,av hl aI.size⟩,aI.block _ (hT.bA _ rfl)⟩) λ_ h=>h.elim⟩⟩
  ·repeat' refine aJ ?_;intros
   exact hT.fin λwa aI=>⟨_,_,rfl,λe=>absurd (pD e) dQ,λh=>absurd h dQ⟩
structure cJ.small (m:cJ):Prop where
 seen:m.seen.length<=2^40
 writes:m.writes.length<=2^40
 bh: ∀r∈m.bh,r.small
 enc: ∀r∈m.bh,r.err=0->(ga r).length<=2^33
 state:m.state.small
def cJ.MS (m:cJ):Bool:=m.aM.may&&vU m.range&&(
 if m.kind=1 then decide (m.iB>=0)&&m.aV.may&&yw m.keys&&decide ((m.keys.length:Int)>0)
 else if m.kind=2 then codeOk m.code (H7 m.seen&&decide ((m.seen.length:Int)>0)) m.ranges&&m.aV.may&&(decide (m.code=0)||decide ((m.seen.length:Int)=0))
 else if m.kind=3 then decide (m.iB>=0)&&m.aV.may&&H7 m.seen&&Mh m.writes&&yt m.parts&&Nf m.parts m.range
 else if m.kind=4 then codeOk m.code true m.ranges&&m.aV.may
 else if m.kind=5 then(if m.jG then m.aV.may&&decide (m.aV≠ .zero)else decide (m.aV= .zero))
 else true)
variable {vc vd vh vk vp vr vs vw : Value} {m : cJ}
theorem aaA (h:m.at w X vk vs vw vp vr vc vh vd) (mK:m.small):
  Ct pg 149 #[m.v vk vs vw vp vr vc vh vd] w X nX λv _ _=>v=B m.MS:=by
 intro w0 hk;replace h:=h.mv hk.cr;obtain⟨h1,h2,h3,h4,h5,h6,h7,h8⟩:=h;obtain⟨b1,n1,c1,rfl⟩:=h1.form;obtain⟨b2,n2,c2,rfl⟩:=h2.form;obtain⟨b3,n3,c3,rfl⟩:=h3.form;obtain⟨b4,n4,c4,rfl⟩:=h4.form;obtain⟨b5,n5,c5,rfl⟩:=h5.form;refine VD.1 λhs=>?_;repeat' first|refine ak ?_;intros|refine cQ ?_ ?_<;>intros|(with_reducible refine Fq _ ?_ ?_ ?_);(· kernel_rfl);all_goals intros|(with_reducible refine agm _ ?_ ?_ ?_);(· kernel_rfl);all_goals intros|with_reducible apply cD|(refine kh (pA _) hs ?_ ?_<;>intro _ w X hs)|(refine kh (DA _) hs ?_ ?_<;>intro _ w X hs)|(refine kh (Dw _) hs ?_ ?_<;>intro _ w X hs)|(refine qk (Hg  qA) hs ?_ ?_<;>intro _ w X hs)|(refine qk (abF  qA mK.seen) hs ?_ ?_<;>intro _ w X hs)|(refine qk (TC  qA mK.writes) hs ?_ ?_<;>intro _ w X hs)|(refine qk (Mi  qA) hs ?_ ?_<;>intro _ w X hs)|(refine qk (ae3  qA) hs ?_ ?_<;>intro _ w X hs)|(refine qk ((abG (xs:=m.ranges))  qA) hs ?_ ?_<;>intro _ w X hs)
 all_goals
  (with_reducible refine bS hs ?_)
  intro wa aI;unfold cJ.MS;repeat (first|rw[if_pos zQ]|rw[if_neg zQ])
  simp_all [vU]<;>first|omega|(rename_i z9;intro e9;simp[e9] at z9;done)|(intro e9;simp_all;done)|grind
def cJ.pZ (m:cJ):Bool:=
 if 1<=m.kind/\m.kind<=7 then m.MS
 else if m.kind=8 then vU m.range&&decide (m.n>=1)&&decide (m.mx>=0)&&decide (m.mx<=8)&&m.aV.may
 else if m.kind=9 then vU m.range&&decide (m.n>=1)&&Ng m.bh
 else if m.kind=10 then vU m.range&&m.state.may&&decide (m.state.range.id=m.range)
 else if m.kind=11 then vU m.range
 else if m.kind=12 then Na m.prev m.aV m.aM m.writes
 else if m.kind=14 then m.aV.may
 else true
theorem TD (h:m.at w X vk vs vw vp vr vc vh vd) (mK:m.small):
  Ct pg 99 #[m.v vk vs vw vp vr vc vh vd] w X nX λv _ _=>v=B m.pZ:=by
 intro w0 hk;replace h:=h.mv hk.cr;obtain⟨h1,h2,h3,h4,h5,h6,h7,h8⟩:=id h;obtain⟨b3,n3,c3,rfl⟩:=h3.form;refine S9.1 λhs=>?_;repeat' first|refine ak ?_;intros|refine cQ ?_ ?_<;>intros|with_reducible apply cD|(refine kh (pA _) hs ?_ ?_<;>intro _ w X hs)|(refine kh (DA _) hs ?_ ?_<;>intro _ w X hs)|(refine qk ((aaA (m:=m))  (h.mv (ai.mv hs)) mK) hs ?_ ?_<;>intro _ w X hs)|(refine qk ((aas (xs:=m.bh))  (fg.mv h6 Rec.mv (ai.mv hs)) mK.bh mK.enc) hs ?_ ?_<;>intro _ w X hs)|(refine qk (Gt  (s:=m.state) qA qA mK.state) hs ?_ ?_<;>intro _ w X hs)|(refine qk ((Mq (l:=m.writes))  qA mK.writes) hs ?_ ?_<;>intro _ w X hs)
 all_goals
  (with_reducible refine bS hs ?_)
  intro wa aI;unfold cJ.pZ;repeat (first|rw[if_pos zQ]|rw[if_neg zQ])
  try (simp_all [vU]<;>first|omega|grind)
def cJ.isZero (m:cJ):Bool:=decide (m.aM= .zero)&&decide (m.range=0)&&decide (m.iB=0)&&decide (m.code=0)&&decide (m.aV= .zero)&&decide (m.prev= .zero)&&!m.jG&&decide (m.n=0)&&decide (m.mx=0)&&
 m.state.isZero&&decide ((m.keys.length:Int)+m.seen.length+m.writes.length+m.parts.length+m.ranges.length+m.bh.length=0)
theorem aaB (h:m.at w X vk vs vw vp vr vc vh vd) (AU:m.keys.length+m.seen.length+m.writes.length+m.parts.length+m.ranges.length+m.bh.length<=2^62):
  Ct pg 98 #[m.v vk vs vw vp vr vc vh vd] w X nX λv _ _=>v=B m.isZero:=by
 intro w0 hk;replace h:=h.mv hk.cr;obtain⟨h1,h2,h3,h4,h5,h6,h7,h8⟩:=h;have o7:=h7.one;have o8:=h8.one;refine Zp.1 λhs=>?_;cases hc:m.jG<;>
 repeat' first|refine ak ?_;intros|refine cQ ?_ ?_<;>intros|(with_reducible refine Fq _ ?_ ?_ ?_);(· kernel_rfl);all_goals intros|(with_reducible refine agn _ ?_ ?_ ?_);(· kernel_rfl);all_goals intros|with_reducible apply cD|(refine qr ?_;intro wa hk;(simp_all [cJ.isZero,State.isZero,eI.ext_iff]<;>omega))|((with_reducible refine C4 (Ae _) hs.has ?_);intro w X ax;replace hs:=hs.trans ax)
def cJ.strip (m:cJ):cJ×Bool:=
 if m.kind=1 then({ m with aM:=.zero,range:=0,iB:=0,aV:=.zero,keys:=[] },true)
 else if m.kind=2 then({ m with aM:=.zero,range:=0,code:=0,aV:=.zero,seen:=[],ranges:=[] },true)
 else if m.kind=3 then({ m with aM:=.zero,range:=0,iB:=0,aV:=.zero,seen:=[],writes:=[],parts:=[] },true)
 else if m.kind=4 then({ m with aM:=.zero,range:=0,code:=0,aV:=.zero,ranges:=[] },true)
 else if m.kind=5 then({ m with aM:=.zero,range:=0,jG:=false,aV:=.zero },true)
 else if m.kind=6\/m.kind=7 then({ m with aM:=.zero,range:=0 },true)
 else if m.kind=8 then({ m with range:=0,n:=0,mx:=0,aV:=.zero },true)
 else if m.kind=9 then({ m with range:=0,n:=0,bh:=[] },true)
 else if m.kind=10 then({ m with range:=0,state:=.zero },true)
 else if m.kind=11 then({ m with range:=0 },true)
 else if m.kind=12 then({ m with prev:=.zero,aV:=.zero,aM:=.zero,writes:=[] },true)
 else if m.kind=13 then(m,true)
 else if m.kind=14 then({ m with aV:=.zero },true)
 else(m,false)
theorem Sb (h:m.at w X vk vs vw vp vr vc vh vd):
  Ct pg 96 #[m.v vk vs vw vp vr vc vh vd] w X nX λv wa w'=> ∃Hu CG lC JF ZT vc' ZU ZV,v= .tuple #[m.strip.1.v Hu CG lC JF ZT vc' ZU ZV,B m.strip.2]/\
   m.strip.1.at w X Hu CG lC JF ZT vc' ZU ZV:=by
 intro w0 hk;obtain⟨h1,h2,h3,h4,h5,h6,h7,h8⟩:=h;have o1:=h1.one;have o2:=h2.one;have o3:=h3.one;have o4:=h4.one;have o5:=h5.one;have o6:=h6.one;have o7:=h7.one;have o8:=h8.one;refine Rz.1 λhs=>?_;have n1:Sl w X 1 (.slice none 0 0) (([]:List BA).map S1):=Sl.nil _ _ _;have n2:Sl w X 7 (.slice none 0 0) (([]:List fb).map fb.l):=Sl.nil _ _ _;have n4:Sl w X 1 (.slice none 0 0) (([]:List Int).map I1):=Sl.nil _ _ _;have n5:Sl w X 4 (.slice none 0 0) (([]:List eI).map eI.l):=Sl.nil _ _ _;have n6:fg w X 29 (.slice none 0 0) Rec.rd []:=fg.nil _ _ _;have n7:qx w X (.slice none 0 0) []:=fg.nil _ _ _;have n8:qw w X (.slice none 0 0) []:=fg.nil _ _ _;repeat' first|refine ak ?_;intros|refine cQ ?_ ?_<;>intros|with_reducible apply cD
 all_goals
  refine bS hs ?_;intro wa aI;unfold cJ.strip;repeat (first|rw[if_pos zQ]|rw[if_neg zQ])
  exact⟨_,_,_,_,_,_,_,_,rfl,by omega,by assumption,by assumption,by assumption,by omega,by assumption,by assumption,by assumption⟩
def cJ.err (m:cJ):Int:=if !m.strip.2 then 7 else if !R8 m.fr||!R8 m.to||!m.strip.1.isZero||!m.pZ then 4 else 0
def cJ.lens (m:cJ):Nat:=m.keys.length+m.seen.length+m.writes.length+m.parts.length+m.ranges.length+m.bh.length
theorem ajt {c:Prop} [Decidable c] {a b:cJ×Bool} {n:Nat} (ha:a.1.lens<=n) (hb:b.1.lens<=n):(if c then a else b).1.lens<=n:=by grind
theorem cJ.afc (m:cJ):m.strip.1.lens<=m.lens:=by
 unfold cJ.strip;repeat' with_reducible apply ajt
 all_goals (unfold cJ.lens;grind)
theorem aa4 (h:m.at w X vk vs vw vp vr vc vh vd) (mK:m.small) (AU:m.lens<=2^62):
  Ct pg 53 #[m.v vk vs vw vp vr vc vh vd] w X nX λv _ _=>v=I m.err:=by
 intro w0 hk;have h:=h.mv hk.cr;have asa:=Nat.le_trans m.afc AU;refine abe.1 λhs=>?_;refine cu (Sb h) kQ hs.has ?_;rintro v wa w X ⟨Hu,CG,lC,JF,ZT,vc',ZU,ZV,rfl,dh⟩ hle gv ax;replace hs:=hs.trans ax;have q1:=dh.1.one;have q2:=dh.2.one;have q3:=dh.3.one;have q4:=dh.4.one;have q5:=dh.5.one;have q6:=dh.6.one;have q7:=dh.7.one;have q8:=dh.8.one;cases hb:m.strip.2<;>
 repeat' first|refine ak ?_;intros|with_reducible apply cD|(refine kh (abE _) hs ?_ ?_<;>intro _ w X hs)|(refine qr ?_;intro wa hk;(simp[cJ.err, *]))|(refine qk ((aaB (m:=m.strip.1))  (dh.mv (ai.mv (by first|assumption|exact ai.trans aQ aQ))) asa) hs ?_ ?_<;>intro _ w X hs)|(refine qk ((TD (m:=m))  (h.mv (ai.mv hs)) mK) hs ?_ ?_<;>intro _ w X hs)
variable {xo yo : Operand} {P : Program}
theorem alA {t:TypeId} {a:Bool} (ht:P.underlying t=some .bool) (k:N (.bool false)):aX P X w (dG .neq t xo yo (.bool a) (.bool a)) N:=by
 refine bF (λwa=>?_) k;simp[dG,eqGuard,run_neq_bool wa t a a ht]
theorem alB {t:TypeId} {a b:Bool} (ht:P.underlying t=some .bool) (h:a≠b) (k:N (.bool true)):aX P X w (dG .neq t xo yo (.bool a) (.bool b)) N:=by
 refine bF (λwa=>?_) k;have:(a==b)=false:=by cases a<;>cases b<;>simp_all
 simp[dG,eqGuard,run_neq_bool wa t a b ht,this]
theorem PW {xs:List cJ} {p:cJ->Bool} (ha:fg w X 36 a cJ.rd xs) (hX: ∀k,X k->k<w.heap.size) (hf:enters pg f=true)
  (hp: ∀(x:cJ) vk vs vw vp vr vc vh vd,aL.one vk=true->aL.one vs=true->aL.one vw=true->aL.one vp=true->aL.one vr=true->aL.one vc=true->aL.one vh=true->aL.one vd=true->Ct pg f ((x.v vk vs vw vp vr vc vh vd)::cs).toArray w X nX λv _ _=>v=B (p x)):
  Ct pg 225 #[a,.func (.func f) #[] cs.toArray] w X nX λv _ _=>v=I (idxOf p xs):=by
 intro w0 hk;replace ha:=fg.mv ha cJ.mv hk.cr;replace hp:=λ(x:cJ) vk vs vw vp vr vc vh vd h1 h2 h3 h4 h5 h6 h7 h8=>((hp x vk vs vw vp vr vc vh vd h1 h2 h3 h4 h5 h6 h7 h8).kp hk).bK λk hx=>av (hX k hx) hk.size;have kG:=ha.len;refine wu.1 λhs=>?_;repeat' refine ak ?_;intros
 refine fp (λn a w X=> ∃i:Nat,a=I (i:Nat)/\n=(xs).length-i/\i<=(xs).length/\ai (bK w0) w0 X w/\(∀(j:Nat) x,j<i->xs[j]? =some x->p x=false)) (xs).length ⟨0,rfl,rfl,aq _,hs,by simp⟩ ?_;rintro n a w X ⟨i,rfl,rfl,hi,hs,hw⟩;rcases dA (xs) i with⟨cB,x,hx,hd⟩|⟨dB,hd⟩
 ·have rK:=fg.mv ha cJ.mv hs.mv;repeat' refine aJ ?_;intros
  refine FR rK hx rfl kQ kQ λbb oo ll hc jw=>?_;obtain⟨vk,vs,vw,vp,vr,vc,vh,vd,rfl,dh⟩:=jw;have q1:=dh.keys.one;have q2:=dh.seen.one;have q3:=dh.writes.one;have q4:=dh.parts.one;have q5:=dh.ranges.one;have q6:=dh.bh.one;have q7:=dh.iu.one;repeat' refine ak ?_;intros
  refine Hv ((hp x vk vs vw vp vr vc vh vd q1 q2 q3 q4 q5 q6 q7 dh.gY.one).since hs) hf hs.has (λhb w2 X2 bB=>?_) (λhb w2 X2 bB=>?_)
  ·repeat' refine ak ?_;intros
   exact bS (hs.trans bB) λ_ _=>by rw[B7 hw hx hb]
  ·repeat' refine ak ?_;intros
   exact eP (xs.length-(i+1)) zQ ⟨i+1,by simp,rfl,by omega,hs.trans bB,λj y hj hy=>by rcases Nat.lt_succ_iff_lt_or_eq.1 hj with h|h;exact hw j y h hy;subst h;rw[hx] at hy;cases hy;exact hb⟩
 ·repeat' first|refine ak ?_;intros|refine cQ ?_ ?_<;>intros|(refine qr ?_;intro wa hk;(rw[yq λj x hj hx=>hw j x zQ hx]))|(exfalso;omega)
theorem agQ {c t:cn} (h:c.may=true) (ht:t.may=true):(c.later ⟨t.wall,t.dy,c.node⟩).may=true:=by
 unfold cn.later;split
 ·simp only[cn.may,Bool.and_eq_true,decide_eq_true_eq] at h ht⊢;(try simp only);omega
 ·exact h
variable {w' : World} {X' : XS} {n : bo} {id : Int}
section
variable {wa w0 : World} {own aG bN : Nat -> Nat} {n' : bo} {x : AcV} {ws : List cJ}
theorem aaC (h:aH w X b [I id] 3):
  Ct pg 226 #[m.v vk vs vw vp vr vc vh vd,ptr b 0] w X nX λv _ _=>v=B (decide (m.range=id)):=by
 intro w0 hk;replace h:=h.mv hk.cr;refine Dv.1 λhs=>?_;repeat' first|refine ak ?_;intros|refine cQ ?_ ?_<;>intros|(refine qr ?_;intro wa hk;(simp[*]))
theorem Fz (ha:aH w X b (Jy x vw) aT) (hw:fg w X 36 vw cJ.rd ws):Ct pg 153 #[ptr b 0,I id] w X nX λv _ _=>v=I (idxOf (λm=>decide (m.range=id)) ws):=by
 intro w0 hk;replace ha:=ha.mv hk.cr;replace hw:=fg.mv hw cJ.mv hk.cr;have o1:=hw.one;have hs:=ai.init w0;refine FB.1 λ_=>?_;repeat' first|refine ak ?_;intros|(refine q1x hs ?_;intro bx w X gr ax gf hs bw)
 refine dS (PW (cs:=[ptr bx 0]) (p:=λm=>decide (m.range=id)) (fg.mv hw cJ.mv gf.mv) hs.has kQ λx vk vs vw vp vr vc vh vd _ _ _ _ _ _ _ _=>aaC bw) kQ hs.has λw2 X2 bB=>?_;exact bS (gf.trans bB) λ_ _=>rfl
def _root_.Go.aL.St.wts (s:Sn w0 bN w X own n) (hb:n.gy b):fg w X 36 (n.A b).vw cJ.rd (n.A b).ws:=
 have⟨_,h2,_,h4,_⟩:=s.h.act hb
 ⟨_,h2.sl.mono (s.sub _ ir.1),h4.1,λi l m h1 h2=>cJ.mv (h4.2 i l m h1 h2) (Mv.sub (s.sub 4))⟩
theorem Qt (hp:n.pre=false):n.DF=ptr n.c.cb 0:=by unfold bo.DF;rw[hp];rfl
theorem Hx {e':List Nat} (h: ∀b∈e',b∈n.ex): ∀c,c≠0->c≠4-> ∀w K A,(dR n c).p w K A->(dR { n with ex:=e' } c).p w K A:=λc h0 _=>ny (Q:=λc=>c≠0) (n':= { n with ex:=e' }) (λb i hi _ w K A p=>by
 have q:({ n with ex:=e' } :bo).gy b->n.gy b:=.imp id (h b);rcases i with _|_|_|_|_|_|_|_|i<;>first|exact λha=>p (q ha)|exact p) (λi _ _ w K A p=>by rcases i with _|_|_|_|_|_|_|_|_|_|_|_|_|i<;>exact p) c h0
def ML (n:bo) (m:cJ) (pp:Bool) (n':bo):Prop:= ∃b iW Av ou xO,getM m.aM n.al=some b/\(n.A b).x.pre=pp/\m.code≠0/\
 n'= { n with ck:=iW,ds:=m.ranges.foldl iX n.ds,al:=kc m.aM n.al,vm:=Av,va:=ou,rm:=xO,ra:=n.ra++[EA m.code m.aM .zero false aP],ms:=n.ms++(if pp then(n.A b).ids.map λid=>(SH m.aM id).o9 (20+n.c.id)else []) }
structure FV (n:bo) (m:cJ) (pp:Bool) (b i:Nat) (y:cJ):Prop where
 g:getM m.aM n.al=some b
 pre:(n.A b).x.pre=pp
 code:m.code=0
 gI:(n.A b).ws[i]? =some y
 oN:y.range=m.range
def NoW (n:bo) (m:cJ) (pp:Bool):Prop:= ∀b i y,¬FV n m pp b i y
def aj7 (n:bo) (m:cJ) (pp:Bool) (v:Value) (n':bo):Prop:=
 (v= .tuple #[.pointer none,I 0]/\((∃iW,n'= { n with ck:=iW } /\NoW n m pp)\/ML n m pp n'))\/
 ∃(b i:Nat) (y:cJ) (iW:cn),FV n m pp b i y/\v= .tuple #[ptr b 0,I i]/\n'= { n with ck:=iW }
theorem HA {lC:Value} {pp:Bool} (h:jy w own n) (hX:qV own X) (hp:n.pre=false) (fP:m.aV.may=true) (HN:Sl w (bQ own 4) 4 vr (m.ranges.map eI.l)) (hi:1<=n.c.id/\n.c.id<=2) (hl:n.ra.length<=2^20) (hpq: ∀b,getM m.aM n.al=some b->(n.A b).pq=false) (xt: ∀b,getM m.aM n.al=some b->n.rm.length+(n.A b).ids.length<=2^20):
  Ct pg 100 #[ptr n.nb 0,m.v vk vs lC vp vr vc vh vd,B pp] w X (gF own) λv wa w'=>NQ dR own wa w' λ_ n'=>aj7 n m pp v n':=by
 intro w0 hk;have s:=St.init h hX hk;replace HN:=HN.mv (yF hX hk);have hr:=s.v.1;have hs:=s.rf;have no:(∀b i y,¬FV n m pp b i y)->aj7 n m pp (.tuple #[.pointer none,I 0]) n:=λh=>.inl ⟨rfl,.inl ⟨n.ck,rfl,h⟩⟩;refine IN.1 λ_=>?_;repeat' refine ak ?_;intros
 refine mL (kt:=34) (et:=116) (kv:=λk:bE=>k.v) (k:=m.aM) (.pointer none) (s.zP 5:) sK kQ kQ (λv b kW rD=>?_) (λhn=>?_);case refine_2=>
  repeat' first|refine ak ?_;intros|with_reducible apply cD
  exact s.fin λ_ _=>no λb i y h=>by rw[h.g] at hn;cases hn
 simp only[xw] at rD;subst rD;have hb:n.gy b:=.inl ⟨_,kW⟩;obtain⟨ha,o1,o2,o3,o4⟩:=s.va hb;have only: ∀{b' i y},FV n m pp b' i y->b'=b:=λh=>by have:=h.g;rw[kW] at this;cases this;rfl
 repeat' refine ak ?_;intros
 by_cases hpp:(n.A b).x.pre=pp;case neg=>
  refine alB kQ hpp ?_;repeat' first|refine ak ?_;intros|with_reducible apply cD
  exact s.fin λ_ _=>no λb' i y h=>hpp (by have e:=only h;subst e;exact h.pre)
 subst hpp;refine alA kQ ?_;repeat' first|refine ak ?_;intros|with_reducible apply cD
 refine dS (Fz (id:=m.range) ha (s.wts hb)) kQ hs.has λw1 X1 ax=>?_;have s1:=s.since ax;replace HN:=HN.mv (ax.gV (s.sub 4));rcases GP (p:=λy:cJ=>decide (y.range=m.range)) (l:=(n.A b).ws)with⟨e,en⟩|⟨i,y,hy,hpy,e⟩
 ·rw[e];clear hs;repeat' refine aJ ?_;intros
  exact s1.fin λ_ _=>no λb' i y h=>by
   have e:=only h;subst e;exact absurd (en y (aA h.gI)) (by simp[h.oN])
 have hyr:y.range=m.range:=by simpa using hpy
 rw[e];clear hs hr ha s;have hs:=s1.rf;have hr:=s1.v.1;rw[Qt hp] at hr;repeat' refine aJ ?_;intros
 have AT:=(show n.pre=false->aH w1 (bQ own 7) n.c.cb (GI n.ck) Ik/\n.ck.may=true from s1.get 7) hp;have Qv: ∀k,k=n.c.cb->own k=7:=λk e=>by rw[e];exact AT.1.1
 refine yP (V7 (AT.1.mono (s1.sub 7)) fP) kQ s1.has (λk e=>s1.x k (by have:=Qv k e;omega)) λv xu w2 X2 q2 lu ka _ c2=>?_;obtain⟨_,Wc⟩:=q2;obtain⟨lE,s2,m2⟩:=s1.Dh (F':=dR { n with ck:=n.ck.later ⟨m.aV.wall,m.aV.dy,n.ck.node⟩ }) 7 c2 Qv (· =n.c.cb) (λk e=>.inl (Qv k e)) (λK _ _=>⟨Wc,agQ AT.2 fP⟩) ny;replace HN:=HN.mv m2;clear hs hr s1;generalize n.ck.later ⟨m.aV.wall,m.aV.dy,n.ck.node⟩=iW at s2;have hs:=s2.rf;have hr:=s2.v.1;by_cases hcd:m.code=0
 ·repeat' refine aJ ?_;intros
  refine dS (Fz (id:=m.range) (s2.va (b:=b) hb).1 (s2.wts (b:=b) hb)) kQ hs.has λw3 X3 dp=>?_;rw[e];exact(s2.since dp).fin λwa aI=>.inr ⟨b,i,y,iW,⟨kW,rfl,hcd,hy,hyr⟩,rfl,rfl⟩
 repeat' refine aJ ?_;intros
 have hd:mc w2 (bQ lE 2) n.c.ac3 n.mb n.ds:=s2.get 2;refine yP (OH hd (s2.fxc 2) HN λk (e:lE k=4)=>⟨s2.x k zQ,λe'=>by have:lE n.mb=2:=hd.map.x.1;rw[e'] at e;omega⟩) kQ s2.has (λk e=>s2.x k (by rw[show k=n.mb from e,show lE n.mb=2 from hd.map.x.1];decide)) λv ze w3 X3 q3 qB mz _ c3=>?_;obtain⟨mY,s3,m3⟩:=s2.Dh (F':=dR { n with ck:=iW,ds:=m.ranges.foldl iX n.ds }) 2 c3 (λk e=>by rw[show k=n.mb from e];exact hd.map.x.1) (bQ lE 2) (λk e=>.inl e) (λK _=>q3.2) ny;clear hs hr s2;have hs:=s3.rf
 skip
 refine s3.call (zF (n:= { n with ck:=iW,ds:=_ }) (b:=b) (code:=m.code) s3.h s3.x hb (hpq b kW) hl hi (xt b kW)) kQ λv w4 X4 lF n4 s4 q4 m4=>?_;obtain⟨ou,Av,xO,rfl,_⟩:=q4;have s5:=s4.to (Hx (e':=n.ex) λ_=>List.mem_cons_of_mem _);clear hs
 skip
 have hk:(n.A b).x.aM=m.aM:=(show∀t b,getM t n.al=some b->(n.A b).x.aM=t from h.gI 12 dQ dQ) _ _ kW;refine s5.fin λwa aI=>.inl ⟨rfl,.inr ⟨b,iW,Av,ou,xO,kW,rfl,hcd,?_⟩⟩;rw[<-hk]
end
section
variable {N N' S : XS} {rb sb wb : Nat} {xh nY : Value} {sd : List (BA × gL)}
theorem alC {k:BA} {C:Value->Prop} (h:dK w X nX mb aO mW t) (n: ∀(v:gL) b,C (.tuple #[v.v,.bool b])):aX pg X w (Instr.lookup 287 (.map (some mb)) (.string k) true) C:=by
 refine Fl (kt:=9) (et:=97) (kv:=aO) gL.zero.v h yc kQ kQ (λv a hg hv=>?_) (λhg=>?_)
 ·grind [mW]
 ·exact n _ _
theorem agR {k:BA} (h:iq w N rb sb wb xh s wr) (hN: ∀k,N k->X k) (hm:dK w X nX sb aO mW sd):Ct pg 235 #[ptr rb 0,.string k] w X nX λv _ _=> ∃x:gL,v=x.v:=by
 intro w0 hk;have bw:=(h.row.mono hN).mv hk.cr;have hwm:=(lv h.map (hN _ h.map.x.1)).mv kC hk.cr (A':=nX) λ_ h=>h.elim;replace hm:=hm.mv kC hk.cr (A':=nX) λ_ h=>h.elim;have hs:=ai.init w0;refine RH.1 λ_=>?_;repeat' first|refine ak ?_;intros|refine cQ ?_ ?_<;>intros|(refine alC zQ λv b=>?_)|(refine aay zQ ?_)|(refine qr ?_;intro wa hk;(exact⟨_,rfl⟩))
def DoQ (o:jE) (N:XS) (rb sb wb:Nat) (s:List gL) (wr:Gj) (wa w':World):Prop:= ∃s' oE N' nY,(s'.length:Int)=s.length+(Bu o.code-tD o.code)/\(oE=wr\/ ∃v,oE=cK o.key v wr/\(o.code=2\/o.code=3))/\(o.code≠1->uB o s wr= .ok (s',oE))/\(∀k,N' k->N k\/made wa w' k)/\iq w' N' rb sb wb nY s' oE
theorem agS (h:iq w N rb sb wb xh s wr) (hN:FX N X w) (hm:dK w X nX sb aO mW sd) (hl:s.length<=2^20) (e1:o.code=1):
  EU pg 168 #[ptr rb 0,.agg o.l.toArray] w X N (λ_ wa w'=>DoQ o N rb sb wb s wr wa w') (λch _ _=> ∃e,ch=vE e/\(o.code≠1->uB o s wr= .error e)):=by
 intro w0 hk;have hT:=hN.ft hk;replace h:=h.mv (hN.mv hk);replace hm:=hm.mv kC hk.cr (A':=nX) λ_ h=>h.elim;have hs:=ai.init w0;refine oM.1 λ_=>?_;repeat' first|refine aJ ?_;intros|with_reducible apply cD
 refine cu (agR h hT.bA hm) kQ hs.has ?_;rintro _ wa w1 X1 ⟨v,rfl⟩ hle gv ax;have dW:=hT.since ax;have h1:=h.mv (ax.gV λk af=>hT.bA k af);refine dW.call (Jh (v:=v) h1 (λk af=>⟨dW.bA k af,dW.s.has k (dW.bA k af)⟩) zQ) kQ (λ_ h=>h) λv zf w4 X4 hq tq oF fQ c4=>?_;obtain⟨N4,Hf,UR,h4⟩:=hq;have zW:=fQ.less UR;have ajy:(Bu o.code-tD o.code:Int)=1:=by rw[e1];decide
 exact zW.xN λwa aI=>⟨_,_,_,_,by grind,.inl rfl,λe=>absurd e1 e,zW.ju aI λ_ h=>h,h4.mv (aI.jd zW.bA)⟩
theorem agT (h:iq w N rb sb wb xh s wr) (hN:FX N X w) (hm:dK w X nX sb aO mW sd) (hl:s.length<=2^20) (hc:1<=o.code/\o.code<=15) (ht:tD o.code<=s.length):
  EU pg 168 #[ptr rb 0,.agg o.l.toArray] w X N (λ_ wa w'=>DoQ o N rb sb wb s wr wa w') (λch _ _=> ∃e,ch=vE e/\(o.code≠1->uB o s wr= .error e)):=by
 by_cases e1:o.code=1
 ·exact agS h hN hm hl e1
 ·refine(ajp h hN hl e1 hc ht).mono (λ_ _ _ _ hq=>?_) λch _ _ _ hq=>?_
  ·obtain⟨s',oE,N',nY,h1,h2,h3⟩:=hq;exact⟨s',oE,N',nY,alz h1 hc e1 ht,aoo h1,λ_=>h1,h2,h3⟩
  grind
end
def Xi (p:List jE) (e:Int) (wl:List KV):Prop:=fh 1 1 p=[]->mX p=0->match runM p [] [] with
 | .ok (_,wr)=>e=0/\wl=E7 wr
 | .error e'=>e=e'
theorem Xi.err (h:fh 1 1 p=[]->mX p=0->runM p [] []= .error e):Xi p e []:=λh1 h2=>by rw[h h1 h2]
def aoq (p:List jE) (v:Value) (wa w':World):Prop:= ∃(vl:Value) (wl:List KV) (e:Int),v= .tuple #[vl,I e]/\Sl w' (made wa w') 4 vl (wl.map KV.l)/\wl.length<=40/\(∀x∈wl,x.key.size<=24/\ ∃o∈p,x.key=o.key/\(o.code=2\/o.code=3))/\Xi p e wl
theorem aaN {b:Value} (ha:Sl w X 5 a (p.map jE.l)) (hb:Sl w X 7 b (sn.map fb.l)):
  Ct pg 113 #[a,b] w X nX λv wa w'=>aoq p v wa w':=by
 intro w0 hk;replace ha:=ha.mv hk.cr;replace hb:=hb.mv hk.cr;have kG:=ha.gO;have hF:FX nX (bK w0) w0:=λk af=>af.elim;have hT:=hF.ft (Kp.refl _ _);refine ZK.g (RP:=λch w'=> ∃e,ch=vE e/\Fr nX w0 w'/\(fh 1 1 p=[]->mX p=0->runM p [] []= .error e)) kQ (.inl rfl) ajr (agN λch w' ⟨e,h1,h2,h9⟩=>⟨e,h1,_,rfl,h2,?_⟩) ?_
 ·exact⟨_,[],e,rfl,Sl.nil _ _ _,by simp,λx hx=>absurd hx sQ,Xi.err h9⟩
 refine cz ?_;have hs:=ai.init w0;refine dS (KR ha) kQ hs.has λw1 X1 ax=>?_;have dW:=hT.since ax;have rK:=ha.since ax;replace hs:=hs.trans ax;by_cases hc:mX p≠0
 ·repeat' refine aJ ?_;intros
  exact acn (dW.fin λwa aI=>⟨_,[],_,rfl,Sl.nil _ _ _,by simp,λx hx=>absurd hx sQ,Xi.err λ_ h=>absurd h hc⟩)
 ·repeat' refine aJ ?_;intros
  have hlen:p.length<=40:=by
   unfold mX at hc;split at hc
   ·exact absurd dQ hc
   ·omega
  have hcf:yO p 0=0:=by
   unfold mX at hc;split at hc
   ·exact absurd dQ hc
   ·split at hc
    ·exact absurd ‹_› hc
    ·omega
  refine cu (AP rK zQ) kQ hs.has ?_;rintro vr wa w2 X2 ho hle gv bB;have cY:=dW.since bB;have ha2:=rK.since bB;replace hs:=hs.trans bB;refine cu (abH ((ho.mono gv).sl) (hb.mv hs.mv)) kQ hs.has ?_;rintro _ wb w3 X3 ⟨ef,vm,rfl,hf0,hfm⟩ qB mz dp;have dU:=cY.since dp;have ha3:=ha2.since dp;replace hs:=hs.trans dp;by_cases hef:ef=0;case neg=>
   repeat' refine aJ ?_;intros
   exact acn (dU.fin λwa aI=>⟨_,[],_,rfl,Sl.nil _ _ _,by simp,λx hx=>absurd hx sQ,Xi.err λh=>absurd (hf0 h) hef⟩)
  obtain⟨sb,sd,rfl,aaD⟩:=hfm hef;replace aaD:=lv aaD (mz _ aaD.x.1);subst hef;have aeZ:=hs;clear ax bB dp;repeat' refine aJ ?_;intros
  refine qY (kv:=aO) mW nX hs.has λmb w4 X4 Z7 fX Ao=>?_;have fQ:=dU.since fX;have ha4:=ha3.since fX;have tF:=hs.trans fX;clear hs;repeat' refine ak ?_;intros
  refine A6 tF.has λrb w5 X5 NL sS bw=>?_;have iL:=fQ.since sS;have ha5:=ha4.since sS;have xA:=Ao.mv kC sS.mv (λ_ h=>h.elim) (A':=nX);have KL:=tF.kp.size;have h5:iq w5 (λk=>k=rb\/k=mb) rb sb mb (.slice none 0 0) [] []:=⟨⟨.inl rfl,bw.2⟩,Own.nil _ _ _ _ _,lv xA (.inr rfl)⟩;have aor:Ft w0 nX w5 X5 (λk=>k=rb\/k=mb):=iL.more λk e=>by
   have:=aeZ.kp.size;rcases e with e|e<;>subst e
   ·exact .inr ⟨bw.1,by omega⟩
   ·exact .inr ⟨xA.x.1,by omega⟩
  have hs:=tF.trans sS;clear Ao xA bw;have asb:=(aaD.mv kC fX.mv (A':=nX) λ_ h=>h.elim).mv kC sS.mv (A':=nX) λ_ h=>h.elim;have asc: ¬(sb=rb\/sb=mb):=λe=>by
   have h1:=aaD.x.2;have:=fX.kp.size;rcases e with e|e<;>omega
  clear fX sS;repeat' refine ak ?_;intros
  refine fp (λn a w X=> ∃(i:Nat) (N:XS) (xh:Value) (s:List gL) (wr:Gj),a=I i/\n=p.length-i/\i<=p.length/\Ft w0 nX w X N/\iq w N rb sb mb xh s wr/\yO (p.drop i) s.length=0/\(s.length:Int)<=16/\(∀x∈wr,x.1.size<=24/\ ∃o∈p,x.1=o.key/\(o.code=2\/o.code=3))/\wr.length<=i/\dK w X nX sb aO mW sd/\ ¬N sb/\(fh 1 1 p=[]->runM p [] []=runM (p.drop i) s wr)) p.length
   ⟨0,_,_,_,_,rfl,rfl,aq _,aor,h5,hcf,by simp,λx hx=>absurd hx sQ,Nat.le_refl _,asb,asc,λ_=>rfl⟩ ?_
  clear aor h5 iL fQ dU cY dW hs ha5 ha4 ha3 ha2 rK;rintro n _ w X ⟨i,N,xh,s,wr,rfl,rfl,hi,kf,h6,Hi,hl6,hwk,Ht,aaE,aj8,KQ⟩;have ha6:Sl w X 5 a (p.map jE.l):=ha.mv λk af _=>⟨kf.s.sub k ⟨af,λe=>e.elim⟩,kf.s.kp.block k ⟨af,λe=>e.elim⟩⟩;have hs:=ai.fG kf.s.has;rcases dA (p) i with⟨cB,o,hx,hd⟩|⟨dB,hd⟩
  ·have JI:=aA hx;rw[hd] at Hi;have hf6:=MB Hi o sQ;unfold yO at Hi;rw[if_neg (λh=>h hf6.2),if_neg (by rw[hf6.1];simp)] at Hi;have uG:tD o.code<=s.length:=by
    split at Hi
    ·omega
    ·omega
   rw[if_neg zQ] at Hi;have aoT:(s.length:Int)+(Bu o.code-tD o.code)<=16:=by
    split at Hi
    ·omega
    ·omega
   rw[if_neg zQ] at Hi;repeat' refine aJ ?_;intros
   refine kf.Gc (agT h6 (λk af=>⟨kf.bA k af,kf.s.has k (kf.bA k af)⟩) aaE zQ hf6.2 uG) kQ (λ_ h=>h) (λv Qp w7 X7 hq Ss GH CV c7=>?_) λch Qp w7 X7 hq Ss GH CV c7 wb7 pe=>?_
   ·obtain⟨s',oE,N',nY,apP,hwr,hdo,hN',h7⟩:=hq;have asd:fh 1 1 p=[]->runM p [] []=runM (p.drop (i+1)) s' oE:=λe=>by rw[KQ e,hd,runM,hdo (agP hcf e o JI)]
    have apQ: ¬N' sb:=λe=>(hN' sb e).elim aj8 λe=>by have:=aaE.x.2;have:=e.1;omega
    have ase:dK w7 X7 nX sb aO mW sd:=lv ((lv aaE (Y:=(· =sb)) rfl).mv kC (λk af _=>⟨af,c7.block k (by rw[af];exact aaE.x.1) (by rw[af];exact aj8)⟩) (A':=nX) λ_ h=>h.elim) (c7.sub _ aaE.x.1);have SB:=CV.less hN';have asf: ∀x∈oE,x.1.size<=24/\ ∃o∈p,x.1=o.key/\(o.code=2\/o.code=3):=λx hx=>by
     rcases hwr with e|⟨v,e,BF⟩
     ·rw[e] at hx;exact hwk x hx
     ·rw[e] at hx;rcases mw h6.map.nodup hx with rfl|⟨hx,_⟩
      ·exact⟨afb hf6.1 BF,o,aA aQ,rfl,BF⟩
      ·exact hwk x hx
    have asg:oE.length<=i+1:=by
     rcases hwr with e|⟨v,e,BF⟩
     ·rw[e];omega
     ·rw[e];have:=CB (k:=o.key) (a:=v) wr;omega
    rw[<-apP] at Hi;repeat' first|refine ak ?_;intros|((with_reducible refine eP (p.length-(i+1)) ?_ ?_);omega;exact⟨i+1,N',nY,s',oE,by simp,rfl,by omega,SB,h7,Hi,by omega,asf,asg,ase,apQ,asd⟩)
   ·obtain⟨e,hch,hdo⟩:=hq;exact⟨e,hch,CV.fr pe,λe1 _=>by rw[KQ e1,hd,runM,hdo (agP hcf e1 o JI)]⟩
  ·have apR:=h6.row.mono λk af=>kf.bA k af;repeat' refine aJ ?_;intros
   have hNX: ∀k,N k->X k:=kf.bA;have hm6:dK w X nX mb aO mW wr:=lv h6.map (hNX _ h6.map.x.1);refine cu alk kQ kf.s.has ?_;rintro _ Qp w7 X7 ⟨bx,rfl,hb⟩ Ss GH oO;have hm7:=hm6.mv kC oO.mv (λ_ h=>h.elim) (A':=nX);have CV:=kf.since oO;refine cu (agw hm7 (hb.mono GH) (λe he=>Nat.le_trans (hwk e he).1 dQ) zQ) kQ CV.s.has ?_;rintro vs wb8 w8 X8 A5 aty ash kV;have Ux:=CV.since kV;have hz7:=CV.s.kp.size;have wO:Own w8 X8 w0.heap.size 9 1 vs ((fR (wr.map (·.1))).map S1):=A5.up ash zQ;have hW:E7 wr=(fR (wr.map (·.1))).map λk=>(⟨k,(getM k wr).getD .zero⟩:KV):=rfl;have XQ:(fR (wr.map (·.1))).length=wr.length:=by rw[(kF _).length_eq,ah]
   have xz: ∀{w9:World} {X9:XS} {v:Value},Ft w0 nX w9 X9 N->Own w9 X9 w0.heap.size 178 4 v ((E7 wr).map KV.l)->fin (Gg (uF nX w0 λv w'=>(λv wa w'=>aoq p v wa w') v w0 w') (λch w'=> ∃e,ch=vE e/\Fr nX w0 w'/\(fh 1 1 p=[]->mX p=0->runM p [] []= .error e))) X9 w9 (.tuple #[v,I 0]):=λq1 q2=>
    q1.adS λwa aI=>⟨_,_,_,rfl,(q2.kp aI).tight.sl,by rw[hW,ah,XQ];omega,λx hx=>by
     rw[hW] at hx;obtain⟨k,af,rfl⟩:=List.mem_map.1 hx;obtain⟨y,hy,rfl⟩:=List.mem_map.1 ((kF _).mem_iff.1 af);exact hwk y hy,λe _=>by rw[KQ e,hd];exact⟨rfl,rfl⟩⟩
   rw[hW] at xz;generalize fR (wr.map (·.1))=ids at wO XQ xz;have h8:=h6.mv ((oO.trans kV).gV hNX);have hN8: ∀k,N k->X8 k:=λk af=>kV.sub k (oO.sub k (hNX k af));clear hW ha6 hs hm6 hm7 CV hb A5 oO kV;have oA:=wO.sl;have hs:=ai.fG Ux.s.has;repeat' refine ak ?_;intros
   refine gz (λn a b w X=> ∃(j:Nat) (v:Value),a=I j/\b= .agg #[v]/\n=ids.length-j/\j<=ids.length/\ai X8 w8 X w/\Own w X w8.heap.size 178 4 v (((ids.take j).map λk=>(⟨k,(getM k wr).getD .zero⟩:KV)).map KV.l)) ids.length ⟨0,_,rfl,rfl,rfl,aq _,ai.fG Ux.s.has,Own.nil _ _ _ _ _⟩ ?_;rintro n _ _ w9 X9 ⟨j,v,rfl,rfl,rfl,hj,Ar,Ug⟩;have hT9:=Ux.since Ar;have h9:=h8.mv (Ar.gV hN8);have asw:=h9.row.mono λk af=>Ar.sub k (hN8 k af);have atz:=oA.since Ar;have apT:dK w9 X9 nX mb aO mW wr:=lv h9.map (Ar.sub _ (hN8 _ h8.map.x.1));have gf:=ai.fG Ux.s.has;clear hs oA apR;have hs:=Ar;have ov:=Ug.sl.one;rcases dA ids j with⟨cB,k,hx,hd9⟩|⟨asi,hd9⟩
   ·have fP:(ids.take (j+1)).map (λk=>(⟨k,(getM k wr).getD .zero⟩:KV))=(ids.take j).map (λk=>(⟨k,(getM k wr).getD .zero⟩:KV))++[⟨k,(getM k wr).getD .zero⟩]:=by rw[List.take_add_one,hx,aD];rfl
    have hl9:((ids.take j).map λk=>(⟨k,(getM k wr).getD .zero⟩:KV)).length=j:=by rw[ah,aB];omega
    repeat' first|refine aJ ?_;intros|((with_reducible apply ace);(case own=>first|assumption|exact Own.since aQ aQ);(case hs=>assumption);(case h0=>first|exact λ_ h=>h|exact gf.has);(case he=>kernel_rfl);(case hk=>rfl);(case h1=>exact qE);(case hb=>(simp only[ah,aB,aa,aK,br];omega));(case hl=>(simp only[ah,aB,aa,aK,br];omega));intro acc w X ax ho hc dh;replace hs:=ax)|(refine aay apT ?_)|((with_reducible refine fB (ids.length-(j+1)) ?_ ?_);omega;exact⟨j+1,_,by simp,rfl,rfl,by omega,hs,by rw[fP,aD];exact ho⟩)
   ·rw[List.take_of_length_le asi] at Ug;have hz8:=Ux.s.kp.size;repeat' first|refine aJ ?_;intros|(exact xz hT9 (Ug.low hz8))
end Go.Proofs.YtgfijddlkhkopaaGreat