/-
 Part 10 of the proof: what the last text leans on.
-/
import Derived.Test.YtgfijddlkhkopaaGreatProg
import Derived.Recover
import Derived.Shelf.Abstract
import Derived.RegionTactic
import Derived.KernelRfl
import Derived.Tactics
import Derived.Test.YtgfijddlkhkopaaGreatH9
open Go.Value renaming string → aP
open List renaming length_cons → aM, length_map → ai, length_tail → ri, length_nil → bz, length_append → aa, mem_of_getElem? → aB, length_take → aI, not_mem_nil → dC, foldl_cons → iz, map_append → aJ
open Nat renaming zero_le → au, lt_of_lt_of_le → av
open Array renaming replicate → cZ
open Go.Instr renaming typeAssert → nR
namespace Go.Proofs.YtgfijddlkhkopaaGreat
open Go.Proofs.Tryz renaming prog → pg
open Go.aG
set_option maxRecDepth 100000
set_option maxHeartbeats 4000000
set_option linter.unusedVariables false
set_option linter.unusedSimpArgs false
theorem ag1:Idle pg 167:=by
 refine⟨by kernel_rfl,λez w=>?_⟩;refine callsD_of_wpS Tryz.func167 rfl λc₀ cs hu=>?_;rw[Tryz.ntmps167];have gd:8<=(ez++cZ (13-ez.size) undef).size:=by simp;omega
 generalize ez++cZ (13-ez.size) undef=tm at gd;have h2:2<tm.size:=by omega
 have h5:5<tm.size:=by omega
 have h7:7<tm.size:=by omega
 apply wpS_seq;apply wpS_region;simp[wpOpsS,go_sem,recoverD,hu,Exit.thenS];refine wpS_of_wp ?_;refine wp_block ?_;apply wp_seq;apply wp_region;simp[wpOps,go_sem,Exit.then,h2,h5,h7];refine .inl (wp_cond (t:=true) (by simp[Act.eval,h2,h5,h7]) ?_);simp only[if_true];apply wp_region;simp[wpOps,go_sem,Exit.then,Exit.inBlock,h2,h5,h7];cases c₀;simp_all [bodyPostS,results,Tryz.results167]
variable {w : World}
theorem acj {x:Value} {st:TypeId} :(nR (.iface 291 x) st 291 true).run pg w= .ok (.tuple #[x,.bool true]) w:=by
 obtain⟨fs,hu⟩: ∃fs,pg.underlying 291=some (.struct fs):=⟨_,rfl⟩;simp[nR,run_underlying hu]
variable {ty : TypeId} {k : Nat} {W : World}
theorem Cg {x:Value} (h:W.heap[k]? =some (.cells #[x] ty (0,0))):W.cell? ⟨k,0,none⟩=some x:=by simp[World.cell?,h]
theorem Qj {x:Value} (h:W.heap[k]? =some (.cells #[x] ty (0,0))):W.frozen? ⟨k,0,none⟩=false:=by simp[World.frozen?,h]
variable {b : Nat}
theorem KY {x:Value} (v:Value) (hb:w.heap[b]? =some (.cells #[x] ty (0,0))) (k:Nat):(w.setCell ⟨b,0,none⟩ v).heap[k]? =if k=b then some (.cells #[v] ty (0,0))else w.heap[k]? :=by
 unfold World.setCell;simp only[Array.getElem?_modify];by_cases h:b=k
 ·subst h;simp[hb]
 grind
variable {e : Int}
theorem TH (h:w.cell? ⟨k,0,none⟩=some (I e)):(loadVar 37 ⟨k,0,none⟩).run pg w= .ok (I e) w:=by
 have WI:(isAgg 37).run pg w= .ok false w:=run_isAgg_plain (d:=.int .i64) kQ rfl w;simp[loadVar,WI,run_load,h]
theorem ae6 {v:Value} (h:w.cell? ⟨k,0,none⟩=some v):(loadVar 42 ⟨k,0,none⟩).run pg w= .ok v w:=by
 have WI:(isAgg 42).run pg w= .ok false w:=run_isAgg_plain (d:=.slice 178) kQ rfl w;simp[loadVar,WI,run_load,h]
theorem ajM:Tryz.f113.results= #[.cell 4 42,.cell 5 37]:=by kernel_rfl
theorem ae7 {R:Ending->World->Prop} {RP:List PanicEntry->World->Prop}
  (hR: ∀ch w,RP ch w-> ∃e,ch=vy e/\R (.returned (.tuple #[.slice none 0 0,I e])) w):El pg G6 Tryz.f113 R 167 [4,5] [] RP:=by
 intro ks DE ch w tf nI tc hh hv gd hRP;obtain⟨k1,k2,rfl⟩: ∃a b,ks=[a,b]:=by
  match ks,tf with
  |[a,b],_=>exact⟨a,b,rfl⟩
 obtain⟨c1,c2,rfl⟩: ∃a b,DE=[a,b]:=by
  match DE,nI with
  |[a,b],_=>exact⟨a,b,rfl⟩
 obtain⟨TJ,g1⟩:=hh 0 k1 c1 rfl rfl;obtain⟨N8,g2⟩:=hh 1 k2 c2 rfl rfl;have s1:c1.size=1:=gd 0 4 1 c1 rfl kQ rfl;have s2:c2.size=1:=gd 1 5 1 c2 rfl kQ rfl;obtain⟨e,rfl,_⟩:=hR _ _ (hRP w (aG.Outside.refl _ _));refine callsD_of_wpS Tryz.func167 rfl λc₀ cs hu=>?_;rw[Tryz.ntmps167];simp only[List.map_cons,List.map_nil,List.size_toArray,aM,bz];apply wpS_seq;apply wpS_region;simp[wpOpsS,go_sem,recoverD,hu,Exit.thenS];refine wpS_of_wp ?_;refine wp_block ?_;apply wp_seq;apply wp_region;simp[wpOps,go_sem,Exit.then];refine .inl (wp_cond (t:=false) (by simp[Act.eval]) ?_);simp only[Bool.false_eq_true,if_false];apply wp_seq;apply wp_region;simp[wpOps,go_sem,Exit.then,acj];repeat left
 refine wp_cond (t:=true) (by simp[Act.eval]) ?_;simp only[if_true];change Code.wp _ _ _ { tmps:= #[dE k1 0,dE k2 0,undef,undef,undef,.iface 291 (.agg #[I e]),undef,B false,.tuple #[.agg #[I e],B true],B true,.agg #[I e],undef,undef],defers:=[] } w;apply wp_seq;apply wp_region;simp[wpOps,go_sem,Exit.then];repeat left
 have l1:=(Array.getElem?_eq_some_iff.1 g1).1;have l2:=(Array.getElem?_eq_some_iff.1 g2).1;obtain⟨x1,rfl⟩: ∃x,c1= #[x]:=by
  match c1,s1 with
  |⟨[x]⟩,_=>exact⟨x,rfl⟩
 obtain⟨x2,rfl⟩: ∃x,c2= #[x]:=by
  match c2,s2 with
  |⟨[x]⟩,_=>exact⟨x,rfl⟩
 have q0:(w.alloc (.cells #[I e] 291)).heap[w.heap.size]? =some (.cells #[I e] 291 (0,0)):=heap_alloc_new _ _;have q1:(w.alloc (.cells #[I e] 291)).heap[k1]? =some (.cells #[x1] TJ (0,0)):=(heap_alloc_old _ _ (h:=l1)).trans g1;have q2:(w.alloc (.cells #[I e] 291)).heap[k2]? =some (.cells #[x2] N8 (0,0)):=(heap_alloc_old _ _ (h:=l2)).trans g2;simp only[List.nodup_cons,List.mem_cons,dC,or_false,not_or] at tc;have hW: ∀k,k<w.heap.size->(w.alloc (.cells #[I e] 291)).heap[k]? =w.heap[k]? :=λk hk=>heap_alloc_old _ _ (h:=hk);have hWo:(w.alloc (.cells #[I e] 291)).os=w.os/\(w.alloc (.cells #[I e] 291)).tape=w.tape/\(w.alloc (.cells #[I e] 291)).output=w.output/\(w.alloc (.cells #[I e] 291)).heap.size=w.heap.size+1:=⟨rfl,rfl,rfl,Array.size_push _⟩;change Code.wp _ _ _ { tmps:= #[.pointer (some ⟨k1,0,none⟩),.pointer (some ⟨k2,0,none⟩),undef,.pointer (some ⟨w.heap.size,0,none⟩),undef,.iface 291 (.agg #[I e]),undef,B false,.tuple #[.agg #[I e],B true],B true,.agg #[I e],undef,undef],defers:=[] } (w.alloc (.cells #[I e] 291));generalize w.alloc (.cells #[I e] 291)=W at q0 q1 q2 hW hWo⊢;generalize gg:w.heap.size=s0 at l1 l2 q0 hW hWo⊢;have ag2:s0≠k1:=by omega
 have p0:W.drew.cell? ⟨s0,0,none⟩=some (I e):=Cg (W:=W.drew) q0;have p1:W.drew.cell? ⟨k1,0,none⟩=some x1:=Cg (W:=W.drew) q1;have f1:W.drew.frozen? ⟨k1,0,none⟩=false:=Qj (W:=W.drew) q1;have r: ∀k,(W.setCell ⟨k1,0,none⟩ (.slice none 0 0)).heap[k]? =if k=k1 then some (.cells #[.slice none 0 0] TJ (0,0))else W.heap[k]? :=KY _ q1
 have r0:(W.setCell ⟨k1,0,none⟩ (.slice none 0 0)).heap[s0]? =some (.cells #[I e] 291 (0,0)):=by rw[r,if_neg ag2];exact q0
 have r2:(W.setCell ⟨k1,0,none⟩ (.slice none 0 0)).heap[k2]? =some (.cells #[x2] N8 (0,0)):=by rw[r,if_neg (λe=>tc.1 e.symm)];exact q2
 have t0:(W.setCell ⟨k1,0,none⟩ (.slice none 0 0)).drew.cell? ⟨s0,0,none⟩=some (I e):=Cg (W:=(W.setCell ⟨k1,0,none⟩ (.slice none 0 0)).drew) r0;have t2:(W.setCell ⟨k1,0,none⟩ (.slice none 0 0)).drew.cell? ⟨k2,0,none⟩=some x2:=Cg (W:=(W.setCell ⟨k1,0,none⟩ (.slice none 0 0)).drew) r2;have t3:(W.setCell ⟨k1,0,none⟩ (.slice none 0 0)).drew.frozen? ⟨k2,0,none⟩=false:=Qj (W:=(W.setCell ⟨k1,0,none⟩ (.slice none 0 0)).drew) r2
 go_region
 have r': ∀k,(((W.setCell ⟨k1,0,none⟩ (.slice none 0 0)).setCell ⟨k2,0,none⟩ (.int .i64 e)).drew).heap[k]? =if k=k2 then some (.cells #[I e] N8 (0,0))else(W.setCell ⟨k1,0,none⟩ (.slice none 0 0)).heap[k]? :=KY _ r2
 have api:W.heap.size<=(((W.setCell ⟨k1,0,none⟩ (.slice none 0 0)).setCell ⟨k2,0,none⟩ (.int .i64 e)).drew).heap.size:=by
  show W.heap.size<=((W.setCell ⟨k1,0,none⟩ (.slice none 0 0)).setCell ⟨k2,0,none⟩ (.int .i64 e)).heap.size
  unfold World.setCell;simp only[Array.size_modify];exact Nat.le_refl _
 have ack:(((W.setCell ⟨k1,0,none⟩ (.slice none 0 0)).setCell ⟨k2,0,none⟩ (.int .i64 e)).drew).os=w.os/\(((W.setCell ⟨k1,0,none⟩ (.slice none 0 0)).setCell ⟨k2,0,none⟩ (.int .i64 e)).drew).tape=w.tape/\(((W.setCell ⟨k1,0,none⟩ (.slice none 0 0)).setCell ⟨k2,0,none⟩ (.int .i64 e)).drew).output=w.output:=⟨hWo.1,hWo.2.1,hWo.2.2.1⟩;generalize ((W.setCell ⟨k1,0,none⟩ (.slice none 0 0)).setCell ⟨k2,0,none⟩ (.int .i64 e)).drew=w4 at r' api ack⊢;have d1:w4.cell? ⟨k1,0,none⟩=some (.slice none 0 0):=Cg (ty:=TJ) (by rw[r',if_neg tc.1,r,if_pos rfl]);have d2:w4.cell? ⟨k2,0,none⟩=some (I e):=Cg (ty:=N8) (by rw[r',if_pos rfl]);have apj:aG.Outside [k1,k2] w w4:=by
  refine⟨ack.1,ack.2.1,ack.2.2,?_,λk hl hk=>?_⟩
  ·omega
  ·simp only[List.mem_cons,dC,or_false,not_or] at hk;rw[r',if_neg hk.2,r,if_neg hk.1];exact hW k zQ
 obtain⟨e',Ai,hRe⟩:=hR _ _ (hRP w4 apj);have he:e=e':=by simpa [vy] using Ai
 subst he;simp only[Exit.inBlock];refine⟨rfl,.panicking [{ v:=.iface 291 (.agg #[I e]),recovered:=true }],rfl,.tuple #[],?_,⟨_,rfl⟩,rfl,_,hRe,λtmps ht=>?_⟩
 ·simp[results,Tryz.results167]
 ·unfold results;rw[ajM];simp[ht 0 4 k1 rfl rfl,ht 1 5 k2 rfl rfl,asAddr,dE,TH d2,ae6 d1]
open Go.Maps Go.Shelf
attribute [local irreducible] un jn jq ji ld1 je st1 oS mO pj me pH HR D4 gT pI aZ nO nQ eW eV eU eC eF gE mE fin iM bq de vS KZ HS HT HU HV HW K0 K3 K4 K5 EW EX HX HY HZ K6 K7 K8
def runM:List jr->List gJ->CW->Except Int (List gJ×CW)
 |[],s,wr=>.ok (s,wr)
 |o::r,s,wr=>match uq o s wr with
  | .ok (s',oU)=>runM r s' oU
  | .error e=>.error e
def EY (wr:CW):List KV:=(fL (wr.map (·.1))).map λk=>⟨k,(getM k wr).getD .zero⟩
theorem ag3 {c:Int} {a b:gJ} {l:List gJ} (h:yT c a b= .ok l):l.length=if c=15 then 2 else 1:=by
 unfold yT at h;split at h
 ·cases h;rename_i e;rw[if_neg zQ];rfl
 ·split at h
  ·cases h;rename_i e;rw[if_neg zQ];rfl
  ·split at h
   ·cases h;rename_i e;rw[if_pos e];rfl
   ·split at h
    ·cases h
    ·cases h;rename_i e _;rw[if_neg e];rfl
variable {oU : CW} {s s' : List gJ} {o : jr}
theorem ajN {wr:CW} (h:uq o s wr= .ok (s',oU)) (hc:1<=o.code/\o.code<=15) (hg:o.code≠1) (ht:tK o.code<=s.length):(s'.length:Int)=s.length+(AF o.code-tK o.code):=by
 have h1:tK o.code=if o.code=3\/o.code=4 then 0 else if o.code=2\/o.code=13\/o.code=14 then 1 else 2:=by
  unfold tK;rw[if_neg zQ];by_cases q:o.code=3\/o.code=4
  ·rw[if_pos zQ,if_pos q]
  ·rw[if_neg zQ,if_neg q]
 have h2:AF o.code=if o.code=2\/o.code=3\/o.code=13 then 0 else if o.code=14\/o.code=15 then 2 else 1:=by unfold AF;rw[if_neg zQ]
 unfold uq at h;split at h
 ·rename_i e;cases h;rw[if_neg zQ,if_pos zQ] at h1;rw[if_pos zQ] at h2;rw[ri];omega
 ·split at h
  ·rename_i e;cases h;rw[if_pos zQ] at h1;rw[if_pos zQ] at h2;omega
  ·split at h
   ·rename_i e;cases h;rw[if_pos zQ] at h1;rw[if_neg zQ,if_neg zQ] at h2;rw[aM];omega
   ·split at h
    ·rename_i e;split at h
     ·cases h;rw[if_neg zQ,if_pos zQ] at h1;rw[if_pos zQ] at h2;rw[ri];omega
     ·cases h
    ·split at h
     ·rename_i e;cases h;rw[if_neg zQ,if_pos zQ] at h1;rw[if_neg zQ,if_pos zQ] at h2;rw[aM];omega
     ·split at h
      ·rename_i l hl;cases h;have:=ag3 hl;rw[if_neg zQ,if_neg zQ] at h1;rw[aa,ri,ri];by_cases e15:o.code=15
       ·rw[if_pos e15] at this;rw[if_neg zQ,if_pos zQ] at h2;omega
       ·rw[if_neg e15] at this;rw[if_neg zQ,if_neg zQ] at h2;omega
      ·cases h
theorem ala {wr:CW} (h:uq o s wr= .ok (s',oU)):oU=wr\/ ∃v,oU=cI o.key v wr/\(o.code=2\/o.code=3):=by
 unfold uq at h;split at h
 ·rename_i e;cases h;exact .inr ⟨_,rfl,.inl e⟩
 ·split at h
  ·rename_i e;cases h;exact .inr ⟨_,rfl,.inr e⟩
  ·split at h
   ·cases h;exact .inl rfl
   ·split at h
    ·split at h
     ·cases h;exact .inl rfl
     ·cases h
    ·split at h
     ·cases h;exact .inl rfl
     ·split at h
      ·cases h;exact .inl rfl
      ·cases h
theorem acm (h:EZ o (IN o.code)=true) (hc:o.code=2\/o.code=3):o.key.size<=24:=by
 have hn:IN o.code=1:=by unfold IN;rw[if_neg zQ,if_neg zQ,if_pos zQ]
 unfold EZ at h;rw[hn] at h;split at h
 ·cases h
 ·rename_i h1;cases hg:iL o.key with
  |true=>unfold iL at hg;simp at hg;omega
  |false=>exact absurd (.inl ⟨rfl,hg⟩) h1
theorem WY {a b:Int} : ∀(p:List jr) (t:List (BA×Int)),t≠[]->p.foldl (lf a b) t≠[]
 |[],t,h=>h
 |o::p,t,h=>by
  rw[iz];refine WY p _ ?_;unfold lf;split
  ·cases t with
   |nil=>exact absurd rfl h
   |cons x t=>unfold cI;split<;>simp
  ·exact h
theorem WZ {a b:Int} : ∀(p:List jr) (t:List (BA×Int)) (o:jr),o∈p->(o.code=a\/o.code=b)->iL o.key=true->p.foldl (lf a b) t≠[]
 |q::p,t,o,hm,hc,hk=>by
  rw[iz];rcases List.mem_cons.1 hm with rfl|hm
  ·refine WY p _ ?_;unfold lf;rw[if_pos ⟨hc,hk⟩];cases t with
   |nil=>simp[cI]
   |cons x t=>unfold cI;split<;>simp
  ·exact WZ p _ o hm hc hk
theorem ae8 {l:List BA} (h:fL l=[]):l=[]:=by
 have:=(kP l).length_eq;rw[h] at this;exact List.length_eq_zero_iff.1 this.symm
theorem K9: ∀{p:List jr} {h:Int},yU p h=0-> ∀o∈p,EZ o (IN o.code)=true/\1<=o.code/\o.code<=15
 |o::p,h,hc,q,hq=>by
  unfold yU at hc;split at hc
  ·omega
  ·rename_i h1;split at hc
   ·omega
   ·rename_i h2;split at hc
    ·omega
    ·split at hc
     ·omega
     ·rcases List.mem_cons.1 hq with rfl|hq
      ·exact⟨by simpa using h2,Classical.not_not.1 h1⟩
      ·exact K9 hc q hq
variable {p : List jr}
theorem ae9 {h:Int} (hc:yU p h=0) (hr:fj 1 1 p=[]): ∀o∈p,o.code≠1:=λo ho e=>by
 have hf:=(K9 hc o ho).1;have hk:iL o.key=true:=by
  unfold EZ at hf;rw[e] at hf;have:IN 1=1:=by decide
  rw[this] at hf;split at hf
  ·cases hf
  ·rename_i h1;cases hg:iL o.key with
   |true=>rfl
   |false=>exact absurd (.inl ⟨rfl,hg⟩) h1
 have h2:=ae8 hr;rw[List.map_eq_nil_iff] at h2;exact WZ p [] o ho (.inl e) hk h2
variable {N : Value -> Prop} {t : CW} {mb : Nat} {X : XS}
theorem W4 {k:BA} (h:dK w X nX mb aP nA t) (n:N ((getM k t).getD .zero).v):aZ pg X w (Instr.lookup 287 (.map (some mb)) (.string k) false) N:=by
 refine nh (kt:=9) (et:=97) (kv:=aP) gJ.zero.v h xw kQ kQ (λv a hg hv=>?_) (λhg=>?_)
 ·simp only[nA] at hv;subst hv;rw[hg] at n;exact n
 ·rw[hg] at n;exact n
variable {cs : List Value} {f : FuncId} {a : Value}
theorem O4 {xs:List fe} {p:fe->Bool} (ha:Sl w X 7 a (xs.map fe.l)) (hX: ∀k,X k->k<w.heap.size) (hf:enters pg f=true)
  (hp: ∀x,Ct pg f ((.agg x.l.toArray)::cs).toArray w X nX λv _ _=>v=B (p x)):
  Ct pg 232 #[a,.func (.func f) #[] cs.toArray] w X nX λv _ _=>v=I (idxOf p xs):=by
 intro w0 hk;replace ha:=ha.mv hk.cu;replace hp:=λx=>((hp x).kp hk).bV λk hx=>av (hX k hx) hk.size;have lN:=ha.ib;refine vz.1 λhs=>?_;repeat' refine ao ?_;intros
 refine gh (λn a w X=> ∃i:Nat,a=I (i:Nat)/\n=(xs).length-i/\i<=(xs).length/\aj (bV w0) w0 X w/\(∀(j:Nat) x,j<i->xs[j]? =some x->p x=false)) (xs).length ⟨0,rfl,rfl,au _,hs,by simp⟩ ?_;rintro n a w X ⟨i,rfl,rfl,hi,hs,hw⟩;rcases dG (xs) i with⟨cC,x,hx,hd⟩|⟨dH,hd⟩
 ·repeat' first|refine aN ?_;intros|(refine qr ?_;intro wa hk;(rw[Ch hw hx ‹_›]))|((with_reducible refine fp ((xs).length-(i+1)) ?_ ?_);omega;exact⟨i+1,by simp,rfl,by omega,hs,λj y hj hy=>by rcases Nat.lt_succ_iff_lt_or_eq.1 hj with h|h;exact hw j y h hy;subst h;rw[hx] at hy;cases hy;assumption⟩)|(refine H2 ((hp x).since hs) hf hs.has ?_ ?_<;>(intro _ w X aC;replace hs:=hs.trans aC))
 ·repeat' first|refine aN ?_;intros|(refine qr ?_;intro wa hk;(rw[yl λj x hj hx=>hw j x zQ hx]))
theorem W5 {k:BA} (h:aK w X b [.string k] 9) (x:fe):Ct pg 233 ((.agg x.l.toArray)::[ptr b 0]).toArray w X nX λv _ _=>v=B (decide (x.key=k)):=by
 intro w0 hk;replace h:=h.mv hk.cu;have hs:=aj.init w0;refine Qk.1 λ_=>?_;repeat' first|refine ao ?_;intros|refine dq ?_ ?_<;>intros|(refine qr ?_;intro wa hk;(congr 1;simp_all))
theorem G7 {α:Type} {p:α->Bool} {l:List α} :(idxOf p l= -1/\ ∀x∈l,p x=false)\/ ∃(i:Nat) (x:α),l[i]? =some x/\p x=true/\idxOf p l=i:=by
 by_cases h: ∀(k:Nat) x,k<l.length->l[k]? =some x->p x=false
 ·exact .inl ⟨yl h,λx hx=>by obtain⟨k,hk,e⟩:=List.getElem_of_mem hx;exact h k x hk (by rw[List.getElem?_eq_getElem hk,e])⟩
 ·right;have key: ∀n,(∃(i:Nat) (x:α),i<n/\l[i]? =some x/\p x=true)-> ∃(i:Nat) (x:α),l[i]? =some x/\p x=true/\ ∀k y,k<i->l[k]? =some y->p y=false:=λn=>by
   induction n with
   |zero=>rintro⟨i,_,hi,_⟩;omega
   |succ n ih=>
    rintro⟨i,x,hi,hx,hp⟩;by_cases h2: ∃(i:Nat) (x:α),i<n/\l[i]? =some x/\p x=true
    ·exact ih h2
    ·refine⟨i,x,hx,hp,λk y hk hy=>?_⟩;cases hpy:p y with
     |false=>rfl
     |true=>exact absurd ⟨k,y,by omega,hy,hpy⟩ h2
  have h3: ∃(i:Nat) (x:α),i<l.length/\l[i]? =some x/\p x=true:=Classical.byContradiction λhn=>h λk x hk hx=>by
   cases hpx:p x with
   |false=>rfl
   |true=>exact absurd ⟨k,x,hk,hx,hpx⟩ hn
  obtain⟨i,x,hx,hp,hm⟩:=key _ h3;exact⟨i,x,hx,hp,Ch hm hx hp⟩
variable {sn : List fe}
theorem aau {b:Value} {ks:List BA} (ha:Sl w X 1 a (ks.map S1)) (hb:Sl w X 7 b (sn.map fe.l)):
  Ct pg 166 #[a,b] w X nX λv wa w'=> ∃e vm,v= .tuple #[vm,I e]/\(ks=[]->e=0)/\(e=0-> ∃sb sd,vm= .map (some sb)/\dK w' (made wa w') nX sb aP nA sd):=by
 obtain⟨bb,bn,bc,rfl⟩:=hb.form;intro w0 hk;replace ha:=ha.mv hk.cu;replace hb:=hb.mv hk.cu;have lN:=ha.ib;have hs:=aj.init w0;refine W6.1 λ_=>?_;refine rE (kv:=λk:BA=>aP k) nA nX hs.has λmb w1 X1 W7 aC pr=>?_;have bm:=hs.trans aC;have rS:=ha.mv bm.mv;have hF:FX nX (bV w0) w0:=λk af=>af.elim;have ej:Ft w0 nX w1 X1 (· =mb):=((hF.ft (Kp.refl _ _)).since aC).more λk e=>.inr ⟨by rw[e];exact pr.x.1,by rw[e];exact W7⟩;clear hs bm;have hs:=aj.fT ej.s.has;repeat' refine ao ?_;intros
 refine gM (λn a b w X=> ∃(i:Nat) (bad:Bool) (sd:List (BA×gJ)),a=I i/\b=B bad/\n=ks.length-i/\i<=ks.length/\(ks=[]->bad=false)/\Ft w0 nX w X (· =mb)/\dK w (· =mb) nX mb aP nA sd) ks.length ⟨0,_,[],rfl,rfl,rfl,au _,λ_=>rfl,ej,lH pr rfl⟩ ?_;clear hs ej aC pr rS;rintro n _ _ w X ⟨i,bad,sd,rfl,rfl,rfl,hi,qd,hT,hm⟩;have hs:=hT.CX;have wR:=hb.mv hs.mv;rcases dG (ks) i with⟨cC,y,hx,hd⟩|⟨dH,hd⟩
 ·have cj:ks≠[]:=λe=>by rw[e] at hx;simp at hx
  repeat' refine aN ?_;intros
  refine ag4 (z:=.string ⟨#[]⟩) hs.has kQ rfl λbx w1 X1 gq aC bo=>?_;have ej:Ft w0 nX w1 X1 (λk=>k=mb\/k=bx):=(hT.since aC).more λk e=>e.imp id λe=>⟨by rw[e];exact bo.1,by rw[e];have:=hT.s.kp.size;omega⟩;refine qj (o:=0) bo zQ kQ sQ rfl ej.s.has λw2 X2 c2 jI=>?_;have da:Ft w0 nX w2 X2 (λk=>k=mb\/k=bx):=ej.eo c2 (λk e=>.inr e) λk e=>.inl e;have alb:aK w2 X2 bx [.string y] 9:=jI;have oV:dK w2 (· =mb) nX mb aP nA sd:=hm.mv kH (λk af hl=>⟨af,(c2.block k (aC.sub k (by rw[af];exact hT.br _ rfl)) (by have:=hm.x.2;omega)).trans (aC.kp.block k (by rw[af];exact hT.br _ rfl))⟩) λ_ h=>h.elim;have O5:=hb.mv da.CX.mv;clear hs aC hm hT wR ej bo jI c2;have hs:=aj.fT da.s.has;repeat' refine ao ?_;intros
  refine eT (O4 (p:=λx=>decide (x.key=y)) O5 da.s.has kQ (W5 alb)) kQ hs.has λw3 X3 cV=>?_;have dS:=da.since cV;have qK:=oV.mv kH (cV.gU λk (af:k=mb)=>by rw[af];exact da.br _ (.inl rfl)) (A':=nX) λ_ h=>h.elim;have apk:=O5.mv cV.mv;clear hs;have hs:=aj.fT cV.has;rcases G7 (p:=λx:fe=>decide (x.key=y)) (l:=sn)with⟨e,_⟩|⟨j,z,hz,hpz,e⟩
  ·rw[e];repeat' refine aN ?_;intros
   exact dS.fin λwa aL=>⟨_,_,rfl,λh=>absurd h cj,λh=>absurd h dQ⟩
  ·rw[e];have Nd:=alb.since cV;have La: ∀{w4:World} {X4:XS},aj X3 w3 X4 w4-> ∀{K:World->XS->Prop},(∀w5 X5,Ft w0 nX w5 X5 (· =mb)->dK w5 (· =mb) nX mb aP nA (cI y z.val sd)->K w5 X5)->
     eU pg (vR nX w0 λv w'=>(λv wa w'=> ∃e vm,v= .tuple #[vm,I e]/\(ks=[]->e=0)/\(e=0-> ∃sb sd,vm= .map (some sb)/\dK w' (made wa w') nX sb aP nA sd)) v w0 w') X4 w4 true (Instr.mapUpdate 287 (.map (some mb)) (.string y) z.val.v) (λ_=>K):=λ{w4} {X4} fR {K} hK=>by
    have fJ:=dS.since fR;have Aj:=qK.mv kH (fR.gU λk (af:k=mb)=>by rw[af];exact dS.br _ (.inl rfl)) (A':=nX) λ_ h=>h.elim;refine vA (kv:=aP) (k:=y) (a:=z.val) (kt:=9) (et:=97) (lH Aj (fJ.br _ (.inl rfl))) kH rfl (λ_ h=>h.elim) xw kQ fJ.s.has λw5 X5 c5 xx=>?_;exact hK _ _ (fJ.eo (F':=(· =mb)) c5 (λk af=>.inl af) λk af=>.inl (.inl af)) (lH xx rfl)
   have nJ: ∀{w5:World} {X5:XS} {b2:Bool},Ft w0 nX w5 X5 (· =mb)->dK w5 (· =mb) nX mb aP nA (cI y z.val sd)->EX (J2 λn a b w X=> ∃(i:Nat) (bad:Bool) (sd:List (BA×gJ)),a=I i/\b=B bad/\n=ks.length-i/\i<=ks.length/\(ks=[]->bad=false)/\Ft w0 nX w X (· =mb)/\dK w (· =mb) nX mb aP nA sd) (ks.length-i) (I ((i+1:Nat):Int)) (B b2) w5 X5:=λiN xx=>
    fK (ks.length-(i+1)) zQ ⟨i+1,_,_,rfl,rfl,rfl,by omega,λe=>absurd e cj,iN,xx⟩
   have Ql:(i:Int)+1=((i+1:Nat):Int):=by simp
   cases bad
   ·repeat' first|refine aN ?_;intros|with_reducible apply cK|(refine kR (mn _) hs ?_ ?_<;>intro _ w X hs)
    all_goals
     refine La hs λw5 X5 iN xx=>?_;clear hs;have hs:=iN.CX;repeat' first|refine ao ?_;intros|(rw[Ql];exact nJ iN xx)
   ·repeat' first|refine aN ?_;intros|with_reducible apply cK
    refine La (aj.fT dS.s.has) λw5 X5 iN xx=>?_;clear hs;have hs:=iN.CX;repeat' first|refine ao ?_;intros|(rw[Ql];exact nJ iN xx)
 ·cases bad
  ·repeat' refine aN ?_;intros
   exact hT.fin λwa aL=>⟨_,_,rfl,λ_=>rfl,λ_=>⟨mb,sd,rfl,hm.mv kH (λk (af:k=mb) hl=>by subst af;exact⟨⟨W7,av hl aL.size⟩,aL.block _ (hT.br _ rfl)⟩) λ_ h=>h.elim⟩⟩
  ·repeat' refine aN ?_;intros
   exact hT.fin λwa aL=>⟨_,_,rfl,λe=>absurd (qd e) dQ,λh=>absurd h dQ⟩
structure bZ.small (m:bZ):Prop where
 seen:m.seen.length<=2^40
 writes:m.writes.length<=2^40
 bp: ∀r∈m.bp,r.small
 enc: ∀r∈m.bp,r.err=0->(fZ r).length<=2^33
 state:m.state.small
def bZ.Nf (m:bZ):Bool:=m.aR.may&&wo m.range&&(
 if m.kind=1 then decide (m.iC>=0)&&m.aV.may&&ym m.keys&&decide ((m.keys.length:Int)>0)
 else if m.kind=2 then codeOk m.code (H3 m.seen&&decide ((m.seen.length:Int)>0)) m.ranges&&m.aV.may&&(decide (m.code=0)||decide ((m.seen.length:Int)=0))
 else if m.kind=3 then decide (m.iC>=0)&&m.aV.may&&H3 m.seen&&Lb m.writes&&yn m.parts&&Ng m.parts m.range
 else if m.kind=4 then codeOk m.code true m.ranges&&m.aV.may
 else if m.kind=5 then(if m.jJ then m.aV.may&&decide (m.aV≠ .zero)else decide (m.aV= .zero))
 else true)
variable {vd vh vk vp vr vw : Value}
theorem W8 {m:bZ} {vs vc:Value} (h:m.at w X vk vs vw vp vr vc vh vd) (ni:m.small):
  Ct pg 149 #[m.v vk vs vw vp vr vc vh vd] w X nX λv _ _=>v=B m.Nf:=by
 intro w0 hk;replace h:=h.mv hk.cu;obtain⟨h1,h2,h3,h4,h5,h6,h7,h8⟩:=h;obtain⟨b1,n1,c1,rfl⟩:=h1.form;obtain⟨b2,n2,c2,rfl⟩:=h2.form;obtain⟨b3,n3,c3,rfl⟩:=h3.form;obtain⟨b4,n4,c4,rfl⟩:=h4.form;obtain⟨b5,n5,c5,rfl⟩:=h5.form;refine Vf.1 λhs=>?_;repeat' first|refine ao ?_;intros|refine dq ?_ ?_<;>intros|(with_reducible refine E1 _ ?_ ?_ ?_);(· kernel_rfl);all_goals intros|(with_reducible refine afa _ ?_ ?_ ?_);(· kernel_rfl);all_goals intros|with_reducible apply cK|(refine kR (pJ _) hs ?_ ?_<;>intro _ w X hs)|(refine kR (DF _) hs ?_ ?_<;>intro _ w X hs)|(refine kR (DG _) hs ?_ ?_<;>intro _ w X hs)|(refine qL (G8  qA) hs ?_ ?_<;>intro _ w X hs)|(refine qL (aav  qA ni.seen) hs ?_ ?_<;>intro _ w X hs)|(refine qL (Si  qA ni.writes) hs ?_ ?_<;>intro _ w X hs)|(refine qL (Lc  qA) hs ?_ ?_<;>intro _ w X hs)|(refine qL (acn  qA) hs ?_ ?_<;>intro _ w X hs)|(refine qL ((aaw (xs:=m.ranges))  qA) hs ?_ ?_<;>intro _ w X hs)
 all_goals
  (with_reducible refine cG hs ?_)
  intro wa aL;unfold bZ.Nf;repeat (first|rw[if_pos zQ]|rw[if_neg zQ])
  simp_all [wo]<;>first|omega|(rename_i z9;intro e9;simp[e9] at z9;done)|(intro e9;simp_all;done)|grind
def bZ.qw (m:bZ):Bool:=
 if 1<=m.kind/\m.kind<=7 then m.Nf
 else if m.kind=8 then wo m.range&&decide (m.n>=1)&&decide (m.mx>=0)&&decide (m.mx<=8)&&m.aV.may
 else if m.kind=9 then wo m.range&&decide (m.n>=1)&&Nh m.bp
 else if m.kind=10 then wo m.range&&m.state.may&&decide (m.state.range.id=m.range)
 else if m.kind=11 then wo m.range
 else if m.kind=12 then Ni m.prev m.aV m.aR m.writes
 else if m.kind=14 then m.aV.may
 else true
theorem Sj {m:bZ} {vs vc:Value} (h:m.at w X vk vs vw vp vr vc vh vd) (ni:m.small):
  Ct pg 99 #[m.v vk vs vw vp vr vc vh vd] w X nX λv _ _=>v=B m.qw:=by
 intro w0 hk;replace h:=h.mv hk.cu;obtain⟨h1,h2,h3,h4,h5,h6,h7,h8⟩:=id h;obtain⟨b3,n3,c3,rfl⟩:=h3.form;refine Sk.1 λhs=>?_;repeat' first|refine ao ?_;intros|refine dq ?_ ?_<;>intros|with_reducible apply cK|(refine kR (pJ _) hs ?_ ?_<;>intro _ w X hs)|(refine kR (DF _) hs ?_ ?_<;>intro _ w X hs)|(refine qL ((W8 (m:=m))  (h.mv (aj.mv hs)) ni) hs ?_ ?_<;>intro _ w X hs)|(refine qL ((W9 (xs:=m.bp))  (eQ.mv h6 Rec.mv (aj.mv hs)) ni.bp ni.enc) hs ?_ ?_<;>intro _ w X hs)|(refine qL (Gp  (s:=m.state) qA qA ni.state) hs ?_ ?_<;>intro _ w X hs)|(refine qL ((Ld (l:=m.writes))  qA ni.writes) hs ?_ ?_<;>intro _ w X hs)
 all_goals
  (with_reducible refine cG hs ?_)
  intro wa aL;unfold bZ.qw;repeat (first|rw[if_pos zQ]|rw[if_neg zQ])
  try (simp_all [wo]<;>first|omega|grind)
def bZ.isZero (m:bZ):Bool:=decide (m.aR= .zero)&&decide (m.range=0)&&decide (m.iC=0)&&decide (m.code=0)&&decide (m.aV= .zero)&&decide (m.prev= .zero)&&!m.jJ&&decide (m.n=0)&&decide (m.mx=0)&&
 m.state.isZero&&decide ((m.keys.length:Int)+m.seen.length+m.writes.length+m.parts.length+m.ranges.length+m.bp.length=0)
theorem Xa {m:bZ} {vs vc:Value} (h:m.at w X vk vs vw vp vr vc vh vd) (AG:m.keys.length+m.seen.length+m.writes.length+m.parts.length+m.ranges.length+m.bp.length<=2^62):
  Ct pg 98 #[m.v vk vs vw vp vr vc vh vd] w X nX λv _ _=>v=B m.isZero:=by
 intro w0 hk;replace h:=h.mv hk.cu;obtain⟨h1,h2,h3,h4,h5,h6,h7,h8⟩:=h;have o7:=h7.one;have o8:=h8.one;refine Xb.1 λhs=>?_;cases hc:m.jJ<;>
 repeat' first|refine ao ?_;intros|refine dq ?_ ?_<;>intros|(with_reducible refine E1 _ ?_ ?_ ?_);(· kernel_rfl);all_goals intros|(with_reducible refine afb _ ?_ ?_ ?_);(· kernel_rfl);all_goals intros|with_reducible apply cK|(refine qr ?_;intro wa hk;(simp_all [bZ.isZero,State.isZero,eI.ext_iff]<;>omega))|((with_reducible refine E2 (Ci _) hs.has ?_);intro w X aC;replace hs:=hs.trans aC)
def bZ.strip (m:bZ):bZ×Bool:=
 if m.kind=1 then({ m with aR:=.zero,range:=0,iC:=0,aV:=.zero,keys:=[] },true)
 else if m.kind=2 then({ m with aR:=.zero,range:=0,code:=0,aV:=.zero,seen:=[],ranges:=[] },true)
 else if m.kind=3 then({ m with aR:=.zero,range:=0,iC:=0,aV:=.zero,seen:=[],writes:=[],parts:=[] },true)
 else if m.kind=4 then({ m with aR:=.zero,range:=0,code:=0,aV:=.zero,ranges:=[] },true)
 else if m.kind=5 then({ m with aR:=.zero,range:=0,jJ:=false,aV:=.zero },true)
 else if m.kind=6\/m.kind=7 then({ m with aR:=.zero,range:=0 },true)
 else if m.kind=8 then({ m with range:=0,n:=0,mx:=0,aV:=.zero },true)
 else if m.kind=9 then({ m with range:=0,n:=0,bp:=[] },true)
 else if m.kind=10 then({ m with range:=0,state:=.zero },true)
 else if m.kind=11 then({ m with range:=0 },true)
 else if m.kind=12 then({ m with prev:=.zero,aV:=.zero,aR:=.zero,writes:=[] },true)
 else if m.kind=13 then(m,true)
 else if m.kind=14 then({ m with aV:=.zero },true)
 else(m,false)
theorem Qm {m:bZ} {vs vc:Value} (h:m.at w X vk vs vw vp vr vc vh vd):
  Ct pg 96 #[m.v vk vs vw vp vr vc vh vd] w X nX λv wa w'=> ∃H4 yC jK JP Xd vc' Xe Xf,v= .tuple #[m.strip.1.v H4 yC jK JP Xd vc' Xe Xf,B m.strip.2]/\
   m.strip.1.at w X H4 yC jK JP Xd vc' Xe Xf:=by
 intro w0 hk;obtain⟨h1,h2,h3,h4,h5,h6,h7,h8⟩:=h;have o1:=h1.one;have o2:=h2.one;have o3:=h3.one;have o4:=h4.one;have o5:=h5.one;have o6:=h6.one;have o7:=h7.one;have o8:=h8.one;refine Qn.1 λhs=>?_;have n1:Sl w X 1 (.slice none 0 0) (([]:List BA).map S1):=Sl.nil _ _ _;have n2:Sl w X 7 (.slice none 0 0) (([]:List fe).map fe.l):=Sl.nil _ _ _;have n4:Sl w X 1 (.slice none 0 0) (([]:List Int).map I1):=Sl.nil _ _ _;have n5:Sl w X 4 (.slice none 0 0) (([]:List eI).map eI.l):=Sl.nil _ _ _;have n6:eQ w X 29 (.slice none 0 0) Rec.rd []:=eQ.nil _ _ _;have n7:qY w X (.slice none 0 0) []:=eQ.nil _ _ _;have n8:qX w X (.slice none 0 0) []:=eQ.nil _ _ _;repeat' first|refine ao ?_;intros|refine dq ?_ ?_<;>intros|with_reducible apply cK
 all_goals
  refine cG hs ?_;intro wa aL;unfold bZ.strip;repeat (first|rw[if_pos zQ]|rw[if_neg zQ])
  exact⟨_,_,_,_,_,_,_,_,rfl,by omega,by assumption,by assumption,by assumption,by omega,by assumption,by assumption,by assumption⟩
def bZ.err (m:bZ):Int:=if !m.strip.2 then 7 else if !Qo m.fr||!Qo m.to||!m.strip.1.isZero||!m.qw then 4 else 0
def bZ.lens (m:bZ):Nat:=m.keys.length+m.seen.length+m.writes.length+m.parts.length+m.ranges.length+m.bp.length
theorem ag5 {c:Prop} [Decidable c] {a b:bZ×Bool} {n:Nat} (ha:a.1.lens<=n) (hb:b.1.lens<=n):(if c then a else b).1.lens<=n:=by grind
theorem bZ.aco (m:bZ):m.strip.1.lens<=m.lens:=by
 unfold bZ.strip;repeat' with_reducible apply ag5
 all_goals (unfold bZ.lens;grind)
theorem aax {m:bZ} {vs vc:Value} (h:m.at w X vk vs vw vp vr vc vh vd) (ni:m.small) (AG:m.lens<=2^62):
  Ct pg 53 #[m.v vk vs vw vp vr vc vh vd] w X nX λv _ _=>v=I m.err:=by
 intro w0 hk;have h:=h.mv hk.cu;have apl:=Nat.le_trans m.aco AG;refine aay.1 λhs=>?_;refine cA (Qm h) kQ hs.has ?_;rintro v wa w X ⟨H4,yC,jK,JP,Xd,vc',Xe,Xf,rfl,dB⟩ hle gy aC;replace hs:=hs.trans aC;have q1:=dB.1.one;have q2:=dB.2.one;have q3:=dB.3.one;have q4:=dB.4.one;have q5:=dB.5.one;have q6:=dB.6.one;have q7:=dB.7.one;have q8:=dB.8.one;cases hb:m.strip.2<;>
 repeat' first|refine ao ?_;intros|with_reducible apply cK|(refine kR (aaz _) hs ?_ ?_<;>intro _ w X hs)|(refine qr ?_;intro wa hk;(simp[bZ.err, *]))|(refine qL ((Xa (m:=m.strip.1))  (dB.mv (aj.mv (by first|assumption|exact aj.trans aQ aQ))) apl) hs ?_ ?_<;>intro _ w X hs)|(refine qL ((Sj (m:=m))  (h.mv (aj.mv hs)) ni) hs ?_ ?_<;>intro _ w X hs)
variable {xo yo : Operand} {P : Program}
theorem ajO {t:TypeId} {a:Bool} (ht:P.underlying t=some .bool) (k:N (.bool false)):aZ P X w (de .neq t xo yo (.bool a) (.bool a)) N:=by
 refine bA (λwa=>?_) k;simp[de,eqGuard,run_neq_bool wa t a a ht]
theorem ajP {t:TypeId} {a b:Bool} (ht:P.underlying t=some .bool) (h:a≠b) (k:N (.bool true)):aZ P X w (de .neq t xo yo (.bool a) (.bool b)) N:=by
 refine bA (λwa=>?_) k;have:(a==b)=false:=by cases a<;>cases b<;>simp_all
 simp[de,eqGuard,run_neq_bool wa t a b ht,this]
theorem O6 {xs:List bZ} {p:bZ->Bool} (ha:eQ w X 36 a bZ.rd xs) (hX: ∀k,X k->k<w.heap.size) (hf:enters pg f=true)
  (hp: ∀(x:bZ) vk vs vw vp vr vc vh vd,aG.one vk=true->aG.one vs=true->aG.one vw=true->aG.one vp=true->aG.one vr=true->aG.one vc=true->aG.one vh=true->aG.one vd=true->Ct pg f ((x.v vk vs vw vp vr vc vh vd)::cs).toArray w X nX λv _ _=>v=B (p x)):
  Ct pg 225 #[a,.func (.func f) #[] cs.toArray] w X nX λv _ _=>v=I (idxOf p xs):=by
 intro w0 hk;replace ha:=eQ.mv ha bZ.mv hk.cu;replace hp:=λ(x:bZ) vk vs vw vp vr vc vh vd h1 h2 h3 h4 h5 h6 h7 h8=>((hp x vk vs vw vp vr vc vh vd h1 h2 h3 h4 h5 h6 h7 h8).kp hk).bV λk hx=>av (hX k hx) hk.size;have lN:=ha.len;refine wB.1 λhs=>?_;repeat' refine ao ?_;intros
 refine gh (λn a w X=> ∃i:Nat,a=I (i:Nat)/\n=(xs).length-i/\i<=(xs).length/\aj (bV w0) w0 X w/\(∀(j:Nat) x,j<i->xs[j]? =some x->p x=false)) (xs).length ⟨0,rfl,rfl,au _,hs,by simp⟩ ?_;rintro n a w X ⟨i,rfl,rfl,hi,hs,hw⟩;rcases dG (xs) i with⟨cC,x,hx,hd⟩|⟨dH,hd⟩
 ·have rS:=eQ.mv ha bZ.mv hs.mv;repeat' refine aN ?_;intros
  refine Gq rS hx rfl kQ kQ λbb oo ll hc jE=>?_;obtain⟨vk,vs,vw,vp,vr,vc,vh,vd,rfl,dB⟩:=jE;have q1:=dB.keys.one;have q2:=dB.seen.one;have q3:=dB.writes.one;have q4:=dB.parts.one;have q5:=dB.ranges.one;have q6:=dB.bp.one;have q7:=dB.iD.one;repeat' refine ao ?_;intros
  refine H2 ((hp x vk vs vw vp vr vc vh vd q1 q2 q3 q4 q5 q6 q7 dB.hU.one).since hs) hf hs.has (λhb w2 X2 bm=>?_) (λhb w2 X2 bm=>?_)
  ·repeat' refine ao ?_;intros
   exact cG (hs.trans bm) λ_ _=>by rw[Ch hw hx hb]
  ·repeat' refine ao ?_;intros
   exact fp (xs.length-(i+1)) zQ ⟨i+1,by simp,rfl,by omega,hs.trans bm,λj y hj hy=>by rcases Nat.lt_succ_iff_lt_or_eq.1 hj with h|h;exact hw j y h hy;subst h;rw[hx] at hy;cases hy;exact hb⟩
 ·repeat' first|refine ao ?_;intros|refine dq ?_ ?_<;>intros|(refine qr ?_;intro wa hk;(rw[yl λj x hj hx=>hw j x zQ hx]))|(exfalso;omega)
theorem afc {c t:bN} (h:c.may=true) (ht:t.may=true):(c.later ⟨t.wall,t.du,c.node⟩).may=true:=by
 unfold bN.later;split
 ·simp only[bN.may,Bool.and_eq_true,decide_eq_true_eq] at h ht⊢;(try simp only);omega
 ·exact h
variable {w' : World} {X' : XS} {n : bt} {id : Int}
section
variable {wa w0 : World} {own aH bM : Nat -> Nat} {n' : bt} {x : AcV} {ws : List bZ}
theorem Xg {m:bZ} {vs vc:Value} (h:aK w X b [I id] 3):
  Ct pg 226 #[m.v vk vs vw vp vr vc vh vd,ptr b 0] w X nX λv _ _=>v=B (decide (m.range=id)):=by
 intro w0 hk;replace h:=h.mv hk.cu;refine DH.1 λhs=>?_;repeat' first|refine ao ?_;intros|refine dq ?_ ?_<;>intros|(refine qr ?_;intro wa hk;(simp[*]))
theorem E3 (ha:aK w X b (JQ x vw) aT) (hw:eQ w X 36 vw bZ.rd ws):Ct pg 153 #[ptr b 0,I id] w X nX λv _ _=>v=I (idxOf (λm=>decide (m.range=id)) ws):=by
 intro w0 hk;replace ha:=ha.mv hk.cu;replace hw:=eQ.mv hw bZ.mv hk.cu;have o1:=hw.one;have hs:=aj.init w0;refine Gf.1 λ_=>?_;repeat' first|refine ao ?_;intros|(refine q1x hs ?_;intro bx w X gq aC gg hs bo)
 refine eT (O6 (cs:=[ptr bx 0]) (p:=λm=>decide (m.range=id)) (eQ.mv hw bZ.mv gg.mv) hs.has kQ λx vk vs vw vp vr vc vh vd _ _ _ _ _ _ _ _=>Xg bo) kQ hs.has λw2 X2 bm=>?_;exact cG (gg.trans bm) λ_ _=>rfl
theorem _root_.Go.aG.St.wts (s:Sn w0 bM w X own n) (hb:n.cU b):eQ w X 36 (n.A b).vw bZ.rd (n.A b).ws:=
 have⟨_,h2,_,h4,_⟩:=s.h.act hb
 ⟨_,h2.sl.mono (s.sub _ ix.1),h4.1,λi l m h1 h2=>bZ.mv (h4.2 i l m h1 h2) (Mv.sub (s.sub 4))⟩
theorem Qp (hp:n.pre=false):n.D5=ptr n.c.cb 0:=by unfold bt.D5;rw[hp];rfl
theorem H5 {e':List Nat} (h: ∀b∈e',b∈n.ex): ∀c,c≠0->c≠4-> ∀w K A,(ea n c).p w K A->(ea { n with ex:=e' } c).p w K A:=λc h0 _=>nU (Q:=λc=>c≠0) (n':= { n with ex:=e' }) (λb i hi _ w K A p=>by
 have q:({ n with ex:=e' } :bt).cU b->n.cU b:=.imp id (h b);rcases i with _|_|_|_|_|_|_|_|i<;>first|exact λha=>p (q ha)|exact p) (λi _ _ w K A p=>by rcases i with _|_|_|_|_|_|_|_|_|_|_|_|_|i<;>exact p) c h0
def Gr (n:bt) (m:bZ) (pp:Bool) (n':bt):Prop:= ∃b gn sJ ki qP,getM m.aR n.al=some b/\(n.A b).x.pre=pp/\m.code≠0/\
 n'= { n with ck:=gn,ds:=m.ranges.foldl iY n.ds,al:=jL m.aR n.al,vm:=sJ,va:=ki,rm:=qP,ra:=n.ra++[D6 m.code m.aR .zero false bf],ms:=n.ms++(if pp then(n.A b).ids.map λid=>(Sm m.aR id).qx (20+n.c.id)else []) }
structure Gs (n:bt) (m:bZ) (pp:Bool) (b i:Nat) (y:bZ):Prop where
 g:getM m.aR n.al=some b
 pre:(n.A b).x.pre=pp
 code:m.code=0
 gA:(n.A b).ws[i]? =some y
 pt:y.range=m.range
def NoW (n:bt) (m:bZ) (pp:Bool):Prop:= ∀b i y,¬Gs n m pp b i y
def aja (n:bt) (m:bZ) (pp:Bool) (v:Value) (n':bt):Prop:=
 (v= .tuple #[.pointer none,I 0]/\((∃gn,n'= { n with ck:=gn } /\NoW n m pp)\/Gr n m pp n'))\/
 ∃(b i:Nat) (y:bZ) (gn:bN),Gs n m pp b i y/\v= .tuple #[ptr b 0,I i]/\n'= { n with ck:=gn }
theorem H6 {m:bZ} {vs jK vc:Value} {pp:Bool} (h:jb w own n) (hX:sK own X) (hp:n.pre=false) (fE:m.aV.may=true) (H7:Sl w (bR own 4) 4 vr (m.ranges.map eI.l)) (hi:1<=n.c.id/\n.c.id<=2) (hl:n.ra.length<=2^20) (hpq: ∀b,getM m.aR n.al=some b->(n.A b).pq=false) (wS: ∀b,getM m.aR n.al=some b->n.rm.length+(n.A b).ids.length<=2^20):
  Ct pg 100 #[ptr n.nb 0,m.v vk vs jK vp vr vc vh vd,B pp] w X (gB own) λv wa w'=>NQ ea own wa w' λ_ n'=>aja n m pp v n':=by
 intro w0 hk;have s:=St.init h hX hk;replace H7:=H7.mv (yD hX hk);have hr:=s.v.1;have hs:=s.rf;have no:(∀b i y,¬Gs n m pp b i y)->aja n m pp (.tuple #[.pointer none,I 0]) n:=λh=>.inl ⟨rfl,.inl ⟨n.ck,rfl,h⟩⟩;refine IP.1 λ_=>?_;repeat' refine ao ?_;intros
 refine nh (kt:=34) (et:=116) (kv:=λk:bH=>k.v) (k:=m.aR) (.pointer none) (s.zO 5:) ta kQ kQ (λv b lq rT=>?_) (λhn=>?_);case refine_2=>
  repeat' first|refine ao ?_;intros|with_reducible apply cK
  exact s.fin λ_ _=>no λb i y h=>by rw[h.g] at hn;cases hn
 simp only[wT] at rT;subst rT;have hb:n.cU b:=.inl ⟨_,lq⟩;obtain⟨ha,o1,o2,o3,o4⟩:=s.va hb;have only: ∀{b' i y},Gs n m pp b' i y->b'=b:=λh=>by have:=h.g;rw[lq] at this;cases this;rfl
 repeat' refine ao ?_;intros
 by_cases hpp:(n.A b).x.pre=pp;case neg=>
  refine ajP kQ hpp ?_;repeat' first|refine ao ?_;intros|with_reducible apply cK
  exact s.fin λ_ _=>no λb' i y h=>hpp (by have e:=only h;subst e;exact h.pre)
 subst hpp;refine ajO kQ ?_;repeat' first|refine ao ?_;intros|with_reducible apply cK
 refine eT (E3 (id:=m.range) ha (s.wts hb)) kQ hs.has λw1 X1 aC=>?_;have s1:=s.since aC;replace H7:=H7.mv (aC.gU (s.sub 4));rcases G7 (p:=λy:bZ=>decide (y.range=m.range)) (l:=(n.A b).ws)with⟨e,en⟩|⟨i,y,hy,hpy,e⟩
 ·rw[e];clear hs;repeat' refine aN ?_;intros
  exact s1.fin λ_ _=>no λb' i y h=>by
   have e:=only h;subst e;exact absurd (en y (aB h.gA)) (by simp[h.pt])
 have hyr:y.range=m.range:=by simpa using hpy
 rw[e];clear hs hr ha s;have hs:=s1.rf;have hr:=s1.v.1;rw[Qp hp] at hr;repeat' refine aN ?_;intros
 have AH:=(show n.pre=false->aK w1 (bR own 7) n.c.cb (G9 n.ck) IQ/\n.ck.may=true from s1.get 7) hp;have Qq: ∀k,k=n.c.cb->own k=7:=λk e=>by rw[e];exact AH.1.1
 refine yV (Vg (AH.1.mono (s1.sub 7)) fE) kQ s1.has (λk e=>s1.x k (by have:=Qq k e;omega)) λv yE w2 X2 q2 mq kW _ c2=>?_;obtain⟨_,V1⟩:=q2;obtain⟨lS,s2,m2⟩:=s1.DI (F':=ea { n with ck:=n.ck.later ⟨m.aV.wall,m.aV.du,n.ck.node⟩ }) 7 c2 Qq (· =n.c.cb) (λk e=>.inl (Qq k e)) (λK _ _=>⟨V1,afc AH.2 fE⟩) nU;replace H7:=H7.mv m2;clear hs hr s1;generalize n.ck.later ⟨m.aV.wall,m.aV.du,n.ck.node⟩=gn at s2;have hs:=s2.rf;have hr:=s2.v.1;by_cases hcd:m.code=0
 ·repeat' refine aN ?_;intros
  refine eT (E3 (id:=m.range) (s2.va (b:=b) hb).1 (s2.wts (b:=b) hb)) kQ hs.has λw3 X3 cV=>?_;rw[e];exact(s2.since cV).fin λwa aL=>.inr ⟨b,i,y,gn,⟨lq,rfl,hcd,hy,hyr⟩,rfl,rfl⟩
 repeat' refine aN ?_;intros
 have hd:mH w2 (bR lS 2) n.c.acp n.mb n.ds:=s2.get 2;refine yV (Oe hd (s2.fxc 2) H7 λk (e:lS k=4)=>⟨s2.x k zQ,λe'=>by have:lS n.mb=2:=hd.map.x.1;rw[e'] at e;omega⟩) kQ s2.has (λk e=>s2.x k (by rw[show k=n.mb from e,show lS n.mb=2 from hd.map.x.1];decide)) λv yF w3 X3 q3 qy mr _ c3=>?_;obtain⟨nE,s3,m3⟩:=s2.DI (F':=ea { n with ck:=gn,ds:=m.ranges.foldl iY n.ds }) 2 c3 (λk e=>by rw[show k=n.mb from e];exact hd.map.x.1) (bR lS 2) (λk e=>.inl e) (λK _=>q3.2) nU;clear hs hr s2;have hs:=s3.rf
 skip
 refine s3.call (zF (n:= { n with ck:=gn,ds:=_ }) (b:=b) (code:=m.code) s3.h s3.x hb (hpq b lq) hl hi (wS b lq)) kQ λv w4 X4 lT n4 s4 q4 m4=>?_;obtain⟨ki,sJ,qP,rfl,_⟩:=q4;have s5:=s4.to (H5 (e':=n.ex) λ_=>List.mem_cons_of_mem _);clear hs
 skip
 have hk:(n.A b).x.aR=m.aR:=(show∀t b,getM t n.al=some b->(n.A b).x.aR=t from h.gA 12 dQ dQ) _ _ lq;refine s5.fin λwa aL=>.inl ⟨rfl,.inr ⟨b,gn,sJ,ki,qP,lq,rfl,hcd,?_⟩⟩;rw[<-hk]
end
section
variable {N N' S : XS} {rb sb wb : Nat} {wU oI : Value} {wr : CW} {sd : List (BA × gJ)}
theorem ajQ {k:BA} {C:Value->Prop} (h:dK w X nX mb aP nA t) (n: ∀(v:gJ) b,C (.tuple #[v.v,.bool b])):aZ pg X w (Instr.lookup 287 (.map (some mb)) (.string k) true) C:=by
 refine E4 (kt:=9) (et:=97) (kv:=aP) gJ.zero.v h xw kQ kQ (λv a hg hv=>?_) (λhg=>?_)
 ·grind [nA]
 ·exact n _ _
theorem afd {k:BA} (h:ir w N rb sb wb wU s wr) (hN: ∀k,N k->X k) (hm:dK w X nX sb aP nA sd):Ct pg 235 #[ptr rb 0,.string k] w X nX λv _ _=> ∃x:gJ,v=x.v:=by
 intro w0 hk;have bo:=(h.row.mono hN).mv hk.cu;have hwm:=(lH h.map (hN _ h.map.x.1)).mv kH hk.cu (A':=nX) λ_ h=>h.elim;replace hm:=hm.mv kH hk.cu (A':=nX) λ_ h=>h.elim;have hs:=aj.init w0;refine Qr.1 λ_=>?_;repeat' first|refine ao ?_;intros|refine dq ?_ ?_<;>intros|(refine ajQ zQ λv b=>?_)|(refine W4 zQ ?_)|(refine qr ?_;intro wa hk;(exact⟨_,rfl⟩))
def DoQ (o:jr) (N:XS) (rb sb wb:Nat) (s:List gJ) (wr:CW) (wa w':World):Prop:= ∃s' oU N' oI,(s'.length:Int)=s.length+(AF o.code-tK o.code)/\(oU=wr\/ ∃v,oU=cI o.key v wr/\(o.code=2\/o.code=3))/\(o.code≠1->uq o s wr= .ok (s',oU))/\(∀k,N' k->N k\/made wa w' k)/\ir w' N' rb sb wb oI s' oU
theorem afe (h:ir w N rb sb wb wU s wr) (hN:FX N X w) (hm:dK w X nX sb aP nA sd) (hl:s.length<=2^20) (e1:o.code=1):
  E5 pg 168 #[ptr rb 0,.agg o.l.toArray] w X N (λ_ wa w'=>DoQ o N rb sb wb s wr wa w') (λch _ _=> ∃e,ch=vy e/\(o.code≠1->uq o s wr= .error e)):=by
 intro w0 hk;have hT:=hN.ft hk;replace h:=h.mv (hN.mv hk);replace hm:=hm.mv kH hk.cu (A':=nX) λ_ h=>h.elim;have hs:=aj.init w0;refine o9.1 λ_=>?_;repeat' first|refine aN ?_;intros|with_reducible apply cK
 refine cA (afd h hT.br hm) kQ hs.has ?_;rintro _ wa w1 X1 ⟨v,rfl⟩ hle gy aC;have ej:=hT.since aC;have h1:=h.mv (aC.gU λk af=>hT.br k af);refine ej.call (IS (v:=v) h1 (λk af=>⟨ej.br k af,ej.s.has k (ej.br k af)⟩) zQ) kQ (λ_ h=>h) λv zj w4 X4 hq tL pa fJ c4=>?_;obtain⟨N4,Ha,TL,h4⟩:=hq;have zP:=fJ.less TL;have ai9:(AF o.code-tK o.code:Int)=1:=by rw[e1];decide
 exact zP.xy λwa aL=>⟨_,_,_,_,by grind,.inl rfl,λe=>absurd e1 e,zP.jC aL λ_ h=>h,h4.mv (aL.jf zP.br)⟩
theorem aff (h:ir w N rb sb wb wU s wr) (hN:FX N X w) (hm:dK w X nX sb aP nA sd) (hl:s.length<=2^20) (hc:1<=o.code/\o.code<=15) (ht:tK o.code<=s.length):
  E5 pg 168 #[ptr rb 0,.agg o.l.toArray] w X N (λ_ wa w'=>DoQ o N rb sb wb s wr wa w') (λch _ _=> ∃e,ch=vy e/\(o.code≠1->uq o s wr= .error e)):=by
 by_cases e1:o.code=1
 ·exact afe h hN hm hl e1
 ·refine(ag6 h hN hl e1 hc ht).mono (λ_ _ _ _ hq=>?_) λch _ _ _ hq=>?_
  ·obtain⟨s',oU,N',oI,h1,h2,h3⟩:=hq;exact⟨s',oU,N',oI,ajN h1 hc e1 ht,ala h1,λ_=>h1,h2,h3⟩
  grind
end
def Xh (p:List jr) (e:Int) (wl:List KV):Prop:=fj 1 1 p=[]->nF p=0->match runM p [] [] with
 | .ok (_,wr)=>e=0/\wl=EY wr
 | .error e'=>e=e'
theorem Xh.err (h:fj 1 1 p=[]->nF p=0->runM p [] []= .error e):Xh p e []:=λh1 h2=>by rw[h h1 h2]
def alc (p:List jr) (v:Value) (wa w':World):Prop:= ∃(vl:Value) (wl:List KV) (e:Int),v= .tuple #[vl,I e]/\Sl w' (made wa w') 4 vl (wl.map KV.l)/\wl.length<=40/\(∀x∈wl,x.key.size<=24/\ ∃o∈p,x.key=o.key/\(o.code=2\/o.code=3))/\Xh p e wl
theorem aaA {b:Value} (ha:Sl w X 5 a (p.map jr.l)) (hb:Sl w X 7 b (sn.map fe.l)):
  Ct pg 113 #[a,b] w X nX λv wa w'=>alc p v wa w':=by
 intro w0 hk;replace ha:=ha.mv hk.cu;replace hb:=hb.mv hk.cu;have lN:=ha.ib;have hF:FX nX (bV w0) w0:=λk af=>af.elim;have hT:=hF.ft (Kp.refl _ _);refine Xi (RP:=λch w'=> ∃e,ch=vy e/\Fr nX w0 w'/\(fj 1 1 p=[]->nF p=0->runM p [] []= .error e)) kQ ag1 (ae7 λch w' ⟨e,h1,h2,h9⟩=>⟨e,h1,_,rfl,h2,?_⟩) ?_
 ·exact⟨_,[],e,rfl,Sl.nil _ _ _,by simp,λx hx=>absurd hx sQ,Xh.err h9⟩
 refine cz ?_;have hs:=aj.init w0;refine eT (Le ha) kQ hs.has λw1 X1 aC=>?_;have ej:=hT.since aC;have rS:=ha.since aC;replace hs:=hs.trans aC;by_cases hc:nF p≠0
 ·repeat' refine aN ?_;intros
  exact abw (ej.fin λwa aL=>⟨_,[],_,rfl,Sl.nil _ _ _,by simp,λx hx=>absurd hx sQ,Xh.err λ_ h=>absurd h hc⟩)
 ·repeat' refine aN ?_;intros
  have hlen:p.length<=40:=by
   unfold nF at hc;split at hc
   ·exact absurd dQ hc
   ·omega
  have hcf:yU p 0=0:=by
   unfold nF at hc;split at hc
   ·exact absurd dQ hc
   ·split at hc
    ·exact absurd ‹_› hc
    ·omega
  refine cA (AI rS zQ) kQ hs.has ?_;rintro vr wa w2 X2 ho hle gy bm;have da:=ej.since bm;have Of:=rS.since bm;replace hs:=hs.trans bm;refine cA (aau ((ho.mono gy).sl) (hb.mv hs.mv)) kQ hs.has ?_;rintro _ wb w3 X3 ⟨ef,vm,rfl,hf0,hfm⟩ qy mr cV;have dS:=da.since cV;have ha3:=Of.since cV;replace hs:=hs.trans cV;by_cases hef:ef=0;case neg=>
   repeat' refine aN ?_;intros
   exact abw (dS.fin λwa aL=>⟨_,[],_,rfl,Sl.nil _ _ _,by simp,λx hx=>absurd hx sQ,Xh.err λh=>absurd (hf0 h) hef⟩)
  obtain⟨sb,sd,rfl,Xj⟩:=hfm hef;replace Xj:=lH Xj (mr _ Xj.x.1);subst hef;have acq:=hs;clear aC bm cV;repeat' refine aN ?_;intros
  refine rE (kv:=aP) nA nX hs.has λmb w4 X4 W7 fR Aj=>?_;have fJ:=dS.since fR;have ha4:=ha3.since fR;have rF:=hs.trans fR;clear hs;repeat' refine ao ?_;intros
  refine AJ rF.has λrb w5 X5 Og tg bo=>?_;have iN:=fJ.since tg;have ha5:=ha4.since tg;have xx:=Aj.mv kH tg.mv (λ_ h=>h.elim) (A':=nX);have Lf:=rF.kp.size;have h5:ir w5 (λk=>k=rb\/k=mb) rb sb mb (.slice none 0 0) [] []:=⟨⟨.inl rfl,bo.2⟩,Own.nil _ _ _ _ _,lH xx (.inr rfl)⟩;have ald:Ft w0 nX w5 X5 (λk=>k=rb\/k=mb):=iN.more λk e=>by
   have:=acq.kp.size;rcases e with e|e<;>subst e
   ·exact .inr ⟨bo.1,by omega⟩
   ·exact .inr ⟨xx.x.1,by omega⟩
  have hs:=rF.trans tg;clear Aj xx bo;have apm:=(Xj.mv kH fR.mv (A':=nX) λ_ h=>h.elim).mv kH tg.mv (A':=nX) λ_ h=>h.elim;have apn: ¬(sb=rb\/sb=mb):=λe=>by
   have h1:=Xj.x.2;have:=fR.kp.size;rcases e with e|e<;>omega
  clear fR tg;repeat' refine ao ?_;intros
  refine gh (λn a w X=> ∃(i:Nat) (N:XS) (wU:Value) (s:List gJ) (wr:CW),a=I i/\n=p.length-i/\i<=p.length/\Ft w0 nX w X N/\ir w N rb sb mb wU s wr/\yU (p.drop i) s.length=0/\(s.length:Int)<=16/\(∀x∈wr,x.1.size<=24/\ ∃o∈p,x.1=o.key/\(o.code=2\/o.code=3))/\wr.length<=i/\dK w X nX sb aP nA sd/\ ¬N sb/\(fj 1 1 p=[]->runM p [] []=runM (p.drop i) s wr)) p.length
   ⟨0,_,_,_,_,rfl,rfl,au _,ald,h5,hcf,by simp,λx hx=>absurd hx sQ,Nat.le_refl _,apm,apn,λ_=>rfl⟩ ?_
  clear ald h5 iN fJ dS da ej hs ha5 ha4 ha3 Of rS;rintro n _ w X ⟨i,N,wU,s,wr,rfl,rfl,hi,kj,h6,Hb,hl6,hwk,H8,Xk,ajb,Lh⟩;have ha6:Sl w X 5 a (p.map jr.l):=ha.mv λk af _=>⟨kj.s.sub k ⟨af,λe=>e.elim⟩,kj.s.kp.block k ⟨af,λe=>e.elim⟩⟩;have hs:=aj.fT kj.s.has;rcases dG (p) i with⟨cC,o,hx,hd⟩|⟨dH,hd⟩
  ·have TM:=aB hx;rw[hd] at Hb;have hf6:=K9 Hb o sQ;unfold yU at Hb;rw[if_neg (λh=>h hf6.2),if_neg (by rw[hf6.1];simp)] at Hb;have px:tK o.code<=s.length:=by
    split at Hb
    ·omega
    ·omega
   rw[if_neg zQ] at Hb;have ary:(s.length:Int)+(AF o.code-tK o.code)<=16:=by
    split at Hb
    ·omega
    ·omega
   rw[if_neg zQ] at Hb;repeat' refine aN ?_;intros
   refine kj.Gt (aff h6 (λk af=>⟨kj.br k af,kj.s.has k (kj.br k af)⟩) Xk zQ hf6.2 px) kQ (λ_ h=>h) (λv Qs w7 X7 hq Sp Hc CY c7=>?_) λch Qs w7 X7 hq Sp Hc CY c7 wb7 mP=>?_
   ·obtain⟨s',oU,N',oI,anX,hwr,hdo,hN',h7⟩:=hq;have apo:fj 1 1 p=[]->runM p [] []=runM (p.drop (i+1)) s' oU:=λe=>by rw[Lh e,hd,runM,hdo (ae9 hcf e o TM)]
    have anY: ¬N' sb:=λe=>(hN' sb e).elim ajb λe=>by have:=Xk.x.2;have:=e.1;omega
    have apq:dK w7 X7 nX sb aP nA sd:=lH ((lH Xk (Y:=(· =sb)) rfl).mv kH (λk af _=>⟨af,c7.block k (by rw[af];exact Xk.x.1) (by rw[af];exact ajb)⟩) (A':=nX) λ_ h=>h.elim) (c7.sub _ Xk.x.1);have Sq:=CY.less hN';have apr: ∀x∈oU,x.1.size<=24/\ ∃o∈p,x.1=o.key/\(o.code=2\/o.code=3):=λx hx=>by
     rcases hwr with e|⟨v,e,uP⟩
     ·rw[e] at hx;exact hwk x hx
     ·rw[e] at hx;rcases mU h6.map.nodup hx with rfl|⟨hx,_⟩
      ·exact⟨acm hf6.1 uP,o,aB aQ,rfl,uP⟩
      ·exact hwk x hx
    have aps:oU.length<=i+1:=by
     rcases hwr with e|⟨v,e,uP⟩
     ·rw[e];omega
     ·rw[e];have:=CZ (k:=o.key) (a:=v) wr;omega
    rw[<-anX] at Hb;repeat' first|refine ao ?_;intros|((with_reducible refine fp (p.length-(i+1)) ?_ ?_);omega;exact⟨i+1,N',oI,s',oU,by simp,rfl,by omega,Sq,h7,Hb,by omega,apr,aps,apq,anY,apo⟩)
   ·obtain⟨e,hch,hdo⟩:=hq;exact⟨e,hch,CY.fr mP,λe1 _=>by rw[Lh e1,hd,runM,hdo (ae9 hcf e1 o TM)]⟩
  ·have anZ:=h6.row.mono λk af=>kj.br k af;repeat' refine aN ?_;intros
   have hNX: ∀k,N k->X k:=kj.br;have hm6:dK w X nX mb aP nA wr:=lH h6.map (hNX _ h6.map.x.1);refine cA ajR kQ kj.s.has ?_;rintro _ Qs w7 X7 ⟨bx,rfl,hb⟩ Sp Hc py;have hm7:=hm6.mv kH py.mv (λ_ h=>h.elim) (A':=nX);have CY:=kj.since py;refine cA (afg hm7 (hb.mono Hc) (λe he=>Nat.le_trans (hwk e he).1 dQ) zQ) kQ CY.s.has ?_;rintro vs wb8 w8 X8 AK arJ apt lr;have TN:=CY.since lr;have hz7:=CY.s.kp.size;have wV:Own w8 X8 w0.heap.size 9 1 vs ((fL (wr.map (·.1))).map S1):=AK.up apt zQ;have hW:EY wr=(fL (wr.map (·.1))).map λk=>(⟨k,(getM k wr).getD .zero⟩:KV):=rfl;have Xl:(fL (wr.map (·.1))).length=wr.length:=by rw[(kP _).length_eq,ai]
   have sS: ∀{w9:World} {X9:XS} {v:Value},Ft w0 nX w9 X9 N->Own w9 X9 w0.heap.size 178 4 v ((EY wr).map KV.l)->fin (yp (vR nX w0 λv w'=>(λv wa w'=>alc p v wa w') v w0 w') (λch w'=> ∃e,ch=vy e/\Fr nX w0 w'/\(fj 1 1 p=[]->nF p=0->runM p [] []= .error e))) X9 w9 (.tuple #[v,I 0]):=λq1 q2=>
    q1.acr λwa aL=>⟨_,_,_,rfl,(q2.kp aL).tight.sl,by rw[hW,ai,Xl];omega,λx hx=>by
     rw[hW] at hx;obtain⟨k,af,rfl⟩:=List.mem_map.1 hx;obtain⟨y,hy,rfl⟩:=List.mem_map.1 ((kP _).mem_iff.1 af);exact hwk y hy,λe _=>by rw[Lh e,hd];exact⟨rfl,rfl⟩⟩
   rw[hW] at sS;generalize fL (wr.map (·.1))=ids at wV Xl sS;have h8:=h6.mv ((py.trans lr).gU hNX);have hN8: ∀k,N k->X8 k:=λk af=>lr.sub k (py.sub k (hNX k af));clear hW ha6 hs hm6 hm7 CY hb AK py lr;have nV:=wV.sl;have hs:=aj.fT TN.s.has;repeat' refine ao ?_;intros
   refine gM (λn a b w X=> ∃(j:Nat) (v:Value),a=I j/\b= .agg #[v]/\n=ids.length-j/\j<=ids.length/\aj X8 w8 X w/\Own w X w8.heap.size 178 4 v (((ids.take j).map λk=>(⟨k,(getM k wr).getD .zero⟩:KV)).map KV.l)) ids.length ⟨0,_,rfl,rfl,rfl,au _,aj.fT TN.s.has,Own.nil _ _ _ _ _⟩ ?_;rintro n _ _ w9 X9 ⟨j,v,rfl,rfl,rfl,hj,Ak,TO⟩;have hT9:=TN.since Ak;have h9:=h8.mv (Ak.gU hN8);have arz:=h9.row.mono λk af=>Ak.sub k (hN8 k af);have arK:=nV.since Ak;have an0:dK w9 X9 nX mb aP nA wr:=lH h9.map (Ak.sub _ (hN8 _ h8.map.x.1));have gg:=aj.fT TN.s.has;clear hs nV anZ;have hs:=Ak;have ov:=TO.sl.one;rcases dG ids j with⟨cC,k,hx,hd9⟩|⟨apu,hd9⟩
   ·have fE:(ids.take (j+1)).map (λk=>(⟨k,(getM k wr).getD .zero⟩:KV))=(ids.take j).map (λk=>(⟨k,(getM k wr).getD .zero⟩:KV))++[⟨k,(getM k wr).getD .zero⟩]:=by rw[List.take_add_one,hx,aJ];rfl
    have hl9:((ids.take j).map λk=>(⟨k,(getM k wr).getD .zero⟩:KV)).length=j:=by rw[ai,aI];omega
    repeat' first|refine aN ?_;intros|((with_reducible apply ajS);(case own=>first|assumption|exact Own.since aQ aQ);(case hs=>assumption);(case h0=>first|exact λ_ h=>h|exact gg.has);(case he=>kernel_rfl);(case hk=>rfl);(case h1=>exact qE);(case hb=>(simp only[ai,aI,aa,aM,bz];omega));(case hl=>(simp only[ai,aI,aa,aM,bz];omega));intro acc w X aC ho hc dB;replace hs:=aC)|(refine W4 an0 ?_)|((with_reducible refine fK (ids.length-(j+1)) ?_ ?_);omega;exact⟨j+1,_,by simp,rfl,rfl,by omega,hs,by rw[fE,aJ];exact ho⟩)
   ·rw[List.take_of_length_le apu] at TO;have hz8:=TN.s.kp.size;repeat' first|refine aN ?_;intros|(exact sS hT9 (TO.low hz8))
end Go.Proofs.YtgfijddlkhkopaaGreat