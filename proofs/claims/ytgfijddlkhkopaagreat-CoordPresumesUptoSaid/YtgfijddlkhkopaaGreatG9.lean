/- Part 9 of the proof. -/
import Derived.Test.YtgfijddlkhkopaaGreatProg
import Derived.Recover
import Derived.Shelf.Abstract
import Derived.RegionTactic
import Derived.KernelRfl
import Derived.Tactics
import Derived.Test.YtgfijddlkhkopaaGreatG8
set_option linter.all false
open Go.Value renaming string → aP
open List renaming length_cons → aM, length_map → af, length_tail → rl, length_nil → bF, length_append → aa, mem_of_getElem? → ax, length_take → aD, not_mem_nil → dI, foldl_cons → iA, map_append → az
open Nat renaming zero_le → aq, lt_of_lt_of_le → aw
open Array renaming replicate → cY
open Go.Instr renaming typeAssert → oc
namespace Go.Proofs.YtgfijddlkhkopaaGreat
open Go.Proofs.Tryz renaming prog → pg
open Go.aJ
set_option maxRecDepth 100000
set_option maxHeartbeats 4000000
theorem ake:Idle pg 167:=by
 refine⟨by kernel_rfl,λgG w=>?_⟩;refine callsD_of_wpS Tryz.func167 rfl λc₀ cs hu=>?_;rw[Tryz.ntmps167];have gf:8<=(gG++cY (13-gG.size) undef).size:=by simp;omega
 generalize gG++cY (13-gG.size) undef=tm at gf;have h2:2<tm.size:=by omega
 have h5:5<tm.size:=by omega
 have h7:7<tm.size:=by omega
 apply wpS_seq;apply wpS_region;simp[wpOpsS,go_sem,recoverD,hu,Exit.thenS];refine wpS_of_wp ?_;refine wp_block ?_;apply wp_seq;apply wp_region;simp[wpOps,go_sem,Exit.then,h2,h5,h7];refine .inl (wp_cond (t:=true) (by simp[Act.eval,h2,h5,h7]) ?_);simp only[if_true];apply wp_region;simp[wpOps,go_sem,Exit.then,Exit.inBlock,h2,h5,h7];cases c₀;simp_all [bodyPostS,results,Tryz.results167]
variable {x : Value} {w : World}
theorem afM {st:TypeId} :(oc (.iface 291 x) st 291 true).run pg w= .ok (.tuple #[x,.bool true]) w:=by
 obtain⟨fs,hu⟩: ∃fs,pg.underlying 291=some (.struct fs):=⟨_,rfl⟩;simp[oc,run_underlying hu]
variable {ty : TypeId} {k : Nat} {W : World}
theorem CZ (h:W.heap[k]? =some (.cells #[x] ty (0,0))):W.cell? ⟨k,0,none⟩=some x:=by simp[World.cell?,h]
theorem SN (h:W.heap[k]? =some (.cells #[x] ty (0,0))):W.frozen? ⟨k,0,none⟩=false:=by simp[World.frozen?,h]
variable {b : Nat}
theorem Nc (v:Value) (hb:w.heap[b]? =some (.cells #[x] ty (0,0))) (k:Nat):(w.setCell ⟨b,0,none⟩ v).heap[k]? =if k=b then some (.cells #[v] ty (0,0))else w.heap[k]? :=by
 unfold World.setCell;simp only[Array.getElem?_modify];by_cases h:b=k
 ·subst h;simp[hb]
 grind
variable {e : Int}
theorem U6 (h:w.cell? ⟨k,0,none⟩=some (I e)):(loadVar 37 ⟨k,0,none⟩).run pg w= .ok (I e) w:=by
 have XA:(isAgg 37).run pg w= .ok false w:=run_isAgg_plain (d:=.int .i64) kQ rfl w;simp[loadVar,XA,run_load,h]
theorem ahr {v:Value} (h:w.cell? ⟨k,0,none⟩=some v):(loadVar 42 ⟨k,0,none⟩).run pg w= .ok v w:=by
 have XA:(isAgg 42).run pg w= .ok false w:=run_isAgg_plain (d:=.slice 178) kQ rfl w;simp[loadVar,XA,run_load,h]
theorem amf:Tryz.f113.results= #[.cell 4 42,.cell 5 37]:=by kernel_rfl
theorem ahs {R:Ending->World->Prop} {RP:List PanicEntry->World->Prop}
  (hR: ∀ch w,RP ch w-> ∃e,ch=wh e/\R (.returned (.tuple #[.slice none 0 0,I e])) w):RG pg Pa Tryz.f113 R 167 [4,5] [] RP:=by
 intro ks FG ch w xq nB py hh hv gf hRP;obtain⟨k1,k2,rfl⟩: ∃a b,ks=[a,b]:=by
  match ks,xq with
  |[a,b],_=>exact⟨a,b,rfl⟩
 obtain⟨c1,c2,rfl⟩: ∃a b,FG=[a,b]:=by
  match FG,nB with
  |[a,b],_=>exact⟨a,b,rfl⟩
 obtain⟨U5,g1⟩:=hh 0 k1 c1 rfl rfl;obtain⟨Om,g2⟩:=hh 1 k2 c2 rfl rfl;have s1:c1.size=1:=gf 0 4 1 c1 rfl kQ rfl;have s2:c2.size=1:=gf 1 5 1 c2 rfl kQ rfl;obtain⟨e,rfl,_⟩:=hR _ _ (hRP w (aJ.Outside.refl _ _));refine callsD_of_wpS Tryz.func167 rfl λc₀ cs hu=>?_;rw[Tryz.ntmps167];simp only[List.map_cons,List.map_nil,List.size_toArray,aM,bF];apply wpS_seq;apply wpS_region;simp[wpOpsS,go_sem,recoverD,hu,Exit.thenS];refine wpS_of_wp ?_;refine wp_block ?_;apply wp_seq;apply wp_region;simp[wpOps,go_sem,Exit.then];refine .inl (wp_cond (t:=false) (by simp[Act.eval]) ?_);simp only[Bool.false_eq_true,if_false];apply wp_seq;apply wp_region;simp[wpOps,go_sem,Exit.then,afM];repeat left
 refine wp_cond (t:=true) (by simp[Act.eval]) ?_;simp only[if_true];change Code.wp _ _ _ { tmps:= #[eB k1 0,eB k2 0,undef,undef,undef,.iface 291 (.agg #[I e]),undef,B false,.tuple #[.agg #[I e],B true],B true,.agg #[I e],undef,undef],defers:=[] } w;apply wp_seq;apply wp_region;simp[wpOps,go_sem,Exit.then];repeat left
 have l1:=(Array.getElem?_eq_some_iff.1 g1).1;have l2:=(Array.getElem?_eq_some_iff.1 g2).1;obtain⟨x1,rfl⟩: ∃x,c1= #[x]:=by
  match c1,s1 with
  |⟨[x]⟩,_=>exact⟨x,rfl⟩
 obtain⟨x2,rfl⟩: ∃x,c2= #[x]:=by
  match c2,s2 with
  |⟨[x]⟩,_=>exact⟨x,rfl⟩
 have q0:(w.alloc (.cells #[I e] 291)).heap[w.heap.size]? =some (.cells #[I e] 291 (0,0)):=heap_alloc_new _ _;have q1:(w.alloc (.cells #[I e] 291)).heap[k1]? =some (.cells #[x1] U5 (0,0)):=(heap_alloc_old _ _ (h:=l1)).trans g1;have q2:(w.alloc (.cells #[I e] 291)).heap[k2]? =some (.cells #[x2] Om (0,0)):=(heap_alloc_old _ _ (h:=l2)).trans g2;simp only[List.nodup_cons,List.mem_cons,dI,or_false,not_or] at py;have hW: ∀k,k<w.heap.size->(w.alloc (.cells #[I e] 291)).heap[k]? =w.heap[k]? :=λk hk=>heap_alloc_old _ _ (h:=hk);have hWo:(w.alloc (.cells #[I e] 291)).os=w.os/\(w.alloc (.cells #[I e] 291)).tape=w.tape/\(w.alloc (.cells #[I e] 291)).output=w.output/\(w.alloc (.cells #[I e] 291)).heap.size=w.heap.size+1:=⟨rfl,rfl,rfl,Array.size_push _⟩;change Code.wp _ _ _ { tmps:= #[.pointer (some ⟨k1,0,none⟩),.pointer (some ⟨k2,0,none⟩),undef,.pointer (some ⟨w.heap.size,0,none⟩),undef,.iface 291 (.agg #[I e]),undef,B false,.tuple #[.agg #[I e],B true],B true,.agg #[I e],undef,undef],defers:=[] } (w.alloc (.cells #[I e] 291));generalize w.alloc (.cells #[I e] 291)=W at q0 q1 q2 hW hWo⊢;generalize gn:w.heap.size=s0 at l1 l2 q0 hW hWo⊢;have ajW:s0≠k1:=by omega
 have p0:W.drew.cell? ⟨s0,0,none⟩=some (I e):=CZ (W:=W.drew) q0;have p1:W.drew.cell? ⟨k1,0,none⟩=some x1:=CZ (W:=W.drew) q1;have f1:W.drew.frozen? ⟨k1,0,none⟩=false:=SN (W:=W.drew) q1;have r: ∀k,(W.setCell ⟨k1,0,none⟩ (.slice none 0 0)).heap[k]? =if k=k1 then some (.cells #[.slice none 0 0] U5 (0,0))else W.heap[k]? :=Nc _ q1
 have r0:(W.setCell ⟨k1,0,none⟩ (.slice none 0 0)).heap[s0]? =some (.cells #[I e] 291 (0,0)):=by rw[r,if_neg ajW];exact q0
 have r2:(W.setCell ⟨k1,0,none⟩ (.slice none 0 0)).heap[k2]? =some (.cells #[x2] Om (0,0)):=by rw[r,if_neg (λe=>py.1 e.symm)];exact q2
 have t0:(W.setCell ⟨k1,0,none⟩ (.slice none 0 0)).drew.cell? ⟨s0,0,none⟩=some (I e):=CZ (W:=(W.setCell ⟨k1,0,none⟩ (.slice none 0 0)).drew) r0;have t2:(W.setCell ⟨k1,0,none⟩ (.slice none 0 0)).drew.cell? ⟨k2,0,none⟩=some x2:=CZ (W:=(W.setCell ⟨k1,0,none⟩ (.slice none 0 0)).drew) r2;have t3:(W.setCell ⟨k1,0,none⟩ (.slice none 0 0)).drew.frozen? ⟨k2,0,none⟩=false:=SN (W:=(W.setCell ⟨k1,0,none⟩ (.slice none 0 0)).drew) r2
 go_region
 have r': ∀k,(((W.setCell ⟨k1,0,none⟩ (.slice none 0 0)).setCell ⟨k2,0,none⟩ (.int .i64 e)).drew).heap[k]? =if k=k2 then some (.cells #[I e] Om (0,0))else(W.setCell ⟨k1,0,none⟩ (.slice none 0 0)).heap[k]? :=Nc _ r2
 have asW:W.heap.size<=(((W.setCell ⟨k1,0,none⟩ (.slice none 0 0)).setCell ⟨k2,0,none⟩ (.int .i64 e)).drew).heap.size:=by
  show W.heap.size<=((W.setCell ⟨k1,0,none⟩ (.slice none 0 0)).setCell ⟨k2,0,none⟩ (.int .i64 e)).heap.size
  unfold World.setCell;simp only[Array.size_modify];exact Nat.le_refl _
 have afN:(((W.setCell ⟨k1,0,none⟩ (.slice none 0 0)).setCell ⟨k2,0,none⟩ (.int .i64 e)).drew).os=w.os/\(((W.setCell ⟨k1,0,none⟩ (.slice none 0 0)).setCell ⟨k2,0,none⟩ (.int .i64 e)).drew).tape=w.tape/\(((W.setCell ⟨k1,0,none⟩ (.slice none 0 0)).setCell ⟨k2,0,none⟩ (.int .i64 e)).drew).output=w.output:=⟨hWo.1,hWo.2.1,hWo.2.2.1⟩;generalize ((W.setCell ⟨k1,0,none⟩ (.slice none 0 0)).setCell ⟨k2,0,none⟩ (.int .i64 e)).drew=w4 at r' asW afN⊢;have d1:w4.cell? ⟨k1,0,none⟩=some (.slice none 0 0):=CZ (ty:=U5) (by rw[r',if_neg py.1,r,if_pos rfl]);have d2:w4.cell? ⟨k2,0,none⟩=some (I e):=CZ (ty:=Om) (by rw[r',if_pos rfl]);have asX:aJ.Outside [k1,k2] w w4:=by
  refine⟨afN.1,afN.2.1,afN.2.2,?_,λk hl hk=>?_⟩
  ·omega
  ·simp only[List.mem_cons,dI,or_false,not_or] at hk;rw[r',if_neg hk.2,r,if_neg hk.1];exact hW k zQ
 obtain⟨e',AY,hRe⟩:=hR _ _ (hRP w4 asX);have he:e=e':=by simpa [wh] using AY
 subst he;simp only[Exit.inBlock];refine⟨rfl,.panicking [{ v:=.iface 291 (.agg #[I e]),recovered:=true }],rfl,.tuple #[],?_,⟨_,rfl⟩,rfl,_,hRe,λtmps ht=>?_⟩
 ·simp[results,Tryz.results167]
 ·unfold results;rw[amf];simp[ht 0 4 k1 rfl rfl,ht 1 5 k2 rfl rfl,asAddr,eB,U6 d2,ahr d1]
open Go.Maps Go.Shelf
attribute [local irreducible] un jn jg iN ld1 tW st1 mG lN pB sH pT J6 Fc gR ru aX lW lP eW eV eU eC eF gE np fin ix cj eP vS OA J7 J9 Ka Kb Kc OB OC Kd OD Gz GA Ke Kf Kg OE OF Kh
def runM:List ju->List gK->GW->Except Int (List gK×GW)
 |[],s,wr=>.ok (s,wr)
 |o::r,s,wr=>match uW o s wr with
  | .ok (s',oU)=>runM r s' oU
  | .error e=>.error e
def FP (wr:GW):List KV:=(fQ (wr.map (·.1))).map λk=>⟨k,(getM k wr).getD .zero⟩
theorem akf {c:Int} {a b:gK} {l:List gK} (h:zJ c a b= .ok l):l.length=if c=15 then 2 else 1:=by
 unfold zJ at h;split at h
 ·cases h;rename_i e;rw[if_neg zQ];rfl
 ·split at h
  ·cases h;rename_i e;rw[if_neg zQ];rfl
  ·split at h
   ·cases h;rename_i e;rw[if_pos e];rfl
   ·split at h
    ·cases h
    ·cases h;rename_i e _;rw[if_neg e];rfl
variable {wr oU : GW} {s s' : List gK} {o : ju}
theorem amg (h:uW o s wr= .ok (s',oU)) (hc:1<=o.code/\o.code<=15) (hg:o.code≠1) (ht:tV o.code<=s.length):(s'.length:Int)=s.length+(B7 o.code-tV o.code):=by
 have h1:tV o.code=if o.code=3\/o.code=4 then 0 else if o.code=2\/o.code=13\/o.code=14 then 1 else 2:=by
  unfold tV;rw[if_neg zQ];by_cases q:o.code=3\/o.code=4
  ·rw[if_pos zQ,if_pos q]
  ·rw[if_neg zQ,if_neg q]
 have h2:B7 o.code=if o.code=2\/o.code=3\/o.code=13 then 0 else if o.code=14\/o.code=15 then 2 else 1:=by unfold B7;rw[if_neg zQ]
 unfold uW at h;split at h
 ·rename_i e;cases h;rw[if_neg zQ,if_pos zQ] at h1;rw[if_pos zQ] at h2;rw[rl];omega
 ·split at h
  ·rename_i e;cases h;rw[if_pos zQ] at h1;rw[if_pos zQ] at h2;omega
  ·split at h
   ·rename_i e;cases h;rw[if_pos zQ] at h1;rw[if_neg zQ,if_neg zQ] at h2;rw[aM];omega
   ·split at h
    ·rename_i e;split at h
     ·cases h;rw[if_neg zQ,if_pos zQ] at h1;rw[if_pos zQ] at h2;rw[rl];omega
     ·cases h
    ·split at h
     ·rename_i e;cases h;rw[if_neg zQ,if_pos zQ] at h1;rw[if_neg zQ,if_pos zQ] at h2;rw[aM];omega
     ·split at h
      ·rename_i l hl;cases h;have:=akf hl;rw[if_neg zQ,if_neg zQ] at h1;rw[aa,rl,rl];by_cases e15:o.code=15
       ·rw[if_pos e15] at this;rw[if_neg zQ,if_pos zQ] at h2;omega
       ·rw[if_neg e15] at this;rw[if_neg zQ,if_neg zQ] at h2;omega
      ·cases h
theorem ao8 (h:uW o s wr= .ok (s',oU)):oU=wr\/ ∃v,oU=cI o.key v wr/\(o.code=2\/o.code=3):=by
 unfold uW at h;split at h
 ·rename_i e;cases h;exact .inr ⟨_,rfl,.inl e⟩
 ·split at h
  ·rename_i e;cases h;exact .inr ⟨_,rfl,.inr e⟩
  ·split at h
   ·cases h;exact .inl rfl
   ·split at h
    ·split at h
     ·cases h;exact .inl rfl
     ·cases h
    ·split at h
     ·cases h;exact .inl rfl
     ·split at h
      ·cases h;exact .inl rfl
      ·cases h
theorem afO (h:Gl o (JL o.code)=true) (hc:o.code=2\/o.code=3):o.key.size<=24:=by
 have hn:JL o.code=1:=by unfold JL;rw[if_neg zQ,if_neg zQ,if_pos zQ]
 unfold Gl at h;rw[hn] at h;split at h
 ·cases h
 ·rename_i h1;cases hg:iM o.key with
  |true=>unfold iM at hg;simp at hg;omega
  |false=>exact absurd (.inl ⟨rfl,hg⟩) h1
theorem aa7 {a b:Int} : ∀(p:List ju) (t:List (BA×Int)),t≠[]->p.foldl (kY a b) t≠[]
 |[],t,h=>h
 |o::p,t,h=>by
  rw[iA];refine aa7 p _ ?_;unfold kY;split
  ·cases t with
   |nil=>exact absurd rfl h
   |cons x t=>unfold cI;split<;>simp
  ·exact h
theorem aa8 {a b:Int} : ∀(p:List ju) (t:List (BA×Int)) (o:ju),o∈p->(o.code=a\/o.code=b)->iM o.key=true->p.foldl (kY a b) t≠[]
 |q::p,t,o,hm,hc,hk=>by
  rw[iA];rcases List.mem_cons.1 hm with rfl|hm
  ·refine aa7 p _ ?_;unfold kY;rw[if_pos ⟨hc,hk⟩];cases t with
   |nil=>simp[cI]
   |cons x t=>unfold cI;split<;>simp
  ·exact aa8 p _ o hm hc hk
theorem aht {l:List BA} (h:fQ l=[]):l=[]:=by
 have:=(kL l).length_eq;rw[h] at this;exact List.length_eq_zero_iff.1 this.symm
theorem Nd: ∀{p:List ju} {h:Int},zp p h=0-> ∀o∈p,Gl o (JL o.code)=true/\1<=o.code/\o.code<=15
 |o::p,h,hc,q,hq=>by
  unfold zp at hc;split at hc
  ·omega
  ·rename_i h1;split at hc
   ·omega
   ·rename_i h2;split at hc
    ·omega
    ·split at hc
     ·omega
     ·rcases List.mem_cons.1 hq with rfl|hq
      ·exact⟨by simpa using h2,Classical.not_not.1 h1⟩
      ·exact Nd hc q hq
variable {p : List ju}
theorem ahu {h:Int} (hc:zp p h=0) (hr:fj 1 1 p=[]): ∀o∈p,o.code≠1:=λo ho e=>by
 have hf:=(Nd hc o ho).1;have hk:iM o.key=true:=by
  unfold Gl at hf;rw[e] at hf;have:JL 1=1:=by decide
  rw[this] at hf;split at hf
  ·cases hf
  ·rename_i h1;cases hg:iM o.key with
   |true=>rfl
   |false=>exact absurd (.inl ⟨rfl,hg⟩) h1
 have h2:=aht hr;rw[List.map_eq_nil_iff] at h2;exact aa8 p [] o ho (.inl e) hk h2
variable {N : Value -> Prop} {t : GW} {mb : Nat} {X : XS}
theorem aa9 {k:BA} (h:dL w X nX mb aP nv t) (n:N ((getM k t).getD .zero).v):aX pg X w (Instr.lookup 287 (.map (some mb)) (.string k) false) N:=by
 refine mZ (kt:=9) (et:=97) (kv:=aP) gK.zero.v h yF kQ kQ (λv a hg hv=>?_) (λhg=>?_)
 ·simp only[nv] at hv;subst hv;rw[hg] at n;exact n
 ·rw[hg] at n;exact n
variable {cs : List Value} {f : FuncId} {a : Value}
theorem Qy {xs:List fc} {p:fc->Bool} (ha:Sl w X 7 a (xs.map fc.l)) (hX: ∀k,X k->k<w.heap.size) (hf:enters pg f=true)
  (hp: ∀x,Ct pg f ((.agg x.l.toArray)::cs).toArray w X nX λv _ _=>v=B (p x)):
  Ct pg 232 #[a,.func (.func f) #[] cs.toArray] w X nX λv _ _=>v=I (idxOf p xs):=by
 intro w0 hk;replace ha:=ha.mv hk.cd;replace hp:=λx=>((hp x).kp hk).bN λk hx=>aw (hX k hx) hk.size;have kV:=ha.gN;refine vZ.1 λhs=>?_;repeat' refine ao ?_;intros
 refine eI (λn a w X=> ∃i:Nat,a=I (i:Nat)/\n=(xs).length-i/\i<=(xs).length/\ai (bN w0) w0 X w/\(∀(j:Nat) x,j<i->xs[j]? =some x->p x=false)) (xs).length ⟨0,rfl,rfl,aq _,hs,by simp⟩ ?_;rintro n a w X ⟨i,rfl,rfl,hi,hs,hw⟩;rcases dD (xs) i with⟨cx,x,hx,hd⟩|⟨dA,hd⟩
 ·repeat' first|refine aL ?_;intros|(refine qr ?_;intro wa hk;(rw[CG hw hx ‹_›]))|((with_reducible refine dS ((xs).length-(i+1)) ?_ ?_);omega;exact⟨i+1,by simp,rfl,by omega,hs,λj y hj hy=>by rcases Nat.lt_succ_iff_lt_or_eq.1 hj with h|h;exact hw j y h hy;subst h;rw[hx] at hy;cases hy;assumption⟩)|(refine H6 ((hp x).since hs) hf hs.has ?_ ?_<;>(intro _ w X ay;replace hs:=hs.trans ay))
 ·repeat' first|refine aL ?_;intros|(refine qr ?_;intro wa hk;(rw[yS λj x hj hx=>hw j x zQ hx]))
theorem aba {k:BA} (h:aI w X b [.string k] 9) (x:fc):Ct pg 233 ((.agg x.l.toArray)::[ptr b 0]).toArray w X nX λv _ _=>v=B (decide (x.key=k)):=by
 intro w0 hk;replace h:=h.mv hk.cd;have hs:=ai.init w0;refine Sk.1 λ_=>?_;repeat' first|refine ao ?_;intros|refine cP ?_ ?_<;>intros|(refine qr ?_;intro wa hk;(congr 1;simp_all))
theorem Hv {α:Type} {p:α->Bool} {l:List α} :(idxOf p l= -1/\ ∀x∈l,p x=false)\/ ∃(i:Nat) (x:α),l[i]? =some x/\p x=true/\idxOf p l=i:=by
 by_cases h: ∀(k:Nat) x,k<l.length->l[k]? =some x->p x=false
 ·exact .inl ⟨yS h,λx hx=>by obtain⟨k,hk,e⟩:=List.getElem_of_mem hx;exact h k x hk (by rw[List.getElem?_eq_getElem hk,e])⟩
 ·right;have key: ∀n,(∃(i:Nat) (x:α),i<n/\l[i]? =some x/\p x=true)-> ∃(i:Nat) (x:α),l[i]? =some x/\p x=true/\ ∀k y,k<i->l[k]? =some y->p y=false:=λn=>by
   induction n with
   |zero=>rintro⟨i,_,hi,_⟩;omega
   |succ n ih=>
    rintro⟨i,x,hi,hx,hp⟩;by_cases h2: ∃(i:Nat) (x:α),i<n/\l[i]? =some x/\p x=true
    ·exact ih h2
    ·refine⟨i,x,hx,hp,λk y hk hy=>?_⟩;cases hpy:p y with
     |false=>rfl
     |true=>exact absurd ⟨k,y,by omega,hy,hpy⟩ h2
  have h3: ∃(i:Nat) (x:α),i<l.length/\l[i]? =some x/\p x=true:=Classical.byContradiction λhn=>h λk x hk hx=>by
   cases hpx:p x with
   |false=>rfl
   |true=>exact absurd ⟨k,x,hk,hx,hpx⟩ hn
  obtain⟨i,x,hx,hp,hm⟩:=key _ h3;exact⟨i,x,hx,hp,CG hm hx hp⟩
variable {sn : List fc}
theorem acm {b:Value} {ks:List BA} (ha:Sl w X 1 a (ks.map S1)) (hb:Sl w X 7 b (sn.map fc.l)):
  Ct pg 166 #[a,b] w X nX λv wa w'=> ∃e vm,v= .tuple #[vm,I e]/\(ks=[]->e=0)/\(e=0-> ∃sb sd,vm= .map (some sb)/\dL w' (made wa w') nX sb aP nv sd):=by
 obtain⟨bb,bn,bc,rfl⟩:=hb.form;intro w0 hk;replace ha:=ha.mv hk.cd;replace hb:=hb.mv hk.cd;have kV:=ha.gN;have hs:=ai.init w0;refine aae.1 λ_=>?_;refine rA (kv:=λk:BA=>aP k) nv nX hs.has λmb w1 X1 hmb ay qy=>?_;have bA:=hs.trans ay;have rT:=ha.mv bA.mv;have hF:FX nX (bN w0) w0:=λk ah=>ah.elim;have eh:Ft w0 nX w1 X1 (· =mb):=((hF.ft (Kp.refl _ _)).since ay).more λk e=>.inr ⟨by rw[e];exact qy.x.1,by rw[e];exact hmb⟩;clear hs bA;have hs:=ai.fK eh.s.has;repeat' refine ao ?_;intros
 refine gO (λn a b w X=> ∃(i:Nat) (bad:Bool) (sd:List (BA×gK)),a=I i/\b=B bad/\n=ks.length-i/\i<=ks.length/\(ks=[]->bad=false)/\Ft w0 nX w X (· =mb)/\dL w (· =mb) nX mb aP nv sd) ks.length ⟨0,_,[],rfl,rfl,rfl,aq _,λ_=>rfl,eh,me qy rfl⟩ ?_;clear hs eh ay qy rT;rintro n _ _ w X ⟨i,bad,sd,rfl,rfl,rfl,hi,pR,hT,hm⟩;have hs:=hT.DO;have xn:=hb.mv hs.mv;rcases dD (ks) i with⟨cx,y,hx,hd⟩|⟨dA,hd⟩
 ·have bU:ks≠[]:=λe=>by rw[e] at hx;simp at hx
  repeat' refine aL ?_;intros
  refine ajH (z:=.string ⟨#[]⟩) hs.has kQ rfl λbx w1 X1 fY ay br=>?_;have eh:Ft w0 nX w1 X1 (λk=>k=mb\/k=bx):=(hT.since ay).more λk e=>e.imp id λe=>⟨by rw[e];exact br.1,by rw[e];have:=hT.s.kp.size;omega⟩;refine pW (o:=0) br zQ kQ sQ rfl eh.s.has λw2 X2 c2 jI=>?_;have cX:Ft w0 nX w2 X2 (λk=>k=mb\/k=bx):=eh.ea c2 (λk e=>.inr e) λk e=>.inl e;have ao9:aI w2 X2 bx [.string y] 9:=jI;have rC:dL w2 (· =mb) nX mb aP nv sd:=hm.mv kI (λk ah hl=>⟨ah,(c2.block k (ay.sub k (by rw[ah];exact hT.bo _ rfl)) (by have:=hm.x.2;omega)).trans (ay.kp.block k (by rw[ah];exact hT.bo _ rfl))⟩) λ_ h=>h.elim;have PG:=hb.mv cX.DO.mv;clear hs ay hm hT xn eh br jI c2;have hs:=ai.fK cX.s.has;repeat' refine ao ?_;intros
  refine dZ (Qy (p:=λx=>decide (x.key=y)) PG cX.s.has kQ (aba ao9)) kQ hs.has λw3 X3 dm=>?_;have dX:=cX.since dm;have qx:=rC.mv kI (dm.gW λk (ah:k=mb)=>by rw[ah];exact cX.bo _ (.inl rfl)) (A':=nX) λ_ h=>h.elim;have aq7:=PG.mv dm.mv;clear hs;have hs:=ai.fK dm.has;rcases Hv (p:=λx:fc=>decide (x.key=y)) (l:=sn)with⟨e,_⟩|⟨j,z,hz,hpz,e⟩
  ·rw[e];repeat' refine aL ?_;intros
   exact dX.fin λwa aK=>⟨_,_,rfl,λh=>absurd h bU,λh=>absurd h dQ⟩
  ·rw[e];have Nn:=ao9.since dm;have M8: ∀{w4:World} {X4:XS},ai X3 w3 X4 w4-> ∀{K:World->XS->Prop},(∀w5 X5,Ft w0 nX w5 X5 (· =mb)->dL w5 (· =mb) nX mb aP nv (cI y z.val sd)->K w5 X5)->
     eU pg (vi nX w0 λv w'=>(λv wa w'=> ∃e vm,v= .tuple #[vm,I e]/\(ks=[]->e=0)/\(e=0-> ∃sb sd,vm= .map (some sb)/\dL w' (made wa w') nX sb aP nv sd)) v w0 w') X4 w4 true (Instr.mapUpdate 287 (.map (some mb)) (.string y) z.val.v) (λ_=>K):=λ{w4} {X4} fV {K} hK=>by
    have fP:=dX.since fV;have A6:=qx.mv kI (fV.gW λk (ah:k=mb)=>by rw[ah];exact dX.bo _ (.inl rfl)) (A':=nX) λ_ h=>h.elim;refine vK (kv:=aP) (k:=y) (a:=z.val) (kt:=9) (et:=97) (me A6 (fP.bo _ (.inl rfl))) kI rfl (λ_ h=>h.elim) yF kQ fP.s.has λw5 X5 c5 xV=>?_;exact hK _ _ (fP.ea (F':=(· =mb)) c5 (λk ah=>.inl ah) λk ah=>.inl (.inl ah)) (me xV rfl)
   have nD: ∀{w5:World} {X5:XS} {b2:Bool},Ft w0 nX w5 X5 (· =mb)->dL w5 (· =mb) nX mb aP nv (cI y z.val sd)->GA (J2 λn a b w X=> ∃(i:Nat) (bad:Bool) (sd:List (BA×gK)),a=I i/\b=B bad/\n=ks.length-i/\i<=ks.length/\(ks=[]->bad=false)/\Ft w0 nX w X (· =mb)/\dL w (· =mb) nX mb aP nv sd) (ks.length-i) (I ((i+1:Nat):Int)) (B b2) w5 X5:=λiO xV=>
    fZ (ks.length-(i+1)) zQ ⟨i+1,_,_,rfl,rfl,rfl,by omega,λe=>absurd e bU,iO,xV⟩
   have Rg:(i:Int)+1=((i+1:Nat):Int):=by simp
   cases bad
   ·repeat' first|refine aL ?_;intros|with_reducible apply cJ|(refine kn (mu _) hs ?_ ?_<;>intro _ w X hs)
    all_goals
     refine M8 hs λw5 X5 iO xV=>?_;clear hs;have hs:=iO.DO;repeat' first|refine ao ?_;intros|(rw[Rg];exact nD iO xV)
   ·repeat' first|refine aL ?_;intros|with_reducible apply cJ
    refine M8 (ai.fK dX.s.has) λw5 X5 iO xV=>?_;clear hs;have hs:=iO.DO;repeat' first|refine ao ?_;intros|(rw[Rg];exact nD iO xV)
 ·cases bad
  ·repeat' refine aL ?_;intros
   exact hT.fin λwa aK=>⟨_,_,rfl,λ_=>rfl,λ_=>⟨mb,sd,rfl,hm.mv kI (λk (ah:k=mb) hl=>by subst ah;exact⟨⟨hmb,aw hl aK.size⟩,aK.block _ (hT.bo _ rfl)⟩) λ_ h=>h.elim⟩⟩
  ·repeat' refine aL ?_;intros
   exact hT.fin λwa aK=>⟨_,_,rfl,λe=>absurd (pR e) dQ,λh=>absurd h dQ⟩
structure cD.small (m:cD):Prop where
 seen:m.seen.length<=2^40
 writes:m.writes.length<=2^40
 aY: ∀r∈m.aY,r.small
 enc: ∀r∈m.aY,r.err=0->(gd r).length<=2^33
 state:m.state.small
def cD.Nx (m:cD):Bool:=m.aH.may&&wJ m.range&&(
 if m.kind=1 then decide (m.iF>=0)&&m.aV.may&&yX m.keys&&decide ((m.keys.length:Int)>0)
 else if m.kind=2 then codeOk m.code (IL m.seen&&decide ((m.seen.length:Int)>0)) m.ranges&&m.aV.may&&(decide (m.code=0)||decide ((m.seen.length:Int)=0))
 else if m.kind=3 then decide (m.iF>=0)&&m.aV.may&&IL m.seen&&MS m.writes&&yU m.parts&&NT m.parts m.range
 else if m.kind=4 then codeOk m.code true m.ranges&&m.aV.may
 else if m.kind=5 then(if m.jK then m.aV.may&&decide (m.aV≠ .zero)else decide (m.aV= .zero))
 else true)
variable {vc vd vh vk vp vr vs vw : Value} {m : cD}
theorem abb (h:m.at w X vk vs vw vp vr vc vh vd) (ml:m.small):
  Ct pg 149 #[m.v vk vs vw vp vr vc vh vd] w X nX λv _ _=>v=B m.Nx:=by
 intro w0 hk;replace h:=h.mv hk.cd;obtain⟨h1,h2,h3,h4,h5,h6,h7,h8⟩:=h;obtain⟨b1,n1,c1,rfl⟩:=h1.form;obtain⟨b2,n2,c2,rfl⟩:=h2.form;obtain⟨b3,n3,c3,rfl⟩:=h3.form;obtain⟨b4,n4,c4,rfl⟩:=h4.form;obtain⟨b5,n5,c5,rfl⟩:=h5.form;refine Wh.1 λhs=>?_;repeat' first|refine ao ?_;intros|refine cP ?_ ?_<;>intros|(with_reducible refine Gf _ ?_ ?_ ?_);(· kernel_rfl);all_goals intros|(with_reducible refine ag1 _ ?_ ?_ ?_);(· kernel_rfl);all_goals intros|with_reducible apply cJ|(refine kn (pO _) hs ?_ ?_<;>intro _ w X hs)|(refine kn (Ef _) hs ?_ ?_<;>intro _ w X hs)|(refine kn (Eb _) hs ?_ ?_<;>intro _ w X hs)|(refine qv (HQ  qA) hs ?_ ?_<;>intro _ w X hs)|(refine qv (acj  qA ml.seen) hs ?_ ?_<;>intro _ w X hs)|(refine qv (Uc  qA ml.writes) hs ?_ ?_<;>intro _ w X hs)|(refine qv (MT  qA) hs ?_ ?_<;>intro _ w X hs)|(refine qv (afG  qA) hs ?_ ?_<;>intro _ w X hs)|(refine qv ((ack (xs:=m.ranges))  qA) hs ?_ ?_<;>intro _ w X hs)
 all_goals
  (with_reducible refine bQ hs ?_)
  intro wa aK;unfold cD.Nx;repeat (first|rw[if_pos zQ]|rw[if_neg zQ])
  simp_all [wJ]<;>first|omega|(rename_i z9;intro e9;simp[e9] at z9;done)|(intro e9;simp_all;done)|grind
def cD.ql (m:cD):Bool:=
 if 1<=m.kind/\m.kind<=7 then m.Nx
 else if m.kind=8 then wJ m.range&&decide (m.n>=1)&&decide (m.mx>=0)&&decide (m.mx<=8)&&m.aV.may
 else if m.kind=9 then wJ m.range&&decide (m.n>=1)&&NU m.aY
 else if m.kind=10 then wJ m.range&&m.state.may&&decide (m.state.range.id=m.range)
 else if m.kind=11 then wJ m.range
 else if m.kind=12 then NP m.prev m.aV m.aH m.writes
 else if m.kind=14 then m.aV.may
 else true
theorem Ud (h:m.at w X vk vs vw vp vr vc vh vd) (ml:m.small):
  Ct pg 99 #[m.v vk vs vw vp vr vc vh vd] w X nX λv _ _=>v=B m.ql:=by
 intro w0 hk;replace h:=h.mv hk.cd;obtain⟨h1,h2,h3,h4,h5,h6,h7,h8⟩:=id h;obtain⟨b3,n3,c3,rfl⟩:=h3.form;refine TF.1 λhs=>?_;repeat' first|refine ao ?_;intros|refine cP ?_ ?_<;>intros|with_reducible apply cJ|(refine kn (pO _) hs ?_ ?_<;>intro _ w X hs)|(refine kn (Ef _) hs ?_ ?_<;>intro _ w X hs)|(refine qv ((abb (m:=m))  (h.mv (ai.mv hs)) ml) hs ?_ ?_<;>intro _ w X hs)|(refine qv ((aa3 (xs:=m.aY))  (fh.mv h6 Rec.mv (ai.mv hs)) ml.aY ml.enc) hs ?_ ?_<;>intro _ w X hs)|(refine qv (Ha  (s:=m.state) qA qA ml.state) hs ?_ ?_<;>intro _ w X hs)|(refine qv ((M3 (l:=m.writes))  qA ml.writes) hs ?_ ?_<;>intro _ w X hs)
 all_goals
  (with_reducible refine bQ hs ?_)
  intro wa aK;unfold cD.ql;repeat (first|rw[if_pos zQ]|rw[if_neg zQ])
  try (simp_all [wJ]<;>first|omega|grind)
def cD.isZero (m:cD):Bool:=decide (m.aH= .zero)&&decide (m.range=0)&&decide (m.iF=0)&&decide (m.code=0)&&decide (m.aV= .zero)&&decide (m.prev= .zero)&&!m.jK&&decide (m.n=0)&&decide (m.mx=0)&&
 m.state.isZero&&decide ((m.keys.length:Int)+m.seen.length+m.writes.length+m.parts.length+m.ranges.length+m.aY.length=0)
theorem abc (h:m.at w X vk vs vw vp vr vc vh vd) (BD:m.keys.length+m.seen.length+m.writes.length+m.parts.length+m.ranges.length+m.aY.length<=2^62):
  Ct pg 98 #[m.v vk vs vw vp vr vc vh vd] w X nX λv _ _=>v=B m.isZero:=by
 intro w0 hk;replace h:=h.mv hk.cd;obtain⟨h1,h2,h3,h4,h5,h6,h7,h8⟩:=h;have o7:=h7.one;have o8:=h8.one;refine aaa.1 λhs=>?_;cases hc:m.jK<;>
 repeat' first|refine ao ?_;intros|refine cP ?_ ?_<;>intros|(with_reducible refine Gf _ ?_ ?_ ?_);(· kernel_rfl);all_goals intros|(with_reducible refine ag2 _ ?_ ?_ ?_);(· kernel_rfl);all_goals intros|with_reducible apply cJ|(refine qr ?_;intro wa hk;(simp_all [cD.isZero,State.isZero,eY.ext_iff]<;>omega))|((with_reducible refine DJ (AR _) hs.has ?_);intro w X ay;replace hs:=hs.trans ay)
def cD.strip (m:cD):cD×Bool:=
 if m.kind=1 then({ m with aH:=.zero,range:=0,iF:=0,aV:=.zero,keys:=[] },true)
 else if m.kind=2 then({ m with aH:=.zero,range:=0,code:=0,aV:=.zero,seen:=[],ranges:=[] },true)
 else if m.kind=3 then({ m with aH:=.zero,range:=0,iF:=0,aV:=.zero,seen:=[],writes:=[],parts:=[] },true)
 else if m.kind=4 then({ m with aH:=.zero,range:=0,code:=0,aV:=.zero,ranges:=[] },true)
 else if m.kind=5 then({ m with aH:=.zero,range:=0,jK:=false,aV:=.zero },true)
 else if m.kind=6\/m.kind=7 then({ m with aH:=.zero,range:=0 },true)
 else if m.kind=8 then({ m with range:=0,n:=0,mx:=0,aV:=.zero },true)
 else if m.kind=9 then({ m with range:=0,n:=0,aY:=[] },true)
 else if m.kind=10 then({ m with range:=0,state:=.zero },true)
 else if m.kind=11 then({ m with range:=0 },true)
 else if m.kind=12 then({ m with prev:=.zero,aV:=.zero,aH:=.zero,writes:=[] },true)
 else if m.kind=13 then(m,true)
 else if m.kind=14 then({ m with aV:=.zero },true)
 else(m,false)
theorem SO (h:m.at w X vk vs vw vp vr vc vh vd):
  Ct pg 96 #[m.v vk vs vw vp vr vc vh vd] w X nX λv wa w'=> ∃H5 xk iR Kr vr' vc' vh' vd',v= .tuple #[m.strip.1.v H5 xk iR Kr vr' vc' vh' vd',B m.strip.2]/\
   m.strip.1.at w X H5 xk iR Kr vr' vc' vh' vd':=by
 intro w0 hk;obtain⟨h1,h2,h3,h4,h5,h6,h7,h8⟩:=h;have o1:=h1.one;have o2:=h2.one;have o3:=h3.one;have o4:=h4.one;have o5:=h5.one;have o6:=h6.one;have o7:=h7.one;have o8:=h8.one;refine Se.1 λhs=>?_;have n1:Sl w X 1 (.slice none 0 0) (([]:List BA).map S1):=Sl.nil _ _ _;have n2:Sl w X 7 (.slice none 0 0) (([]:List fc).map fc.l):=Sl.nil _ _ _;have n4:Sl w X 1 (.slice none 0 0) (([]:List Int).map I1):=Sl.nil _ _ _;have n5:Sl w X 4 (.slice none 0 0) (([]:List eY).map eY.l):=Sl.nil _ _ _;have n6:fh w X 29 (.slice none 0 0) Rec.rd []:=fh.nil _ _ _;have n7:qL w X (.slice none 0 0) []:=fh.nil _ _ _;have n8:qK w X (.slice none 0 0) []:=fh.nil _ _ _;repeat' first|refine ao ?_;intros|refine cP ?_ ?_<;>intros|with_reducible apply cJ
 all_goals
  refine bQ hs ?_;intro wa aK;unfold cD.strip;repeat (first|rw[if_pos zQ]|rw[if_neg zQ])
  exact⟨_,_,_,_,_,_,_,_,rfl,by omega,by assumption,by assumption,by assumption,by omega,by assumption,by assumption,by assumption⟩
def cD.err (m:cD):Int:=if !m.strip.2 then 7 else if !SL m.fr||!SL m.to||!m.strip.1.isZero||!m.ql then 4 else 0
def cD.lens (m:cD):Nat:=m.keys.length+m.seen.length+m.writes.length+m.parts.length+m.ranges.length+m.aY.length
theorem akg {c:Prop} [Decidable c] {a b:cD×Bool} {n:Nat} (ha:a.1.lens<=n) (hb:b.1.lens<=n):(if c then a else b).1.lens<=n:=by grind
theorem cD.afP (m:cD):m.strip.1.lens<=m.lens:=by
 unfold cD.strip;repeat' with_reducible apply akg
 all_goals (unfold cD.lens;grind)
theorem abH (h:m.at w X vk vs vw vp vr vc vh vd) (ml:m.small) (BD:m.lens<=2^62):
  Ct pg 53 #[m.v vk vs vw vp vr vc vh vd] w X nX λv _ _=>v=I m.err:=by
 intro w0 hk;have h:=h.mv hk.cd;have asY:=Nat.le_trans m.afP BD;refine abR.1 λhs=>?_;refine cA (SO h) kQ hs.has ?_;rintro v wa w X ⟨H5,xk,iR,Kr,vr',vc',vh',vd',rfl,dg⟩ hle gu ay;replace hs:=hs.trans ay;have q1:=dg.1.one;have q2:=dg.2.one;have q3:=dg.3.one;have q4:=dg.4.one;have q5:=dg.5.one;have q6:=dg.6.one;have q7:=dg.7.one;have q8:=dg.8.one;cases hb:m.strip.2<;>
 repeat' first|refine ao ?_;intros|with_reducible apply cJ|(refine kn (aci _) hs ?_ ?_<;>intro _ w X hs)|(refine qr ?_;intro wa hk;(simp[cD.err, *]))|(refine qv ((abc (m:=m.strip.1))  (dg.mv (ai.mv (by first|assumption|exact ai.trans aQ aQ))) asY) hs ?_ ?_<;>intro _ w X hs)|(refine qv ((Ud (m:=m))  (h.mv (ai.mv hs)) ml) hs ?_ ?_<;>intro _ w X hs)
variable {xo yo : Operand} {P : Program}
theorem amh {t:TypeId} {a:Bool} (ht:P.underlying t=some .bool) (k:N (.bool false)):aX P X w (eP .neq t xo yo (.bool a) (.bool a)) N:=by
 refine bB (λwa=>?_) k;simp[eP,eqGuard,run_neq_bool wa t a a ht]
theorem ami {t:TypeId} {a b:Bool} (ht:P.underlying t=some .bool) (h:a≠b) (k:N (.bool true)):aX P X w (eP .neq t xo yo (.bool a) (.bool b)) N:=by
 refine bB (λwa=>?_) k;have:(a==b)=false:=by cases a<;>cases b<;>simp_all
 simp[eP,eqGuard,run_neq_bool wa t a b ht,this]
theorem Qz {xs:List cD} {p:cD->Bool} (ha:fh w X 36 a cD.rd xs) (hX: ∀k,X k->k<w.heap.size) (hf:enters pg f=true)
  (hp: ∀(x:cD) vk vs vw vp vr vc vh vd,aJ.one vk=true->aJ.one vs=true->aJ.one vw=true->aJ.one vp=true->aJ.one vr=true->aJ.one vc=true->aJ.one vh=true->aJ.one vd=true->Ct pg f ((x.v vk vs vw vp vr vc vh vd)::cs).toArray w X nX λv _ _=>v=B (p x)):
  Ct pg 225 #[a,.func (.func f) #[] cs.toArray] w X nX λv _ _=>v=I (idxOf p xs):=by
 intro w0 hk;replace ha:=fh.mv ha cD.mv hk.cd;replace hp:=λ(x:cD) vk vs vw vp vr vc vh vd h1 h2 h3 h4 h5 h6 h7 h8=>((hp x vk vs vw vp vr vc vh vd h1 h2 h3 h4 h5 h6 h7 h8).kp hk).bN λk hx=>aw (hX k hx) hk.size;have kV:=ha.len;refine wV.1 λhs=>?_;repeat' refine ao ?_;intros
 refine eI (λn a w X=> ∃i:Nat,a=I (i:Nat)/\n=(xs).length-i/\i<=(xs).length/\ai (bN w0) w0 X w/\(∀(j:Nat) x,j<i->xs[j]? =some x->p x=false)) (xs).length ⟨0,rfl,rfl,aq _,hs,by simp⟩ ?_;rintro n a w X ⟨i,rfl,rfl,hi,hs,hw⟩;rcases dD (xs) i with⟨cx,x,hx,hd⟩|⟨dA,hd⟩
 ·have rT:=fh.mv ha cD.mv hs.mv;repeat' refine aL ?_;intros
  refine GC rT hx rfl kQ kQ λbb oo ll hc jB=>?_;obtain⟨vk,vs,vw,vp,vr,vc,vh,vd,rfl,dg⟩:=jB;have q1:=dg.keys.one;have q2:=dg.seen.one;have q3:=dg.writes.one;have q4:=dg.parts.one;have q5:=dg.ranges.one;have q6:=dg.aY.one;have q7:=dg.iG.one;repeat' refine ao ?_;intros
  refine H6 ((hp x vk vs vw vp vr vc vh vd q1 q2 q3 q4 q5 q6 q7 dg.ib.one).since hs) hf hs.has (λhb w2 X2 bA=>?_) (λhb w2 X2 bA=>?_)
  ·repeat' refine ao ?_;intros
   exact bQ (hs.trans bA) λ_ _=>by rw[CG hw hx hb]
  ·repeat' refine ao ?_;intros
   exact dS (xs.length-(i+1)) zQ ⟨i+1,by simp,rfl,by omega,hs.trans bA,λj y hj hy=>by rcases Nat.lt_succ_iff_lt_or_eq.1 hj with h|h;exact hw j y h hy;subst h;rw[hx] at hy;cases hy;exact hb⟩
 ·repeat' first|refine ao ?_;intros|refine cP ?_ ?_<;>intros|(refine qr ?_;intro wa hk;(rw[yS λj x hj hx=>hw j x zQ hx]))|(exfalso;omega)
theorem ahv {c t:bX} (h:c.may=true) (ht:t.may=true):(c.later ⟨t.wall,t.dx,c.node⟩).may=true:=by
 unfold bX.later;split
 ·simp only[bX.may,Bool.and_eq_true,decide_eq_true_eq] at h ht⊢;(try simp only);omega
 ·exact h
variable {w' : World} {X' : XS} {n : bh} {id : Int}
section
variable {wa w0 : World} {own aG bK : Nat -> Nat} {n' : bh} {x : AcV} {ws : List cD}
theorem abd (h:aI w X b [I id] 3):
  Ct pg 226 #[m.v vk vs vw vp vr vc vh vd,ptr b 0] w X nX λv _ _=>v=B (decide (m.range=id)):=by
 intro w0 hk;replace h:=h.mv hk.cd;refine Ea.1 λhs=>?_;repeat' first|refine ao ?_;intros|refine cP ?_ ?_<;>intros|(refine qr ?_;intro wa hk;(simp[*]))
theorem Gm (ha:aI w X b (Ki x vw) aT) (hw:fh w X 36 vw cD.rd ws):Ct pg 153 #[ptr b 0,I id] w X nX λv _ _=>v=I (idxOf (λm=>decide (m.range=id)) ws):=by
 intro w0 hk;replace ha:=ha.mv hk.cd;replace hw:=fh.mv hw cD.mv hk.cd;have o1:=hw.one;have hs:=ai.init w0;refine Gn.1 λ_=>?_;repeat' first|refine ao ?_;intros|(refine q1x hs ?_;intro bx w X fY ay gn hs br)
 refine dZ (Qz (cs:=[ptr bx 0]) (p:=λm=>decide (m.range=id)) (fh.mv hw cD.mv gn.mv) hs.has kQ λx vk vs vw vp vr vc vh vd _ _ _ _ _ _ _ _=>abd br) kQ hs.has λw2 X2 bA=>?_;exact bQ (gn.trans bA) λ_ _=>rfl
def _root_.Go.aJ.St.wts (s:Sn w0 bK w X own n) (hb:n.gx b):fh w X 36 (n.A b).vw cD.rd (n.A b).ws:=
 have⟨_,h2,_,h4,_⟩:=s.h.act hb
 ⟨_,h2.sl.mono (s.sub _ iy.1),h4.1,λi l m h1 h2=>cD.mv (h4.2 i l m h1 h2) (Mv.sub (s.sub 4))⟩
theorem Ra (hp:n.pre=false):n.Ek=ptr n.c.cb 0:=by unfold bh.Ek;rw[hp];rfl
theorem H8 {e':List Nat} (h: ∀b∈e',b∈n.ex): ∀c,c≠0->c≠4-> ∀w K A,(dV n c).p w K A->(dV { n with ex:=e' } c).p w K A:=λc h0 _=>nO (Q:=λc=>c≠0) (n':= { n with ex:=e' }) (λb i hi _ w K A p=>by
 have q:({ n with ex:=e' } :bh).gx b->n.gx b:=.imp id (h b);rcases i with _|_|_|_|_|_|_|_|i<;>first|exact λha=>p (q ha)|exact p) (λi _ _ w K A p=>by rcases i with _|_|_|_|_|_|_|_|_|_|_|_|_|i<;>exact p) c h0
def An (n:bh) (m:cD) (pp:Bool) (n':bh):Prop:= ∃b fD lZ jh lr,getM m.aH n.al=some b/\(n.A b).x.pre=pp/\m.code≠0/\
 n'= { n with ck:=fD,ds:=m.ranges.foldl iZ n.ds,al:=ji m.aH n.al,vm:=lZ,va:=jh,rm:=lr,ra:=n.ra++[El m.code m.aH .zero false aR],ms:=n.ms++(if pp then(n.A b).ids.map λid=>(Tm m.aH id).qg (20+n.c.id)else []) }
structure GF (n:bh) (m:cD) (pp:Bool) (b i:Nat) (y:cD):Prop where
 g:getM m.aH n.al=some b
 pre:(n.A b).x.pre=pp
 code:m.code=0
 gJ:(n.A b).ws[i]? =some y
 pa:y.range=m.range
def NoW (n:bh) (m:cD) (pp:Bool):Prop:= ∀b i y,¬GF n m pp b i y
def akQ (n:bh) (m:cD) (pp:Bool) (v:Value) (n':bh):Prop:=
 (v= .tuple #[.pointer none,I 0]/\((∃fD,n'= { n with ck:=fD } /\NoW n m pp)\/An n m pp n'))\/
 ∃(b i:Nat) (y:cD) (fD:bX),GF n m pp b i y/\v= .tuple #[ptr b 0,I i]/\n'= { n with ck:=fD }
theorem Ib {iR:Value} {pp:Bool} (h:jD w own n) (hX:rO own X) (hp:n.pre=false) (fO:m.aV.may=true) (It:Sl w (bI own 4) 4 vr (m.ranges.map eY.l)) (hi:1<=n.c.id/\n.c.id<=2) (hl:n.ra.length<=2^20) (hpq: ∀b,getM m.aH n.al=some b->(n.A b).pq=false) (xP: ∀b,getM m.aH n.al=some b->n.rm.length+(n.A b).ids.length<=2^20):
  Ct pg 100 #[ptr n.nb 0,m.v vk vs iR vp vr vc vh vd,B pp] w X (gC own) λv wa w'=>NQ dV own wa w' λ_ n'=>akQ n m pp v n':=by
 intro w0 hk;have s:=St.init h hX hk;replace It:=It.mv (zf hX hk);have hr:=s.v.1;have hs:=s.rf;have no:(∀b i y,¬GF n m pp b i y)->akQ n m pp (.tuple #[.pointer none,I 0]) n:=λh=>.inl ⟨rfl,.inl ⟨n.ck,rfl,h⟩⟩;refine Jq.1 λ_=>?_;repeat' refine ao ?_;intros
 refine mZ (kt:=34) (et:=116) (kv:=λk:bu=>k.v) (k:=m.aH) (.pointer none) (s.Ay 5:) td kQ kQ (λv b lq rN=>?_) (λhn=>?_);case refine_2=>
  repeat' first|refine ao ?_;intros|with_reducible apply cJ
  exact s.fin λ_ _=>no λb i y h=>by rw[h.g] at hn;cases hn
 simp only[zP] at rN;subst rN;have hb:n.gx b:=.inl ⟨_,lq⟩;obtain⟨ha,o1,o2,o3,o4⟩:=s.va hb;have only: ∀{b' i y},GF n m pp b' i y->b'=b:=λh=>by have:=h.g;rw[lq] at this;cases this;rfl
 repeat' refine ao ?_;intros
 by_cases hpp:(n.A b).x.pre=pp;case neg=>
  refine ami kQ hpp ?_;repeat' first|refine ao ?_;intros|with_reducible apply cJ
  exact s.fin λ_ _=>no λb' i y h=>hpp (by have e:=only h;subst e;exact h.pre)
 subst hpp;refine amh kQ ?_;repeat' first|refine ao ?_;intros|with_reducible apply cJ
 refine dZ (Gm (id:=m.range) ha (s.wts hb)) kQ hs.has λw1 X1 ay=>?_;have s1:=s.since ay;replace It:=It.mv (ay.gW (s.sub 4));rcases Hv (p:=λy:cD=>decide (y.range=m.range)) (l:=(n.A b).ws)with⟨e,en⟩|⟨i,y,hy,hpy,e⟩
 ·rw[e];clear hs;repeat' refine aL ?_;intros
  exact s1.fin λ_ _=>no λb' i y h=>by
   have e:=only h;subst e;exact absurd (en y (ax h.gJ)) (by simp[h.pa])
 have hyr:y.range=m.range:=by simpa using hpy
 rw[e];clear hs hr ha s;have hs:=s1.rf;have hr:=s1.v.1;rw[Ra hp] at hr;repeat' refine aL ?_;intros
 have BB:=(show n.pre=false->aI w1 (bI own 7) n.c.cb (Ho n.ck) IY/\n.ck.may=true from s1.get 7) hp;have Rc: ∀k,k=n.c.cb->own k=7:=λk e=>by rw[e];exact BB.1.1
 refine zq (WO (BB.1.mono (s1.sub 7)) fO) kQ s1.has (λk e=>s1.x k (by have:=Rc k e;omega)) λv xQ w2 X2 q2 lD kh _ c2=>?_;obtain⟨_,WV⟩:=q2;obtain⟨lQ,s2,m2⟩:=s1.DY (F':=dV { n with ck:=n.ck.later ⟨m.aV.wall,m.aV.dx,n.ck.node⟩ }) 7 c2 Rc (· =n.c.cb) (λk e=>.inl (Rc k e)) (λK _ _=>⟨WV,ahv BB.2 fO⟩) nO;replace It:=It.mv m2;clear hs hr s1;generalize n.ck.later ⟨m.aV.wall,m.aV.dx,n.ck.node⟩=fD at s2;have hs:=s2.rf;have hr:=s2.v.1;by_cases hcd:m.code=0
 ·repeat' refine aL ?_;intros
  refine dZ (Gm (id:=m.range) (s2.va (b:=b) hb).1 (s2.wts (b:=b) hb)) kQ hs.has λw3 X3 dm=>?_;rw[e];exact(s2.since dm).fin λwa aK=>.inr ⟨b,i,y,fD,⟨lq,rfl,hcd,hy,hyr⟩,rfl,rfl⟩
 repeat' refine aL ?_;intros
 have hd:mz w2 (bI lQ 2) n.c.adK n.mb n.ds:=s2.get 2;refine zq (Pj hd (s2.fxc 2) It λk (e:lQ k=4)=>⟨s2.x k zQ,λe'=>by have:lQ n.mb=2:=hd.map.x.1;rw[e'] at e;omega⟩) kQ s2.has (λk e=>s2.x k (by rw[show k=n.mb from e,show lQ n.mb=2 from hd.map.x.1];decide)) λv zR w3 X3 q3 qS mN _ c3=>?_;obtain⟨nz,s3,m3⟩:=s2.DY (F':=dV { n with ck:=fD,ds:=m.ranges.foldl iZ n.ds }) 2 c3 (λk e=>by rw[show k=n.mb from e];exact hd.map.x.1) (bI lQ 2) (λk e=>.inl e) (λK _=>q3.2) nO;clear hs hr s2;have hs:=s3.rf
 skip
 refine s3.call (Ak (n:= { n with ck:=fD,ds:=_ }) (b:=b) (code:=m.code) s3.h s3.x hb (hpq b lq) hl hi (xP b lq)) kQ λv w4 X4 lR n4 s4 q4 m4=>?_;obtain⟨jh,lZ,lr,rfl,_⟩:=q4;have s5:=s4.to (H8 (e':=n.ex) λ_=>List.mem_cons_of_mem _);clear hs
 skip
 have hk:(n.A b).x.aH=m.aH:=(show∀t b,getM t n.al=some b->(n.A b).x.aH=t from h.gJ 12 dQ dQ) _ _ lq;refine s5.fin λwa aK=>.inl ⟨rfl,.inr ⟨b,fD,lZ,jh,lr,lq,rfl,hcd,?_⟩⟩;rw[<-hk]
end
section
variable {N N' S : XS} {rb sb wb : Nat} {xG oG : Value} {sd : List (BA × gK)}
theorem amj {k:BA} {C:Value->Prop} (h:dL w X nX mb aP nv t) (n: ∀(v:gK) b,C (.tuple #[v.v,.bool b])):aX pg X w (Instr.lookup 287 (.map (some mb)) (.string k) true) C:=by
 refine Ga (kt:=9) (et:=97) (kv:=aP) gK.zero.v h yF kQ kQ (λv a hg hv=>?_) (λhg=>?_)
 ·grind [nv]
 ·exact n _ _
theorem ahw {k:BA} (h:iw w N rb sb wb xG s wr) (hN: ∀k,N k->X k) (hm:dL w X nX sb aP nv sd):Ct pg 235 #[ptr rb 0,.string k] w X nX λv _ _=> ∃x:gK,v=x.v:=by
 intro w0 hk;have br:=(h.row.mono hN).mv hk.cd;have hwm:=(me h.map (hN _ h.map.x.1)).mv kI hk.cd (A':=nX) λ_ h=>h.elim;replace hm:=hm.mv kI hk.cd (A':=nX) λ_ h=>h.elim;have hs:=ai.init w0;refine Sm.1 λ_=>?_;repeat' first|refine ao ?_;intros|refine cP ?_ ?_<;>intros|(refine amj zQ λv b=>?_)|(refine aa9 zQ ?_)|(refine qr ?_;intro wa hk;(exact⟨_,rfl⟩))
def DoQ (o:ju) (N:XS) (rb sb wb:Nat) (s:List gK) (wr:GW) (wa w':World):Prop:= ∃s' oU N' oG,(s'.length:Int)=s.length+(B7 o.code-tV o.code)/\(oU=wr\/ ∃v,oU=cI o.key v wr/\(o.code=2\/o.code=3))/\(o.code≠1->uW o s wr= .ok (s',oU))/\(∀k,N' k->N k\/made wa w' k)/\iw w' N' rb sb wb oG s' oU
theorem ahx (h:iw w N rb sb wb xG s wr) (hN:FX N X w) (hm:dL w X nX sb aP nv sd) (hl:s.length<=2^20) (e1:o.code=1):
  FB pg 168 #[ptr rb 0,.agg o.l.toArray] w X N (λ_ wa w'=>DoQ o N rb sb wb s wr wa w') (λch _ _=> ∃e,ch=wh e/\(o.code≠1->uW o s wr= .error e)):=by
 intro w0 hk;have hT:=hN.ft hk;replace h:=h.mv (hN.mv hk);replace hm:=hm.mv kI hk.cd (A':=nX) λ_ h=>h.elim;have hs:=ai.init w0;refine o9.1 λ_=>?_;repeat' first|refine aL ?_;intros|with_reducible apply cJ
 refine cA (ahw h hT.bo hm) kQ hs.has ?_;rintro _ wa w1 X1 ⟨v,rfl⟩ hle gu ay;have eh:=hT.since ay;have h1:=h.mv (ay.gW λk ah=>hT.bo k ah);refine eh.call (JR (v:=v) h1 (λk ah=>⟨eh.bo k ah,eh.s.has k (eh.bo k ah)⟩) zQ) kQ (λ_ h=>h) λv zS w4 X4 hq tK oV fP c4=>?_;obtain⟨N4,HP,Vw,h4⟩:=hq;have AD:=fP.less Vw;have akl:(B7 o.code-tV o.code:Int)=1:=by rw[e1];decide
 exact AD.yi λwa aK=>⟨_,_,_,_,by grind,.inl rfl,λe=>absurd e1 e,AD.jz aK λ_ h=>h,h4.mv (aK.je AD.bo)⟩
theorem ahy (h:iw w N rb sb wb xG s wr) (hN:FX N X w) (hm:dL w X nX sb aP nv sd) (hl:s.length<=2^20) (hc:1<=o.code/\o.code<=15) (ht:tV o.code<=s.length):
  FB pg 168 #[ptr rb 0,.agg o.l.toArray] w X N (λ_ wa w'=>DoQ o N rb sb wb s wr wa w') (λch _ _=> ∃e,ch=wh e/\(o.code≠1->uW o s wr= .error e)):=by
 by_cases e1:o.code=1
 ·exact ahx h hN hm hl e1
 ·refine(akc h hN hl e1 hc ht).mono (λ_ _ _ _ hq=>?_) λch _ _ _ hq=>?_
  ·obtain⟨s',oU,N',oG,h1,h2,h3⟩:=hq;exact⟨s',oU,N',oG,amg h1 hc e1 ht,ao8 h1,λ_=>h1,h2,h3⟩
  grind
end
def Yb (p:List ju) (e:Int) (wl:List KV):Prop:=fj 1 1 p=[]->ny p=0->match runM p [] [] with
 | .ok (_,wr)=>e=0/\wl=FP wr
 | .error e'=>e=e'
theorem Yb.err (h:fj 1 1 p=[]->ny p=0->runM p [] []= .error e):Yb p e []:=λh1 h2=>by rw[h h1 h2]
def apa (p:List ju) (v:Value) (wa w':World):Prop:= ∃(vl:Value) (wl:List KV) (e:Int),v= .tuple #[vl,I e]/\Sl w' (made wa w') 4 vl (wl.map KV.l)/\wl.length<=40/\(∀x∈wl,x.key.size<=24/\ ∃o∈p,x.key=o.key/\(o.code=2\/o.code=3))/\Yb p e wl
theorem abp {b:Value} (ha:Sl w X 5 a (p.map ju.l)) (hb:Sl w X 7 b (sn.map fc.l)):
  Ct pg 113 #[a,b] w X nX λv wa w'=>apa p v wa w':=by
 intro w0 hk;replace ha:=ha.mv hk.cd;replace hb:=hb.mv hk.cd;have kV:=ha.gN;have hF:FX nX (bN w0) w0:=λk ah=>ah.elim;have hT:=hF.ft (Kp.refl _ _);refine aau.g (RP:=λch w'=> ∃e,ch=wh e/\Fr nX w0 w'/\(fj 1 1 p=[]->ny p=0->runM p [] []= .error e)) kQ (.inl rfl) ake (ahs λch w' ⟨e,h1,h2,h9⟩=>⟨e,h1,_,rfl,h2,?_⟩) ?_
 ·exact⟨_,[],e,rfl,Sl.nil _ _ _,by simp,λx hx=>absurd hx sQ,Yb.err h9⟩
 refine cz ?_;have hs:=ai.init w0;refine dZ (Lx ha) kQ hs.has λw1 X1 ay=>?_;have eh:=hT.since ay;have rT:=ha.since ay;replace hs:=hs.trans ay;by_cases hc:ny p≠0
 ·repeat' refine aL ?_;intros
  exact ac4 (eh.fin λwa aK=>⟨_,[],_,rfl,Sl.nil _ _ _,by simp,λx hx=>absurd hx sQ,Yb.err λ_ h=>absurd h hc⟩)
 ·repeat' refine aL ?_;intros
  have hlen:p.length<=40:=by
   unfold ny at hc;split at hc
   ·exact absurd dQ hc
   ·omega
  have hcf:zp p 0=0:=by
   unfold ny at hc;split at hc
   ·exact absurd dQ hc
   ·split at hc
    ·exact absurd ‹_› hc
    ·omega
  refine cA (Bv rT zQ) kQ hs.has ?_;rintro vr wa w2 X2 ho hle gu bA;have cX:=eh.since bA;have ha2:=rT.since bA;replace hs:=hs.trans bA;refine cA (acm ((ho.mono gu).sl) (hb.mv hs.mv)) kQ hs.has ?_;rintro _ wb w3 X3 ⟨ef,vm,rfl,hf0,hfm⟩ qS mN dm;have dX:=cX.since dm;have ha3:=ha2.since dm;replace hs:=hs.trans dm;by_cases hef:ef=0;case neg=>
   repeat' refine aL ?_;intros
   exact ac4 (dX.fin λwa aK=>⟨_,[],_,rfl,Sl.nil _ _ _,by simp,λx hx=>absurd hx sQ,Yb.err λh=>absurd (hf0 h) hef⟩)
  obtain⟨sb,sd,rfl,abe⟩:=hfm hef;replace abe:=me abe (mN _ abe.x.1);subst hef;have afC:=hs;clear ay bA dm;repeat' refine aL ?_;intros
  refine rA (kv:=aP) nv nX hs.has λmb w4 X4 hmb fV A6=>?_;have fP:=dX.since fV;have ha4:=ha3.since fV;have tY:=hs.trans fV;clear hs;repeat' refine ao ?_;intros
  refine BL tY.has λrb w5 X5 Oy tq br=>?_;have iO:=fP.since tq;have ha5:=ha4.since tq;have xV:=A6.mv kI tq.mv (λ_ h=>h.elim) (A':=nX);have Ls:=tY.kp.size;have h5:iw w5 (λk=>k=rb\/k=mb) rb sb mb (.slice none 0 0) [] []:=⟨⟨.inl rfl,br.2⟩,Own.nil _ _ _ _ _,me xV (.inr rfl)⟩;have apb:Ft w0 nX w5 X5 (λk=>k=rb\/k=mb):=iO.more λk e=>by
   have:=afC.kp.size;rcases e with e|e<;>subst e
   ·exact .inr ⟨br.1,by omega⟩
   ·exact .inr ⟨xV.x.1,by omega⟩
  have hs:=tY.trans tq;clear A6 xV br;have asZ:=(abe.mv kI fV.mv (A':=nX) λ_ h=>h.elim).mv kI tq.mv (A':=nX) λ_ h=>h.elim;have as0: ¬(sb=rb\/sb=mb):=λe=>by
   have h1:=abe.x.2;have:=fV.kp.size;rcases e with e|e<;>omega
  clear fV tq;repeat' refine ao ?_;intros
  refine eI (λn a w X=> ∃(i:Nat) (N:XS) (xG:Value) (s:List gK) (wr:GW),a=I i/\n=p.length-i/\i<=p.length/\Ft w0 nX w X N/\iw w N rb sb mb xG s wr/\zp (p.drop i) s.length=0/\(s.length:Int)<=16/\(∀x∈wr,x.1.size<=24/\ ∃o∈p,x.1=o.key/\(o.code=2\/o.code=3))/\wr.length<=i/\dL w X nX sb aP nv sd/\ ¬N sb/\(fj 1 1 p=[]->runM p [] []=runM (p.drop i) s wr)) p.length
   ⟨0,_,_,_,_,rfl,rfl,aq _,apb,h5,hcf,by simp,λx hx=>absurd hx sQ,Nat.le_refl _,asZ,as0,λ_=>rfl⟩ ?_
  clear apb h5 iO fP dX cX eh hs ha5 ha4 ha3 ha2 rT;rintro n _ w X ⟨i,N,xG,s,wr,rfl,rfl,hi,kj,h6,HS,hl6,hwk,H4,abf,akR,Kl⟩;have ha6:Sl w X 5 a (p.map ju.l):=ha.mv λk ah _=>⟨kj.s.sub k ⟨ah,λe=>e.elim⟩,kj.s.kp.block k ⟨ah,λe=>e.elim⟩⟩;have hs:=ai.fK kj.s.has;rcases dD (p) i with⟨cx,o,hx,hd⟩|⟨dA,hd⟩
  ·have Vm:=ax hx;rw[hd] at HS;have hf6:=Nd HS o sQ;unfold zp at HS;rw[if_neg (λh=>h hf6.2),if_neg (by rw[hf6.1];simp)] at HS;have vj:tV o.code<=s.length:=by
    split at HS
    ·omega
    ·omega
   rw[if_neg zQ] at HS;have ath:(s.length:Int)+(B7 o.code-tV o.code)<=16:=by
    split at HS
    ·omega
    ·omega
   rw[if_neg zQ] at HS;repeat' refine aL ?_;intros
   refine kj.GP (ahy h6 (λk ah=>⟨kj.bo k ah,kj.s.has k (kj.bo k ah)⟩) abf zQ hf6.2 vj) kQ (λ_ h=>h) (λv Q6 w7 X7 hq S8 Hn DC c7=>?_) λch Q6 w7 X7 hq S8 Hn DC c7 wb7 pF=>?_
   ·obtain⟨s',oU,N',oG,aqx,hwr,hdo,hN',h7⟩:=hq;have as1:fj 1 1 p=[]->runM p [] []=runM (p.drop (i+1)) s' oU:=λe=>by rw[Kl e,hd,runM,hdo (ahu hcf e o Vm)]
    have aqy: ¬N' sb:=λe=>(hN' sb e).elim akR λe=>by have:=abf.x.2;have:=e.1;omega
    have as2:dL w7 X7 nX sb aP nv sd:=me ((me abf (Y:=(· =sb)) rfl).mv kI (λk ah _=>⟨ah,c7.block k (by rw[ah];exact abf.x.1) (by rw[ah];exact akR)⟩) (A':=nX) λ_ h=>h.elim) (c7.sub _ abf.x.1);have Tg:=DC.less hN';have as3: ∀x∈oU,x.1.size<=24/\ ∃o∈p,x.1=o.key/\(o.code=2\/o.code=3):=λx hx=>by
     rcases hwr with e|⟨v,e,Cf⟩
     ·rw[e] at hx;exact hwk x hx
     ·rw[e] at hx;rcases mK h6.map.nodup hx with rfl|⟨hx,_⟩
      ·exact⟨afO hf6.1 Cf,o,ax aQ,rfl,Cf⟩
      ·exact hwk x hx
    have as4:oU.length<=i+1:=by
     rcases hwr with e|⟨v,e,Cf⟩
     ·rw[e];omega
     ·rw[e];have:=Dn (k:=o.key) (a:=v) wr;omega
    rw[<-aqx] at HS;repeat' first|refine ao ?_;intros|((with_reducible refine dS (p.length-(i+1)) ?_ ?_);omega;exact⟨i+1,N',oG,s',oU,by simp,rfl,by omega,Tg,h7,HS,by omega,as3,as4,as2,aqy,as1⟩)
   ·obtain⟨e,hch,hdo⟩:=hq;exact⟨e,hch,DC.fr pF,λe1 _=>by rw[Kl e1,hd,runM,hdo (ahu hcf e1 o Vm)]⟩
  ·have aqz:=h6.row.mono λk ah=>kj.bo k ah;repeat' refine aL ?_;intros
   have hNX: ∀k,N k->X k:=kj.bo;have hm6:dL w X nX mb aP nv wr:=me h6.map (hNX _ h6.map.x.1);refine cA al4 kQ kj.s.has ?_;rintro _ Q6 w7 X7 ⟨bx,rfl,hb⟩ S8 Hn pc;have hm7:=hm6.mv kI pc.mv (λ_ h=>h.elim) (A':=nX);have DC:=kj.since pc;refine cA (ahb hm7 (hb.mono Hn) (λe he=>Nat.le_trans (hwk e he).1 dQ) zQ) kQ DC.s.has ?_;rintro vs wb8 w8 X8 BK arZ ai3 kT;have U9:=DC.since kT;have hz7:=DC.s.kp.size;have xp:Own w8 X8 w0.heap.size 9 1 vs ((fQ (wr.map (·.1))).map S1):=BK.up ai3 zQ;have hW:FP wr=(fQ (wr.map (·.1))).map λk=>(⟨k,(getM k wr).getD .zero⟩:KV):=rfl;have YJ:(fQ (wr.map (·.1))).length=wr.length:=by rw[(kL _).length_eq,af]
   have xU: ∀{w9:World} {X9:XS} {v:Value},Ft w0 nX w9 X9 N->Own w9 X9 w0.heap.size 178 4 v ((FP wr).map KV.l)->fin (GR (vi nX w0 λv w'=>(λv wa w'=>apa p v wa w') v w0 w') (λch w'=> ∃e,ch=wh e/\Fr nX w0 w'/\(fj 1 1 p=[]->ny p=0->runM p [] []= .error e))) X9 w9 (.tuple #[v,I 0]):=λq1 q2=>
    q1.aew λwa aK=>⟨_,_,_,rfl,(q2.kp aK).tight.sl,by rw[hW,af,YJ];omega,λx hx=>by
     rw[hW] at hx;obtain⟨k,ah,rfl⟩:=List.mem_map.1 hx;obtain⟨y,hy,rfl⟩:=List.mem_map.1 ((kL _).mem_iff.1 ah);exact hwk y hy,λe _=>by rw[Kl e,hd];exact⟨rfl,rfl⟩⟩
   rw[hW] at xU;generalize fQ (wr.map (·.1))=ids at xp YJ xU;have h8:=h6.mv ((pc.trans kT).gW hNX);have hN8: ∀k,N k->X8 k:=λk ah=>kT.sub k (pc.sub k (hNX k ah));clear hW ha6 hs hm6 hm7 DC hb BK pc kT;have mX:=xp.sl;have hs:=ai.fK U9.s.has;repeat' refine ao ?_;intros
   refine gO (λn a b w X=> ∃(j:Nat) (v:Value),a=I j/\b= .agg #[v]/\n=ids.length-j/\j<=ids.length/\ai X8 w8 X w/\Own w X w8.heap.size 178 4 v (((ids.take j).map λk=>(⟨k,(getM k wr).getD .zero⟩:KV)).map KV.l)) ids.length ⟨0,_,rfl,rfl,rfl,aq _,ai.fK U9.s.has,Own.nil _ _ _ _ _⟩ ?_;rintro n _ _ w9 X9 ⟨j,v,rfl,rfl,rfl,hj,Cg,UL⟩;have hT9:=U9.since Cg;have h9:=h8.mv (Cg.gW hN8);have ati:=h9.row.mono λk ah=>Cg.sub k (hN8 k ah);have anM:=mX.since Cg;have aqA:dL w9 X9 nX mb aP nv wr:=me h9.map (Cg.sub _ (hN8 _ h8.map.x.1));have gn:=ai.fK U9.s.has;clear hs mX aqz;have hs:=Cg;have ov:=UL.sl.one;rcases dD ids j with⟨cx,k,hx,R0⟩|⟨as5,R0⟩
   ·have fO:(ids.take (j+1)).map (λk=>(⟨k,(getM k wr).getD .zero⟩:KV))=(ids.take j).map (λk=>(⟨k,(getM k wr).getD .zero⟩:KV))++[⟨k,(getM k wr).getD .zero⟩]:=by rw[List.take_add_one,hx,az];rfl
    have hl9:((ids.take j).map λk=>(⟨k,(getM k wr).getD .zero⟩:KV)).length=j:=by rw[af,aD];omega
    repeat' first|refine aL ?_;intros|((with_reducible apply alM);(case own=>first|assumption|exact Own.since aQ aQ);(case hs=>assumption);(case h0=>first|exact λ_ h=>h|exact gn.has);(case he=>kernel_rfl);(case hk=>rfl);(case h1=>exact qE);(case hb=>(simp only[af,aD,aa,aM,bF];omega));(case hl=>(simp only[af,aD,aa,aM,bF];omega));intro acc w X ay ho hc dg;replace hs:=ay)|(refine aa9 aqA ?_)|((with_reducible refine fZ (ids.length-(j+1)) ?_ ?_);omega;exact⟨j+1,_,by simp,rfl,rfl,by omega,hs,by rw[fO,az];exact ho⟩)
   ·rw[List.take_of_length_le as5] at UL;have Vx:=U9.s.kp.size;repeat' first|refine aL ?_;intros|(exact xU hT9 (UL.low Vx))
end Go.Proofs.YtgfijddlkhkopaaGreat