/-
 Part 14 of the proof: what the last text leans on.
-/
import Derived.Test.YtbpnemeooenpmaaGreatProg
import Derived.Recover
import Derived.Shelf.Abstract
import Derived.RegionTactic
import Derived.KernelRfl
import Derived.Tactics
import Derived.Test.YtbpnemeooenpmaaGreatH13
open Array renaming replicate → dH
open Go.Exit renaming thenS → kg
open Go.Act renaming eval → fG
open Go.Value renaming string → bB
open List renaming length_singleton → bu, length_cons → bh, mem_cons → gS, not_mem_nil → kR, length_nil → bI, length_tail → nq, length_map → aH, length_append → au, length_take → bW, nil_append → dG, mem_singleton → bw, foldl_cons → fI, map_append → bC, getElem?_append_left → qs, getElem?_append_right → pf
open Nat renaming zero_le → aF, le_refl → ba
open Bool renaming false_eq_true → a8
open Option.some renaming injEq → ay
open Go.Instr renaming typeAssert → xx
open Go.Obj.cells renaming injEq → lS
set_option linter.unusedVariables false
set_option linter.unusedSimpArgs false
namespace Go.Proofs.YtbpnemeooenpmaaGreat
open Go.Proofs.Tryz renaming prog → pg
open Go.aV
set_option maxRecDepth 100000
set_option maxHeartbeats 1000000
set_option linter.unusedVariables false
set_option linter.unusedSimpArgs false
theorem adh:Idle pg 45:=by
 refine⟨by kernel_rfl,fun eB w=>?_⟩;refine callsD_of_wpS Tryz.func45 rfl fun c₀ cs hu=>?_;rw [Tryz.ntmps45];have fL:8≤(eB++dH (13-eB.size) undef).size:=by simp;omega
 generalize eB++dH (13-eB.size) undef=tm at fL;have h2:2<tm.size:=by omega
 have h5:5<tm.size:=by omega
 have h7:7<tm.size:=by omega
 apply wpS_seq;apply wpS_region;simp [wpOpsS,go_sem,recoverD,hu,kg];refine wpS_of_wp ?_;refine wp_block ?_;apply wp_seq;apply wp_region;simp [wpOps,go_sem,Exit.then,h2,h5,h7];refine .inl (wp_cond (t:=true) (by simp [fG,h2,h5,h7]) ?_);simp only [if_true];apply wp_region;simp [wpOps,go_sem,Exit.then,Exit.inBlock,h2,h5,h7];cases c₀;simp_all [bodyPostS,results,Tryz.results45]
theorem Zt {w:World} {x:Value} {st:TypeId} :(xx (.iface 137 x) st 137 true).run pg w= .ok (.tuple #[x,.bool true]) w:=by
 obtain⟨fs,hu⟩: ∃fs,pg.underlying 137=some (.struct fs):=⟨_,rfl⟩;simp [xx,run_underlying hu]
theorem qk {W:World} {k:Nat} {x:Value} {ty:TypeId} (h:W.heap[k]? =some (.cells #[x] ty (0,0))):W.cell? ⟨k,0,none⟩=some x:=by simp [World.cell?,h]
theorem xy {W:World} {k:Nat} {x:Value} {ty:TypeId} (h:W.heap[k]? =some (.cells #[x] ty (0,0))):W.frozen? ⟨k,0,none⟩=false:=by simp [World.frozen?,h]
theorem IP {w:World} {b:Nat} {x:Value} {ty:TypeId} (v:Value) (hb:w.heap[b]? =some (.cells #[x] ty (0,0))) (k:Nat):(w.setCell ⟨b,0,none⟩ v).heap[k]? =if k=b then some (.cells #[v] ty (0,0))else w.heap[k]? :=by
 unfold World.setCell;simp only [Array.getElem?_modify];by_cases h:b=k
 ·subst h;simp [hb]
 ·rw [if_neg h,if_neg fun e=>h e.symm]
theorem abD {w:World} {k:Nat} {e:Int} (h:w.cell? ⟨k,0,none⟩=some (I e)):(loadVar 28 ⟨k,0,none⟩).run pg w= .ok (I e) w:=by
 have hag:(isAgg 28).run pg w= .ok false w:=run_isAgg_plain (d:=.int .i64) kQ rfl w;simp [loadVar,hag,run_load,h]
theorem abE {w:World} {k:Nat} {v:Value} (h:w.cell? ⟨k,0,none⟩=some v):(loadVar 33 ⟨k,0,none⟩).run pg w= .ok v w:=by
 have hag:(isAgg 33).run pg w= .ok false w:=run_isAgg_plain (d:=.slice 64) kQ rfl w;simp [loadVar,hag,run_load,h]
theorem afP:Tryz.f13.results= #[.cell 4 33,.cell 5 28]:=by kernel_rfl
theorem abF {R:Ending→World→Prop} {RP:List PanicEntry→World→Prop}
  (hR: ∀ch w,RP ch w→ ∃e,ch=tY e∧R (.returned (.tuple #[.slice none 0 0,I e])) w):KO pg aja Tryz.f13 R 45 [4,5] [] RP:=by
 intro ks IQ ch w tt ID rQ hh hv fL hRP;obtain⟨k1,k2,rfl⟩: ∃a b,ks=[a,b]:=by
  match ks,tt with
  |[a,b],_=>exact⟨a,b,rfl⟩
 obtain⟨c1,c2,rfl⟩: ∃a b,IQ=[a,b]:=by
  match IQ,ID with
  |[a,b],_=>exact⟨a,b,rfl⟩
 obtain⟨ty1,g1⟩:=hh 0 k1 c1 rfl rfl;obtain⟨Yf,g2⟩:=hh 1 k2 c2 rfl rfl;have s1:c1.size=1:=fL 0 4 1 c1 rfl kQ rfl;have s2:c2.size=1:=fL 1 5 1 c2 rfl kQ rfl;obtain⟨e,rfl,_⟩:=hR _ _ (hRP w (aV.Outside.refl _ _));refine callsD_of_wpS Tryz.func45 rfl fun c₀ cs hu=>?_;rw [Tryz.ntmps45];simp only [List.map_cons,List.map_nil,List.size_toArray,bh,bI];apply wpS_seq;apply wpS_region;simp [wpOpsS,go_sem,recoverD,hu,kg];refine wpS_of_wp ?_;refine wp_block ?_;apply wp_seq;apply wp_region;simp [wpOps,go_sem,Exit.then];refine .inl (wp_cond (t:=false) (by simp [fG]) ?_);simp only [a8,if_false];apply wp_seq;apply wp_region;simp [wpOps,go_sem,Exit.then,Zt];repeat left
 refine wp_cond (t:=true) (by simp [fG]) ?_;simp only [if_true];change Code.wp _ _ _ { tmps:= #[dT k1 0,dT k2 0,undef,undef,undef,.iface 137 (.agg #[I e]),undef,B false,.tuple #[.agg #[I e],B true],B true,.agg #[I e],undef,undef],defers:=[] } w;apply wp_seq;apply wp_region;simp [wpOps,go_sem,Exit.then];repeat left
 have l1:=(Array.getElem?_eq_some_iff.1 g1).1;have l2:=(Array.getElem?_eq_some_iff.1 g2).1;obtain⟨x1,rfl⟩: ∃x,c1= #[x]:=by
  match c1,s1 with
  |⟨[x]⟩,_=>exact⟨x,rfl⟩
 obtain⟨x2,rfl⟩: ∃x,c2= #[x]:=by
  match c2,s2 with
  |⟨[x]⟩,_=>exact⟨x,rfl⟩
 have q0:(w.alloc (.cells #[I e] 137)).heap[w.heap.size]? =some (.cells #[I e] 137 (0,0)):=heap_alloc_new _ _;have q1:(w.alloc (.cells #[I e] 137)).heap[k1]? =some (.cells #[x1] ty1 (0,0)):=(heap_alloc_old _ _ (h:=l1)).trans g1;have q2:(w.alloc (.cells #[I e] 137)).heap[k2]? =some (.cells #[x2] Yf (0,0)):=(heap_alloc_old _ _ (h:=l2)).trans g2;simp only [List.nodup_cons,gS,kR,or_false,not_or] at rQ;have hW: ∀k,k<w.heap.size→(w.alloc (.cells #[I e] 137)).heap[k]? =w.heap[k]? :=fun k hk=>heap_alloc_old _ _ (h:=hk);have hWo:(w.alloc (.cells #[I e] 137)).os=w.os∧(w.alloc (.cells #[I e] 137)).tape=w.tape∧(w.alloc (.cells #[I e] 137)).output=w.output∧(w.alloc (.cells #[I e] 137)).heap.size=w.heap.size+1:=⟨rfl,rfl,rfl,Array.size_push _⟩;change Code.wp _ _ _ { tmps:= #[.pointer (some ⟨k1,0,none⟩),.pointer (some ⟨k2,0,none⟩),undef,.pointer (some ⟨w.heap.size,0,none⟩),undef,.iface 137 (.agg #[I e]),undef,B false,.tuple #[.agg #[I e],B true],B true,.agg #[I e],undef,undef],defers:=[] } (w.alloc (.cells #[I e] 137));generalize w.alloc (.cells #[I e] 137)=W at q0 q1 q2 hW hWo⊢;generalize bS:w.heap.size=s0 at l1 l2 q0 hW hWo⊢;have Uw:s0≠k1:=by omega
 have adi:s0≠k2:=by omega
 have p0:W.drew.cell? ⟨s0,0,none⟩=some (I e):=qk (W:=W.drew) q0;have p1:W.drew.cell? ⟨k1,0,none⟩=some x1:=qk (W:=W.drew) q1;have p2:W.drew.cell? ⟨k2,0,none⟩=some x2:=qk (W:=W.drew) q2;have f1:W.drew.frozen? ⟨k1,0,none⟩=false:=xy (W:=W.drew) q1;have f2:W.drew.frozen? ⟨k2,0,none⟩=false:=xy (W:=W.drew) q2;have p0':W.cell? ⟨s0,0,none⟩=some (I e):=qk q0;have p1':W.cell? ⟨k1,0,none⟩=some x1:=qk q1;have p2':W.cell? ⟨k2,0,none⟩=some x2:=qk q2;have f1':W.frozen? ⟨k1,0,none⟩=false:=xy q1;have f2':W.frozen? ⟨k2,0,none⟩=false:=xy q2;have r: ∀k,(W.setCell ⟨k1,0,none⟩ (.slice none 0 0)).heap[k]? =if k=k1 then some (.cells #[.slice none 0 0] ty1 (0,0))else W.heap[k]? :=IP _ q1
 have r0:(W.setCell ⟨k1,0,none⟩ (.slice none 0 0)).heap[s0]? =some (.cells #[I e] 137 (0,0)):=by rw [r,if_neg Uw];exact q0
 have r2:(W.setCell ⟨k1,0,none⟩ (.slice none 0 0)).heap[k2]? =some (.cells #[x2] Yf (0,0)):=by rw [r,if_neg (fun e=>rQ.1 e.symm)];exact q2
 have t0:(W.setCell ⟨k1,0,none⟩ (.slice none 0 0)).drew.cell? ⟨s0,0,none⟩=some (I e):=qk (W:=(W.setCell ⟨k1,0,none⟩ (.slice none 0 0)).drew) r0;have t2:(W.setCell ⟨k1,0,none⟩ (.slice none 0 0)).drew.cell? ⟨k2,0,none⟩=some x2:=qk (W:=(W.setCell ⟨k1,0,none⟩ (.slice none 0 0)).drew) r2;have t3:(W.setCell ⟨k1,0,none⟩ (.slice none 0 0)).drew.frozen? ⟨k2,0,none⟩=false:=xy (W:=(W.setCell ⟨k1,0,none⟩ (.slice none 0 0)).drew) r2
 go_region
 have r': ∀k,(((W.setCell ⟨k1,0,none⟩ (.slice none 0 0)).setCell ⟨k2,0,none⟩ (.int .i64 e)).drew).heap[k]? =if k=k2 then some (.cells #[I e] Yf (0,0))else(W.setCell ⟨k1,0,none⟩ (.slice none 0 0)).heap[k]? :=IP _ r2
 have ahe:W.heap.size≤(((W.setCell ⟨k1,0,none⟩ (.slice none 0 0)).setCell ⟨k2,0,none⟩ (.int .i64 e)).drew).heap.size:=by
  show W.heap.size≤((W.setCell ⟨k1,0,none⟩ (.slice none 0 0)).setCell ⟨k2,0,none⟩ (.int .i64 e)).heap.size
  unfold World.setCell;simp only [Array.size_modify];exact ba _
 have Zu:(((W.setCell ⟨k1,0,none⟩ (.slice none 0 0)).setCell ⟨k2,0,none⟩ (.int .i64 e)).drew).os=w.os∧(((W.setCell ⟨k1,0,none⟩ (.slice none 0 0)).setCell ⟨k2,0,none⟩ (.int .i64 e)).drew).tape=w.tape∧(((W.setCell ⟨k1,0,none⟩ (.slice none 0 0)).setCell ⟨k2,0,none⟩ (.int .i64 e)).drew).output=w.output:=⟨hWo.1,hWo.2.1,hWo.2.2.1⟩;generalize ((W.setCell ⟨k1,0,none⟩ (.slice none 0 0)).setCell ⟨k2,0,none⟩ (.int .i64 e)).drew=w4 at r' ahe Zu⊢;have d1:w4.cell? ⟨k1,0,none⟩=some (.slice none 0 0):=qk (ty:=ty1) (by rw [r',if_neg rQ.1,r,if_pos rfl]);have d2:w4.cell? ⟨k2,0,none⟩=some (I e):=qk (ty:=Yf) (by rw [r',if_pos rfl]);have akL:aV.Outside [k1,k2] w w4:=by
  refine⟨Zu.1,Zu.2.1,Zu.2.2,?_,fun k hl hk=>?_⟩
  ·omega
  ·simp only [gS,kR,or_false,not_or] at hk;rw [r',if_neg hk.2,r,if_neg hk.1];exact hW k zQ
 obtain⟨e',wI,hRe⟩:=hR _ _ (hRP w4 akL);have he:e=e':=by simpa [tY] using wI
 subst he;simp only [Exit.inBlock];refine⟨rfl,.panicking [{ v:=.iface 137 (.agg #[I e]),recovered:=true }],rfl,.tuple #[],?_,⟨_,rfl⟩,rfl,_,hRe,fun tmps ht=>?_⟩
 ·simp [results,Tryz.results45]
 ·unfold results;rw [afP];simp [ht 0 4 k1 rfl rfl,ht 1 5 k2 rfl rfl,asAddr,dT,abD d2,abE d1]
end Go.Proofs.YtbpnemeooenpmaaGreat
namespace Go.Proofs.YtbpnemeooenpmaaGreat
open Go.Proofs.Tryz renaming prog → pg
open Go.aV
theorem Xg:Idle pg 31:=by
 refine⟨by kernel_rfl,fun eB w=>?_⟩;refine callsD_of_wpS Tryz.func31 rfl fun c₀ cs hu=>?_;rw [Tryz.ntmps31];have fL:8≤(eB++dH (15-eB.size) undef).size:=by simp;omega
 generalize eB++dH (15-eB.size) undef=tm at fL;have h2:2<tm.size:=by omega
 have h3:3<tm.size:=by omega
 have h4:4<tm.size:=by omega
 have h5:5<tm.size:=by omega
 have h6:6<tm.size:=by omega
 have h7:7<tm.size:=by omega
 apply wpS_seq;apply wpS_region;simp [wpOpsS,go_sem,recoverD,hu,kg];apply wpS_seq;apply wpS_region;simp [wpOpsS,go_sem,kg,h2,h3,h4,h5,h6,h7];refine wpS_cond (t:=false) (by simp [fG,h2,h3,h4,h5,h6,h7]) ?_;simp only [a8,if_false];refine wpS_of_wp (wp_skip ?_);cases c₀;simp_all [bodyPostS,results,Tryz.results31]
theorem Xh:Idle pg 53:=by
 refine⟨by kernel_rfl,fun eB w=>?_⟩;refine callsD_of_wpS Tryz.func53 rfl fun c₀ cs hu=>?_;rw [Tryz.ntmps53];have fL:8≤(eB++dH (13-eB.size) undef).size:=by simp;omega
 generalize eB++dH (13-eB.size) undef=tm at fL;have h2:2<tm.size:=by omega
 have h3:3<tm.size:=by omega
 have h4:4<tm.size:=by omega
 have h5:5<tm.size:=by omega
 have h6:6<tm.size:=by omega
 have h7:7<tm.size:=by omega
 apply wpS_seq;apply wpS_region;simp [wpOpsS,go_sem,recoverD,hu,kg];apply wpS_seq;apply wpS_region;simp [wpOpsS,go_sem,kg,h2,h3,h4,h5,h6,h7];refine wpS_cond (t:=false) (by simp [fG,h2,h3,h4,h5,h6,h7]) ?_;simp only [a8,if_false];refine wpS_of_wp (wp_skip ?_);cases c₀;simp_all [bodyPostS,results,Tryz.results53]
theorem Xi:Idle pg 26:=by
 refine⟨by kernel_rfl,fun eB w=>?_⟩;refine callsD_of_wpS Tryz.func26 rfl fun c₀ cs hu=>?_;rw [Tryz.ntmps26];have fL:8≤(eB++dH (12-eB.size) undef).size:=by simp;omega
 generalize eB++dH (12-eB.size) undef=tm at fL;have h2:2<tm.size:=by omega
 have h3:3<tm.size:=by omega
 have h4:4<tm.size:=by omega
 have h5:5<tm.size:=by omega
 have h6:6<tm.size:=by omega
 have h7:7<tm.size:=by omega
 apply wpS_seq;apply wpS_region;simp [wpOpsS,go_sem,recoverD,hu,kg];apply wpS_seq;apply wpS_region;simp [wpOpsS,go_sem,kg,h2,h3,h4,h5,h6,h7];refine wpS_cond (t:=false) (by simp [fG,h2,h3,h4,h5,h6,h7]) ?_;simp only [a8,if_false];refine wpS_of_wp (wp_skip ?_);cases c₀;simp_all [bodyPostS,results,Tryz.results26]
end Go.Proofs.YtbpnemeooenpmaaGreat
namespace Go.Proofs.YtbpnemeooenpmaaGreat
open Go.Proofs.Tryz renaming prog → pg
open Go.aV Go.Maps Go.Shelf
set_option maxRecDepth 100000
set_option maxHeartbeats 1000000
set_option linter.unusedVariables false
set_option linter.unusedSimpArgs false
attribute [local irreducible] un jn aC aS ld1 dY st1 dt cD kK dC lQ uJ sO fH e7 ae aB aK eW eV eU eC eF gE az fin aP aE aD vS xd gO gW ry uK sP xe xf xg gB gR rz uL sQ xh xi
def runM:List fw→List fS→rC→Except Int (List fS×rC)
 |[],s,wr=>.ok (s,wr)
 |o::r,s,wr=>match qT o s wr with
  | .ok (s',kP)=>runM r s' kP
  | .error e=>.error e
def dB (wr:rC):List KV:=(gu (wr.map (·.1))).map fun k=>⟨k,(getM k wr).getD .zero⟩
theorem adj {c:Int} {a b:fS} {l:List fS} (h:sn c a b= .ok l):l.length=if c=15 then 2 else 1:=by
 unfold sn at h;split at h
 ·cases h;rename_i e;rw [if_neg zQ];rfl
 ·split at h
  ·cases h;rename_i e;rw [if_neg zQ];rfl
  ·split at h
   ·cases h;rename_i e;rw [if_pos e];rfl
   ·split at h
    ·cases h
    ·cases h;rename_i e _;rw [if_neg e];rfl
theorem afQ {o:fw} {s s':List fS} {wr kP:rC} (h:qT o s wr= .ok (s',kP)) (hc:1≤o.code∧o.code≤15) (hg:o.code≠1) (ht:sk o.code≤s.length):(s'.length:Int)=s.length+(Ao o.code-sk o.code):=by
 have h1:sk o.code=if o.code=3∨o.code=4 then 0 else if o.code=2∨o.code=13∨o.code=14 then 1 else 2:=by
  unfold sk;rw [if_neg zQ];by_cases q:o.code=3∨o.code=4
  ·rw [if_pos zQ,if_pos q]
  ·rw [if_neg zQ,if_neg q]
 have h2:Ao o.code=if o.code=2∨o.code=3∨o.code=13 then 0 else if o.code=14∨o.code=15 then 2 else 1:=by unfold Ao;rw [if_neg zQ]
 unfold qT at h;split at h
 ·rename_i e;cases h;rw [if_neg zQ,if_pos zQ] at h1;rw [if_pos zQ] at h2;rw [nq];omega
 ·split at h
  ·rename_i e;cases h;rw [if_pos zQ] at h1;rw [if_pos zQ] at h2;omega
  ·split at h
   ·rename_i e;cases h;rw [if_pos zQ] at h1;rw [if_neg zQ,if_neg zQ] at h2;rw [bh];omega
   ·split at h
    ·rename_i e;split at h
     ·cases h;rw [if_neg zQ,if_pos zQ] at h1;rw [if_pos zQ] at h2;rw [nq];omega
     ·cases h
    ·split at h
     ·rename_i e;cases h;rw [if_neg zQ,if_pos zQ] at h1;rw [if_neg zQ,if_pos zQ] at h2;rw [bh];omega
     ·split at h
      ·rename_i l hl;cases h;have:=adj hl;rw [if_neg zQ,if_neg zQ] at h1;rw [au,nq,nq];by_cases e15:o.code=15
       ·rw [if_pos e15] at this;rw [if_neg zQ,if_pos zQ] at h2;omega
       ·rw [if_neg e15] at this;rw [if_neg zQ,if_neg zQ] at h2;omega
      ·cases h
theorem Ux {o:fw} {s s':List fS} {wr kP:rC} (h:qT o s wr= .ok (s',kP)):kP=wr∨ ∃v,kP=dS o.key v wr∧(o.code=2∨o.code=3):=by
 unfold qT at h;split at h
 ·rename_i e;cases h;exact .inr ⟨_,rfl,.inl e⟩
 ·split at h
  ·rename_i e;cases h;exact .inr ⟨_,rfl,.inr e⟩
  ·split at h
   ·cases h;exact .inl rfl
   ·split at h
    ·split at h
     ·cases h;exact .inl rfl
     ·cases h
    ·split at h
     ·cases h;exact .inl rfl
     ·split at h
      ·cases h;exact .inl rfl
      ·cases h
theorem Ox {o:fw} (h:zJ o (D8 o.code)=true) (hc:o.code=2∨o.code=3):o.key.size≤24:=by
 have hn:D8 o.code=1:=by unfold D8;rw [if_neg zQ,if_neg zQ,if_pos zQ]
 unfold zJ at h;rw [hn] at h;split at h
 ·cases h
 ·rename_i h1;cases hg:gn o.key with
  |true=>unfold gn at hg;simp at hg;omega
  |false=>exact absurd (.inl ⟨rfl,hg⟩) h1
theorem Uy {a b:Int} : ∀(p:List fw) (t:List (BA×Int)),t≠[]→p.foldl (iS a b) t≠[]
 |[],t,h=>h
 |o::p,t,h=>by
  rw [fI];refine Uy p _ ?_;unfold iS;split
  ·cases t with
   |nil=>exact absurd rfl h
   |cons x t=>unfold dS;split<;>simp
  ·exact h
theorem Uz {a b:Int} : ∀(p:List fw) (t:List (BA×Int)) (o:fw),o∈p→(o.code=a∨o.code=b)→gn o.key=true→p.foldl (iS a b) t≠[]
 |q::p,t,o,hm,hc,hk=>by
  rw [fI];rcases List.mem_cons.1 hm with rfl|hm
  ·refine Uy p _ ?_;unfold iS;rw [if_pos ⟨hc,hk⟩];cases t with
   |nil=>simp [dS]
   |cons x t=>unfold dS;split<;>simp
  ·exact Uz p _ o hm hc hk
theorem abG {l:List BA} (h:gu l=[]):l=[]:=by
 have:=(kI l).length_eq;rw [h] at this;exact List.length_eq_zero_iff.1 this.symm
theorem Dn: ∀{p:List fw} {h:Int},uC p h=0→ ∀o∈p,zJ o (D8 o.code)=true∧1≤o.code∧o.code≤15
 |o::p,h,hc,q,hq=>by
  unfold uC at hc;split at hc
  ·omega
  ·rename_i h1;split at hc
   ·omega
   ·rename_i h2;split at hc
    ·omega
    ·split at hc
     ·omega
     ·rcases List.mem_cons.1 hq with rfl|hq
      ·exact⟨by simpa using h2,Classical.not_not.1 h1⟩
      ·exact Dn hc q hq
theorem ahf {p:List fw} {h:Int} (hc:uC p h=0) (hr:dW 1 1 p=[]): ∀o∈p,o.code≠1:=fun o ho e=>by
 have hf:=(Dn hc o ho).1;have hk:gn o.key=true:=by
  unfold zJ at hf;rw [e] at hf;have:D8 1=1:=by decide
  rw [this] at hf;split at hf
  ·cases hf
  ·rename_i h1;cases hg:gn o.key with
   |true=>rfl
   |false=>exact absurd (.inl ⟨rfl,hg⟩) h1
 have h2:=abG hr;rw [List.map_eq_nil_iff] at h2;exact Uz p [] o ho (.inl e) hk h2
theorem adk {w:World} {X:XS} {mb:Nat} {t:rC} {k:BA} {N:Value→Prop} (h:dR w X nX mb bB zw t) (n:N ((getM k t).getD .zero).v):ae pg X w (Instr.lookup 133 (.map (some mb)) (.string k) false) N:=by
 refine th (kt:=9) (et:=62) (kv:=bB) fS.zero.v h zd kQ kQ (fun v a hg hv=>?_) (fun hg=>?_)
 ·simp only [zw] at hv;subst hv;rw [hg] at n;exact n
 ·rw [hg] at n;exact n
section
variable {w : World} {X : XS}
theorem UA {a b:Value} (ha:Sl w X 1 a (([]:List BA).map S1)):Ct pg 44 #[a,b] w X nX fun v wa w'=> ∃sb,v= .tuple #[.map (some sb),I 0]:=by
 intro w0 hk;replace ha:=ha.mv hk.dD;have jT:=ha.gy;have hs:=aj.init w0;apply UB;unfold IS;refine nC (kv:=fun k:BA=>bB k) zw nX hs.has fun mb w1 X1 hmb ao oL=>?_;have bU:=hs.trans ao;have nD:=ha.mv bU.mv;repeat' first|refine aJ ?_;intros
 refine fN (fun n a b w X=>a=I 0∧b=B false∧aj (aR w0) w0 X w) 0 ⟨rfl,rfl,bU⟩ ?_;clear hs ao bU nD;rintro n _ _ w X ⟨rfl,rfl,hs⟩;repeat' first|refine aJ ?_;intros|refine dM ?_ ?_<;>intros|(exfalso;simp only [bI] at*;omega)|((first|(with_reducible refine av hs ?_)|(with_reducible refine av (bS.trans hs) ?_));intro wa hk;exact⟨mb,rfl⟩)
theorem LV {a b:Value} {p:List fw} (ha:Sl w X 5 a (p.map fw.l)) (hr:dW 1 1 p=[]):
  Ct pg 13 #[a,b] w X nX fun v wa w'=>if iM p≠0 then v= .tuple #[.slice none 0 0,I (iM p)] else match runM p [] [] with
   | .ok (_,wr)=> ∃vl,v= .tuple #[vl,I 0]∧Sl w' (made wa w') 4 vl ((dB wr).map KV.l)
   | .error e=>v= .tuple #[.slice none 0 0,I e]:=by
 intro w0 hk;replace ha:=ha.mv hk.dD;have jT:=ha.gy;have hF:FX nX (aR w0) w0:=fun k af=>af.elim;have hT:=hF.ft (Kp.refl _ _);refine ahg (RP:=fun ch w'=> ∃e,ch=tY e∧Fr nX w0 w'∧iM p=0∧runM p [] []= .error e) kQ adh (abF fun ch w' ⟨e,h1,h2,h3,h4⟩=>⟨e,h1,_,rfl,h2,?_⟩) ?_
 ·simp only [h3,ne_eq,not_true_eq_false,if_false,h4]
 unfold ajb;have hs:=aj.init w0;refine gC (Cc ha) kQ hs.has fun w1 X1 ao=>?_;have dU:=hT.since ao;have nD:=ha.since ao;replace hs:=hs.trans ao;by_cases hc:iM p≠0
 ·repeat' first|refine bD ?_;intros
  exact Yp (dU.fin fun wa bk=>by simp only [if_pos hc])
 ·repeat' first|refine bD ?_;intros
  have hlen:p.length≤40:=by
   unfold iM at hc;split at hc
   ·exact absurd (by decide) hc
   ·omega
  have hcf:uC p 0=0:=by
   unfold iM at hc;split at hc
   ·exact absurd (by decide) hc
   ·split at hc
    ·exact absurd ‹_› hc
    ·omega
  refine dp (tp nD zQ) kQ hs.has ?_;rintro vr wa w2 X2 ho hle fP bU;rw [hr] at ho;have hsr:=(ho.mono fP).sl;have cW:=dU.since bU;have ha2:=nD.since bU;replace hs:=hs.trans bU;refine dp (UA hsr) kQ hs.has ?_;rintro _ wb w3 X3 ⟨sb,rfl⟩ nZ mz ea;have dE:=cW.since ea;have ha3:=ha2.since ea;replace hs:=hs.trans ea;have Zk:=hs;clear ao bU ea;repeat' first|refine bD ?_;intros
  refine nC (kv:=bB) zw nX hs.has fun mb w4 X4 hmb fq EM=>?_;have fm:=dE.since fq;have ha4:=ha3.since fq;have zL:=hs.trans fq;clear hs;repeat' first|refine aJ ?_;intros
  refine nY zL.has fun rb w5 X5 hrb ti bJ=>?_;have ff:=fm.since ti;have ha5:=ha4.since ti;have B8:=EM.mv tr ti.mv (fun _ h=>h.elim) (A':=nX);have LX:=zL.kp.size;have hz5:=ti.kp.size;have h5:gq w5 (fun k=>k=rb∨k=mb) rb sb mb (.slice none 0 0) [] []:=⟨⟨.inl rfl,bJ.2⟩,Own.nil _ _ _ _ _,pa B8 (.inr rfl)⟩;have uD:Ft w0 nX w5 X5 (fun k=>k=rb∨k=mb):=ff.more fun k e=>by
   have:=Zk.kp.size;rcases e with e|e<;>subst e
   ·exact .inr ⟨bJ.1,by omega⟩
   ·exact .inr ⟨B8.x.1,by omega⟩
  have hs:=zL.trans ti;clear fq ti EM B8 bJ;have Hi:=ahf hcf hr;repeat' first|refine aJ ?_;intros
  refine fR (fun n a w X=> ∃(i:Nat) (N:XS) (wJ:Value) (s:List fS) (wr:rC),a=I i∧n=p.length-i∧i≤p.length∧Ft w0 nX w X N∧gq w N rb sb mb wJ s wr∧uC (p.drop i) s.length=0∧(s.length:Int)≤16∧(∀x∈wr,x.1.size≤24)∧wr.length≤i∧runM p [] []=runM (p.drop i) s wr) p.length
   ⟨0,_,_,_,_,rfl,rfl,aF _,uD,h5,hcf,by simp,fun x hx=>absurd hx (by simp),ba _,rfl⟩ ?_
  clear uD h5 ff fm dE cW dU hs ha5 ha4 ha3 ha2 nD;rintro n _ w X ⟨i,N,wJ,s,wr,rfl,rfl,hi,eX,h6,Ea,hl6,hwk,hwl,jG⟩;have ha6:Sl w X 5 a (p.map fw.l):=ha.mv fun k af _=>⟨eX.s.sub k ⟨af,fun e=>e.elim⟩,eX.s.kp.block k ⟨af,fun e=>e.elim⟩⟩;have hs:=aj.ct eX.s.has;rcases ew (p) i with⟨dy,o,hx,hd⟩|⟨dV,hd⟩
  ·have Yq:=List.mem_of_getElem? hx;rw [hd] at Ea jG;have hf6:=Dn Ea o (by simp);unfold uC at Ea;rw [if_neg (fun h=>h hf6.2),if_neg (by rw [hf6.1];simp)] at Ea;have xw:sk o.code≤s.length:=by
    split at Ea
    ·omega
    ·omega
   rw [if_neg zQ] at Ea;have amx:(s.length:Int)+(Ao o.code-sk o.code)≤16:=by
    split at Ea
    ·omega
    ·omega
   rw [if_neg zQ] at Ea;rw [runM] at jG;repeat' first|refine bD ?_;intros
   refine eX.Tr (adf h6 (fun k af=>⟨eX.bK k af,eX.s.has k (eX.bK k af)⟩) zQ (Hi o Yq) hf6.2 xw) kQ (fun _ h=>h) (fun v ER w7 X7 hq PZ Eb kC c7=>?_) fun ch ER w7 X7 hq PZ Eb kC c7 wb7 mM=>?_
   ·obtain⟨s',kP,N',ob,Dp,hN',h7⟩:=hq;rw [Dp] at jG;have ajs:=afQ Dp hf6.2 (Hi o Yq) xw;have akM:=kC.less hN';have akN: ∀x∈kP,x.1.size≤24:=fun x hx=>by
     rcases Ux Dp with e|⟨v,e,AL⟩
     ·rw [e] at hx;exact hwk x hx
     ·rw [e] at hx;rcases jt h6.map.nodup hx with rfl|⟨hx,_⟩
      ·exact Ox hf6.1 AL
      ·exact hwk x hx
    have akO:kP.length≤i+1:=by
     rcases Ux Dp with e|⟨v,e,AL⟩
     ·rw [e];omega
     ·rw [e];have:=zI (k:=o.key) (a:=v) wr;omega
    rw [←ajs] at Ea;repeat' first|refine aJ ?_;intros|((with_reducible refine fh (p.length-(i+1)) ?_ ?_);omega;exact⟨i+1,N',ob,s',kP,by simp,rfl,by omega,akM,h7,Ea,by omega,akN,akO,jG⟩)
   ·obtain⟨e,he,hch⟩:=hq;rw [he] at jG;exact⟨e,hch,kC.fr mM,by omega,jG⟩
  ·rw [hd] at jG;have Dq:=h6.row.mono fun k af=>eX.bK k af;repeat' first|refine bD ?_;intros
   have hNX: ∀k,N k→X k:=eX.bK;have IT:dR w X nX mb bB zw wr:=pa h6.map (hNX _ h6.map.x.1);refine dp afG kQ eX.s.has ?_;rintro _ ER w7 X7 ⟨bx,rfl,hb⟩ PZ Eb gG;have Oy:=IT.mv tr gG.mv (fun _ h=>h.elim) (A':=nX);have kC:=eX.since gG;refine dp (abg Oy (hb.mono Eb) (fun e he=>Nat.le_trans (hwk e he) (by decide)) zQ) kQ kC.s.has ?_;rintro vs wb8 w8 X8 AO adl UC mh;have od:=kC.since mh;have hm8:=Oy.mv tr mh.mv (fun _ h=>h.elim) (A':=nX);have hz7:=kC.s.kp.size;have EL:Own w8 X8 w0.heap.size 9 1 vs ((gu (wr.map (·.1))).map S1):=AO.up UC zQ;have hW:dB wr=(gu (wr.map (·.1))).map fun k=>(⟨k,(getM k wr).getD .zero⟩:KV):=rfl;have hls:(gu (wr.map (·.1))).length=wr.length:=by rw [(kI _).length_eq,aH]
   rw [runM] at jG;have MT: ∀{w9:World} {X9:XS} {v:Value},Ft w0 nX w9 X9 N→Own w9 X9 w0.heap.size 64 4 v ((dB wr).map KV.l)→fin (Br (xt nX w0 fun v w'=>(fun v wa w'=>if iM p≠0 then v= .tuple #[.slice none 0 0,I (iM p)] else match runM p [] [] with
     | .ok (_,wr)=> ∃vl,v= .tuple #[vl,I 0]∧Sl w' (made wa w') 4 vl ((dB wr).map KV.l)
     | .error e=>v= .tuple #[.slice none 0 0,I e]) v w0 w') (fun ch w'=> ∃e,ch=tY e∧Fr nX w0 w'∧iM p=0∧runM p [] []= .error e)) X9 w9 (.tuple #[v,I 0]):=fun q1 q2=>
    q1.ahh fun wa bk=>by
     simp only [if_neg hc,jG];exact⟨_,rfl,(q2.kp bk).tight.sl⟩
   rw [hW] at MT;generalize gu (wr.map (·.1))=ids at EL hls MT;have h8:=h6.mv ((gG.trans mh).fZ hNX);have hN8: ∀k,N k→X8 k:=fun k af=>mh.sub k (gG.sub k (hNX k af));clear hW ha6 hs IT Oy kC hb AO gG mh;have wD:=EL.sl;have hs:=aj.ct od.s.has;repeat' first|refine aJ ?_;intros
   refine fN (fun n a b w X=> ∃(j:Nat) (v:Value),a=I j∧b= .agg #[v]∧n=ids.length-j∧j≤ids.length∧aj X8 w8 X w∧Own w X w8.heap.size 64 4 v (((ids.take j).map fun k=>(⟨k,(getM k wr).getD .zero⟩:KV)).map KV.l)) ids.length ⟨0,_,rfl,rfl,rfl,aF _,aj.ct od.s.has,Own.nil _ _ _ _ _⟩ ?_;rintro n _ _ w9 X9 ⟨j,v,rfl,rfl,rfl,hj,xz,ho9⟩;have lT:=od.since xz;have h9:=h8.mv (xz.fZ hN8);have amy:=h9.row.mono fun k af=>xz.sub k (hN8 k af);have amN:=wD.since xz;have ajt:dR w9 X9 nX mb bB zw wr:=pa h9.map (xz.sub _ (hN8 _ h8.map.x.1));have bS:=aj.ct od.s.has;clear hs wD Dq;have hs:=xz;have ov:=ho9.sl.one;rcases ew ids j with⟨dy,k,hx,hd9⟩|⟨akP,hd9⟩
   ·have ed:(ids.take (j+1)).map (fun k=>(⟨k,(getM k wr).getD .zero⟩:KV))=(ids.take j).map (fun k=>(⟨k,(getM k wr).getD .zero⟩:KV))++[⟨k,(getM k wr).getD .zero⟩]:=by rw [List.take_add_one,hx,bC];rfl
    have hl9:((ids.take j).map fun k=>(⟨k,(getM k wr).getD .zero⟩:KV)).length=j:=by rw [aH,bW];omega
    repeat' first|refine bD ?_;intros|((with_reducible apply afR);(case own=>first|assumption|exact Own.since (by assumption) (by assumption));(case hs=>assumption);(case h0=>first|exact fun _ h=>h|exact bS.has);(case he=>kernel_rfl);(case hk=>rfl);(case h1=>exact qE);(case hb=>(simp only [aH,bW,au,bh,bI];omega));(case hl=>(simp only [aH,bW,au,bh,bI];omega));intro acc w X ao ho hc ef;replace hs:=ao)|(refine adk ajt ?_)|((with_reducible refine fJ (ids.length-(j+1)) ?_ ?_);omega;exact⟨j+1,_,by simp,rfl,rfl,by omega,hs,by rw [ed,bC];exact ho⟩)
   ·rw [List.take_of_length_le akP] at ho9;have hz8:=od.s.kp.size;repeat' first|refine bD ?_;intros|(exact MT lT (ho9.low hz8))
end
end Go.Proofs.YtbpnemeooenpmaaGreat
namespace Go.Proofs.YtbpnemeooenpmaaGreat
open Go.Proofs.Tryz renaming prog → pg
open Go.aV
set_option maxRecDepth 100000
set_option maxHeartbeats 1000000
set_option linter.unusedVariables false
set_option linter.unusedSimpArgs false
attribute [local irreducible] un jn aC aS ld1 dY st1 dt cD kK dC lQ uJ sO fH e7 ae aB aK eW eV eU eC eF gE az fin aP aE aD vS xd gO gW ry uK sP xe xf xg gB gR rz uL sQ xh xi
abbrev aN:Value:=.slice none 0 0
structure ph where
 id:Int
 ga:Int
 uh:Int
 lb:Nat
 Aq:Nat
 cb:Nat
 ab:Nat
 cm:Value
 bb:Nat
abbrev Gd (c:ph) (Cf vm va:Value):List Value:=[I c.id,I c.ga,I c.uh,ptr c.lb 0,B false,ptr c.Aq 0,Cf,.map (some c.ab),c.cm,.map (some c.bb),vm,va]
abbrev ui (c:ph) (vm va:Value):List Value:=Gd c (ptr c.cb 0) vm va
abbrev nT:Nat:=93
structure oN where
 dK:dc
 vp:Value
 st:cw
 age:Int
 vs:Value
 pre:Bool
 vq:Value
 wK:cw
abbrev Cg (x:oN) (vw:Value):List Value:=[I x.dK.gM,I x.dK.ga,I x.dK.sq,x.vp,I x.st.wall,I x.st.ep,I x.st.node,I x.age,x.vs,B x.pre,vw,x.vq,I x.wK.wall,I x.wK.ep,I x.wK.node]
abbrev aT:Nat:=113
abbrev mT:Nat:=44
abbrev anT:Nat:=79
def nG:World→XS→Value→Nat→Prop:=fun _ _ v b=>v=ptr b 0
theorem fK:mU nG:=fun _ _ _ _ _ _ h _=>h
def jo (w:World) (K:XS) (rows:List (List Value)) (ms:List dF):Prop:=rows.length=ms.length∧ ∀(i:Nat) (l:List Value) (x:dF),rows[i]? =some l→ms[i]? =some x→dF.rd w K l x
theorem jo.mv {w w':World} {K K':XS} {rows:List (List Value)} {ms:List dF} (h:jo w K rows ms) (m:Mv K w K' w'):jo w' K' rows ms:=⟨h.1,fun i l x h1 h2=>dF.mv (h.2 i l x h1 h2) m⟩
theorem jo.nil (w:World) (K:XS):jo w K [] []:=⟨rfl,fun i l x h=>by simp at h⟩
theorem jo.add {w:World} {K:XS} {rows:List (List Value)} {ms:List dF} {l:List Value} {x:dF} (h:jo w K rows ms) (h1:dF.rd w K l x):jo w K (rows++[l]) (ms++[x]):=by
 refine⟨by simp [h.1],fun i l' x' hl hx=>?_⟩;rcases Nat.lt_trichotomy i rows.length with hi|hi|hi
 ·rw [qs hi] at hl;rw [qs (by rw [←h.1];exact hi)] at hx;exact h.2 i l' x' hl hx
 ·subst hi;rw [pf (ba _)] at hl;rw [pf (by rw [h.1];exact ba _)] at hx;rw [h.1] at hx;simp only [Nat.sub_self,List.getElem?_cons_zero,ay] at hl hx;subst hl;subst hx;exact h1
 ·rw [List.getElem?_eq_none (by simp;omega)] at hl;cases hl
def cF (nb xb ab:Nat) (vm va vw dZ:Value):XS:=fun k=>k=nb∨k=xb∨k=ab∨cY vm k∨cY va k∨cY vw k∨cY dZ k
structure fu (w:World) (K:XS) (nb xb:Nat) (c:ph) (x:oN) (vm va vw dZ:Value) (al:List (dc×Nat)) (rm ra rw:List (List Value)) (ms ws:List dF) (ps:List Int):Prop where
 row:a7 w (· =nb) nb (ui c vm va) nT
 act:a7 w (· =xb) xb (Cg x vw) aT
 am:dR w (· =c.ab) nX c.ab (fun k:dc=>k.v) nG al
 om:Own w (cY vm) 0 mT 36 vm rm
 oa:Own w (cY va) 0 anT 9 va ra
 ow:Own w (cY vw) 0 mT 36 vw rw
 op:Own w (cY dZ) 0 3 1 dZ (ps.map I1)
 hm:jo w K rm ms
 hw:jo w K rw ws
 sep: ∀g,cY vm g→ ¬cY vw g
 kd: ∀k,K k→ ¬cF nb xb c.ab vm va vw dZ k
 o1:aV.one c.cm=true
 o2:aV.one x.vp=true
 o3:aV.one x.vs=true
 o4:aV.one x.vq=true
section
variable {w w' wa : World} {X X' K K' : XS} {nb xb : Nat} {c : ph} {x : oN} {vm va vw dZ gr ia fy jY : Value} {al : List (dc × Nat)} {rm ra rw : List (List Value)} {ms ws : List dF} {ps : List Int}
theorem fu.fx (h:fu w K nb xb c x vm va vw dZ al rm ra rw ms ws ps): ∀k,cF nb xb c.ab vm va vw dZ k→k<w.heap.size:=fun k hk=>by
 rcases hk with e|e|e|e|e|e|e
 ·subst e;exact h.row.lt
 ·subst e;exact h.act.lt
 ·subst e;exact h.am.x.2
 ·exact(h.om.ge e).2
 ·exact(h.oa.ge e).2
 ·exact(h.ow.ge e).2
 ·exact(h.op.ge e).2
theorem fu.mv (h:fu w K nb xb c x vm va vw dZ al rm ra rw ms ws ps) (hb: ∀k,cF nb xb c.ab vm va vw dZ k→w'.heap[k]? =w.heap[k]?) (hK:Mv K w K' w') (kd: ∀k,K' k→ ¬cF nb xb c.ab vm va vw dZ k):fu w' K' nb xb c x vm va vw dZ al rm ra rw ms ws ps where
 row:=h.row.mv fun k hk _=>⟨hk,hb k (.inl hk)⟩
 act:=h.act.mv fun k hk _=>⟨hk,hb k (.inr (.inl hk))⟩
 am:=h.am.mv fK (fun k hk _=>⟨hk,hb k (.inr (.inr (.inl hk)))⟩) fun _ h=>h.elim
 om:=h.om.mv fun k hk _=>⟨hk,hb k (.inr (.inr (.inr (.inl hk))))⟩
 oa:=h.oa.mv fun k hk _=>⟨hk,hb k (.inr (.inr (.inr (.inr (.inl hk)))))⟩
 ow:=h.ow.mv fun k hk _=>⟨hk,hb k (.inr (.inr (.inr (.inr (.inr (.inl hk))))))⟩
 op:=h.op.mv fun k hk _=>⟨hk,hb k (.inr (.inr (.inr (.inr (.inr (.inr hk))))))⟩
 hm:=h.hm.mv hK
 hw:=h.hw.mv hK
 sep:=h.sep
 kd:=kd
 o1:=h.o1
 o2:=h.o2
 o3:=h.o3
 o4:=h.o4
theorem IU {w:World} {X Y:XS} {b b':Nat} {cs sM:List Value} {t t':TypeId} (h:a7 w X b cs t) (h':a7 w Y b' sM t') (he:decide (t≠t')=true):b≠b':=fun e=>by
 have h1:=h.2;rw [e,h'.2] at h1;simp only [ay,lS] at h1;exact of_decide_eq_true he h1.2.1.symm
theorem uR {w:World} {X Y:XS} {lo lo' e e' k k' g:Nat} {v v':Value} {rows aju:List (List Value)} (h:Own w X lo e k v rows) (h':Own w Y lo' e' k' v' aju) (he:decide (e≠e')=true) (hg:v.ownBlock=some g):v'.ownBlock≠some g:=fun jg=>by
 obtain⟨c,h1⟩:=KN h hg;obtain⟨c',h2⟩:=KN h' jg;rw [h1] at h2;simp only [ay,lS] at h2;exact of_decide_eq_true he h2.2.1
structure ajv (nb xb ab:Nat) (vm va vw dZ:Value):Prop where
 nx:nb≠xb
 an:ab≠nb
 ax:ab≠xb
 m: ∀g,cY vm g→g≠nb∧g≠xb∧g≠ab∧ ¬cY va g∧ ¬cY vw g∧ ¬cY dZ g
 a: ∀g,cY va g→g≠nb∧g≠xb∧g≠ab∧ ¬cY vm g∧ ¬cY vw g∧ ¬cY dZ g
 w: ∀g,cY vw g→g≠nb∧g≠xb∧g≠ab∧ ¬cY vm g∧ ¬cY va g∧ ¬cY dZ g
 p: ∀g,cY dZ g→g≠nb∧g≠xb∧g≠ab∧ ¬cY vm g∧ ¬cY va g∧ ¬cY vw g
theorem fu.ap (h:fu w K nb xb c x vm va vw dZ al rm ra rw ms ws ps):ajv nb xb c.ab vm va vw dZ:=by
 have r1: ∀{e k:Nat} {v:Value} {rows:List (List Value)} {Y:XS},Own w Y 0 e k v rows→decide (e≠nT)=true→ ∀g,cY v g→g≠nb:=fun ho he g hg e=>kf ho h.row he (by rw [←e];exact hg);have r2: ∀{e k:Nat} {v:Value} {rows:List (List Value)} {Y:XS},Own w Y 0 e k v rows→decide (e≠aT)=true→ ∀g,cY v g→g≠xb:=fun ho he g hg e=>kf ho h.act he (by rw [←e];exact hg);have r3: ∀{e k:Nat} {v:Value} {rows:List (List Value)} {Y:XS},Own w Y 0 e k v rows→ ∀g,cY v g→g≠c.ab:=fun ho g hg e=>RL ho h.am (by rw [←e];exact hg);refine⟨IU h.row h.act kQ,h.am.eA h.row,h.am.eA h.act,fun g hg=>?_,fun g hg=>?_,fun g hg=>?_,fun g hg=>?_⟩
 ·exact⟨r1 h.om kQ g hg,r2 h.om kQ g hg,r3 h.om g hg,uR h.om h.oa kQ hg,h.sep g hg,uR h.om h.op kQ hg⟩
 ·exact⟨r1 h.oa kQ g hg,r2 h.oa kQ g hg,r3 h.oa g hg,uR h.oa h.om kQ hg,uR h.oa h.ow kQ hg,uR h.oa h.op kQ hg⟩
 ·exact⟨r1 h.ow kQ g hg,r2 h.ow kQ g hg,r3 h.ow g hg,fun hm=>h.sep g hm hg,uR h.ow h.oa kQ hg,uR h.ow h.op kQ hg⟩
 ·exact⟨r1 h.op kQ g hg,r2 h.op kQ g hg,r3 h.op g hg,uR h.op h.om kQ hg,uR h.op h.oa kQ hg,uR h.op h.ow kQ hg⟩
theorem fu.step {c':ph} {x':oN} {mV:List (dc×Nat)} {kS uj oO:List (List Value)} {uT uU:List dF} {Dr:List Int} (h:fu w K nb xb c x vm va vw dZ al rm ra rw ms ws ps) (hX: ∀k,cF nb xb c.ab vm va vw dZ k→X k) (hK: ∀k,K k→X k) (dy: ∀k,X k→k<w.heap.size) (G:XS) (cg:ez G X w X' w') (hG: ∀k,G k→cF nb xb c.ab vm va vw dZ k) (s9:c'.ab=c.ab)
  (h1:(¬G nb∧ui c' gr ia=ui c vm va)∨a7 w' X' nb (ui c' gr ia) nT) (h2:(¬G xb∧Cg x' fy=Cg x vw)∨a7 w' X' xb (Cg x' fy) aT) (h3:(¬G c.ab∧mV=al)∨dR w' X' nX c.ab (fun k:dc=>k.v) nG mV)
  (h4:((∀g,cY vm g→ ¬G g)∧gr=vm∧kS=rm)∨(Own w' X' 0 mT 36 gr kS∧(gr.ownBlock=vm.ownBlock∨ ∃g,gr.ownBlock=some g∧w.heap.size≤g)))
  (h5:((∀g,cY va g→ ¬G g)∧ia=va∧uj=ra)∨(Own w' X' 0 anT 9 ia uj∧(ia.ownBlock=va.ownBlock∨ ∃g,ia.ownBlock=some g∧w.heap.size≤g)))
  (h6:((∀g,cY vw g→ ¬G g)∧fy=vw∧oO=rw)∨(Own w' X' 0 mT 36 fy oO∧gr=vm∧(fy.ownBlock=vw.ownBlock∨ ∃g,fy.ownBlock=some g∧w.heap.size≤g)))
  (h7:((∀g,cY dZ g→ ¬G g)∧jY=dZ∧Dr=ps)∨(Own w' X' 0 3 1 jY (Dr.map I1)∧(jY.ownBlock=dZ.ownBlock∨ ∃g,jY.ownBlock=some g∧w.heap.size≤g)))
  (hm:jo w K kS uT) (hw:jo w K oO uU) (o1:aV.one c'.cm=true) (o2:aV.one x'.vp=true) (o3:aV.one x'.vs=true) (o4:aV.one x'.vq=true):
  fu w' K nb xb c' x' gr ia fy jY mV kS uj oO uT uU Dr∧ ∀k,cF nb xb c'.ab gr ia fy jY k→cF nb xb c.ab vm va vw dZ k∨(X' k∧w.heap.size≤k):=by
 have ap:=h.ap;have jH: ∀k,cF nb xb c.ab vm va vw dZ k→ ¬G k→w'.heap[k]? =w.heap[k]? :=fun k hk hg=>cg.block k (hX k hk) hg;have oe:Mv K w K w':=cg.fi fun k hk=>⟨hK k hk,fun hg=>h.kd k hk (hG k hg)⟩;have q4: ∀g,cY gr g→cY vm g∨(X' g∧w.heap.size≤g):=fun g hg=>by
  rcases h4 with⟨_,e,_⟩|⟨ho,e|⟨g',e,dV⟩⟩
  ·left;rw [←e];exact hg
  ·left;have hg:gr.ownBlock=some g:=hg;rw [e] at hg;exact hg
  ·right;have jg:gr.ownBlock=some g:=hg;rw [e] at jg;cases jg;exact⟨ho.2.2 _ hg,dV⟩
 have q5: ∀g,cY ia g→cY va g∨(X' g∧w.heap.size≤g):=fun g hg=>by
  rcases h5 with⟨_,e,_⟩|⟨ho,e|⟨g',e,dV⟩⟩
  ·left;rw [←e];exact hg
  ·left;have hg:ia.ownBlock=some g:=hg;rw [e] at hg;exact hg
  ·right;have jg:ia.ownBlock=some g:=hg;rw [e] at jg;cases jg;exact⟨ho.2.2 _ hg,dV⟩
 have q6: ∀g,cY fy g→cY vw g∨(X' g∧w.heap.size≤g):=fun g hg=>by
  rcases h6 with⟨_,e,_⟩|⟨ho,_,e|⟨g',e,dV⟩⟩
  ·left;rw [←e];exact hg
  ·left;have hg:fy.ownBlock=some g:=hg;rw [e] at hg;exact hg
  ·right;have jg:fy.ownBlock=some g:=hg;rw [e] at jg;cases jg;exact⟨ho.2.2 _ hg,dV⟩
 have q7: ∀g,cY jY g→cY dZ g∨(X' g∧w.heap.size≤g):=fun g hg=>by
  rcases h7 with⟨_,e,_⟩|⟨ho,e|⟨g',e,dV⟩⟩
  ·left;rw [←e];exact hg
  ·left;have hg:jY.ownBlock=some g:=hg;rw [e] at hg;exact hg
  ·right;have jg:jY.ownBlock=some g:=hg;rw [e] at jg;cases jg;exact⟨ho.2.2 _ hg,dV⟩
 have hc: ∀k,cF nb xb c'.ab gr ia fy jY k→cF nb xb c.ab vm va vw dZ k∨(X' k∧w.heap.size≤k):=fun k hk=>by
  rcases hk with e|e|e|e|e|e|e
  ·exact .inl (.inl e)
  ·exact .inl (.inr (.inl e))
  ·exact .inl (.inr (.inr (.inl (e.trans s9))))
  ·exact(q4 k e).imp (fun e=>.inr (.inr (.inr (.inl e)))) id
  ·exact(q5 k e).imp (fun e=>.inr (.inr (.inr (.inr (.inl e))))) id
  ·exact(q6 k e).imp (fun e=>.inr (.inr (.inr (.inr (.inr (.inl e)))))) id
  ·exact(q7 k e).imp (fun e=>.inr (.inr (.inr (.inr (.inr (.inr e)))))) id
 refine⟨⟨?_,?_,?_,?_,?_,?_,?_,hm.mv oe,hw.mv oe,fun g g1 g2=>?_,fun k hk af=>?_,o1,o2,o3,o4⟩,hc⟩
 ·rcases h1 with⟨e,e'⟩|hr
  ·rw [e'];exact h.row.mv fun k hk _=>⟨hk,jH k (.inl hk) (by rw [hk];exact e)⟩
  ·exact⟨rfl,hr.2⟩
 ·rcases h2 with⟨e,e'⟩|hr
  ·rw [e'];exact h.act.mv fun k hk _=>⟨hk,jH k (.inr (.inl hk)) (by rw [hk];exact e)⟩
  ·exact⟨rfl,hr.2⟩
 ·rw [s9];rcases h3 with⟨e,e'⟩|hr
  ·rw [e'];exact h.am.mv fK (fun k hk _=>⟨hk,jH k (.inr (.inr (.inl hk))) (by rw [hk];exact e)⟩) fun _ h=>h.elim
  ·exact pa hr rfl
 ·rcases h4 with⟨e,rfl,rfl⟩|⟨ho,_⟩
  ·exact h.om.mv fun k hk _=>⟨hk,jH k (.inr (.inr (.inr (.inl hk)))) (e k hk)⟩
  ·exact tg ho fun g hg=>hg
 ·rcases h5 with⟨e,rfl,rfl⟩|⟨ho,_⟩
  ·exact h.oa.mv fun k hk _=>⟨hk,jH k (.inr (.inr (.inr (.inr (.inl hk))))) (e k hk)⟩
  ·exact tg ho fun g hg=>hg
 ·rcases h6 with⟨e,rfl,rfl⟩|⟨ho,_⟩
  ·exact h.ow.mv fun k hk _=>⟨hk,jH k (.inr (.inr (.inr (.inr (.inr (.inl hk)))))) (e k hk)⟩
  ·exact tg ho fun g hg=>hg
 ·rcases h7 with⟨e,rfl,rfl⟩|⟨ho,_⟩
  ·exact h.op.mv fun k hk _=>⟨hk,jH k (.inr (.inr (.inr (.inr (.inr (.inr hk)))))) (e k hk)⟩
  ·exact tg ho fun g hg=>hg
 ·rcases h6 with⟨_,rfl,_⟩|⟨ho,rfl,e|⟨g',e,dV⟩⟩
  ·rcases h4 with⟨_,rfl,_⟩|⟨ho,e|⟨g',e,dV⟩⟩
   ·exact h.sep g g1 g2
   ·exact h.sep g (by have g1:gr.ownBlock=some g:=g1;rw [e] at g1;exact g1) g2
   ·have g1:gr.ownBlock=some g:=g1;rw [e] at g1;cases g1;have:=(h.ow.ge g2).2;omega
  ·exact h.sep g g1 (by have g2:fy.ownBlock=some g:=g2;rw [e] at g2;exact g2)
  ·have g2:fy.ownBlock=some g:=g2;rw [e] at g2;cases g2;have:=(h.om.ge g1).2;omega
 ·rcases hc k af with h8|h8
  ·exact h.kd k hk h8
  ·have:=dy k (hK k hk);omega
end
theorem IV {w:World} {X:XS} {a:Value} {xs:List jy} (ha:Sl w X 7 a (xs.map jy.l)) (hb:xs.length≤2^40):
  Ct pg 157 #[a] w X nX fun v wa w'=>Own w' (made wa w') wa.heap.size 215 7 v (xs.map jy.l):=by
  intro w0 hk;replace ha:=ha.mv hk.dD;apply tu;unfold mA;have hs:=aj.init w0;repeat' first|refine aJ ?_;intros|refine dM ?_ ?_<;>intros|(with_reducible apply Ge);(case hX=>exact hs.has);(case hu=>kernel_rfl);(case hz=>kernel_rfl);intro acc w X ao ho;replace hs:=hs.trans ao|((first|(with_reducible refine av hs ?_)|(with_reducible refine av (bS.trans hs) ?_));intro wa hk;(first|(rename_i h1 h2;(first|(rw [h2])|skip);exact Own.nil _ _ _ _ _)|exact(ho.kp hk).tight))|((with_reducible apply qQ);(case own=>assumption);(case hs=>assumption);(case h0=>exact fun _ h=>h);(case he=>kernel_rfl);(case src=>exact Sl.mv ha (aj.mv hs));(case h1=>simp [aV.one]);(case hb=>simp;omega);(case hl=>simp;omega);intro acc w X ao ho hc ef;replace hs:=ao;rw [dG] at ho)
theorem IW {w:World} {X:XS} {a:Value} {xs:List Int} (ha:Sl w X 1 a (xs.map I1)) (hb:xs.length≤2^40):
  Ct pg 148 #[a] w X nX fun v wa w'=>Own w' (made wa w') wa.heap.size 3 1 v (xs.map I1):=by
  intro w0 hk;replace ha:=ha.mv hk.dD;apply Ar;unfold rV;have hs:=aj.init w0;repeat' first|refine aJ ?_;intros|refine dM ?_ ?_<;>intros|(with_reducible apply Ge);(case hX=>exact hs.has);(case hu=>kernel_rfl);(case hz=>kernel_rfl);intro acc w X ao ho;replace hs:=hs.trans ao|((first|(with_reducible refine av hs ?_)|(with_reducible refine av (bS.trans hs) ?_));intro wa hk;(first|(rename_i h1 h2;(first|(rw [h2])|skip);exact Own.nil _ _ _ _ _)|exact(ho.kp hk).tight))|((with_reducible apply qQ);(case own=>assumption);(case hs=>assumption);(case h0=>exact fun _ h=>h);(case he=>kernel_rfl);(case src=>exact Sl.mv ha (aj.mv hs));(case h1=>simp [aV.one]);(case hb=>simp;omega);(case hl=>simp;omega);intro acc w X ao ho hc ef;replace hs:=ao;rw [dG] at ho)
theorem Xj {w:World} {X:XS} {a:Value} {xs:List fw} (ha:Sl w X 5 a (xs.map fw.l)) (hb:xs.length≤2^40):
  Ct pg 32 #[a] w X nX fun v wa w'=>Own w' (made wa w') wa.heap.size 75 5 v (xs.map fw.l):=by
  intro w0 hk;replace ha:=ha.mv hk.dD;apply wg;unfold oh;have hs:=aj.init w0;repeat' first|refine aJ ?_;intros|refine dM ?_ ?_<;>intros|(with_reducible apply Ge);(case hX=>exact hs.has);(case hu=>kernel_rfl);(case hz=>kernel_rfl);intro acc w X ao ho;replace hs:=hs.trans ao|((first|(with_reducible refine av hs ?_)|(with_reducible refine av (bS.trans hs) ?_));intro wa hk;(first|(rename_i h1 h2;(first|(rw [h2])|skip);exact Own.nil _ _ _ _ _)|exact(ho.kp hk).tight))|((with_reducible apply qQ);(case own=>assumption);(case hs=>assumption);(case h0=>exact fun _ h=>h);(case he=>kernel_rfl);(case src=>exact Sl.mv ha (aj.mv hs));(case h1=>simp [aV.one]);(case hb=>simp;omega);(case hl=>simp;omega);intro acc w X ao ho hc ef;replace hs:=ao;rw [dG] at ho)
section
variable {w w' wa : World} {X X' K K' Y : XS} {nb xb : Nat} {c : ph} {x : oN} {vm va vw dZ gr ia fy jY : Value} {al : List (dc × Nat)} {rm ra rw : List (List Value)} {ms ws : List dF} {ps : List Int}
theorem Ch {Cf:Value} (h:a7 w Y nb (Gd c Cf vm va) nT) (hY: ∀k,Y k→X k) (hi:1≤c.id∧c.id≤2):Ct pg 30 #[ptr nb 0] w X nX fun v _ _=>v=I (20+c.id):=by
 intro w0 hk;have bJ:=(h.mono hY).mv hk.dD;have hs:=aj.init w0;apply IX;unfold zM;repeat' first|refine aJ ?_;intros|((first|(with_reducible refine av hs ?_)|(with_reducible refine av (bS.trans hs) ?_));intro wa hk;rfl)
structure dF.few (m:dF):Prop where
 keys:m.keys.length≤2^40
 seen:m.seen.length≤2^40
 writes:m.writes.length≤2^40
 parts:m.parts.length≤2^40
theorem P0 {m:dF} {vk vs vw vp vr vc vh vd:Value} (h:m.at w X vk vs vw vp vr vc vh vd) (hf:m.few):Ct pg 89 #[m.v vk vs vw vp vr vc vh vd] w X nX fun v wa w'=> ∃ES RN fy Hu,v=m.v ES RN fy Hu vr vc vh vd∧
  Sl w' (made wa w') 1 ES (m.keys.map S1)∧Sl w' (made wa w') 7 RN (m.seen.map jy.l)∧Sl w' (made wa w') 4 fy (m.writes.map KV.l)∧Sl w' (made wa w') 1 Hu (m.parts.map I1):=by
 intro w0 hk;replace h:=h.mv hk.dD;have hs:=aj.init w0;have o1:=h.ranges.one;have o2:=h.gd.one;have o3:=h.fV.one;have o4:=h.fB.one;apply Oz;unfold Ds;refine dp (Hv h.keys hf.keys) kQ hs.has ?_;rintro v1 qJ w1 X1 q1 sj oQ ao;have h1:=h.mv ao.mv;refine dp (IV h1.seen hf.seen) kQ ao.has ?_;rintro v2 zF w2 X2 q2 qI nV bU;have h2:=h1.mv bU.mv;refine dp (ET h2.writes hf.writes) kQ bU.has ?_;rintro v3 uQ w3 X3 q3 nZ mz ea;have h3:=h2.mv ea.mv;refine dp (IW h3.parts hf.parts) kQ ea.has ?_;rintro v4 mu w4 X4 q4 qg lI fq;have z1:=ao.kp.size;have z2:=bU.kp.size;have z3:=ea.kp.size;have u1:Own w1 X1 w0.heap.size _ _ v1 _:=q1.up oQ sj;have u2:Own w2 X2 w0.heap.size _ _ v2 _:=q2.up nV zQ;have u3:Own w3 X3 w0.heap.size _ _ v3 _:=q3.up mz zQ;have u4:Own w4 X4 w0.heap.size _ _ v4 _:=q4.up lI zQ;replace u1:=((u1.since bU).since ea).since fq;replace u2:=(u2.since ea).since fq;replace u3:=u3.since fq;have p1:=u1.sl.one;have p2:=u2.sl.one;have p3:=u3.sl.one;have p4:=u4.sl.one;replace hs:=((hs.trans ao).trans (bU.trans ea)).trans fq;clear ao bU ea fq;obtain⟨a1,a2,a3,rfl⟩:=u1.sl.form;obtain⟨b1,b2,b3,rfl⟩:=u2.sl.form;obtain⟨c1,c2,c3,rfl⟩:=u3.sl.form;obtain⟨e1,e2,e3,rfl⟩:=u4.sl.form;repeat' first|refine aJ ?_;intros
 exact av hs fun wa bk=>⟨_,_,_,_,rfl,(u1.kp bk).tight.sl,(u2.kp bk).tight.sl,(u3.kp bk).tight.sl,(u4.kp bk).tight.sl⟩
def dF.l9 (m:dF) (no:Int):dF:= { m with fr:=no,to:=m.range }
theorem IY {m:dF} {vk vs fy vp vr vc vh vd:Value} (h:fu w K nb xb c x vm va vw dZ al rm ra rw ms ws ps) (hC:FX (cF nb xb c.ab vm va vw dZ) X w) (hK:FX K X w) (hm:m.at w K vk vs fy vp vr vc vh vd) (hi:1≤c.id∧c.id≤2) (hl:rm.length≤2^20):
  Ct pg 88 #[ptr nb 0,m.v vk vs fy vp vr vc vh vd] w X (cF nb xb c.ab vm va vw dZ) fun _ wa w'=> ∃gr kS,(∀k,cF nb xb c.ab gr va vw dZ k→cF nb xb c.ab vm va vw dZ k∨made wa w' k)∧
   fu w' K nb xb c x gr va vw dZ al kS ra rw(ms++[m.l9 (20+c.id)]) ws ps∧kS.length=rm.length+1:=by
 intro w0 hk;have hT:=hC.ft hk;have oe:Mv K w K w0:=hk.fi fun k af=>(hK k af).1;replace h:=h.mv (fun k af=>hk.block k (hC k af).1) oe h.kd;replace hm:=hm.mv oe;have kT:=hC.kp hk;have jz: ∀k,K k→aR w0 k:=fun k af=>(hK.kp hk k af).1;have uV:=hm.mv (Mv.sub jz);have q1:=uV.keys.one;have q2:=uV.seen.one;have q3:=uV.writes.one;have q4:=uV.parts.one;have q5:=uV.ranges.one;have q6:=uV.gd.one;have q7:=uV.fV.one;have q8:=uV.fB.one;obtain⟨a1,a2,a3,rfl⟩:=uV.keys.form;obtain⟨b1,b2,b3,rfl⟩:=uV.seen.form;obtain⟨c1,c2,c3,rfl⟩:=uV.writes.form;obtain⟨e1,e2,e3,rfl⟩:=uV.parts.form;have bJ:=h.row.mono fun k e=>(kT k (.inl e)).1;have hs:=aj.init w0;apply IZ;unfold zN;refine gC (Ch bJ (fun _ h=>h) hi) kQ hs.has fun w1 X1 ao=>?_;have dU:=hT.since ao;have h1:=h.mv (fun k af=>ao.kp.block k (kT k af).1) (ao.fZ jz) h.kd;have ml:=bJ.since ao;have ovm:=h1.om.sl.one;have kU: ∀k,K k→X1 k:=fun k af=>ao.sub k (jz k af);have wL: ∀k,cF nb xb c.ab vm va vw dZ k→X1 k:=fun k af=>ao.sub k (kT k af).1;have oL:=hm.mv (ao.fZ jz);replace hs:=hs.trans ao;repeat' first|refine aJ ?_;intros|(with_reducible apply FY);(case hX=>exact hs.has);(case he=>kernel_rfl);(case hk=>rfl);intro acc w X ao ho;obtain⟨_,_,_,rfl⟩:=ho.sl.form;replace hs:=hs.trans ao
 have cW:=dU.since ao;have h2:=h1.mv (fun k af=>ao.kp.block k (wL k af)) (ao.fZ kU) h.kd;have ir:=oL.mv (ao.fZ kU);have rW: ∀k,cF nb xb c.ab vm va vw dZ k→X k:=fun k af=>ao.sub k (wL k af);have mB: ∀k,K k→X k:=fun k af=>ao.sub k (kU k af);have ap:=h2.ap;refine BH (bytes:=416) (h2.om.mono fun k e=>rW k (.inr (.inr (.inr (.inl e))))) cW.s.has (aF _) kQ ho.sl (fun r hr u hu=>?_) (by simp only [bu];omega) (by simp only [bu];omega) fun v5 w5 X5 c5 jU uB=>?_
 ·rw [bw] at hr;subst hr;simp only [gS,kR,or_false] at hu;rcases hu with rfl|rfl|rfl|rfl|rfl|rfl|rfl|rfl|rfl|rfl|rfl|rfl|rfl|rfl|rfl|rfl|rfl|rfl|rfl|rfl|rfl|rfl|rfl|rfl|rfl|rfl|rfl|rfl|rfl|rfl|rfl|rfl|rfl|rfl|rfl|rfl<;>first|rfl|assumption
 have Bp:a7 w5 X5 nb (ui c vm va) nT:=⟨c5.sub _ (rW _ (.inl rfl)),(c5.block nb (rW _ (.inl rfl)) fun e=>(ap.m _ e).1 rfl).trans h2.row.2⟩;have ov5:=jU.sl.one;obtain⟨t1,t2,t3,rfl⟩:=jU.sl.form;clear hs ao ho;repeat' first|refine aJ ?_;intros
 refine qu (o:=10) Bp zQ kQ (by simp) rfl c5.has fun w6 X6 c6 IN=>?_;have cg:ez (fun k=>cY vm k∨k=nb) _ _ X6 w6:=(c5.mono fun k _ e=>.inl e).trans (c6.mono fun k _ e=>.inr e);have MS:=kf jU Bp kQ;have ho6:Own w6 X6 0 mT 36 (.slice t1 t2 t3) _:=tX jU fun g hg=>⟨c6.sub g (jU.2.2 g hg),c6.block g (jU.2.2 g hg) fun e=>MS (by rw [←e];exact hg)⟩;have ed:=h2.step (c':=c) (x':=x) (gr:=.slice t1 t2 t3) (ia:=va) (fy:=vw) (jY:=dZ) (mV:=al) (uj:=ra) (oO:=rw) (uU:=ws) (Dr:=ps) (uT:=ms++[m.l9 (20+c.id)]) rW mB cW.s.has (fun k=>cY vm k∨k=nb) cg (fun k af=>af.elim (fun e=>.inr (.inr (.inr (.inl e)))) .inl) rfl
  (.inr IN) (.inl ⟨fun e=>e.elim (fun e=>(ap.m _ e).2.1 rfl) fun e=>ap.nx e.symm,rfl⟩) (.inl ⟨fun e=>e.elim (fun e=>(ap.m _ e).2.2.1 rfl) fun e=>ap.an e,rfl⟩) (.inr ⟨ho6,uB⟩)
  (.inl ⟨fun g hg e=>e.elim (fun e=>(ap.a g hg).2.2.2.1 e) fun e=>(ap.a g hg).1 e,rfl,rfl⟩) (.inl ⟨fun g hg e=>e.elim (fun e=>(ap.w g hg).2.2.2.1 e) fun e=>(ap.w g hg).1 e,rfl,rfl⟩) (.inl ⟨fun g hg e=>e.elim (fun e=>(ap.p g hg).2.2.2.1 e) fun e=>(ap.p g hg).1 e,rfl,rfl⟩)
  (h2.hm.add ⟨_,_,_,_,_,_,_,_,rfl,⟨ir.keys,ir.seen,ir.writes,ir.parts,ir.ranges,ir.gd,ir.fV,ir.fB⟩⟩) h2.hw h2.o1 h2.o2 h2.o3 h2.o4
 have eX:=cW.fM (F':=cF nb xb c.ab (.slice t1 t2 t3) va vw dZ) cg (fun k af=>af.elim (fun e=>.inr (.inr (.inr (.inl e)))) .inl) ed.2;have gX: ∀k,K k→X6 k:=fun k af=>cg.sub k (mB k af);exact eX.fin fun wa bk=>⟨_,_,eX.gU bk fun _ h=>h,ed.1.mv (fun k af=>bk.block k (eX.bK k af)) (bk.fi gX) ed.1.kd,by simp⟩
def dF.asked (m:dF) (x:oN):dF:= { m with dK:=x.dK,bF:=x.st }
theorem LY {m:dF} {vk vs fy vp vr vc vh vd:Value} (h:fu w K nb xb c x vm va vw dZ al rm ra rw ms ws ps) (hC:FX (cF nb xb c.ab vm va vw dZ) X w) (hK:FX K X w) (hm:m.at w K vk vs fy vp vr vc vh vd) (hf:m.few) (hi:1≤c.id∧c.id≤2) (hl:rm.length≤2^20) (LU:rw.length≤2^20):
  Ct pg 36 #[ptr nb 0,ptr xb 0,m.v vk vs fy vp vr vc vh vd] w X (cF nb xb c.ab vm va vw dZ) fun _ wa w'=> ∃gr fy kS oO K',(∀k,cF nb xb c.ab gr va fy dZ k→cF nb xb c.ab vm va vw dZ k∨made wa w' k)∧(∀k,K' k→K k∨made wa w' k)∧(∀k,K k→K' k)∧
   fu w' K' nb xb c x gr va fy dZ al kS ra oO (ms++[(m.asked x).l9 (20+c.id)]) (ws++[m.asked x]) ps∧kS.length=rm.length+1∧oO.length=rw.length+1:=by
 intro w0 hk;have hT:=hC.ft hk;have oe:Mv K w K w0:=hk.fi fun k af=>(hK k af).1;replace h:=h.mv (fun k af=>hk.block k (hC k af).1) oe h.kd;replace hm:=hm.mv oe;have kT:=hC.kp hk;have jz: ∀k,K k→aR w0 k:=fun k af=>(hK.kp hk k af).1;have uV:=hm.mv (Mv.sub jz);have q5:=uV.ranges.one;have q6:=uV.gd.one;have q7:=uV.fV.one;have q8:=uV.fB.one;obtain⟨a1,a2,a3,rfl⟩:=uV.keys.form;obtain⟨b1,b2,b3,rfl⟩:=uV.seen.form;obtain⟨c1,c2,c3,rfl⟩:=uV.writes.form;obtain⟨e1,e2,e3,rfl⟩:=uV.parts.form;have jl:=h.act.mono fun k e=>(kT k (.inr (.inl e))).1;have ovw:=h.ow.sl.one;have ap:=h.ap;have hs:=aj.init w0;have o2:=h.o2;have o3:=h.o3;have o4:=h.o4;apply Lf;unfold AP;repeat' first|refine aJ ?_;intros|(with_reducible apply FY);(case hX=>exact hs.has);(case he=>kernel_rfl);(case hk=>rfl);intro acc w X ao ho;obtain⟨_,_,_,rfl⟩:=ho.sl.form;replace hs:=hs.trans ao
 have cW:=hT.since ao;have h2:=h.mv (fun k af=>ao.kp.block k (kT k af).1) (ao.fZ jz) h.kd;have ir:=hm.mv (ao.fZ jz);have rW: ∀k,cF nb xb c.ab vm va vw dZ k→X k:=fun k af=>ao.sub k (kT k af).1;have mB: ∀k,K k→X k:=fun k af=>ao.sub k (jz k af);refine BH (bytes:=416) (h2.ow.mono fun k e=>rW k (.inr (.inr (.inr (.inr (.inr (.inl e))))))) cW.s.has (aF _) kQ ho.sl (fun r hr u hu=>?_) (by simp only [bu];omega) (by simp only [bu];omega) fun v5 w5 X5 c5 jU uB=>?_
 ·rw [bw] at hr;subst hr;simp only [gS,kR,or_false] at hu;rcases hu with rfl|rfl|rfl|rfl|rfl|rfl|rfl|rfl|rfl|rfl|rfl|rfl|rfl|rfl|rfl|rfl|rfl|rfl|rfl|rfl|rfl|rfl|rfl|rfl|rfl|rfl|rfl|rfl|rfl|rfl|rfl|rfl|rfl|rfl|rfl|rfl<;>first|rfl|assumption
 have OA:a7 w5 X5 xb (Cg x vw) aT:=⟨c5.sub _ (rW _ (.inr (.inl rfl))),(c5.block xb (rW _ (.inr (.inl rfl))) fun e=>(ap.w _ e).2.1 rfl).trans h2.act.2⟩;obtain⟨t1,t2,t3,rfl⟩:=jU.sl.form;clear hs ao ho jl;repeat' first|refine aJ ?_;intros
 refine qu (o:=10) OA zQ kQ (by simp) rfl c5.has fun w6 X6 c6 IN=>?_;have cg:ez (fun k=>cY vw k∨k=xb) _ _ X6 w6:=(c5.mono fun k _ e=>.inl e).trans (c6.mono fun k _ e=>.inr e);have MS:=kf jU OA kQ;have ho6:Own w6 X6 0 mT 36 (.slice t1 t2 t3) _:=tX jU fun g hg=>⟨c6.sub g (jU.2.2 g hg),c6.block g (jU.2.2 g hg) fun e=>MS (by rw [←e];exact hg)⟩;have ed:=h2.step (c':=c) (x':=x) (gr:=vm) (ia:=va) (fy:=.slice t1 t2 t3) (jY:=dZ) (mV:=al) (kS:=rm) (uj:=ra) (uT:=ms) (uU:=ws++[m.asked x]) (Dr:=ps) rW mB cW.s.has (fun k=>cY vw k∨k=xb) cg (fun k af=>af.elim (fun e=>.inr (.inr (.inr (.inr (.inr (.inl e)))))) fun e=>.inr (.inl e)) rfl
  (.inl ⟨fun e=>e.elim (fun e=>(ap.w _ e).1 rfl) fun e=>ap.nx e,rfl⟩) (.inr IN) (.inl ⟨fun e=>e.elim (fun e=>(ap.w _ e).2.2.1 rfl) fun e=>ap.ax e,rfl⟩)
  (.inl ⟨fun g hg e=>e.elim (fun e=>(ap.m g hg).2.2.2.2.1 e) fun e=>(ap.m g hg).2.1 e,rfl,rfl⟩) (.inl ⟨fun g hg e=>e.elim (fun e=>(ap.a g hg).2.2.2.2.1 e) fun e=>(ap.a g hg).2.1 e,rfl,rfl⟩) (.inr ⟨ho6,rfl,uB⟩) (.inl ⟨fun g hg e=>e.elim (fun e=>(ap.p g hg).2.2.2.2.2 e) fun e=>(ap.p g hg).2.1 e,rfl,rfl⟩)
  h2.hm (h2.hw.add ⟨_,_,_,_,_,_,_,_,rfl,⟨ir.keys,ir.seen,ir.writes,ir.parts,ir.ranges,ir.gd,ir.fV,ir.fB⟩⟩) h2.o1 h2.o2 h2.o3 h2.o4
 have eX:=cW.fM (F':=cF nb xb c.ab vm va (.slice t1 t2 t3) dZ) cg (fun k af=>af.elim (fun e=>.inr (.inr (.inr (.inr (.inr (.inl e)))))) fun e=>.inr (.inl e)) ed.2;have gX: ∀k,K k→X6 k:=fun k af=>cg.sub k (mB k af);have akQ:Mv K _ K w6:=cg.fi fun k af=>⟨mB k af,fun hg=>h2.kd k af (hg.elim (fun e=>.inr (.inr (.inr (.inr (.inr (.inl e)))))) fun e=>.inr (.inl e))⟩;have IT:(m.asked x).at w6 K (.slice a1 a2 a3) (.slice b1 b2 b3) (.slice c1 c2 c3) (.slice e1 e2 e3) vr vc vh vd:=by
  have:=ir.mv akQ;exact⟨this.keys,this.seen,this.writes,this.parts,this.ranges,this.gd,this.fV,this.fB⟩
 have h6:=ed.1;repeat' first|refine aJ ?_;intros
 refine dp (P0 (m:=m.asked x) (IT.mv (Mv.sub gX)) ⟨hf.keys,hf.seen,hf.writes,hf.parts⟩) kQ eX.s.has ?_;rintro _ ER w7 X7 ⟨ES,RN,vw2,Hu,rfl,u1,u2,u3,u4⟩ PZ Eb gG;have kC:=eX.since gG;have hz7:=gG.kp.size;have akR: ∀k,(K k∨made ER w7 k)→ ¬cF nb xb c.ab vm va (.slice t1 t2 t3) dZ k:=fun k af OB=>af.elim (fun e=>h6.kd k e OB) fun e=>by have:=h6.fx k OB;have:=e.1;omega
 have h7:fu w7 (fun k=>K k∨made ER w7 k) nb xb c x vm va (.slice t1 t2 t3) dZ al rm ra _ ms (ws++[m.asked x]) ps:=h6.mv (fun k af=>gG.kp.block k (eX.bK k af)) (fun k af _=>⟨.inl af,gG.kp.block k (gX k af)⟩) akR;have EU:FX (fun k=>K k∨made ER w7 k) X7 w7:=fun k af=>af.elim (fun e=>⟨gG.sub k (gX k e),gG.has k (gG.sub k (gX k e))⟩) fun e=>⟨Eb k e,e.2⟩;have Oy:=IT.mv (Y:=fun k=>K k∨made ER w7 k) fun k af _=>⟨.inl af,gG.kp.block k (gX k af)⟩;have akS:(m.asked x).at w7 (fun k=>K k∨made ER w7 k) ES RN vw2 Hu vr vc vh vd:=⟨u1.mono fun k e=>.inr e,u2.mono fun k e=>.inr e,u3.mono fun k e=>.inr e,u4.mono fun k e=>.inr e,Oy.ranges,Oy.gd,Oy.fV,Oy.fB⟩;refine kC.call (IY (m:=m.asked x) h7 (fun k af=>⟨kC.bK k af,kC.s.has k (kC.bK k af)⟩) EU akS hi hl) kQ (fun _ h=>h) fun v wa8 w8 X8 hq adl UC od c8=>?_;obtain⟨gr,kS,hC8,h8,Yr⟩:=hq;have I0:=od.less hC8;have LZ: ∀k,(K k∨made ER w7 k)→X8 k:=fun k af=>c8.sub k (EU k af).1;have z0:=eX.s.kp.size;have z8:=c8.size;have hs:=aj.ct c8.has
 skip
 exact I0.fin fun wa bk=>⟨_,_,_,_,_,I0.gU bk fun _ h=>h,fun k af=>af.imp id fun e=>⟨by have:=e.1;omega,by have:=e.2;have:=bk.size;omega⟩,fun k e=>.inl e,h8.mv (fun k af=>bk.block k (I0.bK k af)) (bk.fi LZ) h8.kd,Yr,by simp⟩
abbrev UD (code:Int) (t:dc) (st:cw) (on:Bool) (vs:Value):List Value:=[I code,I t.gM,I t.ga,I t.sq,I st.wall,I st.ep,I st.node,B on,vs]
theorem zx {code:Int} {t:dc} {st:cw} {on:Bool} {vs:Value} (h:fu w K nb xb c x vm va vw dZ al rm ra rw ms ws ps) (hC:FX (cF nb xb c.ab vm va vw dZ) X w) (hK:FX K X w) (ovs:aV.one vs=true) (hl:ra.length≤2^20):
  Ct pg 34 #[ptr nb 0,ptr xb 0,.agg (UD code t st on vs).toArray] w X (cF nb xb c.ab vm va vw dZ) fun _ wa w'=> ∃ia,(∀k,cF nb xb c.ab vm ia vw dZ k→cF nb xb c.ab vm va vw dZ k∨made wa w' k)∧
   fu w' K nb xb c x vm ia vw dZ (xA x.dK al) rm (ra++[UD code x.dK st on vs]) rw ms ws ps:=by
 intro w0 hk;have hT:=hC.ft hk;have oe:Mv K w K w0:=hk.fi fun k af=>(hK k af).1;replace h:=h.mv (fun k af=>hk.block k (hC k af).1) oe h.kd;have kT:=hC.kp hk;have jz: ∀k,K k→aR w0 k:=fun k af=>(hK.kp hk k af).1;have bJ:=h.row.mono fun k e=>(kT k (.inl e)).1;have jl:=h.act.mono fun k e=>(kT k (.inr (.inl e))).1;have ova:=h.oa.sl.one;have ovm:=h.om.sl.one;have o1:=h.o1;have ap:=h.ap;have hs:=aj.init w0;apply Lh;unfold AQ;repeat' first|refine aJ ?_;intros
 refine adm (kv:=fun k:dc=>k.v) (k:=x.dK) (kt:=27) (et:=110) (pa h.am (Y:=aR w0) (kT _ (.inr (.inr (.inl rfl)))).1) fK (fun _ h=>h.elim) BI kQ hs.has fun w1 X1 c1 oL=>?_;have adn:=h.step (c':=c) (x':=x) (gr:=vm) (ia:=va) (fy:=vw) (jY:=dZ) (mV:=xA x.dK al) (kS:=rm) (uj:=ra) (oO:=rw) (uT:=ms) (uU:=ws) (Dr:=ps) (fun k af=>(kT k af).1) jz hs.has (fun k=>k=c.ab) c1 (fun k af=>.inr (.inr (.inl af))) rfl
  (.inl ⟨fun e=>ap.an e.symm,rfl⟩) (.inl ⟨fun e=>ap.ax e.symm,rfl⟩) (.inr oL) (.inl ⟨fun g hg e=>(ap.m g hg).2.2.1 e,rfl,rfl⟩) (.inl ⟨fun g hg e=>(ap.a g hg).2.2.1 e,rfl,rfl⟩) (.inl ⟨fun g hg e=>(ap.w g hg).2.2.1 e,rfl,rfl⟩) (.inl ⟨fun g hg e=>(ap.p g hg).2.2.1 e,rfl,rfl⟩) h.hm h.hw h.o1 h.o2 h.o3 h.o4
 have h1:=adn.1;have dU:=hT.fM (F':=cF nb xb c.ab vm va vw dZ) c1 (fun k af=>.inr (.inr (.inl af))) fun k af=>.inl af;have kU: ∀k,K k→X1 k:=fun k af=>c1.sub k (jz k af);have ml:=h1.row.mono fun k e=>dU.bK k (.inl e);have xB:=h1.act.mono fun k e=>dU.bK k (.inr (.inl e));clear hs bJ jl;have hs:=aj.ct dU.s.has;repeat' first|refine aJ ?_;intros|(with_reducible apply FY);(case hX=>exact hs.has);(case he=>kernel_rfl);(case hk=>rfl);intro acc w X ao ho;obtain⟨_,_,_,rfl⟩:=ho.sl.form;replace hs:=hs.trans ao
 have cW:=dU.since ao;have h2:=h1.mv (fun k af=>ao.kp.block k (dU.bK k af)) (ao.fZ kU) h1.kd;have mB: ∀k,K k→X k:=fun k af=>ao.sub k (kU k af);refine BH (bytes:=88) (h2.oa.mono fun k e=>cW.bK k (.inr (.inr (.inr (.inr (.inl e)))))) cW.s.has (aF _) kQ ho.sl (fun r hr u hu=>?_) (by simp only [bu];omega) (by simp only [bu];omega) fun v5 w5 X5 c5 jU uB=>?_
 ·rw [bw] at hr;subst hr;simp only [gS,kR,or_false] at hu;rcases hu with rfl|rfl|rfl|rfl|rfl|rfl|rfl|rfl|rfl<;>first|rfl|assumption
 have Bp:a7 w5 X5 nb (ui c vm va) nT:=⟨c5.sub _ (cW.bK _ (.inl rfl)),(c5.block nb (cW.bK _ (.inl rfl)) fun e=>(ap.a _ e).1 rfl).trans h2.row.2⟩;obtain⟨t1,t2,t3,rfl⟩:=jU.sl.form;clear hs ao ho ml xB;repeat' first|refine aJ ?_;intros
 refine qu (o:=11) Bp zQ kQ (by simp) rfl c5.has fun w6 X6 c6 IN=>?_;have cg:ez (fun k=>cY va k∨k=nb) _ _ X6 w6:=(c5.mono fun k _ e=>.inl e).trans (c6.mono fun k _ e=>.inr e);have MS:=kf jU Bp kQ;have ho6:Own w6 X6 0 anT 9 (.slice t1 t2 t3) _:=tX jU fun g hg=>⟨c6.sub g (jU.2.2 g hg),c6.block g (jU.2.2 g hg) fun e=>MS (by rw [←e];exact hg)⟩;have ed:=h2.step (c':=c) (x':=x) (gr:=vm) (ia:=.slice t1 t2 t3) (fy:=vw) (jY:=dZ) (mV:=xA x.dK al) (kS:=rm) (oO:=rw) (uT:=ms) (uU:=ws) (Dr:=ps) cW.bK mB cW.s.has (fun k=>cY va k∨k=nb) cg (fun k af=>af.elim (fun e=>.inr (.inr (.inr (.inr (.inl e))))) .inl) rfl
  (.inr IN) (.inl ⟨fun e=>e.elim (fun e=>(ap.a _ e).2.1 rfl) fun e=>ap.nx e.symm,rfl⟩) (.inl ⟨fun e=>e.elim (fun e=>(ap.a _ e).2.2.1 rfl) fun e=>ap.an e,rfl⟩) (.inl ⟨fun g hg e=>e.elim (fun e=>(ap.m g hg).2.2.2.1 e) fun e=>(ap.m g hg).1 e,rfl,rfl⟩)
  (.inr ⟨ho6,uB⟩) (.inl ⟨fun g hg e=>e.elim (fun e=>(ap.w g hg).2.2.2.2.1 e) fun e=>(ap.w g hg).1 e,rfl,rfl⟩) (.inl ⟨fun g hg e=>e.elim (fun e=>(ap.p g hg).2.2.2.2.1 e) fun e=>(ap.p g hg).1 e,rfl,rfl⟩)
  h2.hm h2.hw h2.o1 h2.o2 h2.o3 h2.o4
 have eX:=cW.fM (F':=cF nb xb c.ab vm (.slice t1 t2 t3) vw dZ) cg (fun k af=>af.elim (fun e=>.inr (.inr (.inr (.inr (.inl e))))) .inl) ed.2;have gX: ∀k,K k→X6 k:=fun k af=>cg.sub k (mB k af)
 skip
 exact eX.fin fun wa bk=>⟨_,eX.gU bk fun _ h=>h,ed.1.mv (fun k af=>bk.block k (eX.bK k af)) (bk.fi gX) ed.1.kd⟩
theorem I2 (h:a7 w Y nb (ui c vm va) nT) (hY:FX Y X w) (o1:aV.one c.cm=true) (o2:aV.one vm=true) (o3:aV.one va=true):Ct pg 35 #[ptr nb 0] w X (· =nb) fun v _ w'=>v= .agg #[vm,va]∧a7 w' Y nb (ui c aN aN) nT:=by
 intro w0 hk;have hF:FX (· =nb) X w:=fun k af=>by subst af;exact hY _ h.1
 have hT:=hF.ft hk;have h0:=h.mv (hk.fi fun k af=>(hY k af).1);have hY0:=hY.kp hk;have bJ:=h0.mono fun k e=>(hY0 k e).1;have hs:=aj.init w0;apply I3;unfold zO;repeat' first|refine aJ ?_;intros
 refine FO (o:=10) bJ zQ kQ (by simp) rfl rfl hT.s.has fun w2 X2 c2 qU=>?_;have cW:=hT.fM (F':=(· =nb)) c2 (fun k af=>af) fun k af=>.inl af;repeat' first|refine aJ ?_;intros
 exact cW.fin fun wa bk=>⟨rfl,⟨h.1,(bk.block nb qU.1).trans qU.2⟩⟩
theorem SE {code:Int} (h:fu w K nb xb c x vm va vw dZ al rm ra rw ms ws ps) (hC:FX (cF nb xb c.ab vm va vw dZ) X w) (hK:FX K X w) (hp:x.pre=false) (hl:ra.length≤2^20):
  Ct pg 90 #[ptr nb 0,ptr xb 0,I code] w X (cF nb xb c.ab vm va vw dZ) fun _ wa w'=> ∃ia,(∀k,cF nb xb c.ab vm ia vw dZ k→cF nb xb c.ab vm va vw dZ k∨made wa w' k)∧
   fu w' K nb xb c x vm ia vw dZ (xA x.dK al) rm (ra++[UD code x.dK .zero false aN]) rw ms ws ps:=by
 intro w0 hk;have hT:=hC.ft hk;have oe:Mv K w K w0:=hk.fi fun k af=>(hK k af).1;replace h:=h.mv (fun k af=>hk.block k (hC k af).1) oe h.kd;have kT:=hC.kp hk;have hs:=aj.init w0;apply HS;unfold yC;repeat' first|refine aJ ?_;intros
 refine hT.call (zx (code:=code) (t:=.zero) (st:=.zero) (on:=false) (vs:=aN) h kT (hK.kp hk) rfl hl) kQ (fun _ h=>h) fun v qJ w1 X1 hq sj oQ dU c1=>?_;obtain⟨ia,wL,h1⟩:=hq;have Gf:=dU.less wL;have xB:=h1.act.mono fun k e=>Gf.bK k (.inr (.inl e));have kU: ∀k,K k→X1 k:=fun k af=>c1.sub k (hK.kp hk k af).1;rw [show Cg x vw=Cg { x with pre:=false } vw by rw [←hp]] at xB;clear hs;have hs:=aj.ct Gf.s.has;repeat' first|refine aJ ?_;intros
 exact Gf.fin fun wa bk=>⟨_,Gf.gU bk fun _ h=>h,h1.mv (fun k af=>bk.block k (Gf.bK k af)) (bk.fi kU) h1.kd⟩
end
end Go.Proofs.YtbpnemeooenpmaaGreat
