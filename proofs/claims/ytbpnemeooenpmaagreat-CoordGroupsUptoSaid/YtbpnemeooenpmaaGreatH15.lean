/-
 Part 15 of the proof: what the last text leans on.
-/
import Derived.Test.YtbpnemeooenpmaaGreatProg
import Derived.Recover
import Derived.Shelf.Abstract
import Derived.RegionTactic
import Derived.KernelRfl
import Derived.Tactics
import Derived.Test.YtbpnemeooenpmaaGreatH14
open Array renaming replicate → dH
open Go.Exit renaming thenS → kl
open Go.Act renaming eval → fH
open Go.Value renaming string → bB
open List renaming length_singleton → bz, length_cons → ba, mem_cons → gU, not_mem_nil → kU, length_nil → bL, length_tail → nr, length_map → aI, length_append → av, length_take → bU, nil_append → dG, mem_singleton → bw, foldl_cons → gT, map_append → bC, getElem?_append_left → qt, getElem?_append_right → ph
open Nat renaming zero_le → aG, le_refl → bg
open Bool renaming false_eq_true → a8
open Option.some renaming injEq → az
open Go.Instr renaming typeAssert → xy
open Go.Obj.cells renaming injEq → lT
set_option linter.unusedVariables false
set_option linter.unusedSimpArgs false
namespace Go.Proofs.YtbpnemeooenpmaaGreat
open Go.Proofs.Tryz renaming prog → pg
open Go.aR
set_option maxRecDepth 100000
set_option maxHeartbeats 1000000
set_option linter.unusedVariables false
set_option linter.unusedSimpArgs false
theorem adq:Idle pg 45:=by
 refine⟨by kernel_rfl,fun eB w=>?_⟩;refine callsD_of_wpS Tryz.func45 rfl fun c₀ cs hu=>?_;rw [Tryz.ntmps45];have fK:8≤(eB++dH (13-eB.size) undef).size:=by simp;omega
 generalize eB++dH (13-eB.size) undef=tm at fK;have h2:2<tm.size:=by omega
 have h5:5<tm.size:=by omega
 have h7:7<tm.size:=by omega
 apply wpS_seq;apply wpS_region;simp [wpOpsS,go_sem,recoverD,hu,kl];refine wpS_of_wp ?_;refine wp_block ?_;apply wp_seq;apply wp_region;simp [wpOps,go_sem,Exit.then,h2,h5,h7];refine .inl (wp_cond (t:=true) (by simp [fH,h2,h5,h7]) ?_);simp only [if_true];apply wp_region;simp [wpOps,go_sem,Exit.then,Exit.inBlock,h2,h5,h7];cases c₀;simp_all [bodyPostS,results,Tryz.results45]
theorem ZC {w:World} {x:Value} {st:TypeId} :(xy (.iface 137 x) st 137 true).run pg w= .ok (.tuple #[x,.bool true]) w:=by
 obtain⟨fs,hu⟩: ∃fs,pg.underlying 137=some (.struct fs):=⟨_,rfl⟩;simp [xy,run_underlying hu]
theorem ql {W:World} {k:Nat} {x:Value} {ty:TypeId} (h:W.heap[k]? =some (.cells #[x] ty (0,0))):W.cell? ⟨k,0,none⟩=some x:=by simp [World.cell?,h]
theorem xz {W:World} {k:Nat} {x:Value} {ty:TypeId} (h:W.heap[k]? =some (.cells #[x] ty (0,0))):W.frozen? ⟨k,0,none⟩=false:=by simp [World.frozen?,h]
theorem IV {w:World} {b:Nat} {x:Value} {ty:TypeId} (v:Value) (hb:w.heap[b]? =some (.cells #[x] ty (0,0))) (k:Nat):(w.setCell ⟨b,0,none⟩ v).heap[k]? =if k=b then some (.cells #[v] ty (0,0))else w.heap[k]? :=by
 unfold World.setCell;simp only [Array.getElem?_modify];by_cases h:b=k
 ·subst h;simp [hb]
 ·rw [if_neg h,if_neg fun e=>h e.symm]
theorem abP {w:World} {k:Nat} {e:Int} (h:w.cell? ⟨k,0,none⟩=some (I e)):(loadVar 28 ⟨k,0,none⟩).run pg w= .ok (I e) w:=by
 have hag:(isAgg 28).run pg w= .ok false w:=run_isAgg_plain (d:=.int .i64) kQ rfl w;simp [loadVar,hag,run_load,h]
theorem abQ {w:World} {k:Nat} {v:Value} (h:w.cell? ⟨k,0,none⟩=some v):(loadVar 33 ⟨k,0,none⟩).run pg w= .ok v w:=by
 have hag:(isAgg 33).run pg w= .ok false w:=run_isAgg_plain (d:=.slice 64) kQ rfl w;simp [loadVar,hag,run_load,h]
theorem afY:Tryz.f13.results= #[.cell 4 33,.cell 5 28]:=by kernel_rfl
theorem abR {R:Ending→World→Prop} {RP:List PanicEntry→World→Prop}
  (hR: ∀ch w,RP ch w→ ∃e,ch=tZ e∧R (.returned (.tuple #[.slice none 0 0,I e])) w):Dp pg Ec Tryz.f13 R 45 [4,5] [] RP:=by
 intro ks IW ch w tv II rR hh hv fK hRP;obtain⟨k1,k2,rfl⟩: ∃a b,ks=[a,b]:=by
  match ks,tv with
  |[a,b],_=>exact⟨a,b,rfl⟩
 obtain⟨c1,c2,rfl⟩: ∃a b,IW=[a,b]:=by
  match IW,II with
  |[a,b],_=>exact⟨a,b,rfl⟩
 obtain⟨ty1,g1⟩:=hh 0 k1 c1 rfl rfl;obtain⟨Yn,g2⟩:=hh 1 k2 c2 rfl rfl;have s1:c1.size=1:=fK 0 4 1 c1 rfl kQ rfl;have s2:c2.size=1:=fK 1 5 1 c2 rfl kQ rfl;obtain⟨e,rfl,_⟩:=hR _ _ (hRP w (aR.Outside.refl _ _));refine callsD_of_wpS Tryz.func45 rfl fun c₀ cs hu=>?_;rw [Tryz.ntmps45];simp only [List.map_cons,List.map_nil,List.size_toArray,ba,bL];apply wpS_seq;apply wpS_region;simp [wpOpsS,go_sem,recoverD,hu,kl];refine wpS_of_wp ?_;refine wp_block ?_;apply wp_seq;apply wp_region;simp [wpOps,go_sem,Exit.then];refine .inl (wp_cond (t:=false) (by simp [fH]) ?_);simp only [a8,if_false];apply wp_seq;apply wp_region;simp [wpOps,go_sem,Exit.then,ZC];repeat left
 refine wp_cond (t:=true) (by simp [fH]) ?_;simp only [if_true];change Code.wp _ _ _ { tmps:= #[dT k1 0,dT k2 0,undef,undef,undef,.iface 137 (.agg #[I e]),undef,B false,.tuple #[.agg #[I e],B true],B true,.agg #[I e],undef,undef],defers:=[] } w;apply wp_seq;apply wp_region;simp [wpOps,go_sem,Exit.then];repeat left
 have l1:=(Array.getElem?_eq_some_iff.1 g1).1;have l2:=(Array.getElem?_eq_some_iff.1 g2).1;obtain⟨x1,rfl⟩: ∃x,c1= #[x]:=by
  match c1,s1 with
  |⟨[x]⟩,_=>exact⟨x,rfl⟩
 obtain⟨x2,rfl⟩: ∃x,c2= #[x]:=by
  match c2,s2 with
  |⟨[x]⟩,_=>exact⟨x,rfl⟩
 have q0:(w.alloc (.cells #[I e] 137)).heap[w.heap.size]? =some (.cells #[I e] 137 (0,0)):=heap_alloc_new _ _;have q1:(w.alloc (.cells #[I e] 137)).heap[k1]? =some (.cells #[x1] ty1 (0,0)):=(heap_alloc_old _ _ (h:=l1)).trans g1;have q2:(w.alloc (.cells #[I e] 137)).heap[k2]? =some (.cells #[x2] Yn (0,0)):=(heap_alloc_old _ _ (h:=l2)).trans g2;simp only [List.nodup_cons,gU,kU,or_false,not_or] at rR;have hW: ∀k,k<w.heap.size→(w.alloc (.cells #[I e] 137)).heap[k]? =w.heap[k]? :=fun k hk=>heap_alloc_old _ _ (h:=hk);have hWo:(w.alloc (.cells #[I e] 137)).os=w.os∧(w.alloc (.cells #[I e] 137)).tape=w.tape∧(w.alloc (.cells #[I e] 137)).output=w.output∧(w.alloc (.cells #[I e] 137)).heap.size=w.heap.size+1:=⟨rfl,rfl,rfl,Array.size_push _⟩;change Code.wp _ _ _ { tmps:= #[.pointer (some ⟨k1,0,none⟩),.pointer (some ⟨k2,0,none⟩),undef,.pointer (some ⟨w.heap.size,0,none⟩),undef,.iface 137 (.agg #[I e]),undef,B false,.tuple #[.agg #[I e],B true],B true,.agg #[I e],undef,undef],defers:=[] } (w.alloc (.cells #[I e] 137));generalize w.alloc (.cells #[I e] 137)=W at q0 q1 q2 hW hWo⊢;generalize bR:w.heap.size=s0 at l1 l2 q0 hW hWo⊢;have UF:s0≠k1:=by omega
 have adr:s0≠k2:=by omega
 have p0:W.drew.cell? ⟨s0,0,none⟩=some (I e):=ql (W:=W.drew) q0;have p1:W.drew.cell? ⟨k1,0,none⟩=some x1:=ql (W:=W.drew) q1;have p2:W.drew.cell? ⟨k2,0,none⟩=some x2:=ql (W:=W.drew) q2;have f1:W.drew.frozen? ⟨k1,0,none⟩=false:=xz (W:=W.drew) q1;have f2:W.drew.frozen? ⟨k2,0,none⟩=false:=xz (W:=W.drew) q2;have p0':W.cell? ⟨s0,0,none⟩=some (I e):=ql q0;have p1':W.cell? ⟨k1,0,none⟩=some x1:=ql q1;have p2':W.cell? ⟨k2,0,none⟩=some x2:=ql q2;have f1':W.frozen? ⟨k1,0,none⟩=false:=xz q1;have f2':W.frozen? ⟨k2,0,none⟩=false:=xz q2;have r: ∀k,(W.setCell ⟨k1,0,none⟩ (.slice none 0 0)).heap[k]? =if k=k1 then some (.cells #[.slice none 0 0] ty1 (0,0))else W.heap[k]? :=IV _ q1
 have r0:(W.setCell ⟨k1,0,none⟩ (.slice none 0 0)).heap[s0]? =some (.cells #[I e] 137 (0,0)):=by rw [r,if_neg UF];exact q0
 have r2:(W.setCell ⟨k1,0,none⟩ (.slice none 0 0)).heap[k2]? =some (.cells #[x2] Yn (0,0)):=by rw [r,if_neg (fun e=>rR.1 e.symm)];exact q2
 have t0:(W.setCell ⟨k1,0,none⟩ (.slice none 0 0)).drew.cell? ⟨s0,0,none⟩=some (I e):=ql (W:=(W.setCell ⟨k1,0,none⟩ (.slice none 0 0)).drew) r0;have t2:(W.setCell ⟨k1,0,none⟩ (.slice none 0 0)).drew.cell? ⟨k2,0,none⟩=some x2:=ql (W:=(W.setCell ⟨k1,0,none⟩ (.slice none 0 0)).drew) r2;have t3:(W.setCell ⟨k1,0,none⟩ (.slice none 0 0)).drew.frozen? ⟨k2,0,none⟩=false:=xz (W:=(W.setCell ⟨k1,0,none⟩ (.slice none 0 0)).drew) r2
 go_region
 have r': ∀k,(((W.setCell ⟨k1,0,none⟩ (.slice none 0 0)).setCell ⟨k2,0,none⟩ (.int .i64 e)).drew).heap[k]? =if k=k2 then some (.cells #[I e] Yn (0,0))else(W.setCell ⟨k1,0,none⟩ (.slice none 0 0)).heap[k]? :=IV _ r2
 have ahj:W.heap.size≤(((W.setCell ⟨k1,0,none⟩ (.slice none 0 0)).setCell ⟨k2,0,none⟩ (.int .i64 e)).drew).heap.size:=by
  show W.heap.size≤((W.setCell ⟨k1,0,none⟩ (.slice none 0 0)).setCell ⟨k2,0,none⟩ (.int .i64 e)).heap.size
  unfold World.setCell;simp only [Array.size_modify];exact bg _
 have ZD:(((W.setCell ⟨k1,0,none⟩ (.slice none 0 0)).setCell ⟨k2,0,none⟩ (.int .i64 e)).drew).os=w.os∧(((W.setCell ⟨k1,0,none⟩ (.slice none 0 0)).setCell ⟨k2,0,none⟩ (.int .i64 e)).drew).tape=w.tape∧(((W.setCell ⟨k1,0,none⟩ (.slice none 0 0)).setCell ⟨k2,0,none⟩ (.int .i64 e)).drew).output=w.output:=⟨hWo.1,hWo.2.1,hWo.2.2.1⟩;generalize ((W.setCell ⟨k1,0,none⟩ (.slice none 0 0)).setCell ⟨k2,0,none⟩ (.int .i64 e)).drew=w4 at r' ahj ZD⊢;have d1:w4.cell? ⟨k1,0,none⟩=some (.slice none 0 0):=ql (ty:=ty1) (by rw [r',if_neg rR.1,r,if_pos rfl]);have d2:w4.cell? ⟨k2,0,none⟩=some (I e):=ql (ty:=Yn) (by rw [r',if_pos rfl]);have akM:aR.Outside [k1,k2] w w4:=by
  refine⟨ZD.1,ZD.2.1,ZD.2.2,?_,fun k hl hk=>?_⟩
  ·omega
  ·simp only [gU,kU,or_false,not_or] at hk;rw [r',if_neg hk.2,r,if_neg hk.1];exact hW k zQ
 obtain⟨e',wJ,hRe⟩:=hR _ _ (hRP w4 akM);have he:e=e':=by simpa [tZ] using wJ
 subst he;simp only [Exit.inBlock];refine⟨rfl,.panicking [{ v:=.iface 137 (.agg #[I e]),recovered:=true }],rfl,.tuple #[],?_,⟨_,rfl⟩,rfl,_,hRe,fun tmps ht=>?_⟩
 ·simp [results,Tryz.results45]
 ·unfold results;rw [afY];simp [ht 0 4 k1 rfl rfl,ht 1 5 k2 rfl rfl,asAddr,dT,abP d2,abQ d1]
end Go.Proofs.YtbpnemeooenpmaaGreat
namespace Go.Proofs.YtbpnemeooenpmaaGreat
open Go.Proofs.Tryz renaming prog → pg
open Go.aR
theorem Xo:Idle pg 31:=by
 refine⟨by kernel_rfl,fun eB w=>?_⟩;refine callsD_of_wpS Tryz.func31 rfl fun c₀ cs hu=>?_;rw [Tryz.ntmps31];have fK:8≤(eB++dH (15-eB.size) undef).size:=by simp;omega
 generalize eB++dH (15-eB.size) undef=tm at fK;have h2:2<tm.size:=by omega
 have h3:3<tm.size:=by omega
 have h4:4<tm.size:=by omega
 have h5:5<tm.size:=by omega
 have h6:6<tm.size:=by omega
 have h7:7<tm.size:=by omega
 apply wpS_seq;apply wpS_region;simp [wpOpsS,go_sem,recoverD,hu,kl];apply wpS_seq;apply wpS_region;simp [wpOpsS,go_sem,kl,h2,h3,h4,h5,h6,h7];refine wpS_cond (t:=false) (by simp [fH,h2,h3,h4,h5,h6,h7]) ?_;simp only [a8,if_false];refine wpS_of_wp (wp_skip ?_);cases c₀;simp_all [bodyPostS,results,Tryz.results31]
theorem Xp:Idle pg 53:=by
 refine⟨by kernel_rfl,fun eB w=>?_⟩;refine callsD_of_wpS Tryz.func53 rfl fun c₀ cs hu=>?_;rw [Tryz.ntmps53];have fK:8≤(eB++dH (13-eB.size) undef).size:=by simp;omega
 generalize eB++dH (13-eB.size) undef=tm at fK;have h2:2<tm.size:=by omega
 have h3:3<tm.size:=by omega
 have h4:4<tm.size:=by omega
 have h5:5<tm.size:=by omega
 have h6:6<tm.size:=by omega
 have h7:7<tm.size:=by omega
 apply wpS_seq;apply wpS_region;simp [wpOpsS,go_sem,recoverD,hu,kl];apply wpS_seq;apply wpS_region;simp [wpOpsS,go_sem,kl,h2,h3,h4,h5,h6,h7];refine wpS_cond (t:=false) (by simp [fH,h2,h3,h4,h5,h6,h7]) ?_;simp only [a8,if_false];refine wpS_of_wp (wp_skip ?_);cases c₀;simp_all [bodyPostS,results,Tryz.results53]
theorem Xq:Idle pg 26:=by
 refine⟨by kernel_rfl,fun eB w=>?_⟩;refine callsD_of_wpS Tryz.func26 rfl fun c₀ cs hu=>?_;rw [Tryz.ntmps26];have fK:8≤(eB++dH (12-eB.size) undef).size:=by simp;omega
 generalize eB++dH (12-eB.size) undef=tm at fK;have h2:2<tm.size:=by omega
 have h3:3<tm.size:=by omega
 have h4:4<tm.size:=by omega
 have h5:5<tm.size:=by omega
 have h6:6<tm.size:=by omega
 have h7:7<tm.size:=by omega
 apply wpS_seq;apply wpS_region;simp [wpOpsS,go_sem,recoverD,hu,kl];apply wpS_seq;apply wpS_region;simp [wpOpsS,go_sem,kl,h2,h3,h4,h5,h6,h7];refine wpS_cond (t:=false) (by simp [fH,h2,h3,h4,h5,h6,h7]) ?_;simp only [a8,if_false];refine wpS_of_wp (wp_skip ?_);cases c₀;simp_all [bodyPostS,results,Tryz.results26]
end Go.Proofs.YtbpnemeooenpmaaGreat
namespace Go.Proofs.YtbpnemeooenpmaaGreat
open Go.Proofs.Tryz renaming prog → pg
open Go.aR Go.Maps Go.Shelf
set_option maxRecDepth 100000
set_option maxHeartbeats 1000000
set_option linter.unusedVariables false
set_option linter.unusedSimpArgs false
attribute [local irreducible] un jn aB aS ld1 dY st1 dr cB kN dw lR uK sP fC e6 ae aC aJ eW eV eU eC eF gE ay fin aQ aF aE vS xh gG gS qK uL sQ xi xj xk gz gP qL uM sR xl xm
def runM:List fw→List fR→rD→Except Int (List fR×rD)
 |[],s,wr=>.ok (s,wr)
 |o::r,s,wr=>match qX o s wr with
  | .ok (s',kT)=>runM r s' kT
  | .error e=>.error e
def dC (wr:rD):List KV:=(gu (wr.map (·.1))).map fun k=>⟨k,(getM k wr).getD .zero⟩
theorem ads {c:Int} {a b:fR} {l:List fR} (h:su c a b= .ok l):l.length=if c=15 then 2 else 1:=by
 unfold su at h;split at h
 ·cases h;rename_i e;rw [if_neg zQ];rfl
 ·split at h
  ·cases h;rename_i e;rw [if_neg zQ];rfl
  ·split at h
   ·cases h;rename_i e;rw [if_pos e];rfl
   ·split at h
    ·cases h
    ·cases h;rename_i e _;rw [if_neg e];rfl
theorem afZ {o:fw} {s s':List fR} {wr kT:rD} (h:qX o s wr= .ok (s',kT)) (hc:1≤o.code∧o.code≤15) (hg:o.code≠1) (ht:sm o.code≤s.length):(s'.length:Int)=s.length+(Ap o.code-sm o.code):=by
 have h1:sm o.code=if o.code=3∨o.code=4 then 0 else if o.code=2∨o.code=13∨o.code=14 then 1 else 2:=by
  unfold sm;rw [if_neg zQ];by_cases q:o.code=3∨o.code=4
  ·rw [if_pos zQ,if_pos q]
  ·rw [if_neg zQ,if_neg q]
 have h2:Ap o.code=if o.code=2∨o.code=3∨o.code=13 then 0 else if o.code=14∨o.code=15 then 2 else 1:=by unfold Ap;rw [if_neg zQ]
 unfold qX at h;split at h
 ·rename_i e;cases h;rw [if_neg zQ,if_pos zQ] at h1;rw [if_pos zQ] at h2;rw [nr];omega
 ·split at h
  ·rename_i e;cases h;rw [if_pos zQ] at h1;rw [if_pos zQ] at h2;omega
  ·split at h
   ·rename_i e;cases h;rw [if_pos zQ] at h1;rw [if_neg zQ,if_neg zQ] at h2;rw [ba];omega
   ·split at h
    ·rename_i e;split at h
     ·cases h;rw [if_neg zQ,if_pos zQ] at h1;rw [if_pos zQ] at h2;rw [nr];omega
     ·cases h
    ·split at h
     ·rename_i e;cases h;rw [if_neg zQ,if_pos zQ] at h1;rw [if_neg zQ,if_pos zQ] at h2;rw [ba];omega
     ·split at h
      ·rename_i l hl;cases h;have:=ads hl;rw [if_neg zQ,if_neg zQ] at h1;rw [av,nr,nr];by_cases e15:o.code=15
       ·rw [if_pos e15] at this;rw [if_neg zQ,if_pos zQ] at h2;omega
       ·rw [if_neg e15] at this;rw [if_neg zQ,if_neg zQ] at h2;omega
      ·cases h
theorem UG {o:fw} {s s':List fR} {wr kT:rD} (h:qX o s wr= .ok (s',kT)):kT=wr∨ ∃v,kT=dR o.key v wr∧(o.code=2∨o.code=3):=by
 unfold qX at h;split at h
 ·rename_i e;cases h;exact .inr ⟨_,rfl,.inl e⟩
 ·split at h
  ·rename_i e;cases h;exact .inr ⟨_,rfl,.inr e⟩
  ·split at h
   ·cases h;exact .inl rfl
   ·split at h
    ·split at h
     ·cases h;exact .inl rfl
     ·cases h
    ·split at h
     ·cases h;exact .inl rfl
     ·split at h
      ·cases h;exact .inl rfl
      ·cases h
theorem OD {o:fw} (h:zM o (Ea o.code)=true) (hc:o.code=2∨o.code=3):o.key.size≤24:=by
 have hn:Ea o.code=1:=by unfold Ea;rw [if_neg zQ,if_neg zQ,if_pos zQ]
 unfold zM at h;rw [hn] at h;split at h
 ·cases h
 ·rename_i h1;cases hg:gn o.key with
  |true=>unfold gn at hg;simp at hg;omega
  |false=>exact absurd (.inl ⟨rfl,hg⟩) h1
theorem UH {a b:Int} : ∀(p:List fw) (t:List (BA×Int)),t≠[]→p.foldl (iT a b) t≠[]
 |[],t,h=>h
 |o::p,t,h=>by
  rw [gT];refine UH p _ ?_;unfold iT;split
  ·cases t with
   |nil=>exact absurd rfl h
   |cons x t=>unfold dR;split<;>simp
  ·exact h
theorem UI {a b:Int} : ∀(p:List fw) (t:List (BA×Int)) (o:fw),o∈p→(o.code=a∨o.code=b)→gn o.key=true→p.foldl (iT a b) t≠[]
 |q::p,t,o,hm,hc,hk=>by
  rw [gT];rcases List.mem_cons.1 hm with rfl|hm
  ·refine UH p _ ?_;unfold iT;rw [if_pos ⟨hc,hk⟩];cases t with
   |nil=>simp [dR]
   |cons x t=>unfold dR;split<;>simp
  ·exact UI p _ o hm hc hk
theorem abS {l:List BA} (h:gu l=[]):l=[]:=by
 have:=(kL l).length_eq;rw [h] at this;exact List.length_eq_zero_iff.1 this.symm
theorem Dq: ∀{p:List fw} {h:Int},uE p h=0→ ∀o∈p,zM o (Ea o.code)=true∧1≤o.code∧o.code≤15
 |o::p,h,hc,q,hq=>by
  unfold uE at hc;split at hc
  ·omega
  ·rename_i h1;split at hc
   ·omega
   ·rename_i h2;split at hc
    ·omega
    ·split at hc
     ·omega
     ·rcases List.mem_cons.1 hq with rfl|hq
      ·exact⟨by simpa using h2,Classical.not_not.1 h1⟩
      ·exact Dq hc q hq
theorem ahk {p:List fw} {h:Int} (hc:uE p h=0) (hr:dW 1 1 p=[]): ∀o∈p,o.code≠1:=fun o ho e=>by
 have hf:=(Dq hc o ho).1;have hk:gn o.key=true:=by
  unfold zM at hf;rw [e] at hf;have:Ea 1=1:=by decide
  rw [this] at hf;split at hf
  ·cases hf
  ·rename_i h1;cases hg:gn o.key with
   |true=>rfl
   |false=>exact absurd (.inl ⟨rfl,hg⟩) h1
 have h2:=abS hr;rw [List.map_eq_nil_iff] at h2;exact UI p [] o ho (.inl e) hk h2
theorem adt {w:World} {X:XS} {mb:Nat} {t:rD} {k:BA} {N:Value→Prop} (h:dS w X nX mb bB zy t) (n:N ((getM k t).getD .zero).v):ae pg X w (Instr.lookup 133 (.map (some mb)) (.string k) false) N:=by
 refine ti (kt:=9) (et:=62) (kv:=bB) fR.zero.v h zf kQ kQ (fun v a hg hv=>?_) (fun hg=>?_)
 ·simp only [zy] at hv;subst hv;rw [hg] at n;exact n
 ·rw [hg] at n;exact n
section
variable {w : World} {X : XS}
theorem UJ {a b:Value} (ha:Sl w X 1 a (([]:List BA).map S1)):Ct pg 44 #[a,b] w X nX fun v wa w'=> ∃sb,v= .tuple #[.map (some sb),I 0]:=by
 intro w0 hk;replace ha:=ha.mv hk.dD;have jV:=ha.gy;have hs:=ak.init w0;apply UK;unfold IX;refine nD (kv:=fun k:BA=>bB k) zy nX hs.has fun mb w1 X1 hmb au oM=>?_;have bT:=hs.trans au;have nE:=ha.mv bT.mv;repeat' first|refine aL ?_;intros
 refine fM (fun n a b w X=>a=I 0∧b=B false∧ak (aV w0) w0 X w) 0 ⟨rfl,rfl,bT⟩ ?_;clear hs au bT nE;rintro n _ _ w X ⟨rfl,rfl,hs⟩;repeat' first|refine aL ?_;intros|refine dM ?_ ?_<;>intros|(exfalso;simp only [bL] at*;omega)|((first|(with_reducible refine aw hs ?_)|(with_reducible refine aw (bR.trans hs) ?_));intro wa hk;exact⟨mb,rfl⟩)
theorem L6 {a b:Value} {p:List fw} (ha:Sl w X 5 a (p.map fw.l)) (hr:dW 1 1 p=[]):
  Ct pg 13 #[a,b] w X nX fun v wa w'=>if iN p≠0 then v= .tuple #[.slice none 0 0,I (iN p)] else match runM p [] [] with
   | .ok (_,wr)=> ∃vl,v= .tuple #[vl,I 0]∧Sl w' (made wa w') 4 vl ((dC wr).map KV.l)
   | .error e=>v= .tuple #[.slice none 0 0,I e]:=by
 intro w0 hk;replace ha:=ha.mv hk.dD;have jV:=ha.gy;have hF:FX nX (aV w0) w0:=fun k af=>af.elim;have hT:=hF.ft (Kp.refl _ _);refine UL (RP:=fun ch w'=> ∃e,ch=tZ e∧Fr nX w0 w'∧iN p=0∧runM p [] []= .error e) kQ adq (abR fun ch w' ⟨e,h1,h2,h3,h4⟩=>⟨e,h1,_,rfl,h2,?_⟩) ?_
 ·simp only [h3,ne_eq,not_true_eq_false,if_false,h4]
 unfold L7;have hs:=ak.init w0;refine gC (Cc ha) kQ hs.has fun w1 X1 au=>?_;have dU:=hT.since au;have nE:=ha.since au;replace hs:=hs.trans au;by_cases hc:iN p≠0
 ·repeat' first|refine bD ?_;intros
  exact Yz (dU.fin fun wa bk=>by simp only [if_pos hc])
 ·repeat' first|refine bD ?_;intros
  have hlen:p.length≤40:=by
   unfold iN at hc;split at hc
   ·exact absurd (by decide) hc
   ·omega
  have hcf:uE p 0=0:=by
   unfold iN at hc;split at hc
   ·exact absurd (by decide) hc
   ·split at hc
    ·exact absurd ‹_› hc
    ·omega
  refine dp (tq nE zQ) kQ hs.has ?_;rintro vr wa w2 X2 ho hle fO bT;rw [hr] at ho;have hsr:=(ho.mono fO).sl;have cX:=dU.since bT;have ha2:=nE.since bT;replace hs:=hs.trans bT;refine dp (UJ hsr) kQ hs.has ?_;rintro _ wb w3 X3 ⟨sb,rfl⟩ ob mA ea;have dE:=cX.since ea;have ha3:=ha2.since ea;replace hs:=hs.trans ea;have Zs:=hs;clear au bT ea;repeat' first|refine bD ?_;intros
  refine nD (kv:=bB) zy nX hs.has fun mb w4 X4 hmb fq EO=>?_;have fm:=dE.since fq;have ha4:=ha3.since fq;have zN:=hs.trans fq;clear hs;repeat' first|refine aL ?_;intros
  refine nZ zN.has fun rb w5 X5 hrb tj bJ=>?_;have ff:=fm.since tj;have ha5:=ha4.since tj;have B8:=EO.mv tu tj.mv (fun _ h=>h.elim) (A':=nX);have L8:=zN.kp.size;have hz5:=tj.kp.size;have h5:gq w5 (fun k=>k=rb∨k=mb) rb sb mb (.slice none 0 0) [] []:=⟨⟨.inl rfl,bJ.2⟩,Own.nil _ _ _ _ _,pd B8 (.inr rfl)⟩;have uF:Ft w0 nX w5 X5 (fun k=>k=rb∨k=mb):=ff.more fun k e=>by
   have:=Zs.kp.size;rcases e with e|e<;>subst e
   ·exact .inr ⟨bJ.1,by omega⟩
   ·exact .inr ⟨B8.x.1,by omega⟩
  have hs:=zN.trans tj;clear fq tj EO B8 bJ;have Hk:=ahk hcf hr;repeat' first|refine aL ?_;intros
  refine fQ (fun n a w X=> ∃(i:Nat) (N:XS) (wK:Value) (s:List fR) (wr:rD),a=I i∧n=p.length-i∧i≤p.length∧Ft w0 nX w X N∧gq w N rb sb mb wK s wr∧uE (p.drop i) s.length=0∧(s.length:Int)≤16∧(∀x∈wr,x.1.size≤24)∧wr.length≤i∧runM p [] []=runM (p.drop i) s wr) p.length
   ⟨0,_,_,_,_,rfl,rfl,aG _,uF,h5,hcf,by simp,fun x hx=>absurd hx (by simp),bg _,rfl⟩ ?_
  clear uF h5 ff fm dE cX dU hs ha5 ha4 ha3 ha2 nE;rintro n _ w X ⟨i,N,wK,s,wr,rfl,rfl,hi,eX,h6,Ed,hl6,hwk,hwl,jI⟩;have ha6:Sl w X 5 a (p.map fw.l):=ha.mv fun k af _=>⟨eX.s.sub k ⟨af,fun e=>e.elim⟩,eX.s.kp.block k ⟨af,fun e=>e.elim⟩⟩;have hs:=ak.ct eX.s.has;rcases ew (p) i with⟨dz,o,hx,hd⟩|⟨dV,hd⟩
  ·have YA:=List.mem_of_getElem? hx;rw [hd] at Ed jI;have hf6:=Dq Ed o (by simp);unfold uE at Ed;rw [if_neg (fun h=>h hf6.2),if_neg (by rw [hf6.1];simp)] at Ed;have tt:sm o.code≤s.length:=by
    split at Ed
    ·omega
    ·omega
   rw [if_neg zQ] at Ed;have amz:(s.length:Int)+(Ap o.code-sm o.code)≤16:=by
    split at Ed
    ·omega
    ·omega
   rw [if_neg zQ] at Ed;rw [runM] at jI;repeat' first|refine bD ?_;intros
   refine eX.Tx (ado h6 (fun k af=>⟨eX.bK k af,eX.s.has k (eX.bK k af)⟩) zQ (Hk o YA) hf6.2 tt) kQ (fun _ h=>h) (fun v ET w7 X7 hq P6 Ee kF c7=>?_) fun ch ET w7 X7 hq P6 Ee kF c7 wb7 mN=>?_
   ·obtain⟨s',kT,N',oc,Dr,hN',h7⟩:=hq;rw [Dr] at jI;have ajv:=afZ Dr hf6.2 (Hk o YA) tt;have akN:=kF.less hN';have akO: ∀x∈kT,x.1.size≤24:=fun x hx=>by
     rcases UG Dr with e|⟨v,e,AM⟩
     ·rw [e] at hx;exact hwk x hx
     ·rw [e] at hx;rcases jv h6.map.nodup hx with rfl|⟨hx,_⟩
      ·exact OD hf6.1 AM
      ·exact hwk x hx
    have akP:kT.length≤i+1:=by
     rcases UG Dr with e|⟨v,e,AM⟩
     ·rw [e];omega
     ·rw [e];have:=zL (k:=o.key) (a:=v) wr;omega
    rw [←ajv] at Ed;repeat' first|refine aL ?_;intros|((with_reducible refine fh (p.length-(i+1)) ?_ ?_);omega;exact⟨i+1,N',oc,s',kT,by simp,rfl,by omega,akN,h7,Ed,by omega,akO,akP,jI⟩)
   ·obtain⟨e,he,hch⟩:=hq;rw [he] at jI;exact⟨e,hch,kF.fr mN,by omega,jI⟩
  ·rw [hd] at jI;have Ds:=h6.row.mono fun k af=>eX.bK k af;repeat' first|refine bD ?_;intros
   have hNX: ∀k,N k→X k:=eX.bK;have IY:dS w X nX mb bB zy wr:=pd h6.map (hNX _ h6.map.x.1);refine dp afP kQ eX.s.has ?_;rintro _ ET w7 X7 ⟨bx,rfl,hb⟩ P6 Ee gH;have OE:=IY.mv tu gH.mv (fun _ h=>h.elim) (A':=nX);have kF:=eX.since gH;refine dp (abt OE (hb.mono Ee) (fun e he=>Nat.le_trans (hwk e he) (by decide)) zQ) kQ kF.s.has ?_;rintro vs wb8 w8 X8 AP adu UM mi;have oe:=kF.since mi;have hm8:=OE.mv tu mi.mv (fun _ h=>h.elim) (A':=nX);have hz7:=kF.s.kp.size;have EN:Own w8 X8 w0.heap.size 9 1 vs ((gu (wr.map (·.1))).map S1):=AP.up UM zQ;have hW:dC wr=(gu (wr.map (·.1))).map fun k=>(⟨k,(getM k wr).getD .zero⟩:KV):=rfl;have hls:(gu (wr.map (·.1))).length=wr.length:=by rw [(kL _).length_eq,aI]
   rw [runM] at jI;have MY: ∀{w9:World} {X9:XS} {v:Value},Ft w0 nX w9 X9 N→Own w9 X9 w0.heap.size 64 4 v ((dC wr).map KV.l)→fin (xA (xv nX w0 fun v w'=>(fun v wa w'=>if iN p≠0 then v= .tuple #[.slice none 0 0,I (iN p)] else match runM p [] [] with
     | .ok (_,wr)=> ∃vl,v= .tuple #[vl,I 0]∧Sl w' (made wa w') 4 vl ((dC wr).map KV.l)
     | .error e=>v= .tuple #[.slice none 0 0,I e]) v w0 w') (fun ch w'=> ∃e,ch=tZ e∧Fr nX w0 w'∧iN p=0∧runM p [] []= .error e)) X9 w9 (.tuple #[v,I 0]):=fun q1 q2=>
    q1.ahl fun wa bk=>by
     simp only [if_neg hc,jI];exact⟨_,rfl,(q2.kp bk).tight.sl⟩
   rw [hW] at MY;generalize gu (wr.map (·.1))=ids at EN hls MY;have h8:=h6.mv ((gH.trans mi).fZ hNX);have hN8: ∀k,N k→X8 k:=fun k af=>mi.sub k (gH.sub k (hNX k af));clear hW ha6 hs IY OE kF hb AP gH mi;have wE:=EN.sl;have hs:=ak.ct oe.s.has;repeat' first|refine aL ?_;intros
   refine fM (fun n a b w X=> ∃(j:Nat) (v:Value),a=I j∧b= .agg #[v]∧n=ids.length-j∧j≤ids.length∧ak X8 w8 X w∧Own w X w8.heap.size 64 4 v (((ids.take j).map fun k=>(⟨k,(getM k wr).getD .zero⟩:KV)).map KV.l)) ids.length ⟨0,_,rfl,rfl,rfl,aG _,ak.ct oe.s.has,Own.nil _ _ _ _ _⟩ ?_;rintro n _ _ w9 X9 ⟨j,v,rfl,rfl,rfl,hj,xB,ho9⟩;have lU:=oe.since xB;have h9:=h8.mv (xB.fZ hN8);have amA:=h9.row.mono fun k af=>xB.sub k (hN8 k af);have amP:=wE.since xB;have ajw:dS w9 X9 nX mb bB zy wr:=pd h9.map (xB.sub _ (hN8 _ h8.map.x.1));have bR:=ak.ct oe.s.has;clear hs wE Ds;have hs:=xB;have ov:=ho9.sl.one;rcases ew ids j with⟨dz,k,hx,hd9⟩|⟨akQ,hd9⟩
   ·have ed:(ids.take (j+1)).map (fun k=>(⟨k,(getM k wr).getD .zero⟩:KV))=(ids.take j).map (fun k=>(⟨k,(getM k wr).getD .zero⟩:KV))++[⟨k,(getM k wr).getD .zero⟩]:=by rw [List.take_add_one,hx,bC];rfl
    have hl9:((ids.take j).map fun k=>(⟨k,(getM k wr).getD .zero⟩:KV)).length=j:=by rw [aI,bU];omega
    repeat' first|refine bD ?_;intros|((with_reducible apply af0);(case own=>first|assumption|exact Own.since (by assumption) (by assumption));(case hs=>assumption);(case h0=>first|exact fun _ h=>h|exact bR.has);(case he=>kernel_rfl);(case hk=>rfl);(case h1=>exact qE);(case hb=>(simp only [aI,bU,av,ba,bL];omega));(case hl=>(simp only [aI,bU,av,ba,bL];omega));intro acc w X au ho hc ef;replace hs:=au)|(refine adt ajw ?_)|((with_reducible refine fI (ids.length-(j+1)) ?_ ?_);omega;exact⟨j+1,_,by simp,rfl,rfl,by omega,hs,by rw [ed,bC];exact ho⟩)
   ·rw [List.take_of_length_le akQ] at ho9;have hz8:=oe.s.kp.size;repeat' first|refine bD ?_;intros|(exact MY lU (ho9.low hz8))
end
end Go.Proofs.YtbpnemeooenpmaaGreat
namespace Go.Proofs.YtbpnemeooenpmaaGreat
open Go.Proofs.Tryz renaming prog → pg
open Go.aR
set_option maxRecDepth 100000
set_option maxHeartbeats 1000000
set_option linter.unusedVariables false
set_option linter.unusedSimpArgs false
attribute [local irreducible] un jn aB aS ld1 dY st1 dr cB kN dw lR uK sP fC e6 ae aC aJ eW eV eU eC eF gE ay fin aQ aF aE vS xh gG gS qK uL sQ xi xj xk gz gP qL uM sR xl xm
abbrev aN:Value:=.slice none 0 0
structure pj where
 id:Int
 ga:Int
 ug:Int
 lb:Nat
 Ar:Nat
 cb:Nat
 ab:Nat
 cm:Value
 bb:Nat
abbrev Gf (c:pj) (Cf vm va:Value):List Value:=[I c.id,I c.ga,I c.ug,ptr c.lb 0,B false,ptr c.Ar 0,Cf,.map (some c.ab),c.cm,.map (some c.bb),vm,va]
abbrev uj (c:pj) (vm va:Value):List Value:=Gf c (ptr c.cb 0) vm va
abbrev nT:Nat:=93
structure oO where
 dK:de
 vp:Value
 st:cx
 age:Int
 vs:Value
 pre:Bool
 vq:Value
 wL:cx
abbrev Cg (x:oO) (vw:Value):List Value:=[I x.dK.gN,I x.dK.ga,I x.dK.sq,x.vp,I x.st.wall,I x.st.ep,I x.st.node,I x.age,x.vs,B x.pre,vw,x.vq,I x.wL.wall,I x.wL.ep,I x.wL.node]
abbrev aT:Nat:=113
abbrev mT:Nat:=44
abbrev anT:Nat:=79
def nH:World→XS→Value→Nat→Prop:=fun _ _ v b=>v=ptr b 0
theorem fJ:mV nH:=fun _ _ _ _ _ _ h _=>h
def jr (w:World) (K:XS) (rows:List (List Value)) (ms:List dF):Prop:=rows.length=ms.length∧ ∀(i:Nat) (l:List Value) (x:dF),rows[i]? =some l→ms[i]? =some x→dF.rd w K l x
theorem jr.mv {w w':World} {K K':XS} {rows:List (List Value)} {ms:List dF} (h:jr w K rows ms) (m:Mv K w K' w'):jr w' K' rows ms:=⟨h.1,fun i l x h1 h2=>dF.mv (h.2 i l x h1 h2) m⟩
theorem jr.nil (w:World) (K:XS):jr w K [] []:=⟨rfl,fun i l x h=>by simp at h⟩
theorem jr.add {w:World} {K:XS} {rows:List (List Value)} {ms:List dF} {l:List Value} {x:dF} (h:jr w K rows ms) (h1:dF.rd w K l x):jr w K (rows++[l]) (ms++[x]):=by
 refine⟨by simp [h.1],fun i l' x' hl hx=>?_⟩;rcases Nat.lt_trichotomy i rows.length with hi|hi|hi
 ·rw [qt hi] at hl;rw [qt (by rw [←h.1];exact hi)] at hx;exact h.2 i l' x' hl hx
 ·subst hi;rw [ph (bg _)] at hl;rw [ph (by rw [h.1];exact bg _)] at hx;rw [h.1] at hx;simp only [Nat.sub_self,List.getElem?_cons_zero,az] at hl hx;subst hl;subst hx;exact h1
 ·rw [List.getElem?_eq_none (by simp;omega)] at hl;cases hl
def cF (nb xb ab:Nat) (vm va vw dZ:Value):XS:=fun k=>k=nb∨k=xb∨k=ab∨cZ vm k∨cZ va k∨cZ vw k∨cZ dZ k
structure fu (w:World) (K:XS) (nb xb:Nat) (c:pj) (x:oO) (vm va vw dZ:Value) (al:List (de×Nat)) (rm ra rw:List (List Value)) (ms ws:List dF) (ps:List Int):Prop where
 row:a7 w (· =nb) nb (uj c vm va) nT
 act:a7 w (· =xb) xb (Cg x vw) aT
 am:dS w (· =c.ab) nX c.ab (fun k:de=>k.v) nH al
 om:Own w (cZ vm) 0 mT 36 vm rm
 oa:Own w (cZ va) 0 anT 9 va ra
 ow:Own w (cZ vw) 0 mT 36 vw rw
 op:Own w (cZ dZ) 0 3 1 dZ (ps.map I1)
 hm:jr w K rm ms
 hw:jr w K rw ws
 sep: ∀g,cZ vm g→ ¬cZ vw g
 kd: ∀k,K k→ ¬cF nb xb c.ab vm va vw dZ k
 o1:aR.one c.cm=true
 o2:aR.one x.vp=true
 o3:aR.one x.vs=true
 o4:aR.one x.vq=true
section
variable {w w' wa : World} {X X' K K' : XS} {nb xb : Nat} {c : pj} {x : oO} {vm va vw dZ gr ic fy j6 : Value} {al : List (de × Nat)} {rm ra rw : List (List Value)} {ms ws : List dF} {ps : List Int}
theorem fu.fx (h:fu w K nb xb c x vm va vw dZ al rm ra rw ms ws ps): ∀k,cF nb xb c.ab vm va vw dZ k→k<w.heap.size:=fun k hk=>by
 rcases hk with e|e|e|e|e|e|e
 ·subst e;exact h.row.lt
 ·subst e;exact h.act.lt
 ·subst e;exact h.am.x.2
 ·exact(h.om.ge e).2
 ·exact(h.oa.ge e).2
 ·exact(h.ow.ge e).2
 ·exact(h.op.ge e).2
theorem fu.mv (h:fu w K nb xb c x vm va vw dZ al rm ra rw ms ws ps) (hb: ∀k,cF nb xb c.ab vm va vw dZ k→w'.heap[k]? =w.heap[k]?) (hK:Mv K w K' w') (kd: ∀k,K' k→ ¬cF nb xb c.ab vm va vw dZ k):fu w' K' nb xb c x vm va vw dZ al rm ra rw ms ws ps where
 row:=h.row.mv fun k hk _=>⟨hk,hb k (.inl hk)⟩
 act:=h.act.mv fun k hk _=>⟨hk,hb k (.inr (.inl hk))⟩
 am:=h.am.mv fJ (fun k hk _=>⟨hk,hb k (.inr (.inr (.inl hk)))⟩) fun _ h=>h.elim
 om:=h.om.mv fun k hk _=>⟨hk,hb k (.inr (.inr (.inr (.inl hk))))⟩
 oa:=h.oa.mv fun k hk _=>⟨hk,hb k (.inr (.inr (.inr (.inr (.inl hk)))))⟩
 ow:=h.ow.mv fun k hk _=>⟨hk,hb k (.inr (.inr (.inr (.inr (.inr (.inl hk))))))⟩
 op:=h.op.mv fun k hk _=>⟨hk,hb k (.inr (.inr (.inr (.inr (.inr (.inr hk))))))⟩
 hm:=h.hm.mv hK
 hw:=h.hw.mv hK
 sep:=h.sep
 kd:=kd
 o1:=h.o1
 o2:=h.o2
 o3:=h.o3
 o4:=h.o4
theorem IZ {w:World} {X Y:XS} {b b':Nat} {cs sN:List Value} {t t':TypeId} (h:a7 w X b cs t) (h':a7 w Y b' sN t') (he:decide (t≠t')=true):b≠b':=fun e=>by
 have h1:=h.2;rw [e,h'.2] at h1;simp only [az,lT] at h1;exact of_decide_eq_true he h1.2.1.symm
theorem uT {w:World} {X Y:XS} {lo lo' e e' k k' g:Nat} {v v':Value} {rows ajx:List (List Value)} (h:Own w X lo e k v rows) (h':Own w Y lo' e' k' v' ajx) (he:decide (e≠e')=true) (hg:v.ownBlock=some g):v'.ownBlock≠some g:=fun ji=>by
 obtain⟨c,h1⟩:=KT h hg;obtain⟨c',h2⟩:=KT h' ji;rw [h1] at h2;simp only [az,lT] at h2;exact of_decide_eq_true he h2.2.1
structure ajy (nb xb ab:Nat) (vm va vw dZ:Value):Prop where
 nx:nb≠xb
 an:ab≠nb
 ax:ab≠xb
 m: ∀g,cZ vm g→g≠nb∧g≠xb∧g≠ab∧ ¬cZ va g∧ ¬cZ vw g∧ ¬cZ dZ g
 a: ∀g,cZ va g→g≠nb∧g≠xb∧g≠ab∧ ¬cZ vm g∧ ¬cZ vw g∧ ¬cZ dZ g
 w: ∀g,cZ vw g→g≠nb∧g≠xb∧g≠ab∧ ¬cZ vm g∧ ¬cZ va g∧ ¬cZ dZ g
 p: ∀g,cZ dZ g→g≠nb∧g≠xb∧g≠ab∧ ¬cZ vm g∧ ¬cZ va g∧ ¬cZ vw g
theorem fu.ap (h:fu w K nb xb c x vm va vw dZ al rm ra rw ms ws ps):ajy nb xb c.ab vm va vw dZ:=by
 have r1: ∀{e k:Nat} {v:Value} {rows:List (List Value)} {Y:XS},Own w Y 0 e k v rows→decide (e≠nT)=true→ ∀g,cZ v g→g≠nb:=fun ho he g hg e=>kj ho h.row he (by rw [←e];exact hg);have r2: ∀{e k:Nat} {v:Value} {rows:List (List Value)} {Y:XS},Own w Y 0 e k v rows→decide (e≠aT)=true→ ∀g,cZ v g→g≠xb:=fun ho he g hg e=>kj ho h.act he (by rw [←e];exact hg);have r3: ∀{e k:Nat} {v:Value} {rows:List (List Value)} {Y:XS},Own w Y 0 e k v rows→ ∀g,cZ v g→g≠c.ab:=fun ho g hg e=>RV ho h.am (by rw [←e];exact hg);refine⟨IZ h.row h.act kQ,h.am.eA h.row,h.am.eA h.act,fun g hg=>?_,fun g hg=>?_,fun g hg=>?_,fun g hg=>?_⟩
 ·exact⟨r1 h.om kQ g hg,r2 h.om kQ g hg,r3 h.om g hg,uT h.om h.oa kQ hg,h.sep g hg,uT h.om h.op kQ hg⟩
 ·exact⟨r1 h.oa kQ g hg,r2 h.oa kQ g hg,r3 h.oa g hg,uT h.oa h.om kQ hg,uT h.oa h.ow kQ hg,uT h.oa h.op kQ hg⟩
 ·exact⟨r1 h.ow kQ g hg,r2 h.ow kQ g hg,r3 h.ow g hg,fun hm=>h.sep g hm hg,uT h.ow h.oa kQ hg,uT h.ow h.op kQ hg⟩
 ·exact⟨r1 h.op kQ g hg,r2 h.op kQ g hg,r3 h.op g hg,uT h.op h.om kQ hg,uT h.op h.oa kQ hg,uT h.op h.ow kQ hg⟩
theorem fu.step {c':pj} {x':oO} {mW:List (de×Nat)} {kV uk oP:List (List Value)} {uU uV:List dF} {Dt:List Int} (h:fu w K nb xb c x vm va vw dZ al rm ra rw ms ws ps) (hX: ∀k,cF nb xb c.ab vm va vw dZ k→X k) (hK: ∀k,K k→X k) (dz: ∀k,X k→k<w.heap.size) (G:XS) (cg:ez G X w X' w') (hG: ∀k,G k→cF nb xb c.ab vm va vw dZ k) (ta:c'.ab=c.ab)
  (h1:(¬G nb∧uj c' gr ic=uj c vm va)∨a7 w' X' nb (uj c' gr ic) nT) (h2:(¬G xb∧Cg x' fy=Cg x vw)∨a7 w' X' xb (Cg x' fy) aT) (h3:(¬G c.ab∧mW=al)∨dS w' X' nX c.ab (fun k:de=>k.v) nH mW)
  (h4:((∀g,cZ vm g→ ¬G g)∧gr=vm∧kV=rm)∨(Own w' X' 0 mT 36 gr kV∧(gr.ownBlock=vm.ownBlock∨ ∃g,gr.ownBlock=some g∧w.heap.size≤g)))
  (h5:((∀g,cZ va g→ ¬G g)∧ic=va∧uk=ra)∨(Own w' X' 0 anT 9 ic uk∧(ic.ownBlock=va.ownBlock∨ ∃g,ic.ownBlock=some g∧w.heap.size≤g)))
  (h6:((∀g,cZ vw g→ ¬G g)∧fy=vw∧oP=rw)∨(Own w' X' 0 mT 36 fy oP∧gr=vm∧(fy.ownBlock=vw.ownBlock∨ ∃g,fy.ownBlock=some g∧w.heap.size≤g)))
  (h7:((∀g,cZ dZ g→ ¬G g)∧j6=dZ∧Dt=ps)∨(Own w' X' 0 3 1 j6 (Dt.map I1)∧(j6.ownBlock=dZ.ownBlock∨ ∃g,j6.ownBlock=some g∧w.heap.size≤g)))
  (hm:jr w K kV uU) (hw:jr w K oP uV) (o1:aR.one c'.cm=true) (o2:aR.one x'.vp=true) (o3:aR.one x'.vs=true) (o4:aR.one x'.vq=true):
  fu w' K nb xb c' x' gr ic fy j6 mW kV uk oP uU uV Dt∧ ∀k,cF nb xb c'.ab gr ic fy j6 k→cF nb xb c.ab vm va vw dZ k∨(X' k∧w.heap.size≤k):=by
 have ap:=h.ap;have jJ: ∀k,cF nb xb c.ab vm va vw dZ k→ ¬G k→w'.heap[k]? =w.heap[k]? :=fun k hk hg=>cg.block k (hX k hk) hg;have oh:Mv K w K w':=cg.fi fun k hk=>⟨hK k hk,fun hg=>h.kd k hk (hG k hg)⟩;have q4: ∀g,cZ gr g→cZ vm g∨(X' g∧w.heap.size≤g):=fun g hg=>by
  rcases h4 with⟨_,e,_⟩|⟨ho,e|⟨g',e,dV⟩⟩
  ·left;rw [←e];exact hg
  ·left;have hg:gr.ownBlock=some g:=hg;rw [e] at hg;exact hg
  ·right;have ji:gr.ownBlock=some g:=hg;rw [e] at ji;cases ji;exact⟨ho.2.2 _ hg,dV⟩
 have q5: ∀g,cZ ic g→cZ va g∨(X' g∧w.heap.size≤g):=fun g hg=>by
  rcases h5 with⟨_,e,_⟩|⟨ho,e|⟨g',e,dV⟩⟩
  ·left;rw [←e];exact hg
  ·left;have hg:ic.ownBlock=some g:=hg;rw [e] at hg;exact hg
  ·right;have ji:ic.ownBlock=some g:=hg;rw [e] at ji;cases ji;exact⟨ho.2.2 _ hg,dV⟩
 have q6: ∀g,cZ fy g→cZ vw g∨(X' g∧w.heap.size≤g):=fun g hg=>by
  rcases h6 with⟨_,e,_⟩|⟨ho,_,e|⟨g',e,dV⟩⟩
  ·left;rw [←e];exact hg
  ·left;have hg:fy.ownBlock=some g:=hg;rw [e] at hg;exact hg
  ·right;have ji:fy.ownBlock=some g:=hg;rw [e] at ji;cases ji;exact⟨ho.2.2 _ hg,dV⟩
 have q7: ∀g,cZ j6 g→cZ dZ g∨(X' g∧w.heap.size≤g):=fun g hg=>by
  rcases h7 with⟨_,e,_⟩|⟨ho,e|⟨g',e,dV⟩⟩
  ·left;rw [←e];exact hg
  ·left;have hg:j6.ownBlock=some g:=hg;rw [e] at hg;exact hg
  ·right;have ji:j6.ownBlock=some g:=hg;rw [e] at ji;cases ji;exact⟨ho.2.2 _ hg,dV⟩
 have hc: ∀k,cF nb xb c'.ab gr ic fy j6 k→cF nb xb c.ab vm va vw dZ k∨(X' k∧w.heap.size≤k):=fun k hk=>by
  rcases hk with e|e|e|e|e|e|e
  ·exact .inl (.inl e)
  ·exact .inl (.inr (.inl e))
  ·exact .inl (.inr (.inr (.inl (e.trans ta))))
  ·exact(q4 k e).imp (fun e=>.inr (.inr (.inr (.inl e)))) id
  ·exact(q5 k e).imp (fun e=>.inr (.inr (.inr (.inr (.inl e))))) id
  ·exact(q6 k e).imp (fun e=>.inr (.inr (.inr (.inr (.inr (.inl e)))))) id
  ·exact(q7 k e).imp (fun e=>.inr (.inr (.inr (.inr (.inr (.inr e)))))) id
 refine⟨⟨?_,?_,?_,?_,?_,?_,?_,hm.mv oh,hw.mv oh,fun g g1 g2=>?_,fun k hk af=>?_,o1,o2,o3,o4⟩,hc⟩
 ·rcases h1 with⟨e,e'⟩|hr
  ·rw [e'];exact h.row.mv fun k hk _=>⟨hk,jJ k (.inl hk) (by rw [hk];exact e)⟩
  ·exact⟨rfl,hr.2⟩
 ·rcases h2 with⟨e,e'⟩|hr
  ·rw [e'];exact h.act.mv fun k hk _=>⟨hk,jJ k (.inr (.inl hk)) (by rw [hk];exact e)⟩
  ·exact⟨rfl,hr.2⟩
 ·rw [ta];rcases h3 with⟨e,e'⟩|hr
  ·rw [e'];exact h.am.mv fJ (fun k hk _=>⟨hk,jJ k (.inr (.inr (.inl hk))) (by rw [hk];exact e)⟩) fun _ h=>h.elim
  ·exact pd hr rfl
 ·rcases h4 with⟨e,rfl,rfl⟩|⟨ho,_⟩
  ·exact h.om.mv fun k hk _=>⟨hk,jJ k (.inr (.inr (.inr (.inl hk)))) (e k hk)⟩
  ·exact th ho fun g hg=>hg
 ·rcases h5 with⟨e,rfl,rfl⟩|⟨ho,_⟩
  ·exact h.oa.mv fun k hk _=>⟨hk,jJ k (.inr (.inr (.inr (.inr (.inl hk))))) (e k hk)⟩
  ·exact th ho fun g hg=>hg
 ·rcases h6 with⟨e,rfl,rfl⟩|⟨ho,_⟩
  ·exact h.ow.mv fun k hk _=>⟨hk,jJ k (.inr (.inr (.inr (.inr (.inr (.inl hk)))))) (e k hk)⟩
  ·exact th ho fun g hg=>hg
 ·rcases h7 with⟨e,rfl,rfl⟩|⟨ho,_⟩
  ·exact h.op.mv fun k hk _=>⟨hk,jJ k (.inr (.inr (.inr (.inr (.inr (.inr hk)))))) (e k hk)⟩
  ·exact th ho fun g hg=>hg
 ·rcases h6 with⟨_,rfl,_⟩|⟨ho,rfl,e|⟨g',e,dV⟩⟩
  ·rcases h4 with⟨_,rfl,_⟩|⟨ho,e|⟨g',e,dV⟩⟩
   ·exact h.sep g g1 g2
   ·exact h.sep g (by have g1:gr.ownBlock=some g:=g1;rw [e] at g1;exact g1) g2
   ·have g1:gr.ownBlock=some g:=g1;rw [e] at g1;cases g1;have:=(h.ow.ge g2).2;omega
  ·exact h.sep g g1 (by have g2:fy.ownBlock=some g:=g2;rw [e] at g2;exact g2)
  ·have g2:fy.ownBlock=some g:=g2;rw [e] at g2;cases g2;have:=(h.om.ge g1).2;omega
 ·rcases hc k af with h8|h8
  ·exact h.kd k hk h8
  ·have:=dz k (hK k hk);omega
end
theorem I0 {w:World} {X:XS} {a:Value} {xs:List jA} (ha:Sl w X 7 a (xs.map jA.l)) (hb:xs.length≤2^40):
  Ct pg 157 #[a] w X nX fun v wa w'=>Own w' (made wa w') wa.heap.size 215 7 v (xs.map jA.l):=by
  intro w0 hk;replace ha:=ha.mv hk.dD;apply tw;unfold mB;have hs:=ak.init w0;repeat' first|refine aL ?_;intros|refine dM ?_ ?_<;>intros|(with_reducible apply Gg);(case hX=>exact hs.has);(case hu=>kernel_rfl);(case hz=>kernel_rfl);intro acc w X au ho;replace hs:=hs.trans au|((first|(with_reducible refine aw hs ?_)|(with_reducible refine aw (bR.trans hs) ?_));intro wa hk;(first|(rename_i h1 h2;(first|(rw [h2])|skip);exact Own.nil _ _ _ _ _)|exact(ho.kp hk).tight))|((with_reducible apply qV);(case own=>assumption);(case hs=>assumption);(case h0=>exact fun _ h=>h);(case he=>kernel_rfl);(case src=>exact Sl.mv ha (ak.mv hs));(case h1=>simp [aR.one]);(case hb=>simp;omega);(case hl=>simp;omega);intro acc w X au ho hc ef;replace hs:=au;rw [dG] at ho)
theorem I2 {w:World} {X:XS} {a:Value} {xs:List Int} (ha:Sl w X 1 a (xs.map I1)) (hb:xs.length≤2^40):
  Ct pg 148 #[a] w X nX fun v wa w'=>Own w' (made wa w') wa.heap.size 3 1 v (xs.map I1):=by
  intro w0 hk;replace ha:=ha.mv hk.dD;apply As;unfold rW;have hs:=ak.init w0;repeat' first|refine aL ?_;intros|refine dM ?_ ?_<;>intros|(with_reducible apply Gg);(case hX=>exact hs.has);(case hu=>kernel_rfl);(case hz=>kernel_rfl);intro acc w X au ho;replace hs:=hs.trans au|((first|(with_reducible refine aw hs ?_)|(with_reducible refine aw (bR.trans hs) ?_));intro wa hk;(first|(rename_i h1 h2;(first|(rw [h2])|skip);exact Own.nil _ _ _ _ _)|exact(ho.kp hk).tight))|((with_reducible apply qV);(case own=>assumption);(case hs=>assumption);(case h0=>exact fun _ h=>h);(case he=>kernel_rfl);(case src=>exact Sl.mv ha (ak.mv hs));(case h1=>simp [aR.one]);(case hb=>simp;omega);(case hl=>simp;omega);intro acc w X au ho hc ef;replace hs:=au;rw [dG] at ho)
theorem Xr {w:World} {X:XS} {a:Value} {xs:List fw} (ha:Sl w X 5 a (xs.map fw.l)) (hb:xs.length≤2^40):
  Ct pg 32 #[a] w X nX fun v wa w'=>Own w' (made wa w') wa.heap.size 75 5 v (xs.map fw.l):=by
  intro w0 hk;replace ha:=ha.mv hk.dD;apply wh;unfold oq;have hs:=ak.init w0;repeat' first|refine aL ?_;intros|refine dM ?_ ?_<;>intros|(with_reducible apply Gg);(case hX=>exact hs.has);(case hu=>kernel_rfl);(case hz=>kernel_rfl);intro acc w X au ho;replace hs:=hs.trans au|((first|(with_reducible refine aw hs ?_)|(with_reducible refine aw (bR.trans hs) ?_));intro wa hk;(first|(rename_i h1 h2;(first|(rw [h2])|skip);exact Own.nil _ _ _ _ _)|exact(ho.kp hk).tight))|((with_reducible apply qV);(case own=>assumption);(case hs=>assumption);(case h0=>exact fun _ h=>h);(case he=>kernel_rfl);(case src=>exact Sl.mv ha (ak.mv hs));(case h1=>simp [aR.one]);(case hb=>simp;omega);(case hl=>simp;omega);intro acc w X au ho hc ef;replace hs:=au;rw [dG] at ho)
section
variable {w w' wa : World} {X X' K K' Y : XS} {nb xb : Nat} {c : pj} {x : oO} {vm va vw dZ gr ic fy j6 : Value} {al : List (de × Nat)} {rm ra rw : List (List Value)} {ms ws : List dF} {ps : List Int}
theorem Ch {Cf:Value} (h:a7 w Y nb (Gf c Cf vm va) nT) (hY: ∀k,Y k→X k) (hi:1≤c.id∧c.id≤2):Ct pg 30 #[ptr nb 0] w X nX fun v _ _=>v=I (20+c.id):=by
 intro w0 hk;have bJ:=(h.mono hY).mv hk.dD;have hs:=ak.init w0;apply I3;unfold zO;repeat' first|refine aL ?_;intros|((first|(with_reducible refine aw hs ?_)|(with_reducible refine aw (bR.trans hs) ?_));intro wa hk;rfl)
structure dF.few (m:dF):Prop where
 keys:m.keys.length≤2^40
 seen:m.seen.length≤2^40
 writes:m.writes.length≤2^40
 parts:m.parts.length≤2^40
theorem P7 {m:dF} {vk vs vw vp vr vc vh vd:Value} (h:m.at w X vk vs vw vp vr vc vh vd) (hf:m.few):Ct pg 89 #[m.v vk vs vw vp vr vc vh vd] w X nX fun v wa w'=> ∃EU RX fy Hw,v=m.v EU RX fy Hw vr vc vh vd∧
  Sl w' (made wa w') 1 EU (m.keys.map S1)∧Sl w' (made wa w') 7 RX (m.seen.map jA.l)∧Sl w' (made wa w') 4 fy (m.writes.map KV.l)∧Sl w' (made wa w') 1 Hw (m.parts.map I1):=by
 intro w0 hk;replace h:=h.mv hk.dD;have hs:=ak.init w0;have o1:=h.ranges.one;have o2:=h.fY.one;have o3:=h.fU.one;have o4:=h.fB.one;apply OF;unfold Du;refine dp (Hx h.keys hf.keys) kQ hs.has ?_;rintro v1 qQ w1 X1 q1 sk oR au;have h1:=h.mv au.mv;refine dp (I0 h1.seen hf.seen) kQ au.has ?_;rintro v2 zI w2 X2 q2 qP nW bT;have h2:=h1.mv bT.mv;refine dp (EV h2.writes hf.writes) kQ bT.has ?_;rintro v3 uR w3 X3 q3 ob mA ea;have h3:=h2.mv ea.mv;refine dp (I2 h3.parts hf.parts) kQ ea.has ?_;rintro v4 mw w4 X4 q4 qh lL fq;have z1:=au.kp.size;have z2:=bT.kp.size;have z3:=ea.kp.size;have u1:Own w1 X1 w0.heap.size _ _ v1 _:=q1.up oR sk;have u2:Own w2 X2 w0.heap.size _ _ v2 _:=q2.up nW zQ;have u3:Own w3 X3 w0.heap.size _ _ v3 _:=q3.up mA zQ;have u4:Own w4 X4 w0.heap.size _ _ v4 _:=q4.up lL zQ;replace u1:=((u1.since bT).since ea).since fq;replace u2:=(u2.since ea).since fq;replace u3:=u3.since fq;have p1:=u1.sl.one;have p2:=u2.sl.one;have p3:=u3.sl.one;have p4:=u4.sl.one;replace hs:=((hs.trans au).trans (bT.trans ea)).trans fq;clear au bT ea fq;obtain⟨a1,a2,a3,rfl⟩:=u1.sl.form;obtain⟨b1,b2,b3,rfl⟩:=u2.sl.form;obtain⟨c1,c2,c3,rfl⟩:=u3.sl.form;obtain⟨e1,e2,e3,rfl⟩:=u4.sl.form;repeat' first|refine aL ?_;intros
 exact aw hs fun wa bk=>⟨_,_,_,_,rfl,(u1.kp bk).tight.sl,(u2.kp bk).tight.sl,(u3.kp bk).tight.sl,(u4.kp bk).tight.sl⟩
def dF.mc (m:dF) (no:Int):dF:= { m with fr:=no,to:=m.range }
theorem I4 {m:dF} {vk vs fy vp vr vc vh vd:Value} (h:fu w K nb xb c x vm va vw dZ al rm ra rw ms ws ps) (hC:FX (cF nb xb c.ab vm va vw dZ) X w) (hK:FX K X w) (hm:m.at w K vk vs fy vp vr vc vh vd) (hi:1≤c.id∧c.id≤2) (hl:rm.length≤2^20):
  Ct pg 88 #[ptr nb 0,m.v vk vs fy vp vr vc vh vd] w X (cF nb xb c.ab vm va vw dZ) fun _ wa w'=> ∃gr kV,(∀k,cF nb xb c.ab gr va vw dZ k→cF nb xb c.ab vm va vw dZ k∨made wa w' k)∧
   fu w' K nb xb c x gr va vw dZ al kV ra rw (ms++[m.mc (20+c.id)]) ws ps∧kV.length=rm.length+1:=by
 intro w0 hk;have hT:=hC.ft hk;have oh:Mv K w K w0:=hk.fi fun k af=>(hK k af).1;replace h:=h.mv (fun k af=>hk.block k (hC k af).1) oh h.kd;replace hm:=hm.mv oh;have kW:=hC.kp hk;have jB: ∀k,K k→aV w0 k:=fun k af=>(hK.kp hk k af).1;have uW:=hm.mv (Mv.sub jB);have q1:=uW.keys.one;have q2:=uW.seen.one;have q3:=uW.writes.one;have q4:=uW.parts.one;have q5:=uW.ranges.one;have q6:=uW.fY.one;have q7:=uW.fU.one;have q8:=uW.fB.one;obtain⟨a1,a2,a3,rfl⟩:=uW.keys.form;obtain⟨b1,b2,b3,rfl⟩:=uW.seen.form;obtain⟨c1,c2,c3,rfl⟩:=uW.writes.form;obtain⟨e1,e2,e3,rfl⟩:=uW.parts.form;have bJ:=h.row.mono fun k e=>(kW k (.inl e)).1;have hs:=ak.init w0;apply I5;unfold zP;refine gC (Ch bJ (fun _ h=>h) hi) kQ hs.has fun w1 X1 au=>?_;have dU:=hT.since au;have h1:=h.mv (fun k af=>au.kp.block k (kW k af).1) (au.fZ jB) h.kd;have mm:=bJ.since au;have ovm:=h1.om.sl.one;have kX: ∀k,K k→X1 k:=fun k af=>au.sub k (jB k af);have wM: ∀k,cF nb xb c.ab vm va vw dZ k→X1 k:=fun k af=>au.sub k (kW k af).1;have oM:=hm.mv (au.fZ jB);replace hs:=hs.trans au;repeat' first|refine aL ?_;intros|(with_reducible apply F8);(case hX=>exact hs.has);(case he=>kernel_rfl);(case hk=>rfl);intro acc w X au ho;obtain⟨_,_,_,rfl⟩:=ho.sl.form;replace hs:=hs.trans au
 have cX:=dU.since au;have h2:=h1.mv (fun k af=>au.kp.block k (wM k af)) (au.fZ kX) h.kd;have iv:=oM.mv (au.fZ kX);have rX: ∀k,cF nb xb c.ab vm va vw dZ k→X k:=fun k af=>au.sub k (wM k af);have mC: ∀k,K k→X k:=fun k af=>au.sub k (kX k af);have ap:=h2.ap;refine BI (bytes:=416) (h2.om.mono fun k e=>rX k (.inr (.inr (.inr (.inl e))))) cX.s.has (aG _) kQ ho.sl (fun r hr u hu=>?_) (by simp only [bz];omega) (by simp only [bz];omega) fun v5 w5 X5 c5 jW uD=>?_
 ·rw [bw] at hr;subst hr;simp only [gU,kU,or_false] at hu;rcases hu with rfl|rfl|rfl|rfl|rfl|rfl|rfl|rfl|rfl|rfl|rfl|rfl|rfl|rfl|rfl|rfl|rfl|rfl|rfl|rfl|rfl|rfl|rfl|rfl|rfl|rfl|rfl|rfl|rfl|rfl|rfl|rfl|rfl|rfl|rfl|rfl<;>first|rfl|assumption
 have Bq:a7 w5 X5 nb (uj c vm va) nT:=⟨c5.sub _ (rX _ (.inl rfl)),(c5.block nb (rX _ (.inl rfl)) fun e=>(ap.m _ e).1 rfl).trans h2.row.2⟩;have ov5:=jW.sl.one;obtain⟨t1,t2,t3,rfl⟩:=jW.sl.form;clear hs au ho;repeat' first|refine aL ?_;intros
 refine qv (o:=10) Bq zQ kQ (by simp) rfl c5.has fun w6 X6 c6 IU=>?_;have cg:ez (fun k=>cZ vm k∨k=nb) _ _ X6 w6:=(c5.mono fun k _ e=>.inl e).trans (c6.mono fun k _ e=>.inr e);have MX:=kj jW Bq kQ;have ho6:Own w6 X6 0 mT 36 (.slice t1 t2 t3) _:=tY jW fun g hg=>⟨c6.sub g (jW.2.2 g hg),c6.block g (jW.2.2 g hg) fun e=>MX (by rw [←e];exact hg)⟩;have ed:=h2.step (c':=c) (x':=x) (gr:=.slice t1 t2 t3) (ic:=va) (fy:=vw) (j6:=dZ) (mW:=al) (uk:=ra) (oP:=rw) (uV:=ws) (Dt:=ps) (uU:=ms++[m.mc (20+c.id)]) rX mC cX.s.has (fun k=>cZ vm k∨k=nb) cg (fun k af=>af.elim (fun e=>.inr (.inr (.inr (.inl e)))) .inl) rfl
  (.inr IU) (.inl ⟨fun e=>e.elim (fun e=>(ap.m _ e).2.1 rfl) fun e=>ap.nx e.symm,rfl⟩) (.inl ⟨fun e=>e.elim (fun e=>(ap.m _ e).2.2.1 rfl) fun e=>ap.an e,rfl⟩) (.inr ⟨ho6,uD⟩)
  (.inl ⟨fun g hg e=>e.elim (fun e=>(ap.a g hg).2.2.2.1 e) fun e=>(ap.a g hg).1 e,rfl,rfl⟩) (.inl ⟨fun g hg e=>e.elim (fun e=>(ap.w g hg).2.2.2.1 e) fun e=>(ap.w g hg).1 e,rfl,rfl⟩) (.inl ⟨fun g hg e=>e.elim (fun e=>(ap.p g hg).2.2.2.1 e) fun e=>(ap.p g hg).1 e,rfl,rfl⟩)
  (h2.hm.add ⟨_,_,_,_,_,_,_,_,rfl,⟨iv.keys,iv.seen,iv.writes,iv.parts,iv.ranges,iv.fY,iv.fU,iv.fB⟩⟩) h2.hw h2.o1 h2.o2 h2.o3 h2.o4
 have eX:=cX.fL (F':=cF nb xb c.ab (.slice t1 t2 t3) va vw dZ) cg (fun k af=>af.elim (fun e=>.inr (.inr (.inr (.inl e)))) .inl) ed.2;have gZ: ∀k,K k→X6 k:=fun k af=>cg.sub k (mC k af);exact eX.fin fun wa bk=>⟨_,_,eX.gX bk fun _ h=>h,ed.1.mv (fun k af=>bk.block k (eX.bK k af)) (bk.fi gZ) ed.1.kd,by simp⟩
def dF.asked (m:dF) (x:oO):dF:= { m with dK:=x.dK,bF:=x.st }
theorem L9 {m:dF} {vk vs fy vp vr vc vh vd:Value} (h:fu w K nb xb c x vm va vw dZ al rm ra rw ms ws ps) (hC:FX (cF nb xb c.ab vm va vw dZ) X w) (hK:FX K X w) (hm:m.at w K vk vs fy vp vr vc vh vd) (hf:m.few) (hi:1≤c.id∧c.id≤2) (hl:rm.length≤2^20) (LZ:rw.length≤2^20):
  Ct pg 36 #[ptr nb 0,ptr xb 0,m.v vk vs fy vp vr vc vh vd] w X (cF nb xb c.ab vm va vw dZ) fun _ wa w'=> ∃gr fy kV oP K',(∀k,cF nb xb c.ab gr va fy dZ k→cF nb xb c.ab vm va vw dZ k∨made wa w' k)∧(∀k,K' k→K k∨made wa w' k)∧(∀k,K k→K' k)∧
   fu w' K' nb xb c x gr va fy dZ al kV ra oP (ms++[(m.asked x).mc (20+c.id)]) (ws++[m.asked x]) ps∧kV.length=rm.length+1∧oP.length=rw.length+1:=by
 intro w0 hk;have hT:=hC.ft hk;have oh:Mv K w K w0:=hk.fi fun k af=>(hK k af).1;replace h:=h.mv (fun k af=>hk.block k (hC k af).1) oh h.kd;replace hm:=hm.mv oh;have kW:=hC.kp hk;have jB: ∀k,K k→aV w0 k:=fun k af=>(hK.kp hk k af).1;have uW:=hm.mv (Mv.sub jB);have q5:=uW.ranges.one;have q6:=uW.fY.one;have q7:=uW.fU.one;have q8:=uW.fB.one;obtain⟨a1,a2,a3,rfl⟩:=uW.keys.form;obtain⟨b1,b2,b3,rfl⟩:=uW.seen.form;obtain⟨c1,c2,c3,rfl⟩:=uW.writes.form;obtain⟨e1,e2,e3,rfl⟩:=uW.parts.form;have jo:=h.act.mono fun k e=>(kW k (.inr (.inl e))).1;have ovw:=h.ow.sl.one;have ap:=h.ap;have hs:=ak.init w0;have o2:=h.o2;have o3:=h.o3;have o4:=h.o4;apply Lk;unfold AQ;repeat' first|refine aL ?_;intros|(with_reducible apply F8);(case hX=>exact hs.has);(case he=>kernel_rfl);(case hk=>rfl);intro acc w X au ho;obtain⟨_,_,_,rfl⟩:=ho.sl.form;replace hs:=hs.trans au
 have cX:=hT.since au;have h2:=h.mv (fun k af=>au.kp.block k (kW k af).1) (au.fZ jB) h.kd;have iv:=hm.mv (au.fZ jB);have rX: ∀k,cF nb xb c.ab vm va vw dZ k→X k:=fun k af=>au.sub k (kW k af).1;have mC: ∀k,K k→X k:=fun k af=>au.sub k (jB k af);refine BI (bytes:=416) (h2.ow.mono fun k e=>rX k (.inr (.inr (.inr (.inr (.inr (.inl e))))))) cX.s.has (aG _) kQ ho.sl (fun r hr u hu=>?_) (by simp only [bz];omega) (by simp only [bz];omega) fun v5 w5 X5 c5 jW uD=>?_
 ·rw [bw] at hr;subst hr;simp only [gU,kU,or_false] at hu;rcases hu with rfl|rfl|rfl|rfl|rfl|rfl|rfl|rfl|rfl|rfl|rfl|rfl|rfl|rfl|rfl|rfl|rfl|rfl|rfl|rfl|rfl|rfl|rfl|rfl|rfl|rfl|rfl|rfl|rfl|rfl|rfl|rfl|rfl|rfl|rfl|rfl<;>first|rfl|assumption
 have OG:a7 w5 X5 xb (Cg x vw) aT:=⟨c5.sub _ (rX _ (.inr (.inl rfl))),(c5.block xb (rX _ (.inr (.inl rfl))) fun e=>(ap.w _ e).2.1 rfl).trans h2.act.2⟩;obtain⟨t1,t2,t3,rfl⟩:=jW.sl.form;clear hs au ho jo;repeat' first|refine aL ?_;intros
 refine qv (o:=10) OG zQ kQ (by simp) rfl c5.has fun w6 X6 c6 IU=>?_;have cg:ez (fun k=>cZ vw k∨k=xb) _ _ X6 w6:=(c5.mono fun k _ e=>.inl e).trans (c6.mono fun k _ e=>.inr e);have MX:=kj jW OG kQ;have ho6:Own w6 X6 0 mT 36 (.slice t1 t2 t3) _:=tY jW fun g hg=>⟨c6.sub g (jW.2.2 g hg),c6.block g (jW.2.2 g hg) fun e=>MX (by rw [←e];exact hg)⟩;have ed:=h2.step (c':=c) (x':=x) (gr:=vm) (ic:=va) (fy:=.slice t1 t2 t3) (j6:=dZ) (mW:=al) (kV:=rm) (uk:=ra) (uU:=ms) (uV:=ws++[m.asked x]) (Dt:=ps) rX mC cX.s.has (fun k=>cZ vw k∨k=xb) cg (fun k af=>af.elim (fun e=>.inr (.inr (.inr (.inr (.inr (.inl e)))))) fun e=>.inr (.inl e)) rfl
  (.inl ⟨fun e=>e.elim (fun e=>(ap.w _ e).1 rfl) fun e=>ap.nx e,rfl⟩) (.inr IU) (.inl ⟨fun e=>e.elim (fun e=>(ap.w _ e).2.2.1 rfl) fun e=>ap.ax e,rfl⟩)
  (.inl ⟨fun g hg e=>e.elim (fun e=>(ap.m g hg).2.2.2.2.1 e) fun e=>(ap.m g hg).2.1 e,rfl,rfl⟩) (.inl ⟨fun g hg e=>e.elim (fun e=>(ap.a g hg).2.2.2.2.1 e) fun e=>(ap.a g hg).2.1 e,rfl,rfl⟩) (.inr ⟨ho6,rfl,uD⟩) (.inl ⟨fun g hg e=>e.elim (fun e=>(ap.p g hg).2.2.2.2.2 e) fun e=>(ap.p g hg).2.1 e,rfl,rfl⟩)
  h2.hm (h2.hw.add ⟨_,_,_,_,_,_,_,_,rfl,⟨iv.keys,iv.seen,iv.writes,iv.parts,iv.ranges,iv.fY,iv.fU,iv.fB⟩⟩) h2.o1 h2.o2 h2.o3 h2.o4
 have eX:=cX.fL (F':=cF nb xb c.ab vm va (.slice t1 t2 t3) dZ) cg (fun k af=>af.elim (fun e=>.inr (.inr (.inr (.inr (.inr (.inl e)))))) fun e=>.inr (.inl e)) ed.2;have gZ: ∀k,K k→X6 k:=fun k af=>cg.sub k (mC k af);have akR:Mv K _ K w6:=cg.fi fun k af=>⟨mC k af,fun hg=>h2.kd k af (hg.elim (fun e=>.inr (.inr (.inr (.inr (.inr (.inl e)))))) fun e=>.inr (.inl e))⟩;have IY:(m.asked x).at w6 K (.slice a1 a2 a3) (.slice b1 b2 b3) (.slice c1 c2 c3) (.slice e1 e2 e3) vr vc vh vd:=by
  have:=iv.mv akR;exact⟨this.keys,this.seen,this.writes,this.parts,this.ranges,this.fY,this.fU,this.fB⟩
 have h6:=ed.1;repeat' first|refine aL ?_;intros
 refine dp (P7 (m:=m.asked x) (IY.mv (Mv.sub gZ)) ⟨hf.keys,hf.seen,hf.writes,hf.parts⟩) kQ eX.s.has ?_;rintro _ ET w7 X7 ⟨EU,RX,vw2,Hw,rfl,u1,u2,u3,u4⟩ P6 Ee gH;have kF:=eX.since gH;have hz7:=gH.kp.size;have akS: ∀k,(K k∨made ET w7 k)→ ¬cF nb xb c.ab vm va (.slice t1 t2 t3) dZ k:=fun k af OH=>af.elim (fun e=>h6.kd k e OH) fun e=>by have:=h6.fx k OH;have:=e.1;omega
 have h7:fu w7 (fun k=>K k∨made ET w7 k) nb xb c x vm va (.slice t1 t2 t3) dZ al rm ra _ ms (ws++[m.asked x]) ps:=h6.mv (fun k af=>gH.kp.block k (eX.bK k af)) (fun k af _=>⟨.inl af,gH.kp.block k (gZ k af)⟩) akS;have EW:FX (fun k=>K k∨made ET w7 k) X7 w7:=fun k af=>af.elim (fun e=>⟨gH.sub k (gZ k e),gH.has k (gH.sub k (gZ k e))⟩) fun e=>⟨Ee k e,e.2⟩;have OE:=IY.mv (Y:=fun k=>K k∨made ET w7 k) fun k af _=>⟨.inl af,gH.kp.block k (gZ k af)⟩;have akT:(m.asked x).at w7 (fun k=>K k∨made ET w7 k) EU RX vw2 Hw vr vc vh vd:=⟨u1.mono fun k e=>.inr e,u2.mono fun k e=>.inr e,u3.mono fun k e=>.inr e,u4.mono fun k e=>.inr e,OE.ranges,OE.fY,OE.fU,OE.fB⟩;refine kF.call (I4 (m:=m.asked x) h7 (fun k af=>⟨kF.bK k af,kF.s.has k (kF.bK k af)⟩) EW akT hi hl) kQ (fun _ h=>h) fun v wa8 w8 X8 hq adu UM oe c8=>?_;obtain⟨gr,kV,hC8,h8,YB⟩:=hq;have I6:=oe.less hC8;have Ma: ∀k,(K k∨made ET w7 k)→X8 k:=fun k af=>c8.sub k (EW k af).1;have z0:=eX.s.kp.size;have z8:=c8.size;have hs:=ak.ct c8.has
 skip
 exact I6.fin fun wa bk=>⟨_,_,_,_,_,I6.gX bk fun _ h=>h,fun k af=>af.imp id fun e=>⟨by have:=e.1;omega,by have:=e.2;have:=bk.size;omega⟩,fun k e=>.inl e,h8.mv (fun k af=>bk.block k (I6.bK k af)) (bk.fi Ma) h8.kd,YB,by simp⟩
abbrev UN (code:Int) (t:de) (st:cx) (on:Bool) (vs:Value):List Value:=[I code,I t.gN,I t.ga,I t.sq,I st.wall,I st.ep,I st.node,B on,vs]
theorem zz {code:Int} {t:de} {st:cx} {on:Bool} {vs:Value} (h:fu w K nb xb c x vm va vw dZ al rm ra rw ms ws ps) (hC:FX (cF nb xb c.ab vm va vw dZ) X w) (hK:FX K X w) (ovs:aR.one vs=true) (hl:ra.length≤2^20):
  Ct pg 34 #[ptr nb 0,ptr xb 0,.agg (UN code t st on vs).toArray] w X (cF nb xb c.ab vm va vw dZ) fun _ wa w'=> ∃ic,(∀k,cF nb xb c.ab vm ic vw dZ k→cF nb xb c.ab vm va vw dZ k∨made wa w' k)∧
   fu w' K nb xb c x vm ic vw dZ (xC x.dK al) rm (ra++[UN code x.dK st on vs]) rw ms ws ps:=by
 intro w0 hk;have hT:=hC.ft hk;have oh:Mv K w K w0:=hk.fi fun k af=>(hK k af).1;replace h:=h.mv (fun k af=>hk.block k (hC k af).1) oh h.kd;have kW:=hC.kp hk;have jB: ∀k,K k→aV w0 k:=fun k af=>(hK.kp hk k af).1;have bJ:=h.row.mono fun k e=>(kW k (.inl e)).1;have jo:=h.act.mono fun k e=>(kW k (.inr (.inl e))).1;have ova:=h.oa.sl.one;have ovm:=h.om.sl.one;have o1:=h.o1;have ap:=h.ap;have hs:=ak.init w0;apply Ll;unfold AR;repeat' first|refine aL ?_;intros
 refine adv (kv:=fun k:de=>k.v) (k:=x.dK) (kt:=27) (et:=110) (pd h.am (Y:=aV w0) (kW _ (.inr (.inr (.inl rfl)))).1) fJ (fun _ h=>h.elim) BJ kQ hs.has fun w1 X1 c1 oM=>?_;have adw:=h.step (c':=c) (x':=x) (gr:=vm) (ic:=va) (fy:=vw) (j6:=dZ) (mW:=xC x.dK al) (kV:=rm) (uk:=ra) (oP:=rw) (uU:=ms) (uV:=ws) (Dt:=ps) (fun k af=>(kW k af).1) jB hs.has (fun k=>k=c.ab) c1 (fun k af=>.inr (.inr (.inl af))) rfl
  (.inl ⟨fun e=>ap.an e.symm,rfl⟩) (.inl ⟨fun e=>ap.ax e.symm,rfl⟩) (.inr oM) (.inl ⟨fun g hg e=>(ap.m g hg).2.2.1 e,rfl,rfl⟩) (.inl ⟨fun g hg e=>(ap.a g hg).2.2.1 e,rfl,rfl⟩) (.inl ⟨fun g hg e=>(ap.w g hg).2.2.1 e,rfl,rfl⟩) (.inl ⟨fun g hg e=>(ap.p g hg).2.2.1 e,rfl,rfl⟩) h.hm h.hw h.o1 h.o2 h.o3 h.o4
 have h1:=adw.1;have dU:=hT.fL (F':=cF nb xb c.ab vm va vw dZ) c1 (fun k af=>.inr (.inr (.inl af))) fun k af=>.inl af;have kX: ∀k,K k→X1 k:=fun k af=>c1.sub k (jB k af);have mm:=h1.row.mono fun k e=>dU.bK k (.inl e);have xD:=h1.act.mono fun k e=>dU.bK k (.inr (.inl e));clear hs bJ jo;have hs:=ak.ct dU.s.has;repeat' first|refine aL ?_;intros|(with_reducible apply F8);(case hX=>exact hs.has);(case he=>kernel_rfl);(case hk=>rfl);intro acc w X au ho;obtain⟨_,_,_,rfl⟩:=ho.sl.form;replace hs:=hs.trans au
 have cX:=dU.since au;have h2:=h1.mv (fun k af=>au.kp.block k (dU.bK k af)) (au.fZ kX) h1.kd;have mC: ∀k,K k→X k:=fun k af=>au.sub k (kX k af);refine BI (bytes:=88) (h2.oa.mono fun k e=>cX.bK k (.inr (.inr (.inr (.inr (.inl e)))))) cX.s.has (aG _) kQ ho.sl (fun r hr u hu=>?_) (by simp only [bz];omega) (by simp only [bz];omega) fun v5 w5 X5 c5 jW uD=>?_
 ·rw [bw] at hr;subst hr;simp only [gU,kU,or_false] at hu;rcases hu with rfl|rfl|rfl|rfl|rfl|rfl|rfl|rfl|rfl<;>first|rfl|assumption
 have Bq:a7 w5 X5 nb (uj c vm va) nT:=⟨c5.sub _ (cX.bK _ (.inl rfl)),(c5.block nb (cX.bK _ (.inl rfl)) fun e=>(ap.a _ e).1 rfl).trans h2.row.2⟩;obtain⟨t1,t2,t3,rfl⟩:=jW.sl.form;clear hs au ho mm xD;repeat' first|refine aL ?_;intros
 refine qv (o:=11) Bq zQ kQ (by simp) rfl c5.has fun w6 X6 c6 IU=>?_;have cg:ez (fun k=>cZ va k∨k=nb) _ _ X6 w6:=(c5.mono fun k _ e=>.inl e).trans (c6.mono fun k _ e=>.inr e);have MX:=kj jW Bq kQ;have ho6:Own w6 X6 0 anT 9 (.slice t1 t2 t3) _:=tY jW fun g hg=>⟨c6.sub g (jW.2.2 g hg),c6.block g (jW.2.2 g hg) fun e=>MX (by rw [←e];exact hg)⟩;have ed:=h2.step (c':=c) (x':=x) (gr:=vm) (ic:=.slice t1 t2 t3) (fy:=vw) (j6:=dZ) (mW:=xC x.dK al) (kV:=rm) (oP:=rw) (uU:=ms) (uV:=ws) (Dt:=ps) cX.bK mC cX.s.has (fun k=>cZ va k∨k=nb) cg (fun k af=>af.elim (fun e=>.inr (.inr (.inr (.inr (.inl e))))) .inl) rfl
  (.inr IU) (.inl ⟨fun e=>e.elim (fun e=>(ap.a _ e).2.1 rfl) fun e=>ap.nx e.symm,rfl⟩) (.inl ⟨fun e=>e.elim (fun e=>(ap.a _ e).2.2.1 rfl) fun e=>ap.an e,rfl⟩) (.inl ⟨fun g hg e=>e.elim (fun e=>(ap.m g hg).2.2.2.1 e) fun e=>(ap.m g hg).1 e,rfl,rfl⟩)
  (.inr ⟨ho6,uD⟩) (.inl ⟨fun g hg e=>e.elim (fun e=>(ap.w g hg).2.2.2.2.1 e) fun e=>(ap.w g hg).1 e,rfl,rfl⟩) (.inl ⟨fun g hg e=>e.elim (fun e=>(ap.p g hg).2.2.2.2.1 e) fun e=>(ap.p g hg).1 e,rfl,rfl⟩)
  h2.hm h2.hw h2.o1 h2.o2 h2.o3 h2.o4
 have eX:=cX.fL (F':=cF nb xb c.ab vm (.slice t1 t2 t3) vw dZ) cg (fun k af=>af.elim (fun e=>.inr (.inr (.inr (.inr (.inl e))))) .inl) ed.2;have gZ: ∀k,K k→X6 k:=fun k af=>cg.sub k (mC k af)
 skip
 exact eX.fin fun wa bk=>⟨_,eX.gX bk fun _ h=>h,ed.1.mv (fun k af=>bk.block k (eX.bK k af)) (bk.fi gZ) ed.1.kd⟩
theorem I7 (h:a7 w Y nb (uj c vm va) nT) (hY:FX Y X w) (o1:aR.one c.cm=true) (o2:aR.one vm=true) (o3:aR.one va=true):Ct pg 35 #[ptr nb 0] w X (· =nb) fun v _ w'=>v= .agg #[vm,va]∧a7 w' Y nb (uj c aN aN) nT:=by
 intro w0 hk;have hF:FX (· =nb) X w:=fun k af=>by subst af;exact hY _ h.1
 have hT:=hF.ft hk;have h0:=h.mv (hk.fi fun k af=>(hY k af).1);have hY0:=hY.kp hk;have bJ:=h0.mono fun k e=>(hY0 k e).1;have hs:=ak.init w0;apply I8;unfold zR;repeat' first|refine aL ?_;intros
 refine FQ (o:=10) bJ zQ kQ (by simp) rfl rfl hT.s.has fun w2 X2 c2 qY=>?_;have cX:=hT.fL (F':=(· =nb)) c2 (fun k af=>af) fun k af=>.inl af;repeat' first|refine aL ?_;intros
 exact cX.fin fun wa bk=>⟨rfl,⟨h.1,(bk.block nb qY.1).trans qY.2⟩⟩
theorem SK {code:Int} (h:fu w K nb xb c x vm va vw dZ al rm ra rw ms ws ps) (hC:FX (cF nb xb c.ab vm va vw dZ) X w) (hK:FX K X w) (hp:x.pre=false) (hl:ra.length≤2^20):
  Ct pg 90 #[ptr nb 0,ptr xb 0,I code] w X (cF nb xb c.ab vm va vw dZ) fun _ wa w'=> ∃ic,(∀k,cF nb xb c.ab vm ic vw dZ k→cF nb xb c.ab vm va vw dZ k∨made wa w' k)∧
   fu w' K nb xb c x vm ic vw dZ (xC x.dK al) rm (ra++[UN code x.dK .zero false aN]) rw ms ws ps:=by
 intro w0 hk;have hT:=hC.ft hk;have oh:Mv K w K w0:=hk.fi fun k af=>(hK k af).1;replace h:=h.mv (fun k af=>hk.block k (hC k af).1) oh h.kd;have kW:=hC.kp hk;have hs:=ak.init w0;apply HW;unfold yE;repeat' first|refine aL ?_;intros
 refine hT.call (zz (code:=code) (t:=.zero) (st:=.zero) (on:=false) (vs:=aN) h kW (hK.kp hk) rfl hl) kQ (fun _ h=>h) fun v qQ w1 X1 hq sk oR dU c1=>?_;obtain⟨ic,wM,h1⟩:=hq;have Gh:=dU.less wM;have xD:=h1.act.mono fun k e=>Gh.bK k (.inr (.inl e));have kX: ∀k,K k→X1 k:=fun k af=>c1.sub k (hK.kp hk k af).1;rw [show Cg x vw=Cg { x with pre:=false } vw by rw [←hp]] at xD;clear hs;have hs:=ak.ct Gh.s.has;repeat' first|refine aL ?_;intros
 exact Gh.fin fun wa bk=>⟨_,Gh.gX bk fun _ h=>h,h1.mv (fun k af=>bk.block k (Gh.bK k af)) (bk.fi kX) h1.kd⟩
end
end Go.Proofs.YtbpnemeooenpmaaGreat
