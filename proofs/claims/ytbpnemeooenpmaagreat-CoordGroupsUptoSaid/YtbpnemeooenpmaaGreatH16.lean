/-
 Part 16 of the proof: what the last text leans on.
-/
import Derived.WalkKit
import Derived.Test.YtbpnemeooenpmaaGreatH15
open List renaming length_map → aI, mem_cons_of_mem → bA, length_cons → ba, nodup_nil → km, length_singleton → bz, length → aj, map_cons → cf, mem_singleton → bw, take_add_one → cn, filter_cons → cW, map_map → dt, length_nil → bL, map_append → bC, take_of_length_le → bq, map_congr_left → fE, filter_append → qm, length_filter_le → sT, mem_erase_of_ne → tz
open Nat renaming le_trans → ah, zero_le → aG, lt_of_lt_of_le → aH
open Option renaming toList_some → fj
open Classical renaming em → wi
set_option linter.unusedVariables false
set_option linter.unusedSimpArgs false
namespace Go.Proofs.YtbpnemeooenpmaaGreat
open Go.Proofs.Tryz renaming prog → pg
open Go.aR Go.RowKit Go.Sort
set_option maxRecDepth 100000
set_option maxHeartbeats 2000000
theorem RY (x:Int) (hx:x=0∨x=1):Pure pg 162 #[.int .u64 x] (I x):=by
 intro W;rcases hx with rfl|rfl;all_goals
  go_enter Tryz.func162,Tryz.ntmps162
  go_wp2
  all_goals (try simp only [Exit.inBlock,Exit.then])
 ·refine bodyPost_ret (v:=I 0) ?_ rfl ⟨rfl,Ext.refl _⟩;rw [results_tmp (t:=2) kQ];kernel_rfl
 ·refine bodyPost_ret (v:=I 1) ?_ rfl ⟨rfl,Ext.refl _⟩;rw [results_tmp (t:=2) kQ];kernel_rfl
end Go.Proofs.YtbpnemeooenpmaaGreat
namespace Go.Proofs.YtbpnemeooenpmaaGreat
open Go.Proofs.Tryz renaming prog → pg
open Go.aR
set_option maxRecDepth 100000
set_option maxHeartbeats 1000000
set_option linter.unusedVariables false
set_option linter.unusedSimpArgs false
attribute [local irreducible] un jn aB aS ld1 dY st1 dr cB kN dw lR uK sP fC e6 ae aC aJ eW eV eU eC eF gE ay fin aQ aF aE vS xh gG gS qK uL sQ xi xj xk gz gP qL uM sR xl xm
theorem abT {w:World} {X:XS} {a f:Value} {lo hi:Int} (h:hi≤lo+1) (h2: -(2^62)≤lo∧lo≤2^62):Ct pg 275 #[a,I lo,I hi,f] w X nX fun _ _ _=>True:=by
 intro w0 hk;have hs:=ak.init w0;apply rY;unfold lI;refine Tz zQ zQ ?_;refine fM (fun n a b w X=>a=I (lo+1)∧ak (aV w0) w0 X w) 0 ⟨rfl,hs⟩ ?_;clear hs;rintro n _ _ w X ⟨rfl,hs⟩;repeat' first|refine aL ?_;intros|refine dM ?_ ?_<;>intros|(exfalso;omega)|((first|(with_reducible refine aw hs ?_)|(with_reducible refine aw (bR.trans hs) ?_));intro wa hk;trivial)
theorem abU {w:World} {X:XS} {a f:Value} {n:Int} (h:n=0∨n=1):Ct pg 215 #[a,I 0,I n,I n,f] w X nX fun _ _ _=>True:=by
 intro w0 hk;have hs:=ak.init w0;apply uX;unfold nI;refine Om (fun m a b c d e w X=>a=I n∧d=I 0∧e=I n∧ak (aV w0) w0 X w) 0 ⟨rfl,rfl,rfl,hs⟩ ?_;clear hs;rintro m _ _ _ _ _ w X ⟨rfl,rfl,rfl,hs⟩;repeat' first|refine bD ?_;intros|with_reducible apply dy
 refine dp (abT zQ zQ) kQ hs.has ?_;rintro v wa w1 X1 _ hle fO au;exact aw (hs.trans au) fun wa bk=>trivial
theorem P8 {w:World} {X:XS} {a f:Value} {rows:List (List Value)} (ha:Sl w X 7 a rows) (h:rows.length≤1):Ct pg 159 #[a,f] w X nX fun _ _ _=>True:=by
 intro w0 hk;replace ha:=ha.mv hk.dD;have hs:=ak.init w0;apply rZ;unfold lJ;have ha':Sl w0 (aV w0) 7 a (rows.map fun r=>r):=by simpa using ha
 have hw:IntKind.u64.wrap (rows.length:Int)=(rows.length:Int):=by
  rcases(by omega:rows.length=0∨rows.length=1)with e|e<;>rw [e]<;>rfl
 repeat' first|refine aL ?_;intros
 rw [hw];refine ee (RY _ zQ) kQ hs.has ?_;intro w X au;replace hs:=hs.trans au;refine dp (abU zQ) kQ hs.has ?_;rintro v wa w X _ hle fO au;exact aw (hs.trans au) fun _ _=>trivial
theorem adx {w:World} {X:XS} {a f:Value} {lo hi:Int} (h:hi≤lo+1) (h2: -(2^62)≤lo∧lo≤2^62):Ct pg 236 #[a,I lo,I hi,f] w X nX fun _ _ _=>True:=by
 intro w0 hk;have hs:=ak.init w0;apply sx;unfold lV;refine Tz zQ zQ ?_;refine fM (fun n a b w X=>a=I (lo+1)∧ak (aV w0) w0 X w) 0 ⟨rfl,hs⟩ ?_;clear hs;rintro n _ _ w X ⟨rfl,hs⟩;repeat' first|refine aL ?_;intros|refine dM ?_ ?_<;>intros|(exfalso;omega)|((first|(with_reducible refine aw hs ?_)|(with_reducible refine aw (bR.trans hs) ?_));intro wa hk;trivial)
theorem ady {w:World} {X:XS} {a f:Value} {n:Int} (h:n=0∨n=1):Ct pg 172 #[a,I 0,I n,I n,f] w X nX fun _ _ _=>True:=by
 intro w0 hk;have hs:=ak.init w0;apply wj;unfold ot;refine Om (fun m a b c d e w X=>a=I n∧d=I 0∧e=I n∧ak (aV w0) w0 X w) 0 ⟨rfl,rfl,rfl,hs⟩ ?_;clear hs;rintro m _ _ _ _ _ w X ⟨rfl,rfl,rfl,hs⟩;repeat' first|refine bD ?_;intros|with_reducible apply dy
 refine dp (adx zQ zQ) kQ hs.has ?_;rintro v wa w1 X1 _ hle fO au;exact aw (hs.trans au) fun wa bk=>trivial
theorem SL {w:World} {X:XS} {a f:Value} {rows:List (List Value)} (ha:Sl w X 3 a rows) (h:rows.length≤1):Ct pg 109 #[a,f] w X nX fun _ _ _=>True:=by
 intro w0 hk;replace ha:=ha.mv hk.dD;have hs:=ak.init w0;apply s7;unfold mj;have ha':Sl w0 (aV w0) 3 a (rows.map fun r=>r):=by simpa using ha
 have hw:IntKind.u64.wrap (rows.length:Int)=(rows.length:Int):=by
  rcases(by omega:rows.length=0∨rows.length=1)with e|e<;>rw [e]<;>rfl
 repeat' first|refine aL ?_;intros
 rw [hw];refine ee (RY _ zQ) kQ hs.has ?_;intro w X au;replace hs:=hs.trans au;refine dp (ady zQ) kQ hs.has ?_;rintro v wa w X _ hle fO au;exact aw (hs.trans au) fun _ _=>trivial
end Go.Proofs.YtbpnemeooenpmaaGreat
namespace Go.Proofs.YtbpnemeooenpmaaGreat
open Go.Proofs.Tryz renaming prog → pg
open Go.aR Go.RowKit Go.Maps Go.Sort Go.Shelf
set_option maxRecDepth 100000
set_option maxHeartbeats 1000000
theorem OI (q:List (List UInt8)):q.map encStr=((q.map fun x=>(⟨x.toArray⟩:ByteArray)).map S1).flatten:=by
 induction q with
 |nil=>rfl
 |cons a q ih=>simp only [cf,List.flatten_cons,←ih];rfl
theorem af1 (ks:List ByteArray):(ks.map S1).flatten=(ks.map bl).map encStr:=by
 rw [OI]
 congr 2
 rw [dt];conv=>lhs;rw [←List.map_id ks]
 exact fE fun x _=>(afj x).symm
theorem ZE {w:World} {X:XS} {lo:Nat} {v:Value} {ks:List ByteArray} (h:Own w X lo 9 1 v (ks.map S1)) (amQ:ks.length≤2^40):
  Ct pg 92 #[v] w X (cZ v) fun _ wa w'=>Own w' (cZ v) lo 9 1 v ((gu ks).map S1):=by
 intro wa hk;replace h:=h.kp hk;obtain⟨h1,h2,h3⟩:=h;have hlen:(gu ks).length=ks.length:=(kL _).length_eq;rcases h2.2 with⟨rfl,hz⟩|⟨g,cap,cur,rfl,ZF,hg,r1,r2,r3,r4⟩
 ·refine(AnyM.slices_Sort_string_none Tryz.Tu none 0 wa).mono ?_;rintro e w' ⟨rfl,rfl⟩;have AS:ks=[]:=List.eq_nil_of_length_eq_zero (by simpa using hz);subst AS;have e0:(gu []).map S1=[]:=by simp [gu]
  refine⟨_,rfl,Fr.refl _ _,?_⟩
  show Own w' _ lo _ 1 _ ((gu []).map S1)
  rw [e0];exact Own.nil _ _ _ _ _
 ·have hl:(ks.map bl).length=(ks.map S1).length:=by simp
  have hH:Holds encStr wa g 0 (ks.map bl).toArray:=holds_of_block hg (by rw [hl,←af1,←r4];simp);have fe:g<wa.heap.size:=(Array.getElem?_eq_some_iff.1 hg).1;have cS:=AnyM.slices_Sort_string Tryz.Tu g 0 cap (ks.map bl) wa hH fe (by rw [hl,aI];omega);rw [hl] at cS;refine cS.mono ?_;rintro e w' ⟨rfl,n,os,rfl⟩;have yF:=grownBy_sorted (w:=wa) (g:=g) (n:=n) (os:=os) ((ks.map bl).mergeSort fun x y=>decide (x≤y)).toArray;have sj:=ownsRow_sorted (w:=wa) (base:=lo) (g:=g) (cap:=cap) (n:=n) (e:=9) (os:=os) (cur:=cur) (ss:=ks.map bl) (ts:=(ks.map bl).mergeSort fun x y=>decide (x≤y)) (by simp) ZF hg (by rw [hl];exact r1) r2 (by simpa using r3);have e1:((ks.map bl).mergeSort fun x y=>decide (x≤y)).map encStr=((gu ks).map S1).flatten:=OI _;refine⟨_,rfl,⟨yF.os,yF.tape,yF.output,yF.size,fun k af hn=>yF.block k af fun e=>hn (by cases e;rfl)⟩,fun r hr=>by obtain⟨x,_,rfl⟩:=List.mem_map.1 hr;rfl,?_,fun q hq=>hq⟩;rw [e1,hl] at sj;have e2:((gu ks).map S1).length=(ks.map S1).length:=by rw [aI,aI,hlen]
  rw [e2];exact sj
end Go.Proofs.YtbpnemeooenpmaaGreat
namespace Go.Proofs.YtbpnemeooenpmaaGreat
open Go.Proofs.Tryz renaming prog → pg
open Go.aR
set_option maxRecDepth 100000
set_option maxHeartbeats 1000000
set_option linter.unusedVariables false
set_option linter.unusedSimpArgs false
attribute [local irreducible] un jn aB aS ld1 dY st1 dr cB kN dw lR uK sP fC e6 ae aC aJ eW eV eU eC eF gE ay fin aQ aF aE vS xh gG gS qK uL sQ xi xj xk gz gP qL uM sR xl xm
section
variable {w w' wa : World} {X X' K K' Y : XS} {nb xb mb : Nat} {c : pj} {x : oO} {vm va vw dZ gr ic fy j6 : Value} {al : List (de × Nat)} {rm ra rw : List (List Value)} {ms ws : List dF} {ps : List Int} {ds : gK}
theorem wm (h:a7 w Y xb (Cg x vw) aT) (hY: ∀k,Y k→X k) (hv:x.vs=aN):
  Ct pg 91 #[ptr xb 0] w X nX fun v wa w'=>Own w' (made wa w') wa.heap.size 215 7 v (([]:List jA).map jA.l):=by
 intro w0 hk;have bJ:=(h.mono hY).mv hk.dD;have hs:=ak.init w0;apply Ef;unfold uY;repeat' first|refine aL ?_;intros
 rw [hv];refine dp (I0 (xs:=[]) (Sl.nil _ _ _) (by simp)) kQ hs.has ?_;rintro v qQ w1 X1 q1 sk oR au;have u1:Own w1 X1 w0.heap.size _ _ v _:=q1.up oR sk;replace hs:=hs.trans au;refine dp (P8 u1.sl (by simp)) kQ hs.has ?_;rintro v2 zI w2 X2 _ qP nW bT;have u2:=u1.since bT;exact aw (hs.trans bT) fun wa bk=>(u2.kp bk).tight
theorem fu.since (h:fu w K nb xb c x vm va vw dZ al rm ra rw ms ws ps) (hC:FX (cF nb xb c.ab vm va vw dZ) X w) (hK:FX K X w) (hs:ak X w X' w') (E:XS) (hE: ∀k,E k→w.heap.size≤k):
  fu w' (fun k=>K k∨E k) nb xb c x vm va vw dZ al rm ra rw ms ws ps:=
 h.mv (fun k hk=>hs.kp.block k (hC k hk).1) (fun k hk _=>⟨.inl hk,hs.kp.block k (hK k hk).1⟩) fun k hk hf=>hk.elim (fun e=>h.kd k e hf) fun e=>by have:=h.fx k hf;have:=hE k e;omega
theorem fu.shut (h:fu w K nb xb c x vm va vw dZ al rm ra rw ms ws ps):fu w (fun k=>K k∨cZ dZ k) nb xb c x vm va vw aN al rm ra rw ms ws [] where
 row:=h.row
 act:=h.act
 am:=h.am
 om:=h.om
 oa:=h.oa
 ow:=h.ow
 op:=Own.nil _ _ _ _ _
 hm:=h.hm.mv (Mv.sub fun k hk=>.inl hk)
 hw:=h.hw.mv (Mv.sub fun k hk=>.inl hk)
 sep:=h.sep
 kd:=fun k hk hf=>by
  rcases hk with e|e
  ·exact h.kd k e (by rcases hf with q|q|q|q|q|q|q;(· exact .inl q);(· exact .inr (.inl q));(· exact .inr (.inr (.inl q)));(· exact .inr (.inr (.inr (.inl q))));(· exact .inr (.inr (.inr (.inr (.inl q)))));(· exact .inr (.inr (.inr (.inr (.inr (.inl q))))));(· cases q))
  ·obtain⟨a1,a2,a3,a4,a5,a6⟩:=h.ap.p k e;rcases hf with q|q|q|q|q|q|q
   ·exact a1 q
   ·exact a2 q
   ·exact a3 q
   ·exact a4 q
   ·exact a5 q
   ·exact a6 q
   ·cases q
 o1:=h.o1
 o2:=h.o2
 o3:=h.o3
 o4:=h.o4
end
def keysOf (wr:rD):List BA:=gu (wr.map (·.1))
theorem zA (wr:rD):(dC wr).map (·.key)=keysOf wr:=by
 unfold dC keysOf;rw [dt];conv=>rhs;rw [←List.map_id (gu _)]
 exact fE fun x _=>rfl
theorem abV (wr:rD):gu (keysOf wr)=keysOf wr:=ac0 (kL _)
def uG:dF:=⟨0,0,0,.zero,0,0,0,.zero,.zero,false,0,0,[],[],[],[],[],[],.zero⟩
def fb (ds:gK) (wr:rD):List ki:=jZ ds (gp ds [] (keysOf wr)).1
def vJ (ids:List Int) (l:List KV) (g:ki):dF:= { uG with kind:=3,range:=g.lH.id,gx:=g.lH.gx,parts:=ids,writes:=l.filter fun w=>g.keys.any fun y=>decide (w.key=y) }
def lW (ds:gK) (wr:rD):List dF:=(fb ds wr).map (vJ ((fb ds wr).map (·.lH.id)) (dC wr))
def xE (p:List fw) (ds:gK) (wr:rD):Prop:=iN p=0∧(∃s,runM p [] []= .ok (s,wr))∧dC wr≠[]∧(gp ds [] (keysOf wr)).2=0
theorem adz {c:Int} {a b:fR} {e:Int} (h:su c a b= .error e):e≠0:=by
 unfold su at h;split at h
 ·cases h
 ·split at h
  ·cases h
  ·split at h
   ·cases h
   ·split at h
    ·cases h;decide
    ·cases h
theorem UO: ∀{p:List fw} {s:List fR} {wr:rD} {e:Int},runM p s wr= .error e→e≠0
 |[],s,wr,e,h=>by simp [runM] at h
 |o::r,s,wr,e,h=>by
  unfold runM at h;cases hd:qX o s wr with
  |ok sw=>rw [hd] at h;exact UO h
  |error q=>
   rw [hd] at h;cases h;unfold qX at hd;split at hd
   ·cases hd
   ·split at hd
    ·cases hd
    ·split at hd
     ·cases hd
     ·split at hd
      ·split at hd
       ·cases hd
       ·cases hd;decide
      ·split at hd
       ·cases hd
       ·split at hd
        ·cases hd
        ·rename_i q hq;cases hd;exact adz hq
theorem OJ: ∀{p:List fw} {s s':List fR} {wr kT:rD},(∀o∈p,zM o (Ea o.code)=true)→(wr.map (·.1)).Nodup→runM p s wr= .ok (s',kT)→(∀y∈wr,y.1.size≤24)→(∀y∈kT,y.1.size≤24)∧kT.length≤wr.length+p.length∧(kT.map (·.1)).Nodup
 |[],s,s',wr,kT,hf,hn,h,hw=>by
  simp only [runM,Except.ok.injEq,Prod.mk.injEq] at h;rw [←h.2];exact⟨hw,by simp,hn⟩
 |o::r,s,s',wr,kT,hf,hn,h,hw=>by
  unfold runM at h;cases hd:qX o s wr with
  |error q=>rw [hd] at h;cases h
  |ok sw=>
   obtain⟨s1,wr1⟩:=sw;rw [hd] at h;have h1:(∀y∈wr1,y.1.size≤24)∧wr1.length≤wr.length+1∧(wr1.map (·.1)).Nodup:=by
    rcases UG hd with rfl|⟨v,rfl,hc⟩
    ·exact⟨hw,by omega,hn⟩
    ·refine⟨fun y hy=>?_,zL _,Ga hn⟩;rcases jv hn hy with rfl|⟨hy,_⟩
     ·exact OD (hf o (by simp)) hc
     ·exact hw y hy
   have ih:=OJ (fun x hx=>hf x (bA _ hx)) h1.2.2 h h1.1;refine⟨ih.1,?_,ih.2.2⟩;rw [ba];omega
theorem zS {p:List fw} (h:iN p=0):p.length≤40∧uE p 0=0:=by
 unfold iN at h;split at h
 ·exact absurd h (by decide)
 ·split at h
  ·rename_i h1 h2;exact absurd h h2
  ·rename_i h1 h2;exact⟨by omega,by rcases wi (uE p 0=0)with e|e;exact e;exact absurd e h2⟩
theorem RZ {p:List fw} {s:List fR} {wr:rD} (h:iN p=0) (hr:runM p [] []= .ok (s,wr)):(∀y∈wr,y.1.size≤24)∧wr.length≤40∧(wr.map (·.1)).Nodup:=by
 obtain⟨h1,h2⟩:=zS h;have:=OJ (wr:=[]) (fun o ho=>(Dq h2 o ho).1) km hr (fun y hy=>by cases hy);refine⟨this.1,?_,this.2.2⟩;have h3:=this.2.1;simp only [bL] at h3;omega
theorem MZ {ds:gK} : ∀{keys:List BA} {m:List (Int×List BA)},(gp ds m keys).1.length≤m.length+keys.length
 |[],m=>by simp [gp]
 |k::r,m=>by
  rw [gp,ba];split
  ·split
   ·simp only;omega
   ·rename_i g _;have ih:=MZ (ds:=ds) (keys:=r) (m:=if((getM g.id m).getD []).any (fun x=>decide (k=x))then m else dR g.id (((getM g.id m).getD [])++[k]) m);have h2:(if((getM g.id m).getD []).any (fun x=>decide (k=x))then m else dR g.id (((getM g.id m).getD [])++[k]) m).length≤m.length+1:=by
     split
     ·omega
     ·exact zL _
    omega
  ·simp only;omega
theorem Xs (ds:gK) (wr:rD):(fb ds wr).length≤(keysOf wr).length:=by
 unfold fb jZ;rw [aI,(ml _).length_eq,aI];have:=MZ (ds:=ds) (keys:=keysOf wr) (m:=[]);simpa using this
section
variable {w w' wa : World} {X X' K K' Y : XS} {nb xb mb : Nat} {c : pj} {x : oO} {vm va vw dZ gr ic fy j6 : Value} {al : List (de × Nat)} {rm ra rw : List (List Value)} {ms ws : List dF} {ps : List Int} {ds : gK}
theorem fu.UP (h:fu w K nb xb c x vm va vw dZ al rm ra rw ms ws ps) (hs:ak X w X' w') (hC:FX (cF nb xb c.ab vm va vw dZ) X w):FX (cF nb xb c.ab vm va vw dZ) X' w':=fun k hk=>⟨hs.sub k (hC k hk).1,hs.has k (hs.sub k (hC k hk).1)⟩
structure akU (nb xb:Nat) (c:pj) (x x':oO) (vm va vw:Value) (K:XS) (al:List (de×Nat)) (ra:List (List Value)) (ms:List dF) (p:List fw) (ds:gK) (wa w':World) (gr ic fy:Value) (K':XS) (mW:List (de×Nat)) (kV uk oP:List (List Value)) (uU uV:List dF):Prop where
 f: ∀k,cF nb xb c.ab gr ic fy aN k→cF nb xb c.ab vm va vw aN k∨made wa w' k
 k1: ∀k,K' k→K k∨made wa w' k
 k2: ∀k,K k→K' k
 mid:fu w' K' nb xb c x' gr ic fy aN mW kV uk oP uU uV []
 tx:x'.dK=x.dK
 res:(uk.length=ra.length+1∧ ∀wr,¬xE p ds wr)∨ ∃wr vq,xE p ds wr∧x'= { x with pre:=true,vq:=vq } ∧Sl w' K' 1 vq (((fb ds wr).map (·.lH.id)).map I1)∧mW=al∧uk=ra∧ic=va∧
  uU=ms++(lW ds wr).map (fun m=>(m.asked x).mc (20+c.id))∧uV=(lW ds wr).map (fun m=>m.asked x)
def adA (nb xb:Nat) (c:pj) (x:oO) (vm va vw:Value) (K:XS) (al:List (de×Nat)) (ra:List (List Value)) (ms:List dF) (p:List fw) (ds:gK) (wa w':World):Prop:= ∃x' gr ic fy K' mW kV uk oP uU uV,akU nb xb c x x' vm va vw K al ra ms p ds wa w' gr ic fy K' mW kV uk oP uU uV
theorem UQ {p:List fw} (h:fu w K nb xb c x vm va vw aN al rm ra rw ms [] []) (hC:FX (cF nb xb c.ab vm va vw aN) X w) (hK:FX K X w) (hp:x.pre=false) (hv:x.vs=aN) (hq:x.vq=aN)
  (I9:Sl w K 5 x.vp (p.map fw.l)) (hd:gO w K c.Ar mb ds) (hW: ∀(i:Int) (r:dq),getM i ds=some r→r.id=i) (hr:dW 1 1 p=[]) (hi:1≤c.id∧c.id≤2) (hl:rm.length≤2^10) (LZ:ra.length≤2^10) (Ci:iN p=0):
  Ct pg 37 #[ptr nb 0,ptr xb 0] w X (cF nb xb c.ab vm va vw aN) fun _ wa w'=>adA nb xb c x vm va vw K al ra ms p ds wa w':=by
 intro w0 hk;have hT:=hC.ft hk;have oh:Mv K w K w0:=hk.fi fun k af=>(hK k af).1;replace h:=h.mv (fun k af=>hk.block k (hC k af).1) oh h.kd;replace I9:=I9.mv oh;replace hd:=hd.mv oh;have kW:=hC.kp hk;have jB:=hK.kp hk;have jo:=h.act.mono fun k e=>(kW k (.inr (.inl e))).1;have hs:=ak.init w0;clear hC hK oh hk;apply Lm;unfold AT;repeat' first|refine aL ?_;intros
 rw [hv];refine dp (L6 (I9.mv (Mv.sub fun k af=>(jB k af).1)) hr) kQ hs.has ?_;rintro v qQ w1 X1 q1 sk oR au;rw [if_neg (fun e=>e Ci)] at q1;have dU:=hT.since au;have wM:=h.UP au kW;have h1:=h.since kW jB au (made qQ w1) fun k e=>ah sk e.1;have kX:FX (fun k=>K k∨made qQ w1 k) X1 w1:=fun k af=>af.elim (fun e=>⟨au.sub k (jB k e).1,au.has k (au.sub k (jB k e).1)⟩) fun e=>⟨oR k e,e.2⟩;have xD:=h1.act.mono fun k e=>(wM k (.inr (.inl e))).1;have mm:=h1.row.mono fun k e=>(wM k (.inl e)).1;have UR:=I9.mv (au.fZ fun k af=>(jB k af).1);have EX:=hd.mv (au.fZ fun k af=>(jB k af).1);clear hs jo I9 hd h hT;have hs:=ak.ct au.has;have ahm: ∀{w2:World} {X2 K2:XS} {e:Int},Ft w0 (cF nb xb c.ab vm va vw aN) w2 X2 (cF nb xb c.ab vm va vw aN)→fu w2 K2 nb xb c x vm va vw aN al rm ra rw ms [] []→FX K2 X2 w2→(∀k,K2 k→K k∨w0.heap.size≤k)→(∀k,K k→K2 k)→(∀wr,¬xE p ds wr)→
   eC pg (xv (cF nb xb c.ab vm va vw aN) w0 fun v w'=>adA nb xb c x vm va vw K al ra ms p ds w0 w') X2 w2 true 90 #[ptr nb 0,ptr xb 0,I e] fun _ akV akW=>fin (xv (cF nb xb c.ab vm va vw aN) w0 fun v w'=>adA nb xb c x vm va vw K al ra ms p ds w0 w') akW akV (Value.tuple #[]):=
  fun {w2 X2 K2 e} cX h2 mC pq xF ka=>by
   refine cX.call (SK (code:=e) h2 (cX.fx fun _ h=>h) mC hp zQ) kQ (fun _ h=>h) fun v uR w3 X3 EY ob mA dE c3=>?_;obtain⟨ic,AU,h3⟩:=EY;have np:=dE.less AU;have kY: ∀k,K2 k→X3 k:=fun k af=>c3.sub k (mC k af).1;exact np.fin fun wa bk=>⟨x,vm,ic,vw,K2,_,rm,_,rw,ms,[],np.gX bk fun _ h=>h,fun k af=>(pq k af).imp id fun e=>⟨e,aH (np.s.has k (kY k af)) bk.size⟩,xF,h3.mv (fun k af=>bk.block k (np.bK k af)) (bk.fi kY) h3.kd,rfl,.inl ⟨by simp,ka⟩⟩
 have pq: ∀k,(K k∨made qQ w1 k)→K k∨w0.heap.size≤k:=fun k af=>af.imp id fun e=>ah sk e.1;cases hR:runM p [] [] with
 |error e=>
  rw [hR] at q1;subst q1;have du:=UO hR;repeat' first|refine bD ?_;intros
  exact ahm dU h1 kX pq (fun k af=>.inl af) fun wr hg=>by obtain⟨s,h2⟩:=hg.2.1;rw [hR] at h2;cases h2
 |ok sw=>
  obtain⟨s,wr⟩:=sw;rw [hR] at q1;obtain⟨vl,rfl,II⟩:=q1;have adB:=II.mono oR;obtain⟨hws,hwl,hwn⟩:=RZ Ci hR;have tv:(dC wr).length≤40:=by rw [←aI (f:=(·.key)),zA];unfold keysOf;rw [(kL _).length_eq,aI];exact hwl
  by_cases hw0:dC wr=[]
  ·have akX:((dC wr).length:Int)=0:=by rw [hw0];rfl
   repeat' first|refine bD ?_;intros
   refine dp (wm xD (fun _ h=>h) hv) kQ hs.has ?_;rintro vr zI w2 X2 q2 qP nW bT;have cX:=dU.since bT;have h2:=h1.mv (w':=w2) (K':=fun k=>K k∨made qQ w1 k) (fun k af=>bT.kp.block k (wM k af).1) (bT.fZ fun k af=>(kX k af).1) h1.kd;have mC:FX (fun k=>K k∨made qQ w1 k) X2 w2:=fun k af=>⟨bT.sub k (kX k af).1,bT.has k (bT.sub k (kX k af).1)⟩;have ovr:=q2.sl.one;clear hs;have hs:=ak.ct bT.has;obtain⟨t1,t2,t3,rfl⟩:=q2.sl.form;repeat' first|refine aL ?_;intros
   refine cX.call (zz (code:=0) (t:=.zero) (st:=x.st) (on:=true) (vs:=.slice t1 t2 t3) h2 (cX.fx fun _ h=>h) mC ovr zQ) kQ (fun _ h=>h) fun v uR w3 X3 EY ob mA dE c3=>?_;obtain⟨ic,AU,h3⟩:=EY;have np:=dE.less AU;have kY: ∀k,(K k∨made qQ w1 k)→X3 k:=fun k af=>c3.sub k (mC k af).1;exact np.fin fun wa bk=>⟨x,vm,ic,vw,_,_,rm,_,rw,ms,[],np.gX bk fun _ h=>h,fun k af=>(pq k af).imp id fun e=>⟨e,aH (np.s.has k (kY k af)) bk.size⟩,fun k af=>.inl af,h3.mv (fun k af=>bk.block k (np.bK k af)) (bk.fi kY) h3.kd,rfl,
    .inl ⟨by simp,fun kT hg=>by obtain⟨s',h2⟩:=hg.2.1;rw [hR] at h2;cases h2;exact hg.2.2.1 hw0⟩⟩
  ·have akX: ¬((dC wr).length:Int)=0:=fun e=>hw0 (List.length_eq_zero_iff.1 zQ);repeat' first|refine bD ?_;intros
   refine dp (tq (UR.mv (Mv.sub fun k af=>(kX k (.inl af)).1)) (by have:=(zS Ci).1;omega)) kQ hs.has ?_;rintro vk zI w2 X2 q2 qP nW bT;rw [hr] at q2;have nY:Own w2 X2 w1.heap.size 9 1 vk ((((dC wr).take 0).map (·.key)).map S1):=q2.up nW qP;have akY:=adB.since bT;clear hs;have hs:=ak.ct bT.has;repeat' first|refine aL ?_;intros
   refine fM (fun n a b w X=> ∃i:Nat,a=I (i:Nat)∧n=(dC wr).length-i∧i≤(dC wr).length∧ak X1 w1 X w∧Own w X w1.heap.size 9 1 b ((((dC wr).take i).map (·.key)).map S1)) (dC wr).length ⟨0,rfl,rfl,aG _,bT.trans hs,nY.since hs⟩ ?_;clear hs akY nY;rintro n a b w X ⟨i,rfl,rfl,AH,hs,mh⟩;have ahn:=adB.since hs;rcases ew (dC wr) i with⟨dz,y,hx,hd⟩|⟨dV,hd⟩
   ·repeat' first|refine bD ?_;intros|(with_reducible apply IK);(case hX=>exact hs.has);(case he=>kernel_rfl);(case ho=>first|rfl|assumption);(case hk=>rfl);intro acc w X au ho;obtain⟨_,_,_,rfl⟩:=ho.sl.form;replace hs:=hs.trans au
    have hlen:((((dC wr).take i).map (·.key)).map S1).length≤40:=by simp;omega
    refine qV (mh.since au) hs dU.s.has kQ ho.sl (fun r qq u hu=>?_) (by simp only [bz];omega) (by simp only [bz];omega) fun v' w' X' wN uJ c' ef=>?_
    ·rw [bw] at qq;subst qq;rw [bw] at hu;subst hu;rfl
    clear hs;have hs:=ak.ct wN.has;repeat' first|refine aL ?_;intros|((with_reducible refine fI ((dC wr).length-(i+1)) ?_ ?_);omega;exact⟨i+1,by simp,rfl,by omega,wN,by rw [cn,hx];simp only [fj,bC,cf,List.map_nil];exact uJ⟩)
   ·rw [bq dV] at mh;have hkw:((dC wr).map (·.key))=keysOf wr:=zA wr;rw [hkw] at mh;have ajz:(keysOf wr).length≤40:=by rw [←hkw,aI];exact tv
    repeat' first|refine bD ?_;intros
    have hTn:=(dU.since hs).new;refine hTn.call (ZE mh zQ) kQ (fun k af=>.inr ⟨mh.2.2 k af,ah dU.s.kp.size (mh.ge af).1⟩) fun v uR w3 X3 EY ob mA aho c3=>?_;rw [abV] at EY;have dE:Ft w0 (cF nb xb c.ab vm va vw aN) w3 X3 (cF nb xb c.ab vm va vw aN):=aho.less fun k af=>.inl (.inl af);have hnv: ∀k,k<w1.heap.size→ ¬cZ b k:=fun k af hb=>by have:=(mh.ge hb).1;omega
    have amB: ∀k,(K k∨made qQ w1 k)→k<w1.heap.size:=fun k af=>(kX k af).2;have P9: ∀k,X1 k→X3 k∧w3.heap[k]? =w1.heap[k]? :=fun k af=>⟨c3.sub k (hs.sub k af),(c3.block k (hs.sub k af) (hnv k (dU.s.has k af))).trans (hs.kp.block k af)⟩;have h3:fu w3 (fun k=>K k∨made qQ w1 k) nb xb c x vm va vw aN al rm ra rw ms [] []:=h1.mv (fun k af=>(P9 k (wM k af).1).2) (fun k af _=>⟨af,(P9 k (kX k af).1).2⟩) h1.kd;have kY:FX (fun k=>K k∨made qQ w1 k) X3 w3:=fun k af=>⟨(P9 k (kX k af).1).1,dE.s.has k (P9 k (kX k af).1).1⟩;have R0:Mv (fun k=>K k∨made qQ w1 k) w1 (fun k=>K k∨made qQ w1 k) w3:=fun k af _=>⟨af,(P9 k (kX k af).1).2⟩;have ahp:Sl w3 (fun k=>K k∨made qQ w1 k) 4 vl ((dC wr).map KV.l):=(II.mono fun k e=>.inr e).mv R0;have Mb:gO w3 (fun k=>K k∨made qQ w1 k) c.Ar mb ds:=(EX.mv (Mv.sub fun k af=>.inl af)).mv R0;have AU:=dE.fx fun _ h=>h;have Dv:=h3.row.mono fun k e=>(AU k (.inl e)).1;have adj:Sl w3 X3 1 b ((keysOf wr).map S1):=EY.sl.mono fun k af=>c3.sub k (mh.2.2 k af);clear hs aho hTn c3 P9 ahn adB II EX UR mm xD mh EY;have hs:=ak.ct dE.s.has;repeat' first|refine aL ?_;intros
    have fK: ∀k∈keysOf wr,k.size≤2^62:=fun k af=>by
     obtain⟨y,hy,rfl⟩:=List.mem_map.1 ((kL _).mem_iff.1 af);have:=hws y hy;omega
    refine dp (LV (Mb.mv (Mv.sub fun k af=>(kY k af).1)) hW adj zQ fK) kQ hs.has ?_;rintro v4 mw w4 X4 q4 qh lL fq;have fm:=dE.since fq;have h4:=h3.since AU kY fq (made mw w4) fun k e=>ah qh e.1;have Cj:FX (fun k=>(K k∨made qQ w1 k)∨made mw w4 k) X4 w4:=fun k af=>af.elim (fun e=>⟨fq.sub k (kY k e).1,fq.has k (fq.sub k (kY k e).1)⟩) fun e=>⟨lL k e,e.2⟩;have R3: ∀k,((K k∨made qQ w1 k)∨made mw w4 k)→K k∨w0.heap.size≤k:=fun k af=>af.elim (pq k) fun e=>.inr (by have:=dE.s.kp.size;have:=e.1;omega);clear hs;have hs:=ak.ct fq.has;by_cases he:(gp ds [] (keysOf wr)).2≠0
    ·rw [if_pos he] at q4;subst q4;repeat' first|refine bD ?_;intros
     exact ahm fm h4 Cj R3 (fun k af=>.inl (.inl af)) fun kT hg=>by obtain⟨s',h2⟩:=hg.2.1;rw [hR] at h2;cases h2;exact he hg.2.2.2
    ·rw [if_neg he] at q4;obtain⟨vg,rfl,Mc⟩:=q4;change en w4 (made mw w4) 5 vg ki.rd (fb ds wr)at Mc;have adC:Sl w4 (fun k=>(K k∨made qQ w1 k)∨made mw w4 k) 4 vl ((dC wr).map KV.l):=ahp.mv fun k af _=>⟨.inl af,fq.kp.block k (kY k af).1⟩;have M6:en w4 (fun k=>(K k∨made qQ w1 k)∨made mw w4 k) 5 vg ki.rd (fb ds wr):=en.mv Mc ki.mv (Mv.sub fun k e=>.inr e);generalize wO:(fun k=>(K k∨made qQ w1 k)∨made mw w4 k)=K4 at h4 Cj adC M6;have ahq: ∀k,K4 k→K k∨w0.heap.size≤k:=fun k af=>R3 k (by rw [←wO] at af;exact af);have ahr: ∀k,K k→K4 k:=fun k af=>by rw [←wO];exact .inl (.inl af)
     have ajA:xE p ds wr:=⟨Ci,⟨s,hR⟩,hw0,by rcases wi ((gp ds [] (keysOf wr)).2=0)with e|e;exact e;exact absurd e he⟩;have fe:(fb ds wr).length≤40:=ah (Xs ds wr) ajz;have Gi:=h4.act.mono fun k e=>fm.bK k (.inr (.inl e));clear Mc ahp Mb Dv adj kY h3 dE wO R3 kX h1 dU fq AU wM;repeat' first|refine bD ?_;intros
     refine qv (o:=9) Gi zQ kQ (by simp) rfl fm.s.has fun w5 X5 c5 Ho=>?_;have ap:=h4.ap;have ed:=h4.step (c':=c) (x':= { x with pre:=true }) (gr:=vm) (ic:=va) (fy:=vw) (j6:=aN) (mW:=al) (kV:=rm) (uk:=ra) (oP:=rw) (uU:=ms) (uV:=[]) (Dt:=[]) fm.bK (fun k af=>(Cj k af).1) fm.s.has (fun k=>k=xb) c5 (fun k af=>.inr (.inl af)) rfl
      (.inl ⟨fun e=>ap.nx e,rfl⟩) (.inr Ho) (.inl ⟨fun e=>ap.ax e,rfl⟩) (.inl ⟨fun g hg e=>(ap.m g hg).2.1 e,rfl,rfl⟩) (.inl ⟨fun g hg e=>(ap.a g hg).2.1 e,rfl,rfl⟩) (.inl ⟨fun g hg e=>(ap.w g hg).2.1 e,rfl,rfl⟩) (.inl ⟨fun g hg e=>(ap.p g hg).2.1 e,rfl,rfl⟩) h4.hm h4.hw h4.o1 h4.o2 h4.o3 h4.o4
     have ff:=fm.fL (F':=cF nb xb c.ab vm va vw aN) c5 (fun k af=>.inr (.inl af)) ed.2;have h5:=ed.1;have Hy:FX K4 X5 w5:=fun k af=>⟨c5.sub k (Cj k af).1,ff.s.has k (c5.sub k (Cj k af).1)⟩;have Ja:Mv K4 w4 K4 w5:=fun k af _=>⟨af,c5.block k (Cj k af).1 fun e=>h4.kd k af (.inr (.inl e))⟩;have ahs:=adC.mv Ja;have M7:=en.mv M6 ki.mv Ja;clear ed c5 Ho Gi adC M6 h4 Cj fm Ja ap hs;have hs:=ak.ct ff.s.has;have Gj:=en.mv M7 ki.mv (Mv.sub fun k af=>(Hy k af).1);repeat' first|refine aL ?_;intros
     have Jb:({ x with pre:=true } :oO)= { x with pre:=true,vq:=aN } :=by rw [←hq]
     rw [Jb] at h5;refine fQ (fun n a w X=> ∃(i:Nat) (vq:Value),a=I (i:Nat)∧n=(fb ds wr).length-i∧i≤(fb ds wr).length∧Ft w0 (cF nb xb c.ab vm va vw aN) w X (cF nb xb c.ab vm va vw vq)∧
      fu w K4 nb xb c { x with pre:=true,vq:=vq } vm va vw vq al rm ra rw ms [] (((fb ds wr).take i).map (·.lH.id))∧FX K4 X w∧Sl w K4 4 vl ((dC wr).map KV.l)∧en w K4 5 vg ki.rd (fb ds wr)) (fb ds wr).length ⟨0,aN,rfl,rfl,aG _,ff,h5,Hy,ahs,M7⟩ ?_
     clear ff h5 Hy ahs M7 Gj hs Jb;rintro n _ w6 X6 ⟨i,vq,rfl,rfl,hi6,eX,h6,gZ,Qa,Ck⟩;have hs:=ak.ct eX.s.has;have Gj:=en.mv Ck ki.mv (Mv.sub fun k af=>(gZ k af).1);have Gk:=h6.act.mono fun k e=>eX.bK k (.inr (.inl e));have ap:=h6.ap;have ovq:=h6.o4;rcases ew (fb ds wr) i with⟨dz,g,hx,hd⟩|⟨dV,hd⟩
     ·repeat' first|refine bD ?_;intros
      refine Bt Gj hx rfl kQ kQ fun bb oo ll AO qs=>?_;obtain⟨EU,rfl,Jc⟩:=qs;have ovk:=Jc.one;change Cells w6 X6 bb oo [I g.lH.id,I g.lH.gx,.float .f64 g.lH.lo,.float .f64 g.lH.hi,EU] at AO;repeat' first|refine aL ?_;intros|(with_reducible apply IK);(case hX=>exact hs.has);(case he=>kernel_rfl);(case ho=>first|rfl|assumption);(case hk=>rfl);intro acc w X au ho;obtain⟨_,_,_,rfl⟩:=ho.sl.form;replace hs:=hs.trans au
      have kF:=eX.since au;have ZG: ∀k,cF nb xb c.ab vm va vw vq k→X k:=fun k af=>au.sub k (eX.bK k af);have h7:=h6.mv (K':=K4) (fun k af=>au.kp.block k (eX.bK k af)) (au.fZ fun k af=>(gZ k af).1) h6.kd;have EW:FX K4 X w:=fun k af=>⟨au.sub k (gZ k af).1,au.has k (au.sub k (gZ k af).1)⟩;have hl7:((((fb ds wr).take i).map (·.lH.id)).map I1).length≤40:=by simp;omega
      refine BI (bytes:=8) (h7.op.mono fun k e=>ZG k (.inr (.inr (.inr (.inr (.inr (.inr e))))))) kF.s.has (aG _) kQ ho.sl (fun r qq u hu=>?_) (by simp only [bz];omega) (by simp only [bz];omega) fun v8 w8 X8 c8 AP ZH=>?_
      ·rw [bw] at qq;subst qq;rw [bw] at hu;subst hu;rfl
      have afn:a7 w8 X8 xb (Cg { x with pre:=true,vq:=vq } vw) aT:=⟨c8.sub _ (ZG _ (.inr (.inl rfl))),(c8.block xb (ZG _ (.inr (.inl rfl))) fun e=>(ap.p _ e).2.1 rfl).trans h7.act.2⟩;have ov8:=AP.sl.one;obtain⟨t1,t2,t3,rfl⟩:=AP.sl.form;have FM:=au;clear hs au ho Gk;repeat' first|refine aL ?_;intros
      refine qv (o:=11) afn zQ kQ (by simp) rfl c8.has fun w9 X9 c9 wP=>?_;have cg:ez (fun k=>cZ vq k∨k=xb) _ _ X9 w9:=(c8.mono fun k _ e=>.inl e).trans (c9.mono fun k _ e=>.inr e);have adD:=kj AP afn kQ;have ho9:Own w9 X9 0 3 1 (.slice t1 t2 t3) _:=tY AP fun g hg=>⟨c9.sub g (AP.2.2 g hg),c9.block g (AP.2.2 g hg) fun e=>adD (by rw [←e];exact hg)⟩;have EK:(((fb ds wr).take (i+1)).map (·.lH.id)).map I1=(((fb ds wr).take i).map (·.lH.id)).map I1++[[I g.lH.id]]:=by
       rw [cn,hx];simp
      have ed:=h7.step (c':=c) (x':= { x with pre:=true,vq:=.slice t1 t2 t3 }) (gr:=vm) (ic:=va) (fy:=vw) (j6:=.slice t1 t2 t3) (mW:=al) (kV:=rm) (uk:=ra) (oP:=rw) (uU:=ms) (uV:=[]) (Dt:=((fb ds wr).take (i+1)).map (·.lH.id)) ZG (fun k af=>(EW k af).1) kF.s.has (fun k=>cZ vq k∨k=xb) cg (fun k af=>af.elim (fun e=>.inr (.inr (.inr (.inr (.inr (.inr e)))))) fun e=>.inr (.inl e)) rfl
       (.inl ⟨fun e=>e.elim (fun e=>(ap.p _ e).1 rfl) fun e=>ap.nx e,rfl⟩) (.inr wP) (.inl ⟨fun e=>e.elim (fun e=>(ap.p _ e).2.2.1 rfl) fun e=>ap.ax e,rfl⟩)
       (.inl ⟨fun g hg e=>e.elim (fun e=>(ap.m g hg).2.2.2.2.2 e) fun e=>(ap.m g hg).2.1 e,rfl,rfl⟩) (.inl ⟨fun g hg e=>e.elim (fun e=>(ap.a g hg).2.2.2.2.2 e) fun e=>(ap.a g hg).2.1 e,rfl,rfl⟩)
       (.inl ⟨fun g hg e=>e.elim (fun e=>(ap.w g hg).2.2.2.2.2 e) fun e=>(ap.w g hg).2.1 e,rfl,rfl⟩) (.inr ⟨by rw [EK];exact ho9,ZH⟩) h7.hm h7.hw h7.o1 h7.o2 h7.o3 ov8
      have lU:=kF.fL (F':=cF nb xb c.ab vm va vw (.slice t1 t2 t3)) cg (fun k af=>af.elim (fun e=>.inr (.inr (.inr (.inr (.inr (.inr e)))))) fun e=>.inr (.inl e)) ed.2;have Eg:Mv K4 w6 K4 w9:=fun k af amR=>by
       have h0:=FM.kp.block k (gZ k af).1;exact⟨af,(cg.block k (EW k af).1 fun e=>h7.kd k af (e.elim (fun e=>.inr (.inr (.inr (.inr (.inr (.inr e)))))) fun e=>.inr (.inl e))).trans h0⟩
      have hs:=ak.ct lU.s.has;repeat' first|refine aL ?_;intros
      refine fh ((fb ds wr).length-(i+1)) zQ ⟨i+1,_,by simp,rfl,by omega,lU,ed.1,fun k af=>⟨cg.sub k (EW k af).1,lU.s.has k (cg.sub k (EW k af).1)⟩,Qa.mv Eg,en.mv Ck ki.mv Eg⟩
     ·rw [bq dV] at h6;repeat' first|refine bD ?_;intros
      have Md:=h6.shut;have aht: ∀k,(K4 k∨cZ vq k)→X6 k∧k<w6.heap.size:=fun k af=>af.elim (gZ k) fun e=>⟨eX.bK k (.inr (.inr (.inr (.inr (.inr (.inr e)))))),(h6.op.ge e).2⟩;have adE:FX (fun k=>K4 k∨cZ vq k) X6 w6:=aht;have ZI: ∀k,(K4 k∨cZ vq k)→K k∨w0.heap.size≤k:=fun k af=>af.elim (ahq k) fun e=>(eX.v k (.inr (.inr (.inr (.inr (.inr (.inr e))))))).elim (fun e'=>(Md.kd k (.inr e) e').elim) .inr;have ZJ:Sl w6 (fun k=>K4 k∨cZ vq k) 4 vl ((dC wr).map KV.l):=Qa.mono fun k e=>.inl e;have ZK:en w6 (fun k=>K4 k∨cZ vq k) 5 vg ki.rd (fb ds wr):=en.mv Ck ki.mv (Mv.sub fun k e=>.inl e);have OK:Sl w6 (fun k=>K4 k∨cZ vq k) 1 vq (((fb ds wr).map (·.lH.id)).map I1):=h6.op.sl.mono fun k e=>.inr e;have xG:Ft w0 (cF nb xb c.ab vm va vw aN) w6 X6 (cF nb xb c.ab vm va vw aN):=eX.less fun k af=>by
       rcases af with e|e|e|e|e|e|e
       ·exact .inl e
       ·exact .inr (.inl e)
       ·exact .inr (.inr (.inl e))
       ·exact .inr (.inr (.inr (.inl e)))
       ·exact .inr (.inr (.inr (.inr (.inl e))))
       ·exact .inr (.inr (.inr (.inr (.inr (.inl e)))))
       ·cases e
      have Gl: ∀k,K k→K4 k∨cZ vq k:=fun k af=>.inl (ahr k af);generalize wO:(fun k=>K4 k∨cZ vq k)=K5 at Md adE ZJ ZK OK;replace ZI: ∀k,K5 k→K k∨w0.heap.size≤k:=fun k af=>ZI k (by rw [←wO] at af;exact af);replace Gl: ∀k,K k→K5 k:=fun k af=>by rw [←wO];exact Gl k af
      obtain⟨q1,q2,q3,rfl⟩:=OK.form;have ahu:rw.length=0:=Md.hw.1;generalize adF:(fb ds wr).map (·.lH.id)=ids at OK;have Jd:(lW ds wr).length=(fb ds wr).length:=by simp [lW]
      clear aht eX h6 gZ Qa Ck hs Gj Gk ap ovq ahq ahr;refine ahv (fun n a _ _ _ w X=> ∃(i:Nat) (gr fy:Value) (kV oP:List (List Value)) (K':XS),a=I (i:Nat)∧n=(fb ds wr).length-i∧i≤(fb ds wr).length∧Ft w0 (cF nb xb c.ab vm va vw aN) w X (cF nb xb c.ab gr va fy aN)∧(∀k,K k→K' k)∧(∀k,K' k→K k∨w0.heap.size≤k)∧FX K' X w∧
       fu w K' nb xb c { x with pre:=true,vq:=.slice q1 q2 q3 } gr va fy aN al kV ra oP (ms++((lW ds wr).take i).map (fun m=>(m.asked x).mc (20+c.id))) (((lW ds wr).take i).map fun m=>m.asked x) []∧kV.length=rm.length+i∧oP.length=i∧
       Sl w K' 4 vl ((dC wr).map KV.l)∧en w K' 5 vg ki.rd (fb ds wr)∧Sl w K' 1 (.slice q1 q2 q3) (ids.map I1)) (fb ds wr).length ⟨0,vm,vw,rm,rw,K5,rfl,rfl,aG _,xG,Gl,ZI,adE,by simpa using Md,rfl,ahu,ZJ,ZK,OK⟩ ?_
      clear xG Md adE ZI ZJ ZK OK Gl ahu hi6 dV hd;rintro n _ _ _ _ w6 X6 ⟨i,vm6,vw6,rm6,rw6,K6,rfl,rfl,hi6,eX,Qb,Qc,gZ,h6,akZ,ak0,Qa,Ck,adG⟩;have hs:=ak.ct eX.s.has;have Gj:=en.mv Ck ki.mv (Mv.sub fun k af=>(gZ k af).1);have Gk:=h6.act.mono fun k e=>eX.bK k (.inr (.inl e));have ovq:=h6.o4;have ovw:=h6.ow.sl.one;rcases ew (fb ds wr) i with⟨dz,g,hx,hd⟩|⟨dV,hd⟩
      ·repeat' first|refine bD ?_;intros
       refine Bt Gj hx rfl kQ kQ fun bb oo ll AO qs=>?_;obtain⟨EU,rfl,Jc⟩:=qs;have ovk:=Jc.one;change Cells w6 X6 bb oo [I g.lH.id,I g.lH.gx,.float .f64 g.lH.lo,.float .f64 g.lH.hi,EU] at AO;repeat' first|refine aL ?_;intros
       refine dp (wm Gk (fun _ h=>h) hv) kQ hs.has ?_;rintro vr ET w7 X7 q7 P6 Ee gH;have hr7:Sl w7 X7 7 vr (([]:List jA).map jA.l):=(q7.mono Ee).sl;have ak1:Sl w7 X7 4 vl ((dC wr).map KV.l):=(Qa.mono fun k af=>(gZ k af).1).since gH;have ak2:=Jc.since gH;clear hs;have hs:=ak.ct gH.has;repeat' first|refine aL ?_;intros
       refine fM (fun n a b w X=>a=I 0∧b=(vJ ids [] g).v aN aN aN (.slice q1 q2 q3) aN aN aN aN∧ak X7 w7 X w) 0 ⟨rfl,rfl,hs⟩ ?_;clear hs;rintro n _ _ w X ⟨rfl,rfl,hs⟩;repeat' first|refine aL ?_;intros|refine dM ?_ ?_<;>intros|with_reducible apply dy|(exfalso;simp only [bL] at*;omega)
       refine fM (fun n a b w X=> ∃(j:Nat) (vb:Value),a=I (j:Nat)∧b=(vJ ids [] g).v aN aN vb (.slice q1 q2 q3) aN aN aN aN∧n=(dC wr).length-j∧j≤(dC wr).length∧ak X7 w7 X w∧
        Own w X w7.heap.size 64 4 vb ((((dC wr).take j).filter fun w=>g.keys.any fun y=>decide (w.key=y)).map KV.l)) (dC wr).length ⟨0,aN,rfl,rfl,rfl,aG _,hs,Own.nil _ _ _ _ _⟩ ?_
       clear hs;rintro n _ _ w X ⟨j,vb,rfl,rfl,rfl,hj,hs,tp⟩;have ahn:=ak1.since hs;have ak3:=ak2.since hs;have ovb:=tp.sl.one;rcases ew (dC wr) j with⟨hlj,y,hy,Ub⟩|⟨hgj,Ub⟩
       ·repeat' first|refine bD ?_;intros|with_reducible apply dy
        refine fS (we ak3) kQ hs.has (fun adH w8 X8 mi=>?_) (fun adH w8 X8 mi=>?_)
        ·have ak4:=tp.since mi;replace hs:=hs.trans mi;clear tp mi;repeat' first|refine aL ?_;intros|(with_reducible apply F8);(case hX=>exact hs.has);(case he=>kernel_rfl);(case hk=>rfl);intro acc w X au ho;obtain⟨_,_,_,rfl⟩:=ho.sl.form;replace hs:=hs.trans au
         have hlen:((((dC wr).take j).filter fun w=>g.keys.any fun y=>decide (w.key=y)).map KV.l).length≤40:=by
          have:=sT (fun w:KV=>g.keys.any fun y=>decide (w.key=y)) ((dC wr).take j);rw [aI];rw [List.length_take] at this;omega
         refine qV (ak4.since au) hs gH.has kQ ho.sl (fun r qq u hu=>?_) (by simp only [bz];omega) (by simp only [bz];omega) fun v' w' X' wN uJ c' ef=>?_
         ·rw [bw] at qq;subst qq;simp only [List.mem_cons,List.not_mem_nil,or_false] at hu;rcases hu with rfl|rfl|rfl|rfl<;>rfl
         clear hs;have hs:=ak.ct wN.has;have ov':=uJ.sl.one;repeat' first|refine aL ?_;intros
         exact fI ((dC wr).length-(j+1)) zQ ⟨j+1,v',by simp,rfl,rfl,by omega,wN,by rw [cn,hy,fj,qm,bC,cW,if_pos adH];exact uJ⟩
        ·repeat' first|refine aL ?_;intros
         exact fI ((dC wr).length-(j+1)) zQ ⟨j+1,vb,by simp,rfl,rfl,by omega,hs.trans mi,by rw [cn,hy,fj,qm,bC,cW,if_neg (by rw [adH];simp)];simpa using tp.since mi⟩
       ·rw [bq hgj] at tp;repeat' first|refine bD ?_;intros
        have yG:=gH.trans hs;have oe:=eX.since yG;have h8:=h6.since (eX.fx fun _ h=>h) gZ yG (cZ vb) fun k e=>by have:=(tp.ge e).1;have:=gH.kp.size;omega
        have Ma:FX (fun k=>K6 k∨cZ vb k) X w:=fun k af=>af.elim (fun e=>⟨yG.sub k (gZ k e).1,yG.has k (yG.sub k (gZ k e).1)⟩) fun e=>⟨tp.2.2 k e,(tp.ge e).2⟩;have hm8:(vJ ids (dC wr) g).at w (fun k=>K6 k∨cZ vb k) aN aN vb (.slice q1 q2 q3) aN aN aN aN:=
         ⟨Sl.nil _ _ _,Sl.nil _ _ _,(th tp fun k e=>.inr e).sl,adG.mv fun k af _=>⟨.inl af,yG.kp.block k (gZ k af).1⟩,Sl.nil _ _ _,en.nil _ _ _,en.nil _ _ _,en.nil _ _ _⟩
        have ak5:ids.length≤40:=by rw [←adF,aI];exact fe
        have iP:((dC wr).filter fun w=>g.keys.any fun y=>decide (w.key=y)).length≤40:=ah (sT _ _) tv;have hf8:(vJ ids (dC wr) g).few:=⟨by simp [vJ,uG],by simp [vJ,uG],ah iP (by decide),ah ak5 (by decide)⟩;refine oe.call (L9 (m:=vJ ids (dC wr) g) h8 (oe.fx fun _ h=>h) Ma hm8 hf8 hi zQ zQ) kQ (fun _ h=>h) fun v C8 w9 X9 Me ZL Je lU c9=>?_;obtain⟨vm9,vw9,rm9,rw9,K9,hC9,Jf,Gm,h9,wP,ak6⟩:=Me;have tA:=lU.less hC9;have Eg:Mv K6 w6 K9 w9:=fun k af _=>⟨Gm k (.inl af),(c9.block k (Ma k (.inl af)).1 (h8.kd k (.inl af))).trans (yG.kp.block k (gZ k af).1)⟩;have hpx:(lW ds wr)[i]? =some (vJ ids (dC wr) g):=by unfold lW;rw [List.getElem?_map,hx,adF];rfl
        have hz8:=oe.s.kp.size;have hz7:=gH.kp.size;clear hs;have hs:=ak.ct tA.s.has;repeat' first|refine aL ?_;intros
        exact ahw ((fb ds wr).length-(i+1)) zQ ⟨i+1,vm9,vw9,rm9,rw9,K9,by simp,rfl,by omega,tA,fun k af=>Gm k (.inl (Qb k af)),fun k af=>by
          rcases Jf k af with(e|e)|e
          ·exact Qc k e
          ·right;have:=(tp.ge e).1;have:=eX.s.kp.size;omega
          ·right;have:=e.1;omega,
         fun k af=>⟨(Jf k af).elim (fun e=>c9.sub k (Ma k e).1) (Je k),by
          rcases Jf k af with e|e
          ·exact tA.s.has k (c9.sub k (Ma k e).1)
          ·exact e.2⟩,
         by rw [cn,hpx];simp only [fj,bC,cf,List.map_nil,←List.append_assoc];exact h9,by omega,by omega,Qa.mv Eg,en.mv Ck ki.mv Eg,adG.mv Eg⟩
      ·rw [bq zQ] at h6;repeat' first|refine bD ?_;intros
       exact eX.fin fun wa bk=>⟨_,vm6,va,vw6,K6,al,rm6,ra,rw6,_,_,eX.gX bk fun _ h=>h,fun k af=>(Qc k af).imp id fun e=>⟨e,aH (gZ k af).2 bk.size⟩,Qb,
        h6.mv (fun k af=>bk.block k (eX.bK k af)) (bk.fi fun k af=>(gZ k af).1) h6.kd,rfl,.inr ⟨wr,_,ajA,rfl,by rw [adF];exact adG.mv (bk.fi fun k af=>(gZ k af).1),rfl,rfl,rfl,rfl,rfl⟩⟩
end
theorem ZM {w:World} {X:XS} {cb:Nat} {c:cx} {eh:Int} (h:a7 w X cb (kC c) kO) (hl:c.ep<2^60) (IF: -(2^60)<c.ep):
  Ct pg 86 #[ptr cb 0,I eh] w X (· =cb) fun v _ w'=>v= .tuple #[(c.qS eh).1.v,I (c.qS eh).2]∧a7 w' (· =cb) cb (kC (if(c.qS eh).2=0 then(c.qS eh).1 else c)) kO:=by
 intro w0 hk;have hF:FX (· =cb) X w:=fun k af=>by subst af;exact⟨h.1,h.lt⟩
 have hT:=hF.ft hk;replace h:=h.mv hk.dD;apply M8;unfold Cl;refine gC (Zn h hl IF) kQ (fun _ h=>h) fun w1 X1 au=>?_;generalize c.qS eh=q;obtain⟨s,e⟩:=q;replace h:=h.since au;have dU:Ft w0 (· =cb) w1 X1 (· =cb):=⟨hT.s.trans au,fun k af=>by subst af;exact h.1,fun k af=>.inl af⟩;by_cases he:e=0
 ·repeat' first|refine bD ?_;intros|with_reducible apply dy
  refine FQ (o:=0) h zQ kQ (by simp) rfl rfl dU.s.has fun w2 X2 c2 qY=>?_;have cX:=dU.fL (F':=(· =cb)) c2 (fun k af=>af) fun k af=>.inl af;repeat' first|refine aL ?_;intros
  exact cX.fin fun wa bk=>⟨rfl,by rw [if_pos he];exact(qY.kp bk).own⟩
 ·repeat' first|refine bD ?_;intros|with_reducible apply dy
  exact dU.fin fun wa bk=>⟨rfl,by rw [if_neg he];exact(h.kp bk).own⟩
def mD (p:List fw) (ck:cx) (eh:Int) (ds:gK):Int:=if iN p≠0 then iN p else if(ck.qS eh).2≠0 then(ck.qS eh).2 else(gp ds [] (dW 1 1 p)).2
theorem ZN {a b:Int} {p:List fw} (h:p.length≤40): ∀k∈dW a b p,k.size≤24:=fun k hk=>by
 obtain⟨y,hy,rfl⟩:=List.mem_map.1 ((kL _).mem_iff.1 hk);exact((Cb p [] 0 km (fun x hx=>by cases hx) (Nat.le_refl _)).2.1 y hy).2.2
theorem Dw {a b:Int} {p:List fw} :(dW a b p).length≤p.length:=by
 unfold dW;rw [(kL _).length_eq,aI];have:=(Cb p [] 0 (a:=a) (b:=b) km (fun x hx=>by cases hx) (Nat.le_refl _)).2.2;omega
section
variable {w w' wa : World} {X X' K K' Y : XS} {nb xb mb cb : Nat} {c : pj} {x : oO} {vm va vw dZ gr ic fy j6 : Value} {al : List (de × Nat)} {rm ra rw : List (List Value)} {ms ws : List dF} {ps : List Int} {ds : gK} {ck : cx}
theorem fu.Bu (h:fu w K nb xb c x vm va vw dZ al rm ra rw ms ws ps) (hc:a7 w Y cb (kC ck) kO): ¬cF nb xb c.ab vm va vw dZ cb:=fun hf=>by
 rcases hf with e|e|e|e|e|e|e
 ·exact IZ hc h.row kQ e
 ·exact IZ hc h.act kQ e
 ·exact h.am.eA hc e.symm
 ·exact kj h.om hc kQ e
 ·exact kj h.oa hc kQ e
 ·exact kj h.ow hc kQ e
 ·exact kj h.op hc kQ e
structure ak7 (nb xb cb:Nat) (c:pj) (x:oO) (vm va vw:Value) (K:XS) (al:List (de×Nat)) (rm ra rw:List (List Value)) (ms ws:List dF) (p:List fw) (ck:cx) (eh:Int) (ds:gK) (v:Value) (wa w':World):Prop where
 res: ∃vg,v= .tuple #[vg,I (mD p ck eh ds)]∧aR.one vg=true∧(mD p ck eh ds=0→en w' (made wa w') 5 vg ki.rd (jZ ds (gp ds [] (dW 1 1 p)).1))
 US: ∃um,a7 w' (· =cb) cb (kC um) kO∧(mD p ck eh ds=0→um=(ck.qS eh).1)
 mid: ∃st,fu w' K nb xb c { x with st:=st } vm va vw aN al rm ra rw ms ws []∧(mD p ck eh ds=0→st=(ck.qS eh).1)
theorem SM {p:List fw} {eh:Int} (h:fu w K nb xb c x vm va vw aN al rm ra rw ms ws []) (hC:FX (cF nb xb c.ab vm va vw aN) X w) (hK:FX K X w) (R4:c.cb=cb) (hk:a7 w X cb (kC ck) kO) (hkK: ¬K cb) (hl:ck.ep<2^60) (IF: -(2^60)<ck.ep)
  (I9:Sl w K 5 x.vp (p.map fw.l)) (hd:gO w K c.Ar mb ds) (hW: ∀(i:Int) (r:dq),getM i ds=some r→r.id=i):
  Ct pg 33 #[ptr nb 0,I eh,ptr xb 0] w X (fun k=>k=xb∨k=cb) fun v wa w'=>ak7 nb xb cb c x vm va vw K al rm ra rw ms ws p ck eh ds v wa w':=by
 intro w0 Mf;subst R4;have hF:FX (fun k=>k=xb∨k=c.cb) X w:=fun k af=>by
  rcases af with e|e<;>subst e
  ·exact hC _ (.inr (.inl rfl))
  ·exact⟨hk.1,hk.lt⟩
 have hT:=hF.ft Mf;have oh:Mv K w K w0:=Mf.fi fun k af=>(hK k af).1;replace h:=h.mv (fun k af=>Mf.block k (hC k af).1) oh h.kd;replace I9:=I9.mv oh;replace hd:=hd.mv oh;replace hk:=hk.mv Mf.dD;have kW:=hC.kp Mf;have jB:=hK.kp Mf;have jo:=h.act.mono fun k e=>(kW k (.inr (.inl e))).1;have bJ:=h.row.mono fun k e=>(kW k (.inl e)).1;have M9:=h.Bu hk;have ahx:=I9.mv (Mv.sub fun k af=>(jB k af).1);have hs:=ak.init w0;clear hC hK oh Mf hF;apply HX;unfold yH;repeat' first|refine aL ?_;intros
 refine gC (Cc ahx) kQ hs.has fun w1 X1 au=>?_;have dU:=hT.since au;have h1:=h.mv (K':=K) (fun k af=>au.kp.block k (kW k af).1) (au.fZ fun k af=>(jB k af).1) h.kd;have wM:FX (cF nb xb c.ab vm va vw aN) X1 w1:=h.UP au kW;have kX:FX K X1 w1:=fun k af=>⟨au.sub k (jB k af).1,au.has k (au.sub k (jB k af).1)⟩;have pq:=hk.since au;have UR:=I9.mv (au.fZ fun k af=>(jB k af).1);have EX:=hd.mv (au.fZ fun k af=>(jB k af).1);have mm:=bJ.since au;have xD:=jo.since au;clear hs jo bJ I9 hd h hT hk ahx kW jB;have hs:=ak.ct au.has;clear au;by_cases Ci:iN p≠0
 ·have zT:mD p ck eh ds=iN p:=by unfold mD;rw [if_pos Ci]
  repeat' first|refine bD ?_;intros
  exact dU.fin fun wa bk=>⟨⟨aN,by rw [zT],rfl,fun e=>absurd (zT.symm.trans e) Ci⟩,⟨ck,(pq.kp bk).own,fun e=>absurd (zT.symm.trans e) Ci⟩,⟨x.st,h1.mv (fun k af=>bk.block k (wM k af).1) (bk.fi fun k af=>(kX k af).1) h1.kd,fun e=>absurd (zT.symm.trans e) Ci⟩⟩
 ·have ak8:iN p=0:=by omega
  repeat' first|refine bD ?_;intros
  refine dU.call (ZM (eh:=eh) pq hl IF) kQ (fun k e=>.inr e) fun v zI w2 X2 hq qP nW cX c2=>?_;obtain⟨rfl,xF⟩:=hq;have qZ:Ft w0 _ w2 X2 (fun k=>k=xb∨k=c.cb):=cX.less fun k e=>.inl e;have h2:=h1.mv (w':=w2) (K':=K) (fun k af=>c2.block k (wM k af).1 fun e=>M9 (by rw [←e];exact af)) (fun k af _=>⟨af,c2.block k (kX k af).1 fun e=>hkK (by rw [←e];exact af)⟩) h1.kd;have rX:FX (cF nb xb c.ab vm va vw aN) X2 w2:=fun k af=>⟨c2.sub k (wM k af).1,c2.has k (c2.sub k (wM k af).1)⟩;have mC:FX K X2 w2:=fun k af=>⟨c2.sub k (kX k af).1,c2.has k (c2.sub k (kX k af).1)⟩;have Qd:Mv K w1 K w2:=fun k af _=>⟨af,c2.block k (kX k af).1 fun e=>hkK (by rw [←e];exact af)⟩;have ahy:=UR.mv Qd;have nS:=EX.mv Qd;have OL:=h2.act.mono fun k e=>(rX k (.inr (.inl e))).1;have Dx:=h2.row.mono fun k e=>(rX k (.inl e)).1;have ZO:X2 c.cb:=c2.sub _ pq.1;clear hs xD mm UR EX h1 dU pq wM kX cX c2 Qd;have hs:=ak.ct qZ.s.has;by_cases zU:(ck.qS eh).2≠0
  ·have zT:mD p ck eh ds=(ck.qS eh).2:=by unfold mD;rw [if_neg Ci,if_pos zU]
   repeat' first|refine bD ?_;intros
   exact qZ.fin fun wa bk=>⟨⟨aN,by rw [zT],rfl,fun e=>absurd (zT.symm.trans e) zU⟩,⟨_,xF.mv fun k af _=>⟨af,by rw [af];exact bk.block _ ZO⟩,fun e=>absurd (zT.symm.trans e) zU⟩,⟨x.st,h2.mv (fun k af=>bk.block k (rX k af).1) (bk.fi fun k af=>(mC k af).1) h2.kd,fun e=>absurd (zT.symm.trans e) zU⟩⟩
  ·have ak9:(ck.qS eh).2=0:=by omega
   rw [if_pos ak9] at xF;generalize ahz:(ck.qS eh).1=s at xF;repeat' first|refine bD ?_;intros
   refine FQ (o:=4) OL zQ kQ (by simp) rfl rfl qZ.s.has fun w3 X3 c3 sU=>?_;have ap:=h2.ap;have ed:=h2.step (c':=c) (x':= { x with st:=s }) (gr:=vm) (ic:=va) (fy:=vw) (j6:=aN) (mW:=al) (kV:=rm) (uk:=ra) (oP:=rw) (uU:=ms) (uV:=ws) (Dt:=[]) (fun k af=>(rX k af).1) (fun k af=>(mC k af).1) qZ.s.has (fun k=>k=xb) c3 (fun k af=>.inr (.inl af)) rfl
    (.inl ⟨fun e=>ap.nx e,rfl⟩) (.inr sU) (.inl ⟨fun e=>ap.ax e,rfl⟩) (.inl ⟨fun g hg e=>(ap.m g hg).2.1 e,rfl,rfl⟩) (.inl ⟨fun g hg e=>(ap.a g hg).2.1 e,rfl,rfl⟩) (.inl ⟨fun g hg e=>(ap.w g hg).2.1 e,rfl,rfl⟩) (.inl ⟨fun g hg e=>(ap.p g hg).2.1 e,rfl,rfl⟩) h2.hm h2.hw h2.o1 h2.o2 h2.o3 h2.o4
   have h3:=ed.1;have dE:=qZ.fL (F':=fun k=>k=xb∨k=c.cb) c3 (fun k e=>.inl e) fun k e=>.inl e;have AU:FX (cF nb xb c.ab vm va vw aN) X3 w3:=fun k af=>⟨c3.sub k (rX k af).1,c3.has k (c3.sub k (rX k af).1)⟩;have kY:FX K X3 w3:=fun k af=>⟨c3.sub k (mC k af).1,c3.has k (c3.sub k (mC k af).1)⟩;have adI:Mv K w2 K w3:=fun k af _=>⟨af,c3.block k (mC k af).1 fun e=>h2.kd k af (.inr (.inl e))⟩;have Qe:=ahy.mv adI;have Mb:=nS.mv adI;have hk3:a7 w3 (· =c.cb) c.cb (kC s) kO:=xF.mv fun k af _=>⟨af,by rw [af];exact c3.block _ ZO fun e=>IZ xF h2.act kQ e⟩;have ahA:X3 c.cb:=c3.sub _ ZO;have OM:=h3.act.mono fun k e=>(AU k (.inr (.inl e))).1;have Dv:=h3.row.mono fun k e=>(AU k (.inl e)).1;clear hs OL Dx ahy nS h2 qZ xF rX mC c3 sU ed adI ZO;have hs:=ak.ct dE.s.has;repeat' first|refine aL ?_;intros
   have Jd:=(zS ak8).1;refine dp (tq (Qe.mv (Mv.sub fun k af=>(kY k af).1)) zQ) kQ hs.has ?_;rintro vk mw w4 X4 q4 qh lL fq;refine dp (LV ((Mb.mv (Mv.sub fun k af=>(kY k af).1)).mv fq.mv) hW (q4.mono lL).sl (by have:=Dw (a:=1) (b:=1) (p:=p);omega) fun k af=>by have:=ZN (a:=1) (b:=1) Jd k af;omega) kQ fq.has ?_;rintro v5 YC w5 X5 q5 Qf Jg tj;have Gn:=fq.trans tj;have ff:=dE.since Gn;have h5:=h3.mv (K':=K) (fun k af=>Gn.kp.block k (AU k af).1) (Gn.fZ fun k af=>(kY k af).1) h3.kd;have hC5:=h3.UP Gn AU;have Hy:FX K X5 w5:=fun k af=>⟨Gn.sub k (kY k af).1,Gn.has k (Gn.sub k (kY k af).1)⟩;have hk5:a7 w5 (· =c.cb) c.cb (kC s) kO:=hk3.mv fun k af _=>⟨af,by rw [af];exact Gn.kp.block _ ahA⟩;have ala:X5 c.cb:=Gn.sub _ ahA;have zT:mD p ck eh ds=(gp ds [] (dW 1 1 p)).2:=by unfold mD;rw [if_neg Ci,if_neg zU]
   have hz3:=dE.s.kp.size;have hz4:=fq.kp.size;clear hs;have hs:=ak.ct ff.s.has;have od: ∀{wa:World},Kp X5 w5 wa→(∃um,a7 wa (· =c.cb) c.cb (kC um) kO∧(mD p ck eh ds=0→um=(ck.qS eh).1))∧ ∃st,fu wa K nb xb c { x with st:=st } vm va vw aN al rm ra rw ms ws []∧(mD p ck eh ds=0→st=(ck.qS eh).1):=fun {wa} bk=>
    ⟨⟨s,hk5.mv fun k af _=>⟨af,by rw [af];exact bk.block _ ala⟩,fun _=>ahz.symm⟩,⟨s,h5.mv (fun k af=>bk.block k (hC5 k af).1) (bk.fi fun k af=>(Hy k af).1) h5.kd,fun _=>ahz.symm⟩⟩
   by_cases he:(gp ds [] (dW 1 1 p)).2≠0
   ·rw [if_pos he] at q5;subst q5;repeat' first|refine aL ?_;intros
    exact ff.fin fun wa bk=>⟨⟨aN,by rw [zT],rfl,fun e=>absurd (zT.symm.trans e) he⟩,(od bk).1,(od bk).2⟩
   ·rw [if_neg he] at q5;obtain⟨vg,rfl,Mc⟩:=q5;have ovg:=en.one Mc;have yI:(gp ds [] (dW 1 1 p)).2=0:=by omega
    repeat' first|refine aL ?_;intros
    exact ff.fin fun wa bk=>⟨⟨vg,by rw [zT,yI],ovg,fun _=>en.mv Mc ki.mv fun k af _=>⟨⟨by have:=af.1;omega,aH af.2 bk.size⟩,bk.block k (Jg k af)⟩⟩,(od bk).1,(od bk).2⟩
end
end Go.Proofs.YtbpnemeooenpmaaGreat
namespace Go.Proofs.YtbpnemeooenpmaaGreat
open Go.Proofs.Tryz renaming prog → pg
open Go.aR
theorem YD {r:dq} {x:Nat} :dq.tg r x=true↔(BZ x r.lo=true∨jK x r.lo=true)∧kg x r.hi=true:=by
 simp [dq.tg]
def Jh:Nat→List dq→Prop
 |_,[]=>True
 |a,r::l=>jK r.lo a=true∧kg r.lo r.hi=true∧Jh r.hi l
theorem Ji {l:List dq} (hm: ∀r∈l,r.may=true): ∀{n a:Nat} {u:Int},xu l n a u=0→ ∃v:List dq,(v.length:Int)=l.length-u∧(∀r∈v,r∈l)∧Jh a v
 |0,a,u,h=>by simp [xu] at h
 |n+1,a,u,h=>by
  unfold xu at h;split at h
  ·split at h
   ·rename_i h1 h2;obtain⟨v,h3,h4,h5⟩:=Ji hm h;obtain⟨r,hr,e1,e2⟩:=FV a l (0,0) h2;have e2:(B0 l a).1=r.hi:=e2;have h6:kg r.lo r.hi=true:=by have:=hm r hr;unfold dq.may at this;simp only [Bool.and_eq_true] at this;exact this.2
    refine⟨r::v,by rw [ba];omega,fun x hx=>?_,e1,h6,by rw [←e2];exact h5⟩;rcases List.mem_cons.1 hx with rfl|hx
    ·exact hr
    ·exact h4 x hx
   ·omega
  ·split at h
   ·exact⟨[],by simp;omega,fun r hr=>(by cases hr),trivial⟩
   ·omega
theorem Jj: ∀{v:List dq} {a:Nat},Jh a v→ ∀{r:dq},r∈v→jK r.lo a=true∨kg a r.lo=true
 |[],_,_,r,h=>by cases h
 |q::v,a,h,r,hr=>by
  rcases List.mem_cons.1 hr with rfl|hr
  ·exact .inl h.1
  ·have h3:kg a q.hi=true:=KR (wG h.1) h.2.1;rcases Jj h.2.2 hr with e|e
   ·exact .inr (KQ h3 (wG e))
   ·exact .inr (zJ h3 e)
theorem lo_le {r:dq} {x:Nat} (h:dq.tg r x=true) {a:Nat} (ha:jK r.lo a=true∨kg a r.lo=true):jK x a=true∨kg a x=true:=by
 rw [YD] at h;rcases h.1 with e|e
 ·have:=afS e;rcases ha with q|q
  ·exact .inr (KR (wG q) this)
  ·exact .inr (zJ q this)
 ·rcases ha with q|q
  ·exact .inl (abA e q)
  ·exact .inr (KQ q (wG e))
theorem ON: ∀{v:List dq} {a:Nat},Jh a v→ ∀{r q:dq} {x:Nat},r∈v→q∈v→dq.tg r x=true→dq.tg q x=true→r=q
 |[],_,_,r,_,_,h,_,_,_=>by cases h
 |p::v,a,h,r,q,x,hr,hq,h1,h2=>by
  have key: ∀{s:dq},s∈v→dq.tg s x=true→dq.tg p x=true→False:=fun {s} hs h3 h4=>by
   have h5:=(YD.1 h4).2;rcases lo_le h3 (Jj h.2.2 hs)with e|e
   ·have:=KR (wG e) h5;rw [xt] at this;cases this
   ·have:=zJ e h5;rw [xt] at this;cases this
  rcases List.mem_cons.1 hr with e1|m1
  ·rcases List.mem_cons.1 hq with e2|m2
   ·rw [e1,e2]
   ·exact(key m2 h2 (e1▸h1)).elim
  ·rcases List.mem_cons.1 hq with e2|m2
   ·exact(key m1 h1 (e2▸h2)).elim
   ·exact ON h.2.2 m1 m2 h1 h2
theorem Jk: ∀{v:List dq} {a:Nat},Jh a v→v.Nodup
 |[],_,_=>km
 |p::v,a,h=>by
  refine List.nodup_cons.2 ⟨fun hp=>?_,Jk h.2.2⟩;rcases Jj h.2.2 hp with e|e
  ·have:=KQ h.2.1 (wG e);rw [xt] at this;cases this
  ·have:=zJ h.2.1 e;rw [xt] at this;cases this
theorem YE {α:Type} [DecidableEq α]: ∀{v l:List α},v.Nodup→(∀x∈v,x∈l)→l.length≤v.length→ ∀y∈l,y∈v
 |[],l,_,_,h,y,hy=>by
  have:l=[]:=List.length_eq_zero_iff.1 (by simpa using h);subst this;cases hy
 |a::v,l,hn,hs,h,y,hy=>by
  by_cases e:y=a
  ·exact e▸List.mem_cons_self ..
  ·have jh:=List.nodup_cons.1 hn;have ha:=hs a (by simp);refine bA _ (YE (l:=l.erase a) jh.2 (fun x hx=>?_) ?_ y ?_)
   ·exact(tz fun e=>by subst e;exact jh.1 hx).2 (hs x (bA _ hx))
   ·rw [List.length_erase_of_mem ha];simp only [ba] at h;omega
   ·exact(tz e).2 hy
structure Bv (l:List dq):Prop where
 may: ∀r∈l,r.may=true
 ids:l.Pairwise fun x y=>x.id≠y.id
 alb: ∀{r q:dq} {x:Nat},r∈l→q∈l→dq.tg r x=true→dq.tg q x=true→r=q
theorem Cm {l:List dq} (h:qU l=0):Bv l:=by
 unfold qU at h;split at h
 ·omega
 split at h
 ·omega
 split at h
 ·rename_i hb;exact absurd h hb
 rename_i hb;have AL:B1 [] l=0:=by
  rcases wi (B1 [] l=0)with e|e
  ·exact e
  ·exact absurd e hb
 have hm:=MM AL;obtain⟨v,h1,h2,h3⟩:=Ji hm.1 h;have An:=YE (Jk h3) h2 zQ;exact⟨hm.1,hm.2.2,fun hr hq h4 h5=>ON h3 (An _ hr) (An _ hq) h4 h5⟩
theorem R5: ∀{l:List dq} {ds:gK},(∀r∈l,r.may=true)→(l.Pairwise fun x y=>x.id≠y.id)→(∀r∈l,getM r.id ds=none)→ ∀i r,getM i (l.foldl eH ds)=some r↔(getM i ds=some r∨(r∈l∧r.id=i))
 |[],ds,_,_,_,i,r=>by simp
 |q::l,ds,hm,hp,hn,i,r=>by
  have UT:=List.pairwise_cons.1 hp;have e:eH ds q=dR q.id q ds:=by
   unfold eH;rw [if_pos (hm q (by simp)),hn q (by simp)]
  rw [List.foldl_cons,e];rw [R5 (fun x hx=>hm x (bA _ hx)) UT.2 (fun x hx=>by
   rw [Cn (fun e=>UT.1 x hx e.symm)];exact hn x (bA _ hx)) i r]
  by_cases hi:i=q.id
  ·subst hi;rw [zd,hn q (by simp)];constructor
   ·rintro(h|⟨h,h'⟩)
    ·cases h;exact .inr ⟨by simp,rfl⟩
    ·exact .inr ⟨bA _ h,h'⟩
   ·rintro(h|⟨h,h'⟩)
    ·cases h
    ·rcases List.mem_cons.1 h with rfl|h
     ·exact .inl rfl
     ·exact absurd h' fun e=>UT.1 r h e.symm
  ·rw [Cn hi];constructor
   ·rintro(h|⟨h,h'⟩)
    ·exact .inl h
    ·exact .inr ⟨bA _ h,h'⟩
   ·rintro(h|⟨h,h'⟩)
    ·exact .inl h
    ·rcases List.mem_cons.1 h with rfl|h
     ·exact absurd h'.symm hi
     ·exact .inr ⟨h,h'⟩
theorem YG {l:List dq} (h:Bv l) (i:Int) (r:dq):getM i (l.foldl eH [])=some r↔(r∈l∧r.id=i):=by
 rw [R5 h.may h.ids (fun r hr=>rfl) i r];simp [getM]
def findF (l:List dq) (x:Nat):Option dq:=l.find? fun r=>dq.tg r x
theorem ZP {l:List dq} (h:Bv l) {k:BA} {r:dq} (hr:iY (l.foldl eH []) k=some r):findF l (placeOf k)=some r:=by
 obtain⟨j,_,_,h3,h4⟩:=D9 hr;have h5:=(YG h j r).1 h3;cases hf:findF l (placeOf k)with
 |none=>
  have:=List.find?_eq_none.1 hf r h5.1;exact absurd h4 this
 |some q=>
  have h6:=List.find?_some hf;have h7:=List.mem_of_find?_eq_some hf;rw [h.alb h7 h5.1 h6 h4]
abbrev Co:=List (Int×List BA)
theorem zg {k:BA} {l:List BA} :l.any (fun x=>decide (k=x))=true↔k∈l:=by
 rw [List.any_eq_true];constructor
 ·rintro⟨x,h1,h2⟩;rw [of_decide_eq_true h2];exact h1
 ·exact fun h=>⟨k,h,by simp⟩
def Gp (g:Int) (k:BA) (m:Co):Co:=if((getM g m).getD []).any (fun x=>decide (k=x))then m else dR g (((getM g m).getD [])++[k]) m
theorem R6 {ds:gK} {m:Co} {k:BA} {r:List BA} (h:(gp ds m (k::r)).2=0): ∃g,iY ds k=some g∧gp ds m (k::r)=gp ds (Gp g.id k m) r:=by
 rw [gp] at h;by_cases hg:gn k=true
 ·rw [if_pos hg] at h;cases hr:iY ds k with
  |none=>rw [hr] at h;simp at h
  |some g=>
   refine⟨g,rfl,?_⟩;rw [gp,if_pos hg,hr];rfl
 ·rw [if_neg hg] at h;simp at h
theorem UU {g:Int} {k:BA} {m:Co} (id:Int) (y:BA):y∈(getM id (Gp g k m)).getD []↔(y∈(getM id m).getD []∨(y=k∧g=id)):=by
 unfold Gp;split
 ·rename_i h;rw [zg] at h;constructor
  ·exact .inl
  ·rintro(h1|⟨rfl,rfl⟩)
   ·exact h1
   ·exact h
 ·by_cases e:id=g
  ·subst e;rw [zd];simp
  ·rw [Cn e];constructor
   ·exact .inl
   ·rintro(h1|⟨_,h2⟩)
    ·exact h1
    ·exact absurd h2.symm e
theorem ZQ {g:Int} {k:BA} {m:Co} (h:(m.map (·.1)).Nodup):((Gp g k m).map (·.1)).Nodup:=by
 unfold Gp;split
 ·exact h
 ·exact Ga h
theorem abW {g:Int} {k:BA} {m:Co} (hn:(m.map (·.1)).Nodup) (h: ∀e∈m,e.2≠[]): ∀e∈Gp g k m,e.2≠[]:=by
 unfold Gp;split
 ·exact h
 ·intro e he;rcases jv hn he with rfl|⟨h1,_⟩
  ·simp
  ·exact h e h1
theorem adJ {g:Int} {k:BA} {m:Co} (h:k ∉ (getM g m).getD []):sA aj (Gp g k m)=sA aj m+1:=by
 unfold Gp;rw [if_neg (fun e=>h (zg.1 e))];cases hg:getM g m with
 |none=>rw [UW hg];simp
 |some l=>
  have:=UX (f:=aj) (a:=l++[k]) hg;simp only [Option.getD_some,List.length_append,ba,bL] at this⊢;omega
structure alc (ds:gK) (m m':Co) (keys:List BA):Prop where
 rt: ∀k∈keys,∃r,iY ds k=some r
 mem: ∀id k,(k∈(getM id m').getD []↔(k∈(getM id m).getD []∨(k∈keys∧ ∃r,iY ds k=some r∧r.id=id)))
 nd:(m'.map (·.1)).Nodup
 full: ∀e∈m',e.2≠[]
theorem Qg {ds:gK} : ∀{keys:List BA} {m:Co},(m.map (·.1)).Nodup→(∀e∈m,e.2≠[])→(gp ds m keys).2=0→alc ds m (gp ds m keys).1 keys
 |[],m,hn,hf,_=>⟨fun k hk=>(by cases hk),fun id k=>by simp [gp],hn,hf⟩
 |k::r,m,hn,hf,h=>by
  obtain⟨g,h1,h2⟩:=R6 h;rw [h2] at h⊢;have ih:=Qg (ZQ (g:=g.id) (k:=k) hn) (abW hn hf) h;refine⟨fun y hy=>?_,fun id y=>?_,ih.nd,ih.full⟩
  ·rcases List.mem_cons.1 hy with rfl|hy
   ·exact⟨g,h1⟩
   ·exact ih.rt y hy
  ·rw [ih.mem id y,UU];constructor
   ·rintro((h3|⟨rfl,h4⟩)|⟨h3,h4⟩)
    ·exact .inl h3
    ·exact .inr ⟨by simp,g,h1,h4⟩
    ·exact .inr ⟨bA _ h3,h4⟩
   ·rintro(h3|⟨h3,q,h4,h5⟩)
    ·exact .inl (.inl h3)
    ·rcases List.mem_cons.1 h3 with rfl|h3
     ·rw [h1] at h4;cases h4;exact .inl (.inr ⟨rfl,h5⟩)
     ·exact .inr ⟨h3,q,h4,h5⟩
theorem UY {ds:gK} : ∀{keys:List BA} {m:Co},keys.Nodup→(∀id,∀k∈keys,k ∉ (getM id m).getD [])→(gp ds m keys).2=0→sA aj (gp ds m keys).1=sA aj m+keys.length
 |[],m,_,_,_=>by simp [gp]
 |k::r,m,hn,hm,h=>by
  obtain⟨g,h1,h2⟩:=R6 h;rw [h2] at h⊢;have jh:=List.nodup_cons.1 hn;rw [UY jh.2 (fun id y hy nu=>?_) h,adJ (hm _ k (by simp)),ba]
  ·omega
  ·rcases(UU id y).1 nu with h3|⟨rfl,_⟩
   ·exact hm id y (bA _ hy) h3
   ·exact jh.1 hy
structure abX (ds:gK) (keys:List BA) (gs:List ki):Prop where
 rt: ∀k∈keys,∃g∈gs,k∈g.keys∧iY ds k=some g.lH
 own: ∀g∈gs,∀k∈g.keys,k∈keys∧iY ds k=some g.lH
 full: ∀g∈gs,g.keys≠[]
 nd:gs.Pairwise fun a b=>a.lH.id≠b.lH.id
theorem Dy {ds:gK} {keys:List BA} (hW: ∀(i:Int) (r:dq),getM i ds=some r→r.id=i) (h:(gp ds [] keys).2=0):abX ds keys (jZ ds (gp ds [] keys).1):=by
 have hg:=Qg (m:=[]) km (fun e he=>by cases he) h;generalize (gp ds [] keys).1=m at hg;have EK: ∀{k:BA} {r:dq},iY ds k=some r→getM r.id ds=some r:=fun hr=>by
  obtain⟨j,_,_,h3,_⟩:=D9 hr;rw [hW _ _ h3];exact h3
 have hk: ∀id k,k∈(getM id m).getD []→k∈keys∧ ∃r,iY ds k=some r∧r.id=id∧(getM id ds).getD .zero=r:=fun id k af=>by
  rcases(hg.mem id k).1 af with h1|⟨h1,r,h2,h3⟩
  ·simp [getM] at h1
  ·exact⟨h1,r,h2,h3,by rw [←h3,EK h2];rfl⟩
 have nu: ∀id,id∈mM (m.map (·.1))↔ ∃l,(id,l)∈m:=fun id=>by
  rw [(ml _).mem_iff,List.mem_map];exact⟨fun ⟨e,h1,h2⟩=>⟨e.2,by rw [←h2];exact h1⟩,fun ⟨l,h1⟩=>⟨_,h1,rfl⟩⟩
 refine⟨fun k af=>?_,fun g ji k af=>?_,fun g ji=>?_,?_⟩
 ·obtain⟨r,hr⟩:=hg.rt k af;have h1:=(hg.mem r.id k).2 (.inr ⟨af,r,hr,rfl⟩);refine⟨⟨(getM r.id ds).getD .zero,(getM r.id m).getD []⟩,List.mem_map.2 ⟨r.id,(nu _).2 ?_,rfl⟩,h1,?_⟩
  ·cases hm:getM r.id m with
   |none=>rw [hm] at h1;simp at h1
   |some l=>exact⟨l,kh hm⟩
  ·rw [hr,EK hr];rfl
 ·obtain⟨id,h1,rfl⟩:=List.mem_map.1 ji;obtain⟨h2,r,h3,_,h5⟩:=hk id k af;exact⟨h2,by rw [h3];exact congrArg some h5.symm⟩
 ·obtain⟨id,h1,rfl⟩:=List.mem_map.1 ji;obtain⟨l,h2⟩:=(nu id).1 h1
  show(getM id m).getD []≠[]
  rw [zB hg.nd h2];exact hg.full _ h2
 ·refine List.pairwise_map.2 (List.Pairwise.imp_of_mem (R:=fun a b=>a≠b) (fun {a b} ha hb ta=>?_) ((ml _).nodup_iff.2 hg.nd));have key: ∀id,id∈mM (m.map (·.1))→((getM id ds).getD .zero).id=id:=fun id hi=>by
   obtain⟨l,h2⟩:=(nu id).1 hi;cases l with
   |nil=>exact absurd rfl (hg.full _ h2)
   |cons k l=>
    obtain⟨_,r,_,h4,h5⟩:=hk id k (by rw [zB hg.nd h2];simp);rw [h5,h4]
  show((getM a ds).getD .zero).id≠((getM b ds).getD .zero).id
  rw [key a ha,key b hb];exact ta
theorem adK {m:Co} (hn:(m.map (·.1)).Nodup):((mM (m.map (·.1))).map fun id=>((getM id m).getD []).length).sum=sA aj m:=by
 rw [((ml (m.map (·.1))).map _).sum_nat,dt];have:(m.map ((fun id=>((getM id m).getD []).length)∘fun x=>x.1))=m.map fun e=>e.2.length:=fE fun e he=>by
  show((getM e.1 m).getD []).length=e.2.length
  rw [zB hn (show(e.1,e.2)∈m from he)];rfl
 rw [this];rfl
theorem OO {ds:gK} {keys:List BA} (hn:keys.Nodup) (h:(gp ds [] keys).2=0):((jZ ds (gp ds [] keys).1).map fun g=>g.keys.length).sum=keys.length:=by
 have hg:=Qg (m:=[]) km (fun e he=>by cases he) h;have hs:=UY (m:=[]) hn (fun id k _=>by simp [getM]) h;unfold jZ;rw [dt]
 show((mM _).map fun id=>((getM id (gp ds [] keys).1).getD []).length).sum=_
 rw [adK hg.nd,hs];simp [sA]
theorem R7 {α:Type} {gs:List ki} {p:ki→α→Bool} : ∀{l:List α},(∀w∈l,(gs.filter fun g=>p g w).length=1)→(gs.map fun g=>(l.filter (p g)).length).sum=l.length
 |[],_=>by
  simp only [List.filter_nil,bL]
  induction gs with
  |nil=>rfl
  |cons g gs ih=>simpa using ih
 |w::l,h=>by
  have ih:=R7 (gs:=gs) (p:=p) (l:=l) fun x hx=>h x (bA _ hx);have h1:=h w (by simp);have e: ∀gs:List ki,(gs.map fun g=>((w::l).filter (p g)).length).sum=(gs.filter fun g=>p g w).length+(gs.map fun g=>(l.filter (p g)).length).sum:=fun gs=>by
   induction gs with
   |nil=>rfl
   |cons g gs ih=>
    rw [cf,List.sum_cons,ih,cf,List.sum_cons,cW,cW];cases p g w<;>simp<;>omega
  rw [e,h1,ih,ba];omega
theorem abY {ds:gK} {keys:List BA} {gs:List ki} (h:abX ds keys gs) {k:BA} (hk:k∈keys):(gs.filter fun g=>g.keys.any fun y=>decide (k=y)).length=1:=by
 obtain⟨g,hg,hkg,hr⟩:=h.rt k hk;have abZ: ∀q∈gs,k∈q.keys→q.lH=g.lH:=fun q hq hkq=>by
  have:=(h.own q hq k hkq).2;rw [hr] at this;exact(Option.some.inj this).symm
 obtain⟨a,b,rfl⟩:=List.append_of_mem hg;have hp:=List.pairwise_append.1 h.nd;have hp2:=List.pairwise_cons.1 hp.2.1;have ha:(a.filter fun g=>g.keys.any fun y=>decide (k=y))=[]:=List.filter_eq_nil_iff.2 fun q hq he=>by
  have e:=abZ q (by simp [hq]) (zg.1 he);exact hp.2.2 q hq g (by simp) (by rw [e])
 have hb:(b.filter fun g=>g.keys.any fun y=>decide (k=y))=[]:=List.filter_eq_nil_iff.2 fun q hq he=>by
  have e:=abZ q (by simp [hq]) (zg.1 he);exact hp2.1 q hq (by rw [e])
 rw [qm,cW,ha,hb,if_pos (zg.2 hkg)];rfl
end Go.Proofs.YtbpnemeooenpmaaGreat
