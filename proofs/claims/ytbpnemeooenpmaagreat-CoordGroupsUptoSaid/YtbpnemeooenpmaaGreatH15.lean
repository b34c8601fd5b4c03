/-
 Part 15 of the proof: what the last text leans on.
-/
import Derived.WalkKit
import Derived.Test.YtbpnemeooenpmaaGreatH14
open List renaming length_map → aH, mem_cons_of_mem → bz, length_cons → bh, nodup_nil → kh, length_singleton → bu, length → ai, map_cons → bV, mem_singleton → bw, take_add_one → cC, filter_cons → cV, map_map → dr, length_nil → bI, map_append → bC, take_of_length_le → bA, map_congr_left → fD, filter_append → ql, length_filter_le → sS, mem_erase_of_ne → tv
open Nat renaming le_trans → ah, zero_le → aF, lt_of_lt_of_le → aG
open Option renaming toList_some → fj
open Classical renaming em → wh
set_option linter.unusedVariables false
set_option linter.unusedSimpArgs false
namespace Go.Proofs.YtbpnemeooenpmaaGreat
open Go.Proofs.Tryz renaming prog → pg
open Go.aV Go.RowKit Go.Sort
set_option maxRecDepth 100000
set_option maxHeartbeats 2000000
theorem RO (x:Int) (hx:x=0∨x=1):Pure pg 162 #[.int .u64 x] (I x):=by
 intro W;rcases hx with rfl|rfl;all_goals
  go_enter Tryz.func162,Tryz.ntmps162
  go_wp2
  all_goals (try simp only [Exit.inBlock,Exit.then])
 ·refine bodyPost_ret (v:=I 0) ?_ rfl ⟨rfl,Ext.refl _⟩;rw [results_tmp (t:=2) kQ];kernel_rfl
 ·refine bodyPost_ret (v:=I 1) ?_ rfl ⟨rfl,Ext.refl _⟩;rw [results_tmp (t:=2) kQ];kernel_rfl
end Go.Proofs.YtbpnemeooenpmaaGreat
namespace Go.Proofs.YtbpnemeooenpmaaGreat
open Go.Proofs.Tryz renaming prog → pg
open Go.aV
set_option maxRecDepth 100000
set_option maxHeartbeats 1000000
set_option linter.unusedVariables false
set_option linter.unusedSimpArgs false
attribute [local irreducible] un jn aC aS ld1 dY st1 dt cD kK dC lQ uJ sO fH e7 ae aB aK eW eV eU eC eF gE az fin aP aE aD vS xd gO gW ry uK sP xe xf xg gB gR rz uL sQ xh xi
theorem abH {w:World} {X:XS} {a f:Value} {lo hi:Int} (h:hi≤lo+1) (h2: -(2^62)≤lo∧lo≤2^62):Ct pg 275 #[a,I lo,I hi,f] w X nX fun _ _ _=>True:=by
 intro w0 hk;have hs:=aj.init w0;apply rX;unfold lF;refine Tt zQ zQ ?_;refine fN (fun n a b w X=>a=I (lo+1)∧aj (aR w0) w0 X w) 0 ⟨rfl,hs⟩ ?_;clear hs;rintro n _ _ w X ⟨rfl,hs⟩;repeat' first|refine aJ ?_;intros|refine dM ?_ ?_<;>intros|(exfalso;omega)|((first|(with_reducible refine av hs ?_)|(with_reducible refine av (bS.trans hs) ?_));intro wa hk;trivial)
theorem abI {w:World} {X:XS} {a f:Value} {n:Int} (h:n=0∨n=1):Ct pg 215 #[a,I 0,I n,I n,f] w X nX fun _ _ _=>True:=by
 intro w0 hk;have hs:=aj.init w0;apply uW;unfold nH;refine Of (fun m a b c d e w X=>a=I n∧d=I 0∧e=I n∧aj (aR w0) w0 X w) 0 ⟨rfl,rfl,rfl,hs⟩ ?_;clear hs;rintro m _ _ _ _ _ w X ⟨rfl,rfl,rfl,hs⟩;repeat' first|refine bD ?_;intros|with_reducible apply dx
 refine dp (abH zQ zQ) kQ hs.has ?_;rintro v wa w1 X1 _ hle fP ao;exact av (hs.trans ao) fun wa bk=>trivial
theorem P1 {w:World} {X:XS} {a f:Value} {rows:List (List Value)} (ha:Sl w X 7 a rows) (h:rows.length≤1):Ct pg 159 #[a,f] w X nX fun _ _ _=>True:=by
 intro w0 hk;replace ha:=ha.mv hk.dD;have hs:=aj.init w0;apply rY;unfold lG;have ha':Sl w0 (aR w0) 7 a (rows.map fun r=>r):=by simpa using ha
 have hw:IntKind.u64.wrap (rows.length:Int)=(rows.length:Int):=by
  rcases(by omega:rows.length=0∨rows.length=1)with e|e<;>rw [e]<;>rfl
 repeat' first|refine aJ ?_;intros
 rw [hw];refine ee (RO _ zQ) kQ hs.has ?_;intro w X ao;replace hs:=hs.trans ao;refine dp (abI zQ) kQ hs.has ?_;rintro v wa w X _ hle fP ao;exact av (hs.trans ao) fun _ _=>trivial
theorem ado {w:World} {X:XS} {a f:Value} {lo hi:Int} (h:hi≤lo+1) (h2: -(2^62)≤lo∧lo≤2^62):Ct pg 236 #[a,I lo,I hi,f] w X nX fun _ _ _=>True:=by
 intro w0 hk;have hs:=aj.init w0;apply su;unfold lU;refine Tt zQ zQ ?_;refine fN (fun n a b w X=>a=I (lo+1)∧aj (aR w0) w0 X w) 0 ⟨rfl,hs⟩ ?_;clear hs;rintro n _ _ w X ⟨rfl,hs⟩;repeat' first|refine aJ ?_;intros|refine dM ?_ ?_<;>intros|(exfalso;omega)|((first|(with_reducible refine av hs ?_)|(with_reducible refine av (bS.trans hs) ?_));intro wa hk;trivial)
theorem adp {w:World} {X:XS} {a f:Value} {n:Int} (h:n=0∨n=1):Ct pg 172 #[a,I 0,I n,I n,f] w X nX fun _ _ _=>True:=by
 intro w0 hk;have hs:=aj.init w0;apply wi;unfold oq;refine Of (fun m a b c d e w X=>a=I n∧d=I 0∧e=I n∧aj (aR w0) w0 X w) 0 ⟨rfl,rfl,rfl,hs⟩ ?_;clear hs;rintro m _ _ _ _ _ w X ⟨rfl,rfl,rfl,hs⟩;repeat' first|refine bD ?_;intros|with_reducible apply dx
 refine dp (ado zQ zQ) kQ hs.has ?_;rintro v wa w1 X1 _ hle fP ao;exact av (hs.trans ao) fun wa bk=>trivial
theorem SF {w:World} {X:XS} {a f:Value} {rows:List (List Value)} (ha:Sl w X 3 a rows) (h:rows.length≤1):Ct pg 109 #[a,f] w X nX fun _ _ _=>True:=by
 intro w0 hk;replace ha:=ha.mv hk.dD;have hs:=aj.init w0;apply s6;unfold mi;have ha':Sl w0 (aR w0) 3 a (rows.map fun r=>r):=by simpa using ha
 have hw:IntKind.u64.wrap (rows.length:Int)=(rows.length:Int):=by
  rcases(by omega:rows.length=0∨rows.length=1)with e|e<;>rw [e]<;>rfl
 repeat' first|refine aJ ?_;intros
 rw [hw];refine ee (RO _ zQ) kQ hs.has ?_;intro w X ao;replace hs:=hs.trans ao;refine dp (adp zQ) kQ hs.has ?_;rintro v wa w X _ hle fP ao;exact av (hs.trans ao) fun _ _=>trivial
end Go.Proofs.YtbpnemeooenpmaaGreat
namespace Go.Proofs.YtbpnemeooenpmaaGreat
open Go.Proofs.Tryz renaming prog → pg
open Go.aV Go.RowKit Go.Maps Go.Sort Go.Shelf
set_option maxRecDepth 100000
set_option maxHeartbeats 1000000
theorem OC (q:List (List UInt8)):q.map encStr=((q.map fun x=>(⟨x.toArray⟩:ByteArray)).map S1).flatten:=by
 induction q with
 |nil=>rfl
 |cons a q ih=>simp only [bV,List.flatten_cons,←ih];rfl
theorem afS (ks:List ByteArray):(ks.map S1).flatten=(ks.map bl).map encStr:=by
 rw [OC]
 congr 2
 rw [dr];conv=>lhs;rw [←List.map_id ks]
 exact fD fun x _=>(afc x).symm
theorem Zv {w:World} {X:XS} {lo:Nat} {v:Value} {ks:List ByteArray} (h:Own w X lo 9 1 v (ks.map S1)) (amO:ks.length≤2^40):
  Ct pg 92 #[v] w X (cY v) fun _ wa w'=>Own w' (cY v) lo 9 1 v ((gu ks).map S1):=by
 intro wa hk;replace h:=h.kp hk;obtain⟨h1,h2,h3⟩:=h;have hlen:(gu ks).length=ks.length:=(kI _).length_eq;rcases h2.2 with⟨rfl,hz⟩|⟨g,cap,cur,rfl,Zw,hg,r1,r2,r3,r4⟩
 ·refine(AnyM.slices_Sort_string_none Tryz.To none 0 wa).mono ?_;rintro e w' ⟨rfl,rfl⟩;have AR:ks=[]:=List.eq_nil_of_length_eq_zero (by simpa using hz);subst AR;have e0:(gu []).map S1=[]:=by simp [gu]
  refine⟨_,rfl,Fr.refl _ _,?_⟩
  show Own w' _ lo _ 1 _ ((gu []).map S1)
  rw [e0];exact Own.nil _ _ _ _ _
 ·have hl:(ks.map bl).length=(ks.map S1).length:=by simp
  have hH:Holds encStr wa g 0 (ks.map bl).toArray:=holds_of_block hg (by rw [hl,←afS,←r4];simp);have fe:g<wa.heap.size:=(Array.getElem?_eq_some_iff.1 hg).1;have cS:=AnyM.slices_Sort_string Tryz.To g 0 cap (ks.map bl) wa hH fe (by rw [hl,aH];omega);rw [hl] at cS;refine cS.mono ?_;rintro e w' ⟨rfl,n,os,rfl⟩;have yD:=grownBy_sorted (w:=wa) (g:=g) (n:=n) (os:=os) ((ks.map bl).mergeSort fun x y=>decide (x≤y)).toArray;have si:=ownsRow_sorted (w:=wa) (base:=lo) (g:=g) (cap:=cap) (n:=n) (e:=9) (os:=os) (cur:=cur) (ss:=ks.map bl) (ts:=(ks.map bl).mergeSort fun x y=>decide (x≤y)) (by simp) Zw hg (by rw [hl];exact r1) r2 (by simpa using r3);have e1:((ks.map bl).mergeSort fun x y=>decide (x≤y)).map encStr=((gu ks).map S1).flatten:=OC _;refine⟨_,rfl,⟨yD.os,yD.tape,yD.output,yD.size,fun k af hn=>yD.block k af fun e=>hn (by cases e;rfl)⟩,fun r hr=>by obtain⟨x,_,rfl⟩:=List.mem_map.1 hr;rfl,?_,fun q hq=>hq⟩;rw [e1,hl] at si;have e2:((gu ks).map S1).length=(ks.map S1).length:=by rw [aH,aH,hlen]
  rw [e2];exact si
end Go.Proofs.YtbpnemeooenpmaaGreat
namespace Go.Proofs.YtbpnemeooenpmaaGreat
open Go.Proofs.Tryz renaming prog → pg
open Go.aV
set_option maxRecDepth 100000
set_option maxHeartbeats 1000000
set_option linter.unusedVariables false
set_option linter.unusedSimpArgs false
attribute [local irreducible] un jn aC aS ld1 dY st1 dt cD kK dC lQ uJ sO fH e7 ae aB aK eW eV eU eC eF gE az fin aP aE aD vS xd gO gW ry uK sP xe xf xg gB gR rz uL sQ xh xi
section
variable {w w' wa : World} {X X' K K' Y : XS} {nb xb mb : Nat} {c : ph} {x : oN} {vm va vw dZ gr ia fy jY : Value} {al : List (dc × Nat)} {rm ra rw : List (List Value)} {ms ws : List dF} {ps : List Int} {ds : gJ}
theorem wj (h:a7 w Y xb (Cg x vw) aT) (hY: ∀k,Y k→X k) (hv:x.vs=aN):
  Ct pg 91 #[ptr xb 0] w X nX fun v wa w'=>Own w' (made wa w') wa.heap.size 215 7 v (([]:List jy).map jy.l):=by
 intro w0 hk;have bJ:=(h.mono hY).mv hk.dD;have hs:=aj.init w0;apply Ec;unfold uX;repeat' first|refine aJ ?_;intros
 rw [hv];refine dp (IV (xs:=[]) (Sl.nil _ _ _) (by simp)) kQ hs.has ?_;rintro v qJ w1 X1 q1 sj oQ ao;have u1:Own w1 X1 w0.heap.size _ _ v _:=q1.up oQ sj;replace hs:=hs.trans ao;refine dp (P1 u1.sl (by simp)) kQ hs.has ?_;rintro v2 zF w2 X2 _ qI nV bU;have u2:=u1.since bU;exact av (hs.trans bU) fun wa bk=>(u2.kp bk).tight
theorem fu.since (h:fu w K nb xb c x vm va vw dZ al rm ra rw ms ws ps) (hC:FX (cF nb xb c.ab vm va vw dZ) X w) (hK:FX K X w) (hs:aj X w X' w') (E:XS) (hE: ∀k,E k→w.heap.size≤k):
  fu w' (fun k=>K k∨E k) nb xb c x vm va vw dZ al rm ra rw ms ws ps:=
 h.mv (fun k hk=>hs.kp.block k (hC k hk).1) (fun k hk _=>⟨.inl hk,hs.kp.block k (hK k hk).1⟩) fun k hk hf=>hk.elim (fun e=>h.kd k e hf) fun e=>by have:=h.fx k hf;have:=hE k e;omega
theorem fu.shut (h:fu w K nb xb c x vm va vw dZ al rm ra rw ms ws ps):fu w (fun k=>K k∨cY dZ k) nb xb c x vm va vw aN al rm ra rw ms ws [] where
 row:=h.row
 act:=h.act
 am:=h.am
 om:=h.om
 oa:=h.oa
 ow:=h.ow
 op:=Own.nil _ _ _ _ _
 hm:=h.hm.mv (Mv.sub fun k hk=>.inl hk)
 hw:=h.hw.mv (Mv.sub fun k hk=>.inl hk)
 sep:=h.sep
 kd:=fun k hk hf=>by
  rcases hk with e|e
  ·exact h.kd k e (by rcases hf with q|q|q|q|q|q|q;(· exact .inl q);(· exact .inr (.inl q));(· exact .inr (.inr (.inl q)));(· exact .inr (.inr (.inr (.inl q))));(· exact .inr (.inr (.inr (.inr (.inl q)))));(· exact .inr (.inr (.inr (.inr (.inr (.inl q))))));(· cases q))
  ·obtain⟨a1,a2,a3,a4,a5,a6⟩:=h.ap.p k e;rcases hf with q|q|q|q|q|q|q
   ·exact a1 q
   ·exact a2 q
   ·exact a3 q
   ·exact a4 q
   ·exact a5 q
   ·exact a6 q
   ·cases q
 o1:=h.o1
 o2:=h.o2
 o3:=h.o3
 o4:=h.o4
end
def keysOf (wr:rC):List BA:=gu (wr.map (·.1))
theorem zy (wr:rC):(dB wr).map (·.key)=keysOf wr:=by
 unfold dB keysOf;rw [dr];conv=>rhs;rw [←List.map_id (gu _)]
 exact fD fun x _=>rfl
theorem abJ (wr:rC):gu (keysOf wr)=keysOf wr:=acR (kI _)
def uE:dF:=⟨0,0,0,.zero,0,0,0,.zero,.zero,false,0,0,[],[],[],[],[],[],.zero⟩
def fb (ds:gJ) (wr:rC):List ke:=jX ds (gp ds [] (keysOf wr)).1
def vI (ids:List Int) (l:List KV) (g:ke):dF:= { uE with kind:=3,range:=g.lE.id,gx:=g.lE.gx,parts:=ids,writes:=l.filter fun w=>g.keys.any fun y=>decide (w.key=y) }
def lV (ds:gJ) (wr:rC):List dF:=(fb ds wr).map (vI ((fb ds wr).map (·.lE.id)) (dB wr))
def xC (p:List fw) (ds:gJ) (wr:rC):Prop:=iM p=0∧(∃s,runM p [] []= .ok (s,wr))∧dB wr≠[]∧(gp ds [] (keysOf wr)).2=0
theorem adq {c:Int} {a b:fS} {e:Int} (h:sn c a b= .error e):e≠0:=by
 unfold sn at h;split at h
 ·cases h
 ·split at h
  ·cases h
  ·split at h
   ·cases h
   ·split at h
    ·cases h;decide
    ·cases h
theorem UE: ∀{p:List fw} {s:List fS} {wr:rC} {e:Int},runM p s wr= .error e→e≠0
 |[],s,wr,e,h=>by simp [runM] at h
 |o::r,s,wr,e,h=>by
  unfold runM at h;cases hd:qT o s wr with
  |ok sw=>rw [hd] at h;exact UE h
  |error q=>
   rw [hd] at h;cases h;unfold qT at hd;split at hd
   ·cases hd
   ·split at hd
    ·cases hd
    ·split at hd
     ·cases hd
     ·split at hd
      ·split at hd
       ·cases hd
       ·cases hd;decide
      ·split at hd
       ·cases hd
       ·split at hd
        ·cases hd
        ·rename_i q hq;cases hd;exact adq hq
theorem OD: ∀{p:List fw} {s s':List fS} {wr kP:rC},(∀o∈p,zJ o (D8 o.code)=true)→(wr.map (·.1)).Nodup→runM p s wr= .ok (s',kP)→(∀y∈wr,y.1.size≤24)→(∀y∈kP,y.1.size≤24)∧kP.length≤wr.length+p.length∧(kP.map (·.1)).Nodup
 |[],s,s',wr,kP,hf,hn,h,hw=>by
  simp only [runM,Except.ok.injEq,Prod.mk.injEq] at h;rw [←h.2];exact⟨hw,by simp,hn⟩
 |o::r,s,s',wr,kP,hf,hn,h,hw=>by
  unfold runM at h;cases hd:qT o s wr with
  |error q=>rw [hd] at h;cases h
  |ok sw=>
   obtain⟨s1,wr1⟩:=sw;rw [hd] at h;have h1:(∀y∈wr1,y.1.size≤24)∧wr1.length≤wr.length+1∧(wr1.map (·.1)).Nodup:=by
    rcases Ux hd with rfl|⟨v,rfl,hc⟩
    ·exact⟨hw,by omega,hn⟩
    ·refine⟨fun y hy=>?_,zI _,F8 hn⟩;rcases jt hn hy with rfl|⟨hy,_⟩
     ·exact Ox (hf o (by simp)) hc
     ·exact hw y hy
   have ih:=OD (fun x hx=>hf x (bz _ hx)) h1.2.2 h h1.1;refine⟨ih.1,?_,ih.2.2⟩;rw [bh];omega
theorem zP {p:List fw} (h:iM p=0):p.length≤40∧uC p 0=0:=by
 unfold iM at h;split at h
 ·exact absurd h (by decide)
 ·split at h
  ·rename_i h1 h2;exact absurd h h2
  ·rename_i h1 h2;exact⟨by omega,by rcases wh (uC p 0=0)with e|e;exact e;exact absurd e h2⟩
theorem RQ {p:List fw} {s:List fS} {wr:rC} (h:iM p=0) (hr:runM p [] []= .ok (s,wr)):(∀y∈wr,y.1.size≤24)∧wr.length≤40∧(wr.map (·.1)).Nodup:=by
 obtain⟨h1,h2⟩:=zP h;have:=OD (wr:=[]) (fun o ho=>(Dn h2 o ho).1) kh hr (fun y hy=>by cases hy);refine⟨this.1,?_,this.2.2⟩;have h3:=this.2.1;simp only [bI] at h3;omega
theorem MU {ds:gJ} : ∀{keys:List BA} {m:List (Int×List BA)},(gp ds m keys).1.length≤m.length+keys.length
 |[],m=>by simp [gp]
 |k::r,m=>by
  rw [gp,bh];split
  ·split
   ·simp only;omega
   ·rename_i g _;have ih:=MU (ds:=ds) (keys:=r) (m:=if((getM g.id m).getD []).any (fun x=>decide (k=x))then m else dS g.id (((getM g.id m).getD [])++[k]) m);have h2:(if((getM g.id m).getD []).any (fun x=>decide (k=x))then m else dS g.id (((getM g.id m).getD [])++[k]) m).length≤m.length+1:=by
     split
     ·omega
     ·exact zI _
    omega
  ·simp only;omega
theorem Xk (ds:gJ) (wr:rC):(fb ds wr).length≤(keysOf wr).length:=by
 unfold fb jX;rw [aH,(mj _).length_eq,aH];have:=MU (ds:=ds) (keys:=keysOf wr) (m:=[]);simpa using this
section
variable {w w' wa : World} {X X' K K' Y : XS} {nb xb mb : Nat} {c : ph} {x : oN} {vm va vw dZ gr ia fy jY : Value} {al : List (dc × Nat)} {rm ra rw : List (List Value)} {ms ws : List dF} {ps : List Int} {ds : gJ}
theorem fu.UF (h:fu w K nb xb c x vm va vw dZ al rm ra rw ms ws ps) (hs:aj X w X' w') (hC:FX (cF nb xb c.ab vm va vw dZ) X w):FX (cF nb xb c.ab vm va vw dZ) X' w':=fun k hk=>⟨hs.sub k (hC k hk).1,hs.has k (hs.sub k (hC k hk).1)⟩
structure akT (nb xb:Nat) (c:ph) (x x':oN) (vm va vw:Value) (K:XS) (al:List (dc×Nat)) (ra:List (List Value)) (ms:List dF) (p:List fw) (ds:gJ) (wa w':World) (gr ia fy:Value) (K':XS) (mV:List (dc×Nat)) (kS uj oO:List (List Value)) (uT uU:List dF):Prop where
 f: ∀k,cF nb xb c.ab gr ia fy aN k→cF nb xb c.ab vm va vw aN k∨made wa w' k
 k1: ∀k,K' k→K k∨made wa w' k
 k2: ∀k,K k→K' k
 mid:fu w' K' nb xb c x' gr ia fy aN mV kS uj oO uT uU []
 tx:x'.dK=x.dK
 res:(uj.length=ra.length+1∧ ∀wr,¬xC p ds wr)∨ ∃wr vq,xC p ds wr∧x'= { x with pre:=true,vq:=vq } ∧Sl w' K' 1 vq (((fb ds wr).map (·.lE.id)).map I1)∧mV=al∧uj=ra∧ia=va∧
  uT=ms++(lV ds wr).map (fun m=>(m.asked x).l9 (20+c.id))∧uU=(lV ds wr).map (fun m=>m.asked x)
def adr (nb xb:Nat) (c:ph) (x:oN) (vm va vw:Value) (K:XS) (al:List (dc×Nat)) (ra:List (List Value)) (ms:List dF) (p:List fw) (ds:gJ) (wa w':World):Prop:= ∃x' gr ia fy K' mV kS uj oO uT uU,akT nb xb c x x' vm va vw K al ra ms p ds wa w' gr ia fy K' mV kS uj oO uT uU
theorem UG {p:List fw} (h:fu w K nb xb c x vm va vw aN al rm ra rw ms [] []) (hC:FX (cF nb xb c.ab vm va vw aN) X w) (hK:FX K X w) (hp:x.pre=false) (hv:x.vs=aN) (hq:x.vq=aN)
  (I4:Sl w K 5 x.vp (p.map fw.l)) (hd:gN w K c.Aq mb ds) (hW: ∀(i:Int) (r:dq),getM i ds=some r→r.id=i) (hr:dW 1 1 p=[]) (hi:1≤c.id∧c.id≤2) (hl:rm.length≤2^10) (LU:ra.length≤2^10) (Ci:iM p=0):
  Ct pg 37 #[ptr nb 0,ptr xb 0] w X (cF nb xb c.ab vm va vw aN) fun _ wa w'=>adr nb xb c x vm va vw K al ra ms p ds wa w':=by
 intro w0 hk;have hT:=hC.ft hk;have oe:Mv K w K w0:=hk.fi fun k af=>(hK k af).1;replace h:=h.mv (fun k af=>hk.block k (hC k af).1) oe h.kd;replace I4:=I4.mv oe;replace hd:=hd.mv oe;have kT:=hC.kp hk;have jz:=hK.kp hk;have jl:=h.act.mono fun k e=>(kT k (.inr (.inl e))).1;have hs:=aj.init w0;clear hC hK oe hk;apply Li;unfold AS;repeat' first|refine aJ ?_;intros
 rw [hv];refine dp (LV (I4.mv (Mv.sub fun k af=>(jz k af).1)) hr) kQ hs.has ?_;rintro v qJ w1 X1 q1 sj oQ ao;rw [if_neg (fun e=>e Ci)] at q1;have dU:=hT.since ao;have wL:=h.UF ao kT;have h1:=h.since kT jz ao (made qJ w1) fun k e=>ah sj e.1;have kU:FX (fun k=>K k∨made qJ w1 k) X1 w1:=fun k af=>af.elim (fun e=>⟨ao.sub k (jz k e).1,ao.has k (ao.sub k (jz k e).1)⟩) fun e=>⟨oQ k e,e.2⟩;have xB:=h1.act.mono fun k e=>(wL k (.inr (.inl e))).1;have ml:=h1.row.mono fun k e=>(wL k (.inl e)).1;have UH:=I4.mv (ao.fZ fun k af=>(jz k af).1);have EV:=hd.mv (ao.fZ fun k af=>(jz k af).1);clear hs jl I4 hd h hT;have hs:=aj.ct ao.has;have ahi: ∀{w2:World} {X2 K2:XS} {e:Int},Ft w0 (cF nb xb c.ab vm va vw aN) w2 X2 (cF nb xb c.ab vm va vw aN)→fu w2 K2 nb xb c x vm va vw aN al rm ra rw ms [] []→FX K2 X2 w2→(∀k,K2 k→K k∨w0.heap.size≤k)→(∀k,K k→K2 k)→(∀wr,¬xC p ds wr)→
   eC pg (xt (cF nb xb c.ab vm va vw aN) w0 fun v w'=>adr nb xb c x vm va vw K al ra ms p ds w0 w') X2 w2 true 90 #[ptr nb 0,ptr xb 0,I e] fun _ akU akV=>fin (xt (cF nb xb c.ab vm va vw aN) w0 fun v w'=>adr nb xb c x vm va vw K al ra ms p ds w0 w') akV akU (Value.tuple #[]):=
  fun {w2 X2 K2 e} cW h2 mB pj xD lP=>by
   refine cW.call (SE (code:=e) h2 (cW.fx fun _ h=>h) mB hp zQ) kQ (fun _ h=>h) fun v uQ w3 X3 EW nZ mz dE c3=>?_;obtain⟨ia,AT,h3⟩:=EW;have nm:=dE.less AT;have kV: ∀k,K2 k→X3 k:=fun k af=>c3.sub k (mB k af).1;exact nm.fin fun wa bk=>⟨x,vm,ia,vw,K2,_,rm,_,rw,ms,[],nm.gU bk fun _ h=>h,fun k af=>(pj k af).imp id fun e=>⟨e,aG (nm.s.has k (kV k af)) bk.size⟩,xD,h3.mv (fun k af=>bk.block k (nm.bK k af)) (bk.fi kV) h3.kd,rfl,.inl ⟨by simp,lP⟩⟩
 have pj: ∀k,(K k∨made qJ w1 k)→K k∨w0.heap.size≤k:=fun k af=>af.imp id fun e=>ah sj e.1;cases hR:runM p [] [] with
 |error e=>
  rw [hR] at q1;subst q1;have du:=UE hR;repeat' first|refine bD ?_;intros
  exact ahi dU h1 kU pj (fun k af=>.inl af) fun wr hg=>by obtain⟨s,h2⟩:=hg.2.1;rw [hR] at h2;cases h2
 |ok sw=>
  obtain⟨s,wr⟩:=sw;rw [hR] at q1;obtain⟨vl,rfl,ID⟩:=q1;have ads:=ID.mono oQ;obtain⟨hws,hwl,hwn⟩:=RQ Ci hR;have tt:(dB wr).length≤40:=by rw [←aH (f:=(·.key)),zy];unfold keysOf;rw [(kI _).length_eq,aH];exact hwl
  by_cases hw0:dB wr=[]
  ·have akW:((dB wr).length:Int)=0:=by rw [hw0];rfl
   repeat' first|refine bD ?_;intros
   refine dp (wj xB (fun _ h=>h) hv) kQ hs.has ?_;rintro vr zF w2 X2 q2 qI nV bU;have cW:=dU.since bU;have h2:=h1.mv (w':=w2) (K':=fun k=>K k∨made qJ w1 k) (fun k af=>bU.kp.block k (wL k af).1) (bU.fZ fun k af=>(kU k af).1) h1.kd;have mB:FX (fun k=>K k∨made qJ w1 k) X2 w2:=fun k af=>⟨bU.sub k (kU k af).1,bU.has k (bU.sub k (kU k af).1)⟩;have ovr:=q2.sl.one;clear hs;have hs:=aj.ct bU.has;obtain⟨t1,t2,t3,rfl⟩:=q2.sl.form;repeat' first|refine aJ ?_;intros
   refine cW.call (zx (code:=0) (t:=.zero) (st:=x.st) (on:=true) (vs:=.slice t1 t2 t3) h2 (cW.fx fun _ h=>h) mB ovr zQ) kQ (fun _ h=>h) fun v uQ w3 X3 EW nZ mz dE c3=>?_;obtain⟨ia,AT,h3⟩:=EW;have nm:=dE.less AT;have kV: ∀k,(K k∨made qJ w1 k)→X3 k:=fun k af=>c3.sub k (mB k af).1;exact nm.fin fun wa bk=>⟨x,vm,ia,vw,_,_,rm,_,rw,ms,[],nm.gU bk fun _ h=>h,fun k af=>(pj k af).imp id fun e=>⟨e,aG (nm.s.has k (kV k af)) bk.size⟩,fun k af=>.inl af,h3.mv (fun k af=>bk.block k (nm.bK k af)) (bk.fi kV) h3.kd,rfl,
    .inl ⟨by simp,fun kP hg=>by obtain⟨s',h2⟩:=hg.2.1;rw [hR] at h2;cases h2;exact hg.2.2.1 hw0⟩⟩
  ·have akW: ¬((dB wr).length:Int)=0:=fun e=>hw0 (List.length_eq_zero_iff.1 zQ);repeat' first|refine bD ?_;intros
   refine dp (tp (UH.mv (Mv.sub fun k af=>(kU k (.inl af)).1)) (by have:=(zP Ci).1;omega)) kQ hs.has ?_;rintro vk zF w2 X2 q2 qI nV bU;rw [hr] at q2;have nW:Own w2 X2 w1.heap.size 9 1 vk ((((dB wr).take 0).map (·.key)).map S1):=q2.up nV qI;have akX:=ads.since bU;clear hs;have hs:=aj.ct bU.has;repeat' first|refine aJ ?_;intros
   refine fN (fun n a b w X=> ∃i:Nat,a=I (i:Nat)∧n=(dB wr).length-i∧i≤(dB wr).length∧aj X1 w1 X w∧Own w X w1.heap.size 9 1 b ((((dB wr).take i).map (·.key)).map S1)) (dB wr).length ⟨0,rfl,rfl,aF _,bU.trans hs,nW.since hs⟩ ?_;clear hs akX nW;rintro n a b w X ⟨i,rfl,rfl,AG,hs,mg⟩;have ahj:=ads.since hs;rcases ew (dB wr) i with⟨dy,y,hx,hd⟩|⟨dV,hd⟩
   ·repeat' first|refine bD ?_;intros|(with_reducible apply IF);(case hX=>exact hs.has);(case he=>kernel_rfl);(case ho=>first|rfl|assumption);(case hk=>rfl);intro acc w X ao ho;obtain⟨_,_,_,rfl⟩:=ho.sl.form;replace hs:=hs.trans ao
    have hlen:((((dB wr).take i).map (·.key)).map S1).length≤40:=by simp;omega
    refine qQ (mg.since ao) hs dU.s.has kQ ho.sl (fun r qp u hu=>?_) (by simp only [bu];omega) (by simp only [bu];omega) fun v' w' X' wM uI c' ef=>?_
    ·rw [bw] at qp;subst qp;rw [bw] at hu;subst hu;rfl
    clear hs;have hs:=aj.ct wM.has;repeat' first|refine aJ ?_;intros|((with_reducible refine fJ ((dB wr).length-(i+1)) ?_ ?_);omega;exact⟨i+1,by simp,rfl,by omega,wM,by rw [cC,hx];simp only [fj,bC,bV,List.map_nil];exact uI⟩)
   ·rw [bA dV] at mg;have hkw:((dB wr).map (·.key))=keysOf wr:=zy wr;rw [hkw] at mg;have ajw:(keysOf wr).length≤40:=by rw [←hkw,aH];exact tt
    repeat' first|refine bD ?_;intros
    have hTn:=(dU.since hs).new;refine hTn.call (Zv mg zQ) kQ (fun k af=>.inr ⟨mg.2.2 k af,ah dU.s.kp.size (mg.ge af).1⟩) fun v uQ w3 X3 EW nZ mz ahk c3=>?_;rw [abJ] at EW;have dE:Ft w0 (cF nb xb c.ab vm va vw aN) w3 X3 (cF nb xb c.ab vm va vw aN):=ahk.less fun k af=>.inl (.inl af);have hnv: ∀k,k<w1.heap.size→ ¬cY b k:=fun k af hb=>by have:=(mg.ge hb).1;omega
    have amz: ∀k,(K k∨made qJ w1 k)→k<w1.heap.size:=fun k af=>(kU k af).2;have P2: ∀k,X1 k→X3 k∧w3.heap[k]? =w1.heap[k]? :=fun k af=>⟨c3.sub k (hs.sub k af),(c3.block k (hs.sub k af) (hnv k (dU.s.has k af))).trans (hs.kp.block k af)⟩;have h3:fu w3 (fun k=>K k∨made qJ w1 k) nb xb c x vm va vw aN al rm ra rw ms [] []:=h1.mv (fun k af=>(P2 k (wL k af).1).2) (fun k af _=>⟨af,(P2 k (kU k af).1).2⟩) h1.kd;have kV:FX (fun k=>K k∨made qJ w1 k) X3 w3:=fun k af=>⟨(P2 k (kU k af).1).1,dE.s.has k (P2 k (kU k af).1).1⟩;have RR:Mv (fun k=>K k∨made qJ w1 k) w1 (fun k=>K k∨made qJ w1 k) w3:=fun k af _=>⟨af,(P2 k (kU k af).1).2⟩;have ahl:Sl w3 (fun k=>K k∨made qJ w1 k) 4 vl ((dB wr).map KV.l):=(ID.mono fun k e=>.inr e).mv RR;have L6:gN w3 (fun k=>K k∨made qJ w1 k) c.Aq mb ds:=(EV.mv (Mv.sub fun k af=>.inl af)).mv RR;have AT:=dE.fx fun _ h=>h;have Dt:=h3.row.mono fun k e=>(AT k (.inl e)).1;have ac8:Sl w3 X3 1 b ((keysOf wr).map S1):=EW.sl.mono fun k af=>c3.sub k (mg.2.2 k af);clear hs ahk hTn c3 P2 ahj ads ID EV UH ml xB mg EW;have hs:=aj.ct dE.s.has;repeat' first|refine aJ ?_;intros
    have fL: ∀k∈keysOf wr,k.size≤2^62:=fun k af=>by
     obtain⟨y,hy,rfl⟩:=List.mem_map.1 ((kI _).mem_iff.1 af);have:=hws y hy;omega
    refine dp (LQ (L6.mv (Mv.sub fun k af=>(kV k af).1)) hW ac8 zQ fL) kQ hs.has ?_;rintro v4 mu w4 X4 q4 qg lI fq;have fm:=dE.since fq;have h4:=h3.since AT kV fq (made mu w4) fun k e=>ah qg e.1;have Cj:FX (fun k=>(K k∨made qJ w1 k)∨made mu w4 k) X4 w4:=fun k af=>af.elim (fun e=>⟨fq.sub k (kV k e).1,fq.has k (fq.sub k (kV k e).1)⟩) fun e=>⟨lI k e,e.2⟩;have RS: ∀k,((K k∨made qJ w1 k)∨made mu w4 k)→K k∨w0.heap.size≤k:=fun k af=>af.elim (pj k) fun e=>.inr (by have:=dE.s.kp.size;have:=e.1;omega);clear hs;have hs:=aj.ct fq.has;by_cases he:(gp ds [] (keysOf wr)).2≠0
    ·rw [if_pos he] at q4;subst q4;repeat' first|refine bD ?_;intros
     exact ahi fm h4 Cj RS (fun k af=>.inl (.inl af)) fun kP hg=>by obtain⟨s',h2⟩:=hg.2.1;rw [hR] at h2;cases h2;exact he hg.2.2.2
    ·rw [if_neg he] at q4;obtain⟨vg,rfl,L7⟩:=q4;change en w4 (made mu w4) 5 vg ke.rd (fb ds wr)at L7;have adt:Sl w4 (fun k=>(K k∨made qJ w1 k)∨made mu w4 k) 4 vl ((dB wr).map KV.l):=ahl.mv fun k af _=>⟨.inl af,fq.kp.block k (kV k af).1⟩;have MV:en w4 (fun k=>(K k∨made qJ w1 k)∨made mu w4 k) 5 vg ke.rd (fb ds wr):=en.mv L7 ke.mv (Mv.sub fun k e=>.inr e);generalize wN:(fun k=>(K k∨made qJ w1 k)∨made mu w4 k)=K4 at h4 Cj adt MV;have ahm: ∀k,K4 k→K k∨w0.heap.size≤k:=fun k af=>RS k (by rw [←wN] at af;exact af);have ahn: ∀k,K k→K4 k:=fun k af=>by rw [←wN];exact .inl (.inl af)
     have ajx:xC p ds wr:=⟨Ci,⟨s,hR⟩,hw0,by rcases wh ((gp ds [] (keysOf wr)).2=0)with e|e;exact e;exact absurd e he⟩;have fe:(fb ds wr).length≤40:=ah (Xk ds wr) ajw;have Gg:=h4.act.mono fun k e=>fm.bK k (.inr (.inl e));clear L7 ahl L6 Dt ac8 kV h3 dE wN RS kU h1 dU fq AT wL;repeat' first|refine bD ?_;intros
     refine qu (o:=9) Gg zQ kQ (by simp) rfl fm.s.has fun w5 X5 c5 Hm=>?_;have ap:=h4.ap;have ed:=h4.step (c':=c) (x':= { x with pre:=true }) (gr:=vm) (ia:=va) (fy:=vw) (jY:=aN) (mV:=al) (kS:=rm) (uj:=ra) (oO:=rw) (uT:=ms) (uU:=[]) (Dr:=[]) fm.bK (fun k af=>(Cj k af).1) fm.s.has (fun k=>k=xb) c5 (fun k af=>.inr (.inl af)) rfl
      (.inl ⟨fun e=>ap.nx e,rfl⟩) (.inr Hm) (.inl ⟨fun e=>ap.ax e,rfl⟩) (.inl ⟨fun g hg e=>(ap.m g hg).2.1 e,rfl,rfl⟩) (.inl ⟨fun g hg e=>(ap.a g hg).2.1 e,rfl,rfl⟩) (.inl ⟨fun g hg e=>(ap.w g hg).2.1 e,rfl,rfl⟩) (.inl ⟨fun g hg e=>(ap.p g hg).2.1 e,rfl,rfl⟩) h4.hm h4.hw h4.o1 h4.o2 h4.o3 h4.o4
     have ff:=fm.fM (F':=cF nb xb c.ab vm va vw aN) c5 (fun k af=>.inr (.inl af)) ed.2;have h5:=ed.1;have Hw:FX K4 X5 w5:=fun k af=>⟨c5.sub k (Cj k af).1,ff.s.has k (c5.sub k (Cj k af).1)⟩;have I5:Mv K4 w4 K4 w5:=fun k af _=>⟨af,c5.block k (Cj k af).1 fun e=>h4.kd k af (.inr (.inl e))⟩;have aho:=adt.mv I5;have MW:=en.mv MV ke.mv I5;clear ed c5 Hm Gg adt MV h4 Cj fm I5 ap hs;have hs:=aj.ct ff.s.has;have Gh:=en.mv MW ke.mv (Mv.sub fun k af=>(Hw k af).1);repeat' first|refine aJ ?_;intros
     have I6:({ x with pre:=true } :oN)= { x with pre:=true,vq:=aN } :=by rw [←hq]
     rw [I6] at h5;refine fR (fun n a w X=> ∃(i:Nat) (vq:Value),a=I (i:Nat)∧n=(fb ds wr).length-i∧i≤(fb ds wr).length∧Ft w0 (cF nb xb c.ab vm va vw aN) w X (cF nb xb c.ab vm va vw vq)∧
      fu w K4 nb xb c { x with pre:=true,vq:=vq } vm va vw vq al rm ra rw ms [] (((fb ds wr).take i).map (·.lE.id))∧FX K4 X w∧Sl w K4 4 vl ((dB wr).map KV.l)∧en w K4 5 vg ke.rd (fb ds wr)) (fb ds wr).length ⟨0,aN,rfl,rfl,aF _,ff,h5,Hw,aho,MW⟩ ?_
     clear ff h5 Hw aho MW Gh hs I6;rintro n _ w6 X6 ⟨i,vq,rfl,rfl,hi6,eX,h6,gX,P3,Ck⟩;have hs:=aj.ct eX.s.has;have Gh:=en.mv Ck ke.mv (Mv.sub fun k af=>(gX k af).1);have Gi:=h6.act.mono fun k e=>eX.bK k (.inr (.inl e));have ap:=h6.ap;have ovq:=h6.o4;rcases ew (fb ds wr) i with⟨dy,g,hx,hd⟩|⟨dV,hd⟩
     ·repeat' first|refine bD ?_;intros
      refine Bt Gh hx rfl kQ kQ fun bb oo ll AN qq=>?_;obtain⟨ES,rfl,I7⟩:=qq;have ovk:=I7.one;change Cells w6 X6 bb oo [I g.lE.id,I g.lE.gx,.float .f64 g.lE.lo,.float .f64 g.lE.hi,ES] at AN;repeat' first|refine aJ ?_;intros|(with_reducible apply IF);(case hX=>exact hs.has);(case he=>kernel_rfl);(case ho=>first|rfl|assumption);(case hk=>rfl);intro acc w X ao ho;obtain⟨_,_,_,rfl⟩:=ho.sl.form;replace hs:=hs.trans ao
      have kC:=eX.since ao;have Zx: ∀k,cF nb xb c.ab vm va vw vq k→X k:=fun k af=>ao.sub k (eX.bK k af);have h7:=h6.mv (K':=K4) (fun k af=>ao.kp.block k (eX.bK k af)) (ao.fZ fun k af=>(gX k af).1) h6.kd;have EU:FX K4 X w:=fun k af=>⟨ao.sub k (gX k af).1,ao.has k (ao.sub k (gX k af).1)⟩;have hl7:((((fb ds wr).take i).map (·.lE.id)).map I1).length≤40:=by simp;omega
      refine BH (bytes:=8) (h7.op.mono fun k e=>Zx k (.inr (.inr (.inr (.inr (.inr (.inr e))))))) kC.s.has (aF _) kQ ho.sl (fun r qp u hu=>?_) (by simp only [bu];omega) (by simp only [bu];omega) fun v8 w8 X8 c8 AO Zy=>?_
      ·rw [bw] at qp;subst qp;rw [bw] at hu;subst hu;rfl
      have afg:a7 w8 X8 xb (Cg { x with pre:=true,vq:=vq } vw) aT:=⟨c8.sub _ (Zx _ (.inr (.inl rfl))),(c8.block xb (Zx _ (.inr (.inl rfl))) fun e=>(ap.p _ e).2.1 rfl).trans h7.act.2⟩;have ov8:=AO.sl.one;obtain⟨t1,t2,t3,rfl⟩:=AO.sl.form;have FJ:=ao;clear hs ao ho Gi;repeat' first|refine aJ ?_;intros
      refine qu (o:=11) afg zQ kQ (by simp) rfl c8.has fun w9 X9 c9 wO=>?_;have cg:ez (fun k=>cY vq k∨k=xb) _ _ X9 w9:=(c8.mono fun k _ e=>.inl e).trans (c9.mono fun k _ e=>.inr e);have adu:=kf AO afg kQ;have ho9:Own w9 X9 0 3 1 (.slice t1 t2 t3) _:=tX AO fun g hg=>⟨c9.sub g (AO.2.2 g hg),c9.block g (AO.2.2 g hg) fun e=>adu (by rw [←e];exact hg)⟩;have EI:(((fb ds wr).take (i+1)).map (·.lE.id)).map I1=(((fb ds wr).take i).map (·.lE.id)).map I1++[[I g.lE.id]]:=by
       rw [cC,hx];simp
      have ed:=h7.step (c':=c) (x':= { x with pre:=true,vq:=.slice t1 t2 t3 }) (gr:=vm) (ia:=va) (fy:=vw) (jY:=.slice t1 t2 t3) (mV:=al) (kS:=rm) (uj:=ra) (oO:=rw) (uT:=ms) (uU:=[]) (Dr:=((fb ds wr).take (i+1)).map (·.lE.id)) Zx (fun k af=>(EU k af).1) kC.s.has (fun k=>cY vq k∨k=xb) cg (fun k af=>af.elim (fun e=>.inr (.inr (.inr (.inr (.inr (.inr e)))))) fun e=>.inr (.inl e)) rfl
       (.inl ⟨fun e=>e.elim (fun e=>(ap.p _ e).1 rfl) fun e=>ap.nx e,rfl⟩) (.inr wO) (.inl ⟨fun e=>e.elim (fun e=>(ap.p _ e).2.2.1 rfl) fun e=>ap.ax e,rfl⟩)
       (.inl ⟨fun g hg e=>e.elim (fun e=>(ap.m g hg).2.2.2.2.2 e) fun e=>(ap.m g hg).2.1 e,rfl,rfl⟩) (.inl ⟨fun g hg e=>e.elim (fun e=>(ap.a g hg).2.2.2.2.2 e) fun e=>(ap.a g hg).2.1 e,rfl,rfl⟩)
       (.inl ⟨fun g hg e=>e.elim (fun e=>(ap.w g hg).2.2.2.2.2 e) fun e=>(ap.w g hg).2.1 e,rfl,rfl⟩) (.inr ⟨by rw [EI];exact ho9,Zy⟩) h7.hm h7.hw h7.o1 h7.o2 h7.o3 ov8
      have lT:=kC.fM (F':=cF nb xb c.ab vm va vw (.slice t1 t2 t3)) cg (fun k af=>af.elim (fun e=>.inr (.inr (.inr (.inr (.inr (.inr e)))))) fun e=>.inr (.inl e)) ed.2;have Ed:Mv K4 w6 K4 w9:=fun k af amP=>by
       have h0:=FJ.kp.block k (gX k af).1;exact⟨af,(cg.block k (EU k af).1 fun e=>h7.kd k af (e.elim (fun e=>.inr (.inr (.inr (.inr (.inr (.inr e)))))) fun e=>.inr (.inl e))).trans h0⟩
      have hs:=aj.ct lT.s.has;repeat' first|refine aJ ?_;intros
      refine fh ((fb ds wr).length-(i+1)) zQ ⟨i+1,_,by simp,rfl,by omega,lT,ed.1,fun k af=>⟨cg.sub k (EU k af).1,lT.s.has k (cg.sub k (EU k af).1)⟩,P3.mv Ed,en.mv Ck ke.mv Ed⟩
     ·rw [bA dV] at h6;repeat' first|refine bD ?_;intros
      have L8:=h6.shut;have ahp: ∀k,(K4 k∨cY vq k)→X6 k∧k<w6.heap.size:=fun k af=>af.elim (gX k) fun e=>⟨eX.bK k (.inr (.inr (.inr (.inr (.inr (.inr e)))))),(h6.op.ge e).2⟩;have adv:FX (fun k=>K4 k∨cY vq k) X6 w6:=ahp;have Zz: ∀k,(K4 k∨cY vq k)→K k∨w0.heap.size≤k:=fun k af=>af.elim (ahm k) fun e=>(eX.v k (.inr (.inr (.inr (.inr (.inr (.inr e))))))).elim (fun e'=>(L8.kd k (.inr e) e').elim) .inr;have ZA:Sl w6 (fun k=>K4 k∨cY vq k) 4 vl ((dB wr).map KV.l):=P3.mono fun k e=>.inl e;have ZC:en w6 (fun k=>K4 k∨cY vq k) 5 vg ke.rd (fb ds wr):=en.mv Ck ke.mv (Mv.sub fun k e=>.inl e);have OE:Sl w6 (fun k=>K4 k∨cY vq k) 1 vq (((fb ds wr).map (·.lE.id)).map I1):=h6.op.sl.mono fun k e=>.inr e;have xE:Ft w0 (cF nb xb c.ab vm va vw aN) w6 X6 (cF nb xb c.ab vm va vw aN):=eX.less fun k af=>by
       rcases af with e|e|e|e|e|e|e
       ·exact .inl e
       ·exact .inr (.inl e)
       ·exact .inr (.inr (.inl e))
       ·exact .inr (.inr (.inr (.inl e)))
       ·exact .inr (.inr (.inr (.inr (.inl e))))
       ·exact .inr (.inr (.inr (.inr (.inr (.inl e)))))
       ·cases e
      have Gj: ∀k,K k→K4 k∨cY vq k:=fun k af=>.inl (ahn k af);generalize wN:(fun k=>K4 k∨cY vq k)=K5 at L8 adv ZA ZC OE;replace Zz: ∀k,K5 k→K k∨w0.heap.size≤k:=fun k af=>Zz k (by rw [←wN] at af;exact af);replace Gj: ∀k,K k→K5 k:=fun k af=>by rw [←wN];exact Gj k af
      obtain⟨q1,q2,q3,rfl⟩:=OE.form;have ahq:rw.length=0:=L8.hw.1;generalize adw:(fb ds wr).map (·.lE.id)=ids at OE;have I8:(lV ds wr).length=(fb ds wr).length:=by simp [lV]
      clear ahp eX h6 gX P3 Ck hs Gh Gi ap ovq ahm ahn;refine ahr (fun n a _ _ _ w X=> ∃(i:Nat) (gr fy:Value) (kS oO:List (List Value)) (K':XS),a=I (i:Nat)∧n=(fb ds wr).length-i∧i≤(fb ds wr).length∧Ft w0 (cF nb xb c.ab vm va vw aN) w X (cF nb xb c.ab gr va fy aN)∧(∀k,K k→K' k)∧(∀k,K' k→K k∨w0.heap.size≤k)∧FX K' X w∧
       fu w K' nb xb c { x with pre:=true,vq:=.slice q1 q2 q3 } gr va fy aN al kS ra oO (ms++((lV ds wr).take i).map (fun m=>(m.asked x).l9 (20+c.id))) (((lV ds wr).take i).map fun m=>m.asked x) []∧kS.length=rm.length+i∧oO.length=i∧
       Sl w K' 4 vl ((dB wr).map KV.l)∧en w K' 5 vg ke.rd (fb ds wr)∧Sl w K' 1 (.slice q1 q2 q3) (ids.map I1)) (fb ds wr).length ⟨0,vm,vw,rm,rw,K5,rfl,rfl,aF _,xE,Gj,Zz,adv,by simpa using L8,rfl,ahq,ZA,ZC,OE⟩ ?_
      clear xE L8 adv Zz ZA ZC OE Gj ahq hi6 dV hd;rintro n _ _ _ _ w6 X6 ⟨i,vm6,vw6,rm6,rw6,K6,rfl,rfl,hi6,eX,P4,P5,gX,h6,akY,akZ,P3,Ck,adx⟩;have hs:=aj.ct eX.s.has;have Gh:=en.mv Ck ke.mv (Mv.sub fun k af=>(gX k af).1);have Gi:=h6.act.mono fun k e=>eX.bK k (.inr (.inl e));have ovq:=h6.o4;have ovw:=h6.ow.sl.one;rcases ew (fb ds wr) i with⟨dy,g,hx,hd⟩|⟨dV,hd⟩
      ·repeat' first|refine bD ?_;intros
       refine Bt Gh hx rfl kQ kQ fun bb oo ll AN qq=>?_;obtain⟨ES,rfl,I7⟩:=qq;have ovk:=I7.one;change Cells w6 X6 bb oo [I g.lE.id,I g.lE.gx,.float .f64 g.lE.lo,.float .f64 g.lE.hi,ES] at AN;repeat' first|refine aJ ?_;intros
       refine dp (wj Gi (fun _ h=>h) hv) kQ hs.has ?_;rintro vr ER w7 X7 q7 PZ Eb gG;have hr7:Sl w7 X7 7 vr (([]:List jy).map jy.l):=(q7.mono Eb).sl;have ak0:Sl w7 X7 4 vl ((dB wr).map KV.l):=(P3.mono fun k af=>(gX k af).1).since gG;have ak1:=I7.since gG;clear hs;have hs:=aj.ct gG.has;repeat' first|refine aJ ?_;intros
       refine fN (fun n a b w X=>a=I 0∧b=(vI ids [] g).v aN aN aN (.slice q1 q2 q3) aN aN aN aN∧aj X7 w7 X w) 0 ⟨rfl,rfl,hs⟩ ?_;clear hs;rintro n _ _ w X ⟨rfl,rfl,hs⟩;repeat' first|refine aJ ?_;intros|refine dM ?_ ?_<;>intros|with_reducible apply dx|(exfalso;simp only [bI] at*;omega)
       refine fN (fun n a b w X=> ∃(j:Nat) (vb:Value),a=I (j:Nat)∧b=(vI ids [] g).v aN aN vb (.slice q1 q2 q3) aN aN aN aN∧n=(dB wr).length-j∧j≤(dB wr).length∧aj X7 w7 X w∧
        Own w X w7.heap.size 64 4 vb ((((dB wr).take j).filter fun w=>g.keys.any fun y=>decide (w.key=y)).map KV.l)) (dB wr).length ⟨0,aN,rfl,rfl,rfl,aF _,hs,Own.nil _ _ _ _ _⟩ ?_
       clear hs;rintro n _ _ w X ⟨j,vb,rfl,rfl,rfl,hj,hs,tj⟩;have ahj:=ak0.since hs;have ak2:=ak1.since hs;have ovb:=tj.sl.one;rcases ew (dB wr) j with⟨hlj,y,hy,TX⟩|⟨hgj,TX⟩
       ·repeat' first|refine bD ?_;intros|with_reducible apply dx
        refine fT (wc ak2) kQ hs.has (fun ady w8 X8 mh=>?_) (fun ady w8 X8 mh=>?_)
        ·have ak3:=tj.since mh;replace hs:=hs.trans mh;clear tj mh;repeat' first|refine aJ ?_;intros|(with_reducible apply FY);(case hX=>exact hs.has);(case he=>kernel_rfl);(case hk=>rfl);intro acc w X ao ho;obtain⟨_,_,_,rfl⟩:=ho.sl.form;replace hs:=hs.trans ao
         have hlen:((((dB wr).take j).filter fun w=>g.keys.any fun y=>decide (w.key=y)).map KV.l).length≤40:=by
          have:=sS (fun w:KV=>g.keys.any fun y=>decide (w.key=y)) ((dB wr).take j);rw [aH];rw [List.length_take] at this;omega
         refine qQ (ak3.since ao) hs gG.has kQ ho.sl (fun r qp u hu=>?_) (by simp only [bu];omega) (by simp only [bu];omega) fun v' w' X' wM uI c' ef=>?_
         ·rw [bw] at qp;subst qp;simp only [List.mem_cons,List.not_mem_nil,or_false] at hu;rcases hu with rfl|rfl|rfl|rfl<;>rfl
         clear hs;have hs:=aj.ct wM.has;have ov':=uI.sl.one;repeat' first|refine aJ ?_;intros
         exact fJ ((dB wr).length-(j+1)) zQ ⟨j+1,v',by simp,rfl,rfl,by omega,wM,by rw [cC,hy,fj,ql,bC,cV,if_pos ady];exact uI⟩
        ·repeat' first|refine aJ ?_;intros
         exact fJ ((dB wr).length-(j+1)) zQ ⟨j+1,vb,by simp,rfl,rfl,by omega,hs.trans mh,by rw [cC,hy,fj,ql,bC,cV,if_neg (by rw [ady];simp)];simpa using tj.since mh⟩
       ·rw [bA hgj] at tj;repeat' first|refine bD ?_;intros
        have yE:=gG.trans hs;have od:=eX.since yE;have h8:=h6.since (eX.fx fun _ h=>h) gX yE (cY vb) fun k e=>by have:=(tj.ge e).1;have:=gG.kp.size;omega
        have LZ:FX (fun k=>K6 k∨cY vb k) X w:=fun k af=>af.elim (fun e=>⟨yE.sub k (gX k e).1,yE.has k (yE.sub k (gX k e).1)⟩) fun e=>⟨tj.2.2 k e,(tj.ge e).2⟩;have hm8:(vI ids (dB wr) g).at w (fun k=>K6 k∨cY vb k) aN aN vb (.slice q1 q2 q3) aN aN aN aN:=
         ⟨Sl.nil _ _ _,Sl.nil _ _ _,(tg tj fun k e=>.inr e).sl,adx.mv fun k af _=>⟨.inl af,yE.kp.block k (gX k af).1⟩,Sl.nil _ _ _,en.nil _ _ _,en.nil _ _ _,en.nil _ _ _⟩
        have ak4:ids.length≤40:=by rw [←adw,aH];exact fe
        have iO:((dB wr).filter fun w=>g.keys.any fun y=>decide (w.key=y)).length≤40:=ah (sS _ _) tt;have hf8:(vI ids (dB wr) g).few:=⟨by simp [vI,uE],by simp [vI,uE],ah iO (by decide),ah ak4 (by decide)⟩;refine od.call (LY (m:=vI ids (dB wr) g) h8 (od.fx fun _ h=>h) LZ hm8 hf8 hi zQ zQ) kQ (fun _ h=>h) fun v C7 w9 X9 L9 ZD I9 lT c9=>?_;obtain⟨vm9,vw9,rm9,rw9,K9,hC9,Ja,Gk,h9,wO,ak5⟩:=L9;have tw:=lT.less hC9;have Ed:Mv K6 w6 K9 w9:=fun k af _=>⟨Gk k (.inl af),(c9.block k (LZ k (.inl af)).1 (h8.kd k (.inl af))).trans (yE.kp.block k (gX k af).1)⟩;have hpx:(lV ds wr)[i]? =some (vI ids (dB wr) g):=by unfold lV;rw [List.getElem?_map,hx,adw];rfl
        have hz8:=od.s.kp.size;have hz7:=gG.kp.size;clear hs;have hs:=aj.ct tw.s.has;repeat' first|refine aJ ?_;intros
        exact ahs ((fb ds wr).length-(i+1)) zQ ⟨i+1,vm9,vw9,rm9,rw9,K9,by simp,rfl,by omega,tw,fun k af=>Gk k (.inl (P4 k af)),fun k af=>by
          rcases Ja k af with(e|e)|e
          ·exact P5 k e
          ·right;have:=(tj.ge e).1;have:=eX.s.kp.size;omega
          ·right;have:=e.1;omega,
         fun k af=>⟨(Ja k af).elim (fun e=>c9.sub k (LZ k e).1) (I9 k),by
          rcases Ja k af with e|e
          ·exact tw.s.has k (c9.sub k (LZ k e).1)
          ·exact e.2⟩,
         by rw [cC,hpx];simp only [fj,bC,bV,List.map_nil,←List.append_assoc];exact h9,by omega,by omega,P3.mv Ed,en.mv Ck ke.mv Ed,adx.mv Ed⟩
      ·rw [bA zQ] at h6;repeat' first|refine bD ?_;intros
       exact eX.fin fun wa bk=>⟨_,vm6,va,vw6,K6,al,rm6,ra,rw6,_,_,eX.gU bk fun _ h=>h,fun k af=>(P5 k af).imp id fun e=>⟨e,aG (gX k af).2 bk.size⟩,P4,
        h6.mv (fun k af=>bk.block k (eX.bK k af)) (bk.fi fun k af=>(gX k af).1) h6.kd,rfl,.inr ⟨wr,_,ajx,rfl,by rw [adw];exact adx.mv (bk.fi fun k af=>(gX k af).1),rfl,rfl,rfl,rfl,rfl⟩⟩
end
theorem ZE {w:World} {X:XS} {cb:Nat} {c:cw} {eh:Int} (h:a7 w X cb (kz c) kL) (hl:c.ep<2^60) (IA: -(2^60)<c.ep):
  Ct pg 86 #[ptr cb 0,I eh] w X (· =cb) fun v _ w'=>v= .tuple #[(c.qK eh).1.v,I (c.qK eh).2]∧a7 w' (· =cb) cb (kz (if(c.qK eh).2=0 then(c.qK eh).1 else c)) kL:=by
 intro w0 hk;have hF:FX (· =cb) X w:=fun k af=>by subst af;exact⟨h.1,h.lt⟩
 have hT:=hF.ft hk;replace h:=h.mv hk.dD;apply MX;unfold Cl;refine gC (Zf h hl IA) kQ (fun _ h=>h) fun w1 X1 ao=>?_;generalize c.qK eh=q;obtain⟨s,e⟩:=q;replace h:=h.since ao;have dU:Ft w0 (· =cb) w1 X1 (· =cb):=⟨hT.s.trans ao,fun k af=>by subst af;exact h.1,fun k af=>.inl af⟩;by_cases he:e=0
 ·repeat' first|refine bD ?_;intros|with_reducible apply dx
  refine FO (o:=0) h zQ kQ (by simp) rfl rfl dU.s.has fun w2 X2 c2 qU=>?_;have cW:=dU.fM (F':=(· =cb)) c2 (fun k af=>af) fun k af=>.inl af;repeat' first|refine aJ ?_;intros
  exact cW.fin fun wa bk=>⟨rfl,by rw [if_pos he];exact(qU.kp bk).own⟩
 ·repeat' first|refine bD ?_;intros|with_reducible apply dx
  exact dU.fin fun wa bk=>⟨rfl,by rw [if_neg he];exact(h.kp bk).own⟩
def mC (p:List fw) (ck:cw) (eh:Int) (ds:gJ):Int:=if iM p≠0 then iM p else if(ck.qK eh).2≠0 then(ck.qK eh).2 else(gp ds [] (dW 1 1 p)).2
theorem ZF {a b:Int} {p:List fw} (h:p.length≤40): ∀k∈dW a b p,k.size≤24:=fun k hk=>by
 obtain⟨y,hy,rfl⟩:=List.mem_map.1 ((kI _).mem_iff.1 hk);exact((Cb p [] 0 kh (fun x hx=>by cases hx) (Nat.le_refl _)).2.1 y hy).2.2
theorem Du {a b:Int} {p:List fw} :(dW a b p).length≤p.length:=by
 unfold dW;rw [(kI _).length_eq,aH];have:=(Cb p [] 0 (a:=a) (b:=b) kh (fun x hx=>by cases hx) (Nat.le_refl _)).2.2;omega
section
variable {w w' wa : World} {X X' K K' Y : XS} {nb xb mb cb : Nat} {c : ph} {x : oN} {vm va vw dZ gr ia fy jY : Value} {al : List (dc × Nat)} {rm ra rw : List (List Value)} {ms ws : List dF} {ps : List Int} {ds : gJ} {ck : cw}
theorem fu.Bu (h:fu w K nb xb c x vm va vw dZ al rm ra rw ms ws ps) (hc:a7 w Y cb (kz ck) kL): ¬cF nb xb c.ab vm va vw dZ cb:=fun hf=>by
 rcases hf with e|e|e|e|e|e|e
 ·exact IU hc h.row kQ e
 ·exact IU hc h.act kQ e
 ·exact h.am.eA hc e.symm
 ·exact kf h.om hc kQ e
 ·exact kf h.oa hc kQ e
 ·exact kf h.ow hc kQ e
 ·exact kf h.op hc kQ e
structure ak6 (nb xb cb:Nat) (c:ph) (x:oN) (vm va vw:Value) (K:XS) (al:List (dc×Nat)) (rm ra rw:List (List Value)) (ms ws:List dF) (p:List fw) (ck:cw) (eh:Int) (ds:gJ) (v:Value) (wa w':World):Prop where
 res: ∃vg,v= .tuple #[vg,I (mC p ck eh ds)]∧aV.one vg=true∧(mC p ck eh ds=0→en w' (made wa w') 5 vg ke.rd (jX ds (gp ds [] (dW 1 1 p)).1))
 UI: ∃uk,a7 w' (· =cb) cb (kz uk) kL∧(mC p ck eh ds=0→uk=(ck.qK eh).1)
 mid: ∃st,fu w' K nb xb c { x with st:=st } vm va vw aN al rm ra rw ms ws []∧(mC p ck eh ds=0→st=(ck.qK eh).1)
theorem SG {p:List fw} {eh:Int} (h:fu w K nb xb c x vm va vw aN al rm ra rw ms ws []) (hC:FX (cF nb xb c.ab vm va vw aN) X w) (hK:FX K X w) (RU:c.cb=cb) (hk:a7 w X cb (kz ck) kL) (hkK: ¬K cb) (hl:ck.ep<2^60) (IA: -(2^60)<ck.ep)
  (I4:Sl w K 5 x.vp (p.map fw.l)) (hd:gN w K c.Aq mb ds) (hW: ∀(i:Int) (r:dq),getM i ds=some r→r.id=i):
  Ct pg 33 #[ptr nb 0,I eh,ptr xb 0] w X (fun k=>k=xb∨k=cb) fun v wa w'=>ak6 nb xb cb c x vm va vw K al rm ra rw ms ws p ck eh ds v wa w':=by
 intro w0 Ma;subst RU;have hF:FX (fun k=>k=xb∨k=c.cb) X w:=fun k af=>by
  rcases af with e|e<;>subst e
  ·exact hC _ (.inr (.inl rfl))
  ·exact⟨hk.1,hk.lt⟩
 have hT:=hF.ft Ma;have oe:Mv K w K w0:=Ma.fi fun k af=>(hK k af).1;replace h:=h.mv (fun k af=>Ma.block k (hC k af).1) oe h.kd;replace I4:=I4.mv oe;replace hd:=hd.mv oe;replace hk:=hk.mv Ma.dD;have kT:=hC.kp Ma;have jz:=hK.kp Ma;have jl:=h.act.mono fun k e=>(kT k (.inr (.inl e))).1;have bJ:=h.row.mono fun k e=>(kT k (.inl e)).1;have MY:=h.Bu hk;have aht:=I4.mv (Mv.sub fun k af=>(jz k af).1);have hs:=aj.init w0;clear hC hK oe Ma hF;apply HT;unfold yF;repeat' first|refine aJ ?_;intros
 refine gC (Cc aht) kQ hs.has fun w1 X1 ao=>?_;have dU:=hT.since ao;have h1:=h.mv (K':=K) (fun k af=>ao.kp.block k (kT k af).1) (ao.fZ fun k af=>(jz k af).1) h.kd;have wL:FX (cF nb xb c.ab vm va vw aN) X1 w1:=h.UF ao kT;have kU:FX K X1 w1:=fun k af=>⟨ao.sub k (jz k af).1,ao.has k (ao.sub k (jz k af).1)⟩;have pj:=hk.since ao;have UH:=I4.mv (ao.fZ fun k af=>(jz k af).1);have EV:=hd.mv (ao.fZ fun k af=>(jz k af).1);have ml:=bJ.since ao;have xB:=jl.since ao;clear hs jl bJ I4 hd h hT hk aht kT jz;have hs:=aj.ct ao.has;clear ao;by_cases Ci:iM p≠0
 ·have zR:mC p ck eh ds=iM p:=by unfold mC;rw [if_pos Ci]
  repeat' first|refine bD ?_;intros
  exact dU.fin fun wa bk=>⟨⟨aN,by rw [zR],rfl,fun e=>absurd (zR.symm.trans e) Ci⟩,⟨ck,(pj.kp bk).own,fun e=>absurd (zR.symm.trans e) Ci⟩,⟨x.st,h1.mv (fun k af=>bk.block k (wL k af).1) (bk.fi fun k af=>(kU k af).1) h1.kd,fun e=>absurd (zR.symm.trans e) Ci⟩⟩
 ·have ak7:iM p=0:=by omega
  repeat' first|refine bD ?_;intros
  refine dU.call (ZE (eh:=eh) pj hl IA) kQ (fun k e=>.inr e) fun v zF w2 X2 hq qI nV cW c2=>?_;obtain⟨rfl,xD⟩:=hq;have qV:Ft w0 _ w2 X2 (fun k=>k=xb∨k=c.cb):=cW.less fun k e=>.inl e;have h2:=h1.mv (w':=w2) (K':=K) (fun k af=>c2.block k (wL k af).1 fun e=>MY (by rw [←e];exact af)) (fun k af _=>⟨af,c2.block k (kU k af).1 fun e=>hkK (by rw [←e];exact af)⟩) h1.kd;have rW:FX (cF nb xb c.ab vm va vw aN) X2 w2:=fun k af=>⟨c2.sub k (wL k af).1,c2.has k (c2.sub k (wL k af).1)⟩;have mB:FX K X2 w2:=fun k af=>⟨c2.sub k (kU k af).1,c2.has k (c2.sub k (kU k af).1)⟩;have P6:Mv K w1 K w2:=fun k af _=>⟨af,c2.block k (kU k af).1 fun e=>hkK (by rw [←e];exact af)⟩;have ahu:=UH.mv P6;have nR:=EV.mv P6;have OF:=h2.act.mono fun k e=>(rW k (.inr (.inl e))).1;have Dv:=h2.row.mono fun k e=>(rW k (.inl e)).1;have ZG:X2 c.cb:=c2.sub _ pj.1;clear hs xB ml UH EV h1 dU pj wL kU cW c2 P6;have hs:=aj.ct qV.s.has;by_cases zS:(ck.qK eh).2≠0
  ·have zR:mC p ck eh ds=(ck.qK eh).2:=by unfold mC;rw [if_neg Ci,if_pos zS]
   repeat' first|refine bD ?_;intros
   exact qV.fin fun wa bk=>⟨⟨aN,by rw [zR],rfl,fun e=>absurd (zR.symm.trans e) zS⟩,⟨_,xD.mv fun k af _=>⟨af,by rw [af];exact bk.block _ ZG⟩,fun e=>absurd (zR.symm.trans e) zS⟩,⟨x.st,h2.mv (fun k af=>bk.block k (rW k af).1) (bk.fi fun k af=>(mB k af).1) h2.kd,fun e=>absurd (zR.symm.trans e) zS⟩⟩
  ·have ak8:(ck.qK eh).2=0:=by omega
   rw [if_pos ak8] at xD;generalize ahv:(ck.qK eh).1=s at xD;repeat' first|refine bD ?_;intros
   refine FO (o:=4) OF zQ kQ (by simp) rfl rfl qV.s.has fun w3 X3 c3 sT=>?_;have ap:=h2.ap;have ed:=h2.step (c':=c) (x':= { x with st:=s }) (gr:=vm) (ia:=va) (fy:=vw) (jY:=aN) (mV:=al) (kS:=rm) (uj:=ra) (oO:=rw) (uT:=ms) (uU:=ws) (Dr:=[]) (fun k af=>(rW k af).1) (fun k af=>(mB k af).1) qV.s.has (fun k=>k=xb) c3 (fun k af=>.inr (.inl af)) rfl
    (.inl ⟨fun e=>ap.nx e,rfl⟩) (.inr sT) (.inl ⟨fun e=>ap.ax e,rfl⟩) (.inl ⟨fun g hg e=>(ap.m g hg).2.1 e,rfl,rfl⟩) (.inl ⟨fun g hg e=>(ap.a g hg).2.1 e,rfl,rfl⟩) (.inl ⟨fun g hg e=>(ap.w g hg).2.1 e,rfl,rfl⟩) (.inl ⟨fun g hg e=>(ap.p g hg).2.1 e,rfl,rfl⟩) h2.hm h2.hw h2.o1 h2.o2 h2.o3 h2.o4
   have h3:=ed.1;have dE:=qV.fM (F':=fun k=>k=xb∨k=c.cb) c3 (fun k e=>.inl e) fun k e=>.inl e;have AT:FX (cF nb xb c.ab vm va vw aN) X3 w3:=fun k af=>⟨c3.sub k (rW k af).1,c3.has k (c3.sub k (rW k af).1)⟩;have kV:FX K X3 w3:=fun k af=>⟨c3.sub k (mB k af).1,c3.has k (c3.sub k (mB k af).1)⟩;have adz:Mv K w2 K w3:=fun k af _=>⟨af,c3.block k (mB k af).1 fun e=>h2.kd k af (.inr (.inl e))⟩;have P7:=ahu.mv adz;have L6:=nR.mv adz;have hk3:a7 w3 (· =c.cb) c.cb (kz s) kL:=xD.mv fun k af _=>⟨af,by rw [af];exact c3.block _ ZG fun e=>IU xD h2.act kQ e⟩;have ahw:X3 c.cb:=c3.sub _ ZG;have OG:=h3.act.mono fun k e=>(AT k (.inr (.inl e))).1;have Dt:=h3.row.mono fun k e=>(AT k (.inl e)).1;clear hs OF Dv ahu nR h2 qV xD rW mB c3 sT ed adz ZG;have hs:=aj.ct dE.s.has;repeat' first|refine aJ ?_;intros
   have I8:=(zP ak7).1;refine dp (tp (P7.mv (Mv.sub fun k af=>(kV k af).1)) zQ) kQ hs.has ?_;rintro vk mu w4 X4 q4 qg lI fq;refine dp (LQ ((L6.mv (Mv.sub fun k af=>(kV k af).1)).mv fq.mv) hW (q4.mono lI).sl (by have:=Du (a:=1) (b:=1) (p:=p);omega) fun k af=>by have:=ZF (a:=1) (b:=1) I8 k af;omega) kQ fq.has ?_;rintro v5 Ys w5 X5 q5 P8 Jb ti;have Gl:=fq.trans ti;have ff:=dE.since Gl;have h5:=h3.mv (K':=K) (fun k af=>Gl.kp.block k (AT k af).1) (Gl.fZ fun k af=>(kV k af).1) h3.kd;have hC5:=h3.UF Gl AT;have Hw:FX K X5 w5:=fun k af=>⟨Gl.sub k (kV k af).1,Gl.has k (Gl.sub k (kV k af).1)⟩;have hk5:a7 w5 (· =c.cb) c.cb (kz s) kL:=hk3.mv fun k af _=>⟨af,by rw [af];exact Gl.kp.block _ ahw⟩;have ak9:X5 c.cb:=Gl.sub _ ahw;have zR:mC p ck eh ds=(gp ds [] (dW 1 1 p)).2:=by unfold mC;rw [if_neg Ci,if_neg zS]
   have hz3:=dE.s.kp.size;have hz4:=fq.kp.size;clear hs;have hs:=aj.ct ff.s.has;have oc: ∀{wa:World},Kp X5 w5 wa→(∃uk,a7 wa (· =c.cb) c.cb (kz uk) kL∧(mC p ck eh ds=0→uk=(ck.qK eh).1))∧ ∃st,fu wa K nb xb c { x with st:=st } vm va vw aN al rm ra rw ms ws []∧(mC p ck eh ds=0→st=(ck.qK eh).1):=fun {wa} bk=>
    ⟨⟨s,hk5.mv fun k af _=>⟨af,by rw [af];exact bk.block _ ak9⟩,fun _=>ahv.symm⟩,⟨s,h5.mv (fun k af=>bk.block k (hC5 k af).1) (bk.fi fun k af=>(Hw k af).1) h5.kd,fun _=>ahv.symm⟩⟩
   by_cases he:(gp ds [] (dW 1 1 p)).2≠0
   ·rw [if_pos he] at q5;subst q5;repeat' first|refine aJ ?_;intros
    exact ff.fin fun wa bk=>⟨⟨aN,by rw [zR],rfl,fun e=>absurd (zR.symm.trans e) he⟩,(oc bk).1,(oc bk).2⟩
   ·rw [if_neg he] at q5;obtain⟨vg,rfl,L7⟩:=q5;have ovg:=en.one L7;have yG:(gp ds [] (dW 1 1 p)).2=0:=by omega
    repeat' first|refine aJ ?_;intros
    exact ff.fin fun wa bk=>⟨⟨vg,by rw [zR,yG],ovg,fun _=>en.mv L7 ke.mv fun k af _=>⟨⟨by have:=af.1;omega,aG af.2 bk.size⟩,bk.block k (Jb k af)⟩⟩,(oc bk).1,(oc bk).2⟩
end
end Go.Proofs.YtbpnemeooenpmaaGreat
namespace Go.Proofs.YtbpnemeooenpmaaGreat
open Go.Proofs.Tryz renaming prog → pg
open Go.aV
theorem Yt {r:dq} {x:Nat} :dq.tf r x=true↔(BZ x r.lo=true∨jI x r.lo=true)∧j9 x r.hi=true:=by
 simp [dq.tf]
def Jc:Nat→List dq→Prop
 |_,[]=>True
 |a,r::l=>jI r.lo a=true∧j9 r.lo r.hi=true∧Jc r.hi l
theorem Jd {l:List dq} (hm: ∀r∈l,r.may=true): ∀{n a:Nat} {u:Int},xq l n a u=0→ ∃v:List dq,(v.length:Int)=l.length-u∧(∀r∈v,r∈l)∧Jc a v
 |0,a,u,h=>by simp [xq] at h
 |n+1,a,u,h=>by
  unfold xq at h;split at h
  ·split at h
   ·rename_i h1 h2;obtain⟨v,h3,h4,h5⟩:=Jd hm h;obtain⟨r,hr,e1,e2⟩:=FR a l (0,0) h2;have e2:(B0 l a).1=r.hi:=e2;have h6:j9 r.lo r.hi=true:=by have:=hm r hr;unfold dq.may at this;simp only [Bool.and_eq_true] at this;exact this.2
    refine⟨r::v,by rw [bh];omega,fun x hx=>?_,e1,h6,by rw [←e2];exact h5⟩;rcases List.mem_cons.1 hx with rfl|hx
    ·exact hr
    ·exact h4 x hx
   ·omega
  ·split at h
   ·exact⟨[],by simp;omega,fun r hr=>(by cases hr),trivial⟩
   ·omega
theorem Je: ∀{v:List dq} {a:Nat},Jc a v→ ∀{r:dq},r∈v→jI r.lo a=true∨j9 a r.lo=true
 |[],_,_,r,h=>by cases h
 |q::v,a,h,r,hr=>by
  rcases List.mem_cons.1 hr with rfl|hr
  ·exact .inl h.1
  ·have h3:j9 a q.hi=true:=KL (wF h.1) h.2.1;rcases Je h.2.2 hr with e|e
   ·exact .inr (KK h3 (wF e))
   ·exact .inr (zG h3 e)
theorem lo_le {r:dq} {x:Nat} (h:dq.tf r x=true) {a:Nat} (ha:jI r.lo a=true∨j9 a r.lo=true):jI x a=true∨j9 a x=true:=by
 rw [Yt] at h;rcases h.1 with e|e
 ·have:=afJ e;rcases ha with q|q
  ·exact .inr (KL (wF q) this)
  ·exact .inr (zG q this)
 ·rcases ha with q|q
  ·exact .inl (abn e q)
  ·exact .inr (KK q (wF e))
theorem OH: ∀{v:List dq} {a:Nat},Jc a v→ ∀{r q:dq} {x:Nat},r∈v→q∈v→dq.tf r x=true→dq.tf q x=true→r=q
 |[],_,_,r,_,_,h,_,_,_=>by cases h
 |p::v,a,h,r,q,x,hr,hq,h1,h2=>by
  have key: ∀{s:dq},s∈v→dq.tf s x=true→dq.tf p x=true→False:=fun {s} hs h3 h4=>by
   have h5:=(Yt.1 h4).2;rcases lo_le h3 (Je h.2.2 hs)with e|e
   ·have:=KL (wF e) h5;rw [xp] at this;cases this
   ·have:=zG e h5;rw [xp] at this;cases this
  rcases List.mem_cons.1 hr with e1|m1
  ·rcases List.mem_cons.1 hq with e2|m2
   ·rw [e1,e2]
   ·exact(key m2 h2 (e1▸h1)).elim
  ·rcases List.mem_cons.1 hq with e2|m2
   ·exact(key m1 h1 (e2▸h2)).elim
   ·exact OH h.2.2 m1 m2 h1 h2
theorem Jf: ∀{v:List dq} {a:Nat},Jc a v→v.Nodup
 |[],_,_=>kh
 |p::v,a,h=>by
  refine List.nodup_cons.2 ⟨fun hp=>?_,Jf h.2.2⟩;rcases Je h.2.2 hp with e|e
  ·have:=KK h.2.1 (wF e);rw [xp] at this;cases this
  ·have:=zG h.2.1 e;rw [xp] at this;cases this
theorem Yu {α:Type} [DecidableEq α]: ∀{v l:List α},v.Nodup→(∀x∈v,x∈l)→l.length≤v.length→ ∀y∈l,y∈v
 |[],l,_,_,h,y,hy=>by
  have:l=[]:=List.length_eq_zero_iff.1 (by simpa using h);subst this;cases hy
 |a::v,l,hn,hs,h,y,hy=>by
  by_cases e:y=a
  ·exact e▸List.mem_cons_self ..
  ·have jf:=List.nodup_cons.1 hn;have ha:=hs a (by simp);refine bz _ (Yu (l:=l.erase a) jf.2 (fun x hx=>?_) ?_ y ?_)
   ·exact(tv fun e=>by subst e;exact jf.1 hx).2 (hs x (bz _ hx))
   ·rw [List.length_erase_of_mem ha];simp only [bh] at h;omega
   ·exact(tv e).2 hy
structure Bv (l:List dq):Prop where
 may: ∀r∈l,r.may=true
 ids:l.Pairwise fun x y=>x.id≠y.id
 aV.one: ∀{r q:dq} {x:Nat},r∈l→q∈l→dq.tf r x=true→dq.tf q x=true→r=q
theorem Cm {l:List dq} (h:qP l=0):Bv l:=by
 unfold qP at h;split at h
 ·omega
 split at h
 ·omega
 split at h
 ·rename_i hb;exact absurd h hb
 rename_i hb;have AK:B1 [] l=0:=by
  rcases wh (B1 [] l=0)with e|e
  ·exact e
  ·exact absurd e hb
 have hm:=MH AK;obtain⟨v,h1,h2,h3⟩:=Jd hm.1 h;have Am:=Yu (Jf h3) h2 zQ;exact⟨hm.1,hm.2.2,fun hr hq h4 h5=>OH h3 (Am _ hr) (Am _ hq) h4 h5⟩
theorem RV: ∀{l:List dq} {ds:gJ},(∀r∈l,r.may=true)→(l.Pairwise fun x y=>x.id≠y.id)→(∀r∈l,getM r.id ds=none)→ ∀i r,getM i (l.foldl eH ds)=some r↔(getM i ds=some r∨(r∈l∧r.id=i))
 |[],ds,_,_,_,i,r=>by simp
 |q::l,ds,hm,hp,hn,i,r=>by
  have UJ:=List.pairwise_cons.1 hp;have e:eH ds q=dS q.id q ds:=by
   unfold eH;rw [if_pos (hm q (by simp)),hn q (by simp)]
  rw [List.foldl_cons,e];rw [RV (fun x hx=>hm x (bz _ hx)) UJ.2 (fun x hx=>by
   rw [Cn (fun e=>UJ.1 x hx e.symm)];exact hn x (bz _ hx)) i r]
  by_cases hi:i=q.id
  ·subst hi;rw [za,hn q (by simp)];constructor
   ·rintro(h|⟨h,h'⟩)
    ·cases h;exact .inr ⟨by simp,rfl⟩
    ·exact .inr ⟨bz _ h,h'⟩
   ·rintro(h|⟨h,h'⟩)
    ·cases h
    ·rcases List.mem_cons.1 h with rfl|h
     ·exact .inl rfl
     ·exact absurd h' fun e=>UJ.1 r h e.symm
  ·rw [Cn hi];constructor
   ·rintro(h|⟨h,h'⟩)
    ·exact .inl h
    ·exact .inr ⟨bz _ h,h'⟩
   ·rintro(h|⟨h,h'⟩)
    ·exact .inl h
    ·rcases List.mem_cons.1 h with rfl|h
     ·exact absurd h'.symm hi
     ·exact .inr ⟨h,h'⟩
theorem Yv {l:List dq} (h:Bv l) (i:Int) (r:dq):getM i (l.foldl eH [])=some r↔(r∈l∧r.id=i):=by
 rw [RV h.may h.ids (fun r hr=>rfl) i r];simp [getM]
def findF (l:List dq) (x:Nat):Option dq:=l.find? fun r=>dq.tf r x
theorem ZH {l:List dq} (h:Bv l) {k:BA} {r:dq} (hr:iX (l.foldl eH []) k=some r):findF l (placeOf k)=some r:=by
 obtain⟨j,_,_,h3,h4⟩:=D7 hr;have h5:=(Yv h j r).1 h3;cases hf:findF l (placeOf k)with
 |none=>
  have:=List.find?_eq_none.1 hf r h5.1;exact absurd h4 this
 |some q=>
  have h6:=List.find?_some hf;have h7:=List.mem_of_find?_eq_some hf;rw [h.one h7 h5.1 h6 h4]
abbrev Co:=List (Int×List BA)
theorem ze {k:BA} {l:List BA} :l.any (fun x=>decide (k=x))=true↔k∈l:=by
 rw [List.any_eq_true];constructor
 ·rintro⟨x,h1,h2⟩;rw [of_decide_eq_true h2];exact h1
 ·exact fun h=>⟨k,h,by simp⟩
def Gm (g:Int) (k:BA) (m:Co):Co:=if((getM g m).getD []).any (fun x=>decide (k=x))then m else dS g (((getM g m).getD [])++[k]) m
theorem RW {ds:gJ} {m:Co} {k:BA} {r:List BA} (h:(gp ds m (k::r)).2=0): ∃g,iX ds k=some g∧gp ds m (k::r)=gp ds (Gm g.id k m) r:=by
 rw [gp] at h;by_cases hg:gn k=true
 ·rw [if_pos hg] at h;cases hr:iX ds k with
  |none=>rw [hr] at h;simp at h
  |some g=>
   refine⟨g,rfl,?_⟩;rw [gp,if_pos hg,hr];rfl
 ·rw [if_neg hg] at h;simp at h
theorem UK {g:Int} {k:BA} {m:Co} (id:Int) (y:BA):y∈(getM id (Gm g k m)).getD []↔(y∈(getM id m).getD []∨(y=k∧g=id)):=by
 unfold Gm;split
 ·rename_i h;rw [ze] at h;constructor
  ·exact .inl
  ·rintro(h1|⟨rfl,rfl⟩)
   ·exact h1
   ·exact h
 ·by_cases e:id=g
  ·subst e;rw [za];simp
  ·rw [Cn e];constructor
   ·exact .inl
   ·rintro(h1|⟨_,h2⟩)
    ·exact h1
    ·exact absurd h2.symm e
theorem ZI {g:Int} {k:BA} {m:Co} (h:(m.map (·.1)).Nodup):((Gm g k m).map (·.1)).Nodup:=by
 unfold Gm;split
 ·exact h
 ·exact F8 h
theorem abK {g:Int} {k:BA} {m:Co} (hn:(m.map (·.1)).Nodup) (h: ∀e∈m,e.2≠[]): ∀e∈Gm g k m,e.2≠[]:=by
 unfold Gm;split
 ·exact h
 ·intro e he;rcases jt hn he with rfl|⟨h1,_⟩
  ·simp
  ·exact h e h1
theorem adA {g:Int} {k:BA} {m:Co} (h:k ∉ (getM g m).getD []):sx ai (Gm g k m)=sx ai m+1:=by
 unfold Gm;rw [if_neg (fun e=>h (ze.1 e))];cases hg:getM g m with
 |none=>rw [UL hg];simp
 |some l=>
  have:=UM (f:=ai) (a:=l++[k]) hg;simp only [Option.getD_some,List.length_append,bh,bI] at this⊢;omega
structure ala (ds:gJ) (m m':Co) (keys:List BA):Prop where
 rt: ∀k∈keys,∃r,iX ds k=some r
 mem: ∀id k,(k∈(getM id m').getD []↔(k∈(getM id m).getD []∨(k∈keys∧ ∃r,iX ds k=some r∧r.id=id)))
 nd:(m'.map (·.1)).Nodup
 full: ∀e∈m',e.2≠[]
theorem P9 {ds:gJ} : ∀{keys:List BA} {m:Co},(m.map (·.1)).Nodup→(∀e∈m,e.2≠[])→(gp ds m keys).2=0→ala ds m (gp ds m keys).1 keys
 |[],m,hn,hf,_=>⟨fun k hk=>(by cases hk),fun id k=>by simp [gp],hn,hf⟩
 |k::r,m,hn,hf,h=>by
  obtain⟨g,h1,h2⟩:=RW h;rw [h2] at h⊢;have ih:=P9 (ZI (g:=g.id) (k:=k) hn) (abK hn hf) h;refine⟨fun y hy=>?_,fun id y=>?_,ih.nd,ih.full⟩
  ·rcases List.mem_cons.1 hy with rfl|hy
   ·exact⟨g,h1⟩
   ·exact ih.rt y hy
  ·rw [ih.mem id y,UK];constructor
   ·rintro((h3|⟨rfl,h4⟩)|⟨h3,h4⟩)
    ·exact .inl h3
    ·exact .inr ⟨by simp,g,h1,h4⟩
    ·exact .inr ⟨bz _ h3,h4⟩
   ·rintro(h3|⟨h3,q,h4,h5⟩)
    ·exact .inl (.inl h3)
    ·rcases List.mem_cons.1 h3 with rfl|h3
     ·rw [h1] at h4;cases h4;exact .inl (.inr ⟨rfl,h5⟩)
     ·exact .inr ⟨h3,q,h4,h5⟩
theorem UN {ds:gJ} : ∀{keys:List BA} {m:Co},keys.Nodup→(∀id,∀k∈keys,k ∉ (getM id m).getD [])→(gp ds m keys).2=0→sx ai (gp ds m keys).1=sx ai m+keys.length
 |[],m,_,_,_=>by simp [gp]
 |k::r,m,hn,hm,h=>by
  obtain⟨g,h1,h2⟩:=RW h;rw [h2] at h⊢;have jf:=List.nodup_cons.1 hn;rw [UN jf.2 (fun id y hy nr=>?_) h,adA (hm _ k (by simp)),bh]
  ·omega
  ·rcases(UK id y).1 nr with h3|⟨rfl,_⟩
   ·exact hm id y (bz _ hy) h3
   ·exact jf.1 hy
structure abL (ds:gJ) (keys:List BA) (gs:List ke):Prop where
 rt: ∀k∈keys,∃g∈gs,k∈g.keys∧iX ds k=some g.lE
 own: ∀g∈gs,∀k∈g.keys,k∈keys∧iX ds k=some g.lE
 full: ∀g∈gs,g.keys≠[]
 nd:gs.Pairwise fun a b=>a.lE.id≠b.lE.id
theorem Dw {ds:gJ} {keys:List BA} (hW: ∀(i:Int) (r:dq),getM i ds=some r→r.id=i) (h:(gp ds [] keys).2=0):abL ds keys (jX ds (gp ds [] keys).1):=by
 have hg:=P9 (m:=[]) kh (fun e he=>by cases he) h;generalize (gp ds [] keys).1=m at hg;have EI: ∀{k:BA} {r:dq},iX ds k=some r→getM r.id ds=some r:=fun hr=>by
  obtain⟨j,_,_,h3,_⟩:=D7 hr;rw [hW _ _ h3];exact h3
 have hk: ∀id k,k∈(getM id m).getD []→k∈keys∧ ∃r,iX ds k=some r∧r.id=id∧(getM id ds).getD .zero=r:=fun id k af=>by
  rcases(hg.mem id k).1 af with h1|⟨h1,r,h2,h3⟩
  ·simp [getM] at h1
  ·exact⟨h1,r,h2,h3,by rw [←h3,EI h2];rfl⟩
 have nr: ∀id,id∈mL (m.map (·.1))↔ ∃l,(id,l)∈m:=fun id=>by
  rw [(mj _).mem_iff,List.mem_map];exact⟨fun ⟨e,h1,h2⟩=>⟨e.2,by rw [←h2];exact h1⟩,fun ⟨l,h1⟩=>⟨_,h1,rfl⟩⟩
 refine⟨fun k af=>?_,fun g jg k af=>?_,fun g jg=>?_,?_⟩
 ·obtain⟨r,hr⟩:=hg.rt k af;have h1:=(hg.mem r.id k).2 (.inr ⟨af,r,hr,rfl⟩);refine⟨⟨(getM r.id ds).getD .zero,(getM r.id m).getD []⟩,List.mem_map.2 ⟨r.id,(nr _).2 ?_,rfl⟩,h1,?_⟩
  ·cases hm:getM r.id m with
   |none=>rw [hm] at h1;simp at h1
   |some l=>exact⟨l,ka hm⟩
  ·rw [hr,EI hr];rfl
 ·obtain⟨id,h1,rfl⟩:=List.mem_map.1 jg;obtain⟨h2,r,h3,_,h5⟩:=hk id k af;exact⟨h2,by rw [h3];exact congrArg some h5.symm⟩
 ·obtain⟨id,h1,rfl⟩:=List.mem_map.1 jg;obtain⟨l,h2⟩:=(nr id).1 h1
  show(getM id m).getD []≠[]
  rw [zz hg.nd h2];exact hg.full _ h2
 ·refine List.pairwise_map.2 (List.Pairwise.imp_of_mem (R:=fun a b=>a≠b) (fun {a b} ha hb s9=>?_) ((mj _).nodup_iff.2 hg.nd));have key: ∀id,id∈mL (m.map (·.1))→((getM id ds).getD .zero).id=id:=fun id hi=>by
   obtain⟨l,h2⟩:=(nr id).1 hi;cases l with
   |nil=>exact absurd rfl (hg.full _ h2)
   |cons k l=>
    obtain⟨_,r,_,h4,h5⟩:=hk id k (by rw [zz hg.nd h2];simp);rw [h5,h4]
  show((getM a ds).getD .zero).id≠((getM b ds).getD .zero).id
  rw [key a ha,key b hb];exact s9
theorem adB {m:Co} (hn:(m.map (·.1)).Nodup):((mL (m.map (·.1))).map fun id=>((getM id m).getD []).length).sum=sx ai m:=by
 rw [((mj (m.map (·.1))).map _).sum_nat,dr];have:(m.map ((fun id=>((getM id m).getD []).length)∘fun x=>x.1))=m.map fun e=>e.2.length:=fD fun e he=>by
  show((getM e.1 m).getD []).length=e.2.length
  rw [zz hn (show(e.1,e.2)∈m from he)];rfl
 rw [this];rfl
theorem OI {ds:gJ} {keys:List BA} (hn:keys.Nodup) (h:(gp ds [] keys).2=0):((jX ds (gp ds [] keys).1).map fun g=>g.keys.length).sum=keys.length:=by
 have hg:=P9 (m:=[]) kh (fun e he=>by cases he) h;have hs:=UN (m:=[]) hn (fun id k _=>by simp [getM]) h;unfold jX;rw [dr]
 show((mL _).map fun id=>((getM id (gp ds [] keys).1).getD []).length).sum=_
 rw [adB hg.nd,hs];simp [sx]
theorem RX {α:Type} {gs:List ke} {p:ke→α→Bool} : ∀{l:List α},(∀w∈l,(gs.filter fun g=>p g w).length=1)→(gs.map fun g=>(l.filter (p g)).length).sum=l.length
 |[],_=>by
  simp only [List.filter_nil,bI]
  induction gs with
  |nil=>rfl
  |cons g gs ih=>simpa using ih
 |w::l,h=>by
  have ih:=RX (gs:=gs) (p:=p) (l:=l) fun x hx=>h x (bz _ hx);have h1:=h w (by simp);have e: ∀gs:List ke,(gs.map fun g=>((w::l).filter (p g)).length).sum=(gs.filter fun g=>p g w).length+(gs.map fun g=>(l.filter (p g)).length).sum:=fun gs=>by
   induction gs with
   |nil=>rfl
   |cons g gs ih=>
    rw [bV,List.sum_cons,ih,bV,List.sum_cons,cV,cV];cases p g w<;>simp<;>omega
  rw [e,h1,ih,bh];omega
theorem abM {ds:gJ} {keys:List BA} {gs:List ke} (h:abL ds keys gs) {k:BA} (hk:k∈keys):(gs.filter fun g=>g.keys.any fun y=>decide (k=y)).length=1:=by
 obtain⟨g,hg,hkg,hr⟩:=h.rt k hk;have abN: ∀q∈gs,k∈q.keys→q.lE=g.lE:=fun q hq hkq=>by
  have:=(h.own q hq k hkq).2;rw [hr] at this;exact(Option.some.inj this).symm
 obtain⟨a,b,rfl⟩:=List.append_of_mem hg;have hp:=List.pairwise_append.1 h.nd;have hp2:=List.pairwise_cons.1 hp.2.1;have ha:(a.filter fun g=>g.keys.any fun y=>decide (k=y))=[]:=List.filter_eq_nil_iff.2 fun q hq he=>by
  have e:=abN q (by simp [hq]) (ze.1 he);exact hp.2.2 q hq g (by simp) (by rw [e])
 have hb:(b.filter fun g=>g.keys.any fun y=>decide (k=y))=[]:=List.filter_eq_nil_iff.2 fun q hq he=>by
  have e:=abN q (by simp [hq]) (ze.1 he);exact hp2.1 q hq (by rw [e])
 rw [ql,cV,ha,hb,if_pos (ze.2 hkg)];rfl
end Go.Proofs.YtbpnemeooenpmaaGreat
