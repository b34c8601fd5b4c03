/-
 Part 11 of the proof: what the last text leans on.
-/
import Derived.Test.YtfndblbeikocdaaGreatW10
open Nat renaming le_trans → af, zero_le → aL, lt_of_lt_of_le → aN
open List renaming length_append → ae, append_assoc → aC, map_cons → bC, find?_cons → b8, take_of_length_le → ba, sum_cons → fV, length_map → aA, length_nil → bI, map_append → bp, all_cons → im, length_take → aX, length_cons → bT, length_eq_zero_iff → mn, take_add_one → bg, mem_singleton → ej, pairwise_cons → jO
open Bool renaming false_eq_true → bc
open Go.Value renaming string → di
open Option.some renaming inj → rN
open Option renaming toList_some → iQ
open Go.Builtin renaming len_ → fg, max_ → Bu, max2 → Bv
set_option linter.unusedVariables false
set_option linter.unusedSimpArgs false
namespace Go.Proofs.YtfndblbeikocdaaGreat
open Go.Proofs.Tryz renaming prog → pg
open Go.bB
set_option maxRecDepth 100000
set_option maxHeartbeats 1000000
set_option linter.unusedVariables false
set_option linter.unusedSimpArgs false
attribute [local irreducible] un jn aI aT ld1 ek st1 cA cp mE ea mF wh vy gG ga ab ax ay eW eV eU eC eF gE au fin aM aP aF vS y9 gg ix rr wi wj za zc zd fY iy ru wm wo ze zf
def MS (r:ju):List Nat:=encI r.id++(encI r.jo++(Dd r.lo++Dd r.hi))
def um (v:ki):List Nat:=pa v.aw++ES v.val
def yp (h:iM):List Nat:=rM h.key++jA um h.kc
def tV (p:dB):List Nat:=AI p.b6++(pa p.aw++(jA rM p.reads++jA oh p.writes))
def encS (s:State):List Nat:=MS s.range++(pa s.floor++(pa s.closed++(jA yp s.gF++jA tV s.eK)))
theorem yq {α:Type} {f:α→List Nat} {xs:List α} {i:Nat} {x:α} (h:xs[i]? =some x):(encI xs.length).length+((xs.take i).map f).flatten.length+(f x).length≤(jA f xs).length:=by
 have h1:xs=xs.take i++(x::xs.drop (i+1)):=by
  obtain⟨hi,rfl⟩:=List.getElem?_eq_some_iff.1 h;rw [←List.drop_eq_getElem_cons hi,List.take_append_drop]
 have h2:(jA f xs).length=(encI xs.length).length+((xs.take i).map f).flatten.length+((f x).length+((xs.drop (i+1)).map f).flatten.length):=by
  unfold jA;conv=>lhs;rw [h1]
  rw [bp,List.flatten_append,←h1];simp only [bC,List.flatten_cons,ae];omega
 omega
theorem Lu (x:Nat):(Dd x).length=8:=by simp [Dd]
theorem P1 (x:KV):x.key.size≤(oh x).length:=by
 have h1:=uY x.key;unfold oh;rw [ae];omega
theorem SN {w:World} {X Z:XS} {lo wb cb xb xo:Nat} {vb:Value} {bs:List Nat} {b:Bool} (h:Wr w X lo wb vb bs) (hc:Cells w Z cb 0 (jg wb)) (hx:Cells w Z xb xo [B b]) (hZ:qe Z X wb vb) (hb:bs.length≤2^38) (ez:lo≤w.heap.size):
  ly 234 #[ptr cb 0,ptr xb xo] w X lo wb vb bs (XQ b):=by
 intro w0 hk;have dp:lo≤w0.heap.size:=af ez hk.size;replace hc:=hc.mv (hZ.mv hk);replace hx:=hx.mv (hZ.mv hk);have hS:=WS.init (h.mv hk.cE);apply GO;unfold xX;have hs:=hS.s;repeat' first|refine aG ?_;intros
 refine hS.ew (VC hS.r zQ dp) kQ fun gI w2 X2 bX jN=>?_
 skip
 exact bX.fin
theorem zL {w:World} {X Z:XS} {lo wb cb xb xo:Nat} {vb:Value} {bs:List Nat} {x:Nat} (h:Wr w X lo wb vb bs) (hc:Cells w Z cb 0 (jg wb)) (hx:Cells w Z xb xo [.float .f64 x]) (hZ:qe Z X wb vb) (hb:bs.length≤2^38) (ez:lo≤w.heap.size):
  ly 236 #[ptr cb 0,ptr xb xo] w X lo wb vb bs (Dd x):=by
 intro w0 hk;have dp:lo≤w0.heap.size:=af ez hk.size;replace hc:=hc.mv (hZ.mv hk);replace hx:=hx.mv (hZ.mv hk);have hS:=WS.init (h.mv hk.cE);apply EZ;unfold wK;have hs:=hS.s;repeat' first|refine aG ?_;intros
 refine hS.ew (HE hS.r zQ dp) kQ fun gI w2 X2 bX jN=>?_
 skip
 exact bX.fin
theorem QZ {w:World} {X Z:XS} {lo wb cb xb xo:Nat} {vb:Value} {bs:List Nat} {r:ju} (h:Wr w X lo wb vb bs) (hc:Cells w Z cb 0 (jg wb)) (hx:Cells w Z xb xo r.l) (hZ:qe Z X wb vb) (hb:bs.length≤2^36) (ez:lo≤w.heap.size):
  ly 278 #[ptr cb 0,ptr xb xo] w X lo wb vb bs (MS r):=by
 have e1:=fC r.id;have e2:=fC r.jo;have e3:=Lu r.lo;intro w0 hk;have dp:lo≤w0.heap.size:=af ez hk.size;replace hc:=hc.mv (hZ.mv hk);replace hx:=hx.mv (hZ.mv hk);have hS:=WS.init (h.mv hk.cE);apply E4;unfold wL;have hs:=hS.s;repeat' first|refine aG ?_;intros
 refine hS.ew (iE hS.r (hc.mv hS.at) (Cells.mv (by assumption) hS.at) hS.z (by(try simp only [ae]);omega) (af dp hs.kp.size)) kQ fun gI w X bX _=>?_;replace hs:=bX.s;repeat' first|refine aG ?_;intros
 refine bX.ew (iE bX.r (hc.mv bX.at) (Cells.mv (by assumption) bX.at) bX.z (by(try simp only [ae]);omega) (af dp hs.kp.size)) kQ fun kh w X dy _=>?_;replace hs:=dy.s;repeat' first|refine aG ?_;intros
 refine dy.ew (zL dy.r (hc.mv dy.at) (Cells.mv (by assumption) dy.at) dy.z (by(try simp only [ae]);omega) (af dp hs.kp.size)) kQ fun MR w X fI _=>?_;replace hs:=fI.s;repeat' first|refine aG ?_;intros
 refine fI.ew (zL fI.r (hc.mv fI.at) (Cells.mv (by assumption) fI.at) fI.z (by(try simp only [ae]);omega) (af dp hs.kp.size)) kQ fun SO w X kP _=>?_;replace hs:=kP.s
 skip
 unfold MS;simp only [aC] at kP;exact kP.fin
theorem MT {w:World} {X Z:XS} {lo wb cb xb xo:Nat} {vb:Value} {bs:List Nat} {x:ki} (h:Wr w X lo wb vb bs) (hc:Cells w Z cb 0 (jg wb)) (hx:Cells w Z xb xo x.l) (hZ:qe Z X wb vb) (hb:bs.length≤2^36) (ez:lo≤w.heap.size):
  ly 304 #[ptr cb 0,ptr xb xo] w X lo wb vb bs (um x):=by
 have e1:=sR x.aw;intro w0 hk;have dp:lo≤w0.heap.size:=af ez hk.size;replace hc:=hc.mv (hZ.mv hk);replace hx:=hx.mv (hZ.mv hk);have hS:=WS.init (h.mv hk.cE);apply De;unfold uo;have hs:=hS.s;repeat' first|refine aG ?_;intros
 refine hS.ew (iN (s:=x.aw) hS.r (hc.mv hS.at) (Cells.mv (by assumption) hS.at) hS.z (by(try simp only [ae]);omega) (af dp hs.kp.size)) kQ fun gI w X bX _=>?_;replace hs:=bX.s;repeat' first|refine aG ?_;intros
 refine bX.ew (zK (v:=x.val) bX.r (hc.mv bX.at) (Cells.mv (by assumption) bX.at) bX.z (by(try simp only [ae]);omega) (af dp hs.kp.size)) kQ fun kh w X dy _=>?_;replace hs:=dy.s
 skip
 unfold um;simp only [aC] at dy;exact dy.fin
theorem Lv {w:World} {X Z:XS} {lo wb cb xb xo:Nat} {vb va:Value} {bs:List Nat} {xs:List BA} (h:Wr w X lo wb vb bs) (hc:Cells w Z cb 0 (jg wb)) (hx:Cells w Z xb xo [va]) (ha:Sl w Z 1 va (xs.map S1)) (hZ:qe Z X wb vb) (ez:lo≤w.heap.size) (hb:bs.length+(jA rM xs).length≤2^33):
  ly 282 #[ptr cb 0,ptr xb xo,.func (.func 283) #[ptr cb 0] #[]] w X lo wb vb bs (jA rM xs):=by
  intro w0 hk;have dp:lo≤w0.heap.size:=af ez hk.size;replace hc:=hc.mv (hZ.mv hk);replace hx:=hx.mv (hZ.mv hk);replace ha:=ha.mv (hZ.mv hk);have hS:=WS.init (h.mv hk.cE);have gC:=ha.gw;apply E5;unfold wM;have hs:=hS.s;repeat' first|refine aG ?_;intros
  refine ir (fun (k:Value→World→XS→Prop)=> ∀w X gI,WS w0 vb w X lo wb gI (bs++encI xs.length)→k (I xs.length) w X) ?_ ?_
  ·intro w X gI bX;refine eA (fun n' a w X=> ∃(i:Nat) (qy:Value),a=I i∧n'=xs.length-i∧i≤xs.length∧WS w0 vb w X lo wb qy (bs++encI xs.length++((xs.take i).map rM).flatten)) xs.length ⟨0,gI,rfl,rfl,aL _,by simpa using bX⟩ ?_;clear bX hS hs;rintro n' a w X ⟨i,qy,rfl,rfl,hi,hS⟩;have hs:=hS.s;rcases dX xs i with⟨cI,x,vC,hd⟩|⟨dV,hd⟩
   ·have fi:=yq (f:=rM) vC;repeat' first|refine bQ ?_;intros
    refine ir (fun (k:World→XS→Prop)=>k w X) ?_ ?_
    ·repeat' first|refine aG ?_;intros
     refine Bw ?_;refine hS.ew (wG (s:=x) hS.r (hc.mv hS.at) (Cells.mv (by assumption) hS.at) hS.z (by simp only [ae];omega) (af dp hs.kp.size) (by have:=uY x;omega)) kQ fun kh w3 X3 dy lT=>?_;replace hs:=dy.s;repeat' first|refine aG ?_;intros
     refine en (xs.length-(i+1)) zQ ⟨i+1,kh,by simp,rfl,by omega,?_⟩;rw [pc vC,←aC];exact dy
    ·intro K hK;repeat' first|refine aG ?_;intros|exact hK
   ·rw [ba dV] at hS;repeat' first|refine bQ ?_;intros
    rw [aC] at hS;exact hS.fin
  ·intro K hK;repeat' first|refine aG ?_;intros
   refine hS.ew (kO hS.r zQ dp) kQ fun gI w2 X2 bX jN=>?_;replace hs:=bX.s
   skip
   exact hK _ _ _ bX
theorem CB {w:World} {X Z:XS} {lo wb cb xb xo:Nat} {vb va:Value} {bs:List Nat} {xs:List Int} (h:Wr w X lo wb vb bs) (hc:Cells w Z cb 0 (jg wb)) (hx:Cells w Z xb xo [va]) (ha:Sl w Z 1 va (xs.map I1)) (hZ:qe Z X wb vb) (ez:lo≤w.heap.size) (hb:bs.length+(jA encI xs).length≤2^33):
  ly 232 #[ptr cb 0,ptr xb xo,.func (.func 229) #[ptr cb 0] #[]] w X lo wb vb bs (jA encI xs):=by
  intro w0 hk;have dp:lo≤w0.heap.size:=af ez hk.size;replace hc:=hc.mv (hZ.mv hk);replace hx:=hx.mv (hZ.mv hk);replace ha:=ha.mv (hZ.mv hk);have hS:=WS.init (h.mv hk.cE);have gC:=ha.gw;apply JC;unfold Aa;have hs:=hS.s;repeat' first|refine aG ?_;intros
  refine ir (fun (k:Value→World→XS→Prop)=> ∀w X gI,WS w0 vb w X lo wb gI (bs++encI xs.length)→k (I xs.length) w X) ?_ ?_
  ·intro w X gI bX;refine eA (fun n' a w X=> ∃(i:Nat) (qy:Value),a=I i∧n'=xs.length-i∧i≤xs.length∧WS w0 vb w X lo wb qy (bs++encI xs.length++((xs.take i).map encI).flatten)) xs.length ⟨0,gI,rfl,rfl,aL _,by simpa using bX⟩ ?_;clear bX hS hs;rintro n' a w X ⟨i,qy,rfl,rfl,hi,hS⟩;have hs:=hS.s;rcases dX xs i with⟨cI,x,vC,hd⟩|⟨dV,hd⟩
   ·have fi:=yq (f:=encI) vC;repeat' first|refine bQ ?_;intros
    refine ir (fun (k:World→XS→Prop)=>k w X) ?_ ?_
    ·repeat' first|refine aG ?_;intros
     refine Bw ?_;refine hS.ew (iE (n:=x) hS.r (hc.mv hS.at) (Cells.mv (by assumption) hS.at) hS.z (by simp only [ae];omega) (af dp hs.kp.size)) kQ fun kh w3 X3 dy lT=>?_;replace hs:=dy.s;repeat' first|refine aG ?_;intros
     refine en (xs.length-(i+1)) zQ ⟨i+1,kh,by simp,rfl,by omega,?_⟩;rw [pc vC,←aC];exact dy
    ·intro K hK;repeat' first|refine aG ?_;intros|exact hK
   ·rw [ba dV] at hS;repeat' first|refine bQ ?_;intros
    rw [aC] at hS;exact hS.fin
  ·intro K hK;repeat' first|refine aG ?_;intros
   refine hS.ew (kO hS.r zQ dp) kQ fun gI w2 X2 bX jN=>?_;replace hs:=bX.s
   skip
   exact hK _ _ _ bX
theorem Gg {w:World} {X Z:XS} {lo wb cb xb xo:Nat} {vb va:Value} {bs:List Nat} {xs:List KV} (h:Wr w X lo wb vb bs) (hc:Cells w Z cb 0 (jg wb)) (hx:Cells w Z xb xo [va]) (ha:Sl w Z 4 va (xs.map KV.l)) (hZ:qe Z X wb vb) (ez:lo≤w.heap.size) (hb:bs.length+(jA oh xs).length≤2^33):
  ly 237 #[ptr cb 0,ptr xb xo,.func (.func 238) #[ptr cb 0] #[]] w X lo wb vb bs (jA oh xs):=by
  intro w0 hk;have dp:lo≤w0.heap.size:=af ez hk.size;replace hc:=hc.mv (hZ.mv hk);replace hx:=hx.mv (hZ.mv hk);replace ha:=ha.mv (hZ.mv hk);have hS:=WS.init (h.mv hk.cE);have gC:=ha.gw;apply Ck;unfold tL;have hs:=hS.s;repeat' first|refine aG ?_;intros
  refine ir (fun (k:Value→World→XS→Prop)=> ∀w X gI,WS w0 vb w X lo wb gI (bs++encI xs.length)→k (I xs.length) w X) ?_ ?_
  ·intro w X gI bX;refine eA (fun n' a w X=> ∃(i:Nat) (qy:Value),a=I i∧n'=xs.length-i∧i≤xs.length∧WS w0 vb w X lo wb qy (bs++encI xs.length++((xs.take i).map oh).flatten)) xs.length ⟨0,gI,rfl,rfl,aL _,by simpa using bX⟩ ?_;clear bX hS hs;rintro n' a w X ⟨i,qy,rfl,rfl,hi,hS⟩;have hs:=hS.s;rcases dX xs i with⟨cI,x,vC,hd⟩|⟨dV,hd⟩
   ·have fi:=yq (f:=oh) vC;repeat' first|refine bQ ?_;intros
    refine ir (fun (k:World→XS→Prop)=>k w X) ?_ ?_
    ·repeat' first|refine aG ?_;intros
     refine Bw ?_;refine hS.ew (QY (x:=x) hS.r (hc.mv hS.at) (Cells.mv (by assumption) hS.at) hS.z (by simp only [ae];omega) (af dp hs.kp.size) (by have:=P1 x;omega)) kQ fun kh w3 X3 dy lT=>?_;replace hs:=dy.s;repeat' first|refine aG ?_;intros
     refine en (xs.length-(i+1)) zQ ⟨i+1,kh,by simp,rfl,by omega,?_⟩;rw [pc vC,←aC];exact dy
    ·intro K hK;repeat' first|refine aG ?_;intros|exact hK
   ·rw [ba dV] at hS;repeat' first|refine bQ ?_;intros
    rw [aC] at hS;exact hS.fin
  ·intro K hK;repeat' first|refine aG ?_;intros
   refine hS.ew (kO hS.r zQ dp) kQ fun gI w2 X2 bX jN=>?_;replace hs:=bX.s
   skip
   exact hK _ _ _ bX
theorem Q4 {w:World} {X Z:XS} {lo wb cb xb xo:Nat} {vb va:Value} {bs:List Nat} {xs:List KV} (h:Wr w X lo wb vb bs) (hc:Cells w Z cb 0 (jg wb)) (hx:Cells w Z xb xo [va]) (ha:Sl w Z 4 va (xs.map KV.l)) (hZ:qe Z X wb vb) (ez:lo≤w.heap.size) (hb:bs.length+(jA oh xs).length≤2^33):
  ly 239 #[ptr cb 0,ptr xb xo,.func (.func 240) #[ptr cb 0] #[]] w X lo wb vb bs (jA oh xs):=by
  intro w0 hk;have dp:lo≤w0.heap.size:=af ez hk.size;replace hc:=hc.mv (hZ.mv hk);replace hx:=hx.mv (hZ.mv hk);replace ha:=ha.mv (hZ.mv hk);have hS:=WS.init (h.mv hk.cE);have gC:=ha.gw;apply Df;unfold uq;have hs:=hS.s;repeat' first|refine aG ?_;intros
  refine ir (fun (k:Value→World→XS→Prop)=> ∀w X gI,WS w0 vb w X lo wb gI (bs++encI xs.length)→k (I xs.length) w X) ?_ ?_
  ·intro w X gI bX;refine eA (fun n' a w X=> ∃(i:Nat) (qy:Value),a=I i∧n'=xs.length-i∧i≤xs.length∧WS w0 vb w X lo wb qy (bs++encI xs.length++((xs.take i).map oh).flatten)) xs.length ⟨0,gI,rfl,rfl,aL _,by simpa using bX⟩ ?_;clear bX hS hs;rintro n' a w X ⟨i,qy,rfl,rfl,hi,hS⟩;have hs:=hS.s;rcases dX xs i with⟨cI,x,vC,hd⟩|⟨dV,hd⟩
   ·have fi:=yq (f:=oh) vC;repeat' first|refine bQ ?_;intros
    refine ir (fun (k:World→XS→Prop)=>k w X) ?_ ?_
    ·repeat' first|refine aG ?_;intros
     refine Bw ?_;refine hS.ew (SM (x:=x) hS.r (hc.mv hS.at) (Cells.mv (by assumption) hS.at) hS.z (by simp only [ae];omega) (af dp hs.kp.size) (by have:=P1 x;omega)) kQ fun kh w3 X3 dy lT=>?_;replace hs:=dy.s;repeat' first|refine aG ?_;intros
     refine en (xs.length-(i+1)) zQ ⟨i+1,kh,by simp,rfl,by omega,?_⟩;rw [pc vC,←aC];exact dy
    ·intro K hK;repeat' first|refine aG ?_;intros|exact hK
   ·rw [ba dV] at hS;repeat' first|refine bQ ?_;intros
    rw [aC] at hS;exact hS.fin
  ·intro K hK;repeat' first|refine aG ?_;intros
   refine hS.ew (kO hS.r zQ dp) kQ fun gI w2 X2 bX jN=>?_;replace hs:=bX.s
   skip
   exact hK _ _ _ bX
theorem MU {w:World} {X Z:XS} {lo wb cb xb xo:Nat} {vb va:Value} {bs:List Nat} {xs:List ki} (h:Wr w X lo wb vb bs) (hc:Cells w Z cb 0 (jg wb)) (hx:Cells w Z xb xo [va]) (ha:Sl w Z 6 va (xs.map ki.l)) (hZ:qe Z X wb vb) (ez:lo≤w.heap.size) (hb:bs.length+(jA um xs).length≤2^33):
  ly 303 #[ptr cb 0,ptr xb xo,.func (.func 304) #[ptr cb 0] #[]] w X lo wb vb bs (jA um xs):=by
  intro w0 hk;have dp:lo≤w0.heap.size:=af ez hk.size;replace hc:=hc.mv (hZ.mv hk);replace hx:=hx.mv (hZ.mv hk);replace ha:=ha.mv (hZ.mv hk);have hS:=WS.init (h.mv hk.cE);have gC:=ha.gw;apply AJ;unfold sk;have hs:=hS.s;repeat' first|refine aG ?_;intros
  refine ir (fun (k:Value→World→XS→Prop)=> ∀w X gI,WS w0 vb w X lo wb gI (bs++encI xs.length)→k (I xs.length) w X) ?_ ?_
  ·intro w X gI bX;refine eA (fun n' a w X=> ∃(i:Nat) (qy:Value),a=I i∧n'=xs.length-i∧i≤xs.length∧WS w0 vb w X lo wb qy (bs++encI xs.length++((xs.take i).map um).flatten)) xs.length ⟨0,gI,rfl,rfl,aL _,by simpa using bX⟩ ?_;clear bX hS hs;rintro n' a w X ⟨i,qy,rfl,rfl,hi,hS⟩;have hs:=hS.s;rcases dX xs i with⟨cI,x,vC,hd⟩|⟨dV,hd⟩
   ·have fi:=yq (f:=um) vC;repeat' first|refine bQ ?_;intros
    refine ir (fun (k:World→XS→Prop)=>k w X) ?_ ?_
    ·repeat' first|refine aG ?_;intros
     refine Bw ?_;refine hS.ew (MT (x:=x) hS.r (hc.mv hS.at) (Cells.mv (by assumption) hS.at) hS.z (by simp only [ae];omega) (af dp hs.kp.size)) kQ fun kh w3 X3 dy lT=>?_;replace hs:=dy.s;repeat' first|refine aG ?_;intros
     refine en (xs.length-(i+1)) zQ ⟨i+1,kh,by simp,rfl,by omega,?_⟩;rw [pc vC,←aC];exact dy
    ·intro K hK;repeat' first|refine aG ?_;intros|exact hK
   ·rw [ba dV] at hS;repeat' first|refine bQ ?_;intros
    rw [aC] at hS;exact hS.fin
  ·intro K hK;repeat' first|refine aG ?_;intros
   refine hS.ew (kO hS.r zQ dp) kQ fun gI w2 X2 bX jN=>?_;replace hs:=bX.s
   skip
   exact hK _ _ _ bX
theorem MV {w:World} {X Z:XS} {lo wb cb xb xo:Nat} {vb vv:Value} {bs:List Nat} {x:iM} (h:Wr w X lo wb vb bs) (hc:Cells w Z cb 0 (jg wb)) (hx:Cells w Z xb xo (x.l vv)) (ha:Sl w Z 6 vv (x.kc.map ki.l)) (hZ:qe Z X wb vb) (ez:lo≤w.heap.size) (hb:bs.length+(yp x).length≤2^33):
  ly 280 #[ptr cb 0,ptr xb xo] w X lo wb vb bs (yp x):=by
 have e1:(yp x).length=(rM x.key).length+(jA um x.kc).length:=by simp [yp]
 have e2:=uY x.key;replace ha:=fun {w1:World} (hk:Kp X w w1)=>ha.mv (hZ.mv hk);intro w0 hk;have dp:lo≤w0.heap.size:=af ez hk.size;replace hc:=hc.mv (hZ.mv hk);replace hx:=hx.mv (hZ.mv hk);have hS:=WS.init (h.mv hk.cE);apply Dg;unfold uu;have hs:=hS.s;replace ha:=ha hk;have ov:=ha.one;repeat' first|refine aG ?_;intros
 refine hS.ew (wG hS.r (hc.mv hS.at) (Cells.mv (by assumption) hS.at) hS.z zQ dp zQ) kQ fun gI w X bX _=>?_;replace hs:=bX.s;repeat' first|refine aG ?_;intros
 refine bX.ew (MU bX.r (hc.mv bX.at) (Cells.mv (by assumption) bX.at) (ha.mv bX.at) bX.z (af dp hs.kp.size) (by simp only [ae];omega)) kQ fun kh w X dy _=>?_
 skip
 unfold yp;simp only [aC] at dy;exact dy.fin
theorem CC {w:World} {X Z:XS} {lo wb cb xb xo:Nat} {vb vr vw:Value} {bs:List Nat} {x:dB} (h:Wr w X lo wb vb bs) (hc:Cells w Z cb 0 (jg wb)) (hx:Cells w Z xb xo (x.l vr vw)) (h1:Sl w Z 1 vr (x.reads.map S1)) (h2:Sl w Z 4 vw (x.writes.map KV.l)) (hZ:qe Z X wb vb) (ez:lo≤w.heap.size) (hb:bs.length+(tV x).length≤2^33):
  ly 231 #[ptr cb 0,ptr xb xo] w X lo wb vb bs (tV x):=by
 have e1:(tV x).length=(AI x.b6).length+((pa x.aw).length+((jA rM x.reads).length+(jA oh x.writes).length)):=by simp [tV]
 replace h1:=fun {w1:World} (hk:Kp X w w1)=>h1.mv (hZ.mv hk);replace h2:=fun {w1:World} (hk:Kp X w w1)=>h2.mv (hZ.mv hk);intro w0 hk;have dp:lo≤w0.heap.size:=af ez hk.size;replace hc:=hc.mv (hZ.mv hk);replace hx:=hx.mv (hZ.mv hk);have hS:=WS.init (h.mv hk.cE);apply Dh;unfold uv;have hs:=hS.s;replace h1:=h1 hk;replace h2:=h2 hk;have o1:=h1.one;have o2:=h2.one;repeat' first|refine aG ?_;intros
 refine hS.ew (uk (s:=x.b6) hS.r (hc.mv hS.at) (Cells.mv (by assumption) hS.at) hS.z (by(try simp only [ae]);omega) (af dp hs.kp.size)) kQ fun gI w X bX _=>?_;replace hs:=bX.s;repeat' first|refine aG ?_;intros
 refine bX.ew (iN (s:=x.aw) bX.r (hc.mv bX.at) (Cells.mv (by assumption) bX.at) bX.z (by(try simp only [ae]);omega) (af dp hs.kp.size)) kQ fun kh w X dy _=>?_;replace hs:=dy.s;repeat' first|refine aG ?_;intros
 refine dy.ew (Lv dy.r (hc.mv dy.at) (Cells.mv (by assumption) dy.at) (h1.mv dy.at) dy.z (af dp hs.kp.size) (by simp only [ae];omega)) kQ fun MR w X fI _=>?_;replace hs:=fI.s;repeat' first|refine aG ?_;intros
 refine fI.ew (Gg fI.r (hc.mv fI.at) (Cells.mv (by assumption) fI.at) (h2.mv fI.at) fI.z (af dp hs.kp.size) (by simp only [ae];omega)) kQ fun SO w X kP _=>?_
 skip
 unfold tV;simp only [aC] at kP;exact kP.fin
theorem Lw {w:World} {X Z:XS} {lo wb cb xb xo:Nat} {vb va:Value} {bs:List Nat} {xs:List iM} (h:Wr w X lo wb vb bs) (hc:Cells w Z cb 0 (jg wb)) (hx:Cells w Z xb xo [va]) (ha:lA w Z va xs) (hZ:qe Z X wb vb) (ez:lo≤w.heap.size) (hb:bs.length+(jA yp xs).length≤2^33):
  ly 279 #[ptr cb 0,ptr xb xo,.func (.func 280) #[ptr cb 0] #[]] w X lo wb vb bs (jA yp xs):=by
  intro w0 hk;have dp:lo≤w0.heap.size:=af ez hk.size;replace hc:=hc.mv (hZ.mv hk);replace hx:=hx.mv (hZ.mv hk);replace ha:=ha.mv (hZ.mv hk);have hS:=WS.init (h.mv hk.cE);have gC:=gq.len ha;apply AK;unfold sm;have hs:=hS.s;repeat' first|refine aG ?_;intros
  refine ir (fun (k:Value→World→XS→Prop)=> ∀w X gI,WS w0 vb w X lo wb gI (bs++encI xs.length)→k (I xs.length) w X) ?_ ?_
  ·intro w X gI bX;refine eA (fun n' a w X=> ∃(i:Nat) (qy:Value),a=I i∧n'=xs.length-i∧i≤xs.length∧WS w0 vb w X lo wb qy (bs++encI xs.length++((xs.take i).map yp).flatten)) xs.length ⟨0,gI,rfl,rfl,aL _,by simpa using bX⟩ ?_;clear bX hS hs;rintro n' a w X ⟨i,qy,rfl,rfl,hi,hS⟩;have hs:=hS.s;rcases dX xs i with⟨cI,x,vC,hd⟩|⟨dV,hd⟩
   ·have fi:=yq (f:=yp) vC;repeat' first|refine bQ ?_;intros
    refine ir (fun (k:World→XS→Prop)=>k w X) ?_ ?_
    ·repeat' first|refine aG ?_;intros|((with_reducible apply MD);assumption;(try (case hz=>rfl));(case hr=>exact qR);(try (case hz=>omega));(case ht=>kernel_rfl);(case hs=>kernel_rfl);intros)
     refine Bw ?_;refine hS.ew (MV (x:=x) hS.r (hc.mv hS.at) (Cells.mv (by assumption) hS.at) (Sl.mv (by assumption) hS.at) hS.z (af dp hs.kp.size) (by simp only [ae];omega)) kQ fun kh w3 X3 dy lT=>?_;replace hs:=dy.s;repeat' first|refine aG ?_;intros
     refine en (xs.length-(i+1)) zQ ⟨i+1,kh,by simp,rfl,by omega,?_⟩;rw [pc vC,←aC];exact dy
    ·intro K hK;repeat' first|refine aG ?_;intros|exact hK
   ·rw [ba dV] at hS;repeat' first|refine bQ ?_;intros
    rw [aC] at hS;exact hS.fin
  ·intro K hK;repeat' first|refine aG ?_;intros
   refine hS.ew (kO hS.r zQ dp) kQ fun gI w2 X2 bX jN=>?_;replace hs:=bX.s
   skip
   exact hK _ _ _ bX
theorem Lx {w:World} {X Z:XS} {lo wb cb xb xo:Nat} {vb va:Value} {bs:List Nat} {xs:List dB} (h:Wr w X lo wb vb bs) (hc:Cells w Z cb 0 (jg wb)) (hx:Cells w Z xb xo [va]) (ha:kH w Z va xs) (hZ:qe Z X wb vb) (ez:lo≤w.heap.size) (hb:bs.length+(jA tV xs).length≤2^33):
  ly 281 #[ptr cb 0,ptr xb xo,.func (.func 231) #[ptr cb 0] #[]] w X lo wb vb bs (jA tV xs):=by
  intro w0 hk;have dp:lo≤w0.heap.size:=af ez hk.size;replace hc:=hc.mv (hZ.mv hk);replace hx:=hx.mv (hZ.mv hk);replace ha:=ha.mv (hZ.mv hk);have hS:=WS.init (h.mv hk.cE);have gC:=gq.len ha;apply AL;unfold so;have hs:=hS.s;repeat' first|refine aG ?_;intros
  refine ir (fun (k:Value→World→XS→Prop)=> ∀w X gI,WS w0 vb w X lo wb gI (bs++encI xs.length)→k (I xs.length) w X) ?_ ?_
  ·intro w X gI bX;refine eA (fun n' a w X=> ∃(i:Nat) (qy:Value),a=I i∧n'=xs.length-i∧i≤xs.length∧WS w0 vb w X lo wb qy (bs++encI xs.length++((xs.take i).map tV).flatten)) xs.length ⟨0,gI,rfl,rfl,aL _,by simpa using bX⟩ ?_;clear bX hS hs;rintro n' a w X ⟨i,qy,rfl,rfl,hi,hS⟩;have hs:=hS.s;rcases dX xs i with⟨cI,x,vC,hd⟩|⟨dV,hd⟩
   ·have fi:=yq (f:=tV) vC;repeat' first|refine bQ ?_;intros
    refine ir (fun (k:World→XS→Prop)=>k w X) ?_ ?_
    ·repeat' first|refine aG ?_;intros|((with_reducible apply EO);assumption;(try (case hz=>rfl));(case hr=>exact qR);(try (case hz=>omega));(case ht=>kernel_rfl);(case hs=>kernel_rfl);intros)
     refine Bw ?_;refine hS.ew (CC (x:=x) hS.r (hc.mv hS.at) (Cells.mv (by assumption) hS.at) (Sl.mv (by assumption) hS.at) (Sl.mv (by assumption) hS.at) hS.z (af dp hs.kp.size) (by simp only [ae];omega)) kQ fun kh w3 X3 dy lT=>?_;replace hs:=dy.s;repeat' first|refine aG ?_;intros
     refine en (xs.length-(i+1)) zQ ⟨i+1,kh,by simp,rfl,by omega,?_⟩;rw [pc vC,←aC];exact dy
    ·intro K hK;repeat' first|refine aG ?_;intros|exact hK
   ·rw [ba dV] at hS;repeat' first|refine bQ ?_;intros
    rw [aC] at hS;exact hS.fin
  ·intro K hK;repeat' first|refine aG ?_;intros
   refine hS.ew (kO hS.r zQ dp) kQ fun gI w2 X2 bX jN=>?_;replace hs:=bX.s
   skip
   exact hK _ _ _ bX
theorem Q5 {w:World} {X Z:XS} {lo wb cb xb xo:Nat} {vb vh vp:Value} {bs:List Nat} {x:State} (h:Wr w X lo wb vb bs) (hc:Cells w Z cb 0 (jg wb)) (hx:Cells w Z xb xo (x.l vh vp)) (h1:lA w Z vh x.gF) (h2:kH w Z vp x.eK) (hZ:qe Z X wb vb) (ez:lo≤w.heap.size) (hb:bs.length+(encS x).length≤2^33):
  ly 230 #[ptr cb 0,ptr xb xo] w X lo wb vb bs (encS x):=by
 have e1:(encS x).length=(MS x.range).length+((pa x.floor).length+((pa x.closed).length+((jA yp x.gF).length+(jA tV x.eK).length))):=by simp [encS]
 replace h1:=fun {w1:World} (hk:Kp X w w1)=>lA.mv h1 (hZ.mv hk);replace h2:=fun {w1:World} (hk:Kp X w w1)=>kH.mv h2 (hZ.mv hk);intro w0 hk;have dp:lo≤w0.heap.size:=af ez hk.size;replace hc:=hc.mv (hZ.mv hk);replace hx:=hx.mv (hZ.mv hk);have hS:=WS.init (h.mv hk.cE);apply E6;unfold wN;have hs:=hS.s;replace h1:=h1 hk;replace h2:=h2 hk;have o1:=h1.one;have o2:=h2.one;repeat' first|refine aG ?_;intros
 refine hS.ew (QZ (r:=x.range) hS.r (hc.mv hS.at) (Cells.mv (by assumption) hS.at) hS.z (by(try simp only [ae]);omega) (af dp hs.kp.size)) kQ fun gI w X bX _=>?_;replace hs:=bX.s;repeat' first|refine aG ?_;intros
 refine bX.ew (iN (s:=x.floor) bX.r (hc.mv bX.at) (Cells.mv (by assumption) bX.at) bX.z (by(try simp only [ae]);omega) (af dp hs.kp.size)) kQ fun kh w X dy _=>?_;replace hs:=dy.s;repeat' first|refine aG ?_;intros
 refine dy.ew (iN (s:=x.closed) dy.r (hc.mv dy.at) (Cells.mv (by assumption) dy.at) dy.z (by(try simp only [ae]);omega) (af dp hs.kp.size)) kQ fun MR w X fI _=>?_;replace hs:=fI.s;repeat' first|refine aG ?_;intros
 refine fI.ew (Lw fI.r (hc.mv fI.at) (Cells.mv (by assumption) fI.at) (h1.mv fI.at) fI.z (af dp hs.kp.size) (by simp only [ae];omega)) kQ fun SO w X kP _=>?_;replace hs:=kP.s;repeat' first|refine aG ?_;intros
 refine kP.ew (Lx kP.r (hc.mv kP.at) (Cells.mv (by assumption) kP.at) (h2.mv kP.at) kP.z (af dp hs.kp.size) (by simp only [ae];omega)) kQ fun vb6 w X P2 _=>?_
 skip
 unfold encS;simp only [aC] at P2;exact P2.fin
def uZ (r:Rec):List Nat:=encI r.kind++(
 if r.kind=1 then encS r.state
 else if r.kind=2∨r.kind=7∨r.kind=8 then encI r.n
 else if r.kind=3 then tV ⟨r.b6,r.aw,r.reads,r.writes⟩++jA encI r.parts
 else if r.kind=4 then AI r.b6++(XQ r.ij++pa r.aw)
 else if r.kind=5 then pa r.aw
 else if r.kind=6 then Dd r.jV++(encI r.n++pa r.aw)
 else if r.kind=9 then AI r.b6++(pa r.aw++jA encI r.parts)
 else if r.kind=10 then AI r.b6
 else if r.kind=11 then pa r.prev++(pa r.aw++(AI r.b6++jA oh r.writes))
 else if r.kind=12 then pa r.aw++jA oh r.qL
 else [])
theorem E7 {P:Program} {R:Ending→World→Prop} {X:XS} {w:World} {t sz b o o':Nat} {cs:List Value} {ty:TypeId} {v:Value} {N:Value→World→XS→Prop} (h:bN w X b cs ty) (SP:o'=o) (ht:(P.info? t).map (·.size)=some sz)
  (hl:o+sz≤cs.length) (hv:v.cells.size=sz) (h1:v.cells.toList.all bB.one=true) (hX: ∀k,X k→k<w.heap.size) (he:cH cs o v.cells.toList=cs)
  (n: ∀w' X',aj X w X' w'→N undef w' X'):eU P R X w true (st1 t sz (ptr b o') v) N:=by
 refine Je h SP ht hl hv h1 hX fun w' X' c hr=>n w' X' ⟨⟨c.os,c.tape,c.output,c.size,fun k hk=>?_⟩,c.sub,c.has⟩;by_cases e:k=b
 ·subst e;rw [h.2,hr.2,he]
 ·exact c.block k hk e
theorem WS.ahD {w0 w w':World} {X X':XS} {lo wb b:Nat} {nM vb:Value} {bs:List Nat} {cs:List Value} {ty:TypeId} (hS:WS w0 nM w X lo wb vb bs) (hr:bN w X b cs ty) (hb:w0.heap.size≤b)
  (h1:decide (247≠ty)=true) (h2:decide (5≠ty)=true) (c:eo (fun k=>k=b) X w X' w'):WS w0 nM w' X' lo wb vb bs:=by
 have cn:wb≠b:=hS.r.box.gi hr h1;refine⟨hS.s.dK c fun q h0 hq=>?_,⟨⟨c.sub _ hS.r.box.1,by rw [c.block _ hS.r.box.1 fun e=>cn e];exact hS.r.box.2⟩,Own.dK hS.r.ow c fun g hg e=>Own.gi hS.r.ow hr h2 (by rw [hg,e])⟩,hS.v⟩;have:=h0.1;have hq:q=b:=hq;omega
theorem _root_.Go.bB.bN.dK {F X X':XS} {w w':World} {b:Nat} {cs:List Value} {ty:TypeId} (h:bN w X b cs ty) (c:eo F X w X' w') (hn: ¬F b):bN w' X' b cs ty:=⟨c.sub _ h.1,by rw [c.block _ h.1 hn];exact h.2⟩
theorem VE {w:World} {X Z:XS} {lo wb cb xb:Nat} {vb:Value} {bs:List Nat} {r:Rec} {vr vw vp vq vh vd:Value} (h:Wr w X lo wb vb bs) (hc:Cells w Z cb 0 (jg wb)) (hx:bN w Z xb (r.l vr vw vp vq vh vd) 73) (fH:r.at w Z vr vw vp vq vh vd) (hZ:qe Z X wb vb) (ez:lo≤w.heap.size)
  (hb:bs.length+(uZ r).length≤2^33):ly 197 #[ptr cb 0,ptr xb 0] w X lo wb vb bs (uZ r):=by
 intro w0 hk;have dp:lo≤w0.heap.size:=af ez hk.size;replace hc:=hc.mv (hZ.mv hk);replace hx:=hx.mv (hZ.mv hk);replace fH:=fH.mv (hZ.mv hk);obtain⟨a1,a2,a3,a4,a5,a6⟩:=fH;obtain⟨p1,n1,c1,rfl⟩:=a1.form;obtain⟨p2,n2,c2,rfl⟩:=a2.form;have o1:=a1.one;have o2:=a2.one;have o3:=a3.one;have o4:=a4.one;have o5:=a5.one;have o6:=a6.one;have bH:=hx;replace hx:=hx.cells;have hS:=WS.init (h.mv hk.cE);have e1:=fC r.kind;obtain⟨E,hE⟩: ∃E,E=uZ r:=⟨_,rfl⟩;rw [←hE] at hb⊢;unfold uZ at hE;have hEl:(encI r.kind).length≤E.length:=by rw [hE,ae];omega
 apply SQ;unfold HJ;have hs:=hS.s;repeat' first|refine aG ?_;intros
 refine hS.ew (iE hS.r (hc.mv hS.at) (Cells.mv (by assumption) hS.at) hS.z zQ (af dp hs.kp.size)) kQ fun gI w X bX _=>?_;replace hs:=bX.s;repeat' first|refine aG ?_;intros
 refine ir (fun (k:World→XS→Prop)=> ∀w X kh,WS w0 vb w X lo wb kh (bs++E)→k w X) (fun w X kh dy=>dy.fin) fun K hK=>?_;repeat' first|refine aG ?_;intros|refine dj ?_ ?_<;>intros|with_reducible apply dJ
 all_goals (repeat (first|rw [if_pos zQ] at hE|rw [if_neg zQ] at hE))
 all_goals (have hEb:=congrArg List.length hE;simp only [ae] at hEb)
 ·refine bX.ew (Q5 (x:=r.state) bX.r (hc.mv bX.at) (Cells.mv (by assumption) bX.at) (a5.mv bX.at) (a6.mv bX.at) bX.z (af dp hs.kp.size) (by simp only [ae];omega)) kQ fun kh w X dy _=>?_;have h9:=dy;rw [hE] at hK
  (try simp only [aC] at h9 hK)
  exact hK _ _ _ h9
 ·refine bX.ew (iE bX.r (hc.mv bX.at) (Cells.mv (by assumption) bX.at) bX.z (by simp only [ae];omega) (af dp hs.kp.size)) kQ fun kh w X dy _=>?_;have h9:=dy;rw [hE] at hK
  (try simp only [aC] at h9 hK)
  exact hK _ _ _ h9
 ·refine bX.ew (iE bX.r (hc.mv bX.at) (Cells.mv (by assumption) bX.at) bX.z (by simp only [ae];omega) (af dp hs.kp.size)) kQ fun kh w X dy _=>?_;have h9:=dy;rw [hE] at hK
  (try simp only [aC] at h9 hK)
  exact hK _ _ _ h9
 ·refine bX.ew (iE bX.r (hc.mv bX.at) (Cells.mv (by assumption) bX.at) bX.z (by simp only [ae];omega) (af dp hs.kp.size)) kQ fun kh w X dy _=>?_;have h9:=dy;rw [hE] at hK
  (try simp only [aC] at h9 hK)
  exact hK _ _ _ h9
 ·have e2:(tV ⟨r.b6,r.aw,r.reads,r.writes⟩).length≤E.length:=by omega
  refine Oq (l:=[I 0,I 0,I 0,I 0,I 0,I 0,.slice none 0 0,.slice none 0 0]) hs.has kQ fun pb w3 X3 WH dZ ac0=>?_;have dy:=bX.since dZ;refine Je (o:=0) ac0 rfl kQ (by simp) rfl rfl dZ.has fun w4 X4 c4 th=>?_;replace th:bN w4 X4 pb ((⟨r.b6,r.aw,r.reads,r.writes⟩:dB).l (.slice p1 n1 c1) (.slice p2 n2 c2)) 182:=th;have ahE:w0.heap.size≤pb:=af hs.kp.size WH;have fI:=dy.ahD ac0 ahE kQ kQ c4;have SR: ¬zk wb gI pb:=fun hf=>hf.elim (fun e=>fI.r.box.gi th kQ e.symm) fun e=>Own.gi fI.r.ow th kQ e;obtain⟨Z',hZ'⟩: ∃Z':XS,Z'=fun k=>k=pb∨out (zk wb vb) w0 k:=⟨_,rfl⟩;have mv4:Mv (out (zk wb vb) w0) w0 Z' w4:=fun k ah _=>⟨by rw [hZ'];exact .inr ah,fI.s.kp.block k ah⟩;have lU:qe Z' X4 wb gI:=fun k ah=>by
   rw [hZ'] at ah;rcases ah with rfl|ah
   ·exact⟨th.1,SR⟩
   ·exact fI.z k ah
  refine fI.ew (CC (x:=⟨r.b6,r.aw,r.reads,r.writes⟩) fI.r (hc.mv mv4) (bN.cells (X:=Z') (ty:=182) ⟨by rw [hZ'];exact .inl rfl,th.2⟩) (a1.mv mv4) (a2.mv mv4) lU (af dp fI.s.kp.size) (by simp only [ae];omega)) kQ fun SO w5 X5 kP c5=>?_;have ti:=th.dK c5 SR;clear hs;have hs:=kP.s;repeat' first|refine aG ?_;intros
  refine E7 (o:=1) (bH.mv kP.s.mv) zQ kQ (by simp) rfl rfl kP.s.has (by rfl) fun w6 X6 wO=>?_;have P2:=kP.since wO;repeat' first|refine aG ?_;intros
  refine E7 (o:=4) (bH.mv P2.s.mv) zQ kQ (by simp) rfl rfl P2.s.has (by rfl) fun w7 X7 wP=>?_;have hS7:=P2.since wP;repeat' first|refine aG ?_;intros
  refine E7 (o:=13) (bH.mv hS7.s.mv) zQ kQ (by simp) rfl rfl hS7.s.has (by rfl) fun w8 X8 KH=>?_;have hS8:=hS7.since KH;repeat' first|refine aG ?_;intros
  refine E7 (o:=14) (bH.mv hS8.s.mv) zQ kQ (by simp) rfl rfl hS8.s.has (by rfl) fun w9 X9 WD=>?_;have SS:=hS8.since WD;clear hs;have hs:=SS.s;repeat' first|refine aG ?_;intros
  refine SS.ew (CB SS.r (hc.mv SS.at) (Cells.mv (by assumption) SS.at) (a3.mv SS.at) SS.z (af dp hs.kp.size) (by simp only [ae];omega)) kQ fun ajq w X ahF _=>?_;have h9:=ahF;rw [hE] at hK
  (try simp only [aC] at h9 hK)
  exact hK _ _ _ h9
 ·refine bX.ew (uk (s:=r.b6) bX.r (hc.mv bX.at) (Cells.mv (by assumption) bX.at) bX.z (by(try simp only [ae]);omega) (af dp hs.kp.size)) kQ fun kh w X dy _=>?_;replace hs:=dy.s;repeat' first|refine aG ?_;intros
  refine dy.ew (SN (b:=r.ij) dy.r (hc.mv dy.at) (Cells.mv (by assumption) dy.at) dy.z (by(try simp only [ae]);omega) (af dp hs.kp.size)) kQ fun MR w X fI _=>?_;replace hs:=fI.s;repeat' first|refine aG ?_;intros
  refine fI.ew (iN (s:=r.aw) fI.r (hc.mv fI.at) (Cells.mv (by assumption) fI.at) fI.z (by(try simp only [ae]);omega) (af dp hs.kp.size)) kQ fun SO w X kP _=>?_;replace hs:=kP.s
  skip
  have h9:=kP;rw [hE] at hK
  (try simp only [aC] at h9 hK)
  exact hK _ _ _ h9
 ·refine bX.ew (iN (s:=r.aw) bX.r (hc.mv bX.at) (Cells.mv (by assumption) bX.at) bX.z (by(try simp only [ae]);omega) (af dp hs.kp.size)) kQ fun kh w X dy _=>?_;replace hs:=dy.s
  skip
  have h9:=dy;rw [hE] at hK
  (try simp only [aC] at h9 hK)
  exact hK _ _ _ h9
 ·refine bX.ew (zL bX.r (hc.mv bX.at) (Cells.mv (by assumption) bX.at) bX.z (by(try simp only [ae]);omega) (af dp hs.kp.size)) kQ fun kh w X dy _=>?_;replace hs:=dy.s;repeat' first|refine aG ?_;intros
  refine dy.ew (iE dy.r (hc.mv dy.at) (Cells.mv (by assumption) dy.at) dy.z (by(try simp only [ae]);omega) (af dp hs.kp.size)) kQ fun MR w X fI _=>?_;replace hs:=fI.s;repeat' first|refine aG ?_;intros
  refine fI.ew (iN (s:=r.aw) fI.r (hc.mv fI.at) (Cells.mv (by assumption) fI.at) fI.z (by(try simp only [ae]);omega) (af dp hs.kp.size)) kQ fun SO w X kP _=>?_;replace hs:=kP.s
  skip
  have h9:=kP;rw [hE] at hK
  (try simp only [aC] at h9 hK)
  exact hK _ _ _ h9
 ·refine bX.ew (uk (s:=r.b6) bX.r (hc.mv bX.at) (Cells.mv (by assumption) bX.at) bX.z (by(try simp only [ae]);omega) (af dp hs.kp.size)) kQ fun kh w X dy _=>?_;replace hs:=dy.s;repeat' first|refine aG ?_;intros
  refine dy.ew (iN (s:=r.aw) dy.r (hc.mv dy.at) (Cells.mv (by assumption) dy.at) dy.z (by(try simp only [ae]);omega) (af dp hs.kp.size)) kQ fun MR w X fI _=>?_;replace hs:=fI.s;repeat' first|refine aG ?_;intros
  refine fI.ew (CB fI.r (hc.mv fI.at) (Cells.mv (by assumption) fI.at) (a3.mv fI.at) fI.z (af dp hs.kp.size) (by simp only [ae];omega)) kQ fun SO w X kP _=>?_;have h9:=kP;rw [hE] at hK
  (try simp only [aC] at h9 hK)
  exact hK _ _ _ h9
 ·refine bX.ew (uk (s:=r.b6) bX.r (hc.mv bX.at) (Cells.mv (by assumption) bX.at) bX.z (by(try simp only [ae]);omega) (af dp hs.kp.size)) kQ fun kh w X dy _=>?_;replace hs:=dy.s
  skip
  have h9:=dy;rw [hE] at hK
  (try simp only [aC] at h9 hK)
  exact hK _ _ _ h9
 ·refine bX.ew (iN (s:=r.prev) bX.r (hc.mv bX.at) (Cells.mv (by assumption) bX.at) bX.z (by(try simp only [ae]);omega) (af dp hs.kp.size)) kQ fun kh w X dy _=>?_;replace hs:=dy.s;repeat' first|refine aG ?_;intros
  refine dy.ew (iN (s:=r.aw) dy.r (hc.mv dy.at) (Cells.mv (by assumption) dy.at) dy.z (by(try simp only [ae]);omega) (af dp hs.kp.size)) kQ fun MR w X fI _=>?_;replace hs:=fI.s;repeat' first|refine aG ?_;intros
  refine fI.ew (uk (s:=r.b6) fI.r (hc.mv fI.at) (Cells.mv (by assumption) fI.at) fI.z (by(try simp only [ae]);omega) (af dp hs.kp.size)) kQ fun SO w X kP _=>?_;replace hs:=kP.s;repeat' first|refine aG ?_;intros
  refine kP.ew (Gg kP.r (hc.mv kP.at) (Cells.mv (by assumption) kP.at) (a2.mv kP.at) kP.z (af dp hs.kp.size) (by simp only [ae];omega)) kQ fun vb6 w X P2 _=>?_;have h9:=P2;rw [hE] at hK
  (try simp only [aC] at h9 hK)
  exact hK _ _ _ h9
 ·refine bX.ew (iN (s:=r.aw) bX.r (hc.mv bX.at) (Cells.mv (by assumption) bX.at) bX.z (by(try simp only [ae]);omega) (af dp hs.kp.size)) kQ fun kh w X dy _=>?_;replace hs:=dy.s;repeat' first|refine aG ?_;intros
  refine dy.ew (Q4 dy.r (hc.mv dy.at) (Cells.mv (by assumption) dy.at) (a4.mv dy.at) dy.z (af dp hs.kp.size) (by simp only [ae];omega)) kQ fun MR w X fI _=>?_;have h9:=fI;rw [hE] at hK
  (try simp only [aC] at h9 hK)
  exact hK _ _ _ h9
 ·rw [List.append_nil] at hE;have h9:=bX;rw [hE] at hK
  (try simp only [aC] at h9 hK)
  exact hK _ _ _ h9
def Rec.sS (r:Rec):Int:=if r.err≠0 then r.err else if 262144<(uZ r).length then 2 else 0
theorem Q6 {w:World} {X:XS} {r:Rec} {vr vw vp vq vh vd:Value} (h:r.at w X vr vw vp vq vh vd) (jv:r.small) (mH:r.err=0→(uZ r).length≤2^33):
  Ct pg 159 #[r.v vr vw vp vq vh vd] w X nX fun v wa w'=>if r.sS≠0 then v= .tuple #[.slice none 0 0,I r.sS] else∃vb,v= .tuple #[vb,I 0]∧Own w' (made wa w') wa.heap.size 5 1 vb ((uZ r).map U1):=by
 intro w0 hk;replace h:=h.mv hk.cE;have o1:=h.1.one;have o2:=h.2.1.one;have o3:=h.2.2.1.one;have o4:=h.2.2.2.1.one;have o5:=h.2.2.2.2.1.one;have o6:=h.2.2.2.2.2.one;apply Ot;unfold DT;have hs:=aj.init w0;repeat' first|refine aG ?_;intros|refine dj ?_ ?_<;>intros|(with_reducible apply nI);(case hX=>exact hs.has);intro bx w X fi ao bH;have bE:=hs.trans ao;replace hs:=aj.iB ao.has|(refine dH (MG (r:=r) (h.mv (bE.trans hs).mv) jv) kQ hs.has fun w X ao=>?_;replace hs:=hs.trans ao)
 ·have e:r.sS=r.err:=if_pos (by assumption);exact ai (bE.trans hs) fun wa hk=>by dsimp only;rw [e,if_pos (by assumption)]
 ·have P3:r.err=0:=by assumption
  have k3:=mH P3;refine ep Bt kQ hs.has ?_;rintro v wa w2 X2 ⟨wb,rfl,hW⟩ hle eH dF;have xY:=bE.trans (hs.trans dF);have Bm:=bH.lt;have SU:=hs.kp.size;have hz0:=bE.kp.size;have WI:=hW.box.1;have kA:=bH.since (hs.trans dF);refine XT kQ ?_;refine nI xY.has fun cb w3 X3 hcb dZ ac1=>?_;have Cx:=xY.trans dZ;have iq:=kA.since dZ;obtain⟨Z,hZd⟩: ∃Z:XS,Z=fun k=>k=bx∨k=cb∨aR w0 k:=⟨_,rfl⟩;have ajr:wa.heap.size≤wb∧wb<w2.heap.size:=WI;have hZ:qe Z X3 wb (.slice none 0 0):=fun k ah=>by
   rw [hZd] at ah;refine⟨?_,fun hf=>?_⟩
   ·rcases ah with rfl|rfl|ah
    ·exact iq.1
    ·exact ac1.1
    ·exact Cx.sub k ah
   ·rcases hf with hf|hf
    ·rcases ah with e|e|e
     ·omega
     ·omega
     ·have:k<w0.heap.size:=e;omega
    ·cases hf
  have hcC:Cells w3 Z cb 0 (jg wb):=bN.cells (ty:=293) ⟨by rw [hZd];exact .inr (.inl rfl),ac1.2⟩;have hxC:bN w3 Z bx (r.l vr vw vp vq vh vd) 73:=⟨by rw [hZd];exact .inl rfl,iq.2⟩;have haC:r.at w3 Z vr vw vp vq vh vd:=h.mv fun k ah hl=>⟨by rw [hZd];exact .inr (.inr ah),Cx.kp.block k ah⟩;have hW3:Wr w3 X3 wa.heap.size wb (.slice none 0 0) []:=(hW.mv (Mv.sub eH)).mv dZ.mv;refine Ol (VE hW3 hcC hxC haC hZ (by have:=dZ.kp.size;omega) (by simpa using k3)) kQ Cx.has (fun q hq=>by
   rcases hq with rfl|hq
   ·exact hW3.box.1
   ·cases hq) fun v KI w4 X4 hq E8 Di ajs sj=>?_
  obtain⟨rfl,xS,hW4⟩:=hq;have j6:=Cx.dK sj fun k ah hf=>by
   have h0:k<w0.heap.size:=ah;rcases hf with hf|hf
   ·omega
   ·cases hf
  have hW5:Wr w4 X4 wa.heap.size wb xS (uZ r):=hW4.mv (Mv.sub fun k ah=>by
   rcases ah with(ah|ah)|ah
   ·rw [ah];exact sj.sub _ hW3.box.1
   ·cases ah
   ·exact Di k ah)
  refine ep (HF hW5 zQ) kQ j6.has ?_;rintro v5 wa5 w5 X5 P4 SV SX Gh;have hsC:=j6.trans Gh;have ho:Own w5 X5 w0.heap.size 5 1 v5 ((uZ r).map U1):=P4.up SX (by have:=j6.kp.size;omega);clear hs bE;have hs:=hsC;have ov:=ho.sl.one;have hl:(List.map U1 (uZ r)).length=(uZ r).length:=aA _;repeat' first|refine aG ?_;intros|refine dj ?_ ?_<;>intros
  ·have e:r.sS=2:=by unfold Rec.sS;rw [if_neg zQ,if_pos zQ]
   exact ai hs fun wb bD=>by dsimp only;rw [e,if_pos zQ]
  ·have e:r.sS=0:=by unfold Rec.sS;rw [if_neg zQ,if_neg zQ]
   exact ai hs fun wb bD=>by
    dsimp only;rw [e,if_neg zQ];exact⟨v5,rfl,(ho.kp bD).tight⟩
def wQ (n:Int):Bool:=(decide (n≥1)&&decide (n≤12))||(decide (n>20)&&decide (n≤22))||decide (n=31)||decide (n=32)
theorem zM (n:Int):Pure pg 117 #[I n] (B (decide (n≥1)&&decide (n≤12))):=by
 intro w;apply Ou;unfold DU;have hs:=aj.init w;repeat' first|refine aG ?_;intros|refine dj ?_ ?_<;>intros|(with_reducible refine fh hs ?_);simp_all<;>omega
theorem VF (n:Int):Pure pg 76 #[I n] (B (wQ n)):=by
 intro w;apply SY;unfold HK;have hs:=aj.init w;repeat' first|refine aG ?_;intros|refine dj ?_ ?_<;>intros|((with_reducible refine dI (zM _) ?_ hs.has ?_ ?_);(· kernel_rfl);all_goals (intro _ w X ao;replace hs:=hs.trans ao))|(with_reducible refine fh hs ?_);simp_all [wQ]<;>omega
@[ext] structure jX where
 key:BA
 val:nq
 aw:aO
 deriving DecidableEq
abbrev jX.l (x:jX):List Value:=[.string x.key,I x.val.kind,.float .f64 x.val.num,.string x.val.text,I x.aw.wall,I x.aw.dv,I x.aw.node]
@[ext] structure gx where
 kind:Int
 fr:Int
 to:Int
 b6:eh
 range:Int
 jo:Int
 code:Int
 aw:aO
 prev:aO
 ij:Bool
 n:Int
 mx:Int
 keys:List BA
 seen:List jX
 writes:List KV
 parts:List Int
 ranges:List ju
 eb:List Rec
 state:State
 deriving DecidableEq
abbrev gx.l (m:gx) (vk vs vw vp vr vc vh vd:Value):List Value:=[I m.kind,I m.fr,I m.to,I m.b6.iP,I m.b6.lu,I m.b6.sq,I m.range,I m.jo,I m.code,
 I m.aw.wall,I m.aw.dv,I m.aw.node,I m.prev.wall,I m.prev.dv,I m.prev.node,B m.ij,I m.n,I m.mx,vk,vs,vw,vp,vr,vc,
 I m.state.range.id,I m.state.range.jo,.float .f64 m.state.range.lo,.float .f64 m.state.range.hi,
 I m.state.floor.wall,I m.state.floor.dv,I m.state.floor.node,I m.state.closed.wall,I m.state.closed.dv,I m.state.closed.node,vh,vd]
abbrev gx.v (m:gx) (vk vs vw vp vr vc vh vd:Value):Value:=.agg #[I m.kind,I m.fr,I m.to,I m.b6.iP,I m.b6.lu,I m.b6.sq,I m.range,I m.jo,I m.code,
 I m.aw.wall,I m.aw.dv,I m.aw.node,I m.prev.wall,I m.prev.dv,I m.prev.node,B m.ij,I m.n,I m.mx,vk,vs,vw,vp,vr,vc,
 I m.state.range.id,I m.state.range.jo,.float .f64 m.state.range.lo,.float .f64 m.state.range.hi,
 I m.state.floor.wall,I m.state.floor.dv,I m.state.floor.node,I m.state.closed.wall,I m.state.closed.dv,I m.state.closed.node,vh,vd]
structure gx.at (w:World) (X:XS) (m:gx) (vk vs vw vp vr vc vh vd:Value):Prop where
 keys:Sl w X 1 vk (m.keys.map S1)
 seen:Sl w X 7 vs (m.seen.map jX.l)
 writes:Sl w X 4 vw (m.writes.map KV.l)
 parts:Sl w X 1 vp (m.parts.map I1)
 ranges:Sl w X 4 vr (m.ranges.map ju.l)
 eb:gq w X 29 vc Rec.rd m.eb
 gF:lA w X vh m.state.gF
 eK:kH w X vd m.state.eK
theorem gx.at.mv {w w':World} {X Y:XS} {m:gx} {vk vs vw vp vr vc vh vd:Value} (h:m.at w X vk vs vw vp vr vc vh vd) (v:Mv X w Y w'):m.at w' Y vk vs vw vp vr vc vh vd:=
 ⟨h.keys.mv v,h.seen.mv v,h.writes.mv v,h.parts.mv v,h.ranges.mv v,gq.mv h.eb Rec.mv v,gq.mv h.gF iM.mv v,gq.mv h.eK dB.mv v⟩
def gx.rd (w:World) (X:XS) (l:List Value) (m:gx):Prop:= ∃vk vs vw vp vr vc vh vd,l=m.l vk vs vw vp vr vc vh vd∧m.at w X vk vs vw vp vr vc vh vd
theorem gx.mv:E9 gx.rd:=fun ⟨vk,vs,vw,vp,vr,vc,vh,vd,h,h1⟩ m=>⟨vk,vs,vw,vp,vr,vc,vh,vd,h,h1.mv m⟩
theorem Dl {w:World} {X:XS} {a:Value} {xs:List BA} (ha:Sl w X 1 a (xs.map S1)):
  Ct pg 153 #[a] w X nX fun v _ _=>v=B (qV xs):=by
 intro w0 hk;replace ha:=ha.mv hk.cE;have gC:=ha.gw;apply SZ;unfold HL;have hs:=aj.init w0;repeat' first|refine aG ?_;intros
 refine eA (fun n a w X=> ∃i:Nat,a=I (i:Nat)∧n=(xs).length-i∧i≤(xs).length∧aj (aR w0) w0 X w∧chain rF pd none xs=chain rF pd (pe xs i) (xs.drop i)) (xs).length ⟨0,rfl,rfl,aL _,hs,by simp [pe]⟩ ?_;rintro n a w X ⟨i,rfl,rfl,hi,hs,hw⟩;rcases dX (xs) i with⟨cI,x,hx,hd⟩|⟨dV,hd⟩
 ·rcases Jf cI with⟨h0,hp⟩|⟨h0,y,hy,hp⟩<;>rw [hp,hd,chain] at hw<;>clear hd
  ·repeat' first|refine bQ ?_;intros|((with_reducible refine dI (pG _) ?_ hs.has ?_ ?_);(· kernel_rfl);all_goals (intro _ w X ao;replace hs:=hs.trans ao))|((first|(with_reducible refine ai hs ?_)|(with_reducible refine ai (bE.trans hs) ?_));intro wa hk;simp_all [qV,rising,chain])|((with_reducible refine en ((xs).length-(i+1)) ?_ ?_);omega;exact⟨i+1,by simp,rfl,by omega,hs,by rw [hw,nu hx];simp [*]⟩)
  ·repeat' first|refine bQ ?_;intros|refine dj ?_ ?_<;>intros|((with_reducible refine dI (pG _) ?_ hs.has ?_ ?_);(· kernel_rfl);all_goals (intro _ w X ao;replace hs:=hs.trans ao))|((first|(with_reducible refine ai hs ?_)|(with_reducible refine ai (bE.trans hs) ?_));intro wa hk;simp_all [qV,rising,chain])|((with_reducible refine en ((xs).length-(i+1)) ?_ ?_);omega;exact⟨i+1,by simp,rfl,by omega,hs,by rw [hw,nu hx];simp [*]⟩)
 ·repeat' first|refine bQ ?_;intros|refine dj ?_ ?_<;>intros|((first|(with_reducible refine ai hs ?_)|(with_reducible refine ai (bE.trans hs) ?_));intro wa hk;simp_all [qV,rising,chain]<;>omega)
def jX.may (x:jX):Bool:=x.aw.may&&x.val.may&&!(decide (x.aw= .zero)&&decide (x.val.kind≠0))
def DV (l:List jX):Bool:=l.all jX.may&&qV (l.map (·.key))
theorem VG {w:World} {X:XS} {a:Value} {xs:List jX} (ha:Sl w X 7 a (xs.map jX.l)) (hb:xs.length≤2^40):
  Ct pg 155 #[a] w X nX fun v _ _=>v=B (DV xs):=by
 intro w0 hk;replace ha:=ha.mv hk.cE;have gC:=ha.gw;apply S4;unfold HM;have hs:=aj.init w0;repeat' first|refine aG ?_;intros
 refine fT (fun n a b w X=> ∃i:Nat,a=I i∧n=xs.length-i∧i≤xs.length∧aj (aR w0) w0 X w∧Own w X w0.heap.size 9 1 b (((xs.take i).map (·.key)).map S1)∧xs.all jX.may=(xs.drop i).all jX.may) xs.length ⟨0,rfl,rfl,aL _,hs,Own.nil _ _ _ _ _,by simp⟩ ?_;rintro n a b w X ⟨i,rfl,rfl,hi,hs,ho,hw⟩;rcases dX (xs) i with⟨cI,x,hx,hd⟩|⟨dV,hd⟩
 ·rw [hd,im] at hw;have P3: ∀q:Bool,q=false→x.may=q→DV xs=false:=fun q hq h=>by simp [DV,hw,h,hq]
  repeat' first|refine bQ ?_;intros|refine dj ?_ ?_<;>intros|(with_reducible refine wR _ ?_ ?_ ?_);(· kernel_rfl);all_goals intros|((with_reducible apply Ov);(case own=>first|assumption|exact Own.since (by assumption) (by assumption));(case hs=>assumption);(case h0=>first|exact fun _ h=>h|exact bE.has);(case he=>kernel_rfl);(case hk=>rfl);(case ho=>first|rfl|assumption);(case hb=>(simp only [aA,aX,ae,bT,bI];omega));(case hl=>(simp only [aA,aX,ae,bT,bI];omega));intro acc w X ao ho hc fH;replace hs:=ao)|with_reducible apply dJ|((with_reducible refine dI (jf _) ?_ hs.has ?_ ?_);(· kernel_rfl);all_goals (intro _ w X ao;replace hs:=hs.trans ao))|((with_reducible refine dI (ns _) ?_ hs.has ?_ ?_);(· kernel_rfl);all_goals (intro _ w X ao;replace hs:=hs.trans ao))|((first|(with_reducible refine ai hs ?_)|(with_reducible refine ai (bE.trans hs) ?_));intro wa hk;(exact(congrArg B (P3 false rfl (by clear P3;grind [jX.may]))).symm))|((with_reducible refine eR ((xs).length-(i+1)) ?_ ?_);omega;exact⟨i+1,by simp,rfl,by omega,hs,by rw [bg,hx];simp only [iQ,bp,bC,List.map_nil];(first|exact Own.since ho (by assumption)|exact Own.since (Own.since ho (by assumption)) (by assumption)),by rw [hw];clear P3;grind [jX.may]⟩)
 ·rw [hd] at hw;rw [ba dV] at ho;repeat' first|refine bQ ?_;intros|((first|(with_reducible refine ai hs ?_)|(with_reducible refine ai (bE.trans hs) ?_));intro wa hk;(rename_i h;simp [DV,hw,h]))|(refine eO (Dl  (Own.sl ho)) kQ hs.has ?_ ?_<;>(intro _ w X ao;replace hs:=hs.trans ao))
theorem Ox {w:World} {X:XS} {a:Value} {xs:List KV} (ha:Sl w X 4 a (xs.map KV.l)) (hb:xs.length≤2^40):
  Ct pg 156 #[a] w X nX fun v _ _=>v=B (HN xs):=by
 intro w0 hk;replace ha:=ha.mv hk.cE;have gC:=ha.gw;apply MW;unfold CD;have hs:=aj.init w0;repeat' first|refine aG ?_;intros
 refine fT (fun n a b w X=> ∃i:Nat,a=I i∧n=xs.length-i∧i≤xs.length∧aj (aR w0) w0 X w∧Own w X w0.heap.size 9 1 b (((xs.take i).map (·.key)).map S1)∧xs.all (·.val.may)=(xs.drop i).all (·.val.may)) xs.length ⟨0,rfl,rfl,aL _,hs,Own.nil _ _ _ _ _,by simp⟩ ?_;rintro n a b w X ⟨i,rfl,rfl,hi,hs,ho,hw⟩;rcases dX (xs) i with⟨cI,x,hx,hd⟩|⟨dV,hd⟩
 ·rw [hd,im] at hw;have P3:x.val.may=false→HN xs=false:=fun h=>by simp [HN,hw,h]
  repeat' first|refine bQ ?_;intros|((with_reducible apply Ov);(case own=>first|assumption|exact Own.since (by assumption) (by assumption));(case hs=>assumption);(case h0=>first|exact fun _ h=>h|exact bE.has);(case he=>kernel_rfl);(case hk=>rfl);(case ho=>first|rfl|assumption);(case hb=>(simp only [aA,aX,ae,bT,bI];omega));(case hl=>(simp only [aA,aX,ae,bT,bI];omega));intro acc w X ao ho hc fH;replace hs:=ao)|((with_reducible refine dI (ns _) ?_ hs.has ?_ ?_);(· kernel_rfl);all_goals (intro _ w X ao;replace hs:=hs.trans ao))|((first|(with_reducible refine ai hs ?_)|(with_reducible refine ai (bE.trans hs) ?_));intro wa hk;(exact(congrArg B (P3 (by assumption))).symm))|((with_reducible refine eR ((xs).length-(i+1)) ?_ ?_);omega;exact⟨i+1,by simp,rfl,by omega,hs,by rw [bg,hx];simp only [iQ,bp,bC,List.map_nil];exact Own.since ho (by assumption),by rw [hw];clear P3;simp [*]⟩)
 ·rw [hd] at hw;rw [ba dV] at ho;repeat' first|refine bQ ?_;intros|((first|(with_reducible refine ai hs ?_)|(with_reducible refine ai (bE.trans hs) ?_));intro wa hk;(rename_i h;simp [HN,hw,h]))|(refine eO (Dl  (Own.sl ho)) kQ hs.has ?_ ?_<;>(intro _ w X ao;replace hs:=hs.trans ao))
def Jg (l:List ju):Bool:=l.all ju.may&&decide ((l.length:Int)≤12)
theorem S5 {w:World} {X:XS} {a:Value} {xs:List ju} (ha:Sl w X 4 a (xs.map ju.l)):
  Ct pg 195 #[a] w X nX fun v _ _=>v=B (Jg xs):=by
 intro w0 hk;replace ha:=ha.mv hk.cE;have gC:=ha.gw;apply Q7;unfold Gi;have hs:=aj.init w0;repeat' first|refine aG ?_;intros
 refine eA (fun n a w X=> ∃i:Nat,a=I (i:Nat)∧n=(xs).length-i∧i≤(xs).length∧aj (aR w0) w0 X w∧xs.all ju.may=(xs.drop i).all ju.may) (xs).length ⟨0,rfl,rfl,aL _,hs,by simp⟩ ?_;rintro n a w X ⟨i,rfl,rfl,hi,hs,hw⟩;rcases dX (xs) i with⟨cI,x,hx,hd⟩|⟨dV,hd⟩
 ·rw [hd,im] at hw;repeat' first|refine bQ ?_;intros|((with_reducible refine dI (Kw _) ?_ hs.has ?_ ?_);(· kernel_rfl);all_goals (intro _ w X ao;replace hs:=hs.trans ao))|((first|(with_reducible refine ai hs ?_)|(with_reducible refine ai (bE.trans hs) ?_));intro wa hk;(simp [Jg,hw, *]))|((with_reducible refine en ((xs).length-(i+1)) ?_ ?_);omega;exact⟨i+1,by simp,rfl,by omega,hs,by rw [hw];simp [*]⟩)
 ·rw [hd] at hw;repeat' first|refine bQ ?_;intros|refine dj ?_ ?_<;>intros|((first|(with_reducible refine ai hs ?_)|(with_reducible refine ai (bE.trans hs) ?_));intro wa hk;(simp_all [Jg]))
def codeOk (c:Int) (S6:Bool) (l:List ju):Bool:=if c=0 then S6&&decide (l=[])else decide (c>0)&&decide (c≤25)&&Jg l
theorem VH {w:World} {X:XS} {c:Int} {S6:Bool} {a:Value} {xs:List ju} (ha:Sl w X 4 a (xs.map ju.l)):
  Ct pg 154 #[I c,B S6,a] w X nX fun v _ _=>v=B (codeOk c S6 xs):=by
 intro w0 hk;replace ha:=ha.mv hk.cE;have gC:=ha.gw;have XU:xs.length=0↔xs=[]:=mn;apply S7;unfold HO;have hs:=aj.init w0;cases S6<;>
 repeat' first|refine aG ?_;intros|refine dj ?_ ?_<;>intros|with_reducible apply dJ|((first|(with_reducible refine ai hs ?_)|(with_reducible refine ai (bE.trans hs) ?_));intro wa hk;(simp_all [codeOk]<;>omega))|(refine eO (S5  qA) kQ hs.has ?_ ?_<;>(intro _ w X ao;replace hs:=hs.trans ao))
def Jh (l:List Int) (n:Int):Bool:=l.any fun x=>decide (x=n)
theorem XV {w:World} {X:XS} {z:Int} {a:Value} {xs:List Int} (ha:Sl w X 1 a (xs.map I1)):
  Ct pg 158 #[a,I z] w X nX fun v _ _=>v=B (Jh xs z):=by
 intro w0 hk;replace ha:=ha.mv hk.cE;have gC:=ha.gw;apply VI;unfold KJ;have hs:=aj.init w0;repeat' first|refine aG ?_;intros
 refine eA (fun n a w X=> ∃i:Nat,a=I (i:Nat)∧n=(xs).length-i∧i≤(xs).length∧aj (aR w0) w0 X w∧Jh xs z=Jh (xs.drop i) z) (xs).length ⟨0,rfl,rfl,aL _,hs,by simp⟩ ?_;rintro n a w X ⟨i,rfl,rfl,hi,hs,hw⟩;rcases dX (xs) i with⟨cI,x,hx,hd⟩|⟨dV,hd⟩
 ·rw [hd] at hw;repeat' first|refine bQ ?_;intros|refine dj ?_ ?_<;>intros|((first|(with_reducible refine ai hs ?_)|(with_reducible refine ai (bE.trans hs) ?_));intro wa hk;(rw [hw];simp [Jh, *]))|((with_reducible refine en ((xs).length-(i+1)) ?_ ?_);omega;exact⟨i+1,by simp,rfl,by omega,hs,by rw [hw];simp [Jh, *]⟩)
 ·rw [hd] at hw;repeat' first|refine bQ ?_;intros|((first|(with_reducible refine ai hs ?_)|(with_reducible refine ai (bE.trans hs) ?_));intro wa hk;(rw [hw];rfl))
def Ji (l:List Rec):Bool:=l.all (fun r=>decide (r.sS=0))&&decide ((l.length:Int)≤8)
theorem S8 {w:World} {X:XS} {a:Value} {xs:List Rec} (ha:gq w X 29 a Rec.rd xs) (jv: ∀r∈xs,r.small) (mH: ∀r∈xs,r.err=0→(uZ r).length≤2^33):
  Ct pg 120 #[a] w X nX fun v _ _=>v=B (Ji xs):=by
 intro w0 hk;replace ha:=gq.mv ha Rec.mv hk.cE;have gC:=ha.len;apply Q8;unfold Gj;have hs:=aj.init w0;repeat' first|refine aG ?_;intros
 refine eA (fun n a w X=> ∃i:Nat,a=I (i:Nat)∧n=(xs).length-i∧i≤(xs).length∧aj (aR w0) w0 X w∧xs.all (fun r=>decide (r.sS=0))=(xs.drop i).all (fun r=>decide (r.sS=0))) (xs).length ⟨0,rfl,rfl,aL _,hs,by simp⟩ ?_;rintro n a w X ⟨i,rfl,rfl,hi,hs,hw⟩;rcases dX (xs) i with⟨cI,x,hx,hd⟩|⟨dV,hd⟩
 ·rw [hd,im] at hw;have KD:=List.mem_of_getElem? hx;repeat' first|refine bQ ?_;intros|((with_reducible apply Oy);assumption;(try (case hz=>rfl));(case hr=>exact qR);(try (case hz=>omega));(case ht=>kernel_rfl);(case hs=>kernel_rfl);intros)
  refine ep (Q6 (r:=x) (Rec.at.mv (by assumption) hs.mv) (jv x KD) (mH x KD)) kQ hs.has ?_;rintro v wa w2 X2 hq hle eH dF;replace hs:=hs.trans dF;by_cases he:x.sS=0
  ·rw [if_neg zQ] at hq;obtain⟨vb,rfl,_⟩:=hq;repeat' first|refine bQ ?_;intros|((with_reducible refine en ((xs).length-(i+1)) ?_ ?_);omega;exact⟨i+1,by simp,rfl,by omega,hs,by rw [hw];simp [he]⟩)
  ·rw [if_pos he] at hq;subst hq;repeat' first|refine bQ ?_;intros|((first|(with_reducible refine ai hs ?_)|(with_reducible refine ai (bE.trans hs) ?_));intro wa hk;(simp [Ji,hw,he]))
 ·rw [hd] at hw;repeat' first|refine bQ ?_;intros|refine dj ?_ ?_<;>intros|((first|(with_reducible refine ai hs ?_)|(with_reducible refine ai (bE.trans hs) ?_));intro wa hk;(simp_all [Ji]))
structure gx.small (m:gx):Prop where
 seen:m.seen.length≤2^40
 writes:m.writes.length≤2^40
 eb: ∀r∈m.eb,r.small
 enc: ∀r∈m.eb,r.err=0→(uZ r).length≤2^33
 state:m.state.small
def gx.Oz (m:gx):Bool:=m.b6.may&&qd m.range&&(
 if m.kind=1 then decide (m.jo≥0)&&m.aw.may&&qV m.keys&&decide ((m.keys.length:Int)>0)
 else if m.kind=2 then codeOk m.code (DV m.seen&&decide ((m.seen.length:Int)>0)) m.ranges&&m.aw.may&&(decide (m.code=0)||decide ((m.seen.length:Int)=0))
 else if m.kind=3 then decide (m.jo≥0)&&m.aw.may&&DV m.seen&&HN m.writes&&yn m.parts&&Jh m.parts m.range
 else if m.kind=4 then codeOk m.code true m.ranges&&m.aw.may
 else if m.kind=5 then(if m.ij then m.aw.may&&decide (m.aw≠ .zero)else decide (m.aw= .zero))
 else true)
theorem S9 {w:World} {X:XS} {m:gx} {vk vs vw vp vr vc vh vd:Value} (h:m.at w X vk vs vw vp vr vc vh vd) (jv:m.small):
  Ct pg 119 #[m.v vk vs vw vp vr vc vh vd] w X nX fun v _ _=>v=B m.Oz:=by
 intro w0 hk;replace h:=h.mv hk.cE;obtain⟨h1,h2,h3,h4,h5,h6,h7,h8⟩:=h;obtain⟨b1,n1,c1,rfl⟩:=h1.form;obtain⟨b2,n2,c2,rfl⟩:=h2.form;obtain⟨b3,n3,c3,rfl⟩:=h3.form;obtain⟨b4,n4,c4,rfl⟩:=h4.form;obtain⟨b5,n5,c5,rfl⟩:=h5.form;apply Q9;unfold Gk;have hs:=aj.init w0;repeat' first|refine aG ?_;intros|refine dj ?_ ?_<;>intros|(with_reducible refine wR _ ?_ ?_ ?_);(· kernel_rfl);all_goals intros|(with_reducible refine aae _ ?_ ?_ ?_);(· kernel_rfl);all_goals intros|with_reducible apply dJ|((with_reducible refine dI (jf _) ?_ hs.has ?_ ?_);(· kernel_rfl);all_goals (intro _ w X ao;replace hs:=hs.trans ao))|((with_reducible refine dI (zM _) ?_ hs.has ?_ ?_);(· kernel_rfl);all_goals (intro _ w X ao;replace hs:=hs.trans ao))|((with_reducible refine dI (zJ _) ?_ hs.has ?_ ?_);(· kernel_rfl);all_goals (intro _ w X ao;replace hs:=hs.trans ao))|(refine eO (Dl  qA) kQ hs.has ?_ ?_<;>(intro _ w X ao;replace hs:=hs.trans ao))|(refine eO (VG  qA jv.seen) kQ hs.has ?_ ?_<;>(intro _ w X ao;replace hs:=hs.trans ao))|(refine eO (Ox  qA jv.writes) kQ hs.has ?_ ?_<;>(intro _ w X ao;replace hs:=hs.trans ao))|(refine eO (Hv  qA) kQ hs.has ?_ ?_<;>(intro _ w X ao;replace hs:=hs.trans ao))|(refine eO (XV  qA) kQ hs.has ?_ ?_<;>(intro _ w X ao;replace hs:=hs.trans ao))|(refine eO ((VH (xs:=m.ranges))  qA) kQ hs.has ?_ ?_<;>(intro _ w X ao;replace hs:=hs.trans ao))
 all_goals
  (with_reducible refine ai hs ?_)
  intro wa bD;unfold gx.Oz;repeat (first|rw [if_pos zQ]|rw [if_neg zQ])
  simp_all [qd]<;>first|omega|(rename_i z9;intro e9;simp [e9] at z9;done)|(intro e9;simp_all;done)|grind
def gx.lI (m:gx):Bool:=
 if 1≤m.kind∧m.kind≤7 then m.Oz
 else if m.kind=8 then qd m.range&&decide (m.n≥1)&&decide (m.mx≥0)&&decide (m.mx≤8)&&m.aw.may
 else if m.kind=9 then qd m.range&&decide (m.n≥1)&&Ji m.eb
 else if m.kind=10 then qd m.range&&m.state.may&&decide (m.state.range.id=m.range)
 else if m.kind=11 then qd m.range
 else if m.kind=12 then I7 m.prev m.aw m.b6 m.writes
 else if m.kind=14 then m.aw.may
 else true
theorem OA {w:World} {X:XS} {m:gx} {vk vs vw vp vr vc vh vd:Value} (h:m.at w X vk vs vw vp vr vc vh vd) (jv:m.small):
  Ct pg 78 #[m.v vk vs vw vp vr vc vh vd] w X nX fun v _ _=>v=B m.lI:=by
 intro w0 hk;replace h:=h.mv hk.cE;obtain⟨h1,h2,h3,h4,h5,h6,h7,h8⟩:=id h;obtain⟨b3,n3,c3,rfl⟩:=h3.form;apply OB;unfold DW;have hs:=aj.init w0;repeat' first|refine aG ?_;intros|refine dj ?_ ?_<;>intros|with_reducible apply dJ|((with_reducible refine dI (jf _) ?_ hs.has ?_ ?_);(· kernel_rfl);all_goals (intro _ w X ao;replace hs:=hs.trans ao))|((with_reducible refine dI (zM _) ?_ hs.has ?_ ?_);(· kernel_rfl);all_goals (intro _ w X ao;replace hs:=hs.trans ao))|(refine eO ((S9 (m:=m))  (h.mv (aj.mv hs)) jv) kQ hs.has ?_ ?_<;>(intro _ w X ao;replace hs:=hs.trans ao))|(refine eO ((S8 (xs:=m.eb))  (gq.mv h6 Rec.mv (aj.mv hs)) jv.eb jv.enc) kQ hs.has ?_ ?_<;>(intro _ w X ao;replace hs:=hs.trans ao))|(refine eO (Cs  (s:=m.state) qA qA jv.state) kQ hs.has ?_ ?_<;>(intro _ w X ao;replace hs:=hs.trans ao))|(refine eO ((Hu (l:=m.writes))  qA jv.writes) kQ hs.has ?_ ?_<;>(intro _ w X ao;replace hs:=hs.trans ao))
 all_goals
  (with_reducible refine ai hs ?_)
  intro wa bD;unfold gx.lI;repeat (first|rw [if_pos zQ]|rw [if_neg zQ])
  try (simp_all [qd]<;>first|omega|grind)
def gx.isZero (m:gx):Bool:=decide (m.b6= .zero)&&decide (m.range=0)&&decide (m.jo=0)&&decide (m.code=0)&&decide (m.aw= .zero)&&decide (m.prev= .zero)&&!m.ij&&decide (m.n=0)&&decide (m.mx=0)&&
 m.state.isZero&&decide ((m.keys.length:Int)+m.seen.length+m.writes.length+m.parts.length+m.ranges.length+m.eb.length=0)
theorem Ta {w:World} {X:XS} {m:gx} {vk vs vw vp vr vc vh vd:Value} (h:m.at w X vk vs vw vp vr vc vh vd) (P5:m.keys.length+m.seen.length+m.writes.length+m.parts.length+m.ranges.length+m.eb.length≤2^62):
  Ct pg 77 #[m.v vk vs vw vp vr vc vh vd] w X nX fun v _ _=>v=B m.isZero:=by
 intro w0 hk;replace h:=h.mv hk.cE;obtain⟨h1,h2,h3,h4,h5,h6,h7,h8⟩:=h;have o7:=h7.one;have o8:=h8.one;have q1:m.state.gF.length=0↔m.state.gF=[]:=mn;have q2:m.state.eK.length=0↔m.state.eK=[]:=mn;apply Tb;unfold HP;have hs:=aj.init w0;cases hc:m.ij<;>
 repeat' first|refine aG ?_;intros|refine dj ?_ ?_<;>intros|(with_reducible refine wR _ ?_ ?_ ?_);(· kernel_rfl);all_goals intros|(with_reducible refine aaf _ ?_ ?_ ?_);(· kernel_rfl);all_goals intros|with_reducible apply dJ|((first|(with_reducible refine ai hs ?_)|(with_reducible refine ai (bE.trans hs) ?_));intro wa hk;(simp_all [gx.isZero,State.isZero,ju.ext_iff]<;>omega))|((with_reducible refine Bx (yr _) hs.has ?_);intro w X ao;replace hs:=hs.trans ao)
def gx.strip (m:gx):gx×Bool:=
 if m.kind=1 then({ m with b6:=.zero,range:=0,jo:=0,aw:=.zero,keys:=[] },true)
 else if m.kind=2 then({ m with b6:=.zero,range:=0,code:=0,aw:=.zero,seen:=[],ranges:=[] },true)
 else if m.kind=3 then({ m with b6:=.zero,range:=0,jo:=0,aw:=.zero,seen:=[],writes:=[],parts:=[] },true)
 else if m.kind=4 then({ m with b6:=.zero,range:=0,code:=0,aw:=.zero,ranges:=[] },true)
 else if m.kind=5 then({ m with b6:=.zero,range:=0,ij:=false,aw:=.zero },true)
 else if m.kind=6∨m.kind=7 then({ m with b6:=.zero,range:=0 },true)
 else if m.kind=8 then({ m with range:=0,n:=0,mx:=0,aw:=.zero },true)
 else if m.kind=9 then({ m with range:=0,n:=0,eb:=[] },true)
 else if m.kind=10 then({ m with range:=0,state:=.zero },true)
 else if m.kind=11 then({ m with range:=0 },true)
 else if m.kind=12 then({ m with prev:=.zero,aw:=.zero,b6:=.zero,writes:=[] },true)
 else if m.kind=13 then(m,true)
 else if m.kind=14 then({ m with aw:=.zero },true)
 else(m,false)
theorem MX {w:World} {X:XS} {m:gx} {vk vs vw vp vr vc vh vd:Value} (h:m.at w X vk vs vw vp vr vc vh vd):
  Ct pg 75 #[m.v vk vs vw vp vr vc vh vd] w X nX fun v wa w'=> ∃vk' vs' oY Sr Sq vc' Ss St,v= .tuple #[m.strip.1.v vk' vs' oY Sr Sq vc' Ss St,B m.strip.2]∧
   m.strip.1.at w X vk' vs' oY Sr Sq vc' Ss St:=by
 intro w0 hk;obtain⟨h1,h2,h3,h4,h5,h6,h7,h8⟩:=h;have o1:=h1.one;have o2:=h2.one;have o3:=h3.one;have o4:=h4.one;have o5:=h5.one;have o6:=h6.one;have o7:=h7.one;have o8:=h8.one;apply MY;unfold CE;have hs:=aj.init w0;have n1:Sl w X 1 (.slice none 0 0) (([]:List BA).map S1):=Sl.nil _ _ _;have n2:Sl w X 7 (.slice none 0 0) (([]:List jX).map jX.l):=Sl.nil _ _ _;have n3:Sl w X 4 (.slice none 0 0) (([]:List KV).map KV.l):=Sl.nil _ _ _;have n4:Sl w X 1 (.slice none 0 0) (([]:List Int).map I1):=Sl.nil _ _ _;have n5:Sl w X 4 (.slice none 0 0) (([]:List ju).map ju.l):=Sl.nil _ _ _;have n6:gq w X 29 (.slice none 0 0) Rec.rd []:=gq.nil _ _ _;have n7:lA w X (.slice none 0 0) []:=gq.nil _ _ _;have n8:kH w X (.slice none 0 0) []:=gq.nil _ _ _;repeat' first|refine aG ?_;intros|refine dj ?_ ?_<;>intros|with_reducible apply dJ
 all_goals
  refine ai hs ?_;intro wa bD;unfold gx.strip;repeat (first|rw [if_pos zQ]|rw [if_neg zQ])
  exact⟨_,_,_,_,_,_,_,_,rfl,by assumption,by assumption,by assumption,by assumption,by assumption,by assumption,by assumption,by assumption⟩
def gx.err (m:gx):Int:=if !m.strip.2 then 7 else if !wQ m.fr||!wQ m.to||!m.strip.1.isZero||!m.lI then 4 else 0
def gx.lens (m:gx):Nat:=m.keys.length+m.seen.length+m.writes.length+m.parts.length+m.ranges.length+m.eb.length
theorem abq {c:Prop} [Decidable c] {a b:gx×Bool} {n:Nat} (ha:a.1.lens≤n) (hb:b.1.lens≤n):(if c then a else b).1.lens≤n:=by split<;>assumption
theorem gx.XW (m:gx):m.strip.1.lens≤m.lens:=by
 unfold gx.strip;repeat' with_reducible apply abq
 all_goals (unfold gx.lens;(try simp only [bI]);omega)
theorem VJ {w:World} {X:XS} {m:gx} {vk vs vw vp vr vc vh vd:Value} (h:m.at w X vk vs vw vp vr vc vh vd) (jv:m.small) (P5:m.lens≤2^62):
  Ct pg 29 #[m.v vk vs vw vp vr vc vh vd] w X nX fun v _ _=>v=I m.err:=by
 intro w0 hk;have h:=h.mv hk.cE;have ahG:=af m.XW P5;apply VK;unfold KK;have hs:=aj.init w0;refine ep (MX h) kQ hs.has ?_;rintro v wa w X ⟨vk',vs',oY,Sr,Sq,vc',Ss,St,rfl,fH⟩ hle eH ao;replace hs:=hs.trans ao;have q1:=fH.1.one;have q2:=fH.2.one;have q3:=fH.3.one;have q4:=fH.4.one;have q5:=fH.5.one;have q6:=fH.6.one;have q7:=fH.7.one;have q8:=fH.8.one;cases hb:m.strip.2<;>
 repeat' first|refine aG ?_;intros|with_reducible apply dJ|((with_reducible refine dI (VF _) ?_ hs.has ?_ ?_);(· kernel_rfl);all_goals (intro _ w X ao;replace hs:=hs.trans ao))|((first|(with_reducible refine ai hs ?_)|(with_reducible refine ai (bE.trans hs) ?_));intro wa hk;(simp [gx.err, *]))|(refine eO ((Ta (m:=m.strip.1))  (fH.mv (aj.mv (by first|assumption|exact aj.trans (by assumption) (by assumption)))) ahG) kQ hs.has ?_ ?_<;>(intro _ w X ao;replace hs:=hs.trans ao))|(refine eO ((OA (m:=m))  (h.mv (aj.mv hs)) jv) kQ hs.has ?_ ?_<;>(intro _ w X ao;replace hs:=hs.trans ao))
section
variable {κ : Type} [DecidableEq κ] {α β : Type}
theorem Tc (f:α→β) (k:κ) (l:List (κ×α)):getM k (l.map fun x=>(x.1,f x.2))=(getM k l).map f:=by
 induction l with
 |nil=>rfl
 |cons x l ih=>
  simp only [getM,bC,b8] at ih⊢;by_cases hx:x.1=k
  ·simp [hx]
  ·simp only [hx,decide_false] at ih⊢;exact ih
theorem Fa (f:α→β) (k:κ) (a:α) (l:List (κ×α)):(bU k a l).map (fun x=>(x.1,f x.2))=bU k (f a) (l.map fun x=>(x.1,f x.2)):=by
 induction l with
 |nil=>rfl
 |cons x l ih=>
  simp only [bU,bC] at ih⊢;by_cases hx:x.1=k
  ·simp [hx]
  ·simp only [hx,if_false,bC,ih]
theorem Td (f:α→β) (k:κ) (l:List (κ×α)):(jm k l).map (fun x=>(x.1,f x.2))=jm k (l.map fun x=>(x.1,f x.2)):=by
 unfold jm;rw [List.filter_map];rfl
theorem abr (f:α→β) (k:κ) (a:α) {l:List (κ×α)} (h: ∀x∈l,x.1=k→f x.2=f a) (hk:(getM k l).isSome=true):(bU k a l).map (fun x=>(x.1,f x.2))=l.map fun x=>(x.1,f x.2):=by
 induction l with
 |nil=>cases hk
 |cons x l ih=>
  simp only [bU];by_cases hx:x.1=k
  ·simp [hx,h x (by simp) hx]
  ·simp only [hx,if_false,bC];rw [ih (fun y hy=>h y (by simp [hy])) (by simpa [getM,b8,hx] using hk)]
theorem P6 (k:κ) (a:α) (l:List (κ×α)):(bU k a l).map (·.1)=if(getM k l).isSome then l.map (·.1)else l.map (·.1)++[k]:=by
 induction l with
 |nil=>rfl
 |cons x l ih=>
  simp only [bU];by_cases hx:x.1=k
  ·simp [hx,getM]
  ·have e:getM k (x::l)=getM k l:=by simp [getM,b8,hx]
   rw [if_neg hx,e,bC,ih];split<;>simp
theorem getM_none {k:κ} {l:List (κ×α)} :getM k l=none↔k ∉ l.map (·.1):=by
 induction l with
 |nil=>simp [getM]
 |cons x l ih=>
  by_cases hx:x.1=k
  ·simp [getM,hx]
  ·have e:getM k (x::l)=getM k l:=by simp [getM,b8,hx]
   rw [e,ih];simp [Ne.symm (hx:x.1≠k),eq_comm,hx]
theorem XX {k:κ} {a:α} {l:List (κ×α)} (h:(l.map (·.1)).Nodup):((bU k a l).map (·.1)).Nodup:=by
 rw [P6];split
 ·exact h
 ·rename_i hn;have kd:getM k l=none:=by cases hg:getM k l with|none=>rfl|some a=>simp [hg] at hn
  rw [List.nodup_append];refine⟨h,by simp,fun a ha b hb e=>?_⟩;simp only [ej] at hb;subst hb;subst e;exact getM_none.1 kd ha
theorem lJ {k:κ} {a:α} {l:List (κ×α)} :getM k (bU k a l)=some a:=by
 induction l with
 |nil=>simp [bU,getM]
 |cons x l ih=>
  simp only [bU];by_cases hx:x.1=k
  ·simp [hx,getM]
  ·rw [if_neg hx];simpa [getM,b8,hx] using ih
theorem mq {k j:κ} {a:α} {l:List (κ×α)} (hj:j≠k):getM j (bU k a l)=getM j l:=by
 induction l with
 |nil=>simp [bU,getM,Ne.symm hj]
 |cons x l ih=>
  simp only [bU];by_cases hx:x.1=k
  ·rw [if_pos hx];simp [getM,b8,Ne.symm hj,hx]
  ·rw [if_neg hx];by_cases hxj:x.1=j
   ·simp [getM,hxj]
   ·simpa [getM,b8,hxj] using ih
theorem P7 {R:κ×α→κ×α→Prop} {k:κ} {a:α} {l:List (κ×α)} (hn:(l.map (·.1)).Nodup) (hp:l.Pairwise R) (h: ∀y∈l,y.1≠k→R (k,a) y∧R y (k,a)):(bU k a l).Pairwise R:=by
 induction l with
 |nil=>simp [bU]
 |cons x l ih=>
  have kd:=List.nodup_cons.1 hn;have hp':=List.pairwise_cons.1 hp;simp only [bU];by_cases hx:x.1=k
  ·rw [if_pos hx,jO];refine⟨fun y hy=>(h y (by simp [hy]) fun e=>kd.1 (List.mem_map.2 ⟨y,hy,e.trans hx.symm⟩)).1,hp'.2⟩
  ·rw [if_neg hx,jO];refine⟨fun y hy=>?_,ih kd.2 hp'.2 fun y hy=>h y (by simp [hy])⟩;rcases fB kd.2 hy with rfl|⟨hy,_⟩
   ·exact(h x (by simp) hx).2
   ·exact hp'.1 y hy
def rO (f:α→Nat) (l:List (κ×α)):Nat:=(l.map fun x=>f x.2).sum
theorem abt {f:α→Nat} {k:κ} {a b:α} {l:List (κ×α)} (h:getM k l=some b):rO f (bU k a l)+f b=rO f l+f a:=by
 induction l with
 |nil=>cases h
 |cons x l ih=>
  simp only [bU];by_cases hx:x.1=k
  ·have:x.2=b:=by simpa [getM,hx] using h
   rw [if_pos hx];simp only [rO,bC,fV,this];omega
  ·rw [if_neg hx];have:=ih (by simpa [getM,b8,hx] using h);simp only [rO,bC,fV] at this⊢;omega
theorem Te {f:α→Nat} {k:κ} {a:α} {l:List (κ×α)} (h:getM k l=none):rO f (bU k a l)=rO f l+f a:=by
 induction l with
 |nil=>simp [bU,rO]
 |cons x l ih=>
  simp only [bU];by_cases hx:x.1=k
  ·simp [getM,hx] at h
  ·rw [if_neg hx];have:=ih (by simpa [getM,b8,hx] using h);simp only [rO,bC,fV] at this⊢;omega
theorem abu {f:α→Nat} {k:κ} {b:α} {l:List (κ×α)} (h:getM k l=some b):f b≤rO f l:=by
 induction l with
 |nil=>cases h
 |cons x l ih=>
  by_cases hx:x.1=k
  ·have:x.2=b:=by simpa [getM,hx] using h
   simp only [rO,bC,fV,this];omega
  ·have:=ih (by simpa [getM,b8,hx] using h);simp only [rO,bC,fV] at this⊢;omega
theorem abv {f:α→Nat} {k:κ} {b:α} {l:List (κ×α)} (hn:(l.map (·.1)).Nodup) (h:getM k l=some b):rO f (jm k l)+f b=rO f l:=by
 induction l with
 |nil=>cases h
 |cons x l ih=>
  have kd:=List.nodup_cons.1 hn;unfold jm at ih⊢;by_cases hx:x.1=k
  ·have:x.2=b:=by simpa [getM,hx] using h
   have e:l.filter (fun y=>decide (y.1≠k))=l:=List.filter_eq_self.2 fun y hy=>by
    have:y.1≠k:=fun e=>kd.1 (List.mem_map.2 ⟨y,hy,e.trans hx.symm⟩);simpa using this
   rw [List.filter_cons_of_neg (by simp [hx]),e];simp only [rO,bC,fV,this];omega
  ·rw [List.filter_cons_of_pos (by simpa using hx)];have:=ih kd.2 (by simpa [getM,b8,hx] using h);simp only [rO,bC,fV] at this⊢;omega
end
structure DM where
 fs:List (ByteArray×(List Nat×Nat))
 wr:Int
 ar:Nat
 dn:Bool
def DM.sz (m:DM):Nat:=rO (fun x=>x.1.length) m.fs
def DM.get (m:DM) (n:ByteArray):Option (List Nat×Nat):=getM n m.fs
def DM.put (m:DM) (n:ByteArray) (bs:List Nat) (s:Nat):DM:= { m with fs:=bU n (bs,s) m.fs }
def DM.del (m:DM) (n:ByteArray):DM:= { m with fs:=jm n m.fs }
def DM.tick (m:DM):DM:=if m.ar=1 then { m with ar:=0,dn:=true } else { m with ar:=m.ar-1,wr:=IntKind.i64.wrap (m.wr+1) }
def DM.write (m:DM) (e:Nat) (f:DM→DM):DM×Nat:=if m.dn then(m,12)else if e≠0 then(m,e)else if m.tick.dn then(m.tick,12)else(f m.tick,0)
def By (n:ByteArray):Bool:=decide (1≤n.size∧n.size≤20)
def DM.create (m:DM) (n:ByteArray):DM×Nat:=m.write (if¬By n then 10 else if(m.get n).isSome then 9 else if 64≤m.fs.length then 3 else 0) fun m=>m.put n [] 0
def DM.append (m:DM) (n:ByteArray) (b:List Nat):DM×Nat:=
 if m.dn then(m,12)else match m.get n with
 |none=>(m,8)
 |some (bs,s)=>if 4194304-m.sz<b.length then(m,11)else(m.tick.put n (bs++b) s,if m.tick.dn then 12 else 0)
def DM.CF (n:ByteArray) (m:DM):DM:=match m.get n with
 |none=>m
 |some x=>m.put n x.1 x.1.length
def DM.sync (m:DM) (n:ByteArray):DM×Nat:=m.write (if(m.get n).isSome then 0 else 8) (DM.CF n)
theorem DM.A4 (m:DM):m.tick.fs=m.fs:=by unfold DM.tick;split<;>rfl
theorem DM.yt (m:DM) (n:ByteArray):m.tick.get n=m.get n:=by unfold DM.get;rw [m.A4]
theorem DM.WJ (m:DM):m.tick.sz=m.sz:=by unfold DM.sz;rw [m.A4]
theorem DM.aag {m:DM} {n:ByteArray} {b bs:List Nat} {s s':Nat} (h:m.get n=some (b,s)):(m.put n bs s').sz+b.length=m.sz+bs.length:=abt (f:=fun x:List Nat×Nat=>x.1.length) h
theorem DM.WK {m:DM} {n:ByteArray} {bs:List Nat} {s':Nat} (h:m.get n=none):(m.put n bs s').sz=m.sz+bs.length:=Te (f:=fun x:List Nat×Nat=>x.1.length) h
theorem DM.abw (m:DM) (n:ByteArray):(m.CF n).sz=m.sz:=by
 unfold DM.CF;split
 ·rfl
 ·rename_i x hx;have:=DM.aag (bs:=x.1) (s':=x.1.length) hx;omega
theorem DM.adx {m:DM} {n:ByteArray} {b:List Nat} {s:Nat} (h:m.get n=some (b,s)):b.length≤m.sz:=abu (f:=fun x:List Nat×Nat=>x.1.length) h
structure jY where
 b:Nat
 v:Value
 bs:List Nat
 safe:Nat
def jY.er (f:jY):List Nat×Nat:=(f.bs,f.safe)
def HQ:World→XS→Value→jY→Prop:=fun _ _ v f=>v=ptr f.b 0
theorem jx:oZ HQ:=fun _ _ _ _ _ _ h _=>h
def apart (x y:ByteArray×jY):Prop:=x.2.b≠y.2.b∧ ∀g,x.2.v.ownBlock=some g→y.2.v.ownBlock≠some g
structure lV (w:World) (F:XS) (db mb:Nat) (l:List (ByteArray×jY)) (m:DM) (z:Nat):Prop where
 fs:m.fs=l.map fun x=>(x.1,x.2.er)
 box:bN w F db [.map (some mb),I z,I m.wr,I m.ar,B m.dn] 79
 map:fL w F nX mb di HQ l
 row: ∀x∈l,bN w F x.2.b [x.2.v,I x.2.safe] 193
 ow: ∀x∈l,Ow w F 5 1 x.2.v (x.2.bs.map U1)
 ap:l.Pairwise apart
 ar:m.ar<2^63
 safe: ∀x∈l,x.2.safe≤x.2.bs.length
def Dk (w:World) (F:XS) (db:Nat) (m:DM):Prop:= ∃mb l,lV w F db mb l m m.sz∧m.sz≤4194304
section
variable {w w' : World} {F F' X X' G A : XS} {db mb z z' : Nat} {l : List (ByteArray × jY)} {m m' : DM} {n : ByteArray} {f : jY}
theorem lV.mv (h:lV w F db mb l m z) (v:Mv F w F' w'):lV w' F' db mb l m z:=
 ⟨h.fs,h.box.mv v,h.map.mv jx v (fun _ h=>h.elim),fun x hx=>(h.row x hx).mv v,fun x hx=>(h.ow x hx).mv v,h.ap,h.ar,h.safe⟩
theorem Dk.mv (h:Dk w F db m) (v:Mv F w F' w'):Dk w' F' db m:=let⟨mb,l,h,hz⟩:=h;⟨mb,l,h.mv v,hz⟩
theorem Dk.mono (h:Dk w F db m) (hs: ∀k,F k→F' k):Dk w F' db m:=h.mv (Mv.sub hs)
theorem lV.get (h:lV w F db mb l m z) (n:ByteArray):m.get n=(getM n l).map jY.er:=by
 unfold DM.get;rw [h.fs];exact Tc jY.er n l
theorem lV.nodup (h:lV w F db mb l m z):(l.map (·.1)).Nodup:=h.map.nodup
theorem lV.len (h:lV w F db mb l m z):m.fs.length=l.length:=by rw [h.fs,aA]
theorem lV.aeN (h:lV w F db mb l m z) (hX: ∀k,F k→X k) (c:eo (· =db) X w X' w') (hr:bN w' X' db [.map (some mb),I z',I m'.wr,I m'.ar,B m'.dn] 79) (MZ:m'.fs=m.fs) (har:m'.ar<2^63):lV w' F db mb l m' z':=by
 have mv: ∀{A:XS},(∀k,A k→F k∧k≠db)→Mv A w F w':=fun hA k hk _=>⟨(hA k hk).1,c.block k (hX k (hA k hk).1) (hA k hk).2⟩;refine⟨MZ.trans h.fs,⟨h.box.1,hr.2⟩,?_,fun x hx=>?_,fun x hx=>?_,h.ap,har,h.safe⟩
 ·exact h.map.own.mv jx (mv fun k hk=>by subst hk;exact⟨h.map.x.1,h.map.gi h.box⟩) fun _ h=>h.elim
 ·exact(h.row x hx).own.mv (mv fun k hk=>by subst hk;exact⟨(h.row x hx).1,(h.row x hx).gi h.box kQ⟩)
 ·exact(h.ow x hx).tight.mv (mv fun k hk=>⟨((h.ow x hx).bm hk).1,fun e=>(h.ow x hx).gi h.box kQ (e▸hk)⟩)
theorem ac2 {α:Type} {R:α→α→Prop} (hs: ∀a b,R a b→R b a) {l:List α} (h:l.Pairwise R) {x y:α} (hx:x∈l) (hy:y∈l) (cn:x≠y):R x y:=by
 induction l with
 |nil=>cases hx
 |cons a l ih=>
  have h':=List.pairwise_cons.1 h;rcases List.mem_cons.1 hx with e1|h1
  ·rcases List.mem_cons.1 hy with e2|h2
   ·exact absurd (e1.trans e2.symm) cn
   ·rw [e1];exact h'.1 y h2
  ·rcases List.mem_cons.1 hy with e2|h2
   ·rw [e2];exact hs _ _ (h'.1 x h1)
   ·exact ih h'.2 h1 h2
theorem AM: ∀a b:ByteArray×jY,apart a b→apart b a:=fun a b h=>⟨Ne.symm h.1,fun g hg gA=>h.2 g gA hg⟩
theorem lV.far (h:lV w F db mb l m z) (hn:getM n l=some f) {y:ByteArray×jY} (hy:y∈l) (cn:y.1≠n):apart (n,f) y:=
 ac2 AM h.ap (lg hn) hy fun e=>cn (by rw [←e])
theorem jw.ids {A:XS} : ∀{es:List (iD ByteArray)} {l l':List (ByteArray×jY)},jw w A HQ es l→l'.map (fun x=>(x.1,x.2.b))=l.map (fun x=>(x.1,x.2.b))→jw w A HQ es l'
 |[],[],[],_,_=>trivial
 |[],[],_::_,_,h=>by cases h
 |e::es,x::l,[],_,h=>by cases h
 |e::es,x::l,y::l',⟨h1,h2,h3⟩,h=>by
  simp only [bC,List.cons.injEq,Prod.mk.injEq] at h;exact⟨h1.trans h.1.1.symm,by unfold HQ at h2⊢;rw [h2,h.1.2],jw.ids h3 h.2⟩
 |[],_::_,_,h,_=>h.elim
 |_::_,[],_,h,_=>h.elim
theorem lV.lR (h:lV w F db mb l m z) (hX: ∀k,F k→X k∧k<w.heap.size) (c:eo G X w X' w') (hn:getM n l=some f) (hG: ∀k,G k→k=f.b∨f.v.ownBlock=some k) (hFF: ∀k,F k→F' k)
  {v':Value} {Tf:List Nat} {s':Nat} (hr:bN w' F' f.b [v',I s'] 193) (ho:Ow w' F' 5 1 v' (Tf.map U1)) (fH:v'.ownBlock=f.v.ownBlock∨ ∃g,v'.ownBlock=some g∧w.heap.size≤g) (hs:s'≤Tf.length):
  lV w' F' db mb (bU n ⟨f.b,v',Tf,s'⟩ l) (m.put n Tf s') z:=by
 have hf:=lg hn;have rf:=h.row _ hf;have of:=h.ow _ hf;have mv: ∀{A:XS},(∀k,A k→F k∧k≠f.b∧f.v.ownBlock≠some k)→Mv A w F' w':=fun hA k hk _=>by
  obtain⟨a1,a2,a3⟩:=hA k hk;exact⟨hFF k a1,c.block k (hX k a1).1 fun hg=>(hG k hg).elim a2 a3⟩
 refine⟨?_,?_,?_,fun x hx=>?_,fun x hx=>?_,?_,h.ar,fun x hx=>?_⟩
 ·show bU n (Tf,s') m.fs=_
  rw [h.fs,Fa jY.er];rfl
 ·exact h.box.own.mv (mv fun k hk=>by subst hk;exact⟨h.box.1,(rf.gi h.box kQ).symm,of.gi h.box kQ⟩)
 ·obtain⟨es,c',h1,h2⟩:=h.map.own.mv jx (mv fun k hk=>by subst hk;exact⟨h.map.x.1,h.map.gi rf,h.map.OC of⟩) (A':=nX) fun _ h=>h.elim;refine⟨es,c',h1,jw.ids h2 (abr jY.b n ⟨f.b,v',Tf,s'⟩ (fun x hx e=>?_) (by rw [hn];rfl))⟩;have:getM n l=some x.2:=nk h.nodup (by rw [←e];exact hx);rw [hn] at this;rw [←rN this]
 ·rcases fB h.nodup hx with rfl|⟨hx,cn⟩
  ·exact hr
  ·have ha:=h.far hn hx cn;exact(h.row x hx).own.mv (mv fun k hk=>by subst hk;exact⟨(h.row x hx).1,ha.1.symm,of.gi (h.row x hx) kQ⟩)
 ·rcases fB h.nodup hx with rfl|⟨hx,cn⟩
  ·exact ho
  ·have ha:=h.far hn hx cn;exact(h.ow x hx).tight.mv (mv fun k hk=>⟨((h.ow x hx).bm hk).1,fun e=>(h.ow x hx).gi rf kQ (e▸hk),fun e=>ha.2 k e hk⟩)
 ·refine P7 h.nodup h.ap fun y hy cn=>?_;have ha:=h.far hn hy cn;have key:apart (n,⟨f.b,v',Tf,s'⟩) y:=⟨ha.1,fun g hg gA=>by
   rcases fH with e|⟨g',e,dV⟩
   ·exact ha.2 g (e▸hg) gA
   ·have:=(hX g ((h.ow y hy).bm gA).1).2;have:g'=g:=by
     have e2:v'.ownBlock=some g:=hg;rw [e] at e2;exact rN e2
    omega⟩
  exact⟨key,AM _ _ key⟩
 ·rcases fB h.nodup hx with rfl|⟨hx,cn⟩
  ·exact hs
  ·exact h.safe x hx
theorem lV.new (h:lV w F db mb l m z) (hX: ∀k,F k→X k∧k<w.heap.size) (c:eo G X w X' w') (hn:getM n l=none) (hG: ∀k,G k→k=mb) (hFF: ∀k,F k→F' k) {b:Nat} (hb:w.heap.size≤b)
  (hm:fL w' F' nX mb di HQ (bU n ⟨b,.slice none 0 0,[],0⟩ l)) (hr:bN w' F' b [.slice none 0 0,I (0:Nat)] 193):
  lV w' F' db mb (bU n ⟨b,.slice none 0 0,[],0⟩ l) (m.put n [] 0) z:=by
 have mv: ∀{A:XS},(∀k,A k→F k∧k≠mb)→Mv A w F' w':=fun hA k hk _=>by
  obtain⟨a1,a2⟩:=hA k hk;exact⟨hFF k a1,c.block k (hX k a1).1 fun hg=>a2 (hG k hg)⟩
 refine⟨?_,?_,hm,fun x hx=>?_,fun x hx=>?_,?_,h.ar,fun x hx=>?_⟩
 ·show bU n ([],0) m.fs=_
  rw [h.fs,Fa jY.er];rfl
 ·exact h.box.own.mv (mv fun k hk=>by subst hk;exact⟨h.box.1,(h.map.gi h.box).symm⟩)
 ·rcases fB h.nodup hx with rfl|⟨hx,cn⟩
  ·exact hr
  ·exact(h.row x hx).own.mv (mv fun k hk=>by subst hk;exact⟨(h.row x hx).1,(h.map.gi (h.row x hx)).symm⟩)
 ·rcases fB h.nodup hx with rfl|⟨hx,cn⟩
  ·exact Ow.nil _ _ _ _
  ·exact(h.ow x hx).tight.mv (mv fun k hk=>⟨((h.ow x hx).bm hk).1,fun e=>h.map.OC (h.ow x hx) (e▸hk)⟩)
 ·refine P7 h.nodup h.ap fun y hy cn=>?_;have key:apart (n,⟨b,.slice none 0 0,[],0⟩) y:=⟨fun e=>by
   have:=(hX _ (h.row y hy).1).2;have e':b=y.2.b:=e;omega,fun g hg=>by cases hg⟩
  exact⟨key,AM _ _ key⟩
 ·rcases fB h.nodup hx with rfl|⟨hx,cn⟩
  ·exact Nat.le_refl _
  ·exact h.safe x hx
theorem lV.less (h:lV w F db mb l m z) (hX: ∀k,F k→X k) (c:eo (· =mb) X w X' w') (hm:fL w' X' nX mb di HQ (jm n l)):lV w' F db mb (jm n l) (m.del n) z:=by
 have mv: ∀{A:XS},(∀k,A k→F k∧k≠mb)→Mv A w F w':=fun hA k hk _=>⟨(hA k hk).1,c.block k (hX k (hA k hk).1) (hA k hk).2⟩;have lH: ∀x∈jm n l,x∈l:=fun x hx=>(List.mem_filter.1 hx).1;refine⟨?_,?_,?_,fun x hx=>?_,fun x hx=>?_,h.ap.filter _,h.ar,fun x hx=>h.safe x (lH x hx)⟩
 ·show jm n m.fs=_
  rw [h.fs,Td jY.er]
 ·exact h.box.own.mv (mv fun k hk=>by subst hk;exact⟨h.box.1,(h.map.gi h.box).symm⟩)
 ·obtain⟨es,c',h1,h2⟩:=hm;exact⟨es,c',⟨h.map.x.1,h1.2⟩,h2⟩
 ·exact(h.row x (lH x hx)).own.mv (mv fun k hk=>by subst hk;exact⟨(h.row x (lH x hx)).1,(h.map.gi (h.row x (lH x hx))).symm⟩)
 ·exact(h.ow x (lH x hx)).tight.mv (mv fun k hk=>⟨((h.ow x (lH x hx)).bm hk).1,fun e=>h.map.OC (h.ow x (lH x hx)) (e▸hk)⟩)
end
def FX (F X:XS) (w:World):Prop:= ∀k,F k→X k∧k<w.heap.size
theorem FX.kp {F X:XS} {w wa:World} (h:FX F X w) (hk:Kp X w wa):FX F (aR wa) wa:=fun k ah=>⟨aN (h k ah).2 hk.size,aN (h k ah).2 hk.size⟩
theorem FX.mv {F X:XS} {w wa:World} (h:FX F X w) (hk:Kp X w wa):Mv F w F wa:=fun k ah _=>⟨ah,hk.block k (h k ah).1⟩
theorem FX.ft {F X:XS} {w wa:World} (h:FX F X w) (hk:Kp X w wa):Ft wa F wa (aR wa) F:=Ft.init fun k ah=>(h.kp hk k ah).1
theorem _root_.Go.bB.Ft.fx {w0 w:World} {F0 F G X:XS} (h:Ft w0 F0 w X F) (hG: ∀k,G k→F k):FX G X w:=fun k hk=>⟨h.bm k (hG k hk),h.s.has k (h.bm k (hG k hk))⟩
section
variable {P : Program} {R : Ending → World → Prop} {w w0 : World} {X F F0 G : XS} {db mb z : Nat} {l : List (ByteArray × jY)} {m : DM}
theorem aeO {κ α:Type} [DecidableEq κ] {A:XS} {t ty kt et b:Nat} {kv:κ→Value} {rd:World→XS→Value→α→Prop} {l:List (κ×α)} {N:Value→Prop} (h:fL w X A b kv rd l) (ht:P.underlying t=some (.map kt et))
  (n:N (I l.length)):ab P X w (fg #[t] ty #[.map (some b)]) N:=by
 obtain⟨es,c,h1,h2⟩:=h;refine Bz (I l.length) (fun wa hk=>?_) n;have hb:=(h1.kp hk).2.1;have hl:es.length=l.length:=by have:=congrArg List.length h2.keys;simpa using this
 simp [fg,run_underlying ht,getObj,Sem.run,hb,goInt,hl]
theorem agF {t ty:TypeId} {a b:Int} {N:Value→Prop} (h:N (I (max a b))):ab P X w (Bu #[t,t] ty #[I a,I b]) N:=
 cB (fun wa=>by
  simp only [Bu,List.foldlM];by_cases hc:a<b
  ·have:max a b=b:=by omega
   simp [Bv,hc,this]
  ·have:max a b=a:=by omega
   simp [Bv,hc,this]) h
theorem aah {t:TypeId} {a b:Int} {N:Value→Prop} (h:N (.int .i64 (IntKind.i64.wrap (a+b)))):ab P X w (binOp .add t (.int .i64 a) (.int .i64 b)) N:=mI h
theorem DX {N:Value→World→XS→Prop} {t o o':Nat} {v:Value} (hT:Ft w0 F0 w X F) (h:lV w G db mb l m z) (hG: ∀k,G k→F k) (m':DM) (z':Nat) (SP:o'=o) (ht:((P.info? t).map (·.size))=some 1) (ho:o+1≤5) (h1:bB.one v=true)
  (hc:cH [.map (some mb),I z,I m.wr,I m.ar,B m.dn] o [v]=[.map (some mb),I z',I m'.wr,I m'.ar,B m'.dn]) (MZ:m'.fs=m.fs) (har:m'.ar<2^63)
  (n: ∀w' X',Ft w0 F0 w' X' F→lV w' G db mb l m' z'→eo (· =db) X w X' w'→N undef w' X'):eU P R X w true (st1 t 1 (ptr db o') v) N:=by
 subst SP;have hX: ∀k,G k→X k:=fun k hk=>hT.bm k (hG k hk);have hv:v.cells= #[v]:=vu h1;refine qS (h.box.mv (Mv.sub hX)) ht ho (by rw [hv];rfl) (by rw [hv];simp [h1]) hT.s.has fun w' X' c hr=>?_;rw [hv] at hr;rw [hc] at hr;exact n w' X' (hT.dK c (fun k hk=>by subst hk;exact hG _ h.box.1) fun k hk=>.inl hk) (h.aeN hX c hr MZ har) c
end
theorem qz {w:World} {X:XS} {mb:Nat} {l:List (ByteArray×jY)} {n:ByteArray} {N:Value→Prop} (hm:fL w X nX mb di HQ l) (n1: ∀f,getM n l=some f→N (ptr f.b 0)) (n0:getM n l=none→N (.pointer none)):
  ab pg X w (Instr.lookup 77 (.map (some mb)) (.string n) false) N:=
 np (kt:=9) (et:=191) (.pointer none) hm (wS kQ) kQ kQ (fun v f h1 h2=>by
  have h2:v=ptr f.b 0:=h2;subst h2;exact n1 f h1) n0
theorem KL {w:World} {X F:XS} {db mb z:Nat} {l:List (ByteArray×jY)} {m:DM} (h:lV w F db mb l m z) (hF:FX F X w) (jP:m.dn=false):
  Ct pg 147 #[ptr db 0] w X F fun v wa w'=>v=B m.tick.dn∧lV w' F db mb l m.tick z:=by
 intro w0 hk;have h0:=h.mv (hF.mv hk);have hT:=hF.ft hk;clear h;have har:=h0.ar;apply JD;unfold Ab;have hb:=h0.box.mv (Mv.sub hT.bm);rw [jP] at hb;have M4: ∀k,F k→F k:=fun _ h=>h;refine dJ ?_;repeat' first|refine aG ?_;intros|refine dj ?_ ?_<;>intros|with_reducible apply dJ
 ·refine DX hT h0 M4 { m with ar:=m.ar-1 } z (o:=3) zQ kQ zQ rfl (by rw [show((m.ar-1:Nat):Int)=(m.ar:Int)-1 by omega];rfl) rfl (by show m.ar-1<_;omega) fun w1 X1 hT h1 c1=>?_;clear hb h0;have hb:=h1.box.mv (Mv.sub hT.bm);repeat' first|refine aG ?_;intros|refine dj ?_ ?_<;>intros
  ·refine DX hT h1 M4 { m with ar:=m.ar-1,dn:=true } z (o:=4) zQ kQ zQ rfl rfl rfl h1.ar fun w1 X1 hT h2 c1=>?_;clear hb h1;have hb:=h2.box.mv (Mv.sub hT.bm);have q':((m.ar-1:Nat):Int)=0:=by assumption
   have P8:m.ar=1:=by omega
   repeat' first|refine aG ?_;intros|with_reducible apply dJ
   refine hT.fin fun wa bD=>⟨by rw [DM.tick,if_pos P8],?_⟩;rw [DM.tick,if_pos P8];rw [show m.ar-1=0 by omega] at h2;exact h2.mv (bD.kf hT.bm)
  ·refine DX hT h1 M4 { m with ar:=m.ar-1,dn:=false } z (o:=4) zQ kQ zQ rfl rfl rfl h1.ar fun w1 X1 hT h2 c1=>?_;clear hb h1;have hb:=h2.box.mv (Mv.sub hT.bm);have q': ¬((m.ar-1:Nat):Int)=0:=by assumption
   have P8: ¬m.ar=1:=by omega
   repeat' first|refine aG ?_;intros|with_reducible apply dJ|(with_reducible apply aah)
   refine DX hT h2 M4 { m with ar:=m.ar-1,dn:=false,wr:=IntKind.i64.wrap (m.wr+1) } z (o:=2) zQ kQ zQ rfl rfl rfl h2.ar fun w1 X1 hT h3 c1=>?_;clear hb h2;have hb:=h3.box.mv (Mv.sub hT.bm);repeat' first|refine aG ?_;intros
   refine hT.fin fun wa bD=>⟨by rw [DM.tick,if_neg P8,jP],?_⟩;rw [DM.tick,if_neg P8];have h4:=h3.mv (bD.kf hT.bm);rw [←jP] at h4;exact h4
 ·have P8: ¬m.ar=1:=by omega
  have ha0:m.ar-1=m.ar:=by omega
  repeat' first|refine aG ?_;intros|(with_reducible apply aah)
  refine DX hT h0 M4 { m with wr:=IntKind.i64.wrap (m.wr+1) } z (o:=2) zQ kQ zQ rfl rfl rfl h0.ar fun w1 X1 hT h3 c1=>?_;clear hb h0;have hb:=h3.box.mv (Mv.sub hT.bm);rw [jP] at hb;repeat' first|refine aG ?_;intros
  refine hT.fin fun wa bD=>⟨by rw [DM.tick,if_neg P8,jP],?_⟩;rw [DM.tick,if_neg P8,ha0];exact h3.mv (bD.kf hT.bm)
theorem KM (n:ByteArray):Pure pg 144 #[.string n] (B (By n)):=by
 intro w0;apply Tg;unfold HR;have hs:=aj.init w0;repeat' first|refine aG ?_;intros|refine dj ?_ ?_<;>intros|(with_reducible refine fh hs ?_);(simp_all [By]<;>omega)
theorem M5 {w:World} {X:XS} :Ct pg 6 #[] w X nX fun v wa w'=> ∃db,v=ptr db 0∧Dk w' (made wa w') db ⟨[],0,0,false⟩:=by
 intro w0 hk;apply VL;unfold KN;have hs:=aj.init w0;refine sP (kv:=di) HQ nX hs.has fun mb w1 X1 PR ao sd=>?_;replace hs:=hs.trans ao;refine XT kQ ?_;refine nI hs.has fun bx w2 X2 fi dF bH=>?_;have pf:=sd.mv jx dF.mv (fun _ h=>h.elim) (A':=nX);have hz:=hs.kp.size;refine ai (hs.trans dF) fun wa bD=>⟨bx,rfl,mb,[],⟨rfl,⟨⟨by omega,(bH.kp bD).lt⟩,(bH.kp bD).2⟩,?_,by simp,by simp,List.Pairwise.nil,by decide,by simp⟩,by decide⟩;exact pf.own.mv jx (Mv.one bD pf.x.1 ⟨PR,aN pf.x.2 bD.size⟩) fun _ h=>h.elim
theorem KO {w:World} {X F:XS} {db:Nat} {m:DM} (h:Dk w F db m) (hF:FX F X w):Ct pg 24 #[ptr db 0] w X nX fun v wa w'=>v=B m.dn:=by
 intro w0 hk;obtain⟨mb,l,h0,hz⟩:=h.mv (hF.mv hk);have hb:=h0.box.mv (Mv.sub fun k ah=>(hF.kp hk k ah).1);apply JE;unfold Ac;have hs:=aj.init w0;repeat' first|refine aG ?_;intros|((first|(with_reducible refine ai hs ?_)|(with_reducible refine ai (bE.trans hs) ?_));intro wa hk;rfl)
theorem M6 {w:World} {X F:XS} {db:Nat} {m:DM} {n:ByteArray} (h:Dk w F db m) (hF:FX F X w):Ct pg 141 #[ptr db 0,.string n] w X nX fun v wa w'=>v=I (if(m.get n).isSome then 0 else 8):=by
 intro w0 hk;obtain⟨mb,l,h0,hz⟩:=h.mv (hF.mv hk);have hX:=fun k ah=>(hF.kp hk k ah).1;have hb:=h0.box.mv (Mv.sub hX);have hg:=h0.get n;have hm:=h0.map.mv jx (Mv.sub hX) (A':=nX) fun _ h=>h.elim;apply Ly;unfold BB;have hs:=aj.init w0;repeat' first|refine aG ?_;intros
 refine qz hm (fun f h1=>?_) fun h1=>?_
 ·repeat' first|refine aG ?_;intros|((first|(with_reducible refine ai hs ?_)|(with_reducible refine ai (bE.trans hs) ?_));intro wa hk;(rw [hg,h1];rfl))
 ·repeat' first|refine aG ?_;intros|((first|(with_reducible refine ai hs ?_)|(with_reducible refine ai (bE.trans hs) ?_));intro wa hk;(rw [hg,h1];rfl))
theorem BC {w:World} {X F A:XS} {db f:Nat} {c:List Value} {m:DM} {e:Nat} {g:DM→DM} (h:Dk w F db m) (hF:FX F X w) (hA: ∀k,A k→X k∧k<w.heap.size∧ ¬F k) (hf:enters pg f=true)
  (hdo:e=0→ ∀w1 X1,Mv A w A w1→(∀k,A k→X1 k)→FX F X1 w1→Dk w1 F db m.tick→Ct pg f c.toArray w1 X1 F fun v wa w'=>v= .tuple #[]∧ ∃F',(∀k,F' k→F k∨made wa w' k)∧Dk w' F' db (g m.tick)):
  Ct pg 140 #[ptr db 0,I e,.func (.func f) #[] c.toArray] w X F fun v wa w'=>v=I (m.write e g).2∧ ∃F',(∀k,F' k→F k∨made wa w' k)∧Dk w' F' db (m.write e g).1:=by
 intro w0 hk;obtain⟨mb,l,h0,hz⟩:=h.mv (hF.mv hk);have hT:=hF.ft hk;have lW:FX F (aR w0) w0:=hF.kp hk;have hAm:Mv A w A w0:=fun k ah _=>⟨ah,hk.block k (hA k ah).1⟩;have hb:=h0.box.mv (Mv.sub hT.bm);have hs:=aj.init w0;have stay: ∀{w1 X1} (m':DM),Ft w0 F w1 X1 F→lV w1 F db mb l m' m'.sz→m'.sz≤4194304→ ∀wa,Kp X1 w1 wa→ ∃F',(∀k,F' k→F k∨made w0 wa k)∧Dk wa F' db m':=fun m' hT h1 hz wa bD=>⟨F,hT.oT bD fun _ h=>h,mb,l,h1.mv (bD.kf hT.bm),hz⟩;have htz:m.tick.sz=m.sz:=by unfold DM.tick DM.sz;split<;>rfl
 apply HS;unfold zp;cases jP:m.dn
 ·rw [jP] at hb;repeat' first|refine aG ?_;intros|refine dj ?_ ?_<;>intros
  ·have he:e≠0:=by omega
   refine hT.fin fun wa bD=>⟨?_,?_⟩
   ·simp [DM.write,jP,he]
   ·simp only [DM.write,jP,he,bc,if_false,ne_eq,not_false_eq_true,if_true];exact stay m hT h0 hz wa bD
  ·have he:e=0:=by omega
   refine hT.call (KL h0 lW jP) kQ (fun _ h=>h) fun v wa w2 X2 hq hle eH cq hc=>?_;obtain⟨rfl,h2⟩:=hq;replace cq:Ft w0 F w2 X2 F:=cq.less fun k hk=>.inl hk;rw [←htz] at h2;cases ht:m.tick.dn
   ·repeat' first|refine aG ?_;intros
    refine cq.call (hdo he w2 X2 (hAm.trans (hc.kf fun k ah=>⟨aN (hA k ah).2.1 hk.size,(hA k ah).2.2⟩)) (fun k ah=>hc.sub k (aN (hA k ah).2.1 hk.size)) (cq.fx fun _ h=>h) ⟨mb,l,h2,htz▸hz⟩) hf (fun _ h=>h) fun v Ad w3 X3 WL wT rP dG lT=>?_;obtain⟨rfl,F',ux,hD⟩:=WL;refine dG.fin fun P9 bD=>⟨?_,F',dG.oT bD ux,?_⟩
    ·simp [DM.write,jP,he,ht]
    ·simp only [DM.write,jP,he,ht,bc,if_false,ne_eq,not_true_eq_false];exact hD.mv (bD.kf fun k ah=>dG.bm k (ux k ah))
   ·repeat' first|refine aG ?_;intros
    refine cq.fin fun wa bD=>⟨?_,?_⟩
    ·simp [DM.write,jP,he,ht]
    ·simp only [DM.write,jP,he,ht,bc,if_false,ne_eq,not_true_eq_false,if_true];exact stay _ cq h2 (htz▸hz) wa bD
 ·rw [jP] at hb;repeat' first|refine aG ?_;intros
  refine hT.fin fun wa bD=>⟨?_,?_⟩
  ·simp [DM.write,jP]
  ·simp only [DM.write,jP,if_true];exact stay m hT h0 hz wa bD
section
variable {R : Ending → World → Prop} {w w0 : World} {X F F0 G : XS} {db mb z : Nat} {l : List (ByteArray × jY)} {m : DM} {n : ByteArray} {f : jY} {N : Value → World → XS → Prop}
theorem XY {o':Nat} {x:Int} {s':Nat} (hT:Ft w0 F0 w X F) (h:lV w G db mb l m z) (hG: ∀k,G k→F k) (hn:getM n l=some f) (ho:o'=1) (hx:x=s') (hs:s'≤f.bs.length)
  (k: ∀w' X',Ft w0 F0 w' X' F→lV w' G db mb (bU n ⟨f.b,f.v,f.bs,s'⟩ l) (m.put n f.bs s') z→N undef w' X'):eU pg R X w true (st1 3 1 (ptr f.b o') (I x)) N:=by
 subst ho;subst hx;have hX: ∀k,G k→X k:=fun k hk=>hT.bm k (hG k hk);have hr:=h.row _ (lg hn);have ho:=h.ow _ (lg hn);refine qS (hr.mv (Mv.sub hX)) kQ (by simp) rfl rfl hT.s.has fun w' X' c jt=>?_;have WM:Ft w0 F0 w' X' F:=hT.dK c (fun k hk=>by subst hk;exact hG _ hr.1) fun k hk=>.inl hk;refine k w' X' WM (h.lR (F':=G) (hT.fx hG) c hn (fun k hk=>.inl hk) (fun _ h=>h) ⟨hr.1,jt.2⟩ ?_ (.inl rfl) hs);exact ho.tight.mv fun k hk hl=>⟨(ho.bm hk).1,c.block k (hX k (ho.bm hk).1) fun e=>ho.gi hr kQ (by rw [←(show k=f.b from e)];exact hk)⟩
theorem aai {vs:Value} {b:List Nat} (hT:Ft w0 F0 w X F) (h:lV w G db mb l m z) (hG: ∀k,G k→F k) (hn:getM n l=some f) (src:Sl w X 1 vs (b.map U1)) (hl:f.bs.length+b.length≤2^40)
  (k: ∀w' X',Ft w0 F0 w' X' (fun k=>F k∨(X' k∧w.heap.size≤k))→(∃v',lV w' (fun k=>G k∨(X' k∧w.heap.size≤k)) db mb (bU n ⟨f.b,v',f.bs++b,f.safe⟩ l) (m.put n (f.bs++b) f.safe) z)→N undef w' X'):
  eV pg R X w true (ga 132 5 1 1 132 f.v vs) fun x w1 X1=>ax pg X1 w1 (aP (ptr f.b 0)) fun p=>ab pg X1 w1 (aT 193 0 0 1 p) fun q=>eU pg R X1 w1 true (st1 132 1 q x) N:=by
 have hX: ∀k,G k→X k:=fun k hk=>hT.bm k (hG k hk);have hr:=h.row _ (lg hn);have ho:=h.ow _ (lg hn);have hsf:=h.safe _ (lg hn);have cn:f.v.ownBlock≠some f.b:=ho.gi hr kQ;refine M7 kQ hT.s.has (ho.mono hX) src (by intro r hr u hu;obtain⟨x,_,rfl⟩:=List.mem_map.1 hr;simp only [U1,ej] at hu;subst hu;rfl) (by simp;omega) (by simp;omega) fun v' w1 X1 c kD fH=>?_;have wu:bN w1 X1 f.b [f.v,I f.safe] 193:=⟨c.sub _ (hX _ hr.1),by rw [c.block _ (hX _ hr.1) fun e=>cn e];exact hr.2⟩
 with_reducible apply RL
 have hfi:fieldInfo pg 193 0=some (0,1):=by kernel_rfl
 refine MP wu.cells hfi rfl fun o' ue _=>?_;subst ue;have M8:=vu kD.one;refine qS wu kQ (by simp) (by rw [M8];rfl) (by rw [M8];simp [kD.one]) c.has fun w' X' c' jt=>?_;rw [M8] at jt;have cc:eo (fun k=>k=f.b∨f.v.ownBlock=some k) X w X' w':=(c.mono fun k _ hk=>.inr hk).trans (c'.mono fun k _ hk=>.inl hk);have ahH:v'.ownBlock≠some f.b:=kD.gi wu kQ;have eH: ∀g,v'.ownBlock=some g→G g∨(X' g∧w.heap.size≤g):=fun g hg=>by
  rcases fH with e|⟨g',e,dV⟩
  ·exact .inl (ho.bm (e▸hg)).1
  ·rw [hg] at e;have:g=g':=rN e;subst this;exact .inr ⟨c'.sub _ (kD.bm hg).1,dV⟩
 have iH:Ow w' (fun k=>G k∨(X' k∧w.heap.size≤k)) 5 1 v' ((f.bs++b).map U1):=by
  rw [bp];exact kD.tight.mv fun k hk hl=>⟨eH k hk,c'.block k (kD.bm hk).1 fun e=>ahH (by rw [←(show k=f.b from e)];exact hk)⟩
 refine k w' X' (hT.dK cc (fun k hk=>?_) fun k hk=>hk) ⟨v',h.lR (F':=fun k=>G k∨(X' k∧w.heap.size≤k)) (hT.fx hG) cc hn (fun k hk=>hk) (fun k hk=>.inl hk) ⟨.inl hr.1,?_⟩ iH fH (by rw [ae];have:f.safe≤f.bs.length:=hsf;omega)⟩
 ·rcases hk with rfl|hk
  ·exact hG _ hr.1
  ·exact hG _ (ho.bm hk).1
 ·exact jt.2
end
theorem Ra {w:World} {X F S:XS} {db:Nat} {m:DM} {n:ByteArray} {vb:Value} {b:List Nat} (h:Dk w F db m) (hF:FX F X w) (hb:Sl w S 1 vb (b.map U1)) (hS: ∀k,S k→X k∧ ¬F k) (PS:b.length≤2^30):
  Ct pg 104 #[ptr db 0,.string n,vb] w X F fun v wa w'=>v=I (m.append n b).2∧ ∃F',(∀k,F' k→F k∨made wa w' k)∧Dk w' F' db (m.append n b).1:=by
 intro w0 hk;obtain⟨mb,l,h0,hz⟩:=h.mv (hF.mv hk);have hT:=hF.ft hk;have lW:FX F (aR w0) w0:=hF.kp hk;replace hb:Sl w0 (fun k=>S k∧k<w0.heap.size) 1 vb (b.map U1):=hb.mv fun k ah hl=>⟨⟨ah,aN hl hk.size⟩,hk.block k (hS k ah).1⟩;have fi:=h0.box.mv (Mv.sub hT.bm);have hs:=aj.init w0;have hg:=h0.get n;have hm:=h0.map.mv jx (Mv.sub hT.bm) (A':=nX) fun _ h=>h.elim;apply GP;unfold xZ;repeat' first|refine aG ?_;intros
 refine qz hm (fun f hn=>?_) fun hn=>?_
 ·have sM:m.get n=some (f.bs,f.safe):=by rw [hg,hn];rfl
  have ajt:=DM.adx sM;cases jP:m.dn
  ·rw [jP] at fi;repeat' first|refine aG ?_;intros|refine dj ?_ ?_<;>intros
   ·refine hT.fin fun wa bD=>⟨?_,F,hT.oT bD fun _ h=>h,?_⟩
    ·simp only [DM.append,jP,sM,bc,if_false];rw [if_pos zQ];rfl
    ·simp only [DM.append,jP,sM,bc,if_false];rw [if_pos zQ];exact⟨mb,l,h0.mv (bD.kf hT.bm),hz⟩
   ·have rQ: ¬4194304-m.sz<b.length:=by omega
    refine hT.call (KL h0 lW jP) kQ (fun _ h=>h) fun v wa w2 X2 hq hle eH cq hc=>?_;obtain⟨rfl,h2⟩:=hq;replace cq:Ft w0 F w2 X2 F:=cq.less fun k hk=>.inl hk;have uf:=(h2.row _ (lg hn)).mv (Mv.sub cq.bm);repeat' first|refine aG ?_;intros
    refine aai cq h2 (fun _ h=>h) hn ((hb.mv (hc.kf fun k ah=>⟨ah.2,(hS k ah.1).2⟩)).mono fun k ah=>hc.sub k ah.2) (show f.bs.length+b.length≤2^40 by omega) fun w3 X3 dG ⟨v',h3⟩=>?_;have Qa:=h3.box.mv (Mv.sub dG.bm);have htz:=m.WJ;repeat' first|refine aG ?_;intros
    have nK:=DM.aag (bs:=f.bs++b) (s':=f.safe) ((m.yt n).trans sM);have hlen:(f.bs++b).length=f.bs.length+b.length:=ae;refine DX dG h3 (fun _ h=>h) (m.tick.put n (f.bs++b) f.safe) (m.tick.put n (f.bs++b) f.safe).sz (o:=1) zQ kQ zQ rfl (by rw [show(((m.tick.put n (f.bs++b) f.safe).sz:Nat):Int)=(m.sz:Int)+(b.length:Int)by omega];rfl) rfl h3.ar fun w4 X4 fk h4 c4=>?_;have KP:=h4.box.mv (Mv.sub fk.bm);have fin: ∀wa,Kp X4 w4 wa→ ∃F',(∀k,F' k→F k∨made w0 wa k)∧Dk wa F' db (m.append n b).1:=fun wa bD=>⟨_,fk.oT bD fun _ h=>h,by
     simp only [DM.append,jP,sM,bc,if_false];rw [if_neg rQ];exact⟨mb,_,h4.mv (bD.kf fk.bm),by show(m.tick.put n (f.bs++b) f.safe).sz≤_;omega⟩⟩
    cases ht:m.tick.dn
    ·repeat' first|refine aG ?_;intros
     refine fk.fin fun wa bD=>⟨?_,fin wa bD⟩;simp only [DM.append,jP,sM,bc,if_false];rw [if_neg rQ];simp [ht]
    ·repeat' first|refine aG ?_;intros
     refine fk.fin fun wa bD=>⟨?_,fin wa bD⟩;simp only [DM.append,jP,sM,bc,if_false];rw [if_neg rQ];simp [ht]
  ·rw [jP] at fi;repeat' first|refine aG ?_;intros
   refine hT.fin fun wa bD=>⟨?_,F,hT.oT bD fun _ h=>h,?_⟩
   ·simp [DM.append,jP]
   ·simp only [DM.append,jP,if_true];exact⟨mb,l,h0.mv (bD.kf hT.bm),hz⟩
 ·have sM:m.get n=none:=by rw [hg,hn];rfl
  cases jP:m.dn
  ·rw [jP] at fi;repeat' first|refine aG ?_;intros
   refine hT.fin fun wa bD=>⟨?_,F,hT.oT bD fun _ h=>h,?_⟩
   ·simp [DM.append,jP,sM]
   ·simp only [DM.append,jP,sM,bc,if_false];exact⟨mb,l,h0.mv (bD.kf hT.bm),hz⟩
  ·rw [jP] at fi;repeat' first|refine aG ?_;intros
   refine hT.fin fun wa bD=>⟨?_,F,hT.oT bD fun _ h=>h,?_⟩
   ·simp [DM.append,jP]
   ·simp only [DM.append,jP,if_true];exact⟨mb,l,h0.mv (bD.kf hT.bm),hz⟩
theorem Th {w:World} {X F:XS} {db bd bn:Nat} {m:DM} {n:ByteArray} (h:Dk w F db m) (hF:FX F X w) (hd:bN w X bd [ptr db 0] 24) (hn:bN w X bn [.string n] 9) (hg:(m.get n).isSome=true):
  Ct pg 148 #[ptr bd 0,ptr bn 0] w X F fun v wa w'=>v= .tuple #[]∧ ∃F',(∀k,F' k→F k∨made wa w' k)∧Dk w' F' db (DM.CF n m):=by
 intro w0 hk;obtain⟨mb,l,h0,hz⟩:=h.mv (hF.mv hk);have hT:=hF.ft hk;replace hd:=hd.mv hk.cE;replace hn:=hn.mv hk.cE;have fi:=h0.box.mv (Mv.sub hT.bm);have hs:=aj.init w0;have sM:=h0.get n;have hm:=h0.map.mv jx (Mv.sub hT.bm) (A':=nX) fun _ h=>h.elim;apply Fb;unfold wU;repeat' first|refine aG ?_;intros
 refine qz hm (fun f h1=>?_) fun h1=>?_
 ·repeat' first|refine aG ?_;intros
  refine qz hm (fun f' h2=>?_) fun h2=>?_
  ·rw [h1] at h2;cases h2;have hr:=(h0.row _ (lg h1)).mv (Mv.sub hT.bm);have ho:=(h0.ow _ (lg h1)).sl;have ahI:m.get n=some (f.bs,f.safe):=by rw [sM,h1];rfl
   repeat' first|refine aG ?_;intros
   refine XY hT h0 (fun _ h=>h) h1 (s':=f.bs.length) zQ rfl (Nat.le_refl _) fun w1 X1 dq h3=>?_;refine dq.fin fun wa bD=>⟨rfl,F,dq.oT bD fun _ h=>h,?_⟩;have e:DM.CF n m=m.put n f.bs f.bs.length:=by unfold DM.CF;rw [ahI]
   have fN:=m.abw n;rw [e] at fN⊢;exact⟨mb,_,by rw [fN];exact h3.mv (bD.kf dq.bm),by omega⟩
  ·rw [h1] at h2;cases h2
 ·rw [sM,h1] at hg;cases hg
theorem VM {w:World} {X F:XS} {db:Nat} {m:DM} {n:ByteArray} (h:Dk w F db m) (hF:FX F X w):
  Ct pg 105 #[ptr db 0,.string n] w X F fun v wa w'=>v=I (m.sync n).2∧ ∃F',(∀k,F' k→F k∨made wa w' k)∧Dk w' F' db (m.sync n).1:=by
 intro w0 hk;replace h:=h.mv (hF.mv hk);have hT:=hF.ft hk;have lW:FX F (aR w0) w0:=hF.kp hk;clear hF;apply JF;unfold Ae;refine ph rfl hT.s.has fun bd w1 X1 mS ao mG=>?_;refine ph rfl ao.has fun bn w2 X2 PM dF Qb=>?_;have yu:=ao.trans dF;have cq:=hT.since yu;have HT:=mG.since dF;have h2:Dk w2 F db m:=h.mv (yu.jQ fun k ah=>(lW k ah).1);have hs:=aj.iB dF.has;repeat' first|refine aG ?_;intros
 refine ep (M6 h2 (cq.fx fun _ h=>h)) kQ hs.has ?_;rintro v wa w3 X3 rfl hle eH dZ;have dG:=cq.since dZ;have h3:Dk w3 F db m:=h2.mv (dZ.jQ cq.bm);have aju:=mG.lt;have ahJ:=dZ.sub _ HT.1;have ahK:=dZ.sub _ Qb.1;have yv:=HT.since dZ;have Fc:=Qb.since dZ;have e8:I (if(m.get n).isSome then 0 else 8)=I (((if(m.get n).isSome then 0 else 8:Nat)):Nat):=by split<;>rfl
 rw [e8];refine dG.call (BC (A:=fun k=>k=bd∨k=bn) (g:=DM.CF n) h3 (dG.fx fun _ h=>h) (fun k ah=>?_) kQ ?_) kQ (fun _ h=>h) fun v KI w4 X4 hq E8 Di fk sj=>?_
 ·rcases ah with rfl|rfl
  ·exact⟨ahJ,yv.lt,fun hf=>by have:=(lW _ hf).2;omega⟩
  ·exact⟨ahK,Fc.lt,fun hf=>by have:=(lW _ hf).2;have:=ao.kp.size;omega⟩
 ·intro he w5 X5 Gl Gm HU h5;refine Th h5 HU ⟨Gm _ (.inl rfl),?_⟩ ⟨Gm _ (.inr rfl),?_⟩ ?_
  ·rw [(Gl bd (.inl rfl) (yv.lt)).2];exact yv.2
  ·rw [(Gl bn (.inr rfl) (Fc.lt)).2];exact Fc.2
  ·rw [m.yt];cases zT:(m.get n).isSome
   ·rw [zT] at he;cases he
   ·rfl
 ·obtain⟨rfl,F',ux,hD⟩:=hq
  skip
  refine fk.fin fun P9 bD=>⟨rfl,F',fk.oT bD ux,hD.mv (bD.kf fun k ah=>fk.bm k (ux k ah))⟩
theorem OD {w:World} {X F:XS} {db bd bn:Nat} {m:DM} {n:ByteArray} (h:Dk w F db m) (hF:FX F X w) (hd:bN w X bd [ptr db 0] 24) (hn:bN w X bn [.string n] 9) (hg:m.get n=none):
  Ct pg 145 #[ptr bd 0,ptr bn 0] w X F fun v wa w'=>v= .tuple #[]∧ ∃F',(∀k,F' k→F k∨made wa w' k)∧Dk w' F' db (m.put n [] 0):=by
 intro w0 hk;obtain⟨mb,l,h0,hz⟩:=h.mv (hF.mv hk);have hT:=hF.ft hk;have lW:FX F (aR w0) w0:=hF.kp hk;replace hd:=hd.mv hk.cE;replace hn:=hn.mv hk.cE;have fi:=h0.box.mv (Mv.sub hT.bm);have hs:=aj.init w0;have sM:=h0.get n;have hm:=h0.map.mv jx (Mv.sub hT.bm) (A':=nX) fun _ h=>h.elim;have hgn:getM n l=none:=by
  rw [hg] at sM;cases hq:getM n l with
  |none=>rfl
  |some f=>rw [hq] at sM;cases sM
 apply Dm;unfold uy;repeat' first|refine aG ?_;intros|(with_reducible apply nI);(case hX=>exact hs.has);intro bx w X fi ao bH;have bE:=hs.trans ao;replace hs:=aj.iB ao.has
 have sd:=hm.mv jx bE.mv (A':=nX) fun _ h=>h.elim;refine sU (kt:=9) (et:=191) (a:=⟨bx,.slice none 0 0,[],0⟩) sd jx (show HQ _ _ (ptr bx 0) ⟨bx,.slice none 0 0,[],0⟩from rfl) (fun _ h=>h.elim) (wS kQ) kQ bE.has fun w2 X2 c pf=>?_;have dq:=hT.since bE;have hbm:bx≠mb:=(sd.gi bH).symm;have cq:Ft w0 F w2 X2 (fun k=>F k∨k=bx):=(dq.more (F':=fun k=>F k∨k=bx) fun k ah=>ah.imp id fun e=>by subst e;exact⟨bH.1,fi⟩).dK c (fun k ah=>by subst ah;exact .inl h0.map.x.1) fun k ah=>.inl ah;have hcc:eo (· =mb) (aR w0) w0 X2 w2:=(eo.qW bE _).trans c;refine cq.fin fun wa bD=>⟨rfl,_,cq.oT bD fun _ h=>h,?_⟩;have fN:=DM.WK (bs:=[]) (s':=0) hg;have hL:=h0.new (F':=fun k=>F k∨k=bx) lW hcc hgn (fun k ah=>ah) (fun k ah=>.inl ah) fi (pf.own.mv jx (fun k ah hl=>⟨.inl (by subst ah;exact h0.map.x.1),rfl⟩) fun _ h=>h.elim) ⟨.inr rfl,by rw [c.block _ bH.1 hbm];exact bH.2⟩;have ahL:(m.put n [] 0).sz=m.sz:=by simpa using fN
 rw [←ahL] at hL;exact⟨mb,_,hL.mv (bD.kf cq.bm),by omega⟩
def DM.yw (m:DM) (n:ByteArray):Nat:=if¬By n then 10 else if(m.get n).isSome then 9 else if 64≤m.fs.length then 3 else 0
theorem Rb {w:World} {X F:XS} {db:Nat} {m:DM} {n:ByteArray} (h:Dk w F db m) (hF:FX F X w):
  Ct pg 102 #[ptr db 0,.string n] w X F fun v wa w'=>v=I (m.create n).2∧ ∃F',(∀k,F' k→F k∨made wa w' k)∧Dk w' F' db (m.create n).1:=by
 intro w0 hk;replace h:=h.mv (hF.mv hk);have hT:=hF.ft hk;have lW:FX F (aR w0) w0:=hF.kp hk;clear hF;obtain⟨mb,l,h0,hz⟩:=id h;apply GQ;unfold x4;refine ph rfl hT.s.has fun bd w1 X1 mS ao mG=>?_;refine ph rfl ao.has fun bn w2 X2 PM dF Qb=>?_;have yu:=ao.trans dF;have hs:=aj.iB dF.has;have HT:=mG.since dF;have hX:=fun k ah=>yu.sub k (hT.bm k ah);have fi:=(h0.box.mv (Mv.sub hT.bm)).since yu;have hm:=(h0.map.mv jx (Mv.sub hT.bm) (A':=nX) fun _ h=>h.elim).mv jx yu.mv (A':=nX) fun _ h=>h.elim;have sM:=h0.get n;have hlen:=h0.len;have key: ∀(w3:World) (X3:XS) (e:Nat),aj X2 w2 X3 w3→m.yw n=e→eC pg (Bs F w0 fun v w'=>v=I (m.create n).2∧ ∃F',(∀k,F' k→F k∨made w0 w' k)∧Dk w' F' db (m.create n).1) X3 w3 true 140 #[ptr db 0,I e,.func (.func 145) #[] #[ptr bd 0,ptr bn 0]] fun x w4 X4=>
   fin (Bs F w0 fun v w'=>v=I (m.create n).2∧ ∃F',(∀k,F' k→F k∨made w0 w' k)∧Dk w' F' db (m.create n).1) X4 w4 x:=by
  intro w3 X3 e dZ he;have aeP:=yu.trans dZ;have dG:=hT.since aeP;have h3:Dk w3 F db m:=h.mv (aeP.jQ fun k ah=>(lW k ah).1);have yv:=HT.since dZ;have Fc:=Qb.since dZ;have em:m.create n=m.write e fun m=>m.put n [] 0:=by rw [←he];rfl
  rw [em];refine dG.call (BC (A:=fun k=>k=bd∨k=bn) (g:=fun m=>m.put n [] 0) h3 (dG.fx fun _ h=>h) (fun k ah=>?_) kQ ?_) kQ (fun _ h=>h) fun v KI w4 X4 hq E8 Di fk sj=>?_
  ·rcases ah with rfl|rfl
   ·exact⟨yv.1,yv.lt,fun hf=>by have:=(lW _ hf).2;omega⟩
   ·exact⟨Fc.1,Fc.lt,fun hf=>by have:=(lW _ hf).2;have:=ao.kp.size;omega⟩
  ·intro he0 w5 X5 Gl Gm HU h5;refine OD h5 HU ⟨Gm _ (.inl rfl),?_⟩ ⟨Gm _ (.inr rfl),?_⟩ ?_
   ·rw [(Gl bd (.inl rfl) (yv.lt)).2];exact yv.2
   ·rw [(Gl bn (.inr rfl) (Fc.lt)).2];exact Fc.2
   ·rw [m.yt];rw [he0] at he;unfold DM.yw at he;cases zT:m.get n with
    |none=>rfl
    |some x=>
     rw [zT] at he;simp at he;exfalso;split at he<;>omega
  ·obtain⟨rfl,F',ux,hD⟩:=hq;exact fk.fin fun P9 bD=>⟨rfl,F',fk.oT bD ux,hD.mv (bD.kf fun k ah=>fk.bm k (ux k ah))⟩
 refine ir (fun k=> ∀(e:Nat) (w3:World) (X3:XS),aj X2 w2 X3 w3→m.yw n=e→k (I e) w3 X3) ?_ ?_
 ·intro e w3 X3 dZ he;have yv:=HT.since dZ;repeat' first|refine aG ?_;intros
  exact key w3 X3 e dZ he
 ·intro K hK;repeat' first|refine aG ?_;intros|((with_reducible refine dI (KM _) ?_ hs.has ?_ ?_);(· kernel_rfl);all_goals (intro _ w X ao;replace hs:=hs.trans ao))
  ·have Fc:=Qb.since hs;have yv:=HT.since hs;have ajv:=fi.since hs;have Gn:=hm.mv jx hs.mv (A':=nX) fun _ h=>h.elim
   skip
   refine qz Gn (fun f hn=>?_) fun hn=>?_
   ·repeat' first|refine aG ?_;intros
    exact hK 9 _ _ hs (by simp_all [DM.yw])
   ·repeat' first|refine aG ?_;intros|refine dj ?_ ?_<;>intros|(refine aeO Gn (kt:=9) (et:=191) kQ ?_)
    ·exact hK 3 _ _ hs (by simp only [DM.yw,sM,hn];simp_all<;>omega)
    ·exact hK 0 _ _ hs (by simp only [DM.yw,sM,hn];simp_all<;>omega)
  ·exact hK 10 _ _ hs (by simp_all [DM.yw])
end Go.Proofs.YtfndblbeikocdaaGreat
