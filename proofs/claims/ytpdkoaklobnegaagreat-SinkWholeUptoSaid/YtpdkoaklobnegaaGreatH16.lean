/-
 racelaw22.SinkWhole returns true, whatever it is called with, where what it reads is of bulk at most 1048576; the input reads as it did.
-/
import Derived.Shelf.Abstract
import Derived.Test.YtpdkoaklobnegaaGreatH15
open Nat renaming le_trans → ah, le_refl → bf, zero_le → aN, lt_of_lt_of_le → aK
open Prod renaming snd → eZ
open List renaming length_map → aG, mem_singleton → aV, length_nil → bz, length_take → bp, length_append → ae, getElem?_map → cr, length_cons → aY, append_nil → bZ, map_cons → bc, map_nil → wu, mem_cons → gM, not_mem_nil → rN, mem_of_mem_take → iQ, mem_of_getElem? → aX, size_toArray → il, take_add_one → ca, take_of_length_le → bN, getElem?_eq_getElem → bB, length_singleton → fK, map_append → aT
open Go.World renaming cell? → kz, setCell → uL, frozen? → uM
open Bool renaming and_eq_true → aA, true_and → iM, false_ne_true → fe
open Go.Exit renaming thenS → jv
open Go.Value.slice renaming injEq → qH
open Go.Value renaming slice → xK
open Array renaming replicate → dz
open Option.some renaming inj → bC
set_option linter.unusedVariables false
set_option linter.unusedSimpArgs false
namespace Go.Proofs.YtpdkoaklobnegaaGreat
open Go.Proofs.Tryz renaming prog → pg
open Go.dL
set_option maxRecDepth 100000
set_option maxHeartbeats 1000000
set_option linter.unusedVariables false
set_option linter.unusedSimpArgs false
attribute [local irreducible] un jn bq aS bb gy dV dD cK lJ ez kV yC xf gU gH aa ay aD eW eV eU eC eF gE ao fin aR aE aJ vS yD jw jA tq A6 A7 yE A8 yF jx jB tt A9 Ba yG Bb
abbrev vN:Value:=.iface 184 (.agg #[])
abbrev G7:List PanicEntry:=[{ v:=vN,recovered:=false }]
section
variable {w : World} {X : XS}
theorem Ig {p0:Value} :Ct pg 51 #[p0,vN] w X nX fun v _ _=>v=I 12:=by
 intro w0 hk;have hs:=aj.init w0;apply IF;unfold yP;repeat' first|with_reducible apply cG|(with_reducible refine agK ?_ ?_);(· kernel_rfl)|(with_reducible apply afR);rfl|with_reducible apply PF|with_reducible apply Wc|with_reducible apply B2|with_reducible apply wI|((with_reducible apply Wd))
 refine dt.2 ⟨rfl,dt.2 ⟨rfl,?_⟩⟩;repeat' first|with_reducible apply PF|with_reducible apply wI
 exact ak hs fun wa hk=>rfl
end
theorem CT {w:World} {b:Nat} {x:Value} {ty:TypeId} (v:Value) (hb:w.heap[b]? =some (.cells #[x] ty (0,0))) (k:Nat):(w.setCell ⟨b,0,none⟩ v).heap[k]? =if k=b then some (.cells #[v] ty (0,0))else w.heap[k]? :=by
 unfold uL;simp only [Array.getElem?_modify];by_cases h:b=k
 ·subst h;simp [hb]
 ·rw [if_neg h,if_neg fun e=>h e.symm]
theorem aeu:Tryz.f15.results= #[.cell 4 56,.cell 5 29]:=by kernel_rfl
theorem aev:Tryz.f16.results= #[.cell 2 29]:=by kernel_rfl
theorem SW {w:World} {k:Nat} {e:Int} (h:w.cell? ⟨k,0,none⟩=some (I e)):(loadVar 29 ⟨k,0,none⟩).run pg w= .ok (I e) w:=by
 have Uy:(isAgg 29).run pg w= .ok false w:=run_isAgg_plain (d:=.int .i64) kQ rfl w;simp [loadVar,Uy,run_load,h]
theorem ac0 {w:World} {k:Nat} {v:Value} (h:w.cell? ⟨k,0,none⟩=some v):(loadVar 56 ⟨k,0,none⟩).run pg w= .ok v w:=by
 have Uy:(isAgg 56).run pg w= .ok false w:=run_isAgg_plain (d:=.slice 48) kQ rfl w;simp [loadVar,Uy,run_load,h]
theorem aba {R:Ending→World→Prop} {RP:List PanicEntry→World→Prop} {cv:List (Option Value)} {p0:Value} (hcv:cv[0]? =some (some p0))
  (hR: ∀ch w,RP ch w→ch=G7∧R (.returned (.tuple #[.slice none 0 0,I 12])) w):PG pg nC Tryz.f15 R 50 [2,4,5] cv RP:=by
 intro ks EH ch w lO Dy mP hh hv dU hRP;obtain⟨k0,k1,k2,rfl⟩: ∃a b c,ks=[a,b,c]:=by
  match ks,lO with
  |[a,b,c],_=>exact⟨a,b,c,rfl⟩
 obtain⟨c0,c1,c2,rfl⟩: ∃a b c,EH=[a,b,c]:=by
  match EH,Dy with
  |[a,b,c],_=>exact⟨a,b,c,rfl⟩
 obtain⟨ty0,g0⟩:=hh 0 k0 c0 rfl rfl;obtain⟨ty1,g1⟩:=hh 1 k1 c1 rfl rfl;obtain⟨R8,g2⟩:=hh 2 k2 c2 rfl rfl;have e0:=hv 0 p0 c0 hcv rfl;have s1:c1.size=1:=dU 1 4 1 c1 rfl kQ rfl;have s2:c2.size=1:=dU 2 5 1 c2 rfl kQ rfl;subst e0;obtain⟨rfl,_⟩:=hR _ _ (hRP w (dL.Outside.refl _ _));refine callsD_of_wpS Tryz.func50 rfl fun c₀ cs hu=>?_;rw [Tryz.ntmps50];simp only [bc,wu,il,aY,bz];apply wpS_seq;apply wpS_region;simp [wpOpsS,go_sem,recoverD,hu,jv];have ht:(#[ed k0 0,ed k1 0,ed k2 0]++((dz 7 undef).setIfInBounds 1 vN).setIfInBounds 0 vN)= #[ed k0 0,ed k1 0,ed k2 0,vN,vN,undef,undef,undef,undef,undef]:=rfl;rw [ht];apply wpS_seq;apply wpS_region;simp [wpOpsS,go_sem,jv];refine wpS_cond (t:=true) (by simp [Act.eval]) ?_;simp only [if_true];apply wpS_region;have pB:w.cell? ⟨k0,0,none⟩=some p0:=by simp [kz,g0]
 simp [wpOpsS,go_sem,ed,pB];refine(Ig (X:=nX) w (Kp.refl _ _)).mono ?_;rintro _ w2 ⟨v,rfl,ly,rfl⟩;have l1:=(Array.getElem?_eq_some_iff.1 g1).1;have l2:=(Array.getElem?_eq_some_iff.1 g2).1;have g1':w2.heap[k1]? =_:=(ly.block k1 l1 (fun h=>h)).trans g1;have g2':w2.heap[k2]? =_:=(ly.block k2 l2 (fun h=>h)).trans g2;obtain⟨x1,rfl⟩: ∃x,c1= #[x]:=by
  match c1,s1 with
  |⟨[x]⟩,_=>exact⟨x,rfl⟩
 obtain⟨x2,rfl⟩: ∃x,c2= #[x]:=by
  match c2,s2 with
  |⟨[x]⟩,_=>exact⟨x,rfl⟩
 have Cp:w2.cell? ⟨k1,0,none⟩=some x1:=by simp [kz,g1']
 have CG:w2.frozen? ⟨k1,0,none⟩=false:=by simp [uM,g1']
 simp [Cp,CG];generalize yQ:w2.setCell ⟨k1,0,none⟩ (.slice none 0 0)=w3;simp only [List.nodup_cons,gM,rN,or_false,not_or] at mP;have g3: ∀k,w3.heap[k]? =if k=k1 then some (.cells #[.slice none 0 0] ty1 (0,0))else w2.heap[k]? :=fun k=>by rw [←yQ,CT _ g1' k]
 have aew:w3.heap[k2]? =some (.cells #[x2] R8 (0,0)):=by rw [g3 k2,if_neg (fun e=>mP.2.1 e.symm)];exact g2'
 have jF:w3.cell? ⟨k2,0,none⟩=some x2:=by simp [kz,aew]
 have Ic:w3.frozen? ⟨k2,0,none⟩=false:=by simp [uM,aew]
 simp [Oper.upon,storeCells,go_sem,jF,Ic];generalize Au:w3.setCell ⟨k2,0,none⟩ (.int .i64 12)=w4;have g4: ∀k,w4.heap[k]? =if k=k2 then some (.cells #[I 12] R8 (0,0))else w3.heap[k]? :=fun k=>by rw [←Au,CT _ aew k]
 have d1:w4.cell? ⟨k1,0,none⟩=some (.slice none 0 0):=by
  have:w4.heap[k1]? =some (.cells #[.slice none 0 0] ty1 (0,0)):=by rw [g4,if_neg mP.2.1,g3,if_pos rfl]
  simp [kz,this]
 have d2:w4.cell? ⟨k2,0,none⟩=some (I 12):=by
  have:w4.heap[k2]? =some (.cells #[I 12] R8 (0,0)):=by rw [g4,if_pos rfl]
  simp [kz,this]
 have We:dL.Outside [k0,k1,k2] w w4:=by
  refine⟨?_,?_,?_,?_,fun k hl hk=>?_⟩
  ·rw [←Au,←yQ];exact ly.os
  ·rw [←Au,←yQ];exact ly.tape
  ·rw [←Au,←yQ];exact ly.output
  ·rw [←Au,←yQ];simpa [uL] using ly.size
  ·simp only [gM,rN,or_false,not_or] at hk;rw [g4,if_neg hk.2.2,g3,if_neg hk.2.1];exact ly.block k hl (fun h=>h)
 refine⟨rfl,.panicking [{ v:=vN,recovered:=true }],rfl,.tuple #[],?_,⟨_,rfl⟩,rfl,_,(hR _ _ (hRP w4 We)).2,fun tmps ht=>?_⟩
 ·simp [results,Tryz.results50]
 ·unfold results;rw [aeu];simp [ht 1 4 k1 rfl rfl,ht 2 5 k2 rfl rfl,asAddr,ac0 d1,SW d2]
theorem abb {R:Ending→World→Prop} {RP:List PanicEntry→World→Prop} {cv:List (Option Value)} {p0:Value} (hcv:cv[0]? =some (some p0))
  (hR: ∀ch w,RP ch w→ch=G7∧R (.returned (I 12)) w):PG pg nD Tryz.f16 R 56 [1,2] cv RP:=by
 intro ks EH ch w lO Dy mP hh hv dU hRP;obtain⟨k0,k2,rfl⟩: ∃a b,ks=[a,b]:=by
  match ks,lO with
  |[a,b],_=>exact⟨a,b,rfl⟩
 obtain⟨c0,c2,rfl⟩: ∃a b,EH=[a,b]:=by
  match EH,Dy with
  |[a,b],_=>exact⟨a,b,rfl⟩
 obtain⟨ty0,g0⟩:=hh 0 k0 c0 rfl rfl;obtain⟨R8,g2⟩:=hh 1 k2 c2 rfl rfl;have e0:=hv 0 p0 c0 hcv rfl;have s2:c2.size=1:=dU 1 2 1 c2 rfl kQ rfl;subst e0;obtain⟨rfl,_⟩:=hR _ _ (hRP w (dL.Outside.refl _ _));refine callsD_of_wpS Tryz.func56 rfl fun c₀ cs hu=>?_;rw [Tryz.ntmps56];simp only [bc,wu,il,aY,bz];apply wpS_seq;apply wpS_region;simp [wpOpsS,go_sem,recoverD,hu,jv];have ht:(#[ed k0 0,ed k2 0]++((dz 7 undef).setIfInBounds 1 vN).setIfInBounds 0 vN)= #[ed k0 0,ed k2 0,vN,vN,undef,undef,undef,undef,undef]:=rfl;rw [ht];apply wpS_seq;apply wpS_region;simp [wpOpsS,go_sem,jv];refine wpS_cond (t:=true) (by simp [Act.eval]) ?_;simp only [if_true];apply wpS_region;have pB:w.cell? ⟨k0,0,none⟩=some p0:=by simp [kz,g0]
 simp [wpOpsS,go_sem,ed,pB];refine(Ig (X:=nX) w (Kp.refl _ _)).mono ?_;rintro _ w2 ⟨v,rfl,ly,rfl⟩;have l2:=(Array.getElem?_eq_some_iff.1 g2).1;have g2':w2.heap[k2]? =_:=(ly.block k2 l2 (fun h=>h)).trans g2;obtain⟨x2,rfl⟩: ∃x,c2= #[x]:=by
  match c2,s2 with
  |⟨[x]⟩,_=>exact⟨x,rfl⟩
 have jF:w2.cell? ⟨k2,0,none⟩=some x2:=by simp [kz,g2']
 have Ic:w2.frozen? ⟨k2,0,none⟩=false:=by simp [uM,g2']
 simp [Oper.upon,storeCells,go_sem,jF,Ic];generalize Au:w2.setCell ⟨k2,0,none⟩ (.int .i64 12)=w4;have g4: ∀k,w4.heap[k]? =if k=k2 then some (.cells #[I 12] R8 (0,0))else w2.heap[k]? :=fun k=>by rw [←Au,CT _ g2' k]
 have d2:w4.cell? ⟨k2,0,none⟩=some (I 12):=by
  have:w4.heap[k2]? =some (.cells #[I 12] R8 (0,0)):=by rw [g4,if_pos rfl]
  simp [kz,this]
 have We:dL.Outside [k0,k2] w w4:=by
  refine⟨?_,?_,?_,?_,fun k hl hk=>?_⟩
  ·rw [←Au];exact ly.os
  ·rw [←Au];exact ly.tape
  ·rw [←Au];exact ly.output
  ·rw [←Au];simpa [uL] using ly.size
  ·simp only [gM,rN,or_false,not_or] at hk;rw [g4,if_neg hk.2];exact ly.block k hl (fun h=>h)
 refine⟨rfl,.panicking [{ v:=vN,recovered:=true }],rfl,.tuple #[],?_,⟨_,rfl⟩,rfl,_,(hR _ _ (hRP w4 We)).2,fun tmps ht=>?_⟩
 ·simp [results,Tryz.results56]
 ·unfold results;rw [aev];simp [ht 1 2 k2 rfl rfl,asAddr,SW d2]
section
variable {w : World} {X : XS} {nb : Nat} {x0 x1 x2 x3 x4 x5 x6 x7 x8 : Value}
theorem Wf (h:bH w X nb [x0,x1,x2,x3,x4,x5,x6,x7,x8] 112):
  Wg pg 57 #[ptr nb 0,I 12] w X (fun k=>k=nb) (fun _ _ _=>False) (fun ch wa w'=>ch=G7∧bH w' (fun k=>k=nb) nb [x0,x1,x2,B true,.map none,I 0,I 0,I 0,.slice none 0 0] 112):=by
 intro w0 hk;have yR:=h.mv hk.dm;have DD:Ft w0 (fun k=>k=nb) w0 (ba w0) (fun k=>k=nb):=Ft.init fun k e=>by subst e;exact yR.1
 refine Be ?_;unfold uD;repeat' first|with_reducible apply cG|((with_reducible apply Uc)<;>intro _)|with_reducible apply B2|with_reducible apply wI|with_reducible apply vM|(exfalso;omega)|(with_reducible apply Av);(· exact yR.cells);(· kernel_rfl);rfl;intro _ _ _
 rename_i o' HP _;obtain rfl:o'=3:=by omega
 refine vO yR kQ (by simp) rfl rfl DD.s.has fun w1 X1 c1 qs=>?_;replace qs:bH w1 X1 nb [x0,x1,x2,B true,x4,x5,x6,x7,x8] 112:=qs;have cm:Ft w0 (fun k=>k=nb) w1 X1 (fun k=>k=nb):=DD.dM c1 (fun k hk=>hk) fun k hk=>.inl hk;repeat' first|(with_reducible apply xk);(· kernel_rfl)|with_reducible apply vM|(with_reducible apply Av);(· exact qs.cells);(· kernel_rfl);rfl;intro _ _ _|(with_reducible apply Li);(· exact qs.cells);(· kernel_rfl);rfl;rfl;intro _ _ _
 rename_i o2 m7 _;obtain rfl:o2=5:=by omega
 refine zH qs rfl kQ (by simp) rfl rfl cm.s.has fun w2 X2 c2 jG=>?_;replace jG:bH w2 X2 nb [x0,x1,x2,B true,x4,I 0,I 0,I 0,x8] 112:=jG;have bK:Ft w0 (fun k=>k=nb) w2 X2 (fun k=>k=nb):=cm.dM c2 (fun k hk=>hk) fun k hk=>.inl hk;repeat' first|with_reducible apply vM|(with_reducible apply Av);(· exact jG.cells);(· kernel_rfl);rfl;intro _ _ _
 rename_i o3 oZ _;obtain rfl:o3=4:=by omega
 refine vO jG kQ (by simp) rfl rfl bK.s.has fun w3 X3 c3 sk=>?_;replace sk:bH w3 X3 nb [x0,x1,x2,B true,.map none,I 0,I 0,I 0,x8] 112:=sk;have cn:Ft w0 (fun k=>k=nb) w3 X3 (fun k=>k=nb):=bK.dM c3 (fun k hk=>hk) fun k hk=>.inl hk;repeat' first|with_reducible apply vM|(with_reducible apply Av);(· exact sk.cells);(· kernel_rfl);rfl;intro _ _ _
 rename_i o4 yI _;obtain rfl:o4=8:=by omega
 refine vO sk kQ (by simp) rfl rfl cn.s.has fun w4 X4 c4 o9=>?_;replace o9:bH w4 X4 nb [x0,x1,x2,B true,.map none,I 0,I 0,I 0,.slice none 0 0] 112:=o9;have dS:Ft w0 (fun k=>k=nb) w4 X4 (fun k=>k=nb):=cn.dM c4 (fun k hk=>hk) fun k hk=>.inl hk;repeat' first|(with_reducible apply xk);(· kernel_rfl)|(with_reducible refine agL ?_ ?_);(· kernel_rfl)
 refine agM dS.s.has fun wa hka=>dS.gY hka ⟨rfl,?_⟩;exact⟨rfl,(hka.block nb o9.1).trans o9.2⟩
end
section
variable {R : Ending → World → Prop} {w w0 : World} {X F F0 : XS} {nb : Nat} {x0 x1 x2 x3 x4 x5 x6 x7 x8 : Value} {N : Value → World → XS → Prop}
theorem PH {e:Nat} (hT:Ft w0 F0 w X F) (hb:bH w X nb [x0,x1,x2,x3,x4,x5,x6,x7,x8] 112) (fU:F nb)
  (k:e≠12→ ∀w' X',aj X w X' w'→N (I e) w' X')
  (kd:e=12→ ∀wa w' X',w.heap.size≤wa.heap.size→(∀k,made wa w' k→X' k)→Ft w0 F0 w' X' (fun k=>F k∨made wa w' k)→eD (fun k=>k=nb) X w X' w'→
   bH w' X' nb [x0,x1,x2,B true,.map none,I 0,I 0,I 0,.slice none 0 0] 112→ ∀wb,Kp X' w' wb→R (.panicked G7) wb):
  eC pg R X w true 57 #[ptr nb 0,I e] N:=by
 by_cases he:e=12
 ·subst he;refine hT.Ud (Wf hb) kQ (fun k hk=>by subst hk;exact fU) (fun _ _ _ _ h=>h.elim) fun ch wa w' X' hq hle alm hT' c=>?_;obtain⟨rfl,hr⟩:=hq;exact kd rfl wa w' X' hle alm hT' c ⟨c.sub nb hb.1,hr.2⟩
 ·exact gh (zG (e:=(e:Int)) zQ) kQ hT.s.has fun w' X' hs=>k he w' X' hs
end
def vj (w:World) (F:XS) (nb lb db:Nat) (s:SM) (L:LM) (m:DM):Prop:=
 ∃FG,¬FG nb∧(∀k,FG k→F k)∧bH w F nb [ptr lb 0,I s.every,I s.since,B true,.map none,I 0,I 0,I 0,.slice none 0 0] 112∧Lg w FG lb db L m
theorem vj.mv {w w':World} {F:XS} {nb lb db:Nat} {s:SM} {L:LM} {m:DM} (h:vj w F nb lb db s L m) (v:Mv F w F w'):vj w' F nb lb db s L m:=by
 obtain⟨FG,hn,hs,hr,hg⟩:=h;exact⟨FG,hn,hs,hr.mv v,hg.mv fun k hk hl=>⟨hk,(v k (hs k hk) hl).2⟩⟩
theorem vj.mono {w:World} {F F':XS} {nb lb db:Nat} {s:SM} {L:LM} {m:DM} (h:vj w F nb lb db s L m) (hs: ∀k,F k→F' k):vj w F' nb lb db s L m:=by
 obtain⟨FG,hn,h2,hr,hg⟩:=h;exact⟨FG,hn,fun k hk=>hs k (h2 k hk),⟨hs nb hr.1,hr.2⟩,hg⟩
theorem J9 {w:World} {X F:XS} {nb lb db e:Nat} {s:SM} {L:LM} {m:DM} {r:Rec} {vr vw vp vq vh vd:Value} {bs:List Nat} (h:ig w F nb lb db s L m) (hL:iT L) (j7:L.bI.length≤2^29) (hF:FX F X w)
  (Gt: ∀wa,Kp X w wa→Ct pg 91 #[r.v vr vw vp vq vh vd] wa (out F wa) nX fun v wb w'=>if e≠0 then v= .tuple #[.slice none 0 0,I e] else∃vb,v= .tuple #[vb,I 0]∧Own w' (made wb w') wb.heap.size 5 1 vb (bs.map U1))
  (h1:dL.one vr=true) (h2:dL.one vw=true) (h3:dL.one vp=true) (h4:dL.one vq=true) (h5:dL.one vh=true) (h6:dL.one vd=true)
  (Fe:iT (LD.append ⟨L,m⟩ bs).1.L):
  Wg pg 54 #[ptr nb 0,r.v vr vw vp vq vh vd] w X F (fun v wa w'=>(LD.dN ⟨L,m⟩ e bs).2.2≠12∧v= .tuple #[I (LD.dN ⟨L,m⟩ e bs).2.1,I (LD.dN ⟨L,m⟩ e bs).2.2]∧
   ∃F',(∀k,F' k→F k∨made wa w' k)∧ig w' F' nb lb db s (LD.dN ⟨L,m⟩ e bs).1.L (LD.dN ⟨L,m⟩ e bs).1.m)
   (fun ch wa w'=>(LD.dN ⟨L,m⟩ e bs).2.2=12∧ch=G7∧ ∃F',(∀k,F' k→F k∨made wa w' k)∧vj w' F' nb lb db s (LD.dN ⟨L,m⟩ e bs).1.L (LD.dN ⟨L,m⟩ e bs).1.m):=by
 intro w0 hk;obtain⟨FN,FG,mb,av,es,iW,hN,hG,bT,hg⟩:=h.mv (hF.mv hk);have hT:=hF.ft hk;have iz:FX F (ba w0) w0:=hF.kp hk;have hb:=bT.box.mv (Mv.sub fun k ai=>hT.aU k (hN k ai));generalize hr:LD.dN ⟨L,m⟩ e bs=q;unfold LD.dN at hr;dsimp only at hr;apply Bh;unfold uG;refine cJ ((Gt w0 hk).since (hT.s)) kQ hT.s.has ?_;rintro ve HQ w1 X1 hq tv oF aq;have cm:=hT.since aq;have kW:=hb.since aq;have hS: ∀(x:LD) (F1:XS) (w2:World) (X2:XS),Ft w0 F w2 X2 F1→ig w2 F1 nb lb db s x.L x.m→ ∀wa,Kp X2 w2 wa→ ∃F',(∀k,F' k→F k∨made w0 wa k)∧ig wa F' nb lb db s x.L x.m:=fun x F1 w2 X2 bK h2 wa aM=>⟨F1,bK.fL aM fun _ h=>h,h2.mv (aM.ew bK.aU)⟩;have hD: ∀(x:LD) (F1 Dz:XS) (w2:World) (X2:XS),Ft w0 F w2 X2 F1→bH w2 X2 nb [ptr lb 0,I s.every,I s.since,B true,.map none,I 0,I 0,I 0,.slice none 0 0] 112→F1 nb→ ¬Dz nb→(∀k,Dz k→F1 k)→Lg w2 Dz lb db x.L x.m→ ∀wa,Kp X2 w2 wa→ ∃F',(∀k,F' k→F k∨made w0 wa k)∧vj wa F' nb lb db s x.L x.m:=
  fun x F1 Dz w2 X2 bK hr R9 hn hs qu wa aM=>⟨F1,bK.fL aM fun _ h=>h,Dz,hn,hs,⟨R9,(aM.block nb hr.1).trans hr.2⟩,qu.mv fun k ai hl=>⟨ai,aM.block k (bK.aU k (hs k ai))⟩⟩
 have hnF:F nb:=hN nb bT.box.1;have UO:mI w1 FN nb lb mb av es s:=bT.mv (aq.dZ fun k ai=>hT.aU k (hN k ai));have Ch:Lg w1 FG lb db L m:=hg.mv (aq.dZ fun k ai=>hT.aU k (hG k ai));by_cases he:e≠0
 ·rw [if_pos he] at hq hr;subst hq;subst hr;dsimp only;repeat' first|refine bL ?_;intros|with_reducible apply cG
  refine PH (e:=e) cm kW hnF (fun wv w2 X2 bQ=>?_) fun wv wc w2 X2 sD ph bK jF jG wb aM=>?_
  case' refine_2=>exact bK.gY aM ⟨wv,rfl,hD ⟨L,m⟩ _ FG _ _ bK jG (.inl hnF) (iW nb bT.box.1) (fun k ai=>.inl (hG k ai)) (Ch.mv (jF.ew fun k ai=>⟨cm.aU k (hG k ai),fun e=>iW nb bT.box.1 (by rw [←(show k=nb from e)];exact ai)⟩)) wb aM⟩
  skip
  exact(cm.since bQ).aex fun wa aM=>⟨wv,rfl,hS ⟨L,m⟩ F _ _ (cm.since bQ) ⟨FN,FG,mb,av,es,iW,hN,hG,UO.mv (bQ.dZ fun k ai=>cm.aU k (hN k ai)),Ch.mv (bQ.dZ fun k ai=>cm.aU k (hG k ai))⟩ wa aM⟩
 ·rw [if_neg he] at hq hr;obtain⟨vb,rfl,Bi⟩:=hq;have ovb:=Bi.sl.one;repeat' first|refine bL ?_;intros|with_reducible apply cG
  have hFG:FX FG X1 w1:=cm.fx hG;refine cm.call (Jq Ch hL zQ hFG Bi.sl fun k ai=>⟨oF k ai,fun hf=>?_⟩) kQ hG fun v rZ w2 X2 hq sD ph bK jF=>?_
  ·have:=(iz k (hG k hf)).2;have:=ai.1;omega
  obtain⟨rfl,Dz,UP,qu⟩:=hq;generalize rW:LD.append ⟨L,m⟩ bs=ap at hr Fe qu⊢;have Np:mI w2 FN nb lb mb av es s:=UO.mv (jF.ew fun k ai=>⟨cm.aU k (hN k ai),fun hf=>iW k ai hf⟩);have Ci:Dj FN Dz:=fun k a b=>(UP k b).elim (iW k a) fun hm=>by
   have:=(cm.fx hN k a).2;have:=hm.1;omega
  have Cj: ∀k,FN k→F k∨made rZ w2 k:=fun k ai=>.inl (hN k ai);have Ff: ∀k,Dz k→F k∨made rZ w2 k:=fun k ai=>(UP k ai).imp (hG k) id;have ny:=Np.box.mv (Mv.sub fun k ai=>bK.aU k (Cj k ai));by_cases hz:ap.2.2≠0
  ·rw [if_pos hz] at hr;subst hr;repeat' first|refine bL ?_;intros|with_reducible apply cG
   refine PH (e:=ap.2.2) bK ny (Cj nb bT.box.1) (fun wv w3 X3 cl=>?_) fun wv wc w3 X3 nJ mg cn lL sk wb aM=>?_
   case' refine_2=>exact cn.gY aM ⟨wv,rfl,hD ap.1 _ Dz _ _ cn sk (.inl (Cj nb bT.box.1)) (Ci nb bT.box.1) (fun k ai=>.inl (Ff k ai)) (qu.mv (lL.ew fun k ai=>⟨bK.aU k (Ff k ai),fun e=>Ci nb bT.box.1 (by rw [←(show k=nb from e)];exact ai)⟩)) wb aM⟩
   skip
   exact(bK.since cl).aex fun wa aM=>⟨wv,rfl,hS ap.1 _ _ _ (bK.since cl) ⟨FN,Dz,mb,av,es,Ci,Cj,Ff,Np.mv (cl.dZ fun k ai=>bK.aU k (Cj k ai)),qu.mv (cl.dZ fun k ai=>bK.aU k (Ff k ai))⟩ wa aM⟩
  ·rw [if_neg hz] at hr;have tw:(ap.2.2:Int)=0:=by omega
   repeat' first|refine bL ?_;intros|with_reducible apply cG
   refine bK.call (BN qu Fe (bK.fx Ff)) kQ Ff fun v oG w3 X3 hq nJ mg cn lL=>?_;obtain⟨rfl,OV,UQ,Sj⟩:=hq;have eap:ap.1=⟨ap.1.L,ap.1.m⟩:=rfl;rw [eap] at hr;subst hr;generalize hsy:LD.sync ⟨ap.1.L,ap.1.m⟩=sy at Sj⊢;have Nq:mI w3 FN nb lb mb av es s:=Np.mv (lL.ew fun k ai=>⟨bK.aU k (Cj k ai),fun hf=>Ci k ai hf⟩);have Nr:Dj FN OV:=fun k a b=>(UQ k b).elim (Ci k a) fun hm=>by
    have:=(bK.fx Cj k a).2;have:=hm.1;omega
   have HR: ∀k,FN k→(F k∨made rZ w2 k)∨made oG w3 k:=fun k ai=>.inl (Cj k ai);have OW: ∀k,OV k→(F k∨made rZ w2 k)∨made oG w3 k:=fun k ai=>(UQ k ai).imp (Ff k) id
   skip
   have zY:=Nq.box.mv (Mv.sub fun k ai=>cn.aU k (HR k ai));refine PH (e:=sy.2) cn zY (HR nb bT.box.1) (fun wv w4 X4 ff=>?_) fun wv wc w4 X4 sF lK dS sc o9 wb aM=>?_
   case' refine_2=>exact dS.gY aM ⟨wv,rfl,hD sy.1 _ OV _ _ dS o9 (.inl (HR nb bT.box.1)) (Nr nb bT.box.1) (fun k ai=>.inl (OW k ai)) (Sj.mv (sc.ew fun k ai=>⟨cn.aU k (OW k ai),fun e=>Nr nb bT.box.1 (by rw [←(show k=nb from e)];exact ai)⟩)) wb aM⟩
   skip
   exact(cn.since ff).aex fun wa aM=>⟨wv,rfl,hS sy.1 _ _ _ (cn.since ff) ⟨FN,OV,mb,av,es,Nr,HR,OW,Nq.mv (ff.dZ fun k ai=>cn.aU k (HR k ai)),Sj.mv (ff.dZ fun k ai=>cn.aU k (OW k ai))⟩ wa aM⟩
def zO (s:SM) (x:LD) (g:fJ):Bool:=g.asks&&s.rE g&&decide ((x.dN 0 (gS (en g.prev g.aP g.cB g.writes))).2.2=12)
def abc (nb lb db:Nat) (s:SM) (x:LD) (g:fJ) (F:XS) (v:Value) (wa w':World):Prop:=
 if zO s x g=true then v= .tuple #[.slice none 0 0,I 12]∧ ∃F',(∀k,F' k→F k∨made wa w' k)∧vj w' F' nb lb db s (mL s x g).2.L (mL s x g).2.m else
 ∃vo F' S',v= .tuple #[vo,I 0]∧(∀k,F' k→F k∨made wa w' k)∧(∀k,S' k→made wa w' k∧ ¬F' k)∧ig w' F' nb lb db (mL s x g).1 (mL s x g).2.L (mL s x g).2.m∧Sl w' S' 36 vo (if g.asks then [rA g.fr (mL s x g).1.high] else [])
theorem Wh {w:World} {X F S:XS} {nb lb db:Nat} {s:SM} {L:LM} {m:DM} {g:fJ} {vk vs vw vp vr vc vh vd:Value} (h:ig w F nb lb db s L m) (hL:iT L) (j7:L.bI.length≤2^29) (hF:FX F X w) (gg:s.down=false)
  (fm:g.at w S vk vs vw vp vr vc vh vd) (hS: ∀k,S k→X k∧ ¬F k) (jo:g.small) (MM:g.lens≤2^40) (hl:g.writes.length≤2^16) (lO: ∀x∈g.writes,x.key.size≤2^16)
  (Zq:ik g.prev g.aP g.cB g.writes=true→(gS (en g.prev g.aP g.cB g.writes)).length≤262144) (hd:s.done.length≤2^30) (Mq:0≤s.since∧s.since<2^40)
  (Fe:iT (LD.append ⟨L,m⟩ (gS (en g.prev g.aP g.cB g.writes))).1.L):
  Ct pg 15 #[ptr nb 0,g.v vk vs vw vp vr vc vh vd] w X F fun v wa w'=>abc nb lb db s ⟨L,m⟩ g F v wa w':=by
 intro w0 hk;replace h:=h.mv (hF.mv hk);have hT:=hF.ft hk;have iz:FX F (ba w0) w0:=hF.kp hk;have G8:g.at w0 (out F w0) vk vs vw vp vr vc vh vd:=fm.mv fun k ai yH=>⟨⟨aK yH hk.size,(hS k ai).2⟩,hk.block k (hS k ai).1⟩;have wG:=G8.writes;have q1:=G8.keys.one;have q2:=G8.seen.one;have q3:=wG.one;have q4:=G8.parts.one;have q5:=G8.ranges.one;have q6:=G8.bS.one;have q7:=G8.ia.one;have q8:=G8.g8.one;obtain⟨ab,an,ac,rfl⟩:=wG.form;unfold abc;generalize eI:zO s ⟨L,m⟩ g=fl;generalize hr:mL s ⟨L,m⟩ g=q;unfold mL at hr;obtain⟨FN,FG,mb,av,es,iW,hN,hG,bT,hg⟩:=id h;have hb:=bT.box.mv (Mv.sub fun k ai=>hT.aU k (hN k ai));rw [gg] at hb;refine Ka (RP:=fun ch w'=>ch=G7∧Bo F w0 (fun v w'=>(fun v wa w'=>if fl=true then v= .tuple #[.slice none 0 0,I 12]∧ ∃F',(∀k,F' k→F k∨made wa w' k)∧vj w' F' nb lb db s q.2.L q.2.m else
   ∃vo F' S',v= .tuple #[vo,I 0]∧(∀k,F' k→F k∨made wa w' k)∧(∀k,S' k→made wa w' k∧ ¬F' k)∧ig w' F' nb lb db q.1 q.2.L q.2.m∧Sl w' S' 36 vo (if g.asks then [rA g.fr q.1.high] else [])) v w0 w') (.returned (.tuple #[.slice none 0 0,I 12])) w')
  (g0:=50) (cb:=[2,4,5]) (cv:=[some (ptr nb 0),none,none]) (fun g hg=>?_) kQ (aba rfl fun ch w h=>h) ?_
 ·have e:zj Tryz.f15=some 50:=by kernel_rfl
  rw [e] at hg;cases hg;exact Sk
 unfold qh;repeat' first|refine aI ?_;intros
 refine dy (Yy (G8.mv hT.s.mv) jo zQ) kQ hT.s.has fun w1 X1 aq=>?_;have cm:=hT.since aq;have h1:ig w1 F nb lb db s L m:=h.mv (aq.dZ hT.aU);clear hb hg bT iW hN hG;cases lz:g.asks with
 |false=>
  have hq:q=(s,⟨L,m⟩):=by rw [←hr,if_neg (by simp [lz])]
  subst hq;have AT:fl=false:=by rw [←eI];simp [zO,lz]
  have adC: ¬(g.err=0∧g.to=32∧(g.kind=12∨g.kind=13)):=by
   intro hh;obtain⟨h1,h2,h3⟩:=hh;simp only [fJ.asks,h1,h2,decide_true,iM,Bool.or_eq_false_iff,decide_eq_false_iff_not] at lz;exact h3.elim lz.1 lz.2
  repeat' first|refine bL ?_;intros|refine de ?_ ?_<;>intros
  all_goals first
   |exact cm.NS fun wa aM=>Wi AT ⟨jz,F,nX,rfl,fun _ h=>.inl h,fun _ h=>h.elim,h1.mv (aM.ew cm.aU),by rw [if_neg (by simp)];exact Sl.nil _ _ _⟩
   |(exfalso;omega)
 |true=>
  have Wj:g.err=0∧g.to=32∧(g.kind=12∨g.kind=13):=by
   simpa [fJ.asks,and_assoc] using lz
  obtain⟨y1,y2,y3⟩:=Wj;rw [y1];rcases y3 with y3|y3
  ·repeat' first|refine bL ?_;intros
   refine fk (Q:=fun K=> ∀w2 X2 F2,fl=false→Ft w0 F w2 X2 F2→ig w2 F2 nb lb db q.1 q.2.L q.2.m→K w2 X2) ?_ fun K hK=>?_
   ·intro w2 X2 F2 AT bK h2;obtain⟨FN,FG,mb,av,es,iW,hN,hG,bQ,hg⟩:=id h2;have ny:=bQ.box.mv (Mv.sub fun k ai=>bK.aU k (hN k ai));repeat' first|refine aI ?_;intros
    refine Lh bK.s.has kQ rfl fun v w3 X3 cl oZ=>?_;have ov:=oZ.sl.one;repeat' first|refine aI ?_;intros
    have cn:=bK.since cl;refine cn.NS fun wa aM=>Wi AT ⟨v,F2,iu v,rfl,cn.fL aM fun _ h=>h,fun k ai=>?_,(h2.mv (cl.dZ bK.aU)).mv (aM.ew cn.aU),?_⟩
    ·obtain⟨a1,a2⟩:=oZ.ge ai;have b1:=bK.s.kp.size;have b3:=aM.size;refine⟨⟨by omega,by omega⟩,fun hf=>?_⟩;have:=bK.s.has k (bK.aU k hf);omega
    ·rw [if_pos rfl];exact(oZ.kp aM).ow.tight.sl
   ·obtain⟨FN,FG,mb,av,es,iW,hN,hG,vW,hg⟩:=id h1;have kW:=vW.box.mv (Mv.sub fun k ai=>cm.aU k (hN k ai));repeat' first|(with_reducible refine Jr ?_ ?_);omega|with_reducible (first|apply zk|apply tB|apply Ck|apply vM)|(with_reducible apply Li);exact qF;(· kernel_rfl);rfl;exact qN;intro _ _ _|(with_reducible apply Lj);exact qF;exact qM;(· kernel_rfl);rfl
    refine fk (Q:=fun K1=> ∀w2 X2,aj X1 w1 X2 w2→K1 (I (g.aP.cmp s.high)) w2 X2) ?_ fun K1 Js=>?_
    ·intro w2 X2 bQ;have bK:=cm.since bQ;have h2:=h1.mv (bQ.dZ cm.aU);have ny:=kW.since bQ;have kU:s.rE g=false→K w2 X2:=fun hf=>hK _ _ F (by rw [←eI];simp [zO,hf]) bK (by
      have hq:q=(s,⟨L,m⟩):=by rw [←hr,if_neg (by simp [hf])]
      rw [hq];exact h2)
     repeat' first|with_reducible (first|apply B2|apply wI|apply zk|apply Cl|apply tB|apply Ck|apply z6|apply z7|apply z8|apply vM)|(with_reducible apply OX<;>intro _)|(with_reducible apply Li);exact qF;(· kernel_rfl);rfl;exact qN;intro _ _ _|(with_reducible apply Lj);exact qF;exact qM;(· kernel_rfl);rfl|(with_reducible apply xk);(· kernel_rfl)|(with_reducible refine DB _ _ ?_ ?_ ?_);(· kernel_rfl);all_goals intros
     case refine_2.k=>
      have hp:g.prev=s.high:=by first|assumption|(ext<;>assumption)
      have pj:s.rE g=true:=by
       simp only [SM.rE,y3,decide_true,iM,aA,decide_eq_true_eq];exact⟨by assumption,hp⟩
      rw [lz,pj,iM,if_pos rfl] at hr;dsimp only at hr;have rW:=fJ.BP lz y3;have Gt: ∀wa,Kp X2 w2 wa→Ct pg 91 #[(en g.prev g.aP g.cB g.writes).v jz (.slice ab an ac) jz jz jz jz] wa (out F wa) nX fun v wb w'=>
        if(0:Nat)≠0 then v= .tuple #[.slice none 0 0,I (0:Nat)] else∃vb,v= .tuple #[vb,I 0]∧Own w' (made wb w') wb.heap.size 5 1 vb ((gS (en g.prev g.aP g.cB g.writes)).map U1):=fun wa aM=>by
       have xa:Sl wa (out F wa) 4 (.slice ab an ac) (g.writes.map KV.l):=wG.mv fun k ai yH=>⟨⟨aK ai.1 (ah bK.s.kp.size aM.size),ai.2⟩,(aM.block k (bK.s.sub k ai)).trans (bK.s.kp.block k ai)⟩;refine(zl (r:=en g.prev g.aP g.cB g.writes) ⟨Sl.nil _ _ _,xa,Sl.nil _ _ _,Sl.nil _ _ _,ic.nil _ _ _,ic.nil _ _ _⟩ ?_ rfl (fun _=>⟨hl,lO,Zq rW⟩)).mono fun v wb w' _ hq=>?_
       ·exact⟨by simp [en],by simp [en];omega,by simp [en],fun x hx=>by have:=lO x hx;omega,⟨by simp [en,State.zero,Aa],by simp [en,State.zero,Ab],by simp [en,State.zero,Gu],by simp [en,State.zero,Gv]⟩⟩
       ·rw [Ns rW,if_neg (by simp)] at hq;rw [if_neg (by simp)];exact hq
      refine bK.Ud (J9 (r:=en g.prev g.aP g.cB g.writes) (e:=0) h2 hL j7 (bK.fx fun _ h=>h) Gt rfl rfl rfl rfl rfl rfl Fe) kQ (fun _ h=>h) (fun v oG w3 X3 Bj nJ mg cn lL=>?_) fun ch oG w3 X3 Bj nJ mg cn lL wb me=>?_
      case' refine_2=>
       obtain⟨ZM,rfl,F3,Cm,h3⟩:=Bj;have Wk:fl=true:=by rw [←eI];simp [zO,lz,pj,ZM]
       have fX:Ft w0 F w3 X3 F3:=cn.less Cm;refine⟨rfl,fX.ret me (ifT Wk ⟨rfl,F3,fX.fL me fun _ h=>h,?_⟩)⟩;have h4:=h3.mv (me.ew fX.aU);rw [←hr];exact h4
      obtain⟨abd,rfl,F3,Cm,h3⟩:=Bj;have AT:fl=false:=by rw [←eI];simp [zO,abd]
      generalize LD.dN ⟨L,m⟩ 0 (gS (en g.prev g.aP g.cB g.writes))=kp at hr h3⊢;have fX:Ft w0 F w3 X3 F3:=cn.less Cm;repeat' first|refine aI ?_;intros|refine de ?_ ?_<;>intros
      ·rename_i hz;have tw:kp.2.2=0:=by omega
       rw [if_pos tw] at hr;refine fX.call (HS (l:=g.writes) h3 (fX.fx fun _ h=>h) (S:=out F w0) (wG.mv fun k ai _=>⟨ai,fX.s.kp.block k ai⟩) (fun k ai=>⟨?_,?_⟩) zQ hd) kQ (fun _ h=>h) fun v yJ w4 X4 UR sF lK dS sc=>?_
       ·exact fX.s.sub k ai
       ·exact fun hf=>fX.no hf ai
       obtain⟨rfl,F4,Jt,h4⟩:=UR;have po:Ft w0 F w4 X4 F4:=dS.less Jt;obtain⟨FN4,FG4,mb4,av4,es4,adR,US,hG4,ff,hg4⟩:=id h4;have uu:=ff.box.mv (Mv.sub fun k ai=>po.aU k (US k ai));rw [show(s.apply g.cB g.aP g.writes).since=s.since from rfl] at uu;repeat' first|refine aI ?_;intros
       refine kK (o:=2) uu zQ kQ (by simp) rfl po.s.has fun w5 X5 c5 sd=>?_;have gR:Ft w0 F w5 X5 F4:=po.dM c5 (fun k ai=>by subst ai;exact US _ ff.box.1) fun k ai=>.inl ai;have h5:=ig.Nt adR US hG4 po.aU ff hg4 c5 (s.since+1) sd;refine hK _ _ F4 AT gR ?_;rw [←hr];exact h5
      ·rename_i hz;have tw:kp.2.2≠0:=by omega
       rw [if_neg tw] at hr;refine hK _ _ F3 AT fX ?_;rw [←hr];exact h3
     all_goals exact kU (by simp [SM.rE, *])
    ·repeat' first|refine aI ?_;intros|(refine gh (pz g.aP s.high) kQ cm.s.has fun w2 X2 bQ=>?_)
     exact Js _ _ bQ
  ·repeat' first|refine bL ?_;intros
   refine fk (Q:=fun K=> ∀w2 X2 F2,fl=false→Ft w0 F w2 X2 F2→ig w2 F2 nb lb db q.1 q.2.L q.2.m→K w2 X2) ?_ fun K hK=>?_
   ·intro w2 X2 F2 AT bK h2;obtain⟨FN,FG,mb,av,es,iW,hN,hG,bQ,hg⟩:=id h2;have ny:=bQ.box.mv (Mv.sub fun k ai=>bK.aU k (hN k ai));repeat' first|refine aI ?_;intros
    refine Lh bK.s.has kQ rfl fun v w3 X3 cl oZ=>?_;have ov:=oZ.sl.one;repeat' first|refine aI ?_;intros
    have cn:=bK.since cl;refine cn.NS fun wa aM=>Wi AT ⟨v,F2,iu v,rfl,cn.fL aM fun _ h=>h,fun k ai=>?_,(h2.mv (cl.dZ bK.aU)).mv (aM.ew cn.aU),?_⟩
    ·obtain⟨a1,a2⟩:=oZ.ge ai;have b1:=bK.s.kp.size;have b3:=aM.size;refine⟨⟨by omega,by omega⟩,fun hf=>?_⟩;have:=bK.s.has k (bK.aU k hf);omega
    ·rw [if_pos rfl];exact(oZ.kp aM).ow.tight.sl
   ·obtain⟨FN,FG,mb,av,es,iW,hN,hG,vW,hg⟩:=id h1;have kW:=vW.box.mv (Mv.sub fun k ai=>cm.aU k (hN k ai));have kU: ∀w2 X2,aj X1 w1 X2 w2→K w2 X2:=fun w2 X2 bQ=>hK _ _ F (by rw [←eI];simp [zO,SM.rE,y3]) (cm.since bQ) (by
      have hq:q=(s,⟨L,m⟩):=by rw [←hr,if_neg (by simp [SM.rE,y3])]
      rw [hq];exact h1.mv (bQ.dZ cm.aU))
    repeat' first|refine bL ?_;intros
    refine fk (Q:=fun K1=> ∀v,K1 v w1 X1) ?_ fun K1 Js=>?_
    ·intro ZZ;repeat' first|refine aI ?_;intros
     all_goals exact kU _ _ (aj.dY cm.s.has)
    ·repeat' first|refine aI ?_;intros
     all_goals exact Js _
def DQ (s:SM) (x:LD) (K:Nat):Bool:=
 !s.idle&&(decide ((x.dN 0 (fT (fg s.high s.list))).2.2=12)||(decide ((x.dN 0 (fT (fg s.high s.list))).2.2=0)&&decide (((x.dN 0 (fT (fg s.high s.list))).1.trim (x.dN 0 (fT (fg s.high s.list))).2.1 K).2=12)))
def abe (nb lb db:Nat) (s:SM) (x:LD) (K:Nat) (F:XS) (v:Value) (wa w':World):Prop:=
 if DQ s x K=true then v=I 12∧ ∃F',(∀k,F' k→F k∨made wa w' k)∧vj w' F' nb lb db (kL s x K).1 (kL s x K).2.L (kL s x K).2.m else
 ∃F',v=I 0∧(∀k,F' k→F k∨made wa w' k)∧ig w' F' nb lb db (kL s x K).1 (kL s x K).2.L (kL s x K).2.m
theorem Wl {w:World} {X F:XS} {nb lb db K:Nat} {s:SM} {L:LM} {m:DM} (h:ig w F nb lb db s L m) (hL:iT L) (j7:L.bI.length≤2^29) (hF:FX F X w) (gg:s.down=false)
  (dU: ∀x∈s.bF,x.1.size≤2^16) (hlen:s.list.length≤2^16) (hlp:s.bF.length≤2^16) (aln: ∀x∈s.list,x.key.size≤2^16) (alo:s.high.may=true) (hpo:sw s.list=true) (Zq:(fT (fg s.high s.list)).length≤262144)
  (Fe:s.idle=false→iT (LD.append ⟨L,m⟩ (fT (fg s.high s.list))).1.L)
  (abf:s.idle=false→iT (LD.dN ⟨L,m⟩ 0 (fT (fg s.high s.list))).1.L) (hK:s.idle=false→(LD.dN ⟨L,m⟩ 0 (fT (fg s.high s.list))).1.L.bI.length≤K) (SF:K≤2^40):
  Ct pg 16 #[ptr nb 0] w X F fun v wa w'=>abe nb lb db s ⟨L,m⟩ K F v wa w':=by
 intro w0 hk;replace h:=h.mv (hF.mv hk);have hT:=hF.ft hk;have iz:FX F (ba w0) w0:=hF.kp hk;unfold abe;generalize eI:DQ s ⟨L,m⟩ K=fl;generalize hr:kL s ⟨L,m⟩ K=q;unfold kL at hr;obtain⟨FN,FG,mb,av,es,iW,hN,hG,bT,hg⟩:=id h;have hb:=bT.box.mv (Mv.sub fun k ai=>hT.aU k (hN k ai));rw [gg] at hb;refine Kb (RP:=fun ch w'=>ch=G7∧Bo F w0 (fun v w'=>(fun v wa w'=>if fl=true then v=I 12∧ ∃F',(∀k,F' k→F k∨made wa w' k)∧vj w' F' nb lb db q.1 q.2.L q.2.m else
   ∃F',v=I 0∧(∀k,F' k→F k∨made wa w' k)∧ig w' F' nb lb db q.1 q.2.L q.2.m) v w0 w') (.returned (I 12)) w')
  (g0:=56) (cb:=[1,2]) (cv:=[some (ptr nb 0),none]) (fun g hg=>?_) kQ (abb rfl fun ch w h=>h) ?_
 ·have e:zj Tryz.f16=some 56:=by kernel_rfl
  rw [e] at hg;cases hg;exact acr
 unfold uN;have G9:s.idle=true→ ∀wa,Kp (ba w0) w0 wa→ ∃F',I 0=I 0∧(∀k,F' k→F k∨made w0 wa k)∧ig wa F' nb lb db q.1 q.2.L q.2.m:=fun hi wa aM=>by
  rw [if_pos hi] at hr;subst hr;exact⟨F,rfl,fun _ h=>.inl h,h.mv (aM.ew hT.aU)⟩
 repeat' first|refine aI ?_;intros|refine de ?_ ?_<;>intros
 ·have hi:s.idle=true:=by simp [SM.idle, *]
  exact hT.NS fun wa aM=>Wi (by rw [←eI];simp [DQ,hi]) (G9 hi wa aM)
 ·have hi:s.idle=true:=by simp [SM.idle, *]
  exact hT.NS fun wa aM=>Wi (by rw [←eI];simp [DQ,hi]) (G9 hi wa aM)
 have hi:s.idle=false:=by simp [SM.idle, *]
 replace Fe:=Fe hi;replace abf:=abf hi;replace hK:=hK hi;rw [if_neg (by rw [hi];simp)] at hr;dsimp only at hr;unfold DQ at eI;rw [hi] at eI;clear G9;refine cJ (xi bT (hT.fx hN) (fun x hx=>by have:=dU x hx;omega) zQ) kQ hT.s.has ?_;rintro vp HQ w1 X1 yB tv oF aq;have cm:=hT.since aq;have h1:ig w1 F nb lb db s L m:=h.mv (aq.dZ hT.aU);have ahW:Own w1 X1 w0.heap.size 74 4 vp (s.list.map KV.l):=yB.up oF tv;obtain⟨pb,pn,pc,rfl⟩:=ahW.sl.form;repeat' first|refine aI ?_;intros
 have Gt: ∀wa,Kp X1 w1 wa→Ct pg 91 #[(fg s.high s.list).v jz jz jz (.slice pb pn pc) jz jz] wa (out F wa) nX fun v wb w'=>
   if(0:Nat)≠0 then v= .tuple #[.slice none 0 0,I (0:Nat)] else∃vb,v= .tuple #[vb,I 0]∧Own w' (made wb w') wb.heap.size 5 1 vb ((fT (fg s.high s.list)).map U1):=fun wa aM=>by
  have xa:Sl wa (out F wa) 4 (.slice pb pn pc) (s.list.map KV.l):=(ahW.kp aM).tight.sl.mono fun k ai=>⟨ai.2,fun hf=>by
   have:=(iz k hf).2;have:=ai.1;omega⟩
  refine(Fo (r:=fg s.high s.list) ⟨Sl.nil _ _ _,Sl.nil _ _ _,Sl.nil _ _ _,xa,ic.nil _ _ _,ic.nil _ _ _⟩ ?_ rfl (fun _=>⟨hlen,aln,Zq⟩)).mono fun v wb w' _ hq=>?_
  ·exact⟨by simp [fg],by simp [fg],by simp [fg],by simp [fg],⟨by simp [fg,State.zero,Aa],by simp [fg,State.zero,Ab],by simp [fg,State.zero,Gu],by simp [fg,State.zero,Gv]⟩⟩
  ·rw [UT alo hpo,if_neg (by simp)] at hq;rw [if_neg (by simp)];exact hq
 refine cm.Ud (J9 (r:=fg s.high s.list) (e:=0) h1 hL j7 (cm.fx fun _ h=>h) Gt rfl rfl rfl rfl rfl rfl Fe) kQ (fun _ h=>h) (fun v oG w3 X3 Bj nJ mg cn lL=>?_) fun ch oG w3 X3 Bj nJ mg cn lL wb me=>?_
 case' refine_2=>
  obtain⟨ZM,rfl,F3,Cm,h3⟩:=Bj;have Wk:fl=true:=by rw [←eI];simp [ZM]
  have fX:Ft w0 F w3 X3 F3:=cn.less Cm;refine⟨rfl,fX.ret me (ifT Wk ⟨rfl,F3,fX.fL me fun _ h=>h,?_⟩)⟩;have h4:=h3.mv (me.ew fX.aU);rw [if_neg (by rw [ZM];simp)] at hr;rw [←hr];exact h4
 obtain⟨abd,rfl,F3,Cm,h3⟩:=Bj;generalize LD.dN ⟨L,m⟩ 0 (fT (fg s.high s.list))=kp at hr eI abd h3 abf hK⊢;have fX:Ft w0 F w3 X3 F3:=cn.less Cm;obtain⟨FN3,OV,mb3,av3,es3,Nr,HR,OW,cl,Sj⟩:=id h3;have zY:=cl.box.mv (Mv.sub fun k ai=>fX.aU k (HR k ai));repeat' first|refine aI ?_;intros|refine de ?_ ?_<;>intros|with_reducible apply cG
 ·rename_i hz;have tw:kp.2.2=0:=by omega
  rw [if_pos tw] at hr;refine kK (o:=2) zY zQ kQ (by simp) rfl fX.s.has fun w5 X5 c5 sd=>?_;have gR:Ft w0 F w5 X5 F3:=fX.dM c5 (fun k ai=>by subst ai;exact HR _ cl.box.1) fun k ai=>.inl ai;have h5:=ig.Nt Nr HR OW fX.aU cl Sj c5 0 sd;obtain⟨FN5,FG5,mb5,av5,es5,ahX,hN5,hG5,oI,hg5⟩:=id h5;have Sq:=oI.box.mv (Mv.sub fun k ai=>gR.aU k (hN5 k ai));have alp:FX FG5 X5 w5:=gR.fx hG5;repeat' first|refine aI ?_;intros
  refine gR.call (abg (below:=kp.2.1) hg5 abf hK zQ alp) kQ hG5 fun v MH w6 X6 O8 Nv Cq gB O9=>?_;obtain⟨rfl,FG6,ahY,hg6⟩:=O8;have ekp:kp.1=⟨kp.1.L,kp.1.m⟩:=rfl;rw [ekp] at hr eI;generalize LD.trim ⟨kp.1.L,kp.1.m⟩ kp.2.1 K=tr at hr eI hg6⊢;have pG:mI w6 FN5 nb lb mb5 av5 es5 { s with since:=0 } :=oI.mv (O9.ew fun k ai=>⟨gR.aU k (hN5 k ai),fun hf=>ahX k ai hf⟩);have aey:Dj FN5 FG6:=fun k a b=>(ahY k b).elim (ahX k a) fun hm=>by
   have:=(gR.fx hN5 k a).2;have:=hm.1;omega
  have hN6: ∀k,FN5 k→F3 k∨made MH w6 k:=fun k ai=>.inl (hN5 k ai);have hG6: ∀k,FG6 k→F3 k∨made MH w6 k:=fun k ai=>(ahY k ai).imp (hG5 k) id;have h6:ig w6 (fun k=>F3 k∨made MH w6 k) nb lb db { s with since:=0 } tr.1.L tr.1.m:=⟨FN5,FG6,mb5,av5,es5,aey,hN6,hG6,pG,hg6⟩;have hb6:=pG.box.mv (Mv.sub fun k ai=>gB.aU k (hN6 k ai))
  skip
  refine PH (e:=tr.2) gB hb6 (hN6 nb pG.box.1) (fun wv w7 X7 kY=>?_) fun wv wc w7 X7 aaw Nu lP hc7 hr7 wb me=>?_
  case' refine_2=>
   have Wk:fl=true:=by rw [←eI];simp [tw,wv]
   refine⟨rfl,lP.ret me (ifT Wk ⟨rfl,_,lP.fL me fun _ h=>h,?_⟩)⟩;rw [←hr];refine⟨FG6,aey nb pG.box.1,fun k ai=>.inl (hG6 k ai),⟨.inl (hN6 nb pG.box.1),(me.block nb hr7.1).trans hr7.2⟩,?_⟩;have hg7:=hg6.mv (hc7.ew fun k ai=>⟨gB.aU k (hG6 k ai),fun e=>aey nb pG.box.1 (by rw [←(show k=nb from e)];exact ai)⟩);exact hg7.mv fun k ai hl=>⟨ai,me.block k (lP.aU k (.inl (hG6 k ai)))⟩
  skip
  have lP:=gB.since kY;have AT:fl=false:=by rw [←eI];simp [tw,wv]
  refine lP.NS fun wa aM=>Wi AT ⟨_,rfl,lP.fL aM fun _ h=>h,?_⟩;rw [←hr];exact(h6.mv (kY.dZ gB.aU)).mv (aM.ew lP.aU)
 ·rename_i hz;have tw:kp.2.2≠0:=by omega
  rw [if_neg tw] at hr;have AT:fl=false:=by rw [←eI];simp [tw,abd]
  refine fX.NS fun wa aM=>Wi AT ⟨F3,rfl,fX.fL aM fun _ h=>h,?_⟩;rw [←hr];exact h3.mv (aM.ew fX.aU)
section
variable {w : World} {X F : XS} {nb lb db : Nat} {s : SM} {L : LM} {m : DM}
theorem Wm (h:vj w F nb lb db s L m) (hF:FX F X w):Ct pg 19 #[ptr nb 0] w X nX fun v wa w'=>v=bE.zero.v:=by
 intro w0 hk;replace h:=h.mv (hF.mv hk);have hX:=fun k ai=>(hF.kp hk k ai).1;obtain⟨FG,hn,wN,hr,hg⟩:=h;have hb:=hr.mv (Mv.sub hX);apply Bf;unfold uE;have hs:=aj.init w0;repeat' first|refine aI ?_;intros|((first|(with_reducible refine ak hs ?_)|(with_reducible refine ak (bT.trans hs) ?_));intro wa hk;rfl)
theorem Wn (h:vj w F nb lb db s L m) (hF:FX F X w):Ct pg 17 #[ptr nb 0] w X nX fun v wa w'=>v=B true:=by
 intro w0 hk;replace h:=h.mv (hF.mv hk);have hX:=fun k ai=>(hF.kp hk k ai).1;obtain⟨FG,hn,wN,hr,hg⟩:=h;have hb:=hr.mv (Mv.sub hX);apply Bg;unfold uF;have hs:=aj.init w0;repeat' first|refine aI ?_;intros|((first|(with_reducible refine ak hs ?_)|(with_reducible refine ak (bT.trans hs) ?_));intro wa hk;rfl)
end
def aez (a b:Int):Int:=if a<b then-1 else if a>b then 1 else 0
theorem Wo (a b:Int):Pure pg 119 #[I a,I b] (I (aez a b)):=by
 intro w0;apply LU;unfold Bt;have hs:=aj.init w0;repeat' first|refine aI ?_;intros|refine de ?_ ?_<;>intros|(with_reducible refine eY hs ?_);simp_all [aez]<;>omega
theorem Rf (a b:bE):Pure pg 65 #[a.v,b.v] (I (a.cmp b)):=by
 intro w0;apply IG;unfold yS;have hs:=aj.init w0;repeat' first|refine aI ?_;intros|refine de ?_ ?_<;>intros|with_reducible apply cG|((with_reducible refine gh (Wo _ _) ?_ hs.has ?_);(· kernel_rfl);intro w X aq;replace hs:=hs.trans aq)|(with_reducible refine eY hs ?_);(simp only [aez,bE.cmp] at*;grind)
theorem zP (a b:bE):Pure pg 29 #[a.v,b.v] (B (decide (a.cmp b<0))):=by
 intro w0;apply NT;unfold CU;have hs:=aj.init w0;repeat' first|refine aI ?_;intros|refine de ?_ ?_<;>intros|((with_reducible refine gh (Rf _ _) ?_ hs.has ?_);(· kernel_rfl);intro w X aq;replace hs:=hs.trans aq)|(with_reducible refine eY hs ?_);simp_all<;>omega
theorem NU {w:World} {X:XS} {a:Value} {xs:List KV} (ha:Sl w X 4 a (xs.map KV.l)) (hb:xs.length≤2^40):
  Ct pg 31 #[a] w X nX fun v wa w'=>Own w' (made wa w') wa.heap.size 53 4 v (xs.map KV.l):=by
 intro w0 hk;replace ha:=ha.mv hk.dm;have lS:=ha.fQ;apply FH;unfold wP;have hs:=aj.init w0
 skip
 refine gN (fun n a b w X=> ∃i:Nat,a=I i∧n=xs.length-i∧i≤xs.length∧aj (ba w0) w0 X w∧Own w X w0.heap.size 53 4 b ((xs.take i).map KV.l)) xs.length ⟨0,rfl,rfl,aN _,hs,Own.nil _ _ _ _ _⟩ ?_;rintro n a b w X ⟨i,rfl,rfl,hi,hs,ho⟩;rcases ej (xs) i with⟨cH,x,hx,hd⟩|⟨eh,hd⟩
 ·repeat' first|refine bL ?_;intros|((with_reducible apply Fc);(case own=>first|assumption|exact Own.since (by assumption) (by assumption));(case hs=>assumption);(case h0=>first|exact fun _ h=>h|exact bT.has);(case he=>kernel_rfl);(case hk=>rfl);(case h1=>exact qE);(case hb=>(simp only [aG,bp,ae,aY,bz];omega));(case hl=>(simp only [aG,bp,ae,aY,bz];omega));intro acc w X aq ho hc fm;replace hs:=aq)|((with_reducible refine gA ((xs).length-(i+1)) ?_ ?_);omega;exact⟨i+1,by simp,rfl,by omega,hs,by rw [ca,hx];simpa using ho⟩)
 ·repeat' first|refine bL ?_;intros|((first|(with_reducible refine ak hs ?_)|(with_reducible refine ak (bT.trans hs) ?_));intro wa hk;(rw [bN eh] at ho;exact(ho.kp hk).tight))
theorem Ow.hi {w:World} {X:XS} {e k n cap i:Nat} {a:Option Addr} {rows:List (List Value)} (h:Ow w X e k (.slice a n cap) rows) (hi:i≤rows.length):Ow w X e k (.slice a i cap) (rows.take i):=by
 obtain⟨h1,⟨hv,rfl⟩|⟨g,off,cap,cur,hv,hx,hg,ta,lA,jj,qU⟩⟩:=h
 ·simp only [bz,Nat.le_zero] at hi;subst hi;simp only [qH] at hv;obtain⟨rfl,_,rfl⟩:=hv;exact Ow.nil _ _ _ _
 ·simp only [qH] at hv;obtain⟨rfl,_,rfl⟩:=hv;have hlen:(rows.take i).length=i:=by rw [bp];omega
  refine⟨fun r hr=>h1 r (iQ hr),.inr ⟨g,off,_,cur,by rw [hlen],hx,hg,by omega,lA,jj,?_⟩⟩;rw [Go.dL.iY i h1,←qU,List.take_take,hlen,Nat.min_eq_left (Nat.mul_le_mul_right k hi)]
structure Ue (l:List fN) (h:bE) (k:Nat):Prop where
 le:k≤l.length
 lo: ∀i e,i<k→l[i]? =some e→ ¬h.cmp e.aP<0
 hi: ∀e,l[k]? =some e→h.cmp e.aP<0
abbrev CV (x:Value×fN):List Value:=x.2.l x.1
theorem ac1 {w:World} {X:XS} {va:Value} {es:List (Value×fN)} {st:bE} {k:Nat} (ho:Ow w X 73 7 va (es.map CV)) (hc:Ue (es.map eZ) st k):
  Ct pg 30 #[va,st.v] w X nX fun v wa w'=>Ow w' (iu v) 73 7 v ((es.take k).map CV)∧v.ownBlock=va.ownBlock:=by
 intro w0 hk;replace ho:=ho.mv hk.dm;have j7:=ho.sl;have lS:=j7.fQ;have Bm:=hc.le;rw [aG] at Bm;obtain⟨lb,ln,lc,rfl⟩:=j7.form;apply NV;unfold CW;have hs:=aj.init w0;refine fV (fun n a w X=> ∃i:Nat,a=I (i:Nat)∧n=k-i∧i≤k∧aj (ba w0) w0 X w) k ⟨0,rfl,rfl,aN _,hs⟩ ?_;clear hs;rintro n a w X ⟨i,rfl,rfl,hi,hs⟩;have Wp: ∀(w1:World) (X1:XS),aj (ba w0) w0 X1 w1→i=k→aa pg X1 w1 (Instr.sliceAt 63 (.slice lb ln lc) none (some (.int .i64 (i:Int))) none) fun x=>dL.fin (Bo nX w0 fun v w'=>(fun v wa w'=>Ow w' (iu v) 73 7 v ((es.take k).map CV)∧v.ownBlock=(xK lb ln lc).ownBlock) v w0 w') X1 w1 x:=by
  intro w1 X1 aq SX;subst SX;have pT:i≤lc:=by
   obtain⟨_,_,b',c',hv,_,_,Vn,_⟩:=j7;simp only [qH] at hv;obtain⟨_,_,rfl⟩:=hv;rw [aG] at Vn;omega
  refine ahZ (n:=ln) rfl pT kQ kQ ?_;refine ak aq fun wa aM=>⟨?_,by cases lb<;>rfl⟩;have h2:=Ow.hi (i:=i) ((ho.mv aq.mv).kp aM) (by rw [aG];exact Bm);rw [←List.map_take] at h2;exact h2.tight
 rcases ej es i with⟨cH,x,hx,hd⟩|⟨eh,hd⟩
 ·by_cases SX:i<k
  ·have kU:=hc.lo i x.2 SX (by rw [cr,hx];rfl);repeat' first|refine bL ?_;intros|with_reducible apply cG|((with_reducible refine dI (zP _ _) ?_ hs.has ?_ ?_);(· kernel_rfl);all_goals (intro _ w X aq;replace hs:=hs.trans aq))
   all_goals first
    |exact fF (k-(i+1)) zQ ⟨i+1,by simp,rfl,by omega,hs⟩
    |exact absurd (of_decide_eq_true (by assumption)) kU
  ·have SX:i=k:=by omega
   have Wj:=hc.hi x.2 (by rw [←SX,cr,hx];rfl);repeat' first|refine bL ?_;intros|with_reducible apply cG|((with_reducible refine dI (zP _ _) ?_ hs.has ?_ ?_);(· kernel_rfl);all_goals (intro _ w X aq;replace hs:=hs.trans aq))
   all_goals first
    |exact Wp _ _ hs SX
    |exact absurd Wj (of_decide_eq_false (by assumption))
 ·have SX:i=k:=by omega
  repeat' first|refine bL ?_;intros|with_reducible apply cG
  exact Wp _ _ hs SX
end Go.Proofs.YtpdkoaklobnegaaGreat
namespace Go.Proofs.YtpdkoaklobnegaaGreat
open Go.Proofs.Tryz renaming prog → pg
open Go.dL
theorem Lw (a:bE): ¬a.cmp a<0:=by simp [bE.cmp]
theorem ac2 (a b:bE):(a.cmp b<0)↔(b.cmp a>0):=by
 simp only [bE.cmp];grind
theorem ah0 {a b:bE} (h:a.cmp b<0): ¬b.cmp a<0:=by
 rw [ac2] at h;omega
theorem Wq {a b c:bE} (h1:a.cmp b<0) (h2:b.cmp c<0):a.cmp c<0:=by
 simp only [bE.cmp] at*;grind
theorem ac3 {a b:bE} (h:a.cmp b<0):a≠b:=fun e=>Lw b (e▸h)
def FI (l:List fN):AS:=((jf l).foldl iV [],(l.getLast?.map fN.aP).getD .zero)
theorem NW (l:List fN) (e:fN):FI (l++[e])=(e.writes.foldl iV (FI l).1,e.aP):=by
 unfold FI;rw [zI,List.foldl_append];simp [jf]
theorem Ws {l:List fN} {k:Nat} {e:fN} (h:l[k]? =some e):FI (l.take (k+1))=(e.writes.foldl iV (FI (l.take k)).1,e.aP):=by
 rw [ca,h];exact NW _ _
structure CX (l:List fN):Prop where
 up:l.Pairwise fun a b=>a.aP.cmp b.aP<0
 pos: ∀e∈l,bE.zero.cmp e.aP<0
theorem CX.take {l:List fN} (h:CX l) (k:Nat):CX (l.take k):=⟨h.up.sublist (List.take_sublist k l),fun e he=>h.pos e (iQ he)⟩
theorem CX.snoc {l:List fN} {e:fN} (h:CX l) (h1:(FI l).2.cmp e.aP<0):CX (l++[e]):=by
 have ti:(∀a∈l,a.aP.cmp e.aP<0)∧bE.zero.cmp e.aP<0:=by
  rcases List.eq_nil_or_concat l with rfl|⟨q,z,rfl⟩
  ·exact⟨fun a ha=>absurd ha (by simp),h1⟩
  ·rw [List.concat_eq_append] at*;rw [NW] at h1;have hu:=(List.pairwise_append.1 h.up).2.2;refine⟨fun a ha=>?_,Wq (h.pos z (by simp)) h1⟩;rcases List.mem_append.1 ha with ha|ha
   ·exact Wq (hu a ha z (by simp)) h1
   ·simp only [aV] at ha;subst ha;exact h1
 refine⟨List.pairwise_append.2 ⟨h.up,by simp,fun a ha b hb=>?_⟩,fun a ha=>?_⟩
 ·simp only [aV] at hb;subst hb;exact ti.1 a ha
 ·rcases List.mem_append.1 ha with ha|ha
  ·exact h.pos a ha
  ·simp only [aV] at ha;subst ha;exact ti.2
theorem CX.get {l:List fN} (h:CX l) {i j:Nat} {a b:fN} (ZL:i<j) (ha:l[i]? =some a) (hb:l[j]? =some b):a.aP.cmp b.aP<0:=by
 obtain⟨hi,rfl⟩:=List.getElem?_eq_some_iff.1 ha;obtain⟨hj,rfl⟩:=List.getElem?_eq_some_iff.1 hb;exact List.pairwise_iff_getElem.1 h.up i j hi hj ZL
theorem CX.cut {l:List fN} (h:CX l) {k:Nat} (hk:k≤l.length):Ue l (FI (l.take k)).2 k:=by
 cases k with
 |zero=>exact⟨aN _,fun i e hi=>absurd hi (Nat.not_lt_zero _),fun e he=>h.pos e (aX he)⟩
 |succ k=>
  have hz:l[k]? =some l[k]:=bB hk;rw [Ws hz];refine⟨hk,fun i e hi he=>?_,fun e he=>h.get (Nat.lt_succ_self k) hz he⟩;rcases Nat.lt_or_eq_of_le (Nat.le_of_lt_succ hi)with h1|rfl
  ·exact ah0 (h.get h1 he hz)
  ·rw [hz] at he;obtain rfl:=bC he;exact Lw _
def Z6 (L L':LM) (p:List Nat):Prop:=
 L'.dir=L.dir∧L'.room=L.room∧(L'.bI=L.bI∨L'.bI=L.bI++[⟨L.next,[],0⟩]∨L'.bI=L.bI.dropLast++[L.last.plus p]∨L'.bI=L.bI++[⟨L.next,[p],(cC p).length⟩])
theorem ac4 (x:LD):x.sync.1.L.dir=x.L.dir∧x.sync.1.L.room=x.L.room∧x.sync.1.L.bI=x.L.bI:=by
 unfold LD.sync;dsimp only;split<;>exact⟨rfl,rfl,rfl⟩
theorem ah1 (x:LD) (n:Nat):(x.fI n).1.L.dir=x.L.dir∧(x.fI n).1.L.room=x.L.room∧((x.fI n).1.L.bI=x.L.bI∨(x.fI n).1.L.bI=x.L.bI++[⟨n,[],0⟩]):=by
 unfold LD.fI;dsimp only;split
 ·exact⟨rfl,rfl,.inr rfl⟩
 ·exact⟨rfl,rfl,.inl rfl⟩
theorem ah2 (x:LD):x.room.1.L.dir=x.L.dir∧x.room.1.L.room=x.L.room∧(x.room.1.L.bI=x.L.bI∨x.room.1.L.bI=x.L.bI++[⟨x.L.next,[],0⟩]):=by
 obtain⟨a,b,c⟩:=ac4 x;unfold LD.room;split
 ·dsimp only;split
  ·exact⟨a,b,.inl c⟩
  ·obtain⟨d,e,f⟩:=ah1 x.sync.1 x.L.next
   rw [c] at f;exact⟨d.trans a,e.trans b,f⟩
 ·exact⟨rfl,rfl,.inl rfl⟩
theorem NX (x:LD) (p:List Nat):Z6 x.L (x.append p).1.L p:=by
 obtain⟨a,b,c⟩:=ah2 x;have key:Z6 x.L x.room.1.L p:=⟨a,b,c.imp id .inl⟩;have hq:Z6 x.L (x.room.1.lay p).1.L p:=by
  unfold LD.lay;dsimp only;split
  ·refine⟨a,b,?_⟩
   show x.room.1.L.bI.dropLast++[⟨x.room.1.L.last.first,x.room.1.L.last.bS++[p],x.room.1.L.last.size+(cC p).length⟩]=_∨x.room.1.L.bI.dropLast++[⟨x.room.1.L.last.first,x.room.1.L.last.bS++[p],x.room.1.L.last.size+(cC p).length⟩]=_∨x.room.1.L.bI.dropLast++[⟨x.room.1.L.last.first,x.room.1.L.last.bS++[p],x.room.1.L.last.size+(cC p).length⟩]=_∨x.room.1.L.bI.dropLast++[⟨x.room.1.L.last.first,x.room.1.L.last.bS++[p],x.room.1.L.last.size+(cC p).length⟩]=_
   have hl:x.room.1.L.last=x.room.1.L.bI.getLast?.getD ⟨0,[],0⟩:=rfl;rcases c with c|c
   ·right;right;left;have:x.room.1.L.last=x.L.last:=by rw [hl,c];rfl
    rw [c,this]
   ·right;right;right;have:x.room.1.L.last=⟨x.L.next,[],0⟩:=by rw [hl,c];simp
    rw [c,this];simp
  ·exact key
 unfold LD.append;split
 ·exact⟨rfl,rfl,.inl rfl⟩
 ·split
  ·exact⟨rfl,rfl,.inl rfl⟩
  ·dsimp only;split
   ·exact key
   ·split
    ·exact hq
    ·exact hq
theorem ah3 (x:LD) (p:List Nat):Z6 x.L (x.dN 0 p).1.L p:=by
 have h:=NX x p;unfold LD.dN;rw [if_neg (by simp)];dsimp only;split
 ·exact h
 ·obtain⟨a,b,c⟩:=ac4 (x.append p).1;exact⟨a.trans h.1,b.trans h.2.1,by rw [c];exact h.2.2⟩
section
variable {x : LD} {pre : List bW} {s : bW} {p : List Nat}
theorem lT.ah4 (h:lT x pre s): ∀t∈x.L.bI,t.first+t.bS.length≤100000000∧t.size≤4194304:=fun t ht=>by
 rw [h.bI] at ht;have h1:=h.g.ok t ht;refine⟨h1.top.2,?_⟩;rw [h1.sz];rcases List.mem_append.1 ht with ht|ht
 ·exact ah (DM.sx (h.d.body t ht)) h.sz
 ·simp only [aV] at ht;subst ht;have:=DM.sx h.d.last;rw [bZ] at this;exact ah this h.sz
theorem lT.aeA (h:lT x pre s):x.L.bI.length≤64:=by
 have h1:=h.d.ks.length_eq;rw [DM.kg,aG,←h.bI] at h1;have:=h.fl;omega
theorem lT.Fs (h:lT x pre s):iT x.L:=
 ⟨by rw [h.bI];simp,h.d1,h.d2,fun t ht=>by have:=h.ah4 t ht;omega,ah h.r2 (by decide)⟩
theorem Z6.Fs {L':LM} (hg:Z6 x.L L' p) (h:lT x pre s) (hp:p.length≤262144):iT L'∧L'.bI.length≤65:=by
 have hN:=h.aeA;have hB:=h.ah4;have eI:=lQ p;have lS:x.L.last∈x.L.bI:=LM.oJ (by rw [h.bI];simp);have zV:=hB _ lS;have oH:x.L.next≤100000000:=zV.1
 obtain⟨a,b,c⟩:=hg;have hL: ∀(l:List bW),L'.bI=l→l≠[]→l.length≤65→(∀t∈l,t.first+t.bS.length≤100000001∧t.size≤5000000)→iT L'∧L'.bI.length≤65:=fun l e h1 h2 h3=>
  ⟨⟨by rw [e];exact h1,by rw [a];exact h.d1,by rw [a];exact h.d2,fun t ht=>by rw [e] at ht;have:=h3 t ht;omega,by rw [b];exact ah h.r2 (by decide)⟩,by rw [e];exact h2⟩
 rcases c with c|c|c|c
 ·exact hL _ c (by rw [h.bI];simp) zQ fun t ht=>by have:=hB t ht;omega
 ·refine hL _ c (by simp) (by simp;omega) fun t ht=>?_;rcases List.mem_append.1 ht with ht|ht
  ·have:=hB t ht;omega
  ·simp only [aV] at ht;subst ht;simp;omega
 ·refine hL _ c (by simp) (by simp;omega) fun t ht=>?_;rcases List.mem_append.1 ht with ht|ht
  ·have:=hB t (List.dropLast_subset _ ht);omega
  ·simp only [aV] at ht;subst ht;simp only [bW.plus,ae,fK];omega
 ·refine hL _ c (by simp) (by simp;omega) fun t ht=>?_;rcases List.mem_append.1 ht with ht|ht
  ·have:=hB t ht;omega
  ·simp only [aV] at ht;subst ht;simp;omega
end
end Go.Proofs.YtpdkoaklobnegaaGreat
namespace Go.Proofs.YtpdkoaklobnegaaGreat
open Go.Proofs.Tryz renaming prog → pg
open Go.dL
set_option maxRecDepth 100000
def WP (n wt:Nat) (told:bE) (all:List fN) (l:List bW):Prop:=
 ∃f rs s k,wo l f rs (SM.as s)∧rs.length≤2*n∧xI wt s∧k≤all.length∧FI (all.take k)=s.as∧ ¬s.high.cmp told<0
structure WA (n wt:Nat) (all:List fN):Prop where
 J4:CX all
 al:all.length≤n
 aw:(jf all).length≤wt
theorem WA.up {n wt n' qW:Nat} {all:List fN} (h:WA n wt all) (hn:n≤n') (hw:wt≤qW):WA n' qW all:=⟨h.J4,ah h.al hn,ah h.aw hw⟩
structure oP (n wt:Nat) (every:Int) (sz:Nat) (told:bE) (all:List fN) (s:SM) (x:LD) (k:Nat):Prop where
 inv: ∃pre sg f rs,J8 wt s x pre sg f rs∧rs.length≤2*n
 ev:s.every=every
 si:0≤s.since∧s.since≤n
 dl:s.done.length≤2*n
 rm:x.L.room=sz
 wa:WA n wt all
 kl:k≤all.length
 iX:FI (all.take k)=s.as
 told: ¬s.high.cmp told<0
structure PI (n wt:Nat) (told:bE) (all:List fN) (m:DM):Prop where
 wa:WA n wt all
 aeB:wj jq (WP n wt told all) m
section
variable {n wt n' qW sz k : Nat} {every : Int} {told : bE} {all : List fN} {s : SM} {x : LD} {m : DM}
theorem oP.tell (h:oP n wt every sz told all s x k) {t:bE} (ht: ¬s.high.cmp t<0):oP n wt every sz t all s x k:=⟨h.inv,h.ev,h.si,h.dl,h.rm,h.wa,h.kl,h.iX,ht⟩
theorem oP.up (h:oP n wt every sz told all s x k) (hn:n≤n') (hw:wt≤qW):oP n' qW every sz told all s x k:=by
 obtain⟨⟨pre,sg,f,rs,hi,hr⟩,h2,h3,h4,h5,h6,h7,h8,h9⟩:=h;exact⟨⟨pre,sg,f,rs,⟨hi.up,hi.dir,hi.held,hi.sm.up hw,hi.dn⟩,by omega⟩,h2,by omega,by omega,h5,h6.up hn hw,h7,h8,h9⟩
theorem WP.up {l:List bW} (h:WP n wt told all l) (hn:n≤n') (hw:wt≤qW):WP n' qW told all l:=by
 obtain⟨f,rs,s,k,h1,h2,h3,h4⟩:=h;exact⟨f,rs,s,k,h1,by omega,h3.up hw,h4⟩
theorem PI.up (h:PI n wt told all m) (hn:n≤n') (hw:wt≤qW):PI n' qW told all m:=⟨h.wa.up hn hw,h.aeB.imp fun _ hp=>hp.up hn hw⟩
theorem oP.cut (h:oP n wt every sz told all s x k):Ue all s.high k:=by
 have:=h.wa.J4.cut h.kl;rw [h.iX] at this;exact this
theorem oP.crs (h:oP n wt every sz told all s x k):Ia jq (WP n wt told all) x.m:=by
 obtain⟨pre,sg,f,rs,hi,hr⟩:=h.inv;have hc:=VX hi.up.d hi.up.g hi.up.fl;rw [hi.dir] at hc;exact hc.imp fun l t e=>⟨f,rs,s,k,by rw [e];exact hi.held,hr,hi.sm,h.kl,h.iX,h.told⟩
theorem SY {P:List bW→Prop} (h:Ia jq P m):(∀y∈m.fs,y.1.size≤2^40)∧ ∀ct,(m.jH ct).fs.length≤64∧ ∀y∈(m.jH ct).fs,y.1.size≤2^40:=by
 have key: ∀y∈m.ks,y.size≤2^40:=fun y hy=>by
  obtain⟨pre,s,iL,sf,_,_,_,_,hd⟩:=h.2 [];rw [←CM m []] at hy;obtain⟨t,_,e⟩:=List.mem_map.1 (hd.ks.mem_iff.1 hy);rw [←e,rC]
  decide
 refine⟨fun y hy=>key _ (List.mem_map.2 ⟨y,hy,rfl⟩),fun ct=>⟨?_,fun y hy=>key _ ?_⟩⟩
 ·have:=congrArg List.length (CM m ct);rw [DM.kg,DM.kg] at this;rw [this];exact h.1
 ·rw [←CM m ct];exact List.mem_map.2 ⟨y,hy,rfl⟩
theorem Ia.open {ct:List Int} (h:Ia jq (WP n wt told all) m) (hA:WA n wt all) (hz:(m.jH ct).sz≤4194304) (hn:n<200) (aq:64≤sz) (bQ:sz≤262144):
  ∃f rs m' s' L' k,LD.uy jq sz (m.jH ct)=(⟨L',m'⟩,0)∧Holds L' f rs∧(∀r∈rs,r.ok)∧rs.length≤2^12∧AQ (decide ((f:Int)=1),fO every) rs=some (true,s')∧
   oP (n+1) wt every sz told all s' ⟨L',m'⟩ k∧(∀n,ky ((m.jH ct).bytes n)):=by
 obtain⟨eI,ti⟩:=h;obtain⟨pre,sg,iL,sf,⟨f,rs,s,k,hH,hr,hS,hk,ha,ht⟩,hg,htn,htb,hD⟩:=ti ct;obtain⟨m',s',e,h1,h2,h3,h4,h5,h6,h7,h8⟩:=V8 (sz:=sz) (every:=every) hD hg htn rfl rfl hz bQ hH;have aaU:m'.fs.length≤64:=by
  have q1:=h1.ks.length_eq;have q2:=hD.ks.length_eq;have q3:=congrArg List.length (CM m ct);rw [DM.kg] at q1 q2;rw [DM.kg,DM.kg] at q3;omega
 have Wb:m'.sz≤4194304:=by
  have q1:=h1.szT;have q2:=hD.szT;rw [bz] at q1;omega
 refine⟨f,rs,m',s',_,k,e,h4,hH.ok,by omega,h5,⟨⟨pre,sg,f,rs,⟨⟨rfl,hg,h1,h3,Wb,aaU,(show 1≤jq.size from by decide),(show jq.size≤11 from by decide),aq,bQ⟩,rfl,by rw [h6];exact hH,hS.re h6 h7,h8.down.trans rfl⟩,by omega⟩,h8.every.trans rfl,?_,?_,rfl,hA.up zQ (bf _),hk,ha.trans h6.symm,?_⟩,hD.As hg htb⟩
 ·rw [h8.since];show(0:Int)≤0∧(0:Int)≤_;omega
 ·have:=(NR rs (k:=0) (x:=(_,fO every)) ⟨by simp [fO],by simp [fO],by simp [fO]⟩ hH.ok h5).done;have e:s'.done.length≤0+rs.length:=this;omega
 ·have e:s'.high=s.high:=congrArg eZ h6;rw [e];exact ht
theorem oP.arm (h:oP n wt every sz told all s x k) (a:Nat):oP n wt every sz told all s ⟨x.L,{ x.m with ar:=a }⟩ k:=by
 obtain⟨⟨pre,sg,f,rs,hi,hr⟩,h2,h3,h4,h5,h6,h7,h8,h9⟩:=h;exact⟨⟨pre,sg,f,rs,⟨⟨hi.up.bI,hi.up.g,⟨hi.up.d.nd,hi.up.d.ks,hi.up.d.body,hi.up.d.last,hi.up.d.sf⟩,hi.up.dn,hi.up.sz,hi.up.fl,hi.up.d1,hi.up.d2,hi.up.r1,hi.up.r2⟩,hi.dir,hi.held,hi.sm,hi.dn⟩,hr⟩,h2,h3,h4,h5,h6,h7,h8,h9⟩
def Ha (s:SM) (g:fJ):Prop:=g.kind=12∧g.to=32∧g.prev=s.high∧s.high.cmp g.aP<0
theorem agN {g:fJ} (ha:g.asks=true) (hf:s.rE g=true):Ha s g:=by
 simp only [SM.rE,aA,decide_eq_true_eq] at hf;simp only [fJ.asks,aA,decide_eq_true_eq] at ha;exact⟨hf.1.1,ha.1.2,hf.2,(ac2 _ _).2 hf.1.2⟩
theorem WA.take (h:WA n wt all) (hk:k≤all.length) {e:fN} (h1:(FI (all.take k)).2.cmp e.aP<0):WA (n+1) (wt+e.writes.length) (all.take k++[e]):=by
 refine⟨(h.J4.take k).snoc h1,?_,?_⟩
 ·have:=h.al;rw [ae,bp,fK];omega
 ·have h1:=congrArg (fun l=>(jf l).length) (List.take_append_drop k all);simp only [zI,ae] at h1;have h2:=h.aw;rw [zI,ae];simp only [jf,bc,wu,List.flatten_cons,List.flatten_nil,bZ] at h1 h2⊢;omega
theorem oP.step (h:oP n wt every sz told all s x k) {g:fJ} (hn:n<200) (hw:wt+fS g.writes≤20000) (ht:Cn g.cB) (CP: ∀y∈g.writes,y.val.num<18446744073709551616):
  (zO s x g=true∧Ha s g∧PI (n+1) (wt+fS g.writes) told (all.take k++[⟨g.cB,g.aP,g.writes⟩]) (mL s x g).2.m)∨
  (zO s x g=false∧ ∃k' mU,oP (n+1) (wt+fS g.writes) every sz told mU (mL s x g).1 (mL s x g).2 k'∧
   ((Ha s g∧(mL s x g).1.high=g.aP∧mU=all.take k++[⟨g.cB,g.aP,g.writes⟩])∨(¬(Ha s g∧(mL s x g).1.high=g.aP)∧mU=all))):=by
 have hwl:=vX g.writes;unfold mL zO;cases hc:g.asks&&s.rE g with
 |false=>
  rw [if_neg fe,Bool.false_and];refine .inr ⟨rfl,k,all,h.up zQ zQ,.inr ⟨?_,rfl⟩⟩;rintro⟨hf,e⟩;exact ac3 hf.2.2.2 e
 |true=>
  rw [if_pos rfl,iM];simp only [aA] at hc;obtain⟨ha,hf⟩:=hc;have eI:=agN ha hf;have rW:=fJ.BP ha eI.1;have ok:=ZY rW ht CP zQ;have gD:nO s.as (.A g.prev g.aP g.cB g.writes)=some (g.writes.foldl iV s.as.1,g.aP):=by
   simp only [nO];rw [if_pos (show g.prev=s.as.2 from eI.2.2.1)]
  have hh:s.as.2=s.high:=rfl;have alq:(FI (all.take k)).2.cmp g.aP<0:=by rw [h.iX,hh];exact eI.2.2.2
  have hA:=h.wa.take h.kl (e:=⟨g.cB,g.aP,g.writes⟩) alq;replace hA:WA (n+1) (wt+fS g.writes) (all.take k++[⟨g.cB,g.aP,g.writes⟩]):=hA.up (bf _) (by show wt+g.writes.length≤_;omega);have lO:(all.take k).length=k:=by rw [bp];exact Nat.min_eq_left h.kl
  have uY:(all.take k++[(⟨g.cB,g.aP,g.writes⟩:fN)]).take k=all.take k:=List.take_left' lO;have Zw:(all.take k++[(⟨g.cB,g.aP,g.writes⟩:fN)]).take (k+1)=all.take k++[⟨g.cB,g.aP,g.writes⟩]:=bN (by simp [lO]);have ah5:FI (all.take k++[(⟨g.cB,g.aP,g.writes⟩:fN)])=(g.writes.foldl iV s.as.1,g.aP):=by rw [NW,h.iX]
  have afS: ¬g.aP.cmp told<0:=fun cH=>h.told (Wq eI.2.2.2 cH);obtain⟨pre,sg,f,rs,hi,tN⟩:=h.inv;obtain⟨e1,e2⟩:=SM.NO hi.sm.pi.nd g.cB g.aP g.writes;have ah6:=hi.sm.apply rW CP (s.since+1);have e3:({ s.apply g.cB g.aP g.writes with since:=s.since+1 } :SM).as=(g.writes.foldl iV s.list,g.aP):=e1;have eK:(fj.A g.prev g.aP g.cB g.writes).enc=gS (en g.prev g.aP g.cB g.writes):=rfl;rcases hi.dN ok gD with⟨e,hfe⟩|⟨e,fm,gx,sj,hu,hd,hr,hhd,DP⟩|⟨z1,z2,⟨gx,sj,l7,uo⟩,_⟩
  ·rw [eK] at e hfe;rw [e];refine .inl ⟨rfl,eI,hA,hfe.imp fun l hl=>?_⟩;obtain⟨vi,Am,xw⟩:=hl;rcases xw with xw|xw
   ·exact⟨f,vi,s,k,xw,by omega,hi.sm.up zQ,by simp [lO],by rw [uY];exact h.iX,h.told⟩
   ·exact⟨f,vi,{ s.apply g.cB g.aP g.writes with since:=s.since+1 },k+1,by rw [e3];exact xw,by omega,ah6,by simp [lO],by rw [Zw,ah5,e3];rfl,afS⟩
  ·rw [eK] at e hu hd hr;have Mq:=h.si;have qX:=h.dl;dsimp only;rw [e,if_pos rfl];refine .inr ⟨rfl,k+1,_,⟨⟨gx,sj,f,_,⟨hu,hd,by rw [e3];exact hhd,ah6,hi.dn⟩,by simp;omega⟩,h.ev,by show 0≤s.since+1∧s.since+1≤_;omega,?_,hr.trans h.rm,hA,by simp [lO],by rw [Zw,ah5,e3];rfl,afS⟩,.inl ⟨eI,rfl,rfl⟩⟩
   show(s.done++[_]).length≤_
   simp;omega
  ·rw [eK] at z1 z2 l7 uo;dsimp only;rw [if_neg z1,decide_eq_false z2];refine .inr ⟨rfl,k,all,?_,.inr ⟨?_,rfl⟩⟩
   ·refine oP.up (n:=n) (wt:=wt) ⟨⟨gx,sj,f,rs,l7,tN⟩,h.ev,h.si,h.dl,uo.trans h.rm,h.wa,h.kl,h.iX,h.told⟩ zQ zQ
   ·rintro⟨_,e⟩;exact ac3 eI.2.2.2 e
theorem oP.tick {K:Nat} (h:oP n wt every sz told all s x k) (hn:n<200) (hw:wt≤20000):
  (DQ s x K=true∧PI (n+1) wt told all (kL s x K).2.m)∨(DQ s x K=false∧oP (n+1) wt every sz told all (kL s x K).1 (kL s x K).2 k):=by
 unfold kL DQ;cases hi0:s.idle with
 |true=>
  rw [if_pos rfl];exact .inr ⟨rfl,h.up zQ (bf _)⟩
 |false=>
  rw [if_neg fe];obtain⟨pre,sg,f,rs,hi,tN⟩:=h.inv;have ok:=Rc hi.sm hw;have gD:nO s.as (.B s.high s.list)=some s.as:=by
   simp only [nO];rw [if_pos ⟨rfl,rfl⟩]
  have eK:(fj.B s.high s.list).enc=fT (fg s.high s.list):=rfl;have hA:=h.wa.up (n':=n+1) (qW:=wt) zQ (bf _);rcases hi.dN ok gD with⟨e,hfe⟩|⟨e,fm,gx,sj,hu,hd,hr,hh,DP⟩|⟨z1,z2,⟨gx,sj,l7,uo⟩,_⟩
  ·rw [eK] at e hfe;dsimp only;rw [e];refine .inl ⟨rfl,hA,hfe.imp fun l hl=>?_⟩;obtain⟨vi,Am,xw⟩:=hl;exact⟨f,vi,s,k,xw.elim id id,by omega,hi.sm,h.kl,h.iX,h.told⟩
  ·rw [eK] at e hu hd hr fm;dsimp only;rw [e,if_pos rfl];rcases hu.trim (below:=(x.dN 0 (fT (fg s.high s.list))).2.1) (K:=K)with⟨e2,Ic⟩|⟨e2,a,V9,g1,g2,g3,g4,g5,g6⟩
   ·rw [e2];rw [hd] at Ic;refine .inl ⟨rfl,hA,Ic.1,Ic.2.imp fun l t hl=>?_⟩;obtain⟨a,g1,g2⟩:=hl;rw [g1] at hh;have hg:Good (a++(l++[t])):=by rw [←g1];exact hu.g
    obtain⟨f',vi,hh2,ahU⟩:=hh.trim hg rfl fm g2;exact⟨f',vi,s,k,hh2,by omega,hi.sm,h.kl,h.iX,h.told⟩
   ·rw [e2];rw [g1] at hh;have hg:Good (a++(V9++[sj])):=by rw [←g1];exact hu.g
    obtain⟨f',vi,hh2,ahU⟩:=hh.trim hg rfl fm g2;have Mq:=h.si;have qX:=h.dl;have jo:xI wt { s with since:=0 } :=⟨hi.sm.pi,hi.sm.pw,hi.sm.num,hi.sm.may⟩;exact .inr ⟨rfl,⟨V9,sj,f',vi,⟨g3,g4.trans hd,hh2,jo,hi.dn⟩,by omega⟩,h.ev,by show(0:Int)≤0∧(0:Int)≤_;omega,by show s.done.length≤_;omega,(g5.trans hr).trans h.rm,hA,h.kl,h.iX,h.told⟩
  ·rw [eK] at z1 z2 l7 uo;dsimp only;rw [if_neg z1,decide_eq_false z2,decide_eq_false z1];exact .inr ⟨rfl,oP.up (n:=n) (wt:=wt) ⟨⟨gx,sj,f,rs,l7,tN⟩,h.ev,h.si,h.dl,uo.trans h.rm,h.wa,h.kl,h.iX,h.told⟩ zQ (bf _)⟩
end
end Go.Proofs.YtpdkoaklobnegaaGreat
namespace Go.Proofs.YtpdkoaklobnegaaGreat
open Go.Proofs.Tryz renaming prog → pg
open Go.dL
set_option maxRecDepth 100000
set_option maxHeartbeats 1000000
set_option linter.unusedVariables false
set_option linter.unusedSimpArgs false
attribute [local irreducible] un jn bq aS bb gy dV dD cK lJ ez kV yC xf gU gH aa ay aD eW eV eU eC eF gE ao fin aR aE aJ vS yD jw jA tq A6 A7 yE A8 yF jx jB tt A9 Ba yG Bb
section
variable {w : World} {X F : XS} {nb lb db n wt sz k : Nat} {every : Int} {told : bE} {all : List fN} {s : SM} {x : LD} {L : LM} {m : DM}
theorem vj.CJ (h:vj w F nb lb db s L m):Dk w F db m:=by
 obtain⟨FG,hn,h2,hr,FL,FD,sv,bl,g1,g2,g3,g4,g5⟩:=h;exact g5.mono fun k hk=>h2 k (g3 k hk)
def ajV (nb lb db n wt:Nat) (every:Int) (sz:Nat) (told:bE) (all:List fN) (s:SM) (k:Nat) (g:fJ) (F:XS) (v:Value) (wa w':World):Prop:=
 (v= .tuple #[.slice none 0 0,I 12]∧Ha s g∧ ∃(F':XS) (s':SM) (x':LD),(∀k,F' k→F k∨made wa w' k)∧vj w' F' nb lb db s' x'.L x'.m∧PI n wt told (all.take k++[⟨g.cB,g.aP,g.writes⟩]) x'.m)∨
 ∃(vo:Value) (F' S':XS) (s':SM) (x':LD) (k':Nat) (mU:List fN),v= .tuple #[vo,I 0]∧(∀k,F' k→F k∨made wa w' k)∧(∀k,S' k→made wa w' k∧ ¬F' k)∧ig w' F' nb lb db s' x'.L x'.m∧Sl w' S' 36 vo (if g.asks then [rA g.fr s'.high] else [])∧oP n wt every sz told mU s' x' k'∧
  ((Ha s g∧s'.high=g.aP∧mU=all.take k++[⟨g.cB,g.aP,g.writes⟩])∨(¬(Ha s g∧s'.high=g.aP)∧mU=all))
theorem agO {S:XS} {g:fJ} {vk vs vw vp vr vc vh vd:Value} (h:ig w F nb lb db s x.L x.m) (hB:oP n wt every sz told all s x k) (hn:n<200) (hw:wt+fS g.writes≤20000) (hF:FX F X w)
  (fm:g.at w S vk vs vw vp vr vc vh vd) (hS: ∀k,S k→X k∧ ¬F k) (jo:g.small) (MM:g.lens≤2^40) (ht:Cn g.cB) (CP: ∀y∈g.writes,y.val.num<18446744073709551616):
  Ct pg 15 #[ptr nb 0,g.v vk vs vw vp vr vc vh vd] w X F fun v wa w'=>ajV nb lb db (n+1) (wt+fS g.writes) every sz told all s k g F v wa w':=by
 obtain⟨pre,sg,f,rs,hi,tN⟩:=hB.inv;have hN:=hi.up.aeA;have hwl:=vX g.writes;have qX:=hB.dl;have Mq:=hB.si;refine(Wh h hi.up.Fs zQ hF hi.dn fm hS jo MM zQ (fun y hy=>by have:=Vm hy;omega) (fun rW=>Sz (u3 rW).2.2 zQ) zQ zQ ?_).mono fun v wa w' _ hq=>?_
 ·by_cases hp:(gS (en g.prev g.aP g.cB g.writes)).length≤262144
  ·exact((NX ⟨x.L,x.m⟩ _).Fs hi.up hp).1
  ·have e:LD.append ⟨x.L,x.m⟩ (gS (en g.prev g.aP g.cB g.writes))=(⟨x.L,x.m⟩,0,2):=by unfold LD.append;rw [if_pos zQ]
   rw [e];exact hi.up.Fs
 ·unfold abc at hq;rcases hB.step hn hw ht CP with⟨e,hf,hD⟩|⟨e,k',mU,hU,ha⟩
  ·rw [if_pos e] at hq;obtain⟨h1,F',h2,h3⟩:=hq;exact Or.inl ⟨h1,hf,F',s,_,h2,h3,hD⟩
  ·rw [if_neg (by rw [e];simp)] at hq;obtain⟨vo,F',S',h1,h2,h3,h4,h5⟩:=hq;exact Or.inr ⟨vo,F',S',_,_,k',mU,h1,h2,h3,h4,h5,hU,ha⟩
theorem agP (h:ig w F nb lb db s x.L x.m) (hB:oP n wt every sz told all s x k) (hn:n<200) (hw:wt≤20000) (hF:FX F X w):
  Ct pg 16 #[ptr nb 0] w X F fun v wa w'=> ∃F',(∀k,F' k→F k∨made wa w' k)∧
   ((∃(s':SM) (x':LD),v=I 12∧vj w' F' nb lb db s' x'.L x'.m∧PI (n+1) wt told all x'.m)∨ ∃(s':SM) (x':LD),v=I 0∧ig w' F' nb lb db s' x'.L x'.m∧oP (n+1) wt every sz told all s' x' k):=by
 obtain⟨pre,sg,f,rs,hi,tN⟩:=hB.inv;have hN:=hi.up.aeA;obtain⟨pl1,pl2,pl3,pl4⟩:=hi.sm.pi.list;have wM:=hi.sm.pi.len;have hbo:=Rc hi.sm hw;have hgk:=(ah3 ⟨x.L,x.m⟩ (fT (fg s.high s.list))).Fs hi.up hbo.GW;refine(Wl (K:=1000) h hi.up.Fs zQ hF hi.dn (fun y hy=>by have:=pl4 y hy;omega) zQ zQ (fun y hy=>by have:=pl2 y hy;omega) hi.sm.may pl1
  hbo.GW (fun _=>((NX ⟨x.L,x.m⟩ _).Fs hi.up hbo.GW).1) (fun _=>hgk.1) (fun _=>ah hgk.2 (by decide)) (by decide)).mono fun v wa w' _ hq=>?_
 unfold abe at hq;rcases hB.tick (K:=1000) hn hw with⟨e,hD⟩|⟨e,hU⟩
 ·rw [if_pos e] at hq;obtain⟨h1,F',h2,h3⟩:=hq;exact⟨F',h2,.inl ⟨_,_,h1,h3,hD⟩⟩
 ·rw [if_neg (by rw [e];simp)] at hq;obtain⟨F',h1,h2,h3⟩:=hq;exact⟨F',h2,.inr ⟨_,_,h1,h3,hU⟩⟩
theorem ah7 (h:ig w F nb lb db s x.L x.m) (hB:oP n wt every sz told all s x k) {a:Int} (ha:a<2^63) (hF:FX F X w):
  Ct pg 32 #[ptr db 0,I a] w X F fun v wa w'=>v= .tuple #[]∧ ∃x':LD,ig w' F nb lb db s x'.L x'.m∧oP n wt every sz told all s x' k:=by
 obtain⟨FN,FG,mb,av,es,iW,hN,hG,bT,FL,FD,sv,bl,hLD,hL,hD,hl,hd⟩:=h;intro wa hk;refine((PJ hd (fun k ai=>hF k (hG k (hD k ai))) ha) wa hk).mono ?_;rintro e w' ⟨v,he,ly,hv,Bs⟩;obtain⟨pre,sg,f,rs,hi,tN⟩:=hB.inv;rw [if_neg (by rw [hi.up.dn];simp)] at Bs;have mv: ∀{A:XS},(∀k,A k→F k∧ ¬FD k)→Mv A w A w':=fun hA k ai _=>by
  obtain⟨a1,a2⟩:=hA k ai;have DA:=hF k a1;exact⟨ai,(ly.block k (aK DA.2 hk.size) a2).trans (hk.block k DA.1)⟩
 exact⟨v,he,ly.mono fun k ai=>hG k (hD k ai),hv,⟨x.L,{ x.m with ar:=a.toNat }⟩,⟨FN,FG,mb,av,es,iW,hN,hG,bT.mv (mv fun k ai=>⟨hN k ai,fun h=>iW k ai (hD k h)⟩),FL,FD,sv,bl,hLD,hL,hD,hl.mv (mv fun k ai=>⟨hG k (hL k ai),fun h=>hLD k ai h⟩),Bs⟩,hB.arm _⟩
theorem ah8 (h:vj w F nb lb db s x.L x.m) (hB:PI n wt told all x.m) {a:Int} (ha:a<2^63) (hF:FX F X w):
  Ct pg 32 #[ptr db 0,I a] w X F fun v wa w'=>v= .tuple #[]∧vj w' F nb lb db s x.L x.m:=by
 obtain⟨FG,hn,hG,hr,FL,FD,sv,bl,hLD,hL,hD,hl,hd⟩:=h;intro wa hk;refine((PJ hd (fun k ai=>hF k (hG k (hD k ai))) ha) wa hk).mono ?_;rintro e w' ⟨v,he,ly,hv,Bs⟩;rw [if_pos hB.aeB.1] at Bs;have AK: ∀k,F k→ ¬FD k→w'.heap[k]? =w.heap[k]? :=fun k a1 a2=>by
  have DA:=hF k a1;exact(ly.block k (aK DA.2 hk.size) a2).trans (hk.block k DA.1)
 exact⟨v,he,ly.mono fun k ai=>hG k (hD k ai),hv,FG,hn,hG,⟨hr.1,(AK nb hr.1 fun h=>hn (hD nb h)).trans hr.2⟩,FL,FD,sv,bl,hLD,hL,hD,hl.mv fun k ai _=>⟨ai,AK k (hG k (hL k ai)) fun h=>hLD k ai h⟩,Bs⟩
theorem aeC {S:XS} {vq:Value} {ct:List Int} {P:List bW→Prop} (h:Dk w F db m) (hC:Ia jq P m) (hF:FX F X w) (hq:Sl w S 1 vq (ct.map I1)) (hS: ∀k,S k→X k∧ ¬F k):
  Ct pg 28 #[ptr db 0,vq] w X F fun v wa w'=>v= .tuple #[]∧Dk w' F db (m.jH ct):=
 VJ h hF hq hS (SY hC).1 (ah hC.1 (by decide))
theorem agQ {ct:List Int} (h:Dk w F db (m.jH ct)) (hC:Ia jq (WP n wt told all) m) (hA:WA n wt all) (hn:n<200) (aq:64≤sz) (bQ:sz≤262144) (HV:0≤every) (HW:every≤1000) (hF:FX F X w):
  Ct pg 12 #[ptr db 0,I sz,I every] w X F fun v wa w'=> ∃(nb lb:Nat) (F':XS) (s':SM) (x':LD) (k:Nat),v= .tuple #[ptr nb 0,I 0]∧(∀k,F' k→F k∨made wa w' k)∧
   ig w' F' nb lb db s' x'.L x'.m∧oP (n+1) wt every sz told all s' x' k:=by
 have hz:(m.jH ct).sz≤4194304:=by
  obtain⟨_,_,_,hz⟩:=h;exact hz
 obtain⟨f,rs,m',s',L',k,e,h1,h2,h3,h4,h5,h6⟩:=hC.open (every:=every) hA hz hn aq bQ;obtain⟨c1,c2⟩:=(SY hC).2 ct;refine(Yt (sz:=sz) (f:=f) (rs:=rs) (s':=s') h hF c2 (ah c1 (by decide)) h6 aq bQ HV HW (fun _=>?_)).mono fun v wa w' _ ⟨nb,lb,F',g1,g2,g3,g4⟩=>?_
 ·rw [e];exact⟨h1,h2,h3,h4⟩
 ·rw [e] at g1 g3 g4;exact⟨nb,lb,F',s',⟨L',m'⟩,k,by rw [g1,if_pos rfl];rfl,g2,g4 rfl,h5⟩
theorem ajW {every:Int} {sz:Nat} (h1:64≤sz) (h2:sz≤262144):oP 0 0 every sz .zero [] (fO every) (x0 sz) 0:=by
 have hL:=aaA sz;refine⟨⟨[],⟨1,[],0⟩,1,[],⟨afQ h1 h2,by rw [hL],⟨rfl,by simp [e7],by simp,⟨_,rfl,fun _=>?_⟩,fun e=>absurd rfl e⟩,⟨⟨by simp [fO],by simp [fO],by simp [fO]⟩,by simp [fO,uv],by simp [fO],by simp [fO];try decide⟩,rfl⟩,by simp⟩,rfl,by simp [fO],by simp [fO],by rw [hL],⟨⟨by simp,by simp⟩,by simp,by simp [jf]⟩,by simp,?_,Lw _⟩
 ·simp [SM.as,fO,SM.list,fB]
 ·simp [SM.as,fO,SM.list,fB,FI,jf]
end
def pd (n wt:Nat) (every:Int) (sz:Nat) (told:bE) (all:List fN) (w:World) (F:XS) (nb lb db:Nat) (dn:Bool) (hi:bE):Prop:=
 (dn=false∧ ∃(s:SM) (x:LD) (k:Nat),hi=s.high∧ig w F nb lb db s x.L x.m∧oP n wt every sz told all s x k)∨
 (dn=true∧ ∃(s:SM) (x:LD),hi= .zero∧vj w F nb lb db s x.L x.m∧PI n wt told all x.m)
section
variable {w w' : World} {X F : XS} {nb lb db n wt sz : Nat} {every : Int} {told : bE} {all : List fN} {dn : Bool} {hi : bE}
theorem pd.mv (h:pd n wt every sz told all w F nb lb db dn hi) (v:Mv F w F w'):pd n wt every sz told all w' F nb lb db dn hi:=
 h.imp (fun ⟨a,s,x,k,b,c,d⟩=>⟨a,s,x,k,b,c.mv v,d⟩) fun ⟨a,s,x,b,c,d⟩=>⟨a,s,x,b,c.mv v,d⟩
theorem pd.up (h:pd n wt every sz told all w F nb lb db dn hi) {n' qW:Nat} (hn:n≤n') (hw:wt≤qW):pd n' qW every sz told all w F nb lb db dn hi:=
 h.imp (fun ⟨a,s,x,k,b,c,d⟩=>⟨a,s,x,k,b,c,d.up hn hw⟩) fun ⟨a,s,x,b,c,d⟩=>⟨a,s,x,b,c,d.up hn hw⟩
theorem pd.tell (h:pd n wt every sz told all w F nb lb db false hi) {t:bE} (ht: ¬hi.cmp t<0):pd n wt every sz t all w F nb lb db false hi:=by
 rcases h with⟨_,s,x,k,rfl,c,d⟩|⟨h,_⟩
 ·exact .inl ⟨rfl,s,x,k,rfl,c,d.tell ht⟩
 ·cases h
theorem pd.wa (h:pd n wt every sz told all w F nb lb db dn hi):WA n wt all:=by
 rcases h with⟨_,s,x,k,_,c,d⟩|⟨_,s,x,_,c,d⟩
 ·exact d.wa
 ·exact d.wa
theorem pd.down (h:pd n wt every sz told all w F nb lb db dn hi) (hF:FX F X w):Ct pg 17 #[ptr nb 0] w X nX fun v wa w'=>v=B dn:=by
 rcases h with⟨rfl,s,x,k,rfl,c,d⟩|⟨rfl,s,x,rfl,c,d⟩
 ·obtain⟨FN,FG,mb,av,es,iW,hN,hG,Vl,hg⟩:=c;obtain⟨_,_,_,_,hi,_⟩:=d.inv;have:=Yf Vl (fun k ai=>hF k (hN k ai));rw [hi.dn] at this;exact this
 ·exact Wn c hF
theorem pd.high (h:pd n wt every sz told all w F nb lb db dn hi) (hF:FX F X w):Ct pg 19 #[ptr nb 0] w X nX fun v wa w'=>v=hi.v:=by
 rcases h with⟨rfl,s,x,k,rfl,c,d⟩|⟨rfl,s,x,rfl,c,d⟩
 ·obtain⟨FN,FG,mb,av,es,iW,hN,hG,Vl,hg⟩:=c;exact MB Vl (fun k ai=>hF k (hN k ai))
 ·exact Wm c hF
theorem pd.CJ (h:pd n wt every sz told all w F nb lb db dn hi): ∃m,Dk w F db m∧Ia jq (WP n wt told all) m:=by
 rcases h with⟨_,s,x,k,_,c,d⟩|⟨_,s,x,_,c,d⟩
 ·exact⟨_,c.CJ,d.crs⟩
 ·exact⟨_,c.CJ,d.aeB.2⟩
theorem pd.arm (h:pd n wt every sz told all w F nb lb db dn hi) {a:Int} (ha:a<2^63) (hF:FX F X w):
  Ct pg 32 #[ptr db 0,I a] w X F fun v wa w'=>v= .tuple #[]∧pd n wt every sz told all w' F nb lb db dn hi:=by
 rcases h with⟨rfl,s,x,k,rfl,c,d⟩|⟨rfl,s,x,rfl,c,d⟩
 ·exact(ah7 c d ha hF).mono fun v wa w' _ ⟨hv,x',c',d'⟩=>⟨hv,.inl ⟨rfl,s,x',k,rfl,c',d'⟩⟩
 ·exact(ah8 c d ha hF).mono fun v wa w' _ ⟨hv,c'⟩=>⟨hv,.inr ⟨rfl,s,x,rfl,c',d⟩⟩
theorem pd.tick (h:pd n wt every sz told all w F nb lb db false hi) (hn:n<200) (hw:wt≤20000) (hF:FX F X w):
  Ct pg 16 #[ptr nb 0] w X F fun v wa w'=> ∃F' xL l7,(∀k,F' k→F k∨made wa w' k)∧pd (n+1) wt every sz told all w' F' nb lb db xL l7:=by
 rcases h with⟨_,s,x,k,rfl,c,d⟩|⟨h,_⟩
 ·refine(agP c d hn hw hF).mono fun v wa w' _ ⟨F',h1,h2⟩=>?_;rcases h2 with⟨s',x',_,h3,h4⟩|⟨s',x',_,h3,h4⟩
  ·exact⟨F',true,.zero,h1,.inr ⟨rfl,s',x',rfl,h3,h4⟩⟩
  ·exact⟨F',false,s'.high,h1,.inl ⟨rfl,s',x',k,rfl,h3,h4⟩⟩
 ·cases h
structure SkT (n wt:Nat) (every:Int) (sz:Nat) (told:bE) (all:List fN) (hi:bE) (k:Nat) (g:fJ) (w':World) (F' S':XS) (nb lb db:Nat) (vo:Value) (e:Nat) (xL:Bool) (l7:bE) (outs:List bE) (mU:List fN):Prop where
 out:Sl w' S' 36 vo (outs.map (rA g.fr))
 ol:outs.length≤1
 oh: ∀u∈outs,u=l7∧xL=false
 tl:xL=false→ ¬l7.cmp told<0
 er:(e=12∧xL=true)∨(e=0∧xL=false)
 aeD:(((g.kind=12∧g.to=32∧g.prev=hi∧hi.cmp g.aP<0)∧(e=12∨l7=g.aP))∧mU=all.take k++[⟨g.cB,g.aP,g.writes⟩])∨(¬((g.kind=12∧g.to=32∧g.prev=hi∧hi.cmp g.aP<0)∧(e=12∨l7=g.aP))∧mU=all)
 st:pd n wt every sz told mU w' F' nb lb db xL l7
theorem pd.step {S:XS} {g:fJ} {vk vs vw vp vr vc vh vd:Value} (h:pd n wt every sz told all w F nb lb db false hi) (hn:n<200) (hw:wt+fS g.writes≤20000) (hF:FX F X w)
  (fm:g.at w S vk vs vw vp vr vc vh vd) (hS: ∀k,S k→X k∧ ¬F k) (jo:g.small) (MM:g.lens≤2^40) (ht:Cn g.cB) (CP: ∀y∈g.writes,y.val.num<18446744073709551616):
  ∃k,Ue all hi k∧Ct pg 15 #[ptr nb 0,g.v vk vs vw vp vr vc vh vd] w X F fun v wa w'=> ∃(vo:Value) (e:Nat) (F' S':XS) (xL:Bool) (l7:bE) (outs:List bE) (mU:List fN),v= .tuple #[vo,I (e:Nat)]∧(∀k,F' k→F k∨made wa w' k)∧(∀k,S' k→made wa w' k∧ ¬F' k)∧
   SkT (n+1) (wt+fS g.writes) every sz told all hi k g w' F' S' nb lb db vo e xL l7 outs mU:=by
 rcases h with⟨_,s,x,k,rfl,c,d⟩|⟨h,_⟩
 ·refine⟨k,d.cut,(agO c d hn hw hF fm hS jo MM ht CP).mono fun v wa w' _ hq=>?_⟩;rcases hq with⟨hv,pj,F',s',x',h1,h2,h3⟩|⟨vo,F',S',s',x',k',mU,hv,h1,h2,h3,h4,h5,h6⟩
  ·refine⟨_,12,F',nX,true,.zero,[],_,hv,h1,fun _ h=>h.elim,⟨Sl.nil _ _ _,by simp,by simp,fun h=>(by cases h),.inl ⟨rfl,rfl⟩,.inl ⟨⟨pj,.inl rfl⟩,rfl⟩,.inr ⟨rfl,s',x',rfl,h2,h3⟩⟩⟩
  ·refine⟨vo,0,F',S',false,s'.high,if g.asks then [s'.high] else [],mU,hv,h1,h2,⟨?_,?_,?_,fun _=>h5.told,.inr ⟨rfl,rfl⟩,?_,.inl ⟨rfl,s',x',k',rfl,h3,h5⟩⟩⟩
   ·have e:(if g.asks=true then [s'.high] else []).map (rA g.fr)=if g.asks=true then [rA g.fr s'.high] else []:=by split<;>rfl
    rw [e];exact h4
   ·split<;>simp
   ·intro u hu;split at hu
    ·simp only [aV] at hu;exact⟨hu,rfl⟩
    ·cases hu
   ·rcases h6 with⟨a,b,c⟩|⟨a,b⟩
    ·exact .inl ⟨⟨a,.inr b⟩,c⟩
    ·refine .inr ⟨fun h=>a ⟨h.1,h.2.resolve_left (by decide)⟩,b⟩
 ·cases h
end
theorem merge {A B C:Prop} (h:(C→B)→A) (hb:C→B):A:=h hb
theorem ac5 {A:Prop} {P:World→XS→Prop} (C:World→XS→Prop) (h:(∀w X,C w X→P w X)→A) (hp: ∀w X,C w X→P w X):A:=h hp
structure Ih (w:World) (S:XS) (va:Value) (es:List (Value×fN)):Prop where
 ow:Ow w S 73 7 va (es.map CV)
 ws: ∀x∈es,Ow w S 53 4 x.1 (x.2.writes.map KV.l)
section
variable {w w' : World} {X X' S S' : XS} {va Ii vw : Value} {es : List (Value × fN)} {e : fN} {k lo : Nat}
theorem Ih.mv (h:Ih w S va es) (v:Mv S w S' w'):Ih w' S' va es:=⟨h.ow.mv v,fun x hx=>(h.ws x hx).mv v⟩
theorem Ih.take (h:Ih w S va es) (ho:Ow w' (iu Ii) 73 7 Ii ((es.take k).map CV)) (hb:Ii.ownBlock=va.ownBlock) (v:Mv S w S w'):Ih w' S Ii (es.take k):=
 ⟨ho.mono fun q hq=>(h.ow.aU (by rw [←hb];exact hq)).1,fun x hx=>(h.ws x (iQ hx)).mv v⟩
theorem Ih.more (h:Ih w S va es) (hS: ∀k,S k→X k) (fv:lo≤w.heap.size) (c:eD (iu va) X w X' w') (ho:Ow w' X' 73 7 Ii ((es++[(vw,e)]).map CV)) (fm:Ii.ownBlock=va.ownBlock∨ ∃g,Ii.ownBlock=some g∧w.heap.size≤g)
  (hw:Ow w (fun k=>X k∧lo≤k) 53 4 vw (e.writes.map KV.l)):Ih w' (fun k=>S k∨(X' k∧lo≤k)) Ii (es++[(vw,e)]):=by
 refine⟨ho.tight.mono fun q hq=>?_,fun x hx=>?_⟩
 ·rcases fm with h1|⟨g,h1,h2⟩
  ·exact .inl (h.ow.aU (by rw [←h1];exact hq)).1
  ·have hq:Ii.ownBlock=some q:=hq;rw [h1] at hq;obtain rfl:=bC hq;exact .inr ⟨(ho.aU h1).1,ah fv h2⟩
 ·have key: ∀{A:XS} {v:Value} {rows:List (List Value)},Ow w A 53 4 v rows→(∀k,A k→X k∧(S k∨lo≤k))→Ow w' (fun k=>S k∨(X' k∧lo≤k)) 53 4 v rows:=fun {A v rows} ha hA=>by
   refine ha.tight.mv fun q hq _=>?_;obtain⟨b1,b2⟩:=hA q (ha.aU hq).1;refine⟨b2.imp id fun b=>⟨c.sub q b1,b⟩,c.block q b1 fun hg=>?_⟩;obtain⟨c1,e1⟩:=ha.tag hq;obtain⟨c2,e2⟩:=h.ow.tag hg;rw [e1] at e2;simp at e2
  rcases List.mem_append.1 hx with hx|hx
  ·exact key (h.ws x hx) fun q hq=>⟨hS q hq,.inl hq⟩
  ·simp only [aV] at hx;subst hx;exact key hw fun q hq=>⟨hq.1,.inr hq.2⟩
end
def Aw (n wt:Nat) (every:Int) (sz db:Nat) (w0 w:World) (X:XS) (dn:Bool) (hi told:bE) (vn va:Value):Prop:=
 ∃F S nb lb es,vn=ptr nb 0∧Dj F S∧Ft w0 nX w X (fun k=>F k∨S k)∧Ih w S va es∧pd n wt every sz told (es.map eZ) w F nb lb db dn hi
section
variable {n wt sz db : Nat} {every : Int} {w0 w w' : World} {X X' F S : XS} {dn : Bool} {hi told : bE} {vn va : Value}
theorem Aw.since (h:Aw n wt every sz db w0 w X dn hi told vn va) (hs:aj X w X' w'):Aw n wt every sz db w0 w' X' dn hi told vn va:=by
 obtain⟨F,S,nb,lb,es,h1,h2,h3,h4,h5⟩:=h;exact⟨F,S,nb,lb,es,h1,h2,h3.since hs,h4.mv (hs.dZ fun k hk=>h3.aU k (.inr hk)),h5.mv (hs.dZ fun k hk=>h3.aU k (.inl hk))⟩
theorem Aw.up (h:Aw n wt every sz db w0 w X dn hi told vn va) {n' qW:Nat} (hn:n≤n') (hw:wt≤qW):Aw n' qW every sz db w0 w X dn hi told vn va:=by
 obtain⟨F,S,nb,lb,es,h1,h2,h3,h4,h5⟩:=h;exact⟨F,S,nb,lb,es,h1,h2,h3,h4,h5.up hn hw⟩
theorem Aw.ft (h:Aw n wt every sz db w0 w X dn hi told vn va): ∃F,Ft w0 nX w X F:=let⟨_,_,_,_,_,_,_,h3,_⟩:=h;⟨_,h3⟩
theorem Aw.down (h:Aw n wt every sz db w0 w X dn hi told vn va):Ct pg 17 #[vn] w X nX fun v wa w'=>v=B dn:=by
 obtain⟨F,S,nb,lb,es,rfl,h2,h3,h4,h5⟩:=h;exact h5.down (h3.fx fun _ h=>.inl h)
theorem Aw.high (h:Aw n wt every sz db w0 w X dn hi told vn va):Ct pg 19 #[vn] w X nX fun v wa w'=>v=hi.v:=by
 obtain⟨F,S,nb,lb,es,rfl,h2,h3,h4,h5⟩:=h;exact h5.high (h3.fx fun _ h=>.inl h)
theorem Z7 {a b:bE} (h:a.cmp b<0):Pure pg 29 #[a.v,b.v] (B true):=by
 have:=zP a b
 rwa [decide_eq_true h] at this
theorem Lx {a b:bE} (h: ¬a.cmp b<0):Pure pg 29 #[a.v,b.v] (B false):=by
 have:=zP a b
 rwa [decide_eq_false h] at this
end
theorem ah9 {A:Prop} {P:Value→World→XS→Prop} (C:Value→World→XS→Prop) (h:(∀v w X,C v w X→P v w X)→A) (hp: ∀v w X,C v w X→P v w X):A:=h hp
theorem PK {w:World} {X:XS} {vo:Value} {ops:List oK} {sz every:Int} (h1:ic w X 39 vo oK.rd ops) (dU: ∀o∈ops,o.m.text∧o.m.small∧o.m.lens≤2^40∧Cn o.m.cB∧ ∀y∈o.m.writes,y.val.num<18446744073709551616):
  Ct pg 6 #[I sz,I every,vo] w X nX fun v _ _=>v=B true:=by
 intro w0 hk;replace h1:=ic.mv h1 oK.mv hk.dm;have Am:=h1.len;have DD:Ft w0 nX w0 (ba w0) nX:=Ft.init fun _ h=>h.elim;have JX:ic w0 (out nX w0) 39 vo oK.rd ops:=ic.mv h1 oK.mv fun k ai _=>⟨⟨ai,fun h=>h.elim⟩,rfl⟩;apply EI;unfold vm;refine dy MJ kQ DD.s.has fun w1 X1 aq=>?_;have cm:=DD.since aq;have aeE: ∀(w X F),Ft w0 nX w X F→eC pg (Bo nX w0 fun v w'=>(fun v x x_1=>v=B true) v w0 w') X w true 9 #[] fun x w X=>dL.fin (Bo nX w0 fun v w'=>(fun v x x_1=>v=B true) v w0 w') X w x:=fun w X F hT=>by
  refine dy MJ kQ hT.s.has fun w X hs=>?_;exact(hT.since hs).fin fun wa aM=>rfl
 repeat' first|refine aI ?_;intros
 refine cJ (acI (ic.mv JX oK.mv cm.s.mv) fun o ho=>(dU o ho).1) kQ cm.s.has ?_;rintro _ rZ w2 X2 ⟨few,rfl,alr⟩ sD ph bQ;have bK:=cm.since bQ;by_cases hpq:few=true∧64≤sz∧sz≤262144∧0≤every∧every≤1000
 ·obtain⟨rfl,ME,MD,HV,HW⟩:=hpq;obtain⟨hn,hw⟩:=alr rfl;obtain⟨sz,rfl⟩: ∃z:Nat,sz=(z:Int):=⟨sz.toNat,by omega⟩;repeat' first|refine bL ?_;intros
  refine cJ Pd kQ bK.s.has ?_;rintro _ oG w3 X3 ⟨db,rfl,hdk⟩ nJ mg cl;have cn:Ft w0 nX w3 X3 (made oG w3):=(bK.since cl).more fun k ai=>.inr ⟨mg k ai,by have:=ai.1;have:=bK.s.kp.size;omega⟩;clear cm bK aq bQ cl;repeat' first|refine aI ?_;intros
  refine cn.call (JA (sz:=sz) (every:=every) hdk (cn.fx fun _ h=>h) rfl rfl zQ zQ HV HW (Fu sz).1) kQ (fun _ h=>h) fun v Fk w5 X5 hq5 AM sG gR hc5=>?_;obtain⟨nb,lb,F1,rfl,Zu,h5⟩:=hq5;replace h5:ig w5 F1 nb lb db (fO every) (x0 sz).L (x0 sz).m:=h5;have hSW:Aw 0 0 every sz db w0 w5 X5 false .zero .zero (ptr nb 0) jz:=⟨F1,nX,nb,lb,[],rfl,fun _ _ h=>h,gR.less fun k h=>h.elim (Zu k) fun h=>h.elim,⟨Ow.nil _ _ _ _,by simp⟩,.inl ⟨rfl,fO every,x0 sz,0,rfl,h5,ajW zQ zQ⟩⟩;clear cn gR hc5 h5 hdk Zu;repeat' first|refine bL ?_;intros
  refine aia (fun m a b c d e f w X=> ∃(i:Nat) (dn:Bool) (hi told:bE),a=I i∧d=told.v∧m=ops.length-i∧i≤ops.length∧Aw i (nM (ops.take i)) every sz db w0 w X dn hi told c f) ops.length ⟨0,false,.zero,.zero,rfl,rfl,rfl,aN _,by simpa [nM] using hSW⟩ ?_;clear hSW;rintro m a b c d e f w6 X6 ⟨i,dn,hi,told,rfl,rfl,rfl,jM,hS⟩;obtain⟨F0,gB⟩:=hS.ft;have hoi:=ZH ops i;have h16:ic w6 (out nX w0) 39 vo oK.rd ops:=ic.mv JX oK.mv fun k ai _=>⟨ai,gB.s.kp.block k ai⟩;have als:=ic.mv JX oK.mv gB.s.mv;have aib:Mv (out nX w0) w6 X6 w6:=fun k ai _=>⟨gB.s.sub k ai,rfl⟩;rcases ej ops i with⟨cH,o,hx,hd⟩|⟨eh,hd⟩
  ·have hot:=acJ hx;have Du:=ZH ops (i+1);obtain⟨z1,z2,z3,z4,z5⟩:=dU o (aX hx);repeat' first|refine bL ?_;intros
   refine fk (Q:=fun K=> ∀w X vn va (PL:bE) v18 v19,(∃dn hi,Aw (i+1) (nM (ops.take (i+1))) every sz db w0 w X dn hi PL vn va)→K vn va PL.v v18 v19 w X) ?_ fun K hK=>?_
   ·rintro w8 X8 vn va ajX v18 v19 ⟨dn8,hi8,hS8⟩;repeat' first|refine aI ?_;intros
    exact aic (ops.length-(i+1)) zQ ⟨i+1,dn8,hi8,ajX,congrArg I zQ,rfl,rfl,by omega,hS8⟩
   ·repeat' first|refine aI ?_;intros|(with_reducible apply acH);(case h=>exact h16);(case hr=>exact hx);(case hz=>rfl);(case ht=>kernel_rfl);(case hs=>kernel_rfl);intro b1 o1 vk vs vw vp vr vc vh vd vq _ _ _ _ _ _ _ _ _ hcS abh;replace hcS:=hcS.mv aib
    refine dy hS.down kQ gB.s.has fun w7 X7 kY=>?_;have PM:=hS.since kY;apply merge (C:=dn=true→2<o.kind)
    ·intro hb;cases dn with
     |false=>
      repeat' first|refine aI ?_;intros
      exact hb fun h=>by cases h
     |true=>
      repeat' first|refine aI ?_;intros|refine de ?_ ?_<;>intros
      ·exact hK _ _ _ _ _ _ _ ⟨true,hi,PM.up (Nat.le_succ _) zQ⟩
      ·exact hb fun _=>by omega
    ·intro hC;obtain⟨F7,lP⟩:=PM.ft;refine dy PM.high kQ lP.s.has fun w9 X9 wN=>?_;have FJ:=PM.since wN;have aid:=kY.trans wN;clear hS PM h16 als;repeat' first|refine aI ?_;intros
     refine fk (Q:=fun K=> ∀w X vn va (PL:bE) v18,(∃dn hi,Aw (i+1) (nM (ops.take (i+1))) every sz db w0 w X dn hi PL vn va)→K vn va PL.v v18 w X) ?_ fun K2 SF=>?_
     ·rintro qz pa vn va amo v18 ⟨alu,alv,Wu⟩;obtain⟨FF,fE⟩:=Wu.ft;refine dy Wu.down kQ fE.s.has fun HY MS uO=>?_;have Rg:=Wu.since uO;cases alu with
      |true=>
       repeat' first|refine aI ?_;intros
       exact hK _ _ _ _ _ _ _ ⟨true,alv,Rg⟩
      |false=>
       have aie:=Rg;obtain⟨F,S,nb,lb,es,rfl,iW,hT,hE,⟨_,s,x,k,rfl,hSn,hU⟩|⟨h,_⟩⟩:=Rg;case inr=>cases h
       have lO:=hU.kl;rw [aG] at lO;have abi:=hU.cut;have qt:=hU.wa.al;rw [aG] at qt;repeat' first|refine aI ?_;intros
       refine fV (fun m a w X=> ∃j:Nat,a=I (j:Nat)∧m=k-j∧j≤k∧aj MS HY X w) k ⟨0,rfl,rfl,aN _,aj.dY hT.s.has⟩ ?_;rintro m a CE PN ⟨j,rfl,rfl,hj,gX⟩;have rO:=hT.since gX;have aeF:=aie.since gX;have Wv:=hE.mv (gX.dZ fun k ai=>hT.aU k (.inr ai));have abj:Sl CE PN 7 va (es.map CV):=Wv.ow.sl.mono fun k ai=>rO.aU k (.inr ai);have hlen:=abj.fQ;rcases Nat.eq_zero_or_pos k with jQ|jQ;all_goals
        apply ac5 (fun w X=>aj PN CE X w∧j=k);case h=>
         intro hb;rcases ej es j with⟨Nw,y,hy,hde⟩|⟨GJ,hde⟩
         ·repeat' first|refine bL ?_;intros|with_reducible apply cG
          refine dy aeF.high kQ rO.s.has fun VC Z8 oM=>?_;have sJ:=rO.since oM;repeat' first|with_reducible (first|apply abk|apply cG)
          by_cases E6:j<k
          ·have kU:=abi.lo j y.2 E6 (by rw [cr,hy];rfl);refine gh (Lx (a:=s.high) (b:=y.2.aP) kU) kQ sJ.s.has fun ML Kc AU=>?_;repeat' first|with_reducible (first|apply B2|apply tB|apply z7|apply Wc)|(with_reducible apply afT);omega;omega
           exact fF (k-(j+1)) zQ ⟨j+1,congrArg I zQ,rfl,by omega,(gX.trans oM).trans AU⟩
          ·have abl:j=k:=by omega
           have Wj:=abi.hi y.2 (by rw [←abl,cr,hy];rfl);refine gh (Z7 (a:=s.high) (b:=y.2.aP) Wj) kQ sJ.s.has fun ML Kc AU=>?_;repeat' first|(with_reducible refine Jr ?_ ?_);omega|(with_reducible refine Ww ?_ ?_);omega|(with_reducible refine Wx ?_ ?_);omega|with_reducible (first|apply wI|apply zk|apply Rh|apply Cl|apply tB|apply NY|apply z6|apply z7|apply z8|apply abk|apply abm|apply PF)|(with_reducible apply xk);(· kernel_rfl)|(with_reducible apply abn);omega;omega|with_reducible apply cG
           exact hb ML Kc ⟨oM.trans AU,abl⟩
         ·have abl:j=k:=by omega
          repeat' first|(with_reducible refine ac6 ?_ ?_);omega|(with_reducible refine Jr ?_ ?_);omega|(with_reducible refine Ww ?_ ?_);omega|(with_reducible refine Wx ?_ ?_);omega|with_reducible (first|apply wI|apply zk|apply Rh|apply Cl|apply tB|apply NY|apply z6|apply z8|apply abk|apply abm)|(with_reducible apply afU);exact qO;(· kernel_rfl)|(with_reducible apply xk);(· kernel_rfl)|(with_reducible apply abn);omega;omega|with_reducible apply cG
          exact hb CE PN ⟨aj.dY rO.s.has,abl⟩
       all_goals
        rintro VC Z8 ⟨oM,rfl⟩;have sJ:=rO.since oM;have aeG:=aeF.since oM;have fm:=hU.iX;have Ri:=Wv.mv (oM.dZ fun k ai=>rO.aU k (.inr ai));have amr:Sl VC Z8 7 va (es.map CV):=Ri.ow.sl.mono fun k ai=>sJ.aU k (.inr ai);clear aie aeF Wv abj
       case' inl.hp=>
        have hz:s.high= .zero:=by
         subst jQ;exact(congrArg eZ fm).symm
        refine dy aeG.high kQ sJ.s.has fun ML Kc AU=>?_;repeat' first|refine aI ?_;intros|(with_reducible refine xM _ ?_ ?_ ?_);(· kernel_rfl);all_goals intros|with_reducible apply cG
        all_goals first|exact absurd hz (by assumption)|skip
       case' inr.hp=>
        obtain⟨y,hy⟩: ∃y,es[j-1]? =some y:=⟨_,bB zQ⟩;have gD:y.2.aP=s.high:=by
         have h9:=Ws (l:=es.map eZ) (k:=j-1) (e:=y.2) (by rw [cr,hy];rfl);rw [show j-1+1=j by omega,fm] at h9;exact(congrArg eZ h9).symm
        repeat' first|refine aI ?_;intros|with_reducible apply cG
        refine dy aeG.high kQ sJ.s.has fun ML Kc AU=>?_;repeat' first|refine bL ?_;intros|(with_reducible refine DB _ _ ?_ ?_ ?_);(· kernel_rfl);all_goals intros|with_reducible apply cG
        all_goals first|exact absurd gD (by assumption)|skip
       all_goals
        have Rj:=sJ.since AU;have ajY:=(((hSn.mv (gX.dZ fun k ai=>hT.aU k (.inl ai))).mv (oM.dZ fun k ai=>rO.aU k (.inl ai)))).mv (AU.dZ fun k ai=>sJ.aU k (.inl ai));obtain⟨FN,FG,mb,av,zW,amU,hN,hG,Vl,hg⟩:=ajY;obtain⟨pre,sg,f9,rs,hi9,_⟩:=hU.inv;obtain⟨_,_,_,pa4⟩:=hi9.sm.pi.list;have pal:=hi9.sm.pi.len;have haw:=hU.wa.aw;refine cJ (xi Vl (Rj.fx fun k ai=>.inl (hN k ai)) (fun y hy=>by have:=pa4 y hy;omega) zQ) kQ Rj.s.has ?_;rintro vp1 amV w15 X15 hp1 ams ajZ aeH;have abo:=Rj.since aeH;have aif:=(Ri.mv (AU.dZ fun k ai=>sJ.aU k (.inr ai))).mv (aeH.dZ fun k ai=>Rj.aU k (.inr ai));repeat' first|refine aI ?_;intros|with_reducible apply cG
        refine cJ (Vq (c:=j) lO (aif.ow.sl.mono fun k ai=>abo.aU k (.inr ai)) (fun y hy=>(aif.ws y hy).sl.mono fun k ai=>abo.aU k (.inr ai)) zQ zQ) kQ abo.s.has ?_;rintro vp2 amW w16 X16 hp2 amt aj0 aeI;have alw:=abo.since aeI;have alx:=(hp1.sl.mono ajZ).mv aeI.mv;have aly:=hp2.sl.mono aj0;have DC:s.list=(jf ((es.map eZ).take j)).foldl iV []:=(congrArg Prod.fst fm).symm;repeat' first|refine aI ?_;intros|with_reducible apply cG
        refine dy (u:=B true) ((PO alx aly).mono fun v wa w' _ hv=>by rw [hv,DC];simp) kQ alw.s.has fun w17 X17 alz=>?_;repeat' first|refine aI ?_;intros
        exact hK _ _ _ _ _ _ _ ⟨false,s.high,aeG.since (((AU.trans aeH).trans aeI).trans alz)⟩
     ·repeat' first|refine aI ?_;intros|refine de ?_ ?_<;>intros
      ·have gg:dn=false:=by
        cases dn with
        |false=>rfl
        |true=>have:=hC rfl;omega
       subst gg;obtain⟨F,S,nb,lb,es,rfl,iW,mu,Wy,PQ⟩:=FJ;have aaB:=abh.m.mv (aid.dZ fun k ai=>gB.s.sub k ai);have hea:=PQ.wa.al;rw [aG] at hea;obtain⟨k,abi,hct⟩:=PQ.step (S:=out nX w0) (g:=o.m) zQ zQ (mu.fx fun _ h=>.inl h) aaB (fun k ai=>⟨mu.s.sub k ai,fun hf=>mu.no (.inl hf) ai⟩) z2 z3 z4 z5;refine mu.call hct kQ (fun _ h=>.inl h) fun v NL qz pa wh BS zL fE AR=>?_;obtain⟨vo',e9,F',S',xL,l7,outs,mU,rfl,lN,hS',Ij⟩:=wh;have abp:Dj F' S:=Re iW (mu.fx fun _ h=>.inr h) BS lN;have Hb:=Wy.mv (AR.ew fun k ai=>⟨mu.aU k (.inr ai),fun hf=>iW k hf ai⟩);have abq: ∀k,S' k→pa k:=fun k ai=>zL k (hS' k ai).1;have alA: ∀k,S' k→ ¬S k:=fun k ai hf=>by have:=(mu.fx (fun _ h=>.inr h) k hf).2;have:=(hS' k ai).1.1;omega
       replace fE:Ft w0 nX qz pa (fun k=>F' k∨S k):=fE.less fun k ai=>ai.elim (fun h=>(lN k h).imp .inl id) fun h=>.inl (.inr h);have aih:Sl qz pa 4 vw (o.m.writes.map KV.l):=abh.m.writes.mv fun k ai _=>⟨fE.s.sub k ai,(fE.s.kp.block k ai).trans (gB.s.kp.block k ai).symm⟩;have hwl:=aih.fQ;have amX:=vX o.m.writes;have aj1:Sl qz pa 7 f (es.map CV):=Hb.ow.sl.mono fun k ai=>fE.aU k (.inr ai);clear hct aaB AR wN kY aib;apply ah9 (fun va w X=> ∃(S2:XS) (Wz:List (Value×fN)),Ft w0 nX w X (fun k=>F' k∨S2 k)∧Dj F' S2∧Ih w S2 va Wz∧Wz.map eZ=mU∧pd (i+1) (nM (ops.take i)+fS o.m.writes) every sz told mU w F' nb lb db xL l7∧Sl w X 36 vo' (outs.map (rA o.m.fr)));case h=>
        intro hb;have abr: ∀w X,aj pa qz X w→mU=es.map eZ→ ∃(S2:XS) (Wz:List (Value×fN)),Ft w0 nX w X (fun k=>F' k∨S2 k)∧Dj F' S2∧Ih w S2 f Wz∧Wz.map eZ=mU∧pd (i+1) (nM (ops.take i)+fS o.m.writes) every sz told mU w F' nb lb db xL l7∧Sl w X 36 vo' (outs.map (rA o.m.fr)):=fun w X hs he=>
         ⟨S,es,fE.since hs,abp,Hb.mv (hs.dZ fun k ai=>fE.aU k (.inr ai)),he.symm,Ij.st.mv (hs.dZ fun k ai=>fE.aU k (.inl ai)),(Ij.out.mono abq).mv hs.mv⟩
        by_cases pj:o.m.kind=12∧o.m.to=32∧o.m.prev=hi∧hi.cmp o.m.aP<0
        ·obtain⟨f1,f2,f3,f4⟩:=id pj;apply ac5 (fun w X=>aj pa qz X w∧(e9=12∨l7=o.m.aP));case h=>
          intro ny;repeat' first|refine bL ?_;intros|(with_reducible refine DB _ _ ?_ ?_ ?_);(· kernel_rfl);all_goals intros|with_reducible apply cG
          all_goals first|exact absurd f3 (by assumption)|skip
          refine gh (Z7 (a:=hi) (b:=o.m.aP) f4) kQ fE.s.has fun HY MS uO=>?_;have uP:=fE.since uO;have abt:=aj1.mv uO.mv;have abj:=abt.fQ;rcases Ij.er with⟨he,gg⟩|⟨he,gg⟩
          ·rw [he];repeat' first|refine bL ?_;intros|with_reducible apply cG
           exact ny HY MS ⟨uO,.inl he⟩
          ·rw [he];repeat' first|refine bL ?_;intros|with_reducible apply cG
           refine dy ((Ij.st.mv (uO.dZ fun k ai=>fE.aU k (.inl ai))).high (uP.fx fun _ h=>.inl h)) kQ uP.s.has fun CE PN gX=>?_;replace abt:=abt.mv gX.mv;repeat' first|refine bL ?_;intros|(with_reducible refine DB _ _ ?_ ?_ ?_);(· kernel_rfl);all_goals intros
           ·exact ny CE PN ⟨uO.trans gX,.inr (by assumption)⟩
           ·generalize hff:f=f';refine hb f' CE PN ?_;rw [←hff];refine abr _ _ (uO.trans gX) ?_;rcases Ij.aeD with⟨⟨_,h⟩,_⟩|⟨_,h⟩
            ·exact absurd (h.resolve_left (by rw [he];decide)) (by assumption)
            ·exact h
         case hp=>
          rintro HY MS ⟨uO,VM⟩;have ti:mU=(es.map eZ).take k++[⟨o.m.cB,o.m.aP,o.m.writes⟩]:=by
           rcases Ij.aeD with⟨_,h⟩|⟨h,_⟩
           ·exact h
           ·exact absurd ⟨pj,VM⟩ h
          have uP:=fE.since uO;have Rk:=Hb.mv (uO.dZ fun k ai=>fE.aU k (.inr ai));have hek:(es.take k).length≤es.length:=by rw [bp];exact Nat.min_le_right _ _
          skip
          refine cJ (ac1 (Rk.ow.mono fun q hq=>uP.aU q (.inr hq)) abi) kQ uP.s.has ?_;rintro va1 amY CE PN ⟨alB,alC⟩ amu amv gX;have rO:=uP.since gX;have Wv:=Rk.take alB alC (gX.dZ fun k ai=>uP.aU k (.inr ai));repeat' first|refine aI ?_;intros
          refine cJ (NU (xs:=o.m.writes) ((aih.mv uO.mv).mv gX.mv) zQ) kQ rO.s.has ?_;rintro ZZ amZ VC Z8 hoc aj2 aj3 oM;have sJ:=rO.since oM;have Ri:=Wv.mv (oM.dZ fun k ai=>rO.aU k (.inr ai));have abu:Ow VC (fun k=>Z8 k∧CE.heap.size≤k) 53 4 ZZ (o.m.writes.map KV.l):=hoc.ow.mono fun k ai=>⟨aj3 k ai,ah aj2 ai.1⟩;have ovc:=abu.one;obtain⟨xb,xn,xc,rfl⟩:=abu.sl.form;have Uf:=(uO.trans gX).trans oM;repeat' first|refine aI ?_;intros
          have G6:((⟨o.m.cB,o.m.aP,o.m.writes⟩:fN).l (.slice xb xn xc)).all dL.one=true:=by
           simp [ovc];exact⟨rfl,rfl,rfl,rfl,rfl,rfl⟩
          have tN:((es.take k).map CV).length≤200:=by rw [aG];omega
          refine Jm (bytes:=72) (row:=(⟨o.m.cB,o.m.aP,o.m.writes⟩:fN).l (.slice xb xn xc)) (Ri.ow.mono fun k ai=>sJ.aU k (.inr ai)) sJ.s.has kQ rfl rfl G6 zQ zQ fun Ii ML Kc c14 alD aj4=>?_;have aj5:Ow ML Kc 73 7 Ii ((es.take k++[((xK xb xn xc,⟨o.m.cB,o.m.aP,o.m.writes⟩):Value×fN)]).map CV):=by rw [aT];exact alD
          have alE:=Ri.more (lo:=CE.heap.size) (fun k ai=>sJ.aU k (.inr ai)) oM.kp.size c14 aj5 aj4 abu;have aeJ: ∀q,iu va1 q→S q:=fun q hq=>(Ri.ow.aU hq).1;have Rj:Ft w0 nX ML Kc (fun k=>F' k∨(S k∨(Kc k∧CE.heap.size≤k))):=(sJ.dM c14 (F':=fun k=>F' k∨S k) (fun q hq=>.inr (aeJ q hq)) fun q hq=>.inl hq).more fun k ai=>by
           rcases ai with h|h|h
           ·exact .inl (.inl h)
           ·exact .inl (.inr h)
           ·exact .inr ⟨h.1,ah rO.s.kp.size h.2⟩
          refine hb Ii ML Kc ⟨fun k=>S k∨(Kc k∧CE.heap.size≤k),es.take k++[((xK xb xn xc,⟨o.m.cB,o.m.aP,o.m.writes⟩):Value×fN)],Rj,fun k a b=>b.elim (abp k a) fun b=>?_,alE,by rw [ti,aT,List.map_take];rfl,(Ij.st.mv (Uf.dZ fun k ai=>fE.aU k (.inl ai))).mv (c14.ew fun k ai=>⟨sJ.aU k (.inl ai),fun hq=>abp k ai (aeJ k hq)⟩),?_⟩
          ·have:=(fE.fx (fun _ h=>.inl h) k a).2;have:=uO.kp.size;have:=gX.kp.size;omega
          ·exact((Ij.out.mv (Uf.dZ abq)).mv (c14.ew fun k ai=>⟨Uf.sub k (abq k ai),fun hq=>alA k ai (aeJ k hq)⟩)).mono fun k ai=>c14.sub k (Uf.sub k (abq k ai))
        ·have ti:mU=es.map eZ:=by
          rcases Ij.aeD with⟨⟨h,_⟩,_⟩|⟨_,h⟩
          ·exact absurd h pj
          ·exact h
         repeat' first|refine aI ?_;intros|refine de ?_ ?_<;>intros|(with_reducible refine DB _ _ ?_ ?_ ?_);(· kernel_rfl);all_goals intros|with_reducible apply cG
         all_goals first|exact hb f qz pa (abr _ _ (aj.dY fE.s.has) ti)|skip
         refine gh (Lx (a:=hi) (b:=o.m.aP) fun h=>pj ⟨by assumption,by assumption,by assumption,h⟩) kQ fE.s.has fun HY MS uO=>?_;repeat' first|refine aI ?_;intros|with_reducible apply cG
         exact hb f HY MS (abr _ _ uO ti)
       case hp=>
        rintro va HY MS ⟨S2,Wz,uP,Ci,Rk,alF,alG,We⟩;refine gN (fun m a b w X=> ∃(j:Nat) (t:bE),a=I j∧b=t.v∧m=outs.length-j∧j≤outs.length∧aj MS HY X w∧(xL=false→ ¬l7.cmp t<0)∧(xL=true→t=told)) outs.length ⟨0,told,rfl,rfl,rfl,aN _,aj.dY uP.s.has,Ij.tl,fun _=>rfl⟩ ?_;rintro m a b CE PN ⟨j,t,rfl,rfl,rfl,hj,gX,Zo,htd⟩;have rO:=uP.since gX;have aeK:=alG.mv (gX.dZ fun k ai=>uP.aU k (.inl ai));have aii:=We.mv gX.mv;have Sp:=Ij.ol;rcases ej outs j with⟨Nw,u,hu,hde⟩|⟨GJ,hde⟩
        ·obtain⟨hue,gg⟩:=Ij.oh u (aX hu);repeat' first|refine bL ?_;intros
         refine gh (Lx (a:=u) (b:=t) (by rw [hue];exact Zo gg)) kQ rO.s.has fun VC Z8 oM=>?_;have sJ:=rO.since oM;have aij:=aii.mv oM.mv;repeat' first|refine aI ?_;intros|with_reducible apply cG
         refine dy ((aeK.mv (oM.dZ fun k ai=>rO.aU k (.inl ai))).high (sJ.fx fun _ h=>.inl h)) kQ sJ.s.has fun ML Kc AU=>?_;have amp:=aij.mv AU.mv;repeat' first|refine aI ?_;intros|(with_reducible refine aa1 _ _ ?_ ?_ ?_);(· kernel_rfl);all_goals intros
         all_goals first|exact absurd hue (by assumption)|skip
         exact gA (outs.length-(j+1)) zQ ⟨j+1,u,congrArg I zQ,rfl,rfl,by omega,(gX.trans oM).trans AU,fun _=>by rw [hue];exact Lw _,fun h=>by rw [gg] at h;cases h⟩
        ·have alH:pd (i+1) (nM (ops.take i)+fS o.m.writes) every sz t mU CE F' nb lb db xL l7:=by
          cases xL with
          |false=>exact aeK.tell (Zo rfl)
          |true=>rw [htd rfl];exact aeK
         repeat' first|refine bL ?_;intros
         subst alF;exact SF _ _ _ _ t _ ⟨xL,l7,F',S2,nb,lb,Wz,rfl,Ci,rO,Rk.mv (gX.dZ fun k ai=>uP.aU k (.inr ai)),alH.up (bf _) zQ⟩
      ·have gg:dn=false:=by
        cases dn with
        |false=>rfl
        |true=>have:=hC rfl;omega
       subst gg;obtain⟨F,S,nb,lb,es,rfl,iW,mu,Wy,PQ⟩:=FJ;refine mu.call (PQ.tick zQ zQ (mu.fx fun _ h=>.inl h)) kQ (fun _ h=>.inl h) fun v NL qz pa wh BS zL fE AR=>?_;obtain⟨F',xL,l7,lN,aeL⟩:=wh;have Hb:=Wy.mv (AR.ew fun k ai=>⟨mu.aU k (.inr ai),fun hf=>iW k hf ai⟩);exact SF _ _ _ _ _ _ ⟨xL,l7,F',S,nb,lb,es,rfl,Re iW (mu.fx fun _ h=>.inr h) BS lN,fE.less fun k ai=>ai.elim (fun h=>(lN k h).imp .inl id) fun h=>.inl (.inr h),Hb,aeL.up (bf _) zQ⟩
      ·obtain⟨F,S,nb,lb,es,rfl,iW,mu,Wy,PQ⟩:=FJ;refine mu.call (PQ.arm abh.nr (mu.fx fun _ h=>.inl h)) kQ (fun _ h=>.inl h) fun v NL qz pa wh BS zL fE AR=>?_;obtain⟨_,aeL⟩:=wh;have Hb:=Wy.mv (AR.ew fun k ai=>⟨mu.aU k (.inr ai),fun hf=>iW k hf ai⟩);exact SF _ _ _ _ _ _ ⟨dn,hi,F,S,nb,lb,es,rfl,iW,fE.less fun k ai=>.inl ai,Hb,aeL.up zQ zQ⟩
      ·obtain⟨F,S,nb,lb,es,rfl,iW,mu,Wy,PQ⟩:=FJ;obtain⟨m9,hD9,hC9⟩:=PQ.CJ;have hA9:=PQ.wa;have hp9:Sl w9 (out nX w0) 1 vq (o.ct.map I1):=abh.p.mv (aid.dZ fun k ai=>gB.s.sub k ai);refine mu.call (aeC (S:=out nX w0) hD9 hC9 (mu.fx fun _ h=>.inl h) hp9 fun k ai=>⟨mu.s.sub k ai,fun hf=>mu.no (.inl hf) ai⟩) kQ (fun _ h=>.inl h) fun v NL qz pa wh BS zL fE AR=>?_;obtain⟨_,alI⟩:=wh;have Hb:=Wy.mv (AR.ew fun k ai=>⟨mu.aU k (.inr ai),fun hf=>iW k hf ai⟩);replace fE:Ft w0 nX qz pa (fun k=>F k∨S k):=fE.less fun k ai=>.inl ai
       skip
       refine fE.call (agQ (sz:=sz) (every:=every) alI hC9 hA9 zQ zQ zQ HV HW (fE.fx fun _ h=>.inl h)) kQ (fun _ h=>.inl h) fun v am0 HY MS alJ aj6 amw uP alK=>?_;obtain⟨nb',lb',F',s',x',k',rfl,lN,aj7,aik⟩:=alJ;have Rk:=Hb.mv (alK.ew fun k ai=>⟨fE.aU k (.inr ai),fun hf=>iW k hf ai⟩);have Rg:Aw (i+1) (nM (ops.take (i+1))) every sz db w0 HY MS false s'.high told (ptr nb' 0) f:=⟨F',S,nb',lb',es,rfl,Re iW (fE.fx fun _ h=>.inr h) aj6 lN,uP.less fun k ai=>ai.elim (fun h=>(lN k h).imp .inl id) fun h=>.inl (.inr h),Rk,.inl ⟨rfl,s',x',k',rfl,aj7,aik.up (bf _) zQ⟩⟩;repeat' first|refine bL ?_;intros|with_reducible apply cG
       refine dy Rg.high kQ uP.s.has fun CE PN gX=>?_;have rO:=uP.since gX;repeat' first|refine aI ?_;intros|with_reducible apply cG
       refine gh (Lx (a:=s'.high) (b:=told) aik.told) kQ rO.s.has fun VC Z8 oM=>?_;repeat' first|refine aI ?_;intros
       exact SF _ _ _ _ _ _ ⟨false,s'.high,(Rg.since gX).since oM⟩
      ·exact SF _ _ _ _ _ _ ⟨dn,hi,FJ.up zQ zQ⟩
  ·have jM:i=ops.length:=by omega
   subst jM;repeat' first|refine bL ?_;intros
   exact aeE _ _ _ gB
 ·cases few with
  |false=>
   repeat' first|refine aI ?_;intros
   exact aeE _ _ _ bK
  |true=>
   repeat' first|refine aI ?_;intros|refine de ?_ ?_<;>intros
   all_goals first
    |exact aeE _ _ _ bK
    |(exfalso;exact hpq ⟨rfl,by omega,by omega,by omega,by omega⟩)
end Go.Proofs.YtpdkoaklobnegaaGreat
namespace Go.Proofs.YtpdkoaklobnegaaGreat
open Go.Proofs.Tryz renaming prog → pg
open Go.dL Go.ChangeShapes Go.WideShapes Go.ChangeAt Go.RowKit
set_option maxRecDepth 100000
set_option maxHeartbeats 1000000
namespace sinkWhole
theorem aeM (H:Type) (enc:TypeId×Value→H) (W:World) (base:Nat) (args:Array Value) (ds gs:List (DataW H)) (before:List MemPlace)
  (NZ: ∀(j:Nat) t v,Tryz.f6.params[j]? =some t→args[j]? =some v→Value.okWide pg W .any base t v)
  (hW:DataW.Whole enc pg Tryz.f6.params.toList Rows.sinkWholeSpec.vars false W args.toList ds gs before) (hk:Rows.uptoSmall H (ds++gs)=true):
  Calls pg 6 args W fun e W'=> ∃v,e= .returned v∧Rows.sinkWholeSpec.post enc pg Tryz.f6 false true false false W args v W':=by
 have hW':=hW;obtain⟨p,q,hA0,hV,rfl,hfz,mP⟩:=hW;have hA:DataW.TrodAll enc pg W 0 (fun _=>true) true Tryz.f6.params.toList args.toList ds p:=hA0;rw [Tryz.params6] at hA NZ;obtain⟨v0,vs0,d0,ds0,p0,q0,afV,rfl,rfl,h0,r0⟩:=trodAll_cons hA;obtain⟨v1,vs1,d1,ds1,p1,q1,rfl,rfl,rfl,h1,r1⟩:=trodAll_cons r0;obtain⟨v2,vs2,d2,ds2,p2,q2,rfl,rfl,rfl,h2,r2⟩:=trodAll_cons r1;obtain⟨rfl,rfl,rfl⟩:=trodAll_nil r2;obtain rfl:args= #[v0,v1,v2]:=by cases args;simp_all
 obtain⟨rfl,rfl⟩:=trodVars_none hV;obtain⟨z1,rfl⟩:=okWide_int Tryz.underlying3 (NZ 0 3 v0 rfl rfl);obtain⟨z2,rfl⟩:=okWide_int Tryz.underlying3 (NZ 1 3 v1 rfl rfl);obtain⟨b2,n2,c2,rfl⟩:=okWide_slice Tryz.underlying66 (NZ 2 66 v2 rfl rfl);obtain⟨f2,Ic⟩:=h2;obtain⟨x2,⟨u2,hu2,r2'⟩,wt2⟩:=agw H enc W f2 _ _ Ic;obtain rfl:u2= .slice b2 n2 c2:=by simpa [Value.cells] using hu2.symm
 have hb:=bound hk;simp only [bZ,Rows.uptoBulkAll] at hb hW';have wQ:(x2.map Wt.wt).sum+1≤Rows.uptoBulk d2:=wt2;refine(PK (X:=ba W) (sz:=z1) (every:=z2) r2' (fun o ho=>?_) W (Kp.refl _ _)).mono fun e W' ⟨v,he,ly,hq⟩=>?_
 ·have h3:=u4 ho;have h4:Wt.wt o.kind+Wt.wt o.n+Wt.wt o.m+Wt.wt o.ct+1≤(x2.map Wt.wt).sum:=h3;obtain⟨y1,y2,y3⟩:=ahD (m:=o.m) (B:=1048576) zQ (by decide);exact⟨y1,y2,y3,ahE zQ⟩
 subst he;subst hq;exact⟨_,rfl,aee VB Tryz.underlying4 rfl rfl kQ ⟨rfl,rfl,rfl⟩ hW' (by rw [bZ] at*;exact hA0) ly⟩
theorem lifted (os:Os) (started:os.Started) (H:Type) (enc:TypeId×Value→H) (F:Stop.Interp):
  ReturnsInHanded {} Tryz.checked os 6 .any ((Rows.OpenSpec.upto Rows.sinkWholeSpec).pre6 enc pg Tryz.f6 Rows.sinkWholeUptoRow.domain false) (((Rows.OpenSpec.upto Rows.sinkWholeSpec).at F).post enc pg Tryz.f6 false true false false):=by
 refine returnsInHanded_of_cond (C:=Tryz.checked) (s:=Rows.OpenSpec.upto Rows.sinkWholeSpec) (k:=Rows.uptoSmall) rfl aef started kQ Tryz.func6
  (OpenSpec.witness (enc:=enc) (C:=Tryz.checked) (s:=Rows.OpenSpec.upto Rows.sinkWholeSpec) (k:=Rows.uptoSmall) rfl false ⟨#[],#[I 0,I 0,.slice none 0 0],[]⟩ 8 kQ kQ kQ
   (x:=([.lit (.int .i64 0),.lit (.int .i64 0),.nil],[],[])) kQ rfl kQ) ?_
 intro W base args ds gs before NZ hW _ hk _;exact aeM H enc W base args ds gs before NZ hW hk
theorem aj8:((Rows.sinkWholeUptoRow).unfollowed==pg.unfollowed 6)=true:=by kernel_rfl
theorem aj9:((Rows.sinkWholeUptoRow).recurses==pg.recurses 6)=true:=by kernel_rfl
theorem ac7:((Rows.sinkWholeUptoRow).inPlace==pg.inPlace 6)=true:=by kernel_rfl
theorem agR:((Rows.sinkWholeUptoRow).named==pg.varsNamed 6)=true:=by kernel_rfl
theorem Yz:mapsRowed pg=true:=by kernel_rfl
theorem agS:(pg.stops==[])=true:=by kernel_rfl
theorem agT:(pg.stopKnobs==[])=true:=by kernel_rfl
theorem agU:pg.stopsHeard=true:=by kernel_rfl
theorem aka:pg.mayEnter=true:=by kernel_rfl
theorem ail:((Rows.sinkWholeUptoRow).plainKeys==pg.plainKeys)=true:=by kernel_rfl
theorem aeN:((Rows.sinkWholeUptoRow).lifted==pg.liftsFinal)=true:=by kernel_rfl
theorem aim:(pg.make==some (Rows.sinkWholeUptoRow).make)=true:=by kernel_rfl
theorem ain:joinedFacts pg 6 Tryz.f6 (Rows.OpenSpec.upto Rows.sinkWholeSpec).bare Rows.sinkWholeUptoRow=true:=by
 unfold joinedFacts;simp only [aA]
 and_intros<;>first|with_reducible exact VB|with_reducible exact aj8|with_reducible exact aj9|with_reducible exact ac7|with_reducible exact agR|with_reducible exact Yz|with_reducible exact agS|with_reducible exact agT|with_reducible exact agU|with_reducible exact aka|with_reducible exact ail|with_reducible exact aeN|with_reducible exact aim|kernel_rfl
theorem proved:Rows.SinkWholeUptoSaid:=
 OpenClaim.holds_of_cond 6 Tryz.f6 rfl rfl rfl rfl rfl rfl rfl ⟨rfl,rfl,rfl,rfl,rfl⟩ rfl rfl rfl rfl rfl kQ Tryz.func6 ain
  (of_decide_eq_true kQ) (by unfold Func.isWrapper;first|(rw [if_pos (by decide+kernel)];kernel_rfl)|(rw [if_neg (by decide+kernel)];exact⟨rfl,rfl⟩))
  (fun os started H enc _ F=>lifted os started H enc F)
end sinkWhole
end Go.Proofs.YtpdkoaklobnegaaGreat
