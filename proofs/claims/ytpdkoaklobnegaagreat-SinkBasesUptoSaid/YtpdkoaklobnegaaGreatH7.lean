/-
 Part 7 of the proof: what the last text leans on.
-/
import Derived.Test.YtpdkoaklobnegaaGreatProg
import Derived.Recover
import Derived.KernelRfl
import Derived.Tactics
import Derived.Test.YtpdkoaklobnegaaGreatH6
open Go.Op renaming bytesLess → b7
open List renaming length_append → ae, map_cons → bh, mem_cons_of_mem → bm, mem_of_getElem? → bg, length_nil → cA, length_cons → bC, append_assoc → ax, length_map → aS, sum_cons → eZ, flatten_cons → dg, pairwise_map → iK, length → aB, drop_left' → kL, map_map → en, map_append → bq, mem_append_left → bU, mem_singleton → bo, mem_cons → jq, length_drop → b8, filter_cons → iY, length_filter_le → tt, map_congr_left → fG, filter_sublist → kP, pairwise_mergeSort → jG, take_add_one → dI, take_length → dV, mem_append → jV, foldl_cons → g9
open Nat renaming le_trans → ah, zero_le → aV, le_of_ble_eq_true → jk, lt_of_lt_of_le → aU, le_refl → bp, pow_le_pow_right → ug, mod_eq_of_lt → fe, mul_le_mul_right → dM
open Bool renaming and_eq_true → aG, or_eq_true → gH, true_and → ju, not_eq_true' → bW, not_eq_false → kc, or_eq_false_iff → pd, false_eq_true → bA, and_eq_false_iff → tu
open Array renaming replicate → ew
open BitVec renaming ofInt → aP, ofInt_natCast → jy, toNat_ofNat → fU
open Go.ByteArray renaming toList_eq → fD
open Go.Exit renaming thenS → rA
open ByteArray renaming size → kA, ext → mM
open Go.Instr renaming alloc → g7
open UInt8 renaming ofNat → lh, lt_irrefl → s3
set_option linter.unusedVariables false
set_option linter.unusedSimpArgs false
namespace Go.Proofs.YtpdkoaklobnegaaGreat
open Go.Proofs.Tryz renaming prog → pg
open Go.fR
theorem Re:Idle pg 50:=by
 refine⟨by kernel_rfl,fun fX w=>?_⟩
 refine callsD_of_wpS Tryz.func50 rfl fun c₀ cs hu=>?_
 rw [Tryz.ntmps50]
 have eu:7≤(fX++ew (10-fX.size) undef).size:=by simp;omega
 generalize fX++ew (10-fX.size) undef=tm at eu
 have h2:2<tm.size:=by omega
 have h3:3<tm.size:=by omega
 have h4:4<tm.size:=by omega
 have h5:5<tm.size:=by omega
 have h6:6<tm.size:=by omega
 apply wpS_seq
 apply wpS_region
 simp [wpOpsS,go_sem,recoverD,hu,rA]
 apply wpS_seq
 apply wpS_region
 simp [wpOpsS,go_sem,rA,h2,h3,h4,h5,h6]
 refine wpS_cond (t:=false) (by simp [Act.eval,h2,h3,h4,h5,h6]) ?_
 simp only [bA,if_false]
 refine wpS_of_wp (wp_skip ?_)
 cases c₀
 simp_all [bodyPostS,results,Tryz.results50]
theorem aaP:Idle pg 56:=by
 refine⟨by kernel_rfl,fun fX w=>?_⟩
 refine callsD_of_wpS Tryz.func56 rfl fun c₀ cs hu=>?_
 rw [Tryz.ntmps56]
 have eu:7≤(fX++ew (9-fX.size) undef).size:=by simp;omega
 generalize fX++ew (9-fX.size) undef=tm at eu
 have h2:2<tm.size:=by omega
 have h3:3<tm.size:=by omega
 have h4:4<tm.size:=by omega
 have h5:5<tm.size:=by omega
 have h6:6<tm.size:=by omega
 apply wpS_seq
 apply wpS_region
 simp [wpOpsS,go_sem,recoverD,hu,rA]
 apply wpS_seq
 apply wpS_region
 simp [wpOpsS,go_sem,rA,h2,h3,h4,h5,h6]
 refine wpS_cond (t:=false) (by simp [Act.eval,h2,h3,h4,h5,h6]) ?_
 simp only [bA,if_false]
 refine wpS_of_wp (wp_skip ?_)
 cases c₀
 simp_all [bodyPostS,results,Tryz.results56]
end Go.Proofs.YtpdkoaklobnegaaGreat
namespace Go.Proofs.YtpdkoaklobnegaaGreat
open Go.Proofs.Tryz renaming prog → pg
open Go.fR
set_option maxRecDepth 100000
set_option maxHeartbeats 1000000
set_option linter.unusedVariables false
set_option linter.unusedSimpArgs false
attribute [local irreducible] un jn bz aQ aX gL eo dx cr nu fF mO BK AB jc iS aa ay aF eW eV eU eC eF gE ao fin aN aH aI vS BL jB lq wK D9 Ea Eb Ec BM jC lr wL Ed Ee Ef Eg
def eH (prev st:bZ) (t:gM) (l:List KV):Rec:=⟨11,t,st,prev,false,0,0,[],l,[],[],.zero⟩
theorem MZ {prev st:bZ} {t:gM} {l:List KV} (h:iJ prev st t l=true):(eH prev st t l).err=0:=by
 simp [Rec.err,eH,Rec.strip,Rec.isZero,Rec.qk,h,State.isZero,State.zero]
def SM.fits (s:SM) (prev st:bZ) (t:gM) (l:List KV):Bool:=iJ prev st t l&&decide (st.cmp s.high>0)&&decide (prev=s.high)
def mK (s:SM) (x:LD) (prev st:bZ) (t:gM) (l:List KV):SM×LD:=
 if s.fits prev st t l then
  let k:=x.fc 0 (iv (eH prev st t l))
  (if k.2.2=0 then { s.apply t st l with since:=s.since+1 } else s,k.1)
 else(s,x)
abbrev su (to:Int) (st:bZ):List Value:=[I 14,I 32,I to,I 0,I 0,I 0,I 0,I 0,I 0,I st.wall,I st.fA,I st.node,I 0,I 0,I 0,
 B false,I 0,I 0,gf,gf,gf,gf,gf,gf,I 0,I 0,.float .f64 0,.float .f64 0,I 0,I 0,I 0,I 0,I 0,I 0,gf,gf]
theorem jo.M3 {w w':World} {X X' F:XS} {nb lb mb db:Nat} {s:SM} {L:LM} {m:DM} {FN FG:XS} {av:Value} {es:List (Value×u9)} (qy:Dj FN FG) (hN: ∀k,FN k→F k) (hG: ∀k,FG k→F k) (hX: ∀k,F k→X k)
  (h:na w FN nb lb mb av es s) (hg:Lg w FG lb db L m) (c:fO (· =nb) X w X' w') (n:Int)
  (hr:bJ w' X' nb [ptr lb 0,I s.every,I n,B s.down,.map (some mb),I s.high.wall,I s.high.fA,I s.high.node,av] 112):jo w' F nb lb db { s with since:=n } L m:=
 ⟨FN,FG,mb,av,es,qy,hN,hG,h.Jy (fun k hk=>hX k (hN k hk)) c { s with since:=n } rfl rfl hr,hg.mv (c.fC fun k hk=>⟨hX k (hG k hk),fun e=>qy k (e▸h.box.1) hk⟩)⟩
theorem Ht {w:World} {X F S:XS} {nb lb db:Nat} {s:SM} {L:LM} {m:DM} {t:gM} {st:bZ} {vw:Value} {l:List KV} (h:jo w F nb lb db s L m) (hF:FX F X w) (hw:Sl w S 4 vw (l.map KV.l)) (hS: ∀k,S k→X k∧ ¬F k)
  (hl:l.length≤2^30) (hd:s.done.length≤2^30):
  Ct pg 55 #[ptr nb 0,t.v,st.v,vw] w X F fun v wa w'=>v= .tuple #[]∧ ∃F',(∀k,F' k→F k∨made wa w' k)∧jo w' F' nb lb db (s.apply t st l) L m:=by
 obtain⟨FN,FG,mb,av,es,qy,hN,hG,cg,hg⟩:=h
 intro wa hk
 refine((JH cg (fun k ai=>hF k (hN k ai)) hw (fun k ai=>⟨(hS k ai).1,fun h=>(hS k ai).2 (hN k h)⟩) hl hd) wa hk).mono ?_
 rintro e w' ⟨v,he,Ej,hv,F',yh,Ay,pB,qX⟩
 refine⟨v,he,Ej.mono hN,hv,fun k=>F' k∨FG k,fun k ai=>ai.elim (fun h=>(pB k h).imp (hN k) id) fun h=>.inl (hG k h),F',FG,mb,yh,Ay,fun k a b=>(pB k a).elim (fun h=>qy k h b) fun hm=>?_,fun _ h=>.inl h,fun _ h=>.inr h,qX,hg.mv fun k ai _=>⟨ai,?_⟩⟩
 ·have:=(hF k (hG k b)).2;have:=hk.size;have:=hm.1;omega
 ·have Rf:=hF k (hG k ai)
  exact(Ej.block k (aU Rf.2 hk.size) fun h=>qy k h ai).trans (hk.block k Rf.1)
theorem L5 {w:World} {X F S:XS} {nb lb db:Nat} {s:SM} {L:LM} {m:DM} {prev st:bZ} {t:gM} {a:Value} {l:List KV} (h:jo w F nb lb db s L m) (hL:j9 L) (mr:L.bR.length≤2^29) (hF:FX F X w) (iI:s.down=false)
  (hw:Sl w S 4 a (l.map KV.l)) (hS: ∀k,S k→X k∧ ¬F k) (hl:l.length≤2^16) (tG: ∀x∈l,x.key.size≤2^16) (Xu:(iv (eH prev st t l)).length≤262144) (hd:s.done.length≤2^30) (QB:0≤s.since∧s.since<2^40)
  (L4:j9 (LD.append ⟨L,m⟩ (iv (eH prev st t l))).1.L) (Dg:(LD.fc ⟨L,m⟩ 0 (iv (eH prev st t l))).2.2≠12):
  Ct pg 15 #[ptr nb 0,MA 12 31 32 prev st t a] w X F fun v wa w'=> ∃vo F' S',v= .tuple #[vo,I 0]∧(∀k,F' k→F k∨made wa w' k)∧(∀k,S' k→made wa w' k∧ ¬F' k)∧
   jo w' F' nb lb db (mK s ⟨L,m⟩ prev st t l).1 (mK s ⟨L,m⟩ prev st t l).2.L (mK s ⟨L,m⟩ prev st t l).2.m∧
   Sl w' S' 36 vo (if iJ prev st t l then [su 31 (mK s ⟨L,m⟩ prev st t l).1.high] else []):=by
 intro w0 hk
 obtain⟨ab,an,ac,rfl⟩:=hw.form
 replace h:=h.mv (hF.mv hk)
 have hT:=hF.ft hk
 have jl:FX F (aW w0) w0:=hF.kp hk
 have vz:Sl w0 (out F w0) 4 (.slice ab an ac) (l.map KV.l):=hw.mv fun k ai yy=>⟨⟨aU yy hk.size,(hS k ai).2⟩,hk.block k (hS k ai).1⟩
 have oa:=vz.one
 generalize hr:mK s ⟨L,m⟩ prev st t l=q
 unfold mK at hr
 obtain⟨FN,FG,mb,av,es,qy,hN,hG,cg,hg⟩:=id h
 have hb:=cg.box.mv (Mv.sub fun k ai=>hT.ba k (hN k ai))
 rw [iI] at hb
 refine AZ (fun g hg=>?_) (fun ch w hh=>by obtain⟨v,he,_⟩:=hh;cases he) ?_
 ·have e:zc Tryz.f15=some 50:=by kernel_rfl
  rw [e] at hg;cases hg;exact Re
 unfold qH
 repeat' first|with_reducible (first|apply ak|apply aK)|(with_reducible apply aM);exact qF;(· kernel_rfl);rfl;intro _ _ _|(with_reducible apply aZ);exact qF;exact qM;(· kernel_rfl);rfl|(with_reducible apply eh);exact qC
 refine dt (YU (vz.mv hT.s.mv) (by omega)) (by kernel_rfl) hT.s.has fun w1 X1 au=>?_
 have cO:=hT.since au
 have h1:jo w1 F nb lb db s L m:=h.mv (au.fg hT.ba)
 clear hb hg cg qy hN hG
 cases mQ:iJ prev st t l with
 |false=>
  rw [show(if ub 31&&ub 32&&false then(0:Int)else 4)=4 from by simp]
  repeat' first|(with_reducible refine xv ?_ ?_);omega|with_reducible (first|apply aD|apply fb|apply oR|apply dW|apply pS|apply bE)
  have hq:q=(s,⟨L,m⟩):=by rw [←hr,if_neg (by simp [SM.fits,mQ])]
  subst hq
  refine cO.fin fun wa aR=>⟨gf,F,nX,rfl,fun _ h=>.inl h,fun _ h=>h.elim,h1.mv (aR.fC cO.ba),?_⟩
  rw [if_neg (by simp)]
  exact Sl.nil _ _ _
 |true=>
  rw [show(if ub 31&&ub 32&&true then(0:Int)else 4)=0 from by simp [ub]]
  repeat' first|(with_reducible refine fL ?_ ?_);omega|with_reducible (first|apply ak|apply dG|apply cL|apply cD|apply iB|apply cu|apply bt)
  refine fV (Q:=fun K=> ∀w2 X2 F2,Ft w0 F w2 X2 F2→jo w2 F2 nb lb db q.1 q.2.L q.2.m→K w2 X2) ?_ fun K hK=>?_
  ·intro w2 X2 F2 bM h2
   obtain⟨FN,FG,mb,av,es,qy,hN,hG,b6,hg⟩:=id h2
   have qt:=b6.box.mv (Mv.sub fun k ai=>bM.ba k (hN k ai))
   repeat' first|(with_reducible apply gP);rfl|with_reducible apply aK|(with_reducible apply gx);exact qF;(· kernel_rfl);rfl;exact qN;intro _ _ _|(with_reducible apply fP);exact qF;exact qM;(· kernel_rfl);rfl|(with_reducible apply gg);(· kernel_rfl)
   refine Km bM.s.has (by kernel_rfl) rfl fun v w3 X3 cw pY=>?_
   have ov:=pY.sl.one
   repeat' first|(with_reducible apply eh);exact qC
   have cP:=bM.since cw
   refine cP.fin fun wa aR=>⟨v,F2,jw v,rfl,cP.gK aR fun _ h=>h,fun k ai=>?_,(h2.mv (cw.fg bM.ba)).mv (aR.fC cP.ba),?_⟩
   ·obtain⟨a1,a2⟩:=pY.ge ai
    have b1:=bM.s.kp.size
    have b3:=aR.size
    refine⟨⟨by omega,by omega⟩,fun hf=>?_⟩
    have:=bM.s.has k (bM.ba k hf)
    omega
   ·rw [if_pos rfl]
    exact(pY.kp aR).ow.tight.sl
  ·obtain⟨FN,FG,mb,av,es,qy,hN,hG,wE,hg⟩:=id h1
   have mF:=wE.box.mv (Mv.sub fun k ai=>cO.ba k (hN k ai))
   repeat' first|(with_reducible refine m7 ?_ ?_);omega|with_reducible (first|apply dz|apply cM|apply rR|apply aK)|(with_reducible apply gx);exact qF;(· kernel_rfl);rfl;exact qN;intro _ _ _|(with_reducible apply fP);exact qF;exact qM;(· kernel_rfl);rfl
   refine fV (Q:=fun K1=> ∀w2 X2,aj X1 w1 X2 w2→K1 (I (st.cmp s.high)) w2 X2) ?_ fun K1 JJ=>?_
   ·intro w2 X2 b6
    have bM:=cO.since b6
    have h2:=h1.mv (b6.fg cO.ba)
    have qt:=mF.since b6
    have m4:s.fits prev st t l=false→K w2 X2:=fun hf=>hK _ _ F bM (by
     have hq:q=(s,⟨L,m⟩):=by rw [←hr,if_neg (by simp [hf])]
     rw [hq];exact h2)
    repeat' first|with_reducible (first|apply aD|apply ak|apply dz|apply cL|apply cM|apply rR|apply cu|apply bE|apply bt|apply aK)|(with_reducible apply kF<;>intro _)|(with_reducible apply gx);exact qF;(· kernel_rfl);rfl;exact qN;intro _ _ _|(with_reducible apply fP);exact qF;exact qM;(· kernel_rfl);rfl|(with_reducible apply gg);(· kernel_rfl)|(with_reducible refine Oe _ _ ?_ ?_ ?_);(· kernel_rfl);all_goals intros
    case refine_2.k=>
     have hp:prev=s.high:=by first|assumption|(ext<;>assumption)
     have xA:s.fits prev st t l=true:=by
      simp only [SM.fits,mQ,ju,aG,decide_eq_true_eq]
      exact⟨by assumption,hp⟩
     rw [if_pos xA] at hr
     dsimp only at hr
     have MY: ∀wa,Kp X2 w2 wa→Ct pg 91 #[(eH prev st t l).v gf (.slice ab an ac) gf gf gf gf] wa (out F wa) nX fun v wb w'=>
       if(0:Nat)≠0 then v= .tuple #[.slice none 0 0,I (0:Nat)] else∃vb,v= .tuple #[vb,I 0]∧Own w' (made wb w') wb.heap.size 5 1 vb ((iv (eH prev st t l)).map U1):=fun wa aR=>by
      have xi:Sl wa (out F wa) 4 (.slice ab an ac) (l.map KV.l):=vz.mv fun k ai yy=>⟨⟨aU ai.1 (ah bM.s.kp.size aR.size),ai.2⟩,(aR.block k (bM.s.sub k ai)).trans (bM.s.kp.block k ai)⟩
      refine(zj (r:=eH prev st t l) ⟨Sl.nil _ _ _,xi,Sl.nil _ _ _,Sl.nil _ _ _,iw.nil _ _ _,iw.nil _ _ _⟩ ?_ rfl (fun _=>⟨hl,tG,Xu⟩)).mono fun v wb w' _ hq=>?_
      ·exact⟨by simp [eH],by simp [eH];omega,by simp [eH],fun x hx=>by have:=tG x hx;omega,⟨by simp [eH,State.zero,Aa],by simp [eH,State.zero,z8],by simp [eH,State.zero,Gf],by simp [eH,State.zero,Gg]⟩⟩
      ·rw [MZ mQ,if_neg (by simp)] at hq
       rw [if_neg (by simp)]
       exact hq
     refine bM.call (DN (r:=eH prev st t l) (e:=0) h2 hL mr (bM.fx fun _ h=>h) MY rfl rfl rfl rfl rfl rfl L4 Dg) (by kernel_rfl) (fun _ h=>h) fun v qw w3 X3 Hq rr oG cP oe=>?_
     obtain⟨rfl,F3,JF,h3⟩:=Hq
     generalize LD.fc ⟨L,m⟩ 0 (iv (eH prev st t l))=kp at hr h3⊢
     have il:Ft w0 F w3 X3 F3:=cP.less JF
     repeat' first|with_reducible (first|apply aD|apply ak)|(with_reducible apply gF<;>intro _)|(with_reducible apply fp);rfl
     ·rename_i hz
      have xp:kp.2.2=0:=by omega
      rw [if_pos xp] at hr
      refine il.call (Ht (l:=l) h3 (il.fx fun _ h=>h) (S:=out F w0) (vz.mv fun k ai _=>⟨ai,il.s.kp.block k ai⟩) (fun k ai=>⟨?_,?_⟩) (by omega) hd) (by kernel_rfl) (fun _ h=>h) fun v tY w4 X4 UO sY ml ed tW=>?_
      ·exact il.s.sub k ai
      ·exact fun hf=>il.no hf ai
      obtain⟨rfl,F4,JD,h4⟩:=UO
      have pI:Ft w0 F w4 X4 F4:=ed.less JD
      obtain⟨FN4,FG4,mb4,av4,es4,acD,UP,hG4,fw,hg4⟩:=id h4
      have uT:=fw.box.mv (Mv.sub fun k ai=>pI.ba k (UP k ai))
      rw [show(s.apply t st l).since=s.since from rfl] at uT
      repeat' first|with_reducible apply aK|(with_reducible apply aM);exact qF;(· kernel_rfl);rfl;intro _ _ _|(with_reducible apply aZ);exact qF;exact qM;(· kernel_rfl);rfl|(with_reducible apply cx);omega;omega
      refine lB (o:=2) uT (by omega) (by kernel_rfl) (by simp) rfl pI.s.has fun w5 X5 c5 sM=>?_
      have gU:Ft w0 F w5 X5 F4:=pI.ej c5 (fun k ai=>by subst ai;exact UP _ fw.box.1) fun k ai=>.inl ai
      have h5:=jo.M3 acD UP hG4 pI.ba fw hg4 c5 (s.since+1) sM
      refine hK _ _ F4 gU ?_
      rw [←hr]
      exact h5
     ·rename_i hz
      have xp:kp.2.2≠0:=by omega
      rw [if_neg xp] at hr
      refine hK _ _ F3 il ?_
      rw [←hr]
      exact h3
    all_goals exact m4 (by simp [SM.fits, *])
   ·repeat' first|with_reducible apply pD|(refine iO (pM st s.high) (by kernel_rfl) cO.s.has fun w2 X2 b6=>?_)
    exact JJ _ _ b6
def fB (st:bZ) (l:List KV):Rec:=⟨12,.zero,st,.zero,false,0,0,[],[],[],l,.zero⟩
theorem UQ {st:bZ} {l:List KV} (h:st.may=true) (hp:sQ l=true):(fB st l).err=0:=by
 simp [Rec.err,fB,Rec.strip,Rec.isZero,Rec.qk,h,hp,State.isZero,State.zero]
def SM.idle (s:SM):Bool:=decide (s.every=0)||decide (s.since<s.every)
def pr (s:SM) (x:LD) (K:Nat):SM×LD:=
 if s.idle then(s,x)else
  let k:=x.fc 0 (gG (fB s.high s.list))
  if k.2.2=0 then({ s with since:=0 },(k.1.trim k.2.1 K).1)else(s,k.1)
theorem WK {w:World} {X F:XS} {nb lb db K:Nat} {s:SM} {L:LM} {m:DM} (h:jo w F nb lb db s L m) (hL:j9 L) (mr:L.bR.length≤2^29) (hF:FX F X w) (iI:s.down=false)
  (eu: ∀x∈s.bH,x.1.size≤2^16) (hlen:s.list.length≤2^16) (hlp:s.bH.length≤2^16) (aik: ∀x∈s.list,x.key.size≤2^16) (ail:s.high.may=true) (hpo:sQ s.list=true) (Xu:(gG (fB s.high s.list)).length≤262144)
  (L4:s.idle=false→j9 (LD.append ⟨L,m⟩ (gG (fB s.high s.list))).1.L) (Dg:s.idle=false→(LD.fc ⟨L,m⟩ 0 (gG (fB s.high s.list))).2.2≠12)
  (Ze:s.idle=false→j9 (LD.fc ⟨L,m⟩ 0 (gG (fB s.high s.list))).1.L) (hK:s.idle=false→(LD.fc ⟨L,m⟩ 0 (gG (fB s.high s.list))).1.L.bR.length≤K) (hK2:K≤2^40)
  (A9:s.idle=false→((LD.fc ⟨L,m⟩ 0 (gG (fB s.high s.list))).1.trim (LD.fc ⟨L,m⟩ 0 (gG (fB s.high s.list))).2.1 K).2≠12):
  Ct pg 16 #[ptr nb 0] w X F fun v wa w'=> ∃F',v=I 0∧(∀k,F' k→F k∨made wa w' k)∧
   jo w' F' nb lb db (pr s ⟨L,m⟩ K).1 (pr s ⟨L,m⟩ K).2.L (pr s ⟨L,m⟩ K).2.m:=by
 intro w0 hk
 replace h:=h.mv (hF.mv hk)
 have hT:=hF.ft hk
 have jl:FX F (aW w0) w0:=hF.kp hk
 generalize hr:pr s ⟨L,m⟩ K=q
 unfold pr at hr
 obtain⟨FN,FG,mb,av,es,qy,hN,hG,cg,hg⟩:=id h
 have hb:=cg.box.mv (Mv.sub fun k ai=>hT.ba k (hN k ai))
 rw [iI] at hb
 refine Lc (fun g hg=>?_) (fun ch w hh=>by obtain⟨v,he,_⟩:=hh;cases he) ?_
 ·have e:zc Tryz.f16=some 56:=by kernel_rfl
  rw [e] at hg;cases hg;exact aaP
 unfold uZ
 have Fw:s.idle=true→ ∀wa,Kp (aW w0) w0 wa→ ∃F',I 0=I 0∧(∀k,F' k→F k∨made w0 wa k)∧jo wa F' nb lb db q.1 q.2.L q.2.m:=fun hi wa aR=>by
  rw [if_pos hi] at hr
  subst hr
  exact⟨F,rfl,fun _ h=>.inl h,h.mv (aR.fC hT.ba)⟩
 repeat' first|with_reducible (first|apply aD|apply ak|apply dG|apply fb|apply cD|apply iB|apply dW|apply bE|apply bt|apply aK)|(with_reducible apply kE<;>intro _)|(with_reducible apply gF<;>intro _)|(with_reducible apply aM);exact qF;(· kernel_rfl);rfl;intro _ _ _|(with_reducible apply gx);exact qF;(· kernel_rfl);rfl;exact qN;intro _ _ _|(with_reducible apply aZ);exact qF;exact qM;(· kernel_rfl);rfl|(with_reducible apply fP);exact qF;exact qM;(· kernel_rfl);rfl|(with_reducible apply eh);exact qC
 ·exact hT.fin (Fw (by simp [SM.idle, *]))
 ·exact hT.fin (Fw (by simp [SM.idle, *]))
 have hi:s.idle=false:=by simp [SM.idle, *]
 replace L4:=L4 hi;replace Dg:=Dg hi;replace Ze:=Ze hi;replace hK:=hK hi;replace A9:=A9 hi
 rw [if_neg (by rw [hi];simp)] at hr
 dsimp only at hr
 clear Fw
 refine dk (uf cg (hT.fx hN) (fun x hx=>by have:=eu x hx;omega) (by omega)) (by kernel_rfl) hT.s.has ?_
 rintro vp JI w1 X1 yw u4 qj au
 have cO:=hT.since au
 have h1:jo w1 F nb lb db s L m:=h.mv (au.fg hT.ba)
 have af6:Own w1 X1 w0.heap.size 74 4 vp (s.list.map KV.l):=yw.up qj u4
 obtain⟨pb,pn,pc,rfl⟩:=af6.sl.form
 repeat' first|(with_reducible apply gP);rfl|(with_reducible apply gg);(· kernel_rfl)
 have MY: ∀wa,Kp X1 w1 wa→Ct pg 91 #[(fB s.high s.list).v gf gf gf (.slice pb pn pc) gf gf] wa (out F wa) nX fun v wb w'=>
   if(0:Nat)≠0 then v= .tuple #[.slice none 0 0,I (0:Nat)] else∃vb,v= .tuple #[vb,I 0]∧Own w' (made wb w') wb.heap.size 5 1 vb ((gG (fB s.high s.list)).map U1):=fun wa aR=>by
  have xi:Sl wa (out F wa) 4 (.slice pb pn pc) (s.list.map KV.l):=(af6.kp aR).tight.sl.mono fun k ai=>⟨ai.2,fun hf=>by
   have:=(jl k hf).2;have:=ai.1;omega⟩
  refine(E4 (r:=fB s.high s.list) ⟨Sl.nil _ _ _,Sl.nil _ _ _,Sl.nil _ _ _,xi,iw.nil _ _ _,iw.nil _ _ _⟩ ?_ rfl (fun _=>⟨hlen,aik,Xu⟩)).mono fun v wb w' _ hq=>?_
  ·exact⟨by simp [fB],by simp [fB],by simp [fB],by simp [fB],⟨by simp [fB,State.zero,Aa],by simp [fB,State.zero,z8],by simp [fB,State.zero,Gf],by simp [fB,State.zero,Gg]⟩⟩
  ·rw [UQ ail hpo,if_neg (by simp)] at hq
   rw [if_neg (by simp)]
   exact hq
 refine cO.call (DN (r:=fB s.high s.list) (e:=0) h1 hL mr (cO.fx fun _ h=>h) MY rfl rfl rfl rfl rfl rfl L4 Dg) (by kernel_rfl) (fun _ h=>h) fun v qw w3 X3 Hq rr oG cP oe=>?_
 obtain⟨rfl,F3,JF,h3⟩:=Hq
 generalize LD.fc ⟨L,m⟩ 0 (gG (fB s.high s.list))=kp at hr h3 Ze hK A9⊢
 have il:Ft w0 F w3 X3 F3:=cP.less JF
 obtain⟨FN3,FG3,mb3,av3,es3,acC,XJ,hG3,cw,hg3⟩:=id h3
 have Ch:=cw.box.mv (Mv.sub fun k ai=>il.ba k (XJ k ai))
 repeat' first|with_reducible (first|apply aD|apply ak|apply aK)|(with_reducible apply gF<;>intro _)|(with_reducible apply aM);exact qF;(· kernel_rfl);rfl;intro _ _ _|(with_reducible apply fp);rfl|(with_reducible apply eh);exact qC|with_reducible apply dY
 ·rename_i hz
  have xp:kp.2.2=0:=by omega
  rw [if_pos xp] at hr
  refine lB (o:=2) Ch (by omega) (by kernel_rfl) (by simp) rfl il.s.has fun w5 X5 c5 sM=>?_
  have gU:Ft w0 F w5 X5 F3:=il.ej c5 (fun k ai=>by subst ai;exact XJ _ cw.box.1) fun k ai=>.inl ai
  have h5:=jo.M3 acC XJ hG3 il.ba cw hg3 c5 0 sM
  obtain⟨FN5,FG5,mb5,av5,es5,af7,hN5,hG5,o9,hg5⟩:=id h5
  have Q5:=o9.box.mv (Mv.sub fun k ai=>gU.ba k (hN5 k ai))
  have aim:FX FG5 X5 w5:=gU.fx hG5
  repeat' first|with_reducible apply aK|(with_reducible apply aM);exact qF;(· kernel_rfl);rfl;intro _ _ _|(with_reducible apply aZ);exact qF;exact qM;(· kernel_rfl);rfl
  refine gU.call (Za (below:=kp.2.1) hg5 Ze hK (by omega) aim) (by kernel_rfl) hG5 fun v JE w6 X6 JK Gw Ao ir Hr=>?_
  obtain⟨rfl,FG6,af8,hg6⟩:=JK
  have ekp:kp.1=⟨kp.1.L,kp.1.m⟩:=rfl
  rw [ekp] at hr A9
  generalize LD.trim ⟨kp.1.L,kp.1.m⟩ kp.2.1 K=tr at hr A9 hg6⊢
  have tp:na w6 FN5 nb lb mb5 av5 es5 { s with since:=0 } :=o9.mv (Hr.fC fun k ai=>⟨gU.ba k (hN5 k ai),fun hf=>af7 k ai hf⟩)
  have ain:Dj FN5 FG6:=fun k a b=>(af8 k b).elim (af7 k a) fun hm=>by
   have:=(gU.fx hN5 k a).2;have:=hm.1;omega
  have hN6: ∀k,FN5 k→F3 k∨made JE w6 k:=fun k ai=>.inl (hN5 k ai)
  have hG6: ∀k,FG6 k→F3 k∨made JE w6 k:=fun k ai=>(af8 k ai).imp (hG5 k) id
  have h6:jo w6 (fun k=>F3 k∨made JE w6 k) nb lb db { s with since:=0 } tr.1.L tr.1.m:=⟨FN5,FG6,mb5,av5,es5,ain,hN6,hG6,tp,hg6⟩
  repeat' first|(refine iO (zy (e:=(tr.2:Int)) (by omega)) (by kernel_rfl) ir.s.has fun w7 X7 m9=>?_)
  have jF:=ir.since m9
  refine jF.fin fun wa aR=>⟨_,rfl,jF.gK aR fun _ h=>h,?_⟩
  rw [←hr]
  exact(h6.mv (m9.fg ir.ba)).mv (aR.fC jF.ba)
 ·rename_i hz
  have xp:kp.2.2≠0:=by omega
  rw [if_neg xp] at hr
  refine il.fin fun wa aR=>⟨F3,rfl,il.gK aR fun _ h=>h,?_⟩
  rw [←hr]
  exact h3.mv (aR.fC il.ba)
abbrev Ky:List Value:=[I 0,I 0,I 0,I 0,I 0,I 0,I 0,I 0,I 0,I 0,B false,I 0,.float .f64 0,gd,gd,gd,gd,I 0,I 0,.float .f64 0,.float .f64 0,I 0,I 0,I 0,I 0,I 0,I 0,gd,gd]
section
variable {w0 w wa w' : World} {X X' : XS} {rb at_ mq cb xb : Nat} {vb : Value} {pl : Int} {bs tl : List Nat} {cs nJ : List Value} {ty : TypeId}
theorem WL {prev st:bZ} {t:gM} {l:List KV} (h:RB w X rb vb at_ pl bs cb xb Ky ty) (he:bs.drop at_=iv (eH prev st t l)++tl) (h1:An prev) (h2:An st) (h3:Gq t) (hn: ∀x∈l,Gr x) (hl:l.length≤2^30):
  Ct pg 89 #[ptr cb 0,ptr xb 0] w X (fun k=>k=rb∨k=xb) fun v wa w'=> ∃va,v= .tuple #[]∧
   bJ w' (fun k=>k=rb) rb [vb,I ((at_+(iv (eH prev st t l)).length:Nat):Int),I 0,I pl] 223∧bJ w' (fun k=>k=xb) xb ((eH prev st t l).l gd va gd gd gd gd) ty∧
   Own w' (made wa w') wa.heap.size 53 4 va (l.map KV.l):=by
 intro wi hk
 have hS:=h.start hk
 have e0:bs.drop at_=encI 11++(jL prev++(jL st++(pX t++(gA dd l++tl)))):=by rw [he];unfold iv eH;simp only [ax]
 have e1:=ky e0
 have e2:=ky e1
 have e3:=ky e2
 have e4:=ky e3
 have d0:=hS.iU e0
 apply tU;unfold qZ
 repeat' first|with_reducible apply aK|(with_reducible refine om (by kernel_rfl) (by kernel_rfl) ?_)
 refine hS.call (rH (xo:=0) hS.toRB e0 (by unfold Ab;omega) (by simp)) (by kernel_rfl) d0 fun w1 X1 iy=>?_
 have hs:=aj.eP iy.t.s.has
 have Ce:=wR (u:=I 11) iy.x (by simp)
 repeat' first|(with_reducible refine m7 ?_ ?_);omega|(with_reducible refine qU ?_ ?_);omega|with_reducible (first|apply aD|apply ak|apply aK)|(with_reducible apply aM);exact qF;(· kernel_rfl);rfl;intro _ _ _|(with_reducible apply gx);exact qF;(· kernel_rfl);rfl;exact qN;intro _ _ _|(with_reducible apply aZ);exact qF;exact qM;(· kernel_rfl);rfl|with_reducible apply dY
 rename_i o7 UR _
 subst UR
 clear Ce hs
 have d1:=iy.iU e1
 refine iy.call (DH (xo:=7) iy.toRB e1 h1 (jk rfl)) (by kernel_rfl) d1 fun w2 X2 bu=>?_
 have d2:=bu.iU e2
 repeat' first|with_reducible apply aK|(with_reducible refine om (by kernel_rfl) (by kernel_rfl) ?_)
 refine bu.call (DH (xo:=4) bu.toRB e2 h2 (jk rfl)) (by kernel_rfl) d2 fun w3 X3 bP=>?_
 have d3:=bP.iU e3
 repeat' first|with_reducible apply aK|(with_reducible refine om (by kernel_rfl) (by kernel_rfl) ?_)
 refine bP.call (aaF (xo:=1) bP.toRB e3 h3 (jk rfl)) (by kernel_rfl) d3 fun w4 X4 eG=>?_
 have d4:=eG.iU e4
 repeat' first|with_reducible apply aK|(with_reducible apply jx)|(with_reducible refine om (by kernel_rfl) (by kernel_rfl) ?_)
 refine xw (OC (xo:=14) eG.toRB e4 hn hl rfl) (by kernel_rfl) eG.t.s.has (fun k e=>e.elim (fun e=>e▸eG.r.box.1) fun e=>e▸eG.x.1) fun v wa w5 X5 ⟨va,hv,sM,A6,rn⟩ zk sZ _ c5=>?_
 subst hv
 have iP:=eG.Gm c5 ⟨c5.sub _ eG.r.box.1,sM.2⟩ d4 ⟨c5.sub _ eG.x.1,A6.2⟩
 skip
 have e:at_+(encI 11).length+(jL prev).length+(jL st).length+(pX t).length+(gA dd l).length=at_+(iv (eH prev st t l)).length:=by unfold iv eH;simp only [ae];omega
 rw [e] at iP
 have hz:=eG.t.s.kp.size
 refine iP.t.fin fun E6 aR=>⟨va,rfl,(iP.out aR).2.1,(iP.out aR).2.2,?_⟩
 exact(((rn.up sZ (ah hz zk))).kp aR).tight
theorem WM {st:bZ} {l:List KV} (h:RB w X rb vb at_ pl bs cb xb Ky ty) (he:bs.drop at_=gG (fB st l)++tl) (h2:An st) (hn: ∀x∈l,Gr x) (hl:l.length≤2^30):
  Ct pg 89 #[ptr cb 0,ptr xb 0] w X (fun k=>k=rb∨k=xb) fun v wa w'=> ∃va,v= .tuple #[]∧
   bJ w' (fun k=>k=rb) rb [vb,I ((at_+(gG (fB st l)).length:Nat):Int),I 0,I pl] 223∧bJ w' (fun k=>k=xb) xb ((fB st l).l gd gd gd va gd gd) ty∧
   Own w' (made wa w') wa.heap.size 74 4 va (l.map KV.l):=by
 intro wi hk
 have hS:=h.start hk
 have e0:bs.drop at_=encI 12++(jL st++(gA dd l++tl)):=by rw [he];unfold gG fB;simp only [ax]
 have e1:=ky e0
 have e2:=ky e1
 have d0:=hS.iU e0
 apply tU;unfold qZ
 repeat' first|with_reducible apply aK|(with_reducible refine om (by kernel_rfl) (by kernel_rfl) ?_)
 refine hS.call (rH (xo:=0) hS.toRB e0 (by unfold Ab;omega) (by simp)) (by kernel_rfl) d0 fun w1 X1 iy=>?_
 have hs:=aj.eP iy.t.s.has
 have Ce:=wR (u:=I 12) iy.x (by simp)
 repeat' first|(with_reducible refine m7 ?_ ?_);omega|(with_reducible refine qU ?_ ?_);omega|with_reducible (first|apply aD|apply ak|apply aK)|(with_reducible apply aM);exact qF;(· kernel_rfl);rfl;intro _ _ _|(with_reducible apply gx);exact qF;(· kernel_rfl);rfl;exact qN;intro _ _ _|(with_reducible apply aZ);exact qF;exact qM;(· kernel_rfl);rfl|with_reducible apply dY
 rename_i o7 UR _
 subst UR
 clear Ce hs
 have d1:=iy.iU e1
 refine iy.call (DH (xo:=4) iy.toRB e1 h2 (jk rfl)) (by kernel_rfl) d1 fun w2 X2 bu=>?_
 have d2:=bu.iU e2
 repeat' first|with_reducible apply aK|(with_reducible apply jx)|(with_reducible refine om (by kernel_rfl) (by kernel_rfl) ?_)
 refine xw (P6 (xo:=16) bu.toRB e2 hn hl rfl) (by kernel_rfl) bu.t.s.has (fun k e=>e.elim (fun e=>e▸bu.r.box.1) fun e=>e▸bu.x.1) fun v wa w5 X5 ⟨va,hv,sM,A6,rn⟩ zk sZ _ c5=>?_
 subst hv
 have iP:=bu.Gm c5 ⟨c5.sub _ bu.r.box.1,sM.2⟩ d2 ⟨c5.sub _ bu.x.1,A6.2⟩
 skip
 have e:at_+(encI 12).length+(jL st).length+(gA dd l).length=at_+(gG (fB st l)).length:=by unfold gG fB;simp only [ae];omega
 rw [e] at iP
 have hz:=bu.t.s.kp.size
 refine iP.t.fin fun E6 aR=>⟨va,rfl,(iP.out aR).2.1,(iP.out aR).2.2,?_⟩
 exact(((rn.up sZ (ah hz zk))).kp aR).tight
end
end Go.Proofs.YtpdkoaklobnegaaGreat
namespace Go.Proofs.YtpdkoaklobnegaaGreat
open Go.Proofs.Tryz renaming prog → pg
open Go.fR
theorem WN:Idle pg 87:=by
 refine⟨by kernel_rfl,fun fX w=>?_⟩
 refine callsD_of_wpS Tryz.func87 rfl fun c₀ cs hu=>?_
 rw [Tryz.ntmps87]
 have eu:12≤(fX++ew (12-fX.size) undef).size:=by simp;omega
 generalize fX++ew (12-fX.size) undef=tm at eu
 have h2:2<tm.size:=by omega
 have h5:5<tm.size:=by omega
 have h7:7<tm.size:=by omega
 apply wpS_seq
 apply wpS_region
 simp [wpOpsS,go_sem,recoverD,hu,rA]
 refine wpS_of_wp (wp_block ?_)
 apply wp_seq
 apply wp_region
 simp [wpOps,go_sem,Exit.then,h2,h5,h7]
 refine .inl (wp_cond_true ?_ ?_)
 ·simp [Act.eval,h2,h5,h7]
 apply wp_region
 simp [wpOps,go_sem,Exit.then,Exit.inBlock,h2,h5,h7]
 refine .inl ?_
 cases c₀
 simp_all [bodyPostS,results,Tryz.results87]
set_option maxRecDepth 100000
set_option maxHeartbeats 1000000
set_option linter.unusedVariables false
set_option linter.unusedSimpArgs false
attribute [local irreducible] un jn bz aQ aX gL eo dx cr nu fF mO BK AB jc iS aa ay aF eW eV eU eC eF gE ao fin aN aH aI vS BL jB lq wK D9 Ea Eb Ec BM jC lr wL Ed Ee Ef Eg
theorem JL {w:World} {X:XS} {a b:Value} {bs:List Nat} (ha:Sl w X 1 a (bs.map U1)) (hb:Sl w X 1 b (bs.map U1)) (dr:bs≠[]):Ct pg 92 #[a,b] w X nX fun v _ _=>v=B true:=by
 intro w0 hk
 replace ha:=ha.mv hk.dA
 replace hb:=hb.mv hk.dA
 have aio:bs.map U1≠[]:=fun e=>dr (by simpa using e)
 have key: ∀{w X a},Sl w X 1 a (bs.map U1)→ ∃g o cap,a= .slice (some ⟨g,o,none⟩) bs.length cap∧Cells w X g o (bs.map fun x:Nat=>Value.int .u8 x):=fun h=>by
  obtain⟨_,_,base,cap,rfl,hc,_⟩:=h
  obtain⟨g,o,rfl,kj⟩:=hc aio
  rw [Uo] at kj
  exact⟨g,o,cap,by rw [aS],kj⟩
 obtain⟨g1,o1,c1,rfl,Es⟩:=key ha
 obtain⟨g2,o2,c2,rfl,lS⟩:=key hb
 apply PM;unfold Ey
 have hs:=aj.init w0
 refine Kr (e:=5) rfl Es (by kernel_rfl) (by kernel_rfl) (by kernel_rfl) hs.has fun w1 X1 au=>?_
 replace hs:=hs.trans au
 refine Kr (e:=5) rfl (lS.mv au.mv) (by kernel_rfl) (by kernel_rfl) (by kernel_rfl) hs.has fun w2 X2 b6=>?_
 replace hs:=hs.trans b6
 repeat' first|(with_reducible apply zJ<;>intro _)
 ·exact aq hs fun wa aR=>rfl
 ·exact absurd rfl (by assumption)
end Go.Proofs.YtpdkoaklobnegaaGreat
namespace Go.Proofs.YtpdkoaklobnegaaGreat
open Go.Proofs.Tryz renaming prog → pg
open Go.fR
set_option maxRecDepth 100000
set_option maxHeartbeats 1000000
set_option linter.unusedVariables false
set_option linter.unusedSimpArgs false
attribute [local irreducible] un jn bz aQ aX gL eo dx cr nu fF mO BK AB jc iS aa ay aF eW eV eU eC eF gE ao fin aN aH aI vS BL jB lq wK D9 Ea Eb Ec BM jC lr wL Ed Ee Ef Eg
theorem GA:Tryz.f45.results= #[.cell 2 117,.cell 3 29]:=by kernel_rfl
theorem JM {tmps:Array Value} {w:World} {X:XS} {xb eb:Nat} {cs:List Value} {e:Int} (h1:tmps[2]? =some (ptr xb 0)) (h2:tmps[3]? =some (ptr eb 0)) (hx:bJ w X xb cs 117) (hl:cs.length=29) (he:bJ w X eb [I e] 29):
  (results Tryz.f45 tmps).run pg w= .ok (.tuple #[.agg cs.toArray,I e]) w:=by
 have l1:(loadVar 117 ⟨xb,0,none⟩).run pg w= .ok (.agg cs.toArray) w:=by
  have hq:(match pg.underlying 117 with|some (.struct _)=>true|_=>false)=true:=by kernel_rfl
  split at hq
  ·rename_i fs hu
   refine run_loadVar_row w xb _ _ cs.toArray (0,0) _ hx.2 hu rfl ?_
   rw [List.size_toArray,hl];kernel_rfl
  ·cases hq
 have l2:(loadVar 29 ⟨eb,0,none⟩).run pg w= .ok (I e) w:=by
  have hc:w.cell? ⟨eb,0,none⟩=some (I e):=by unfold World.cell?;rw [he.2];rfl
  have hag:(isAgg 29).run pg w= .ok false w:=run_isAgg_plain (d:=.int .i64) (by kernel_rfl) rfl w
  simp [loadVar,hag,run_load,hc]
 unfold results
 rw [GA]
 simp [h1,h2,asAddr,l1,l2]
theorem Hu {R:Ending→World→Prop} {w:World} {X:XS} {xb eb:Nat} {cs:List Value} {e:Int} (hx:bJ w X xb cs 117) (hl:cs.length=29) (he:bJ w X eb [I e] 29) (hR:R (.returned (.tuple #[.agg cs.toArray,I e])) w):
  Er pg Tryz.f45 R [ptr xb 0,ptr eb 0,.func (.func 87) #[] #[ptr xb 0,ptr eb 0]] .returning w:=by
 refine⟨[ptr xb 0,ptr eb 0],87,#[ptr xb 0,ptr eb 0],rfl,by kernel_rfl,?_⟩
 refine(WN.2 _ w).mono ?_
 rintro e' u' w' ⟨⟨x,rfl⟩,rfl,rfl⟩
 refine⟨x,_,rfl,rfl,fun tmps ht=>JM (ht 0 2 ?_) (ht 1 3 ?_) hx hl he,hR⟩
 ·unfold qY;rw [GA];rfl
 ·unfold qY;rw [GA];rfl
theorem US {P:Program} {R:Ending→World→Prop} {X:XS} {w:World} {m:Bool} {t:TypeId} {N:Value→World→XS→Prop} (hX: ∀k,X k→k<w.heap.size) (hz:(P.info? t).bind (·.zero)=some (I 0))
  (n: ∀b w' X',w.heap.size≤b→aj X w X' w'→bJ w' X' b [I 0] t→N (ptr b 0) w' X'):eV P R X w m (g7 t true (.tuple #[])) N:=by
 unfold eV eW
 intro wa hk
 unfold kh
 have hzv: ∀w,(zeroValue t).run P w= .ok (I 0) w:=by
  intro w
  cases hi:P.info? t with
  |none=>simp [hi] at hz
  |some inf=>
   have zE:inf.zero=some (I 0):=by simpa [hi] using hz
   simp [zeroValue,typeInfo,hi,zE]
 have hr:(g7 t true (.tuple #[])).run P wa= .ok (ptr wa.heap.size 0) (wa.alloc (.cells #[I 0] t)):=by simp [g7,hzv,newVar,newRow,Value.cells]
 simp only [vS,Sem.run_bind,hr,Result.andThen_ok,Sem.run_pure]
 have hx:Ext wa (wa.alloc (.cells #[I 0] t)):=Ext.alloc _ _
 exact⟨Step.fE hx,n _ _ _ hk.size (aj.fE hX hk hx) ⟨.inr ⟨bp _,by simp⟩,by simpa using heap_alloc_new wa _⟩⟩
theorem Qj {w:World} {X:XS} {v0:Value} {prev st:bZ} {t:gM} {l:List KV} (h:Sl w X 1 v0 ((iv (eH prev st t l)).map U1)) (vj:iJ prev st t l=true) (h1:An prev) (h2:An st) (h3:Gq t) (hn: ∀x∈l,Gr x)
  (Hv:l.length≤2^16) (nC: ∀x∈l,x.key.size≤2^16) (hlen:(iv (eH prev st t l)).length≤262144) (dh: ∀b∈iv (eH prev st t l),b<256):
  Ct pg 45 #[v0] w X nX fun v wa w'=> ∃va,v= .tuple #[(eH prev st t l).v gd va gd gd gd gd,I 0]∧Own w' (made wa w') wa.heap.size 53 4 va (l.map KV.l):=by
 intro w0 hk
 replace h:=h.mv hk.dA
 have JN:Ft w0 nX w0 (aW w0) nX:=Ft.init fun _ h=>h.elim
 refine ET ?_
 unfold ze
 refine Eo (l:=Ky) JN.s.has (by kernel_rfl) fun xb w1 X1 hxb au GB=>?_
 have cO:=JN.since au
 refine US cO.s.has (by kernel_rfl) fun eb w2 X2 heb b6 ya=>?_
 have bM:=cO.since b6
 have hrx:=GB.since b6
 have hs:=au.trans b6
 have mr:=h.mv hs.mv
 have dr:iv (eH prev st t l)≠[]:=by
  intro e
  have:=Gk (eH prev st t l).kind
  have h9:=congrArg aB e
  unfold iv at h9
  simp only [ae,cA] at h9
  omega
 generalize pR:iv (eH prev st t l)=bs at*
 repeat' first|(with_reducible refine lN ?_ ?_);omega|with_reducible apply ak|(with_reducible apply bS);exact qO;(· kernel_rfl)|(with_reducible apply jx)
 refine dk (Ur mr (by omega) dh) (by kernel_rfl) bM.s.has ?_
 rintro _ qw w3 X3 ⟨rb,vb,rfl,sK⟩ rr oG cw
 have cP:=bM.since cw
 repeat' first|(with_reducible apply gg);(· kernel_rfl)
 refine lQ cP.s.has fun cb w4 X4 hcb fw tn=>?_
 have ed:=(cP.since fw).Iz
 have ND:=bM.s.kp.size
 have Ot:=cO.s.kp.size
 have hz3:=cw.kp.size
 have ql:qv w3 X3 rb vb 0 0 bs:=sK.mv (Mv.sub oG)
 have Ap:=ql.mv fw.mv
 have GC:=(hrx.since cw).since fw
 have UT:=(ya.since cw).since fw
 have GY:=sK.box.1
 have Tn:=b6.has xb (b6.sub xb GB.1)
 have aip:=au.has xb GB.1
 have sL:=b6.has eb ya.1
 have D6:=fw.has cb tn.1
 have zF:RB w4 X4 rb vb 0 0 bs cb xb Ky 117:=⟨Ap,GC,tn.cells,by have:=GY.2;omega,by omega,by have:=GY.1;omega,fun hb=>by have:=(sK.ow.ba hb).1.1;omega⟩
 refine ed.call (WL (tl:=[]) zF (by rw [pR];simp) h1 h2 h3 hn (by omega)) (by kernel_rfl) (fun k e=>e.elim (fun e=>by subst e;exact⟨Ap.box.1,by have:=GY.1;omega⟩) fun e=>by subst e;exact⟨GC.1,by omega⟩) fun v E3 w5 X5 hq5 zk sZ gU c5=>?_
 obtain⟨va,rfl,sM,A6,rn⟩:=hq5
 rw [pR] at sM
 have UU:bJ w5 X5 xb _ _:=⟨c5.sub _ GC.1,A6.2⟩
 have acE:=UT.ej c5 fun e=>e.elim (fun e=>by have:=GY.1;omega) fun e=>by omega
 have acF:=zF.Gm c5 (mq:=0+bs.length) ⟨c5.sub _ Ap.box.1,sM.2⟩ (by omega) UU
 have h0:Sl w0 (out nX w0) 1 v0 (bs.map U1):=h.mono fun k ai=>⟨ai,fun h=>h.elim⟩
 clear hs mr au b6 cw fw
 have hs:=aj.eP gU.s.has
 skip
 refine dt (Uq acF.r (by omega)) (by kernel_rfl) gU.s.has fun w6 X6 tp=>?_
 have ir:=gU.since tp
 have UW:=UU.since tp
 have acG:=acE.since tp
 have Fb:Own w6 X6 w0.heap.size 53 4 va (l.map KV.l):=(rn.up sZ (by have:=ed.s.kp.size;omega)).since tp
 obtain⟨ab,an,ac,rfl⟩:=Fb.sl.form
 repeat' first|(with_reducible refine fL ?_ ?_);omega|with_reducible apply ak|(with_reducible apply fP);exact qF;exact qM;(· kernel_rfl);rfl|(with_reducible apply fp);rfl
 have acH:Ct pg 91 #[(eH prev st t l).v gd (.slice ab an ac) gd gd gd gd] w6 X6 nX fun v wa w'=> ∃vb,v= .tuple #[vb,I 0]∧Own w' (made wa w') wa.heap.size 5 1 vb (bs.map U1):=by
  refine(zj (r:=eH prev st t l) ⟨Sl.nil _ _ _,Fb.sl,Sl.nil _ _ _,Sl.nil _ _ _,iw.nil _ _ _,iw.nil _ _ _⟩ ?_ rfl (fun _=>⟨Hv,nC,by rw [pR];exact hlen⟩)).mono fun v wb w' _ hq=>?_
  ·exact⟨by simp [eH],by simp [eH];omega,by simp [eH],fun x hx=>by have:=nC x hx;omega,⟨by simp [eH,State.zero,Aa],by simp [eH,State.zero,z8],by simp [eH,State.zero,Gf],by simp [eH,State.zero,Gg]⟩⟩
  ·rw [MZ vj,if_neg (by simp),pR] at hq
   exact hq
 refine dk acH (by kernel_rfl) ir.s.has ?_
 rintro _ wa7 w7 X7 ⟨ve,rfl,hoe⟩ acI Qk m9
 have jF:=ir.since m9
 have hx7:=UW.since m9
 have acJ:=acG.since m9
 have UR:=Fb.since m9
 have ove:=hoe.sl.one
 repeat' first|(with_reducible refine fL ?_ ?_);omega|with_reducible apply dG|(with_reducible apply fp);rfl
 refine fV (Q:=fun K=> ∀w X,aj X7 w7 X w→K (B true) w X) ?_ fun K hK=>?_
 ·intro w8 X8 qu
  have ka:=jF.since qu
  have hx8:=hx7.since qu
  have acK:=acJ.since qu
  have yf:=UR.since qu
  clear hs
  have hs:=aj.eP ka.s.has
  repeat' first|with_reducible (first|apply ak|apply cD|apply bt|apply eY)|(with_reducible apply fP);exact qF;exact qM;(· kernel_rfl);rfl
  refine Be (o:=0) hx8 rfl (by kernel_rfl) (jk rfl) rfl ?_ ka.s.has fun w9 X9 c9 hr9=>?_
  ·rfl
  have mu:=ka.ej (F':=fun k=>yD w0 X4 k∨made E3 w5 k) c9 (fun k ai=>by subst ai;exact .inl ⟨GC.1,by omega⟩) fun k ai=>.inl ai
  have UX:=acK.ej c9 (fun e=>by have e:eb=xb:=e;omega)
  have UY:=yf.ej c9 fun g hg e=>by
   have e:g=xb:=e
   subst e
   exact Own.dS yf hx8 (by kernel_rfl) hg
  refine lB (o:=0) UX rfl (by kernel_rfl) (by simp) rfl mu.s.has fun vW vX Fa acL=>?_
  have ik:=mu.ej (F':=fun k=>yD w0 X4 k∨made E3 w5 k) Fa (fun k ai=>by subst ai;exact .inl ⟨UT.1,by omega⟩) fun k ai=>.inl ai
  have acM:=hr9.ej Fa (fun e=>by have e:xb=eb:=e;omega)
  have acN:=UY.ej Fa fun g hg e=>by
   have e:g=eb:=e
   subst e
   exact Own.dS UY UX (by kernel_rfl) hg
  unfold fR.fin
  intro wa aR
  refine Hu (X:=vX) (cs:=(eH prev st t l).l gd (.slice ab an ac) gd gd gd gd) (acM.kp aR) rfl (acL.kp aR) ?_
  exact⟨_,rfl,⟨aR.os.trans ik.s.kp.os,aR.tape.trans ik.s.kp.tape,aR.output.trans ik.s.kp.output,ah ik.s.kp.size aR.size,fun k hl hn=>(aR.block k (ik.s.sub k ⟨hl,hn⟩)).trans (ik.s.kp.block k ⟨hl,hn⟩)⟩,.slice ab an ac,rfl,(acN.kp aR).tight⟩
 ·repeat' first|with_reducible apply oz
  refine dt (JL (hoe.sl.mono Qk) (h0.mv jF.s.mv) dr) (by kernel_rfl) jF.s.has fun w8 X8 qu=>?_
  exact hK _ _ qu
theorem Ql {w:World} {X:XS} {v0:Value} {st:bZ} {l:List KV} (h:Sl w X 1 v0 ((gG (fB st l)).map U1)) (hm:st.may=true) (hp:sQ l=true) (h2:An st) (hn: ∀x∈l,Gr x)
  (Hv:l.length≤2^16) (nC: ∀x∈l,x.key.size≤2^16) (hlen:(gG (fB st l)).length≤262144) (dh: ∀b∈gG (fB st l),b<256):
  Ct pg 45 #[v0] w X nX fun v wa w'=> ∃va,v= .tuple #[(fB st l).v gd gd gd va gd gd,I 0]∧Own w' (made wa w') wa.heap.size 74 4 va (l.map KV.l):=by
 intro w0 hk
 replace h:=h.mv hk.dA
 have JN:Ft w0 nX w0 (aW w0) nX:=Ft.init fun _ h=>h.elim
 refine ET ?_
 unfold ze
 refine Eo (l:=Ky) JN.s.has (by kernel_rfl) fun xb w1 X1 hxb au GB=>?_
 have cO:=JN.since au
 refine US cO.s.has (by kernel_rfl) fun eb w2 X2 heb b6 ya=>?_
 have bM:=cO.since b6
 have hrx:=GB.since b6
 have hs:=au.trans b6
 have mr:=h.mv hs.mv
 have dr:gG (fB st l)≠[]:=by
  intro e
  have:=Gk (fB st l).kind
  have h9:=congrArg aB e
  unfold gG at h9
  simp only [ae,cA] at h9
  omega
 generalize pR:gG (fB st l)=bs at*
 repeat' first|(with_reducible refine lN ?_ ?_);omega|with_reducible apply ak|(with_reducible apply bS);exact qO;(· kernel_rfl)|(with_reducible apply jx)
 refine dk (Ur mr (by omega) dh) (by kernel_rfl) bM.s.has ?_
 rintro _ qw w3 X3 ⟨rb,vb,rfl,sK⟩ rr oG cw
 have cP:=bM.since cw
 repeat' first|(with_reducible apply gg);(· kernel_rfl)
 refine lQ cP.s.has fun cb w4 X4 hcb fw tn=>?_
 have ed:=(cP.since fw).Iz
 have ND:=bM.s.kp.size
 have Ot:=cO.s.kp.size
 have hz3:=cw.kp.size
 have ql:qv w3 X3 rb vb 0 0 bs:=sK.mv (Mv.sub oG)
 have Ap:=ql.mv fw.mv
 have GC:=(hrx.since cw).since fw
 have UT:=(ya.since cw).since fw
 have GY:=sK.box.1
 have Tn:=b6.has xb (b6.sub xb GB.1)
 have aip:=au.has xb GB.1
 have sL:=b6.has eb ya.1
 have D6:=fw.has cb tn.1
 have zF:RB w4 X4 rb vb 0 0 bs cb xb Ky 117:=⟨Ap,GC,tn.cells,by have:=GY.2;omega,by omega,by have:=GY.1;omega,fun hb=>by have:=(sK.ow.ba hb).1.1;omega⟩
 refine ed.call (WM (tl:=[]) zF (by rw [pR];simp) h2 hn (by omega)) (by kernel_rfl) (fun k e=>e.elim (fun e=>by subst e;exact⟨Ap.box.1,by have:=GY.1;omega⟩) fun e=>by subst e;exact⟨GC.1,by omega⟩) fun v E3 w5 X5 hq5 zk sZ gU c5=>?_
 obtain⟨va,rfl,sM,A6,rn⟩:=hq5
 rw [pR] at sM
 have UU:bJ w5 X5 xb _ _:=⟨c5.sub _ GC.1,A6.2⟩
 have acE:=UT.ej c5 fun e=>e.elim (fun e=>by have:=GY.1;omega) fun e=>by omega
 have acF:=zF.Gm c5 (mq:=0+bs.length) ⟨c5.sub _ Ap.box.1,sM.2⟩ (by omega) UU
 have h0:Sl w0 (out nX w0) 1 v0 (bs.map U1):=h.mono fun k ai=>⟨ai,fun h=>h.elim⟩
 clear hs mr au b6 cw fw
 have hs:=aj.eP gU.s.has
 skip
 refine dt (Uq acF.r (by omega)) (by kernel_rfl) gU.s.has fun w6 X6 tp=>?_
 have ir:=gU.since tp
 have UW:=UU.since tp
 have acG:=acE.since tp
 have Fb:Own w6 X6 w0.heap.size 74 4 va (l.map KV.l):=(rn.up sZ (by have:=ed.s.kp.size;omega)).since tp
 obtain⟨ab,an,ac,rfl⟩:=Fb.sl.form
 repeat' first|(with_reducible refine fL ?_ ?_);omega|with_reducible apply ak|(with_reducible apply fP);exact qF;exact qM;(· kernel_rfl);rfl|(with_reducible apply fp);rfl
 have acH:Ct pg 91 #[(fB st l).v gd gd gd (.slice ab an ac) gd gd] w6 X6 nX fun v wa w'=> ∃vb,v= .tuple #[vb,I 0]∧Own w' (made wa w') wa.heap.size 5 1 vb (bs.map U1):=by
  refine(E4 (r:=fB st l) ⟨Sl.nil _ _ _,Sl.nil _ _ _,Sl.nil _ _ _,Fb.sl,iw.nil _ _ _,iw.nil _ _ _⟩ ?_ rfl (fun _=>⟨Hv,nC,by rw [pR];exact hlen⟩)).mono fun v wb w' _ hq=>?_
  ·exact⟨by simp [fB],by simp [fB],by simp [fB],by simp [fB],⟨by simp [fB,State.zero,Aa],by simp [fB,State.zero,z8],by simp [fB,State.zero,Gf],by simp [fB,State.zero,Gg]⟩⟩
  ·rw [UQ hm hp,if_neg (by simp),pR] at hq
   exact hq
 refine dk acH (by kernel_rfl) ir.s.has ?_
 rintro _ wa7 w7 X7 ⟨ve,rfl,hoe⟩ acI Qk m9
 have jF:=ir.since m9
 have hx7:=UW.since m9
 have acJ:=acG.since m9
 have UR:=Fb.since m9
 have ove:=hoe.sl.one
 repeat' first|(with_reducible refine fL ?_ ?_);omega|with_reducible apply dG|(with_reducible apply fp);rfl
 refine fV (Q:=fun K=> ∀w X,aj X7 w7 X w→K (B true) w X) ?_ fun K hK=>?_
 ·intro w8 X8 qu
  have ka:=jF.since qu
  have hx8:=hx7.since qu
  have acK:=acJ.since qu
  have yf:=UR.since qu
  clear hs
  have hs:=aj.eP ka.s.has
  repeat' first|with_reducible (first|apply ak|apply cD|apply bt|apply eY)|(with_reducible apply fP);exact qF;exact qM;(· kernel_rfl);rfl
  refine Be (o:=0) hx8 rfl (by kernel_rfl) (jk rfl) rfl ?_ ka.s.has fun w9 X9 c9 hr9=>?_
  ·rfl
  have mu:=ka.ej (F':=fun k=>yD w0 X4 k∨made E3 w5 k) c9 (fun k ai=>by subst ai;exact .inl ⟨GC.1,by omega⟩) fun k ai=>.inl ai
  have UX:=acK.ej c9 (fun e=>by have e:eb=xb:=e;omega)
  have UY:=yf.ej c9 fun g hg e=>by
   have e:g=xb:=e
   subst e
   exact Own.dS yf hx8 (by kernel_rfl) hg
  refine lB (o:=0) UX rfl (by kernel_rfl) (by simp) rfl mu.s.has fun vW vX Fa acL=>?_
  have ik:=mu.ej (F':=fun k=>yD w0 X4 k∨made E3 w5 k) Fa (fun k ai=>by subst ai;exact .inl ⟨UT.1,by omega⟩) fun k ai=>.inl ai
  have acM:=hr9.ej Fa (fun e=>by have e:xb=eb:=e;omega)
  have acN:=UY.ej Fa fun g hg e=>by
   have e:g=eb:=e
   subst e
   exact Own.dS UY UX (by kernel_rfl) hg
  unfold fR.fin
  intro wa aR
  refine Hu (X:=vX) (cs:=(fB st l).l gd gd gd (.slice ab an ac) gd gd) (acM.kp aR) rfl (acL.kp aR) ?_
  exact⟨_,rfl,⟨aR.os.trans ik.s.kp.os,aR.tape.trans ik.s.kp.tape,aR.output.trans ik.s.kp.output,ah ik.s.kp.size aR.size,fun k hl hn=>(aR.block k (ik.s.sub k ⟨hl,hn⟩)).trans (ik.s.kp.block k ⟨hl,hn⟩)⟩,.slice ab an ac,rfl,(acN.kp aR).tight⟩
 ·repeat' first|with_reducible apply oz
  refine dt (JL (hoe.sl.mono Qk) (h0.mv jF.s.mv) dr) (by kernel_rfl) jF.s.has fun w8 X8 qu=>?_
  exact hK _ _ qu
section
variable {P : Program} {X : XS} {w : World} {N : Value → Prop} {t : TypeId}
theorem UZ {c k:Nat} {z:Int} (hz:z=k) (hk:k≤24) (hc:c<256) (h:N (.int .u32 ((c*2^k:Nat):Int))):aa P X w (binOp .shl t (.int .u32 (IntKind.u32.wrap (c:Int))) (.int .u64 z)) N:=
 Kf (by omega) (by
  have h1:min z.toNat IntKind.u32.bits=k:=by
   show min z.toNat 32=k
   omega
  have h2:c*2^k<4294967296:=by
   have h3:2^k≤2^24:=ug (by decide) hk
   have h4:c*2^k≤255*2^24:=Nat.mul_le_mul (by omega) h3
   omega
  have e:IntKind.u32.wrap (IntKind.u32.wrap (c:Int)*2^min z.toNat IntKind.u32.bits)=((c*2^k:Nat):Int):=by
   rw [h1,wrap32,wrap32,show(c:Int) % 4294967296=c by omega]
   have h5:(c:Int)*2^k=((c*2^k:Nat):Int):=by simp
   rw [h5];omega
  rw [e];exact h)
theorem Zf {a c k:Nat} (hk:k≤24) (ha:a<2^k) (hc:c<256) (h:N (.int .u32 ((a+c*2^k:Nat):Int))):aa P X w (binOp .or t (.int .u32 (a:Int)) (.int .u32 ((c*2^k:Nat):Int))) N:=
 Jp (by
  have h3:2^k≤2^24:=ug (by decide) hk
  have h4:c*2^k≤255*2^24:=Nat.mul_le_mul (by omega) h3
  have e:IntKind.u32.wrap (aP IntKind.u32.bits (a:Int)|||aP IntKind.u32.bits ((c*2^k:Nat):Int)).toNat=((a+c*2^k:Nat):Int):=by
   rw [wrap32]
   have h1:(aP 32 (a:Int))=BitVec.ofNat 32 a:=by rw [jy]
   have h2:(aP 32 ((c*2^k:Nat):Int))=BitVec.ofNat 32 (c*2^k):=by rw [jy]
   show((aP 32 (a:Int)|||aP 32 ((c*2^k:Nat):Int)).toNat:Int) % 4294967296=_
   rw [h1,h2,BitVec.toNat_or,fU,fU,fe (by omega:a<2^32),fe (by omega:c*2^k<2^32),aaC ha]
   omega
  rw [e];exact h)
end
theorem XK: ∃g:List Nat→Nat,∀l,g l=l[0]?.getD 0+l[1]?.getD 0*2^8+l[2]?.getD 0*2^16+l[3]?.getD 0*2^24:=⟨_,fun _=>rfl⟩
noncomputable def iL:List Nat→Nat:=Classical.choose XK
theorem Fc (l:List Nat):iL l=l[0]?.getD 0+l[1]?.getD 0*2^8+l[2]?.getD 0*2^16+l[3]?.getD 0*2^24:=Classical.choose_spec XK l
theorem GD (n:Nat) (h:n<4294967296) (l:List Nat):iL (ru n++l)=n:=by
 rw [Fc]
 unfold ru
 simp
 omega
theorem DO {w:World} {X:XS} {vb:Value} {l:List Nat} (h:Sl w X 1 vb (l.map U1)) (h4:4≤l.length) (dh: ∀b∈l,b<256):Ct pg 202 #[vb] w X nX fun v wa w'=>v= .int .u32 (iL l):=by
 intro w0 hk
 replace h:=h.mv hk.dA
 have hlen:=h.gW
 obtain⟨b0,b1,b2,b3,r,rfl⟩: ∃b0 b1 b2 b3 r,l=b0::b1::b2::b3::r:=by
  match l,h4 with
  |b0::b1::b2::b3::r,_=>exact⟨_,_,_,_,_,rfl⟩
 have x0:(b0::b1::b2::b3::r)[0]? =some b0:=rfl
 have x1:(b0::b1::b2::b3::r)[1]? =some b1:=rfl
 have x2:(b0::b1::b2::b3::r)[2]? =some b2:=rfl
 have x3:(b0::b1::b2::b3::r)[3]? =some b3:=rfl
 have y0:=dh b0 (by simp)
 have y1:=dh b1 (by simp)
 have y2:=dh b2 (by simp)
 have y3:=dh b3 (by simp)
 apply TN;unfold IL
 have hs:=aj.init w0
 have w8:IntKind.u32.wrap (b0:Int)=b0:=by rw [wrap32];omega
 repeat' first|(with_reducible apply aZ);exact qF;exact qM;(· kernel_rfl);rfl|((with_reducible apply e7);exact qO;(try (case hz=>rfl));(case hr=>exact qR);(try (case hz=>omega));(case ht=>kernel_rfl);(case hs=>kernel_rfl);intro _ _ _)|(with_reducible apply pq);(· kernel_rfl);(· kernel_rfl)|(with_reducible refine UZ (k:=8) rfl (by omega) y1 ?_)
 rw [w8]
 refine Zf (k:=8) (by omega) (by omega) y1 ?_
 repeat' first|(with_reducible apply aZ);exact qF;exact qM;(· kernel_rfl);rfl|((with_reducible apply e7);exact qO;(try (case hz=>rfl));(case hr=>exact qR);(try (case hz=>omega));(case ht=>kernel_rfl);(case hs=>kernel_rfl);intro _ _ _)|(with_reducible apply pq);(· kernel_rfl);(· kernel_rfl)|(with_reducible refine UZ (k:=16) rfl (by omega) y2 ?_)
 refine Zf (k:=16) (by omega) (by omega) y2 ?_
 repeat' first|(with_reducible apply aZ);exact qF;exact qM;(· kernel_rfl);rfl|((with_reducible apply e7);exact qO;(try (case hz=>rfl));(case hr=>exact qR);(try (case hz=>omega));(case ht=>kernel_rfl);(case hs=>kernel_rfl);intro _ _ _)|(with_reducible apply pq);(· kernel_rfl);(· kernel_rfl)|(with_reducible refine UZ (k:=24) rfl (by omega) y3 ?_)
 refine Zf (k:=24) (by omega) (by omega) y3 ?_
 skip
 exact aq hs fun wa aR=>by rw [Fc];rfl
end Go.Proofs.YtpdkoaklobnegaaGreat
namespace Go.Proofs.YtpdkoaklobnegaaGreat
open Go.Proofs.Tryz renaming prog → pg
open Go.fR
noncomputable def kQ (b:List Nat):Option (List Nat):=
 if b.length<12∨262144<iL b∨iL (b.drop 4)≠Af (b.take 4)∨b.length-12<iL b then none
 else if iL (b.drop (8+iL b))≠Af ((b.drop 8).take (iL b))then none
 else some ((b.drop 8).take (iL b))
theorem OM {b p:List Nat} (h:kQ b=some p):p.length+12≤b.length:=by
 unfold kQ at h
 split at h
 ·cases h
 ·rename_i h1
  simp only [not_or,Nat.not_lt] at h1
  split at h
  ·cases h
  ·cases h
   rw [List.length_take,b8]
   omega
theorem WO {b:List Nat} (h: ¬(b.length<12∨262144<iL b∨iL (b.drop 4)≠Af (b.take 4)∨b.length-12<iL b)) (h2:iL (b.drop (8+iL b))=Af ((b.drop 8).take (iL b))):kQ b=some ((b.drop 8).take (iL b)):=by
 unfold kQ
 rw [if_neg h,if_neg fun hn=>hn h2]
theorem uh {b:List Nat} (h:b.length<12∨262144<iL b∨iL (b.drop 4)≠Af (b.take 4)∨b.length-12<iL b):kQ b=none:=by
 unfold kQ
 rw [if_pos h]
theorem Zg {b:List Nat} (h2:iL (b.drop (8+iL b))≠Af ((b.drop 8).take (iL b))):kQ b=none:=by
 unfold kQ
 rw [if_pos h2]
 split<;>rfl
noncomputable def jb (b:List Nat):List (List Nat)×Nat:=
 match h:kQ b with
 |none=>([],0)
 |some p=>let r:=jb (b.drop (p.length+12));(p::r.1,p.length+12+r.2)
termination_by b.length
decreasing_by
 have:=OM h
 rw [b8];omega
theorem aaQ {p l:List Nat} (hp:p.length≤262144):kQ (du p++l)=some p:=by
 have e1:iL (du p++l)=p.length:=by
  unfold du
  simp only [ax]
  exact GD _ (by omega) _
 have e2:(du p++l).drop 4=ru (Af (ru p.length))++(p++(ru (Af p)++l)):=by
  unfold du
  simp only [ax]
  exact kL (Kw _)
 have e3:(du p++l).take 4=ru p.length:=by
  unfold du
  simp only [ax]
  exact List.take_left' (Kw _)
 have e4:(du p++l).drop 8=p++(ru (Af p)++l):=by
  rw [show 8=4+4 from rfl,←List.drop_drop,e2]
  exact kL (Kw _)
 have hlen:(du p++l).length=p.length+12+l.length:=by rw [ae,nA]
 unfold kQ
 rw [e1,e2,e3,hlen,GD _ (aaJ _),if_neg (by simp;omega),←List.drop_drop,e4,List.drop_left,GD _ (aaJ _),List.take_left,if_neg (by simp)]
theorem Zh {p l:List Nat} (hp:p.length≤262144):jb (du p++l)=(p::(jb l).1,p.length+12+(jb l).2):=by
 have h:=aaQ (l:=l) hp
 have hd:(du p++l).drop (p.length+12)=l:=kL (nA p)
 rw [jb]
 split
 ·rename_i h2;rw [h] at h2;cases h2
 ·rename_i q h2
  rw [h] at h2
  cases h2
  rw [hd]
theorem JO: ∀(ps:List (List Nat)) (l:List Nat),(∀p∈ps,p.length≤262144)→jb ((ps.map du).flatten++l)=(ps++(jb l).1,(ps.map du).flatten.length+(jb l).2)
 |[],l,_=>by simp
 |p::ps,l,h=>by
  rw [bh,dg,ax,Zh (h p (by simp)),JO ps l fun q hq=>h q (bm _ hq),ae,nA]
  simp only [List.cons_append,Prod.mk.injEq,true_and]
  omega
theorem Bm {l:List Nat} (h:kQ l=none):jb l=([],0):=by
 rw [jb]
 split
 ·rfl
 ·rename_i p h2;rw [h] at h2;cases h2
theorem WQ {l:List Nat} (h:l.length<12):jb l=([],0):=Bm (by unfold kQ;rw [if_pos (.inl h)])
end Go.Proofs.YtpdkoaklobnegaaGreat
namespace Go.Proofs.YtpdkoaklobnegaaGreat
open Go.Proofs.Tryz renaming prog → pg
open Go.fR
set_option maxRecDepth 100000
set_option maxHeartbeats 1000000
set_option linter.unusedVariables false
set_option linter.unusedSimpArgs false
attribute [local irreducible] un jn bz aQ aX gL eo dx cr nu fF mO BK AB jc iS aa ay aF eW eV eU eC eF gE ao fin aN aH aI vS BL jB lq wK D9 Ea Eb Ec BM jC lr wL Ed Ee Ef Eg
def L0 (dir:ByteArray) (sz:Nat):LM:=⟨dir,sz,[],0⟩
theorem WR {w:World} {X F:XS} {db sz:Nat} {dir:ByteArray} {m:DM} (h:Dk w F db m) (hF:FX F X w) (A5:m.fs=[]) (iI:m.dn=false) (h1:1≤dir.size) (h2:dir.size≤11) (au:64≤sz) (b6:sz≤262144)
  (hr:(LD.gB ⟨L0 dir sz,m⟩ 1).2=0):
  Ct pg 41 #[ptr db 0,.string dir,I sz] w X F fun v wa w'=> ∃lb F',v= .tuple #[ptr lb 0,I 0]∧(∀k,F' k→F k∨made wa w' k)∧Lg w' F' lb db (LD.gB ⟨L0 dir sz,m⟩ 1).1.L (LD.gB ⟨L0 dir sz,m⟩ 1).1.m:=by
 intro w0 hk
 replace h:=h.mv (hF.mv hk)
 have hT:=hF.ft hk
 have jl:FX F (aW w0) w0:=hF.kp hk
 apply LG;unfold Dw
 refine dk (OK (n:=1) h1 h2 (by omega) (by omega)) (by kernel_rfl) hT.s.has ?_
 rintro _ JI w1 X1 rfl u4 qj wE
 replace hT:=hT.since wE
 replace h:=h.mv (wE.fg fun k ai=>(jl k ai).1)
 repeat' first|(with_reducible refine dm ?_ ?_);omega|(with_reducible refine fL ?_ ?_);omega|(with_reducible refine lN ?_ ?_);omega|with_reducible (first|apply ak|apply dG|apply cD|apply bt)|(with_reducible apply fp);rfl
 refine dt (LY h (hT.fx fun _ h=>h)) (by kernel_rfl) hT.s.has fun w2 X2 oC=>?_
 replace h:=h.mv (oC.fg hT.ba)
 replace hT:=hT.since oC
 rw [iI]
 repeat' first|with_reducible apply ak|(with_reducible apply gg);(· kernel_rfl)
 refine lQ hT.s.has fun lb w3 X3 BE cw dK=>?_
 have h3:=h.mv (cw.fg hT.ba)
 have cP:=hT.since cw
 have Rg: ∀k,F k→k<w2.heap.size:=fun k ai=>hT.s.has k (hT.ba k ai)
 have il:Ft w0 F w3 X3 (fun k=>F k∨k=lb):=cP.more fun k ai=>ai.imp id fun e=>by
  subst e
  have:=hT.s.kp.size
  exact⟨dK.1,by omega⟩
 have g3:Lg w3 (fun k=>F k∨k=lb) lb db (L0 dir sz) m:=
  ⟨(· =lb),F,.slice none 0 0,[],fun k a b=>by have:=Rg k b;omega,fun _ h=>.inr h,fun _ h=>.inl h,
   ⟨rfl,⟨rfl,dK.2⟩,⟨by simp,.inl ⟨rfl,rfl⟩⟩,by simp,by simp,by simp,List.Pairwise.nil⟩,h3⟩
 refine dk (DK h3 (cP.fx fun _ h=>h) (by simp [A5]) (by simp [A5])) (by kernel_rfl) cP.s.has ?_
 rintro vl tY w4 X4 U3 sY ml fw
 rw [show(gu (m.fs.map (·.1))).map S1=([]:List ByteArray).map S1 from by rw [A5];simp [gu]] at U3
 have mr:=U3.sl
 repeat' first|(with_reducible apply bS);exact qO;(· kernel_rfl)
 refine fK (fun n a w X=>a=I 0∧Ft w0 F w X (fun k=>F k∨k=lb)∧Lg w (fun k=>F k∨k=lb) lb db (L0 dir sz) m) 0 ⟨rfl,il.since fw,g3.mv (fw.fg il.ba)⟩ ?_
 clear hT cP il g3 h3 h dK
 rintro n a w5 X5 ⟨rfl,gU,g5⟩
 obtain⟨FL,FD,sv,bl,qy,hL,hD,hl,hd⟩:=id g5
 have Ae:bl=[]:=by have:=hl.bR;cases bl with
  |nil=>rfl
  |cons x y=>simp [L0] at this
 subst Ae
 have Q5:=hl.box.mv (Mv.sub fun k ai=>gU.ba k (hL k ai))
 have hsv:=hl.so.sl
 repeat' first|(with_reducible refine m7 ?_ ?_);omega|with_reducible (first|apply aD|apply ak|apply aK)|(with_reducible apply kE<;>intro _)|(with_reducible apply aM);exact qF;(· kernel_rfl);rfl;intro _ _ _|(with_reducible apply aZ);exact qF;exact qM;(· kernel_rfl);rfl|(with_reducible apply bS);exact qO;(· kernel_rfl)|with_reducible apply dY|(exfalso;rename_i h;simp at h;done)
 refine gU.call (Gz (n:=1) g5 h2 (by omega) (by simp [L0]) (gU.fx fun _ h=>h)) (by kernel_rfl) (fun _ h=>h) fun v JE w6 X6 JK Gw Ao ir Hr=>?_
 obtain⟨rfl,F6,ON,h6⟩:=JK
 have sw:Ft w0 F w6 X6 F6:=ir.less ON
 rw [hr]
 repeat' first|(with_reducible refine fL ?_ ?_);omega|with_reducible apply ak
 exact sw.fin fun wa aR=>⟨lb,F6,rfl,sw.gK aR fun _ h=>h,h6.mv (aR.fC sw.ba)⟩
def iA (every:Int):SM:=⟨every,0,false,[],.zero,[]⟩
theorem XL {dir:ByteArray} {sz:Nat} {m:DM} (hr:(LD.gB ⟨L0 dir sz,m⟩ 1).2=0):(LD.gB ⟨L0 dir sz,m⟩ 1).1.L=⟨dir,sz,[⟨1,[],0⟩],0⟩:=by
 unfold LD.gB at*
 dsimp only at*
 rw [if_pos hr]
 rfl
theorem Cn {w:World} {X F:XS} {db sz:Nat} {every:Int} {m:DM} (h:Dk w F db m) (hF:FX F X w) (A5:m.fs=[]) (iI:m.dn=false) (au:64≤sz) (b6:sz≤262144) (Nq:0≤every) (Nr:every≤1000)
  (hr:(LD.gB ⟨L0 ⟨#[115,105,110,107]⟩ sz,m⟩ 1).2=0):
  Ct pg 12 #[ptr db 0,I sz,I every] w X F fun v wa w'=> ∃nb lb F',v= .tuple #[ptr nb 0,I 0]∧(∀k,F' k→F k∨made wa w' k)∧
   jo w' F' nb lb db (iA every) (LD.gB ⟨L0 ⟨#[115,105,110,107]⟩ sz,m⟩ 1).1.L (LD.gB ⟨L0 ⟨#[115,105,110,107]⟩ sz,m⟩ 1).1.m:=by
 intro w0 hk
 replace h:=h.mv (hF.mv hk)
 have hT:=hF.ft hk
 have jl:FX F (aW w0) w0:=hF.kp hk
 have hLL:=XL hr
 apply I6;unfold BT
 repeat' first|(with_reducible refine dm ?_ ?_);omega|(with_reducible refine lN ?_ ?_);omega|with_reducible (first|apply ak|apply dG|apply cD|apply bt)
 refine hT.call (WR h (hT.fx fun _ h=>h) A5 iI (by decide) (by decide) au b6 hr) (by kernel_rfl) (fun _ h=>h) fun v JI w1 X1 OO u4 qj cO Es=>?_
 obtain⟨lb,F1,rfl,U5,g1⟩:=OO
 replace cO:Ft w0 F w1 X1 F1:=cO.less U5
 repeat' first|(with_reducible refine fL ?_ ?_);omega|with_reducible apply ak|(with_reducible apply fp);rfl
 refine zL (kv:=Value.string) yg nX cO.s.has fun mb w2 X2 hmb oC sJ=>?_
 have bM:=cO.since oC
 have g2:=g1.mv (oC.fg cO.ba)
 repeat' first|(with_reducible apply gg);(· kernel_rfl)
 refine lQ bM.s.has fun nb w3 X3 qp cw dK=>?_
 have cP:=bM.since cw
 have g3:=g2.mv (cw.fg bM.ba)
 have Rg: ∀k,F1 k→k<w1.heap.size:=fun k ai=>cO.s.has k (cO.ba k ai)
 have C6:=sJ.mv np cw.mv (fun _ h=>h.elim) (A':=nX)
 have U6:j9 ⟨⟨#[115,105,110,107]⟩,sz,[⟨1,[],0⟩],0⟩:=⟨by simp,(show 1≤kA ⟨#[115,105,110,107]⟩from by decide),(show kA ⟨#[115,105,110,107]⟩≤11 from by decide),by simp,by simp;omega⟩
 have pz:LM.next ⟨⟨#[115,105,110,107]⟩,sz,[⟨1,[],0⟩],0⟩=1:=rfl
 have Ot:=cO.s.kp.size
 have ND:=oC.kp.size
 have hz3:=cw.kp.size
 have hmX:X3 mb∧mb<w2.heap.size:=⟨cw.sub mb sJ.x.1,sJ.x.2⟩
 have il:Ft w0 F w3 X3 (fun k=>F1 k∨k=nb∨k=mb):=cP.more fun k ai=>ai.imp id fun e=>by
  rcases e with e|e<;>subst e
  ·exact⟨dK.1,by omega⟩
  ·exact⟨hmX.1,by omega⟩
 rw [hLL] at g3
 have h3:jo w3 (fun k=>F1 k∨k=nb∨k=mb) nb lb db (iA every) ⟨⟨#[115,105,110,107]⟩,sz,[⟨1,[],0⟩],0⟩ (LD.gB ⟨L0 ⟨#[115,105,110,107]⟩ sz,m⟩ 1).1.m:=by
  refine⟨fun k=>k=nb∨k=mb,F1,mb,.slice none 0 0,[],fun k a b=>?_,fun _ h=>.inr h,fun _ h=>.inl h,⟨rfl,⟨.inl rfl,dK.2⟩,?_,⟨by simp,.inl ⟨rfl,rfl⟩⟩,by simp⟩,g3⟩
  ·have:=Rg k b
   rcases a with a|a<;>omega
  ·obtain⟨e,c',q1,q2⟩:=C6
   exact⟨e,c',⟨.inr rfl,q1.2⟩,q2⟩
 clear C6 sJ dK g3 g2 g1 cP bM cO hT h
 obtain⟨FL,FD,sv,bl,hW⟩:=(show Lg w3 (fun k=>F1 k∨k=nb∨k=mb) lb db _ _ from let⟨_,_,_,_,_,_,_,hG,_,g⟩:=h3;g.mono hG).lw
 refine dt (vU hW.l rfl (il.fx hW.hL)) (by kernel_rfl) il.s.has fun w4 X4 fw=>?_
 have ed:=il.since fw
 have h4:=h3.mv (fw.fg il.ba)
 replace hW:=hW.mv (fw.fg il.ba)
 rw [show(((⟨1,[],0⟩:cj).first:Nat):Int)=1 from rfl]
 repeat' first|(with_reducible refine m7 ?_ ?_);omega
 refine dt (vU hW.l rfl (ed.fx hW.hL)) (by kernel_rfl) ed.s.has fun w5 X5 o9=>?_
 have gU:=ed.since o9
 have h5:=h4.mv (o9.fg ed.ba)
 replace hW:=hW.mv (o9.fg ed.ba)
 rw [show(((⟨1,[],0⟩:cj).first:Nat):Int)=1 from rfl]
 refine iN (fun n a b w X=>a=I 1∧b=B true∧Ft w0 F w X (fun k=>F1 k∨k=nb∨k=mb)∧jo w (fun k=>F1 k∨k=nb∨k=mb) nb lb db (iA every) ⟨⟨#[115,105,110,107]⟩,sz,[⟨1,[],0⟩],0⟩ (LD.gB ⟨L0 ⟨#[115,105,110,107]⟩ sz,m⟩ 1).1.m∧
  LW w (fun k=>F1 k∨k=nb∨k=mb) lb db ⟨⟨#[115,105,110,107]⟩,sz,[⟨1,[],0⟩],0⟩ (LD.gB ⟨L0 ⟨#[115,105,110,107]⟩ sz,m⟩ 1).1.m FL FD sv bl) 0 ⟨rfl,rfl,gU,h5,hW⟩ ?_
 clear gU h5 hW ed h4 il h3
 rintro n a b w6 X6 ⟨rfl,rfl,ir,h6,hW⟩
 refine dt (yd hW.l U6 (ir.fx hW.hL)) (by kernel_rfl) ir.s.has fun w7 X7 m9=>?_
 have jF:=ir.since m9
 have h7:=h6.mv (m9.fg ir.ba)
 rw [pz]
 repeat' first|(with_reducible refine dm ?_ ?_);omega|with_reducible (first|apply ak|apply eY)
 refine jF.fin fun wa aR=>⟨nb,lb,_,rfl,jF.gK aR fun _ h=>h,?_⟩
 rw [hLL]
 exact h7.mv (aR.fC jF.ba)
def GF (n more most:Int):Int:=if more>most∨n>most then most+1 else n+more
theorem Sj {n more most:Int} (h1:0≤n∧n≤2^40) (h2:0≤more∧more≤2^42) (h3:0≤most∧most≤2^40):Pure pg 40 #[I n,I more,I most] (I (GF n more most)):=by
 intro w
 apply PJ;unfold Eu
 have hs:=aj.init w
 repeat' first|with_reducible (first|apply aD|apply ak|apply dG|apply fb|apply cD|apply dW|apply bE|apply bt)|(with_reducible apply kF<;>intro _)|(with_reducible apply cx);omega;omega|((with_reducible refine fI hs ?_);(first|(simp_all [GF];done)|(simp only [GF];rw [if_neg (by omega)])|(simp only [GF];rw [if_pos (by omega)])))
def ia (l:List KV):Nat:=(l.map fun x=>1+x.key.size+x.val.text.size).sum
def iG (n:Int):bZ:=if n>0 then⟨n,0,1⟩else .zero
theorem L6 {w:World} {X:XS} {prev n:Int} {key:ByteArray} :Ct pg 13 #[I prev,I n,.string key] w X nX fun v wa w'=> ∃a,v=MA 12 31 32 (iG prev) ⟨n,0,1⟩ ⟨1,1,n⟩ a∧
  Own w' (made wa w') wa.heap.size 53 4 a ([(⟨key,⟨1,4607182418800017408,⟨#[]⟩⟩⟩:KV)].map KV.l):=by
 intro w0 hk
 apply I7;unfold zO
 have hs:=aj.init w0
 repeat' first|with_reducible (first|apply aD|apply ak)|(with_reducible apply gP);rfl|(with_reducible apply ji);exact qN|(with_reducible apply CF);exact qN|with_reducible apply ff|(with_reducible apply kF<;>intro _)|(with_reducible apply gg);(· kernel_rfl)|(with_reducible apply fj);(case h=>exact qE)|(with_reducible apply eh);exact qC|(with_reducible apply Km);(case hX=>exact hs.has);(case he=>kernel_rfl);(case hk=>rfl);intro acc w X au ho;obtain⟨_,_,_,rfl⟩:=ho.sl.form;replace hs:=hs.trans au|with_reducible apply dY
 ·refine aq hs fun wa aR=>⟨_,?_,(ho.kp aR).tight⟩
  rw [iG,if_pos (by assumption)]
 ·refine aq hs fun wa aR=>⟨_,?_,(ho.kp aR).tight⟩
  rw [iG,if_neg (by assumption)]
end Go.Proofs.YtpdkoaklobnegaaGreat
namespace Go.Proofs.YtpdkoaklobnegaaGreat
open Go.Proofs.Tryz renaming prog → pg
open Go.fR
def DM.ks (m:DM):List ByteArray:=m.fs.map (·.1)
theorem DM.get_some {m:DM} {n:ByteArray} :(m.get n).isSome=true↔n∈m.ks:=by
 have h:=getM_none (k:=n) (l:=m.fs)
 show(getM n m.fs).isSome=true↔n∈m.fs.map (·.1)
 cases hg:getM n m.fs with
 |none=>simpa using h.1 hg
 |some x=>
  simp only [Option.isSome_some,true_iff]
  rcases Classical.em (n∈m.fs.map (·.1))with h'|h'
  ·exact h'
  ·have:=h.2 h';rw [hg] at this;cases this
theorem DM.oo (m:DM):m.ks.length=m.fs.length:=by simp [DM.ks]
theorem DP {α κ:Type} [DecidableEq κ] (f:α→Nat) (k:κ): ∀l:List (κ×α),pH f (ni k l)≤pH f l
 |[]=>bp _
 |x::l=>by
  have ih:=DP f k l
  unfold ni at*
  rw [iY]
  split
  ·simp only [pH,bh,eZ] at ih⊢;omega
  ·simp only [pH,bh,eZ] at ih⊢;omega
structure lF (m:DM):Prop where
 ar:m.ar=0
 dn:m.dn=false
theorem lF.tick {m:DM} (h:lF m):lF m.tick:=by
 unfold DM.tick
 rw [if_neg (by rw [h.ar];decide)]
 exact⟨by simp [h.ar],h.dn⟩
theorem lF.write {m:DM} (h:lF m) (f:DM→DM):m.write 0 f=(f m.tick,0):=by
 unfold DM.write
 rw [if_neg (by rw [h.dn];simp),if_neg (by simp),if_neg (by rw [h.tick.dn];simp)]
theorem lF.U7 {m:DM} (h:lF m) {e:Nat} (he:e≠0) (f:DM→DM):m.write e f=(m,e):=by
 unfold DM.write
 rw [if_neg (by rw [h.dn];simp),if_pos he]
theorem lF.create {m:DM} (h:lF m) {n:ByteArray} (hn:rq n=true) (hk: ¬n∈m.ks):
  (64≤m.fs.length∧m.create n=(m,3))∨(m.fs.length<64∧(m.create n).2=0∧lF (m.create n).1∧(m.create n).1.ks=m.ks++[n]∧(m.create n).1.sz=m.sz):=by
 have hg: ¬(m.get n).isSome=true:=fun e=>hk (DM.get_some.1 e)
 unfold DM.create
 rw [if_neg (by simp [hn]),if_neg hg]
 by_cases hl:64≤m.fs.length
 ·left
  rw [if_pos hl]
  exact⟨hl,h.U7 (by decide) _⟩
 ·right
  rw [if_neg hl,h.write]
  refine⟨by omega,rfl,⟨h.tick.ar,h.tick.dn⟩,?_,?_⟩
  ·show(fW n ([],0) m.tick.fs).map (·.1)=_
   rw [uc,m.nk,if_neg (show¬(getM n m.fs).isSome=true from hg)];rfl
  ·have:m.tick.get n=none:=by rw [m.mJ];simpa using hg
   rw [DM.Qc this,m.uG];simp
theorem lF.append {m:DM} (h:lF m) {n:ByteArray} {b:List Nat} (hk:n∈m.ks) (eu:m.sz+b.length≤4194304):
  (m.append n b).2=0∧lF (m.append n b).1∧(m.append n b).1.ks=m.ks∧(m.append n b).1.sz=m.sz+b.length:=by
 have hg:=DM.get_some.2 hk
 unfold DM.append
 rw [if_neg (by rw [h.dn];simp)]
 cases hx:m.get n with
 |none=>rw [hx] at hg;cases hg
 |some x=>
  obtain⟨bs,s⟩:=x
  dsimp only
  rw [if_neg (by omega)]
  refine⟨by rw [if_neg (by rw [h.tick.dn];simp)],⟨h.tick.ar,h.tick.dn⟩,?_,?_⟩
  ·show(fW n (bs++b,s) m.tick.fs).map (·.1)=_
   rw [uc,m.nk,if_pos (show(getM n m.fs).isSome=true from hg)];rfl
  ·have:m.tick.get n=some (bs,s):=by rw [m.mJ];exact hx
   have:=DM.Jx (bs:=bs++b) (s':=s) this
   rw [m.uG,ae] at this
   dsimp only
   omega
theorem lF.sync {m:DM} (h:lF m) {n:ByteArray} (hk:n∈m.ks):(m.sync n).2=0∧lF (m.sync n).1∧(m.sync n).1.ks=m.ks∧(m.sync n).1.sz=m.sz:=by
 have hg:=DM.get_some.2 hk
 unfold DM.sync
 rw [if_pos hg,h.write]
 have hgt:(m.tick.get n).isSome=true:=by rw [m.mJ];exact hg
 refine⟨rfl,?_,?_,by dsimp only;rw [DM.Cg,m.uG]⟩
 ·unfold DM.jS;dsimp only;split
  ·exact h.tick
  ·exact⟨h.tick.ar,h.tick.dn⟩
 ·unfold DM.jS;dsimp only;split
  ·unfold DM.ks;rw [m.nk]
  ·rename_i x hx
   show(fW n _ m.tick.fs).map (·.1)=_
   rw [uc,m.nk,if_pos (show(getM n m.fs).isSome=true from hg)];rfl
theorem lF.remove {m:DM} (h:lF m) (n:ByteArray):(m.remove n).2≠12∧lF (m.remove n).1∧(m.remove n).1.sz≤m.sz∧(m.remove n).1.ks.length≤m.ks.length∧
  ((m.remove n).2=0→(m.remove n).1.ks=m.ks.filter fun k=>decide (k≠n))∧((m.remove n).2≠0→(m.remove n).1=m):=by
 unfold DM.remove
 by_cases hg:(m.get n).isSome=true
 ·rw [if_pos hg,h.write]
  have yF:(m.tick.del n).ks=m.ks.filter fun k=>decide (k≠n):=by
   show(ni n m.tick.fs).map (·.1)=_
   rw [m.nk];unfold ni DM.ks;rw [List.filter_map];rfl
  refine⟨by simp,⟨h.tick.ar,h.tick.dn⟩,?_,?_,fun _=>yF,fun e=>absurd rfl e⟩
  ·have:=DP (fun x:List Nat×Nat=>x.1.length) n m.tick.fs
   rw [m.nk] at this
   show pH _ (ni n m.tick.fs)≤_
   rw [m.nk];exact this
  ·dsimp only;rw [yF];exact tt _ _
 ·rw [if_neg hg,h.U7 (by decide)]
  exact⟨by simp,h,bp _,bp _,fun e=>by simp at e,fun _=>rfl⟩
theorem U9: ∀{k a b:Nat},a<10^k→b<10^k→nW k a=nW k b→a=b
 |0,a,b,ha,hb,_=>by omega
 |k+1,a,b,ha,hb,h=>by
  unfold nW at h
  obtain⟨h1,h2⟩:=List.append_inj' h rfl
  have:=U9 (k:=k) (a:=a/10) (b:=b/10) (by rw [Nat.pow_succ] at ha;omega) (by rw [Nat.pow_succ] at hb;omega) h1
  simp at h2
  omega
theorem Kz: ∀(k n:Nat),∀x∈nW k n,x<256
 |0,_,x,h=>by cases h
 |k+1,n,x,h=>by
  unfold nW at h
  rcases List.mem_append.1 h with h|h
  ·exact Kz k _ x h
  ·simp at h;omega
theorem acO {a b:List Nat} (ha: ∀x∈a,x<256) (hb: ∀x∈b,x<256) (h:uW a=uW b):a=b:=by
 unfold uW at h
 have h1:(a.map lh)=b.map lh:=by
  have:=congrArg (fun x:ByteArray=>x.data.toList) h
  simpa using this
 have h2:=congrArg (List.map UInt8.toNat) h1
 simp only [en] at h2
 have e: ∀l:List Nat,(∀x∈l,x<256)→l.map (UInt8.toNat∘lh)=l:=fun l hl=>by
  refine(fG fun x hx=>?_).trans (List.map_id l)
  have:=hl x hx
  simp [UInt8.toNat_ofNat'];omega
 rwa [e a ha,e b hb] at h2
theorem Ah {dir:ByteArray} {a b:Nat} (ha:a<10^8) (hb:b<10^8) (h:bG dir a=bG dir b):a=b:=by
 unfold bG at h
 have h1:=congrArg (fun x:ByteArray=>x.data.toList) h
 simp only [ByteArray.data_append,Array.toList_append] at h1
 have h2:=List.append_cancel_left h1
 refine U9 ha hb (acO (Kz _ _) (Kz _ _) ?_)
 unfold uW at h2⊢
 simp only at h2
 congr 1
 exact Array.toList_inj.1 h2
structure jz (B c n:Nat) (x:LD):Prop where
 ok:lF x.m
 ne:x.L.bR≠[]
 d1:1≤x.L.dir.size
 d2:x.L.dir.size≤11
 r1:1≤x.L.room
 r2:x.L.room≤2^40
 keys: ∀k∈x.m.ks,∃f∈x.L.bR.map (·.first),k=bG x.L.dir f
 last:x.L.ep∈x.m.ks
 pw:(x.L.bR.map (·.first)).Pairwise (· < ·)
 emp:x.L.last.bY=[]→x.L.last.size=0
 pos: ∀s∈x.L.bR,1≤s.first∧s.first≤1+c∧s.first+s.bY.length≤1+c∧s.size≤B*c
 zH:x.L.next=1+c
 sz:x.m.sz≤B*c
 len:x.L.bR.length≤n
 cnt:x.m.ks.length≤64
theorem jz.L7 {B c n:Nat} {x:LD} (h:jz B c n x) (hb:B*c≤2^30) (hc:c≤2^30):j9 x.L:=
 ⟨h.ne,h.d1,h.d2,fun s hs=>by have:=h.pos s hs;omega,h.r2⟩
structure Alike (x y:LD):Prop where
 bR:y.L.bR=x.L.bR
 dir:y.L.dir=x.L.dir
 room:y.L.room=x.L.room
 ks:y.m.ks=x.m.ks
 sz:y.m.sz=x.m.sz
 ok:lF y.m
theorem Alike.refl {x:LD} (h:lF x.m):Alike x x:=⟨rfl,rfl,rfl,rfl,rfl,h⟩
theorem Alike.trans {x y z:LD} (h:Alike x y) (k:Alike y z):Alike x z:=⟨k.bR.trans h.bR,k.dir.trans h.dir,k.room.trans h.room,k.ks.trans h.ks,k.sz.trans h.sz,k.ok⟩
theorem Alike.last {x y:LD} (h:Alike x y):y.L.last=x.L.last:=by unfold LM.last;rw [h.bR]
theorem Alike.ep {x y:LD} (h:Alike x y):y.L.ep=x.L.ep:=by unfold LM.ep;rw [h.last,h.dir]
theorem Alike.next {x y:LD} (h:Alike x y):y.L.next=x.L.next:=by unfold LM.next;rw [h.last]
theorem Alike.inv {B c n:Nat} {x y:LD} (h:Alike x y) (k:jz B c n x):jz B c n y:=by
 refine⟨h.ok,by rw [h.bR];exact k.ne,by rw [h.dir];exact k.d1,by rw [h.dir];exact k.d2,by rw [h.room];exact k.r1,by rw [h.room];exact k.r2,?_,?_,by rw [h.bR];exact k.pw,?_,?_,?_,?_,?_,by rw [h.ks];exact k.cnt⟩
 ·rw [h.ks,h.bR,h.dir];exact k.keys
 ·rw [h.ks,h.ep];exact k.last
 ·rw [h.last];exact k.emp
 ·rw [h.bR];exact k.pos
 ·rw [h.next];exact k.zH
 ·rw [h.sz];exact k.sz
 ·rw [h.bR];exact k.len
theorem jz.sync {B c n:Nat} {x:LD} (h:jz B c n x):x.sync.2=0∧Alike x x.sync.1:=by
 obtain⟨h1,h2,h3,h4⟩:=h.ok.sync h.last
 unfold LD.sync
 dsimp only
 rw [if_pos h1]
 exact⟨h1,⟨rfl,rfl,rfl,h3,h4,h2⟩⟩
def Full (x:LD):Prop:=64≤x.m.ks.length∧x.L.room≤x.L.last.size
theorem Alike.full {x y:LD} (h:Alike x y) (k:Full x):Full y:=by unfold Full;rw [h.ks,h.room,h.last];exact k
theorem jz.le_last {B c n:Nat} {x:LD} (h:jz B c n x) {f:Nat} (hf:f∈x.L.bR.map (·.first)):f≤x.L.last.first:=by
 have h1:=h.pw
 rw [LM.Qf h.ne,bq] at h1 hf
 obtain⟨_,_,h2⟩:=List.pairwise_append.1 h1
 rcases List.mem_append.1 hf with hf|hf
 ·exact Nat.le_of_lt (h2 f hf _ (by simp))
 ·simp at hf;omega
theorem jz.le_next {B c n:Nat} {x:LD} (h:jz B c n x) {f:Nat} (hf:f∈x.L.bR.map (·.first)):f≤1+c:=by
 obtain⟨s,hs,rfl⟩:=List.mem_map.1 hf
 exact(h.pos s hs).2.1
theorem jz.gB {B c n:Nat} {x:LD} (h:jz B c n x) (hr:x.L.last.bY≠[]) (lS:c+2<99999999):
  (64≤x.m.ks.length∧x.gB x.L.next=(x,3))∨(x.m.ks.length<64∧(x.gB x.L.next).2=0∧jz B c (n+1) (x.gB x.L.next).1):=by
 have hl:1≤x.L.last.bY.length:=by
  cases hq:x.L.last.bY with
  |nil=>exact absurd hq hr
  |cons a b=>simp
 have pz:=h.zH
 have Dt: ¬bG x.L.dir x.L.next∈x.m.ks:=fun hk=>by
  obtain⟨f,hf,e⟩:=h.keys _ hk
  have h1:=h.le_last hf
  have h2:=h.le_next hf
  have:=Ah (by omega) (by omega) e
  unfold LM.next at this;omega
 have Dm:rq (bG x.L.dir x.L.next)=true:=by
  have:=h.d1;have:=h.d2
  simp only [rq,sh,decide_eq_true_eq];omega
 rw [x.m.oo]
 rcases h.ok.create Dm Dt with⟨h1,h2⟩|⟨h1,h2,h3,h4,h5⟩
 ·left
  refine⟨h1,?_⟩
  unfold LD.gB
  rw [h2];rfl
 ·right
  refine⟨h1,?_⟩
  have qJ:(⟨x.L.dir,x.L.room,x.L.bR++[⟨x.L.next,[],0⟩],x.L.safe⟩:LM).last=⟨x.L.next,[],0⟩:=by simp [LM.last]
  unfold LD.gB
  dsimp only
  rw [if_pos h2]
  refine⟨h2,⟨h3,by simp,h.d1,h.d2,h.r1,h.r2,?_,?_,?_,?_,?_,?_,?_,?_,by dsimp only;rw [h4,ae,x.m.oo];simp;omega⟩⟩
  ·rw [h4]
   intro k hk
   rcases List.mem_append.1 hk with hk|hk
   ·obtain⟨f,hf,e⟩:=h.keys k hk
    exact⟨f,by rw [bq];exact bU _ hf,e⟩
   ·simp at hk
    exact⟨x.L.next,by simp,hk⟩
  ·rw [h4];unfold LM.ep;rw [qJ];simp
  ·rw [bq]
   refine List.pairwise_append.2 ⟨h.pw,by simp,fun a ha b hb=>?_⟩
   simp at hb;subst hb
   have:=h.le_last ha
   unfold LM.next;omega
  ·intro _;rw [qJ]
  ·intro s hs
   rcases List.mem_append.1 hs with hs|hs
   ·exact h.pos s hs
   ·simp at hs;subst hs;simp;omega
  ·show(⟨x.L.dir,x.L.room,x.L.bR++[⟨x.L.next,[],0⟩],x.L.safe⟩:LM).last.first+(⟨x.L.dir,x.L.room,x.L.bR++[⟨x.L.next,[],0⟩],x.L.safe⟩:LM).last.bY.length=1+c
   rw [qJ];simpa using pz
  ·rw [h5];exact h.sz
  ·simp;exact h.len
theorem jz.lay {B c n:Nat} {x:LD} {p:List Nat} (h:jz B c n x) (hp:p.length+12≤B) (hc:B*(c+1)≤4194304):(x.lay p).2=0∧jz B (c+1) n (x.lay p).1:=by
 have hB:B*(c+1)=B*c+B:=Nat.mul_succ B c
 have iq:(du p).length=p.length+12:=by simp [du,ru]
 have eu:=h.sz
 obtain⟨h1,h2,h3,h4⟩:=h.ok.append (b:=du p) h.last (by omega)
 have hlm:=LM.qm h.ne
 have hle:=LM.Qf h.ne
 obtain⟨p1,p2,p3,p4⟩:=h.pos _ hlm
 have qJ:(x.L.add p).last=⟨x.L.last.first,x.L.last.bY++[p],x.L.last.size+(du p).length⟩:=by simp [LM.last,LM.add]
 have QN:(x.L.add p).bR.map (·.first)=x.L.bR.map (·.first):=by
  conv=>rhs;rw [hle]
  simp [LM.add]
 unfold LD.lay
 dsimp only
 rw [if_pos h1]
 refine⟨h1,⟨h2,by simp [LM.add],h.d1,h.d2,h.r1,h.r2,?_,?_,?_,?_,?_,?_,?_,?_,by dsimp only;rw [h3];exact h.cnt⟩⟩
 ·dsimp only;rw [h3,QN];exact h.keys
 ·dsimp only;rw [h3];unfold LM.ep;rw [qJ];exact h.last
 ·dsimp only;rw [QN];exact h.pw
 ·dsimp only;rw [qJ];intro e;simp at e
 ·dsimp only
  intro s hs
  rcases List.mem_append.1 hs with hs|hs
  ·have:=h.pos s (by rw [hle];exact bU _ hs)
   omega
  ·simp only [bo] at hs;subst hs
   simp only [ae,bC,cA,iq];omega
 ·have:=h.zH
  dsimp only
  unfold LM.next at this⊢;rw [qJ];simp;omega
 ·dsimp only;rw [h4];omega
 ·have:=h.len
  rw [hle] at this
  simpa [LM.add] using this
theorem jz.more {B c n n':Nat} {x:LD} (h:jz B c n x) (hn:n≤n'):jz B c n' x:= { h with len:=ah h.len hn }
theorem jz.bY {B c n:Nat} {x:LD} (h:jz B c n x) (hr:x.L.room≤x.L.last.size):x.L.last.bY≠[]:=fun e=>by
 have:=h.emp e;have:=h.r1;omega
theorem jz.append {B c n:Nat} {x:LD} {p:List Nat} (h:jz B c n x) (hp:p.length+12≤B) (hB:B≤262144) (hc:B*(c+1)≤4194304) (lS:c+2<99999999):
  ((x.append p).2.2=0∧(x.append p).2.1=1+c∧jz B (c+1) (n+1) (x.append p).1)∨((x.append p).2.2=3∧Full x∧Alike x (x.append p).1):=by
 have pz:=h.zH
 unfold LD.append
 rw [if_neg (by omega),if_neg (by omega)]
 dsimp only
 unfold LD.room
 by_cases hr:x.L.room≤x.L.last.size
 ·rw [if_pos hr]
  obtain⟨h1,h2⟩:=h.sync
  dsimp only
  rw [if_neg (show¬x.sync.2≠0 from by rw [h1];simp)]
  have hi:=h2.inv h
  rw [←h2.next]
  rcases hi.gB (hi.bY (by rw [h2.room,h2.last];exact hr)) lS with⟨g1,g2⟩|⟨g1,g2,g3⟩
  ·right
   rw [g2]
   dsimp only
   rw [if_pos (by simp)]
   exact⟨rfl,⟨by rw [←h2.ks];exact g1,hr⟩,h2⟩
  ·left
   rw [if_neg (by rw [g2];simp)]
   obtain⟨k1,k2⟩:=g3.lay hp hc
   rw [if_neg (by rw [k1];simp)]
   exact⟨rfl,by rw [h2.next];exact pz,k2⟩
 ·left
  rw [if_neg hr]
  dsimp only
  rw [if_neg (by simp)]
  obtain⟨k1,k2⟩:=h.lay hp hc
  rw [if_neg (by rw [k1];simp)]
  exact⟨rfl,pz,k2.more (by omega)⟩
theorem jz.full {B c n:Nat} {x:LD} {p:List Nat} (h:jz B c n x) (hf:Full x) (hp:p.length≤262144) (lS:c+2<99999999):(x.append p).2.2=3∧Alike x (x.append p).1:=by
 have pz:=h.zH
 unfold LD.append
 rw [if_neg (by omega),if_neg (by omega)]
 dsimp only
 unfold LD.room
 rw [if_pos hf.2]
 obtain⟨h1,h2⟩:=h.sync
 dsimp only
 rw [if_neg (show¬x.sync.2≠0 from by rw [h1];simp)]
 have hi:=h2.inv h
 rw [←h2.next]
 rcases hi.gB (hi.bY (by rw [h2.room,h2.last];exact hf.2)) lS with⟨g1,g2⟩|⟨g1,g2,g3⟩
 ·rw [g2]
  dsimp only
  rw [if_pos (by simp)]
  exact⟨rfl,h2⟩
 ·have:=hf.1
  rw [h2.ks] at g1
  omega
theorem jz.trim {B c n below:Nat} : ∀{K:Nat} {x:LD},jz B c n x→c+2<99999999→(x.trim below K).2≠12∧jz B c n (x.trim below K).1
 |0,x,h,_=>⟨by simp [LD.trim],h⟩
 |K+1,x,h,lS=>by
  unfold LD.trim
  split
  ·rename_i s t r JP
   split
   ·obtain⟨h1,h2,h3,h4,h5,h6⟩:=h.ok.remove (bG x.L.dir s.first)
    dsimp only
    split
    ·rename_i dr
     refine⟨h1,?_⟩
     rw [h6 dr]
     exact h
    ·rename_i dr
     have hz:(x.m.remove (bG x.L.dir s.first)).2=0:=by omega
     refine jz.trim ?_ lS
     have qJ:(⟨x.L.dir,x.L.room,t::r,x.L.safe⟩:LM).last=x.L.last:=by unfold LM.last;rw [JP,List.getLast?_cons_cons]
     have hpw:=h.pw
     rw [JP,bh] at hpw
     have XC:=List.pairwise_cons.1 hpw
     have hlm:x.L.last∈t::r:=by rw [←qJ];exact LM.qm (by simp)
     have dh:s.first<x.L.last.first:=XC.1 _ (List.mem_map.2 ⟨_,hlm,rfl⟩)
     refine⟨h2,by simp,h.d1,h.d2,h.r1,h.r2,?_,?_,XC.2,?_,?_,?_,?_,?_,ah h4 h.cnt⟩
     ·dsimp only
      rw [h5 hz]
      intro k hk
      obtain⟨xu,hk2⟩:=List.mem_filter.1 hk
      obtain⟨f,hf,e⟩:=h.keys k xu
      rw [JP,bh] at hf
      rcases List.mem_cons.1 hf with rfl|hf
      ·exact absurd e (by simpa using hk2)
      ·exact⟨f,hf,e⟩
     ·dsimp only
      rw [h5 hz]
      unfold LM.ep
      rw [qJ]
      refine List.mem_filter.2 ⟨h.last,?_⟩
      simp only [ne_eq,decide_not,bW,decide_eq_false_iff_not]
      intro e
      have a1:=(h.pos _ (LM.qm h.ne)).2.1
      have:=Ah (by omega) (by omega) e
      omega
     ·dsimp only;rw [qJ];exact h.emp
     ·intro u hu;exact h.pos u (by rw [JP];exact bm _ hu)
     ·have:=h.zH
      unfold LM.next at this⊢
      dsimp only
      rw [qJ];exact this
     ·exact ah h3 h.sz
     ·have:=h.len
      rw [JP] at this
      simp only [bC] at this⊢;omega
   ·exact⟨by simp,h⟩
  ·exact⟨by simp,h⟩
theorem XM {α:Type} (f:α→List Nat) (B:Nat): ∀l:List α,(∀x∈l,(f x).length≤B)→(l.map f).flatten.length≤l.length*B
 |[],_=>by simp
 |x::l,h=>by
  have h1:=h x (by simp)
  have h2:=XM f B l fun y hy=>h y (bm _ hy)
  simp only [bh,dg,ae,bC,Nat.succ_mul];omega
theorem zp {prev st:bZ} {t:gM} {x:KV} (h:x.key.size≤20000):(iv (eH prev st t [x])).length≤20250:=by
 have h1:=ee (eH prev st t [x]).kind
 have h2:=ja prev
 have h3:=ja st
 have h4:=tX t
 have h5:=ee ((([x]:List KV).length:Nat):Int)
 have h6:=C9 (x:=x)
 unfold iv eH gA at*
 simp only [ae,bh,List.map_nil,dg,List.flatten_nil,cA] at*
 omega
theorem acP {st:bZ} {l:List KV} (h: ∀x∈l,x.key.size≤24) (hl:l.length≤40):(gG (fB st l)).length≤20250:=by
 have h1:=ee (fB st l).kind
 have h2:=ja st
 have h5:=ee ((l.length:Nat):Int)
 have h6:=XM dd 134 l fun x hx=>by have:=C9 (x:=x);have:=h x hx;omega
 have h7:l.length*134≤40*134:=dM _ hl
 unfold gG fB gA at*
 simp only [ae] at*
 omega
structure Co (n:Nat) (p:List (ByteArray×fq)):Prop where
 nd:(p.map (·.1)).Nodup
 zq: ∀x∈p,g8 x.1=true∧x.2.may=true∧x.2.kind≠0
 len:p.length≤n
theorem Co.apply {n:Nat} {p:List (ByteArray×fq)} {x:KV} (h:Co n p) (hk:g8 x.key=true) (hv:x.val.may=true):Co (n+1) (fM p x):=by
 unfold fM
 split
 ·refine⟨?_,fun y hy=>h.zq y (List.mem_filter.1 hy).1,ah (tt _ _) (Nat.le_succ_of_le h.len)⟩
  exact h.nd.sublist ((kP).map _)
 ·rename_i hz
  refine⟨OF h.nd,fun y hy=>?_,?_⟩
  ·rcases tK h.nd hy with rfl|⟨hy,_⟩
   ·exact⟨hk,hv,hz⟩
   ·exact h.zq y hy
  ·have:=congrArg aB (uc x.key x.val p)
   have hl:=h.len
   rw [aS] at this
   rw [this]
   split<;>simp<;>omega
theorem Cp: ∀{a b:List UInt8},a≤b→a≠b→b7 a b=true
 |[],[],_,h=>absurd rfl h
 |[],_::_,_,_=>by simp [b7]
 |a::l,[],h,_=>absurd h (by simp)
 |a::l,b::m,h,dr=>by
  simp only [b7,gH,aG,decide_eq_true_eq,beq_iff_eq]
  rcases List.cons_le_cons_iff.1 h with h1|⟨rfl,h1⟩
  ·exact .inl h1
  ·exact .inr ⟨rfl,Cp h1 fun e=>dr (by rw [e])⟩
theorem Va {α:Type} {p:α→Bool} {r:α→α→Bool} : ∀{l:List α} (o:Option α),(∀x∈l,p x=true)→l.Pairwise (fun a b=>r a b=true)→(∀y,o=some y→ ∀x∈l,r y x=true)→chain p r o l=true
 |[],o,_,_,_=>by cases o<;>rfl
 |x::l,o,h1,h2,h3=>by
  have OL:=List.pairwise_cons.1 h2
  have ih:=Va (some x) (fun y hy=>h1 y (bm _ hy)) OL.2 (fun y e z hz=>by cases e;exact OL.1 z hz)
  have hp:=h1 x (by simp)
  cases o with
  |none=>simp [chain,hp,ih]
  |some y=>have hr:=h3 y rfl x (by simp);simp [chain,hp,ih,hr]
theorem Co.list {n:Nat} {s:SM} (h:Co n s.bH):sQ s.list=true∧(∀x∈s.list,x.key.size≤24)∧s.list.length≤n∧ ∀x∈s.bH,x.1.size≤24:=by
 have zx:=nB (s.bH.map (·.1))
 have mT: ∀x∈s.list,(x.key,x.val)∈s.bH:=fun x hx=>by
  obtain⟨k,hk,rfl⟩:=List.mem_map.1 hx
  obtain⟨y,hy,rfl⟩:=List.mem_map.1 (zx.mem_iff.1 hk)
  have:=qg h.nd (k:=y.1) (a:=y.2) hy
  show(y.1,s.get y.1)∈s.bH
  unfold SM.get
  rw [this];exact hy
 have hgk: ∀k:ByteArray,g8 k=true→k.size≤24:=fun k hk=>by unfold g8 at hk;simp at hk;omega
 refine⟨?_,fun x hx=>hgk _ (h.zq _ (mT x hx)).1,?_,fun x hx=>hgk _ (h.zq x hx).1⟩
 ·refine Va none (fun x hx=>?_) ?_ (fun y e=>by cases e)
  ·obtain⟨g1,g2,g3⟩:=h.zq _ (mT x hx)
   simp only [g1,g2,g3,ne_eq,not_false_eq_true,decide_true,Bool.and_self]
  ·unfold SM.list
   rw [iK]
   have py:(gu (s.bH.map (·.1))).Nodup:=zx.nodup_iff.2 h.nd
   have vy:(gu (s.bH.map (·.1))).Pairwise fun a b=>bl a≤bl b:=by
    unfold gu
    rw [iK]
    refine(jG Di Dl _).imp fun rL=>?_
    unfold leB at rL
    simpa [bl] using rL
   refine(List.pairwise_and_iff.2 ⟨vy,py⟩).imp fun rL=>?_
   show kO _ _=true
   unfold kO
   rw [fD,fD]
   exact Cp rL.1 fun e=>rL.2 (mM (Array.toList_inj.1 e))
 ·unfold SM.list
  rw [aS,zx.length_eq,aS];exact h.len
structure DQ (ev:Int) (n:Nat) (s:SM) (x:LD):Prop where
 ev:s.every=ev
 si:0≤s.since∧s.since≤n
 dn:s.down=false
 hi:s.high=iG n
 dl:s.done.length=n
 dw: ∀e∈s.done,e.writes.length≤1
 pi:Co n s.bH
 lg: ∃c k:Nat,jz 30000 c k x∧(c:Int)+s.since≤2*n∧k≤1+c
theorem GG (n:Nat):(iG n).wall=n:=by
 unfold iG
 split
 ·rfl
 ·have:(n:Int)=0:=by omega
  rw [this]
theorem aaR {a b:Nat} (h:iG a=iG b):a=b:=by
 have:=congrArg bZ.wall h
 rw [GG,GG] at this
 omega
theorem aaS (n:Nat):(⟨(n:Int)+1,0,1⟩:bZ).cmp (iG n)>0:=by
 have e1:((n:Int)+1≠n):=by omega
 have e2: ¬((n:Int)+1<n):=by omega
 have e3:((n:Int)<n+1):=by omega
 simp [bZ.cmp,GG,e1,e2,e3]
theorem Vb {prev st:bZ} {t:gM} {w:KV} (h:iJ prev st t [w]=true):g8 w.key=true∧w.val.may=true:=by
 unfold iJ at h
 simp only [aG,decide_eq_true_eq] at h
 have he:=h.2
 unfold fk.err at he
 dsimp only at he
 split at he
 ·simp at he
 ·split at he
  ·simp at he
  ·split at he
   ·simp at he
   ·rename_i h3
    split at he
    ·rename_i h4
     refine⟨?_,by simpa using h4⟩
     simp only [gH,bW,not_or,kc,sa,aG] at h3
     have:=h3.2.1
     simp only [bh,List.map_nil] at this
     simpa [rising,chain] using this
    ·simp at he
theorem yi {c k:Nat} {x:LD} {p:List Nat} (h:jz 30000 c k x) (hc:c≤80) (hp:p.length≤20250):
  ((x.fc 0 p).2.2=0∧(x.fc 0 p).2.1=1+c∧jz 30000 (c+1) (k+1) (x.fc 0 p).1∧jz 30000 (c+1) (k+1) (x.append p).1)∨((x.fc 0 p).2.2=3∧Full x∧Alike x (x.fc 0 p).1∧Alike x (x.append p).1):=by
 unfold LD.fc
 rw [if_neg (by simp)]
 dsimp only
 rcases h.append (p:=p) (by omega) (by omega) (by omega) (by omega)with⟨h1,h2,h3⟩|⟨h1,h2,h3⟩
 ·left
  rw [if_neg (by rw [h1];simp)]
  obtain⟨g1,g2⟩:=h3.sync
  exact⟨g1,h2,g2.inv h3,h3⟩
 ·right
  rw [if_pos (by rw [h1];simp)]
  exact⟨h1,h2,h3,h3⟩
theorem aaT {c k:Nat} {x:LD} {p:List Nat} (h:jz 30000 c k x) (hf:Full x) (hc:c≤80) (hp:p.length≤20250):(x.fc 0 p).2.2=3:=by
 obtain⟨g1,g2⟩:=h.full (p:=p) hf (by omega) (by omega)
 unfold LD.fc
 rw [if_neg (by simp)]
 dsimp only
 rw [if_pos (by rw [g1];simp)]
 exact g1
theorem jz.DR {c k:Nat} {x:LD} (h:jz 30000 c k x) (hc:c≤81):j9 x.L:=h.L7 (by omega) (by omega)
structure aaU (x:LD) (p:List Nat):Prop where
 lk:j9 (x.append p).1.L
 kd:(x.fc 0 p).2.2≠12
 lk2:j9 (x.fc 0 p).1.L
 len:(x.fc 0 p).1.L.bR.length≤1000
 tr:((x.fc 0 p).1.trim (x.fc 0 p).2.1 1000).2≠12
theorem DQ.Vc {ev:Int} {n:Nat} {s:SM} {x:LD} {p:List Nat} (h:DQ ev n s x) (hn:n≤40) (hp:p.length≤20250):j9 x.L∧x.L.bR.length≤2^29∧aaU x p:=by
 obtain⟨c,k,h1,h2,h3⟩:=h.lg
 have hs:=h.si
 have hlen:=h1.len
 refine⟨h1.DR (by omega),by omega,?_⟩
 rcases yi (p:=p) h1 (by omega) hp with⟨a1,a2,a3,a4⟩|⟨a1,a2,a3,a4⟩
 ·have:=a3.len
  exact⟨a4.DR (by omega),by omega,a3.DR (by omega),by omega,(a3.trim (by omega)).1⟩
 ·have h5:=a3.inv h1
  have:=h5.len
  exact⟨(a4.inv h1).DR (by omega),by omega,h5.DR (by omega),by omega,(h5.trim (by omega)).1⟩
theorem DQ.step {ev:Int} {n k:Nat} {s:SM} {x:LD} {w:KV} {t:gM} (h:DQ ev n s x) (hn:n≤40) (hk:k<40) (hw:w.key.size≤20000):
  (iJ (iG k) ⟨(k:Int)+1,0,1⟩ t [w]=true∧k=n∧g8 w.key=true∧DQ ev (n+1) (mK s x (iG k) ⟨(k:Int)+1,0,1⟩ t [w]).1 (mK s x (iG k) ⟨(k:Int)+1,0,1⟩ t [w]).2∧
   (mK s x (iG k) ⟨(k:Int)+1,0,1⟩ t [w]).1.high=⟨(k:Int)+1,0,1⟩)∨
  ((mK s x (iG k) ⟨(k:Int)+1,0,1⟩ t [w]).1=s∧DQ ev n s (mK s x (iG k) ⟨(k:Int)+1,0,1⟩ t [w]).2∧
   (iJ (iG k) ⟨(k:Int)+1,0,1⟩ t [w]=true→k=n→Full (mK s x (iG k) ⟨(k:Int)+1,0,1⟩ t [w]).2)):=by
 obtain⟨c,m,h1,h2,h3⟩:=h.lg
 have hs:=h.si
 generalize ix:(⟨(k:Int)+1,0,1⟩:bZ)=st
 have hl:=zp (prev:=iG k) (st:=st) (t:=t) hw
 unfold mK
 by_cases hf:s.fits (iG k) st t [w]=true
 ·rw [if_pos hf]
  dsimp only
  have hf':=hf
  unfold SM.fits at hf'
  simp only [aG,decide_eq_true_eq] at hf'
  obtain⟨⟨f1,f2⟩,f3⟩:=hf'
  have hkn:k=n:=aaR (f3.trans h.hi)
  obtain⟨q1,q2⟩:=Vb f1
  rcases yi (p:=iv (eH (iG k) st t [w])) h1 (by omega) hl with⟨a1,a2,a3,a4⟩|⟨a1,a2,a3,a4⟩
  ·left
   rw [if_pos a1]
   refine⟨f1,hkn,q1,⟨h.ev,by dsimp only;omega,h.dn,?_,?_,?_,?_,⟨c+1,m+1,a3,by dsimp only;push_cast;omega,by omega⟩⟩,rfl⟩
   ·show st=_
    subst ix;subst hkn
    unfold iG
    push_cast
    rw [if_pos (by omega)]
   ·show(s.done++[_]).length=_
    rw [ae,h.dl];rfl
   ·intro e he
    have he:e∈s.done++[⟨t,st,[w]⟩]:=he
    rcases List.mem_append.1 he with he|he
    ·exact h.dw e he
    ·simp at he;subst he;simp
   ·exact h.pi.apply q1 q2
  ·right
   rw [if_neg (by rw [a1];decide)]
   exact⟨rfl,⟨h.ev,h.si,h.dn,h.hi,h.dl,h.dw,h.pi,⟨c,m,a3.inv h1,h2,h3⟩⟩,fun _ _=>a3.full a2⟩
 ·right
  rw [if_neg hf]
  refine⟨rfl,h,fun ha hkn=>absurd ?_ hf⟩
  unfold SM.fits
  subst ix;subst hkn
  have:=aaS k
  rw [ha,h.hi]
  simp [this]
theorem DQ.tick {ev:Int} {n:Nat} {s:SM} {x:LD} (h:DQ ev n s x) (he:0≤ev) (hn:n≤40):
  DQ ev n (pr s x 1000).1 (pr s x 1000).2∧(pr s x 1000).1.bH=s.bH∧(pr s x 1000).1.high=s.high∧(Full x→Full (pr s x 1000).2):=by
 obtain⟨c,m,h1,h2,h3⟩:=h.lg
 have hs:=h.si
 obtain⟨p1,p2,p3,p4⟩:=h.pi.list
 unfold pr
 by_cases hi:s.idle=true
 ·rw [if_pos hi]
  exact⟨h,rfl,rfl,id⟩
 ·rw [if_neg hi]
  dsimp only
  have QB:1≤s.since:=by
   unfold SM.idle at hi
   simp only [gH,decide_eq_true_eq,not_or,Int.not_lt] at hi
   have:=h.ev;omega
  have hl:=acP (st:=s.high) p2 (by omega)
  rcases yi (p:=gG (fB s.high s.list)) h1 (by omega) hl with⟨a1,a2,a3,a4⟩|⟨a1,a2,a3,a4⟩
  ·rw [if_pos a1]
   refine⟨⟨h.ev,by dsimp only;omega,h.dn,h.hi,h.dl,h.dw,h.pi,⟨c+1,m+1,(a3.trim (by omega)).2,by dsimp only;push_cast;omega,by omega⟩⟩,rfl,rfl,fun hf=>?_⟩
   have:=aaT h1 hf (by omega) hl
   omega
  ·rw [if_neg (by rw [a1];decide)]
   exact⟨⟨h.ev,h.si,h.dn,h.hi,h.dl,h.dw,h.pi,⟨c,m,a3.inv h1,h2,h3⟩⟩,rfl,rfl,fun hf=>a3.full hf⟩
end Go.Proofs.YtpdkoaklobnegaaGreat
namespace Go.Proofs.YtpdkoaklobnegaaGreat
open Go.Proofs.Tryz renaming prog → pg
open Go.fR
set_option maxRecDepth 100000
set_option maxHeartbeats 1000000
set_option linter.unusedVariables false
set_option linter.unusedSimpArgs false
attribute [local irreducible] un jn bz aQ aX gL eo dx cr nu fF mO BK AB jc iS aa ay aF eW eV eU eC eF gE ao fin aN aH aI vS BL jB lq wK D9 Ea Eb Ec BM jC lr wL Ed Ee Ef Eg
theorem jz.Vc {c k:Nat} {x:LD} {p:List Nat} (h1:jz 30000 c k x) (hc:c≤80) (hk:k≤900) (hp:p.length≤20250):j9 x.L∧x.L.bR.length≤2^29∧aaU x p:=by
 have hlen:=h1.len
 refine⟨h1.DR (by omega),by omega,?_⟩
 rcases yi (p:=p) h1 (by omega) hp with⟨a1,a2,a3,a4⟩|⟨a1,a2,a3,a4⟩
 ·have:=a3.len
  exact⟨a4.DR (by omega),by omega,a3.DR (by omega),by omega,(a3.trim (by omega)).1⟩
 ·have h5:=a3.inv h1
  have:=h5.len
  exact⟨(a4.inv h1).DR (by omega),by omega,h5.DR (by omega),by omega,(h5.trim (by omega)).1⟩
def Cq:DM:=⟨[],0,0,false⟩
abbrev oH:ByteArray:=⟨#[115,105,110,107]⟩
def x0 (sz:Nat):LD:=(LD.gB ⟨L0 oH sz,Cq⟩ 1).1
theorem Bu (sz:Nat):(LD.gB ⟨L0 oH sz,Cq⟩ 1).2=0∧(Cq.create (bG oH 1)).2=0∧lF (Cq.create (bG oH 1)).1∧(Cq.create (bG oH 1)).1.ks=[bG oH 1]∧(Cq.create (bG oH 1)).1.sz=0:=by
 have hm:lF Cq:=⟨rfl,rfl⟩
 have hn:rq (bG oH 1)=true:=by simp only [rq,sh,decide_eq_true_eq];decide
 rcases hm.create hn (by simp [DM.ks,Cq])with⟨h1,_⟩|⟨h1,h2,h3,h4,h5⟩
 ·simp [Cq] at h1
 ·exact⟨h2,h2,h3,h4,h5⟩
theorem acQ (sz:Nat):(x0 sz).L=⟨oH,sz,[⟨1,[],0⟩],0⟩:=XL (Bu sz).1
theorem OP {sz:Nat} (h1:64≤sz) (h2:sz≤262144):jz 30000 0 1 (x0 sz)∧ ¬Full (x0 sz):=by
 obtain⟨_,_,g3,g4,g5⟩:=Bu sz
 have hL:=acQ sz
 have hm:(x0 sz).m=(Cq.create (bG oH 1)).1:=rfl
 have qJ:(x0 sz).L.last=⟨1,[],0⟩:=by rw [hL];rfl
 constructor
 ·refine⟨by rw [hm];exact g3,by rw [hL];simp,by rw [hL];exact(show 1≤kA oH from by decide),by rw [hL];exact(show kA oH≤11 from by decide),by rw [hL];exact ah (by decide) h1,by rw [hL];exact ah h2 (by decide),?_,?_,?_,?_,?_,?_,?_,?_,by rw [hm,g4];simp⟩
  ·rw [hm,g4,hL];intro k hk;exact⟨1,by simp,by simpa using hk⟩
  ·rw [hm,g4];unfold LM.ep;rw [qJ,hL];simp
  ·rw [hL];simp
  ·rw [qJ];intro _;rfl
  ·rw [hL];intro s hs;simp at hs;subst hs;simp
  ·unfold LM.next;rw [qJ];rfl
  ·rw [hm,g5];decide
  ·rw [hL];simp
 ·intro hf
  have:=hf.1
  rw [hm,g4] at this
  simp at this
theorem o0 {ev:Int} {sz:Nat} (h1:64≤sz) (h2:sz≤262144):DQ ev 0 (iA ev) (x0 sz):=
 ⟨rfl,by simp [iA],rfl,rfl,rfl,by simp [iA],⟨by simp [iA],by simp [iA],by simp [iA]⟩,⟨0,1,(OP h1 h2).1,by simp [iA],by omega⟩⟩
abbrev y4:KV:=⟨⟨#[97]⟩,⟨1,4607182418800017408,⟨#[]⟩⟩⟩
abbrev kvB:KV:=⟨⟨#[98]⟩,⟨1,4607182418800017408,⟨#[]⟩⟩⟩
theorem okA:iJ (iG 0) ⟨5,0,1⟩ ⟨1,1,5⟩ [y4]=true:=by kernel_rfl
theorem okB:iJ (iG 4) ⟨7,0,1⟩ ⟨1,1,7⟩ [kvB]=true:=by kernel_rfl
def s1:SM:= { (iA 0).apply ⟨1,1,5⟩ ⟨5,0,1⟩ [y4] with since:=1 }
theorem af9:(mK (iA 0) (x0 4096) (iG 0) ⟨5,0,1⟩ ⟨1,1,5⟩ [y4]).1=s1∧jz 30000 1 2 (mK (iA 0) (x0 4096) (iG 0) ⟨5,0,1⟩ ⟨1,1,5⟩ [y4]).2:=by
 have hf:(iA 0).fits (iG 0) ⟨5,0,1⟩ ⟨1,1,5⟩ [y4]=true:=by kernel_rfl
 obtain⟨h1,h2⟩:=OP (sz:=4096) (by decide) (by decide)
 unfold mK
 rw [if_pos hf]
 dsimp only
 rcases yi (p:=iv (eH (iG 0) ⟨5,0,1⟩ ⟨1,1,5⟩ [y4])) h1 (by omega) (zp (by decide))with⟨a1,a2,a3,a4⟩|⟨a1,a2,a3,a4⟩
 ·rw [if_pos a1]
  exact⟨rfl,a3⟩
 ·exact absurd a2 h2
theorem aga (x:LD):mK s1 x (iG 4) ⟨7,0,1⟩ ⟨1,1,7⟩ [kvB]=(s1,x):=by
 unfold mK
 rw [if_neg (by rw [show s1.fits (iG 4) ⟨7,0,1⟩ ⟨1,1,7⟩ [kvB]=false from by kernel_rfl];simp)]
theorem ahj:s1.list=[y4]:=by
 have:s1.bH=[(⟨#[97]⟩,⟨1,4607182418800017408,⟨#[]⟩⟩)]:=by kernel_rfl
 unfold SM.list SM.get
 rw [this]
 simp [gu,bl,getM]
theorem L8 {w:World} {X:XS} :Ct pg 9 #[] w X nX fun v _ _=>v=B true:=by
 intro w0 hk
 apply I5;unfold zN
 have hs:=aj.init w0
 have JN:Ft w0 nX w0 (aW w0) nX:=Ft.init fun _ h=>h.elim
 refine dk Gt (by kernel_rfl) hs.has ?_
 rintro _ JI w1 X1 ⟨db,rfl,hdk⟩ u4 qj au
 have cO:Ft w0 nX w1 X1 (made JI w1):=(JN.since au).more fun k ai=>.inr ⟨qj k ai,ah u4 ai.1⟩
 clear hs JN
 repeat' first|with_reducible apply ak|(with_reducible apply lR);(· kernel_rfl)
 refine cO.call (Cn (sz:=4096) (every:=0) hdk (cO.fx fun _ h=>h) rfl rfl (by decide) (by decide) (by decide) (by decide) (Bu 4096).1) (by kernel_rfl) (fun _ h=>h) fun v wQ w2 X2 Ns u5 rj bM lS=>?_
 obtain⟨nb,lb,F2,rfl,OJ,h2⟩:=Ns
 replace bM:Ft w0 nX w2 X2 F2:=bM.less OJ
 replace h2:jo w2 F2 nb lb db (iA 0) (x0 4096).L (x0 4096).m:=h2
 repeat' first|(with_reducible refine fL ?_ ?_);omega|with_reducible (first|apply ak|apply dG|apply cD|apply bt)|(with_reducible apply fp);rfl|(with_reducible apply lR);(· kernel_rfl)
 refine dk L6 (by kernel_rfl) bM.s.has ?_
 rintro _ qw w3 X3 ⟨a,rfl,OQ⟩ rr oG cw
 have cP:=bM.since cw
 have h3:=h2.mv (cw.fg bM.ba)
 have JF: ∀k,F2 k→k<w2.heap.size:=fun k ai=>bM.s.has k (bM.ba k ai)
 obtain⟨q1,q2,q3⟩:=(OP (sz:=4096) (by decide) (by decide)).1.Vc (p:=iv (eH (iG 0) ⟨5,0,1⟩ ⟨1,1,5⟩ [y4])) (by omega) (by omega) (zp (by decide))
 refine cP.call (L5 (S:=made qw w3) (l:=[y4]) h3 q1 q2 (cP.fx fun _ h=>h) rfl OQ.sl (fun k ai=>⟨oG k ai,fun hf=>by have:=JF k hf;have:=ai.1;omega⟩) (by simp) (by simp;decide) (ah (zp (by decide)) (by decide)) (by simp [iA]) (by simp [iA]) q3.lk q3.kd) (by kernel_rfl) (fun _ h=>h) fun v tY w4 X4 UO sY ml ed tW=>?_
 obtain⟨vo,F4,S4,rfl,JD,eG,h4,Ad⟩:=UO
 replace ed:Ft w0 nX w4 X4 F4:=ed.less JD
 obtain⟨e1,i4⟩:=af9
 change jo w4 F4 nb lb db (mK (iA 0) (x0 4096) (iG 0) ⟨5,0,1⟩ ⟨1,1,5⟩ [y4]).1 (mK (iA 0) (x0 4096) (iG 0) ⟨5,0,1⟩ ⟨1,1,5⟩ [y4]).2.L (mK (iA 0) (x0 4096) (iG 0) ⟨5,0,1⟩ ⟨1,1,5⟩ [y4]).2.m at h4
 change Sl w4 S4 36 vo (if iJ (iG 0) ⟨5,0,1⟩ ⟨1,1,5⟩ [y4]=true then [su 31 (mK (iA 0) (x0 4096) (iG 0) ⟨5,0,1⟩ ⟨1,1,5⟩ [y4]).1.high] else [])at Ad
 rw [e1] at h4 Ad
 rw [if_pos okA] at Ad
 generalize (mK (iA 0) (x0 4096) (iG 0) ⟨5,0,1⟩ ⟨1,1,5⟩ [y4]).2=x4 at h4 i4
 have ajv:Sl w4 X4 36 vo (([s1.high]:List bZ).map (su 31)):=Ad.mono fun k ai=>ml k (eG k ai).1
 clear tW lS e1 au cw h3 h2 hdk q1 q2 q3
 repeat' first|(with_reducible apply fp);rfl
 refine dk L6 (by kernel_rfl) ed.s.has ?_
 rintro _ E3 w5 X5 ⟨a5,rfl,aiq⟩ zk sZ o9
 have gU:=ed.since o9
 have h5:=h4.mv (o9.fg ed.ba)
 have rn:Sl w5 S4 36 vo (([s1.high]:List bZ).map (su 31)):=Ad.mv (o9.fg fun k ai=>ml k (eG k ai).1)
 have UD: ∀k,F4 k→k<w4.heap.size:=fun k ai=>ed.s.has k (ed.ba k ai)
 obtain⟨q1,q2,q3⟩:=i4.Vc (p:=iv (eH (iG 4) ⟨7,0,1⟩ ⟨1,1,7⟩ [kvB])) (by omega) (by omega) (zp (by decide))
 refine gU.call (L5 (S:=made E3 w5) (l:=[kvB]) h5 q1 q2 (gU.fx fun _ h=>h) rfl aiq.sl (fun k ai=>⟨sZ k ai,fun hf=>by have:=UD k hf;have:=ai.1;omega⟩) (by simp) (by simp;decide) (ah (zp (by decide)) (by decide)) (by simp [s1,iA,SM.apply]) (by simp [s1]) q3.lk q3.kd) (by kernel_rfl) (fun _ h=>h) fun v JE w6 X6 JK Gw Ao ir Hr=>?_
 obtain⟨vo6,F6,S6,rfl,ON,A4,h6,Fb⟩:=JK
 rw [aga] at h6 Fb
 rw [if_pos okB] at Fb
 replace h6:jo w6 F6 nb lb db s1 x4.L x4.m:=h6
 replace ir:Ft w0 nX w6 X6 F6:=ir.less ON
 have air:Sl w6 S4 36 vo (([s1.high]:List bZ).map (su 31)):=rn.mv (Hr.fC fun k ai=>⟨o9.sub k (ml k (eG k ai).1),(eG k ai).2⟩)
 have ais:Sl w6 S6 36 vo6 (([s1.high]:List bZ).map (su 31)):=Fb
 have ait: ∀k,S4 k→X6 k:=fun k ai=>Hr.sub k (o9.sub k (ml k (eG k ai).1))
 have ahk:=air.mono ait
 have ahl:Sl w6 X6 36 vo6 (([s1.high]:List bZ).map (su 31)):=ais.mono fun k ai=>Ao k (A4 k ai).1
 repeat' first|(with_reducible apply fp);rfl
 obtain⟨FN,FG,mb,av,es,qy,hN,hG,hsk,hg⟩:=id h6
 refine dk (uf hsk (ir.fx hN) (by decide) (by decide)) (by kernel_rfl) ir.s.has ?_
 rintro vp wa7 w7 X7 yw acI Qk m9
 rw [ahj] at yw
 have jF:=ir.since m9
 have h7:=h6.mv (m9.fg ir.ba)
 have ajw:=ahk.mv m9.mv
 have ajx:=ahl.mv m9.mv
 have hp7:Sl w7 X7 4 vp (([y4]:List KV).map KV.l):=yw.sl.mono Qk
 have r1:([s1.high]:List bZ)[0]? =some s1.high:=rfl
 have r2:([y4]:List KV)[0]? =some y4:=rfl
 have w5:s1.high.wall=5:=rfl
 repeat' first|(with_reducible refine m7 ?_ ?_);omega|with_reducible (first|apply dz|apply cL|apply cM|apply cu|apply bE|apply bt|apply pD|apply oA)|(with_reducible apply gF<;>intro _)|(with_reducible apply zJ<;>intro _)|(with_reducible apply aM);exact qF;(· kernel_rfl);rfl;intro _ _ _|(with_reducible apply gx);exact qF;(· kernel_rfl);rfl;exact qN;intro _ _ _|(with_reducible apply aZ);exact qF;exact qM;(· kernel_rfl);rfl|(with_reducible apply bS);exact qO;(· kernel_rfl)|((with_reducible apply e7);exact qO;(try (case hz=>rfl));(case hr=>exact qR);(try (case hz=>omega));(case ht=>kernel_rfl);(case hs=>kernel_rfl);intro _ _ _)|with_reducible apply dY
 ·obtain⟨FN7,FG7,mb7,av7,es7,ajy,hN7,hG7,aiu,hg7⟩:=id h7
  refine dt (DL aiu (jF.fx hN7)) (by kernel_rfl) jF.s.has fun w8 X8 qu=>?_
  have ka:=jF.since qu
  repeat' first|(with_reducible refine m7 ?_ ?_);omega|with_reducible (first|apply cM|apply bE)|(with_reducible apply afh);(case hf=>kernel_rfl);(case hg=>kernel_rfl);(case hl=>rfl)
  exact ka.fin fun wa aR=>rfl
 ·exact absurd rfl (by assumption)
 ·exact absurd rfl (by assumption)
section
variable {P : Program} {X : XS} {w : World} {N : Value → Prop} {t : TypeId}
end
theorem Vd {x:KV} : ∀{l:List KV},x∈l→1+x.key.size+x.val.text.size≤ia l
 |y::l,h=>by
  unfold ia
  rw [bh,eZ]
  rcases List.mem_cons.1 h with rfl|h
  ·omega
  ·have:=Vd h
   unfold ia at this
   omega
def SM.zz (s:SM) (g:gR):Bool:=decide (g.kind=12)&&decide (g.br.cmp s.high>0)&&decide (g.prev=s.high)
def gR.asks (g:gR):Bool:=decide (g.err=0)&&decide (g.to=32)&&(decide (g.kind=12)||decide (g.kind=13))
theorem gR.GH {g:gR} (h:g.asks=true) (hk:g.kind=12):iJ g.prev g.br g.dH g.writes=true:=by
 simp only [gR.asks,aG,decide_eq_true_eq] at h
 have he:=h.1.1
 unfold gR.err at he
 split at he
 ·cases he
 ·split at he
  ·cases he
  ·rename_i hn
   simp only [gH,bW,not_or,kc] at hn
   have hf:=hn.2
   unfold gR.qk at hf
   simpa [hk] using hf
def uI (s:SM) (x:LD) (g:gR):SM×LD:=
 if g.asks&&s.zz g then
  let k:=x.fc 0 (iv (eH g.prev g.br g.dH g.writes))
  (if k.2.2=0 then { s.apply g.dH g.br g.writes with since:=s.since+1 } else s,k.1)
 else(s,x)
theorem Ve {w:World} {X F S:XS} {nb lb db:Nat} {s:SM} {L:LM} {m:DM} {g:gR} {vk vs vw vp vr vc vh vd:Value} (h:jo w F nb lb db s L m) (hL:j9 L) (mr:L.bR.length≤2^29) (hF:FX F X w) (iI:s.down=false)
  (gQ:g.at w S vk vs vw vp vr vc vh vd) (hS: ∀k,S k→X k∧ ¬F k) (ku:g.small) (QV:g.lens≤2^40) (hl:g.writes.length≤2^16) (tG: ∀x∈g.writes,x.key.size≤2^16)
  (Xu:iJ g.prev g.br g.dH g.writes=true→(iv (eH g.prev g.br g.dH g.writes)).length≤262144) (hd:s.done.length≤2^30) (QB:0≤s.since∧s.since<2^40)
  (L4:j9 (LD.append ⟨L,m⟩ (iv (eH g.prev g.br g.dH g.writes))).1.L) (Dg:(LD.fc ⟨L,m⟩ 0 (iv (eH g.prev g.br g.dH g.writes))).2.2≠12):
  Ct pg 15 #[ptr nb 0,g.v vk vs vw vp vr vc vh vd] w X F fun v wa w'=> ∃vo F' S',v= .tuple #[vo,I 0]∧(∀k,F' k→F k∨made wa w' k)∧(∀k,S' k→made wa w' k∧ ¬F' k)∧
   jo w' F' nb lb db (uI s ⟨L,m⟩ g).1 (uI s ⟨L,m⟩ g).2.L (uI s ⟨L,m⟩ g).2.m∧
   Sl w' S' 36 vo (if g.asks then [su g.fr (uI s ⟨L,m⟩ g).1.high] else []):=by
 intro w0 hk
 replace h:=h.mv (hF.mv hk)
 have hT:=hF.ft hk
 have jl:FX F (aW w0) w0:=hF.kp hk
 have GI:g.at w0 (out F w0) vk vs vw vp vr vc vh vd:=gQ.mv fun k ai yy=>⟨⟨aU yy hk.size,(hS k ai).2⟩,hk.block k (hS k ai).1⟩
 have vz:=GI.writes
 have q1:=GI.keys.one
 have q2:=GI.seen.one
 have q3:=vz.one
 have q4:=GI.parts.one
 have q5:=GI.ranges.one
 have q6:=GI.bY.one
 have q7:=GI.iF.one
 have q8:=GI.iD.one
 obtain⟨ab,an,ac,rfl⟩:=vz.form
 generalize hr:uI s ⟨L,m⟩ g=q
 unfold uI at hr
 obtain⟨FN,FG,mb,av,es,qy,hN,hG,cg,hg⟩:=id h
 have hb:=cg.box.mv (Mv.sub fun k ai=>hT.ba k (hN k ai))
 rw [iI] at hb
 refine AZ (fun g hg=>?_) (fun ch w hh=>by obtain⟨v,he,_⟩:=hh;cases he) ?_
 ·have e:zc Tryz.f15=some 50:=by kernel_rfl
  rw [e] at hg;cases hg;exact Re
 unfold qH
 repeat' first|with_reducible (first|apply ak|apply aK)|(with_reducible apply aM);exact qF;(· kernel_rfl);rfl;intro _ _ _|(with_reducible apply aZ);exact qF;exact qM;(· kernel_rfl);rfl|(with_reducible apply eh);exact qC
 refine dt (WE (GI.mv hT.s.mv) ku (by omega)) (by kernel_rfl) hT.s.has fun w1 X1 au=>?_
 have cO:=hT.since au
 have h1:jo w1 F nb lb db s L m:=h.mv (au.fg hT.ba)
 clear hb hg cg qy hN hG
 cases mQ:g.asks with
 |false=>
  have hq:q=(s,⟨L,m⟩):=by rw [←hr,if_neg (by simp [mQ])]
  subst hq
  have abm: ¬(g.err=0∧g.to=32∧(g.kind=12∨g.kind=13)):=by
   intro hh
   obtain⟨h1,h2,h3⟩:=hh
   simp only [gR.asks,h1,h2,decide_true,ju,pd,decide_eq_false_iff_not] at mQ
   exact h3.elim mQ.1 mQ.2
  repeat' first|(with_reducible refine xv ?_ ?_);omega|with_reducible (first|apply aD|apply dz|apply dG|apply fb|apply oR|apply cM|apply cD|apply iB|apply dW|apply pS|apply bE|apply bt)|(with_reducible apply kG<;>intro _)
  all_goals first
   |exact cO.fin fun wa aR=>⟨gf,F,nX,rfl,fun _ h=>.inl h,fun _ h=>h.elim,h1.mv (aR.fC cO.ba),by rw [if_neg (by simp)];exact Sl.nil _ _ _⟩
   |(exfalso;omega)
 |true=>
  have aiv:g.err=0∧g.to=32∧(g.kind=12∨g.kind=13):=by
   simpa [gR.asks,and_assoc] using mQ
  obtain⟨y1,y2,y3⟩:=aiv
  rw [y1]
  rcases y3 with y3|y3
  ·repeat' first|(with_reducible refine fL ?_ ?_);omega|with_reducible (first|apply ak|apply dG|apply cL|apply cD|apply iB|apply cu|apply bt)
   refine fV (Q:=fun K=> ∀w2 X2 F2,Ft w0 F w2 X2 F2→jo w2 F2 nb lb db q.1 q.2.L q.2.m→K w2 X2) ?_ fun K hK=>?_
   ·intro w2 X2 F2 bM h2
    obtain⟨FN,FG,mb,av,es,qy,hN,hG,b6,hg⟩:=id h2
    have qt:=b6.box.mv (Mv.sub fun k ai=>bM.ba k (hN k ai))
    repeat' first|(with_reducible apply gP);rfl|with_reducible apply aK|(with_reducible apply gx);exact qF;(· kernel_rfl);rfl;exact qN;intro _ _ _|(with_reducible apply fP);exact qF;exact qM;(· kernel_rfl);rfl|(with_reducible apply gg);(· kernel_rfl)
    refine Km bM.s.has (by kernel_rfl) rfl fun v w3 X3 cw pY=>?_
    have ov:=pY.sl.one
    repeat' first|(with_reducible apply eh);exact qC
    have cP:=bM.since cw
    refine cP.fin fun wa aR=>⟨v,F2,jw v,rfl,cP.gK aR fun _ h=>h,fun k ai=>?_,(h2.mv (cw.fg bM.ba)).mv (aR.fC cP.ba),?_⟩
    ·obtain⟨a1,a2⟩:=pY.ge ai
     have b1:=bM.s.kp.size
     have b3:=aR.size
     refine⟨⟨by omega,by omega⟩,fun hf=>?_⟩
     have:=bM.s.has k (bM.ba k hf)
     omega
    ·rw [if_pos rfl]
     exact(pY.kp aR).ow.tight.sl
   ·obtain⟨FN,FG,mb,av,es,qy,hN,hG,wE,hg⟩:=id h1
    have mF:=wE.box.mv (Mv.sub fun k ai=>cO.ba k (hN k ai))
    repeat' first|(with_reducible refine m7 ?_ ?_);omega|with_reducible (first|apply dz|apply cM|apply rR|apply aK)|(with_reducible apply gx);exact qF;(· kernel_rfl);rfl;exact qN;intro _ _ _|(with_reducible apply fP);exact qF;exact qM;(· kernel_rfl);rfl
    refine fV (Q:=fun K1=> ∀w2 X2,aj X1 w1 X2 w2→K1 (I (g.br.cmp s.high)) w2 X2) ?_ fun K1 JJ=>?_
    ·intro w2 X2 b6
     have bM:=cO.since b6
     have h2:=h1.mv (b6.fg cO.ba)
     have qt:=mF.since b6
     have m4:s.zz g=false→K w2 X2:=fun hf=>hK _ _ F bM (by
      have hq:q=(s,⟨L,m⟩):=by rw [←hr,if_neg (by simp [hf])]
      rw [hq];exact h2)
     repeat' first|with_reducible (first|apply aD|apply ak|apply dz|apply cL|apply cM|apply rR|apply cu|apply bE|apply bt|apply aK)|(with_reducible apply kF<;>intro _)|(with_reducible apply gx);exact qF;(· kernel_rfl);rfl;exact qN;intro _ _ _|(with_reducible apply fP);exact qF;exact qM;(· kernel_rfl);rfl|(with_reducible apply gg);(· kernel_rfl)|(with_reducible refine Oe _ _ ?_ ?_ ?_);(· kernel_rfl);all_goals intros
     case refine_2.k=>
      have hp:g.prev=s.high:=by first|assumption|(ext<;>assumption)
      have xA:s.zz g=true:=by
       simp only [SM.zz,y3,decide_true,ju,aG,decide_eq_true_eq]
       exact⟨by assumption,hp⟩
      rw [mQ,xA,ju,if_pos rfl] at hr
      dsimp only at hr
      have vj:=gR.GH mQ y3
      have MY: ∀wa,Kp X2 w2 wa→Ct pg 91 #[(eH g.prev g.br g.dH g.writes).v gf (.slice ab an ac) gf gf gf gf] wa (out F wa) nX fun v wb w'=>
        if(0:Nat)≠0 then v= .tuple #[.slice none 0 0,I (0:Nat)] else∃vb,v= .tuple #[vb,I 0]∧Own w' (made wb w') wb.heap.size 5 1 vb ((iv (eH g.prev g.br g.dH g.writes)).map U1):=fun wa aR=>by
       have xi:Sl wa (out F wa) 4 (.slice ab an ac) (g.writes.map KV.l):=vz.mv fun k ai yy=>⟨⟨aU ai.1 (ah bM.s.kp.size aR.size),ai.2⟩,(aR.block k (bM.s.sub k ai)).trans (bM.s.kp.block k ai)⟩
       refine(zj (r:=eH g.prev g.br g.dH g.writes) ⟨Sl.nil _ _ _,xi,Sl.nil _ _ _,Sl.nil _ _ _,iw.nil _ _ _,iw.nil _ _ _⟩ ?_ rfl (fun _=>⟨hl,tG,Xu vj⟩)).mono fun v wb w' _ hq=>?_
       ·exact⟨by simp [eH],by simp [eH];omega,by simp [eH],fun x hx=>by have:=tG x hx;omega,⟨by simp [eH,State.zero,Aa],by simp [eH,State.zero,z8],by simp [eH,State.zero,Gf],by simp [eH,State.zero,Gg]⟩⟩
       ·rw [MZ vj,if_neg (by simp)] at hq
        rw [if_neg (by simp)]
        exact hq
      refine bM.call (DN (r:=eH g.prev g.br g.dH g.writes) (e:=0) h2 hL mr (bM.fx fun _ h=>h) MY rfl rfl rfl rfl rfl rfl L4 Dg) (by kernel_rfl) (fun _ h=>h) fun v qw w3 X3 Hq rr oG cP oe=>?_
      obtain⟨rfl,F3,JF,h3⟩:=Hq
      generalize LD.fc ⟨L,m⟩ 0 (iv (eH g.prev g.br g.dH g.writes))=kp at hr h3⊢
      have il:Ft w0 F w3 X3 F3:=cP.less JF
      repeat' first|with_reducible (first|apply aD|apply ak)|(with_reducible apply gF<;>intro _)|(with_reducible apply fp);rfl
      ·rename_i hz
       have xp:kp.2.2=0:=by omega
       rw [if_pos xp] at hr
       refine il.call (Ht (l:=g.writes) h3 (il.fx fun _ h=>h) (S:=out F w0) (vz.mv fun k ai _=>⟨ai,il.s.kp.block k ai⟩) (fun k ai=>⟨?_,?_⟩) (by omega) hd) (by kernel_rfl) (fun _ h=>h) fun v tY w4 X4 UO sY ml ed tW=>?_
       ·exact il.s.sub k ai
       ·exact fun hf=>il.no hf ai
       obtain⟨rfl,F4,JD,h4⟩:=UO
       have pI:Ft w0 F w4 X4 F4:=ed.less JD
       obtain⟨FN4,FG4,mb4,av4,es4,acD,UP,hG4,fw,hg4⟩:=id h4
       have uT:=fw.box.mv (Mv.sub fun k ai=>pI.ba k (UP k ai))
       rw [show(s.apply g.dH g.br g.writes).since=s.since from rfl] at uT
       repeat' first|with_reducible apply aK|(with_reducible apply aM);exact qF;(· kernel_rfl);rfl;intro _ _ _|(with_reducible apply aZ);exact qF;exact qM;(· kernel_rfl);rfl|(with_reducible apply cx);omega;omega
       refine lB (o:=2) uT (by omega) (by kernel_rfl) (by simp) rfl pI.s.has fun w5 X5 c5 sM=>?_
       have gU:Ft w0 F w5 X5 F4:=pI.ej c5 (fun k ai=>by subst ai;exact UP _ fw.box.1) fun k ai=>.inl ai
       have h5:=jo.M3 acD UP hG4 pI.ba fw hg4 c5 (s.since+1) sM
       refine hK _ _ F4 gU ?_
       rw [←hr]
       exact h5
      ·rename_i hz
       have xp:kp.2.2≠0:=by omega
       rw [if_neg xp] at hr
       refine hK _ _ F3 il ?_
       rw [←hr]
       exact h3
     all_goals exact m4 (by simp [SM.zz, *])
    ·repeat' first|with_reducible apply pD|(refine iO (pM g.br s.high) (by kernel_rfl) cO.s.has fun w2 X2 b6=>?_)
     exact JJ _ _ b6
  ·repeat' first|(with_reducible refine xv ?_ ?_);omega|(with_reducible refine fL ?_ ?_);omega|with_reducible (first|apply ak|apply dz|apply dG|apply cM|apply cD|apply iB|apply bE|apply bt)
   refine fV (Q:=fun K=> ∀w2 X2 F2,Ft w0 F w2 X2 F2→jo w2 F2 nb lb db q.1 q.2.L q.2.m→K w2 X2) ?_ fun K hK=>?_
   ·intro w2 X2 F2 bM h2
    obtain⟨FN,FG,mb,av,es,qy,hN,hG,b6,hg⟩:=id h2
    have qt:=b6.box.mv (Mv.sub fun k ai=>bM.ba k (hN k ai))
    repeat' first|(with_reducible apply gP);rfl|with_reducible apply aK|(with_reducible apply gx);exact qF;(· kernel_rfl);rfl;exact qN;intro _ _ _|(with_reducible apply fP);exact qF;exact qM;(· kernel_rfl);rfl|(with_reducible apply gg);(· kernel_rfl)
    refine Km bM.s.has (by kernel_rfl) rfl fun v w3 X3 cw pY=>?_
    have ov:=pY.sl.one
    repeat' first|(with_reducible apply eh);exact qC
    have cP:=bM.since cw
    refine cP.fin fun wa aR=>⟨v,F2,jw v,rfl,cP.gK aR fun _ h=>h,fun k ai=>?_,(h2.mv (cw.fg bM.ba)).mv (aR.fC cP.ba),?_⟩
    ·obtain⟨a1,a2⟩:=pY.ge ai
     have b1:=bM.s.kp.size
     have b3:=aR.size
     refine⟨⟨by omega,by omega⟩,fun hf=>?_⟩
     have:=bM.s.has k (bM.ba k hf)
     omega
    ·rw [if_pos rfl]
     exact(pY.kp aR).ow.tight.sl
   ·obtain⟨FN,FG,mb,av,es,qy,hN,hG,wE,hg⟩:=id h1
    have mF:=wE.box.mv (Mv.sub fun k ai=>cO.ba k (hN k ai))
    have m4: ∀w2 X2,aj X1 w1 X2 w2→K w2 X2:=fun w2 X2 b6=>hK _ _ F (cO.since b6) (by
      have hq:q=(s,⟨L,m⟩):=by rw [←hr,if_neg (by simp [SM.zz,y3])]
      rw [hq];exact h1.mv (b6.fg cO.ba))
    repeat' first|(with_reducible refine qU ?_ ?_);omega|with_reducible (first|apply cL|apply cu)
    refine fV (Q:=fun K1=> ∀v,K1 v w1 X1) ?_ fun K1 JJ=>?_
    ·intro vc'
     repeat' first|with_reducible (first|apply ak|apply cL|apply cu|apply bt)
     all_goals exact m4 _ _ (aj.eP cO.s.has)
    ·repeat' first|with_reducible apply oA
     all_goals exact JJ _
theorem aen {n more:Int} (h1:0≤n) (h2:n≤40002) (h3:0≤more):0≤GF n more 20000∧GF n more 20000≤40001∧(GF n more 20000≤20000→GF n more 20000=n+more):=by
 unfold GF;split<;>omega
theorem sx {R:Ending→World→Prop} {w:World} {X:XS} {b:Bool} {n more:Int} {N:Value→World→XS→Prop} (h1:0≤n∧n≤40002) (h2:0≤more∧more≤2^42) (hX: ∀k,X k→k<w.heap.size)
  (k: ∀m w' X',0≤m∧m≤40001∧(m≤20000→m=n+more)→aj X w X' w'→N (I m) w' X'):eC pg R X w b 40 #[I n,I more,I 20000] N:=by
 obtain⟨a1,a2,a3⟩:=aen h1.1 h1.2 h2.1
 exact iO (Sj (by omega) h2 (by decide)) (by kernel_rfl) hX fun w' X' hs=>k _ w' X' ⟨a1,a2,a3⟩ hs
abbrev XN:Value→World→World→Prop:=fun v _ _=> ∃n:Int,v=I n∧0≤n∧n≤40001
theorem GJ {w:World} {X:XS} {a:Value} {xs:List BA} (ha:Sl w X 1 a (xs.map S1)) (eu: ∀x∈xs,x.size≤2^40):Ct pg 23 #[a,I 20000] w X nX XN:=by
 intro w0 hk
 replace ha:=ha.mv hk.dA
 have nw:=ha.gW
 apply EN;unfold wM
 have hs:=aj.init w0
 refine iN (fun n a b w X=> ∃(i:Nat) (s:Int),a=I i∧b=I s∧n=(xs).length-i∧i≤(xs).length∧(0≤s∧s≤40001)∧aj (aW w0) w0 X w) (xs).length ⟨0,_,rfl,rfl,rfl,aV _,by omega,hs⟩ ?_
 clear hs
 rintro n a b w X ⟨i,s,rfl,rfl,rfl,hi,hw,hs⟩
 rcases fh (xs) i with⟨dh,x,hx,hd⟩|⟨eI,hd⟩
 ·have z1:=eu x (bg hx)
  repeat' first|(with_reducible refine dC ?_ ?_);omega|with_reducible (first|apply aD|apply ak|apply dz|apply cM|apply bE)|(with_reducible apply jK<;>intro _)|(with_reducible apply aZ);exact qF;exact qM;(· kernel_rfl);rfl|(with_reducible apply bS);exact qO;(· kernel_rfl)|(with_reducible apply rV);(· kernel_rfl)|((with_reducible apply e7);exact qO;(try (case hz=>rfl));(case hr=>exact qR);(try (case hz=>omega));(case ht=>kernel_rfl);(case hs=>kernel_rfl);intro _ _ _)|(with_reducible apply cx);omega;omega|(with_reducible refine sx (by omega) (by omega) hs.has fun m w X hm au=>?_;replace hs:=hs.trans au)
  ·exact iC (xs.length-(i+1)) (by omega) ⟨i+1,_,by simp,rfl,rfl,by omega,by omega,hs⟩
  ·exact aq hs fun wa aR=>⟨s,rfl,by omega,by omega⟩
 ·repeat' first|(with_reducible refine dm ?_ ?_);omega|with_reducible (first|apply ak|apply cL|apply cu|apply bt)|(with_reducible apply bS);exact qO;(· kernel_rfl)
  all_goals exact aq hs fun wa aR=>⟨s,rfl,by omega,by omega⟩
theorem aaV {w:World} {X:XS} {a:Value} {xs:List nz} (ha:Sl w X 7 a (xs.map nz.l)) (eu: ∀x∈xs,x.key.size≤2^40∧x.val.text.size≤2^40):Ct pg 108 #[a,I 20000] w X nX XN:=by
 intro w0 hk
 replace ha:=ha.mv hk.dA
 have nw:=ha.gW
 apply FO;unfold xK
 have hs:=aj.init w0
 refine iN (fun n a b w X=> ∃(i:Nat) (s:Int),a=I i∧b=I s∧n=(xs).length-i∧i≤(xs).length∧(0≤s∧s≤40001)∧aj (aW w0) w0 X w) (xs).length ⟨0,_,rfl,rfl,rfl,aV _,by omega,hs⟩ ?_
 clear hs
 rintro n a b w X ⟨i,s,rfl,rfl,rfl,hi,hw,hs⟩
 rcases fh (xs) i with⟨dh,x,hx,hd⟩|⟨eI,hd⟩
 ·have z1:=eu x (bg hx)
  repeat' first|(with_reducible refine dC ?_ ?_);omega|with_reducible (first|apply aD|apply ak|apply dz|apply cM|apply bE)|(with_reducible apply jK<;>intro _)|(with_reducible apply aM);exact qF;(· kernel_rfl);rfl;intro _ _ _|(with_reducible apply gx);exact qF;(· kernel_rfl);rfl;exact qN;intro _ _ _|(with_reducible apply aZ);exact qF;exact qM;(· kernel_rfl);rfl|(with_reducible apply bS);exact qO;(· kernel_rfl)|(with_reducible apply rV);(· kernel_rfl)|((with_reducible apply e7);exact qO;(try (case hz=>rfl));(case hr=>exact qR);(try (case hz=>omega));(case ht=>kernel_rfl);(case hs=>kernel_rfl);intro _ _ _)|(with_reducible apply cx);omega;omega|(with_reducible refine sx (by omega) (by omega) hs.has fun m w X hm au=>?_;replace hs:=hs.trans au)
  ·exact iC (xs.length-(i+1)) (by omega) ⟨i+1,_,by simp,rfl,rfl,by omega,by omega,hs⟩
  ·exact aq hs fun wa aR=>⟨s,rfl,by omega,by omega⟩
 ·repeat' first|(with_reducible refine dm ?_ ?_);omega|with_reducible (first|apply ak|apply cL|apply cu|apply bt)|(with_reducible apply bS);exact qO;(· kernel_rfl)
  all_goals exact aq hs fun wa aR=>⟨s,rfl,by omega,by omega⟩
theorem DS {w:World} {X:XS} {a:Value} {xs:List KV} (ha:Sl w X 4 a (xs.map KV.l)) (eu: ∀x∈xs,x.key.size≤2^40∧x.val.text.size≤2^40):
  Ct pg 10 #[a,I 20000] w X nX fun v _ _=> ∃n:Int,v=I n∧0≤n∧n≤40001∧(n≤20000→(ia xs:Int)≤n):=by
 intro w0 hk
 replace ha:=ha.mv hk.dA
 have nw:=ha.gW
 apply DB;unfold vG
 have hs:=aj.init w0
 refine iN (fun n a b w X=> ∃(i:Nat) (s:Int),a=I i∧b=I s∧n=xs.length-i∧i≤xs.length∧(0≤s∧s≤40001∧(s≤20000→(ia (xs.take i):Int)≤s))∧aj (aW w0) w0 X w) xs.length ⟨0,_,rfl,rfl,rfl,aV _,by simp [ia],hs⟩ ?_
 clear hs
 rintro n a b w X ⟨i,s,rfl,rfl,rfl,hi,hw,hs⟩
 rcases fh (xs) i with⟨dh,x,hx,hd⟩|⟨eI,hd⟩
 ·have z1:=eu x (bg hx)
  have acR:ia (xs.take (i+1))=ia (xs.take i)+(1+x.key.size+x.val.text.size):=by rw [dI,hx];simp [ia]
  repeat' first|(with_reducible refine dC ?_ ?_);omega|with_reducible (first|apply aD|apply ak|apply dz|apply cM|apply bE)|(with_reducible apply jK<;>intro _)|(with_reducible apply aM);exact qF;(· kernel_rfl);rfl;intro _ _ _|(with_reducible apply gx);exact qF;(· kernel_rfl);rfl;exact qN;intro _ _ _|(with_reducible apply aZ);exact qF;exact qM;(· kernel_rfl);rfl|(with_reducible apply bS);exact qO;(· kernel_rfl)|(with_reducible apply rV);(· kernel_rfl)|((with_reducible apply e7);exact qO;(try (case hz=>rfl));(case hr=>exact qR);(try (case hz=>omega));(case ht=>kernel_rfl);(case hs=>kernel_rfl);intro _ _ _)|(with_reducible apply cx);omega;omega|(with_reducible refine sx (by omega) (by omega) hs.has fun m w X hm au=>?_;replace hs:=hs.trans au)
  ·exact iC (xs.length-(i+1)) (by omega) ⟨i+1,_,by simp,rfl,rfl,by omega,by rw [acR];omega,hs⟩
  ·exact aq hs fun wa aR=>⟨s,rfl,by omega,by omega,fun h=>by omega⟩
 ·have mP:i=xs.length:=by omega
  subst mP
  rw [dV] at hw
  repeat' first|(with_reducible refine dm ?_ ?_);omega|with_reducible (first|apply ak|apply cL|apply cu|apply bt)|(with_reducible apply bS);exact qO;(· kernel_rfl)
  all_goals exact aq hs fun wa aR=>⟨s,rfl,by omega,by omega,hw.2.2⟩
def KA (l:List jO):Prop:= ∀h∈l,h.key.size≤2^40∧ ∀v∈h.kn,v.val.text.size≤2^40
def OR (l:List KV):Prop:= ∀x∈l,x.key.size≤2^40∧x.val.text.size≤2^40
def KB (l:List fk):Prop:= ∀p∈l,(∀k∈p.reads,k.size≤2^40)∧OR p.writes
theorem Sk {w:World} {X:XS} {a:Value} {xs:List fk} (ha:mC w X a xs) (eu:KB xs):Ct pg 177 #[a,I 20000] w X nX XN:=by
 intro w0 hk
 replace ha:=ha.mv hk.dA
 have nw:=ha.len
 apply B7;unfold tT
 have hs:=aj.init w0
 refine iN (fun n a b w X=> ∃(i:Nat) (s:Int),a=I i∧b=I s∧n=(xs).length-i∧i≤(xs).length∧(0≤s∧s≤40001)∧aj (aW w0) w0 X w) (xs).length ⟨0,_,rfl,rfl,rfl,aV _,by omega,hs⟩ ?_
 clear hs
 rintro n a b w X ⟨i,s,rfl,rfl,rfl,hi,hw,hs⟩
 rcases fh (xs) i with⟨dh,x,hx,hd⟩|⟨eI,hd⟩
 ·obtain⟨z1,z2⟩:=eu x (bg hx)
  repeat' first|(with_reducible refine dC ?_ ?_);omega|with_reducible (first|apply aD|apply ak|apply dz|apply cM|apply bE)|(with_reducible apply jK<;>intro _)|(with_reducible apply aM);exact qF;(· kernel_rfl);rfl;intro _ _ _|(with_reducible apply aZ);exact qF;exact qM;(· kernel_rfl);rfl|(with_reducible apply nL);assumption;(· kernel_rfl)|((with_reducible apply St);assumption;(try (case hz=>rfl));(case hr=>exact qR);(try (case hz=>omega));(case ht=>kernel_rfl);(case hs=>kernel_rfl);intros)|(with_reducible apply cx);omega;omega|(with_reducible refine sx (by omega) (by omega) hs.has fun m w X hm au=>?_;replace hs:=hs.trans au)|(refine dk (GJ (Sl.mv (by assumption) hs.mv) z1) (by kernel_rfl) hs.has ?_;rintro _ wa w X ⟨n1,rfl,W7,W8⟩ hle hU au;replace hs:=hs.trans au)|(refine dk (DS (Sl.mv (by assumption) hs.mv) z2) (by kernel_rfl) hs.has ?_;rintro _ wa w X ⟨n2,rfl,hn3,hn4,_⟩ hle hU au;replace hs:=hs.trans au)
  all_goals first
   |exact iC (xs.length-(i+1)) (by omega) ⟨i+1,_,by simp,rfl,rfl,by omega,by omega,hs⟩
   |exact aq hs fun wa aR=>⟨s,rfl,by omega,by omega⟩
 ·repeat' first|(with_reducible refine dm ?_ ?_);omega|with_reducible (first|apply ak|apply cL|apply cu|apply bt)|(with_reducible apply nL);assumption;(· kernel_rfl)
  all_goals exact aq hs fun wa aR=>⟨s,rfl,by omega,by omega⟩
theorem Qm {w:World} {X:XS} {a:Value} {xs:List jO} (ha:mW w X a xs) (eu:KA xs):Ct pg 176 #[a,I 20000] w X nX XN:=by
 intro w0 hk
 replace ha:=ha.mv hk.dA
 have nw:=ha.len
 apply Bg;unfold tf
 have hs:=aj.init w0
 refine Eh (fun n a _ b w X=> ∃(i:Nat) (s:Int),a=I i∧b=I s∧n=xs.length-i∧i≤xs.length∧(0≤s∧s≤40001)∧aj (aW w0) w0 X w) xs.length ⟨0,_,rfl,rfl,rfl,aV _,by omega,hs⟩ ?_
 clear hs
 rintro n a a2 b w X ⟨i,s,rfl,rfl,rfl,hi,hw,hs⟩
 rcases fh (xs) i with⟨dh,x,hx,hd⟩|⟨eI,hd⟩
 ·obtain⟨z1,z2⟩:=eu x (bg hx)
  repeat' first|(with_reducible refine dC ?_ ?_);omega|with_reducible (first|apply aD|apply ak|apply dz|apply cM|apply bE)|(with_reducible apply jK<;>intro _)|(with_reducible apply aM);exact qF;(· kernel_rfl);rfl;intro _ _ _|(with_reducible apply aZ);exact qF;exact qM;(· kernel_rfl);rfl|(with_reducible apply nL);assumption;(· kernel_rfl)|(with_reducible apply rV);(· kernel_rfl)|((with_reducible apply Ks);assumption;(try (case hz=>rfl));(case hr=>exact qR);(try (case hz=>omega));(case ht=>kernel_rfl);(case hs=>kernel_rfl);intros)|(with_reducible apply cx);omega;omega|(with_reducible refine sx (by omega) (by omega) hs.has fun m w X hm au=>?_;replace hs:=hs.trans au)
  ·have hl9:=Sl.gW ‹Sl w0 (aW w0) 6 _ (List.map lV.l x.kn)›
   refine iN (fun n a b w X=> ∃(k:Nat) (s:Int),a=I k∧b=I s∧n=x.kn.length-k∧k≤x.kn.length∧(0≤s∧s≤40001)∧aj (aW w0) w0 X w) x.kn.length ⟨0,_,rfl,rfl,rfl,aV _,by omega,hs⟩ ?_
   clear hs hw
   rintro n a b w X ⟨k,s,rfl,rfl,rfl,hk,hw,hs⟩
   rcases fh x.kn k with⟨YN,y,hy,pO⟩|⟨P3,pO⟩
   ·have z3:=z2 y (bg hy)
    repeat' first|(with_reducible refine dC ?_ ?_);omega|with_reducible (first|apply aD|apply ak|apply dz|apply cM|apply bE)|(with_reducible apply jK<;>intro _)|(with_reducible apply aM);exact qF;(· kernel_rfl);rfl;intro _ _ _|(with_reducible apply gx);exact qF;(· kernel_rfl);rfl;exact qN;intro _ _ _|(with_reducible apply aZ);exact qF;exact qM;(· kernel_rfl);rfl|(with_reducible apply bS);exact qO;(· kernel_rfl)|(with_reducible apply rV);(· kernel_rfl)|((with_reducible apply e7);exact qO;(try (case hz=>rfl));(case hr=>exact qR);(try (case hz=>omega));(case ht=>kernel_rfl);(case hs=>kernel_rfl);intro _ _ _)|((with_reducible apply Ks);assumption;(try (case hz=>rfl));(case hr=>exact qR);(try (case hz=>omega));(case ht=>kernel_rfl);(case hs=>kernel_rfl);intros)|(with_reducible apply cx);omega;omega|(with_reducible refine sx (by omega) (by omega) hs.has fun m w X hm au=>?_;replace hs:=hs.trans au)
    ·exact iC (x.kn.length-(k+1)) (by omega) ⟨k+1,_,by simp,rfl,rfl,by omega,by omega,hs⟩
    ·exact BN (xs.length-(i+1)) (by omega) ⟨i+1,_,by simp,rfl,rfl,by omega,by omega,hs⟩
   ·repeat' first|(with_reducible refine dm ?_ ?_);omega|with_reducible (first|apply ak|apply cL|apply cu|apply bt)|(with_reducible apply aM);exact qF;(· kernel_rfl);rfl;intro _ _ _|(with_reducible apply aZ);exact qF;exact qM;(· kernel_rfl);rfl|(with_reducible apply bS);exact qO;(· kernel_rfl)|((with_reducible apply Ks);assumption;(try (case hz=>rfl));(case hr=>exact qR);(try (case hz=>omega));(case ht=>kernel_rfl);(case hs=>kernel_rfl);intros)|(with_reducible apply cx);omega;omega
    all_goals exact BN (xs.length-(i+1)) (by omega) ⟨i+1,_,by simp,rfl,rfl,by omega,by omega,hs⟩
  ·exact aq hs fun wa aR=>⟨s,rfl,by omega,by omega⟩
 ·repeat' first|(with_reducible refine dm ?_ ?_);omega|with_reducible (first|apply ak|apply cL|apply cu|apply bt)|(with_reducible apply nL);assumption;(· kernel_rfl)
  all_goals exact aq hs fun wa aR=>⟨s,rfl,by omega,by omega⟩
theorem Bn {w:World} {X:XS} {s:State} {vh vp:Value} (ha:mW w X vh s.iF) (hb:mC w X vp s.iD) (h1:KA s.iF) (h2:KB s.iD):Ct pg 110 #[s.v vh vp,I 20000] w X nX XN:=by
 intro w0 hk
 replace ha:=ha.mv hk.dA
 replace hb:=hb.mv hk.dA
 apply EP;unfold wN
 have hs:=aj.init w0
 refine dk (Qm ha h1) (by kernel_rfl) hs.has ?_
 rintro _ wa w X ⟨n1,rfl,W7,W8⟩ hle hU au
 replace hs:=hs.trans au
 refine dk (Sk (mC.mv hb hs.mv) h2) (by kernel_rfl) hs.has ?_
 rintro _ wa w X ⟨n2,rfl,hn3,hn4⟩ hle hU au
 replace hs:=hs.trans au
 repeat' first|(with_reducible refine sx (by omega) (by omega) hs.has fun m w X hm au=>?_;replace hs:=hs.trans au)
 exact aq hs fun wa aR=>⟨_,rfl,by omega,by omega⟩
structure Rec.text (r:Rec):Prop where
 reads: ∀k∈r.reads,k.size≤2^40
 writes:OR r.writes
 bH:OR r.bH
 h:KA r.state.iF
 p:KB r.state.iD
theorem acS {w:World} {X:XS} {r:Rec} {vr vw vp vq vh vd:Value} (ha:r.at w X vr vw vp vq vh vd) (ht:r.text):Ct pg 109 #[r.v vr vw vp vq vh vd,I 20000] w X nX XN:=by
 intro w0 hk
 obtain⟨h1,h2,h3,h4,h5,h6⟩:=ha.mv hk.dA
 have nw:=h4.gW
 have hl3:=h3.gW
 apply HO;unfold yI
 have hs:=aj.init w0
 refine dk (GJ h1 ht.reads) (by kernel_rfl) hs.has ?_
 rintro _ wa w X ⟨n1,rfl,W7,W8⟩ hle hU au
 replace hs:=hs.trans au
 refine dk (DS (h2.mv hs.mv) ht.writes) (by kernel_rfl) hs.has ?_
 rintro _ wa w X ⟨n2,rfl,hn3,hn4,_⟩ hle hU au
 replace hs:=hs.trans au
 repeat' first|(with_reducible apply bS);exact qO;(· kernel_rfl)|(with_reducible apply cx);omega;omega|(with_reducible apply Yt)|(with_reducible refine sx (by omega) (by omega) hs.has fun m w X hm au=>?_;replace hs:=hs.trans au)
 refine iN (fun n a b w X=> ∃(i:Nat) (s:Int),a=I i∧b=I s∧n=(r.bH).length-i∧i≤(r.bH).length∧(0≤s∧s≤40001)∧aj (aW w0) w0 X w) (r.bH).length ⟨0,_,rfl,rfl,rfl,aV _,by omega,hs⟩ ?_
 clear hs
 rintro n a b w X ⟨i,s,rfl,rfl,rfl,hi,hw,hs⟩
 rcases fh (r.bH) i with⟨dh,x,hx,hd⟩|⟨eI,hd⟩
 ·have z1:=ht.bH x (bg hx)
  repeat' first|(with_reducible refine dC ?_ ?_);omega|with_reducible (first|apply aD|apply ak|apply dz|apply cM|apply bE)|(with_reducible apply jK<;>intro _)|(with_reducible apply aM);exact qF;(· kernel_rfl);rfl;intro _ _ _|(with_reducible apply gx);exact qF;(· kernel_rfl);rfl;exact qN;intro _ _ _|(with_reducible apply aZ);exact qF;exact qM;(· kernel_rfl);rfl|(with_reducible apply bS);exact qO;(· kernel_rfl)|(with_reducible apply rV);(· kernel_rfl)|((with_reducible apply e7);exact qO;(try (case hz=>rfl));(case hr=>exact qR);(try (case hz=>omega));(case ht=>kernel_rfl);(case hs=>kernel_rfl);intro _ _ _)|(with_reducible apply cx);omega;omega|(with_reducible refine sx (by omega) (by omega) hs.has fun m w X hm au=>?_;replace hs:=hs.trans au)
  ·exact iC (r.bH.length-(i+1)) (by omega) ⟨i+1,_,by simp,rfl,rfl,by omega,by omega,hs⟩
  ·refine dk (Bn (s:=r.state) (mW.mv h5 hs.mv) (mC.mv h6 hs.mv) ht.h ht.p) (by kernel_rfl) hs.has ?_
   rintro _ wa w X ⟨n3,rfl,hn5,hn6⟩ hle hU au
   replace hs:=hs.trans au
   repeat' first|(with_reducible refine sx (by omega) (by omega) hs.has fun m w X hm au=>?_;replace hs:=hs.trans au)
   exact aq hs fun wa aR=>⟨_,rfl,by omega,by omega⟩
 ·repeat' first|(with_reducible refine dm ?_ ?_);omega|with_reducible (first|apply ak|apply cL|apply cu|apply bt)|(with_reducible apply bS);exact qO;(· kernel_rfl)|(with_reducible apply cx);omega;omega
  all_goals (refine dk (Bn (s:=r.state) (mW.mv h5 hs.mv) (mC.mv h6 hs.mv) ht.h ht.p) (by kernel_rfl) hs.has ?_;rintro _ wa w X ⟨n3,rfl,hn5,hn6⟩ hle hU au;replace hs:=hs.trans au)
  repeat' first|(with_reducible refine sx (by omega) (by omega) hs.has fun m w X hm au=>?_;replace hs:=hs.trans au)
  all_goals exact aq hs fun wa aR=>⟨_,rfl,by omega,by omega⟩
structure gR.text (m:gR):Prop where
 keys: ∀k∈m.keys,k.size≤2^40
 seen: ∀x∈m.seen,x.key.size≤2^40∧x.val.text.size≤2^40
 writes:OR m.writes
 bY: ∀r∈m.bY,r.text
 h:KA m.state.iF
 p:KB m.state.iD
theorem acT {w:World} {X:XS} {g:gR} {vk vs vw vp vr vc vh vd:Value} (ha:g.at w X vk vs vw vp vr vc vh vd) (ht:g.text):
  Ct pg 61 #[g.v vk vs vw vp vr vc vh vd,I 20000] w X nX fun v _ _=> ∃n:Int,v=I n∧0≤n∧n≤40001∧(n≤20000→(ia g.writes:Int)+1≤n):=by
 intro w0 hk
 obtain⟨h1,h2,h3,h4,h5,h6,h7,h8⟩:=ha.mv hk.dA
 have nw:=h4.gW
 have BE:=h5.gW
 have hlc:=h6.len
 apply HM;unfold yG
 have hs:=aj.init w0
 refine dk (GJ h1 ht.keys) (by kernel_rfl) hs.has ?_
 rintro _ wa w X ⟨n1,rfl,W7,W8⟩ hle hU au
 replace hs:=hs.trans au
 refine dk (aaV (h2.mv hs.mv) ht.seen) (by kernel_rfl) hs.has ?_
 rintro _ wa w X ⟨n2,rfl,hn3,hn4⟩ hle hU au
 replace hs:=hs.trans au
 repeat' first|(with_reducible refine sx (by omega) (by omega) hs.has fun m w X hm au=>?_;replace hs:=hs.trans au)
 refine dk (DS (h3.mv hs.mv) ht.writes) (by kernel_rfl) hs.has ?_
 rintro _ wa w X ⟨n3,rfl,hn5,hn6,hn7⟩ hle hU au
 replace hs:=hs.trans au
 repeat' first|(with_reducible apply bS);exact qO;(· kernel_rfl)|(with_reducible apply cx);omega;omega|(with_reducible apply Yt)|(with_reducible refine sx (by omega) (by omega) hs.has fun m w X hm au=>?_;replace hs:=hs.trans au)
 refine iN (fun n a b w X=> ∃(i:Nat) (s:Int),a=I i∧b=I s∧n=(g.bY).length-i∧i≤(g.bY).length∧(0≤s∧s≤40001∧(s≤20000→(ia g.writes:Int)≤s))∧aj (aW w0) w0 X w) (g.bY).length ⟨0,_,rfl,rfl,rfl,aV _,by omega,hs⟩ ?_
 clear hs
 rintro n a b w X ⟨i,s,rfl,rfl,rfl,hi,hw,hs⟩
 rcases fh (g.bY) i with⟨dh,x,hx,hd⟩|⟨eI,hd⟩
 ·have z1:=ht.bY x (bg hx)
  repeat' first|(with_reducible refine dC ?_ ?_);omega|with_reducible (first|apply aD|apply ak|apply dz|apply cM|apply bE)|(with_reducible apply jK<;>intro _)|(with_reducible apply fP);exact qF;exact qM;(· kernel_rfl);rfl|(with_reducible apply nL);assumption;(· kernel_rfl)|((with_reducible apply Xr);assumption;(try (case hz=>rfl));(case hr=>exact qR);(try (case hz=>omega));(case ht=>kernel_rfl);(case hs=>kernel_rfl);intros)|(with_reducible apply cx);omega;omega|(with_reducible refine sx (by omega) (by omega) hs.has fun m w X hm au=>?_;replace hs:=hs.trans au)|(refine dk (acS (r:=x) (Rec.at.mv (by assumption) hs.mv) z1) (by kernel_rfl) hs.has ?_;rintro _ wa w X ⟨n8,rfl,hn8,hn9⟩ hle hU au;replace hs:=hs.trans au)|(refine dk (Bn (s:=g.state) (mW.mv h7 hs.mv) (mC.mv h8 hs.mv) ht.h ht.p) (by kernel_rfl) hs.has ?_;rintro _ wa w X ⟨n10,rfl,aiw,aix⟩ hle hU au;replace hs:=hs.trans au)
  all_goals first
   |exact iC (g.bY.length-(i+1)) (by omega) ⟨i+1,_,by simp,rfl,rfl,by omega,by omega,hs⟩
   |exact aq hs fun wa aR=>⟨_,rfl,by omega,by omega,fun h=>by omega⟩
 ·repeat' first|(with_reducible refine dm ?_ ?_);omega|with_reducible (first|apply ak|apply cL|apply cu|apply bt)|(with_reducible apply nL);assumption;(· kernel_rfl)|(with_reducible apply cx);omega;omega|(with_reducible refine sx (by omega) (by omega) hs.has fun m w X hm au=>?_;replace hs:=hs.trans au)|(refine dk (Bn (s:=g.state) (mW.mv h7 hs.mv) (mC.mv h8 hs.mv) ht.h ht.p) (by kernel_rfl) hs.has ?_;rintro _ wa w X ⟨n10,rfl,aiw,aix⟩ hle hU au;replace hs:=hs.trans au)
  all_goals exact aq hs fun wa aR=>⟨_,rfl,by omega,by omega,fun h=>by omega⟩
def s4 (l:List KV) (x:KV):List KV:=
 let a:=l.takeWhile fun y=>kO y.key x.key
 let b:=l.dropWhile fun y=>kO y.key x.key
 a++((if x.val.kind≠0 then [x] else [])++(match b with|[]=>[]|y::r=>if y.key=x.key then r else y::r))
def s5 (es:List u9):List KV:=(es.map u9.writes).flatten
end Go.Proofs.YtpdkoaklobnegaaGreat
namespace Go.Proofs.YtpdkoaklobnegaaGreat
open Go.Proofs.Tryz renaming prog → pg
open Go.fR
theorem lF.Vf {m:DM} (h:lF m) {e:Nat} (he:e≠12) {f:DM→DM} (hf: ∀m,lF m→lF (f m)):(m.write e f).2≠12∧lF (m.write e f).1:=by
 by_cases h0:e=0
 ·subst h0;rw [h.write];exact⟨by simp,hf _ h.tick⟩
 ·rw [h.U7 h0];exact⟨he,h⟩
theorem lF.aeo {m:DM} (h:lF m) (n:ByteArray):(m.create n).2≠12∧lF (m.create n).1:=by
 unfold DM.create
 refine h.Vf ?_ fun m hm=>⟨hm.ar,hm.dn⟩
 split
 ·decide
 ·split
  ·decide
  ·split<;>decide
theorem lF.ahm {m:DM} (h:lF m) (n:ByteArray):(m.sync n).2≠12∧lF (m.sync n).1:=by
 unfold DM.sync
 refine h.Vf (by split<;>decide) fun m hm=>?_
 unfold DM.jS
 split
 ·exact hm
 ·exact⟨hm.ar,hm.dn⟩
theorem lF.aep {m:DM} (h:lF m) (n:ByteArray):(m.remove n).2≠12∧lF (m.remove n).1:=by
 unfold DM.remove
 exact h.Vf (by split<;>decide) fun m hm=>⟨hm.ar,hm.dn⟩
theorem lF.aeq {m:DM} (h:lF m) (n:ByteArray) (b:List Nat):(m.append n b).2≠12∧lF (m.append n b).1:=by
 unfold DM.append
 rw [if_neg (by rw [h.dn];simp)]
 split
 ·exact⟨by simp,h⟩
 ·split
  ·exact⟨by simp,h⟩
  ·refine⟨?_,⟨h.tick.ar,h.tick.dn⟩⟩
   dsimp only
   rw [if_neg (by rw [h.tick.dn];simp)]
   decide
structure GL (n:Nat) (x:LD):Prop where
 ok:lF x.m
 ne:x.L.bR≠[]
 d1:1≤x.L.dir.size
 d2:x.L.dir.size≤11
 qx: ∀s∈x.L.bR,s.first+s.bY.length≤n∧s.size≤n*300000
 room:x.L.room≤2^40
 len:x.L.bR.length≤n
theorem GL.up {n n':Nat} {x:LD} (h:GL n x) (hn:n≤n'):GL n' x:=
 ⟨h.ok,h.ne,h.d1,h.d2,fun s hs=>by have:=h.qx s hs;have:n*300000≤n'*300000:=dM _ hn;omega,h.room,ah h.len hn⟩
theorem GL.L7 {n:Nat} {x:LD} (h:GL n x) (hn:n≤1000):j9 x.L:=
 ⟨h.ne,h.d1,h.d2,fun s hs=>by have:=h.qx s hs;omega,h.room⟩
theorem GL.sync {n:Nat} {x:LD} (h:GL n x):x.sync.2≠12∧GL n x.sync.1:=by
 obtain⟨h1,h2⟩:=h.ok.ahm x.L.ep
 unfold LD.sync
 dsimp only
 refine⟨h1,?_⟩
 split
 ·exact⟨h2,h.ne,h.d1,h.d2,h.qx,h.room,h.len⟩
 ·exact⟨h2,h.ne,h.d1,h.d2,h.qx,h.room,h.len⟩
theorem GL.gB {n:Nat} {x:LD} (h:GL n x):(x.gB x.L.next).2≠12∧GL (n+1) (x.gB x.L.next).1:=by
 obtain⟨h1,h2⟩:=h.ok.aeo (bG x.L.dir x.L.next)
 have hu:=h.up (n':=n+1) (by omega)
 unfold LD.gB
 dsimp only
 refine⟨h1,?_⟩
 split
 ·refine⟨h2,by simp,h.d1,h.d2,fun s hs=>?_,h.room,by simp;exact h.len⟩
  rcases List.mem_append.1 hs with hs|hs
  ·exact hu.qx s hs
  ·simp only [bo] at hs
   subst hs
   have:=(h.qx _ (LM.qm h.ne)).1
   have e:x.L.next=x.L.last.first+x.L.last.bY.length:=rfl
   simp only [cA]
   omega
 ·exact⟨h2,hu.ne,hu.d1,hu.d2,hu.qx,hu.room,hu.len⟩
theorem GL.Zi {n:Nat} {x:LD} (h:GL n x):x.room.2≠12∧GL (n+1) x.room.1:=by
 unfold LD.room
 split
 ·dsimp only
  obtain⟨h1,h2⟩:=h.sync
  split
  ·exact⟨h1,h2.up (by omega)⟩
  ·have e:x.sync.1.L.next=x.L.next:=by unfold LM.next LM.last;rw [LD.Q6]
   rw [←e]
   exact h2.gB
 ·exact⟨by simp,h.up (by omega)⟩
theorem GL.lay {n:Nat} {x:LD} {p:List Nat} (h:GL n x) (hp:p.length≤262144):(x.lay p).2≠12∧GL (n+1) (x.lay p).1:=by
 obtain⟨h1,h2⟩:=h.ok.aeq x.L.ep (du p)
 have hu:=h.up (n':=n+1) (by omega)
 have iq:=nA p
 unfold LD.lay
 dsimp only
 refine⟨h1,?_⟩
 split
 ·have hle:=LM.Qf h.ne
  have hlm:=h.qx _ (LM.qm h.ne)
  refine⟨h2,by simp [LM.add],h.d1,h.d2,fun s hs=>?_,h.room,?_⟩
  ·rcases List.mem_append.1 hs with hs|hs
   ·exact hu.qx s (by rw [hle];exact bU _ hs)
   ·simp only [bo] at hs
    subst hs
    simp only [ae,bC,cA]
    omega
  ·have:=hu.len
   rw [hle] at this
   simp only [LM.add,ae,bC,cA] at this⊢
   omega
 ·exact⟨h2,hu.ne,hu.d1,hu.d2,hu.qx,hu.room,hu.len⟩
theorem GL.append {n:Nat} {x:LD} (h:GL n x) (p:List Nat):(x.append p).2.2≠12∧GL (n+2) (x.append p).1:=by
 unfold LD.append
 split
 ·exact⟨by simp,h.up (by omega)⟩
 ·split
  ·exact⟨by simp,h.up (by omega)⟩
  ·obtain⟨h1,h2⟩:=h.Zi
   dsimp only
   split
   ·exact⟨h1,h2.up (by omega)⟩
   ·obtain⟨h3,h4⟩:=h2.lay (p:=p) (by omega)
    split
    ·exact⟨h3,h4⟩
    ·exact⟨by simp,h4⟩
theorem GL.fc {n:Nat} {x:LD} (h:GL n x) (p:List Nat):(x.fc 0 p).2.2≠12∧GL (n+2) (x.fc 0 p).1:=by
 obtain⟨h1,h2⟩:=h.append p
 unfold LD.fc
 rw [if_neg (by simp)]
 dsimp only
 split
 ·exact⟨h1,h2⟩
 ·exact h2.sync
theorem GL.trim {n below:Nat} : ∀{K:Nat} {x:LD},GL n x→(x.trim below K).2≠12∧GL n (x.trim below K).1
 |0,x,h=>⟨by simp [LD.trim],h⟩
 |K+1,x,h=>by
  unfold LD.trim
  split
  ·rename_i s t r JP
   split
   ·obtain⟨h1,h2⟩:=h.ok.aep (bG x.L.dir s.first)
    dsimp only
    split
    ·exact⟨h1,⟨h2,h.ne,h.d1,h.d2,h.qx,h.room,h.len⟩⟩
    ·have hl:=h.len
     rw [JP] at hl
     refine GL.trim ⟨h2,by simp,h.d1,h.d2,fun y hy=>h.qx y (by rw [JP];exact bm _ hy),h.room,?_⟩
     simp only [bC] at hl⊢
     omega
   ·exact⟨by simp,h⟩
  ·exact⟨by simp,h⟩
theorem OS: ∀l:List UInt8,b7 l l=false
 |[]=>rfl
 |a::l=>by simp [b7,OS l,s3]
theorem Rh: ∀{a b:List UInt8},b7 a b=true→b7 b a=false
 |_,[],h=>by simp [b7] at h
 |[],_::_,_=>by simp [b7]
 |a::l,b::m,h=>by
  simp only [b7,gH,aG,decide_eq_true_eq,beq_iff_eq,pd,tu,decide_eq_false_iff_not] at h⊢
  rcases h with h|⟨rfl,h⟩
  ·exact⟨UInt8.not_lt.2 (UInt8.le_of_lt h),.inl (by simp;rintro rfl;exact s3 _ h)⟩
  ·exact⟨s3 _,.inr (Rh h)⟩
theorem Ri: ∀{a b:List UInt8},b7 a b=false→a≠b→b7 b a=true
 |[],[],_,h=>absurd rfl h
 |_::_,[],_,_=>by simp [b7]
 |[],_::_,h,_=>by simp [b7] at h
 |a::l,b::m,h,dr=>by
  simp only [b7,gH,aG,decide_eq_true_eq,beq_iff_eq,pd,tu,decide_eq_false_iff_not] at h⊢
  obtain⟨h1,h2⟩:=h
  by_cases rL:a=b
  ·subst rL
   right
   refine⟨rfl,Ri ?_ fun e=>dr (by rw [e])⟩
   rcases h2 with h2|h2
   ·simp at h2
   ·exact h2
  ·left
   exact UInt8.lt_of_le_of_ne (UInt8.not_lt.1 h1) (Ne.symm rL)
theorem Rj: ∀{a b c:List UInt8},b7 a b=true→b7 b c=true→b7 a c=true
 |[],[],_,h,_=>by simp [b7] at h
 |[],_::_,[],_,h=>by simp [b7] at h
 |[],_::_,_::_,_,_=>by simp [b7]
 |_::_,[],_,h,_=>by simp [b7] at h
 |_::_,_::_,[],_,h=>by simp [b7] at h
 |a::l,b::m,c::r,h1,h2=>by
  simp only [b7,gH,aG,decide_eq_true_eq,beq_iff_eq] at h1 h2⊢
  rcases h1 with h1|⟨rfl,h1⟩
  ·rcases h2 with h2|⟨rfl,h2⟩
   ·exact .inl (UInt8.lt_trans h1 h2)
   ·exact .inl h1
  ·rcases h2 with h2|⟨rfl,h2⟩
   ·exact .inl h2
   ·exact .inr ⟨rfl,Rj h1 h2⟩
theorem aaW (a:BA):kO a a=false:=OS _
theorem acU {a b:BA} (h:kO a b=true):kO b a=false:=Rh h
theorem Vg {a b c:BA} (h1:kO a b=true) (h2:kO b c=true):kO a c=true:=Rj h1 h2
theorem acV {a b:BA} (h:kO a b=false) (dr:a≠b):kO b a=true:=Ri h fun e=>dr (by
 rw [fD,fD] at e
 exact mM (Array.toList_inj.1 e))
theorem KC {a b:BA} (h:kO a b=true):a≠b:=fun e=>by rw [e,aaW] at h;cases h
abbrev Up (l:List KV):Prop:=l.Pairwise fun a b=>kO a.key b.key=true
theorem Vh: ∀{l m:List KV},Up l→Up m→(∀x,x∈l↔x∈m)→l=m
 |[],[],_,_,_=>rfl
 |[],b::m,_,_,h=>by have:=(h b).2 (by simp);simp at this
 |a::l,[],_,_,h=>by have:=(h a).1 (by simp);simp at this
 |a::l,b::m,h1,h2,h=>by
  have zG:=List.pairwise_cons.1 h1
  have OL:=List.pairwise_cons.1 h2
  have rL:a=b:=by
   rcases List.mem_cons.1 ((h a).1 (by simp))with e|ha
   ·exact e
   ·rcases List.mem_cons.1 ((h b).2 (by simp))with e|hb
    ·exact e.symm
    ·have h3:=zG.1 b hb
     have h4:=OL.1 a ha
     rw [acU h3] at h4;cases h4
  subst rL
  rw [Vh zG.2 OL.2 fun x=>⟨fun hx=>?_,fun hx=>?_⟩]
  ·rcases List.mem_cons.1 ((h x).1 (bm _ hx))with e|Xn
   ·subst e;exact absurd rfl (KC (zG.1 _ hx))
   ·exact Xn
  ·rcases List.mem_cons.1 ((h x).2 (bm _ hx))with e|Xn
   ·subst e;exact absurd rfl (KC (OL.1 _ hx))
   ·exact Xn
theorem acW (x:KV):s4 [] x=if x.val.kind≠0 then [x] else []:=by simp [s4]
theorem aer {y x:KV} {l:List KV} (h:kO y.key x.key=true):s4 (y::l) x=y::s4 l x:=by simp [s4,h]
theorem aes {y x:KV} {l:List KV} (h:kO y.key x.key=false):s4 (y::l) x=(if x.val.kind≠0 then [x] else [])++if y.key=x.key then l else y::l:=by simp [s4,h]
theorem Qn {x z:KV} :z∈(if x.val.kind≠0 then [x] else [])↔z=x∧x.val.kind≠0:=by
 split
 ·simp [*]
 ·simp_all
theorem aaX {x:KV} {l:List KV} (h:Up l) (hx: ∀z∈l,kO x.key z.key=true):Up ((if x.val.kind≠0 then [x] else [])++l):=by
 split
 ·exact List.pairwise_cons.2 ⟨hx,h⟩
 ·exact h
theorem XO (x:KV): ∀{l:List KV},Up l→Up (s4 l x)∧ ∀z,z∈s4 l x↔(z∈l∧z.key≠x.key)∨(z=x∧x.val.kind≠0)
 |[],_=>by
  rw [acW]
  refine⟨by split<;>simp,fun z=>?_⟩
  rw [Qn];simp
 |y::l,h=>by
  have h':=List.pairwise_cons.1 h
  cases Le:kO y.key x.key with
  |true=>
   rw [aer Le]
   obtain⟨i1,i2⟩:=XO x h'.2
   refine⟨List.pairwise_cons.2 ⟨fun z hz=>?_,i1⟩,fun z=>?_⟩
   ·rcases(i2 z).1 hz with⟨a,_⟩|⟨rfl,_⟩
    ·exact h'.1 z a
    ·exact Le
   ·rw [jq,i2,jq]
    constructor
    ·rintro(rfl|⟨a,b⟩|c)
     ·exact .inl ⟨.inl rfl,KC Le⟩
     ·exact .inl ⟨.inr a,b⟩
     ·exact .inr c
    ·rintro(⟨rfl|a,b⟩|c)
     ·exact .inl rfl
     ·exact .inr (.inl ⟨a,b⟩)
     ·exact .inr (.inr c)
  |false=>
   rw [aes Le]
   by_cases he:y.key=x.key
   ·rw [if_pos he]
    refine⟨aaX h'.2 fun z hz=>by rw [←he];exact h'.1 z hz,fun z=>?_⟩
    rw [jV,Qn,jq]
    constructor
    ·rintro(a|a)
     ·exact .inr a
     ·exact .inl ⟨.inr a,fun e=>KC (h'.1 z a) (by rw [he,e])⟩
    ·rintro(⟨rfl|a,b⟩|c)
     ·exact absurd he b
     ·exact .inr a
     ·exact .inl c
   ·rw [if_neg he]
    have hxy:=acV Le he
    have Mb: ∀z∈y::l,kO x.key z.key=true:=fun z hz=>by
     rcases List.mem_cons.1 hz with rfl|hz
     ·exact hxy
     ·exact Vg hxy (h'.1 z hz)
    refine⟨aaX h Mb,fun z=>?_⟩
    rw [jV,Qn]
    constructor
    ·rintro(a|a)
     ·exact .inr a
     ·exact .inl ⟨a,fun e=>KC (Mb z a) e.symm⟩
    ·rintro(⟨a,b⟩|c)
     ·exact .inr a
     ·exact .inl c
theorem Vi {κ α:Type} [DecidableEq κ] {l:List (κ×α)} (hn:(l.map (·.1)).Nodup) {k:κ} {a:α} :(k,a)∈l↔getM k l=some a:=by
 refine⟨qg hn,fun h=>?_⟩
 unfold getM at h
 cases hf:l.find? (fun x=>decide (x.1=k))with
 |none=>rw [hf] at h;cases h
 |some y=>
  rw [hf] at h
  have h1:=List.find?_some hf
  have h2:=List.mem_of_find?_eq_some hf
  simp only [decide_eq_true_eq] at h1
  simp only [Option.map_some,Option.some.injEq] at h
  rw [←h1,←h];exact h2
theorem yj {p:List (ByteArray×fq)} (h:(p.map (·.1)).Nodup) (x:KV):((fM p x).map (·.1)).Nodup:=by
 unfold fM
 split
 ·exact h.sublist ((kP).map _)
 ·exact OF h
theorem Zj {p:List (ByteArray×fq)} (h:(p.map (·.1)).Nodup) (x:KV) (k:ByteArray) (v:fq):(k,v)∈fM p x↔((k,v)∈p∧k≠x.key)∨((⟨k,v⟩:KV)=x∧x.val.kind≠0):=by
 rw [Vi (yj h x),Vi h]
 unfold fM
 by_cases hk:k=x.key
 ·subst hk
  split
  ·rename_i h0
   rw [Qb];simp [h0]
  ·rename_i h0
   rw [zn]
   constructor
   ·intro e;cases e;exact .inr ⟨rfl,h0⟩
   ·rintro(⟨_,b⟩|⟨b,_⟩)
    ·exact absurd rfl b
    ·rw [←b]
 ·have m4: ¬((⟨k,v⟩:KV)=x):=fun e=>hk (by rw [←e])
  split
  ·rw [Jw hk];simp [hk,m4]
  ·rw [Cf hk];simp [hk,m4]
theorem zr {s:SM} (h:(s.bH.map (·.1)).Nodup):Up s.list∧ ∀x,x∈s.list↔(x.key,x.val)∈s.bH:=by
 have zx:=nB (s.bH.map (·.1))
 constructor
 ·unfold SM.list Up
  rw [iK]
  have py:(gu (s.bH.map (·.1))).Nodup:=zx.nodup_iff.2 h
  have vy:(gu (s.bH.map (·.1))).Pairwise fun a b=>bl a≤bl b:=by
   unfold gu
   rw [iK]
   refine(jG Di Dl _).imp fun rL=>?_
   unfold leB at rL
   simpa [bl] using rL
  refine(List.pairwise_and_iff.2 ⟨vy,py⟩).imp fun rL=>?_
  show kO _ _=true
  unfold kO
  rw [fD,fD]
  exact Cp rL.1 fun e=>rL.2 (mM (Array.toList_inj.1 e))
 ·intro x
  constructor
  ·intro hx
   obtain⟨k,hk,rfl⟩:=List.mem_map.1 hx
   obtain⟨y,hy,rfl⟩:=List.mem_map.1 (zx.mem_iff.1 hk)
   have:=qg h (k:=y.1) (a:=y.2) hy
   show(y.1,s.get y.1)∈s.bH
   unfold SM.get
   rw [this];exact hy
  ·intro hx
   have:=qg h hx
   refine List.mem_map.2 ⟨x.key,zx.mem_iff.2 (List.mem_map.2 ⟨_,hx,rfl⟩),?_⟩
   unfold SM.get
   rw [this];rfl
theorem XP {s s':SM} (h:s'.bH=s.bH):s'.list=s.list:=by
 unfold SM.list SM.get
 rw [h]
theorem WT {s:SM} (h:(s.bH.map (·.1)).Nodup) (x:KV):({ s with bH:=fM s.bH x } :SM).list=s4 s.list x:=by
 obtain⟨a1,a2⟩:=zr h
 obtain⟨b1,b2⟩:=zr (s:= { s with bH:=fM s.bH x }) (yj h x)
 obtain⟨c1,c2⟩:=XO x a1
 refine Vh b1 c1 fun z=>?_
 rw [b2,c2,a2]
 exact Zj h x z.key z.val
theorem JQ: ∀(l:List KV) {s:SM},(s.bH.map (·.1)).Nodup→({ s with bH:=l.foldl fM s.bH } :SM).list=l.foldl s4 s.list
 |[],s,_=>rfl
 |x::l,s,h=>by
  have ih:=JQ l (s:= { s with bH:=fM s.bH x }) (yj h x)
  rw [WT h x] at ih
  exact ih
def vY (p:List (ByteArray×fq)):Nat:=(p.map fun x=>1+x.1.size+x.2.text.size).sum
theorem OT (f:ByteArray×fq→Bool): ∀p:List (ByteArray×fq),vY (p.filter f)≤vY p
 |[]=>by simp [vY]
 |x::p=>by
  have ih:=OT f p
  rw [iY]
  split<;>simp only [vY,bh,eZ] at ih⊢ <;>omega
theorem XQ (k:ByteArray) (v:fq): ∀p:List (ByteArray×fq),vY (fW k v p)≤vY p+(1+k.size+v.text.size)
 |[]=>by simp [vY,fW]
 |x::p=>by
  have ih:=XQ k v p
  unfold fW
  split<;>simp only [vY,bh,eZ] at ih⊢ <;>omega
theorem aaY (p:List (ByteArray×fq)) (x:KV):vY (fM p x)≤vY p+(1+x.key.size+x.val.text.size):=by
 unfold fM
 split
 ·exact ah (OT _ p) (by omega)
 ·exact XQ _ _ p
theorem M4: ∀(l:List KV) (p:List (ByteArray×fq)),vY (l.foldl fM p)≤vY p+ia l
 |[],p=>by simp
 |x::l,p=>by
  have ih:=M4 l (fM p x)
  have h1:=aaY p x
  have e:ia (x::l)=(1+x.key.size+x.val.text.size)+ia l:=by simp [ia]
  rw [g9,e];omega
theorem JR: ∀(l:List KV) {n:Nat} {p:List (ByteArray×fq)},Co n p→(∀x∈l,g8 x.key=true∧x.val.may=true)→Co (n+l.length) (l.foldl fM p)
 |[],n,p,h,_=>h
 |x::l,n,p,h,hl=>by
  have h1:=hl x (by simp)
  have:=JR l (h.apply h1.1 h1.2) fun y hy=>hl y (bm _ hy)
  rw [bC,g9,show n+(l.length+1)=n+1+l.length from by omega]
  exact this
theorem Rk {α:Type} {p:α→Bool} {r:α→α→Bool} : ∀{l:List α} {o:Option α},chain p r o l=true→ ∀x∈l,p x=true
 |[],_,_,_,hx=>by simp at hx
 |y::l,o,h,x,hx=>by
  have h1:p y=true∧chain p r (some y) l=true:=by
   cases o<;>simp [chain] at h
   ·exact h
   ·exact⟨h.1.1,h.2⟩
  rcases List.mem_cons.1 hx with rfl|hx
  ·exact h1.1
  ·exact Rk h1.2 x hx
theorem vZ {prev st:bZ} {t:gM} {l:List KV} (h:iJ prev st t l=true):st.may=true∧l.length≤16∧ ∀x∈l,g8 x.key=true∧x.val.may=true:=by
 unfold iJ at h
 simp only [aG,decide_eq_true_eq] at h
 have he:=h.2
 unfold fk.err at he
 dsimp only at he
 split at he
 ·simp at he
 ·split at he
  ·simp at he
  ·rename_i h2
   split at he
   ·simp at he
   ·rename_i h3
    split at he
    ·rename_i h4
     simp only [gH,bW,not_or,kc,sa,aG,decide_eq_true_eq] at h2 h3
     have h5:=h3.2.1
     have h6:=h3.2.2
     refine⟨h2.1,by rw [aS] at h6;omega,fun x hx=>⟨Rk h5 x.key (List.mem_map.2 ⟨x,hx,rfl⟩),?_⟩⟩
     exact List.all_eq_true.1 h4 x hx
    ·simp at he
theorem Cr {n:Int} (h1:0≤n) (h2:n<8192):(encI n).length≤2:=by
 have hz:rF n<128^2:=by
  unfold rF
  rw [if_neg (by omega)]
  have:(128:Nat)^2=16384:=by decide
  omega
 exact ML 2 (rF n) hz
theorem Zk {x:KV} (hk:g8 x.key=true) (hv:x.val.may=true):(dd x).length≤7*(1+x.key.size+x.val.text.size):=by
 have ai:1≤x.key.size∧x.key.size≤24:=by
  unfold g8 at hk
  simp only [aG,decide_eq_true_eq] at hk
  omega
 have e1:=nV x.key
 have e2:=Cr (n:=x.key.size) (by omega) (by omega)
 have e3:(lu x.val).length≤10+x.val.text.size:=by
  unfold lu
  rw [if_pos hv]
  unfold fq.may at hv
  dsimp only
  rw [ae]
  split
  ·rename_i h1
   have e4:=Cr (n:=x.val.kind) (by omega) (by omega)
   have:(sc x.val.num).length=8:=by simp [sc]
   omega
  ·split
   ·rename_i h1 h2
    have e4:=Cr (n:=x.val.kind) (by omega) (by omega)
    rw [if_neg (by omega),if_neg (by omega),if_pos h2] at hv
    simp only [aG,decide_eq_true_eq] at hv
    have e5:=nV x.val.text
    have e6:=Cr (n:=x.val.text.size) (by omega) (by omega)
    omega
   ·rename_i h1 h2
    split at hv
    ·rename_i h0
     have e4:=Cr (n:=x.val.kind) (by omega) (by omega)
     simp only [cA]
     omega
    ·cases hv
 unfold dd
 rw [ae]
 omega
theorem Sw: ∀l:List KV,(∀x∈l,g8 x.key=true∧x.val.may=true)→(l.map dd).flatten.length≤7*ia l
 |[],_=>by simp
 |x::l,h=>by
  have h1:=h x (by simp)
  have h3:=Zk h1.1 h1.2
  have h2:=Sw l fun y hy=>h y (bm _ hy)
  have e:ia (x::l)=(1+x.key.size+x.val.text.size)+ia l:=by simp [ia]
  simp only [bh,dg,ae]
  omega
theorem Rl {prev st:bZ} {t:gM} {l:List KV} (h: ∀x∈l,g8 x.key=true∧x.val.may=true) (hw:ia l≤20000):(iv (eH prev st t l)).length≤262144:=by
 have h1:=ee (eH prev st t l).kind
 have h2:=ja prev
 have h3:=ja st
 have h4:=tX t
 have h5:=ee ((l.length:Nat):Int)
 have h6:=Sw l h
 unfold iv eH gA at*
 simp only [ae] at*
 omega
theorem aaZ {st:bZ} {l:List KV} (h: ∀x∈l,g8 x.key=true∧x.val.may=true) (hw:ia l≤20000):(gG (fB st l)).length≤262144:=by
 have h1:=ee (fB st l).kind
 have h2:=ja st
 have h5:=ee ((l.length:Nat):Int)
 have h6:=Sw l h
 unfold gG fB gA at*
 simp only [ae] at*
 omega
theorem L9 (a b:List KV):ia (a++b)=ia a+ia b:=by simp [ia]
theorem Cs: ∀l:List KV,l.length≤ia l
 |[]=>by simp
 |x::l=>by
  have h1:=Cs l
  have e:ia (x::l)=(1+x.key.size+x.val.text.size)+ia l:=by simp [ia]
  rw [bC];omega
theorem WU (a b:List u9):s5 (a++b)=s5 a++s5 b:=by simp [s5]
theorem Ai {s:SM} (h:(s.bH.map (·.1)).Nodup):ia s.list=vY s.bH:=by
 have hp:=(nB (s.bH.map (·.1))).map fun k=>1+k.size+(s.get k).text.size
 have hs:=hp.sum_nat
 unfold ia SM.list vY
 rw [en]
 refine Eq.trans (b:=((gu (s.bH.map (·.1))).map fun k=>1+k.size+(s.get k).text.size).sum) rfl ?_
 rw [hs,en]
 congr 1
 refine fG fun y hy=>?_
 have:=qg h (k:=y.1) (a:=y.2) hy
 show 1+y.1.size+(s.get y.1).text.size=_
 unfold SM.get
 rw [this];rfl
structure wG (n wt:Nat) (s:SM) (x:LD):Prop where
 ev:s.every=3
 si:0≤s.since∧s.since≤n
 dn:s.down=false
 may:s.high.may=true
 dl:s.done.length≤n
 aw:ia (s5 s.done)≤wt
 pi:Co (s5 s.done).length s.bH
 pw:vY s.bH≤ia (s5 s.done)
 ls:s.list=(s5 s.done).foldl s4 []
 hi: ∀e,s.done.getLast? =some e→e.br=s.high
 lg:GL (1+2*n) x
theorem wG.up {n n' wt OU:Nat} {s:SM} {x:LD} (h:wG n wt s x) (hn:n≤n') (hw:wt≤OU):wG n' OU s x:=
 ⟨h.ev,by have:=h.si;omega,h.dn,h.may,ah h.dl hn,ah h.aw hw,h.pi,h.pw,h.ls,h.hi,h.lg.up (by omega)⟩
theorem wG.log {n wt:Nat} {s:SM} {x y:LD} (h:wG n wt s x) (hy:GL (1+2*n) y):wG n wt s y:=
 ⟨h.ev,h.si,h.dn,h.may,h.dl,h.aw,h.pi,h.pw,h.ls,h.hi,hy⟩
theorem wG.zq {n wt:Nat} {s:SM} {x:LD} (h:wG n wt s x):(∀y∈s.list,g8 y.key=true∧y.val.may=true∧y.val.kind≠0)∧ia s.list≤wt∧s.list.length≤wt:=by
 have h1:=Ai h.pi.nd
 have h2:=h.pw
 have h3:=h.aw
 have h4:=Cs s.list
 refine⟨fun y hy=>h.pi.zq _ ((zr h.pi.nd).2 y|>.1 hy),by omega,by omega⟩
theorem wG.step {n wt:Nat} {s:SM} {x:LD} (h:wG n wt s x) (g:gR):wG (n+1) (wt+ia g.writes) (uI s x g).1 (uI s x g).2:=by
 unfold uI
 split
 ·rename_i ha
  simp only [aG] at ha
  obtain⟨ha,hf⟩:=ha
  simp only [SM.zz,aG,decide_eq_true_eq] at hf
  have vj:=gR.GH ha hf.1.1
  obtain⟨m1,m2,m3⟩:=vZ vj
  obtain⟨k1,k2⟩:=h.lg.fc (iv (eH g.prev g.br g.dH g.writes))
  have k3:GL (1+2*(n+1)) (x.fc 0 (iv (eH g.prev g.br g.dH g.writes))).1:=k2
  dsimp only
  split
  ·have py:=h.pi.nd
   have e1:s5 (s.apply g.dH g.br g.writes).done=s5 s.done++g.writes:=by
    show s5 (s.done++[_])=_
    rw [WU];simp [s5]
   have QB:=h.si
   refine⟨h.ev,?_,h.dn,m1,?_,?_,?_,?_,?_,?_,k3⟩
   ·show 0≤s.since+1∧s.since+1≤_;omega
   ·show(s.done++[_]).length≤_
    have:=h.dl
    simp;omega
   ·show ia (s5 (s.apply g.dH g.br g.writes).done)≤_
    rw [e1,L9]
    have:=h.aw
    omega
   ·show Co (s5 (s.apply g.dH g.br g.writes).done).length (g.writes.foldl fM s.bH)
    rw [e1,ae]
    exact JR g.writes h.pi m3
   ·show vY (g.writes.foldl fM s.bH)≤ia (s5 (s.apply g.dH g.br g.writes).done)
    rw [e1,L9]
    have:=M4 g.writes s.bH
    have:=h.pw
    omega
   ·show _=(s5 (s.apply g.dH g.br g.writes).done).foldl s4 []
    rw [e1,List.foldl_append,←h.ls,←JQ g.writes py]
    exact XP rfl
   ·intro e he
    have xl:(s.done++[(⟨g.dH,g.br,g.writes⟩:u9)]).getLast? =some e:=he
    rw [List.getLast?_append] at xl
    simp at xl
    rw [←xl];rfl
  ·exact(h.up (by omega) (by omega)).log k3
 ·exact h.up (by omega) (by omega)
theorem wG.tick {n wt K:Nat} {s:SM} {x:LD} (h:wG n wt s x):wG (n+1) wt (pr s x K).1 (pr s x K).2:=by
 unfold pr
 split
 ·exact h.up (by omega) (by omega)
 ·obtain⟨k1,k2⟩:=h.lg.fc (gG (fB s.high s.list))
  have k3:GL (1+2*(n+1)) (x.fc 0 (gG (fB s.high s.list))).1:=k2
  dsimp only
  split
  ·have h2:=(h.up (n':=n+1) (OU:=wt) (by omega) (by omega)).log (k3.trim (below:=(x.fc 0 (gG (fB s.high s.list))).2.1) (K:=K)).2
   exact⟨h2.ev,by show(0:Int)≤0∧(0:Int)≤_;omega,h2.dn,h2.may,h2.dl,h2.aw,h2.pi,h2.pw,h2.ls,h2.hi,h2.lg⟩
  ·exact(h.up (by omega) (by omega)).log k3
theorem g0:wG 0 0 (iA 3) (x0 4096):=by
 have h:=(OP (sz:=4096) (by decide) (by decide)).1
 refine⟨rfl,by simp [iA],rfl,by simp [iA];decide,by simp [iA],by simp [iA,s5,ia],⟨by simp [iA],by simp [iA],by simp [iA]⟩,by simp [iA,vY],by simp [iA,SM.list,gu,s5],by simp [iA],⟨h.ok,h.ne,h.d1,h.d2,fun s hs=>?_,h.r2,h.len⟩⟩
 have:=h.pos s hs
 omega
end Go.Proofs.YtpdkoaklobnegaaGreat
namespace Go.Proofs.YtpdkoaklobnegaaGreat
open Go.Proofs.Tryz renaming prog → pg
open Go.fR
set_option maxRecDepth 100000
set_option maxHeartbeats 1000000
set_option linter.unusedVariables false
set_option linter.unusedSimpArgs false
attribute [local irreducible] un jn bz aQ aX gL eo dx cr nu fF mO BK AB jc iS aa ay aF eW eV eU eC eF gE ao fin aN aH aI vS BL jB lq wK D9 Ea Eb Ec BM jC lr wL Ed Ee Ef Eg
structure ot where
 kind:Int
 n:Int
 m:gR
 dD:List Int
abbrev ot.l (o:ot) (vk vs vw vp vr vc vh vd vq:Value):List Value:=[I o.kind,I o.n,I o.m.kind,I o.m.fr,I o.m.to,I o.m.dH.jR,I o.m.dH.nj,I o.m.dH.sq,I o.m.range,I o.m.lf,I o.m.code,
 I o.m.br.wall,I o.m.br.fA,I o.m.br.node,I o.m.prev.wall,I o.m.prev.fA,I o.m.prev.node,B o.m.ko,I o.m.n,I o.m.mx,vk,vs,vw,vp,vr,vc,
 I o.m.state.range.id,I o.m.state.range.lf,.float .f64 o.m.state.range.lo,.float .f64 o.m.state.range.hi,
 I o.m.state.floor.wall,I o.m.state.floor.fA,I o.m.state.floor.node,I o.m.state.closed.wall,I o.m.state.closed.fA,I o.m.state.closed.node,vh,vd,vq]
structure ot.at (w:World) (X:XS) (o:ot) (vk vs vw vp vr vc vh vd vq:Value):Prop where
 m:o.m.at w X vk vs vw vp vr vc vh vd
 p:Sl w X 1 vq (o.dD.map I1)
def ot.rd (w:World) (X:XS) (l:List Value) (o:ot):Prop:= ∃vk vs vw vp vr vc vh vd vq,l=o.l vk vs vw vp vr vc vh vd vq∧o.at w X vk vs vw vp vr vc vh vd vq
theorem ot.mv:Fo ot.rd:=fun ⟨vk,vs,vw,vp,vr,vc,vh,vd,vq,h,h1⟩ m=>⟨vk,vs,vw,vp,vr,vc,vh,vd,vq,h,⟨h1.m.mv m,h1.p.mv m⟩⟩
theorem OV {P:Program} {X X0:XS} {w w0:World} {N:Value→Prop} {t:TypeId} {v:Value} {xs:List ot} {i:Nat} {z:Int} {x:ot} (h:iw w0 X0 39 v ot.rd xs) (hr:xs[i]? =some x)
  (hz:z=i) (ht:P.underlying t=some (.slice (P.elem t))) (hs:(P.info? (P.elem t)).map (·.size)=some 39)
  (n: ∀b o vk vs vw vp vr vc vh vd vq,fR.one vk=true→fR.one vs=true→fR.one vw=true→fR.one vp=true→fR.one vr=true→fR.one vc=true→fR.one vh=true→fR.one vd=true→fR.one vq=true→
   Cells w0 X0 b o (x.l vk vs vw vp vr vc vh vd vq)→x.at w0 X0 vk vs vw vp vr vc vh vd vq→N (ptr b o)):aa P X w (dx t 39 v (.int .i64 z)) N:=
 Sp h hr hz ht hs fun b o _ hc ⟨vk,vs,vw,vp,vr,vc,vh,vd,vq,hl,h1⟩=>n b o vk vs vw vp vr vc vh vd vq h1.m.keys.one h1.m.seen.one h1.m.writes.one h1.m.parts.one h1.m.ranges.one h1.m.bY.one h1.m.iF.one h1.m.iD.one h1.p.one (hl▸hc) h1
def rB (l:List ot):Nat:=(l.map fun o=>ia o.m.writes+1).sum
theorem aa0 {w:World} {X:XS} {a:Value} {xs:List ot} (ha:iw w X 39 a ot.rd xs) (eu: ∀o∈xs,o.m.text):
  Ct pg 22 #[a] w X nX fun v _ _=> ∃b:Bool,v=B b∧(b=true→xs.length≤200∧rB xs≤20000):=by
 intro w0 hk
 replace ha:=iw.mv ha ot.mv hk.dA
 have nw:=ha.len
 apply Mt;unfold BV
 have hs:=aj.init w0
 refine iN (fun n a b w X=> ∃(i:Nat) (s:Int),a=I i∧b=I s∧n=xs.length-i∧i≤xs.length∧(0≤s∧s≤60002∧(s≤20000→(rB (xs.take i):Int)≤s))∧aj (aW w0) w0 X w) xs.length ⟨0,0,rfl,rfl,rfl,aV _,by simp [rB],hs⟩ ?_
 clear hs
 rintro n a b w X ⟨i,s,rfl,rfl,rfl,hi,hw,hs⟩
 rcases fh (xs) i with⟨dh,x,hx,hd⟩|⟨eI,hd⟩
 ·have z1:=eu x (bg hx)
  have acR:rB (xs.take (i+1))=rB (xs.take i)+(ia x.m.writes+1):=by rw [dI,hx];simp [rB]
  repeat' first|(with_reducible refine dC ?_ ?_);omega|(with_reducible refine ae2 ?_ ?_);omega|with_reducible (first|apply aD|apply ak|apply dz|apply cL|apply cM|apply cu|apply bE|apply bt)|(with_reducible apply kE<;>intro _)|(with_reducible apply jK<;>intro _)|(with_reducible apply gx);exact qF;(· kernel_rfl);rfl;exact qN;intro _ _ _|(with_reducible apply fP);exact qF;exact qM;(· kernel_rfl);rfl|(with_reducible apply nL);assumption;(· kernel_rfl)|(with_reducible apply OV);(case h=>assumption);(case hr=>exact hx);(case hz=>rfl);(case ht=>kernel_rfl);(case hs=>kernel_rfl);intros
  ·refine dk (acT (g:=x.m) (gR.at.mv (ot.at.m (by assumption)) hs.mv) z1) (by kernel_rfl) hs.has ?_
   rintro _ wa w X ⟨n1,rfl,W7,W8,hn3⟩ hle hU au
   replace hs:=hs.trans au
   repeat' first|(with_reducible apply cx);omega;omega
   exact iC (xs.length-(i+1)) (by omega) ⟨i+1,_,by simp,rfl,rfl,by omega,by rw [acR];omega,hs⟩
  all_goals exact aq hs fun wa aR=>⟨_,rfl,fun h=>by first|(cases h;done)|omega⟩
 ·have mP:i=xs.length:=by omega
  subst mP
  rw [dV] at hw
  repeat' first|(with_reducible refine dm ?_ ?_);omega|with_reducible (first|apply ak|apply dz|apply cL|apply cM|apply cu|apply bE|apply bt)|(with_reducible apply jK<;>intro _)|(with_reducible apply nL);assumption;(· kernel_rfl)
  all_goals first
   |exact aq hs fun wa aR=>⟨true,rfl,fun _=>by omega⟩
   |exact aq hs fun wa aR=>⟨false,rfl,fun h=>by cases h⟩
end Go.Proofs.YtpdkoaklobnegaaGreat
