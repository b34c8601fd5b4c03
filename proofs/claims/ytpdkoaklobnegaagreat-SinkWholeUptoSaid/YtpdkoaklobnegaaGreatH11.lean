/-
 Part 11 of the proof: what the last text leans on.
-/
import Derived.Test.YtpdkoaklobnegaaGreatProg
import Derived.Recover
import Derived.KernelRfl
import Derived.Tactics
import Derived.Test.YtpdkoaklobnegaaGreatH10
open List renaming length_append → ae, length_nil → bz, length_cons → aY, length_map → aG, map_cons → bc, mem_of_getElem? → aX, length_take → bp, map_append → aT, append_assoc → au, length_drop → bU, mem_cons_of_mem → aZ, take_add_one → ca, length → az, drop_left' → jd, flatten_cons → cD, drop_drop → fu, sum_cons → gO, length_filter_le → sW, mem_append_left → bR, pairwise_map → ij, take_length → dE, append_nil → bZ, foldl_append → wH
open Nat renaming le_trans → ah, zero_le → aN, le_of_ble_eq_true → iJ, lt_of_lt_of_le → aK, le_refl → bf, pow_le_pow_right → tz, mod_eq_of_lt → ek
open Prod renaming snd → eZ
open Array renaming replicate → dz
open Bool renaming and_eq_true → aA, or_eq_true → fM, not_eq_true' → bV, false_eq_true → bu, not_eq_false → kS
open BitVec renaming ofInt → aQ, ofInt_natCast → jS, toNat_ofNat → fc
open Go.Exit renaming thenS → jv
open ByteArray renaming size → jT
open Go.Instr renaming alloc → gZ, sliceAt → cp
open UInt8 renaming ofNat → kr
open Go.Op renaming bytesLess → bY
open Go.ByteArray renaming toList_eq → ey
set_option linter.unusedVariables false
set_option linter.unusedSimpArgs false
namespace Go.Proofs.YtpdkoaklobnegaaGreat
open Go.Proofs.Tryz renaming prog → pg
open Go.dL
theorem Sk:Idle pg 50:=by
 refine⟨by kernel_rfl,fun fD w=>?_⟩;refine callsD_of_wpS Tryz.func50 rfl fun c₀ cs hu=>?_;rw [Tryz.ntmps50];have dU:7≤(fD++dz (10-fD.size) undef).size:=by simp;omega
 generalize fD++dz (10-fD.size) undef=tm at dU;have h2:2<tm.size:=by omega
 have h3:3<tm.size:=by omega
 have h4:4<tm.size:=by omega
 have h5:5<tm.size:=by omega
 have h6:6<tm.size:=by omega
 apply wpS_seq;apply wpS_region;simp [wpOpsS,go_sem,recoverD,hu,jv];apply wpS_seq;apply wpS_region;simp [wpOpsS,go_sem,jv,h2,h3,h4,h5,h6];refine wpS_cond (t:=false) (by simp [Act.eval,h2,h3,h4,h5,h6]) ?_;simp only [bu,if_false];refine wpS_of_wp (wp_skip ?_);cases c₀;simp_all [bodyPostS,results,Tryz.results50]
theorem acr:Idle pg 56:=by
 refine⟨by kernel_rfl,fun fD w=>?_⟩;refine callsD_of_wpS Tryz.func56 rfl fun c₀ cs hu=>?_;rw [Tryz.ntmps56];have dU:7≤(fD++dz (9-fD.size) undef).size:=by simp;omega
 generalize fD++dz (9-fD.size) undef=tm at dU;have h2:2<tm.size:=by omega
 have h3:3<tm.size:=by omega
 have h4:4<tm.size:=by omega
 have h5:5<tm.size:=by omega
 have h6:6<tm.size:=by omega
 apply wpS_seq;apply wpS_region;simp [wpOpsS,go_sem,recoverD,hu,jv];apply wpS_seq;apply wpS_region;simp [wpOpsS,go_sem,jv,h2,h3,h4,h5,h6];refine wpS_cond (t:=false) (by simp [Act.eval,h2,h3,h4,h5,h6]) ?_;simp only [bu,if_false];refine wpS_of_wp (wp_skip ?_);cases c₀;simp_all [bodyPostS,results,Tryz.results56]
end Go.Proofs.YtpdkoaklobnegaaGreat
namespace Go.Proofs.YtpdkoaklobnegaaGreat
open Go.Proofs.Tryz renaming prog → pg
open Go.dL
set_option maxRecDepth 100000
set_option maxHeartbeats 1000000
set_option linter.unusedVariables false
set_option linter.unusedSimpArgs false
attribute [local irreducible] un jn bq aS bb gy dV dD cK lJ ez kV yC xf gU gH aa ay aD eW eV eU eC eF gE ao fin aR aE aJ vS yD jw jA tq A6 A7 yE A8 yF jx jB tt A9 Ba yG Bb
def en (prev st:bE) (t:gf) (l:List KV):Rec:=⟨11,t,st,prev,false,0,0,[],l,[],[],.zero⟩
theorem Ns {prev st:bE} {t:gf} {l:List KV} (h:ik prev st t l=true):(en prev st t l).err=0:=by
 simp [Rec.err,en,Rec.strip,Rec.isZero,Rec.pP,h,State.isZero,State.zero]
def SM.fits (s:SM) (prev st:bE) (t:gf) (l:List KV):Bool:=ik prev st t l&&decide (st.cmp s.high>0)&&decide (prev=s.high)
def lM (s:SM) (x:LD) (prev st:bE) (t:gf) (l:List KV):SM×LD:=
 if s.fits prev st t l then
  let k:=x.dN 0 (gS (en prev st t l))
  (if k.2.2=0 then { s.apply t st l with since:=s.since+1 } else s,k.1)
 else(s,x)
abbrev rA (to:Int) (st:bE):List Value:=[I 14,I 32,I to,I 0,I 0,I 0,I 0,I 0,I 0,I st.wall,I st.fi,I st.node,I 0,I 0,I 0,
 B false,I 0,I 0,jz,jz,jz,jz,jz,jz,I 0,I 0,.float .f64 0,.float .f64 0,I 0,I 0,I 0,I 0,I 0,I 0,jz,jz]
theorem ig.Nt {w w':World} {X X' F:XS} {nb lb mb db:Nat} {s:SM} {L:LM} {m:DM} {FN FG:XS} {av:Value} {es:List (Value×fN)} (iW:Dj FN FG) (hN: ∀k,FN k→F k) (hG: ∀k,FG k→F k) (hX: ∀k,F k→X k)
  (h:mI w FN nb lb mb av es s) (hg:Lg w FG lb db L m) (c:eD (· =nb) X w X' w') (n:Int)
  (hr:bH w' X' nb [ptr lb 0,I s.every,I n,B s.down,.map (some mb),I s.high.wall,I s.high.fi,I s.high.node,av] 112):ig w' F nb lb db { s with since:=n } L m:=
 ⟨FN,FG,mb,av,es,iW,hN,hG,h.Ji (fun k hk=>hX k (hN k hk)) c { s with since:=n } rfl rfl hr,hg.mv (c.ew fun k hk=>⟨hX k (hG k hk),fun e=>iW k (e▸h.box.1) hk⟩)⟩
theorem HS {w:World} {X F S:XS} {nb lb db:Nat} {s:SM} {L:LM} {m:DM} {t:gf} {st:bE} {vw:Value} {l:List KV} (h:ig w F nb lb db s L m) (hF:FX F X w) (hw:Sl w S 4 vw (l.map KV.l)) (hS: ∀k,S k→X k∧ ¬F k)
  (hl:l.length≤2^30) (hd:s.done.length≤2^30):
  Ct pg 55 #[ptr nb 0,t.v,st.v,vw] w X F fun v wa w'=>v= .tuple #[]∧ ∃F',(∀k,F' k→F k∨made wa w' k)∧ig w' F' nb lb db (s.apply t st l) L m:=by
 obtain⟨FN,FG,mb,av,es,iW,hN,hG,bT,hg⟩:=h;intro wa hk;refine((Jj bT (fun k ai=>hF k (hN k ai)) hw (fun k ai=>⟨(hS k ai).1,fun h=>(hS k ai).2 (hN k h)⟩) hl hd) wa hk).mono ?_;rintro e w' ⟨v,he,ly,hv,F',xh,zW,lN,qv⟩;refine⟨v,he,ly.mono hN,hv,fun k=>F' k∨FG k,fun k ai=>ai.elim (fun h=>(lN k h).imp (hN k) id) fun h=>.inl (hG k h),F',FG,mb,xh,zW,fun k a b=>(lN k a).elim (fun h=>iW k h b) fun hm=>?_,fun _ h=>.inl h,fun _ h=>.inr h,qv,hg.mv fun k ai _=>⟨ai,?_⟩⟩
 ·have:=(hF k (hG k b)).2;have:=hk.size;have:=hm.1;omega
 ·have DA:=hF k (hG k ai);exact(ly.block k (aK DA.2 hk.size) fun h=>iW k h ai).trans (hk.block k DA.1)
theorem MC {w:World} {X F S:XS} {nb lb db:Nat} {s:SM} {L:LM} {m:DM} {prev st:bE} {t:gf} {a:Value} {l:List KV} (h:ig w F nb lb db s L m) (hL:iT L) (j7:L.bI.length≤2^29) (hF:FX F X w) (gg:s.down=false)
  (hw:Sl w S 4 a (l.map KV.l)) (hS: ∀k,S k→X k∧ ¬F k) (hl:l.length≤2^16) (lO: ∀x∈l,x.key.size≤2^16) (Zq:(gS (en prev st t l)).length≤262144) (hd:s.done.length≤2^30) (Mq:0≤s.since∧s.since<2^40)
  (Fe:iT (LD.append ⟨L,m⟩ (gS (en prev st t l))).1.L) (Sm:(LD.dN ⟨L,m⟩ 0 (gS (en prev st t l))).2.2≠12):
  Ct pg 15 #[ptr nb 0,MA 12 31 32 prev st t a] w X F fun v wa w'=> ∃vo F' S',v= .tuple #[vo,I 0]∧(∀k,F' k→F k∨made wa w' k)∧(∀k,S' k→made wa w' k∧ ¬F' k)∧
   ig w' F' nb lb db (lM s ⟨L,m⟩ prev st t l).1 (lM s ⟨L,m⟩ prev st t l).2.L (lM s ⟨L,m⟩ prev st t l).2.m∧
   Sl w' S' 36 vo (if ik prev st t l then [rA 31 (lM s ⟨L,m⟩ prev st t l).1.high] else []):=by
 intro w0 hk;obtain⟨ab,an,ac,rfl⟩:=hw.form;replace h:=h.mv (hF.mv hk);have hT:=hF.ft hk;have iz:FX F (ba w0) w0:=hF.kp hk;have wG:Sl w0 (out F w0) 4 (.slice ab an ac) (l.map KV.l):=hw.mv fun k ai yH=>⟨⟨aK yH hk.size,(hS k ai).2⟩,hk.block k (hS k ai).1⟩;have oa:=wG.one;generalize hr:lM s ⟨L,m⟩ prev st t l=q;unfold lM at hr;obtain⟨FN,FG,mb,av,es,iW,hN,hG,bT,hg⟩:=id h;have hb:=bT.box.mv (Mv.sub fun k ai=>hT.aU k (hN k ai));rw [gg] at hb;refine LP (fun g hg=>?_) (fun ch w hh=>by obtain⟨v,he,_⟩:=hh;cases he) ?_
 ·have e:zj Tryz.f15=some 50:=by kernel_rfl
  rw [e] at hg;cases hg;exact Sk
 unfold qh;repeat' first|refine aI ?_;intros
 refine dy (aav (wG.mv hT.s.mv) zQ) kQ hT.s.has fun w1 X1 aq=>?_;have cm:=hT.since aq;have h1:ig w1 F nb lb db s L m:=h.mv (aq.dZ hT.aU);clear hb hg bT iW hN hG;cases lz:ik prev st t l with
 |false=>
  rw [show(if tA 31&&tA 32&&false then(0:Int)else 4)=4 from by simp];repeat' first|refine bL ?_;intros
  have hq:q=(s,⟨L,m⟩):=by rw [←hr,if_neg (by simp [SM.fits,lz])]
  subst hq;refine cm.fin fun wa aM=>⟨jz,F,nX,rfl,fun _ h=>.inl h,fun _ h=>h.elim,h1.mv (aM.ew cm.aU),?_⟩;rw [if_neg (by simp)];exact Sl.nil _ _ _
 |true=>
  rw [show(if tA 31&&tA 32&&true then(0:Int)else 4)=0 from by simp [tA]];repeat' first|refine bL ?_;intros
  refine fk (Q:=fun K=> ∀w2 X2 F2,Ft w0 F w2 X2 F2→ig w2 F2 nb lb db q.1 q.2.L q.2.m→K w2 X2) ?_ fun K hK=>?_
  ·intro w2 X2 F2 bK h2;obtain⟨FN,FG,mb,av,es,iW,hN,hG,bQ,hg⟩:=id h2;have ny:=bQ.box.mv (Mv.sub fun k ai=>bK.aU k (hN k ai));repeat' first|refine aI ?_;intros
   refine Lh bK.s.has kQ rfl fun v w3 X3 cl oZ=>?_;have ov:=oZ.sl.one;repeat' first|refine aI ?_;intros
   have cn:=bK.since cl;refine cn.fin fun wa aM=>⟨v,F2,iu v,rfl,cn.fL aM fun _ h=>h,fun k ai=>?_,(h2.mv (cl.dZ bK.aU)).mv (aM.ew cn.aU),?_⟩
   ·obtain⟨a1,a2⟩:=oZ.ge ai;have b1:=bK.s.kp.size;have b3:=aM.size;refine⟨⟨by omega,by omega⟩,fun hf=>?_⟩;have:=bK.s.has k (bK.aU k hf);omega
   ·rw [if_pos rfl];exact(oZ.kp aM).ow.tight.sl
  ·obtain⟨FN,FG,mb,av,es,iW,hN,hG,vW,hg⟩:=id h1;have kW:=vW.box.mv (Mv.sub fun k ai=>cm.aU k (hN k ai));repeat' first|(with_reducible refine Jr ?_ ?_);omega|with_reducible (first|apply zk|apply tB|apply Ck|apply vM)|(with_reducible apply Li);exact qF;(· kernel_rfl);rfl;exact qN;intro _ _ _|(with_reducible apply Lj);exact qF;exact qM;(· kernel_rfl);rfl
   refine fk (Q:=fun K1=> ∀w2 X2,aj X1 w1 X2 w2→K1 (I (st.cmp s.high)) w2 X2) ?_ fun K1 Js=>?_
   ·intro w2 X2 bQ;have bK:=cm.since bQ;have h2:=h1.mv (bQ.dZ cm.aU);have ny:=kW.since bQ;have kU:s.fits prev st t l=false→K w2 X2:=fun hf=>hK _ _ F bK (by
     have hq:q=(s,⟨L,m⟩):=by rw [←hr,if_neg (by simp [hf])]
     rw [hq];exact h2)
    repeat' first|with_reducible (first|apply B2|apply wI|apply zk|apply Cl|apply tB|apply Ck|apply z6|apply z7|apply z8|apply vM)|(with_reducible apply OX<;>intro _)|(with_reducible apply Li);exact qF;(· kernel_rfl);rfl;exact qN;intro _ _ _|(with_reducible apply Lj);exact qF;exact qM;(· kernel_rfl);rfl|(with_reducible apply xk);(· kernel_rfl)|(with_reducible refine DB _ _ ?_ ?_ ?_);(· kernel_rfl);all_goals intros
    case refine_2.k=>
     have hp:prev=s.high:=by first|assumption|(ext<;>assumption)
     have pj:s.fits prev st t l=true:=by
      simp only [SM.fits,lz,Bool.true_and,aA,decide_eq_true_eq];exact⟨by assumption,hp⟩
     rw [if_pos pj] at hr;dsimp only at hr;have Gt: ∀wa,Kp X2 w2 wa→Ct pg 91 #[(en prev st t l).v jz (.slice ab an ac) jz jz jz jz] wa (out F wa) nX fun v wb w'=>
       if(0:Nat)≠0 then v= .tuple #[.slice none 0 0,I (0:Nat)] else∃vb,v= .tuple #[vb,I 0]∧Own w' (made wb w') wb.heap.size 5 1 vb ((gS (en prev st t l)).map U1):=fun wa aM=>by
      have xa:Sl wa (out F wa) 4 (.slice ab an ac) (l.map KV.l):=wG.mv fun k ai yH=>⟨⟨aK ai.1 (ah bK.s.kp.size aM.size),ai.2⟩,(aM.block k (bK.s.sub k ai)).trans (bK.s.kp.block k ai)⟩;refine(zl (r:=en prev st t l) ⟨Sl.nil _ _ _,xa,Sl.nil _ _ _,Sl.nil _ _ _,ic.nil _ _ _,ic.nil _ _ _⟩ ?_ rfl (fun _=>⟨hl,lO,Zq⟩)).mono fun v wb w' _ hq=>?_
      ·exact⟨by simp [en],by simp [en];omega,by simp [en],fun x hx=>by have:=lO x hx;omega,⟨by simp [en,State.zero,Aa],by simp [en,State.zero,Ab],by simp [en,State.zero,Gu],by simp [en,State.zero,Gv]⟩⟩
      ·rw [Ns lz,if_neg (by simp)] at hq;rw [if_neg (by simp)];exact hq
     refine bK.call (Yg (r:=en prev st t l) (e:=0) h2 hL j7 (bK.fx fun _ h=>h) Gt rfl rfl rfl rfl rfl rfl Fe Sm) kQ (fun _ h=>h) fun v oG w3 X3 Bj nJ mg cn lL=>?_;obtain⟨rfl,F3,Cm,h3⟩:=Bj;generalize LD.dN ⟨L,m⟩ 0 (gS (en prev st t l))=kp at hr h3⊢;have fX:Ft w0 F w3 X3 F3:=cn.less Cm;repeat' first|refine aI ?_;intros|refine de ?_ ?_<;>intros
     ·rename_i hz;have tw:kp.2.2=0:=by omega
      rw [if_pos tw] at hr;refine fX.call (HS (l:=l) h3 (fX.fx fun _ h=>h) (S:=out F w0) (wG.mv fun k ai _=>⟨ai,fX.s.kp.block k ai⟩) (fun k ai=>⟨?_,?_⟩) zQ hd) kQ (fun _ h=>h) fun v yJ w4 X4 UR sF lK dS sc=>?_
      ·exact fX.s.sub k ai
      ·exact fun hf=>fX.no hf ai
      obtain⟨rfl,F4,Jt,h4⟩:=UR;have po:Ft w0 F w4 X4 F4:=dS.less Jt;obtain⟨FN4,FG4,mb4,av4,es4,adR,US,hG4,ff,hg4⟩:=id h4;have uu:=ff.box.mv (Mv.sub fun k ai=>po.aU k (US k ai));rw [show(s.apply t st l).since=s.since from rfl] at uu;repeat' first|refine aI ?_;intros
      refine kK (o:=2) uu zQ kQ (by simp) rfl po.s.has fun w5 X5 c5 sd=>?_;have gR:Ft w0 F w5 X5 F4:=po.dM c5 (fun k ai=>by subst ai;exact US _ ff.box.1) fun k ai=>.inl ai;have h5:=ig.Nt adR US hG4 po.aU ff hg4 c5 (s.since+1) sd;refine hK _ _ F4 gR ?_;rw [←hr];exact h5
     ·rename_i hz;have tw:kp.2.2≠0:=by omega
      rw [if_neg tw] at hr;refine hK _ _ F3 fX ?_;rw [←hr];exact h3
    all_goals exact kU (by simp [SM.fits, *])
   ·repeat' first|refine aI ?_;intros|(refine gh (pz st s.high) kQ cm.s.has fun w2 X2 bQ=>?_)
    exact Js _ _ bQ
def fg (st:bE) (l:List KV):Rec:=⟨12,.zero,st,.zero,false,0,0,[],[],[],l,.zero⟩
theorem UT {st:bE} {l:List KV} (h:st.may=true) (hp:sw l=true):(fg st l).err=0:=by
 simp [Rec.err,fg,Rec.strip,Rec.isZero,Rec.pP,h,hp,State.isZero,State.zero]
def SM.idle (s:SM):Bool:=decide (s.every=0)||decide (s.since<s.every)
def kL (s:SM) (x:LD) (K:Nat):SM×LD:=
 if s.idle then(s,x)else
  let k:=x.dN 0 (fT (fg s.high s.list))
  if k.2.2=0 then({ s with since:=0 },(k.1.trim k.2.1 K).1)else(s,k.1)
abbrev Lk:List Value:=[I 0,I 0,I 0,I 0,I 0,I 0,I 0,I 0,I 0,I 0,B false,I 0,.float .f64 0,fH,fH,fH,fH,I 0,I 0,.float .f64 0,.float .f64 0,I 0,I 0,I 0,I 0,I 0,I 0,fH,fH]
section
variable {w0 w wa w' : World} {X X' : XS} {rb at_ iX cb xb : Nat} {vb : Value} {pl : Int} {bs tl : List Nat} {cs mY : List Value} {ty : TypeId}
theorem Yh {prev st:bE} {t:gf} {l:List KV} (h:RB w X rb vb at_ pl bs cb xb Lk ty) (he:bs.drop at_=gS (en prev st t l)++tl) (h1:AL prev) (h2:AL st) (h3:Cn t) (hn: ∀x∈l,Gw x) (hl:l.length≤2^30):
  Ct pg 89 #[ptr cb 0,ptr xb 0] w X (fun k=>k=rb∨k=xb) fun v wa w'=> ∃va,v= .tuple #[]∧
   bH w' (fun k=>k=rb) rb [vb,I ((at_+(gS (en prev st t l)).length:Nat):Int),I 0,I pl] 223∧bH w' (fun k=>k=xb) xb ((en prev st t l).l fH va fH fH fH fH) ty∧
   Own w' (made wa w') wa.heap.size 53 4 va (l.map KV.l):=by
 intro wi hk;have hS:=h.start hk;have e0:bs.drop at_=encI 11++(je prev++(je st++(pE t++(fY cM l++tl)))):=by rw [he];unfold gS en;simp only [au]
 have e1:=jU e0;have e2:=jU e1;have e3:=jU e2;have e4:=jU e3;have d0:=hS.ix e0;apply tC;unfold qw;repeat' first|refine aI ?_;intros|(with_reducible refine nz kQ kQ ?_)
 refine hS.call (qT (xo:=0) hS.toRB e0 (by unfold Ac;omega) (by simp)) kQ d0 fun w1 X1 iv=>?_;have hs:=aj.dY iv.t.s.has;have Co:=wJ (u:=I 11) iv.x (by simp);repeat' first|refine bL ?_;intros|with_reducible apply cG
 rename_i o7 UU _;subst UU;clear Co hs;have d1:=iv.ix e1;refine iv.call (Eu (xo:=7) iv.toRB e1 h1 (iJ rfl)) kQ d1 fun w2 X2 br=>?_;have d2:=br.ix e2;repeat' first|refine aI ?_;intros|(with_reducible refine nz kQ kQ ?_)
 refine br.call (Eu (xo:=4) br.toRB e2 h2 (iJ rfl)) kQ d2 fun w3 X3 bP=>?_;have d3:=bP.ix e3;repeat' first|refine aI ?_;intros|(with_reducible refine nz kQ kQ ?_)
 refine bP.call (acs (xo:=1) bP.toRB e3 h3 (iJ rfl)) kQ d3 fun w4 X4 ep=>?_;have d4:=ep.ix e4;repeat' first|refine aI ?_;intros|(with_reducible refine nz kQ kQ ?_)
 refine xl (OY (xo:=14) ep.toRB e4 hn hl rfl) kQ ep.t.s.has (fun k e=>e.elim (fun e=>e▸ep.r.box.1) fun e=>e▸ep.x.1) fun v wa w5 X5 ⟨va,hv,sd,Bl,qx⟩ AM sG _ c5=>?_;subst hv;have ir:=ep.Gx c5 ⟨c5.sub _ ep.r.box.1,sd.2⟩ d4 ⟨c5.sub _ ep.x.1,Bl.2⟩
 skip
 have e:at_+(encI 11).length+(je prev).length+(je st).length+(pE t).length+(fY cM l).length=at_+(gS (en prev st t l)).length:=by unfold gS en;simp only [ae];omega
 rw [e] at ir;have hz:=ep.t.s.kp.size;refine ir.t.fin fun Mz aM=>⟨va,rfl,(ir.out aM).2.1,(ir.out aM).2.2,?_⟩;exact(((qx.up sG (ah hz AM))).kp aM).tight
theorem Yi {st:bE} {l:List KV} (h:RB w X rb vb at_ pl bs cb xb Lk ty) (he:bs.drop at_=fT (fg st l)++tl) (h2:AL st) (hn: ∀x∈l,Gw x) (hl:l.length≤2^30):
  Ct pg 89 #[ptr cb 0,ptr xb 0] w X (fun k=>k=rb∨k=xb) fun v wa w'=> ∃va,v= .tuple #[]∧
   bH w' (fun k=>k=rb) rb [vb,I ((at_+(fT (fg st l)).length:Nat):Int),I 0,I pl] 223∧bH w' (fun k=>k=xb) xb ((fg st l).l fH fH fH va fH fH) ty∧
   Own w' (made wa w') wa.heap.size 74 4 va (l.map KV.l):=by
 intro wi hk;have hS:=h.start hk;have e0:bs.drop at_=encI 12++(je st++(fY cM l++tl)):=by rw [he];unfold fT fg;simp only [au]
 have e1:=jU e0;have e2:=jU e1;have d0:=hS.ix e0;apply tC;unfold qw;repeat' first|refine aI ?_;intros|(with_reducible refine nz kQ kQ ?_)
 refine hS.call (qT (xo:=0) hS.toRB e0 (by unfold Ac;omega) (by simp)) kQ d0 fun w1 X1 iv=>?_;have hs:=aj.dY iv.t.s.has;have Co:=wJ (u:=I 12) iv.x (by simp);repeat' first|refine bL ?_;intros|with_reducible apply cG
 rename_i o7 UU _;subst UU;clear Co hs;have d1:=iv.ix e1;refine iv.call (Eu (xo:=4) iv.toRB e1 h2 (iJ rfl)) kQ d1 fun w2 X2 br=>?_;have d2:=br.ix e2;repeat' first|refine aI ?_;intros|(with_reducible refine nz kQ kQ ?_)
 refine xl (QJ (xo:=16) br.toRB e2 hn hl rfl) kQ br.t.s.has (fun k e=>e.elim (fun e=>e▸br.r.box.1) fun e=>e▸br.x.1) fun v wa w5 X5 ⟨va,hv,sd,Bl,qx⟩ AM sG _ c5=>?_;subst hv;have ir:=br.Gx c5 ⟨c5.sub _ br.r.box.1,sd.2⟩ d2 ⟨c5.sub _ br.x.1,Bl.2⟩
 skip
 have e:at_+(encI 12).length+(je st).length+(fY cM l).length=at_+(fT (fg st l)).length:=by unfold fT fg;simp only [ae];omega
 rw [e] at ir;have hz:=br.t.s.kp.size;refine ir.t.fin fun Mz aM=>⟨va,rfl,(ir.out aM).2.1,(ir.out aM).2.2,?_⟩;exact(((qx.up sG (ah hz AM))).kp aM).tight
end
end Go.Proofs.YtpdkoaklobnegaaGreat
namespace Go.Proofs.YtpdkoaklobnegaaGreat
open Go.Proofs.Tryz renaming prog → pg
open Go.dL
theorem Yj:Idle pg 87:=by
 refine⟨by kernel_rfl,fun fD w=>?_⟩;refine callsD_of_wpS Tryz.func87 rfl fun c₀ cs hu=>?_;rw [Tryz.ntmps87];have dU:12≤(fD++dz (12-fD.size) undef).size:=by simp;omega
 generalize fD++dz (12-fD.size) undef=tm at dU;have h2:2<tm.size:=by omega
 have h5:5<tm.size:=by omega
 have h7:7<tm.size:=by omega
 apply wpS_seq;apply wpS_region;simp [wpOpsS,go_sem,recoverD,hu,jv];refine wpS_of_wp (wp_block ?_);apply wp_seq;apply wp_region;simp [wpOps,go_sem,Exit.then,h2,h5,h7];refine .inl (wp_cond_true ?_ ?_)
 ·simp [Act.eval,h2,h5,h7]
 apply wp_region;simp [wpOps,go_sem,Exit.then,Exit.inBlock,h2,h5,h7];refine .inl ?_;cases c₀;simp_all [bodyPostS,results,Tryz.results87]
set_option maxRecDepth 100000
set_option maxHeartbeats 1000000
set_option linter.unusedVariables false
set_option linter.unusedSimpArgs false
attribute [local irreducible] un jn bq aS bb gy dV dD cK lJ ez kV yC xf gU gH aa ay aD eW eV eU eC eF gE ao fin aR aE aJ vS yD jw jA tq A6 A7 yE A8 yF jx jB tt A9 Ba yG Bb
theorem Ju {w:World} {X:XS} {a b:Value} {bs:List Nat} (ha:Sl w X 1 a (bs.map U1)) (hb:Sl w X 1 b (bs.map U1)) (cU:bs≠[]):Ct pg 92 #[a,b] w X nX fun v _ _=>v=B true:=by
 intro w0 hk;replace ha:=ha.mv hk.dm;replace hb:=hb.mv hk.dm;have akS:bs.map U1≠[]:=fun e=>cU (by simpa using e);have key: ∀{w X a},Sl w X 1 a (bs.map U1)→ ∃g o cap,a= .slice (some ⟨g,o,none⟩) bs.length cap∧Cells w X g o (bs.map fun x:Nat=>Value.int .u8 x):=fun h=>by
  obtain⟨_,_,base,cap,rfl,hc,_⟩:=h;obtain⟨g,o,rfl,jj⟩:=hc akS;rw [UW] at jj;exact⟨g,o,cap,by rw [aG],jj⟩
 obtain⟨g1,o1,c1,rfl,Cp⟩:=key ha;obtain⟨g2,o2,c2,rfl,jF⟩:=key hb;apply QK;unfold Fg;have hs:=aj.init w0;refine Ll (e:=5) rfl Cp kQ kQ kQ hs.has fun w1 X1 aq=>?_;replace hs:=hs.trans aq;refine Ll (e:=5) rfl (jF.mv aq.mv) kQ kQ kQ hs.has fun w2 X2 bQ=>?_;replace hs:=hs.trans bQ;repeat' first|refine aI ?_;intros|refine de ?_ ?_<;>intros
 ·exact ak hs fun wa aM=>rfl
 ·exact absurd rfl (by assumption)
end Go.Proofs.YtpdkoaklobnegaaGreat
namespace Go.Proofs.YtpdkoaklobnegaaGreat
open Go.Proofs.Tryz renaming prog → pg
open Go.dL
set_option maxRecDepth 100000
set_option maxHeartbeats 1000000
set_option linter.unusedVariables false
set_option linter.unusedSimpArgs false
attribute [local irreducible] un jn bq aS bb gy dV dD cK lJ ez kV yC xf gU gH aa ay aD eW eV eU eC eF gE ao fin aR aE aJ vS yD jw jA tq A6 A7 yE A8 yF jx jB tt A9 Ba yG Bb
theorem Gy:Tryz.f45.results= #[.cell 2 117,.cell 3 29]:=by kernel_rfl
theorem Jv {tmps:Array Value} {w:World} {X:XS} {xb eb:Nat} {cs:List Value} {e:Int} (h1:tmps[2]? =some (ptr xb 0)) (h2:tmps[3]? =some (ptr eb 0)) (hx:bH w X xb cs 117) (hl:cs.length=29) (he:bH w X eb [I e] 29):
  (results Tryz.f45 tmps).run pg w= .ok (.tuple #[.agg cs.toArray,I e]) w:=by
 have l1:(loadVar 117 ⟨xb,0,none⟩).run pg w= .ok (.agg cs.toArray) w:=by
  have hq:(match pg.underlying 117 with|some (.struct _)=>true|_=>false)=true:=by kernel_rfl
  split at hq
  ·rename_i fs hu;refine run_loadVar_row w xb _ _ cs.toArray (0,0) _ hx.2 hu rfl ?_;rw [List.size_toArray,hl];kernel_rfl
  ·cases hq
 have l2:(loadVar 29 ⟨eb,0,none⟩).run pg w= .ok (I e) w:=by
  have hc:w.cell? ⟨eb,0,none⟩=some (I e):=by unfold World.cell?;rw [he.2];rfl
  have Uy:(isAgg 29).run pg w= .ok false w:=run_isAgg_plain (d:=.int .i64) kQ rfl w;simp [loadVar,Uy,run_load,hc]
 unfold results;rw [Gy];simp [h1,h2,asAddr,l1,l2]
theorem HT {R:Ending→World→Prop} {w:World} {X:XS} {xb eb:Nat} {cs:List Value} {e:Int} (hx:bH w X xb cs 117) (hl:cs.length=29) (he:bH w X eb [I e] 29) (hR:R (.returned (.tuple #[.agg cs.toArray,I e])) w):
  Fh pg Tryz.f45 R [ptr xb 0,ptr eb 0,.func (.func 87) #[] #[ptr xb 0,ptr eb 0]] .returning w:=by
 refine⟨[ptr xb 0,ptr eb 0],87,#[ptr xb 0,ptr eb 0],rfl,by kernel_rfl,?_⟩;refine(Yj.2 _ w).mono ?_;rintro e' u' w' ⟨⟨x,rfl⟩,rfl,rfl⟩;refine⟨x,_,rfl,rfl,fun tmps ht=>Jv (ht 0 2 ?_) (ht 1 3 ?_) hx hl he,hR⟩
 ·unfold qy;rw [Gy];rfl
 ·unfold qy;rw [Gy];rfl
theorem UX {P:Program} {R:Ending→World→Prop} {X:XS} {w:World} {m:Bool} {t:TypeId} {N:Value→World→XS→Prop} (hX: ∀k,X k→k<w.heap.size) (hz:(P.info? t).bind (·.zero)=some (I 0))
  (n: ∀b w' X',w.heap.size≤b→aj X w X' w'→bH w' X' b [I 0] t→N (ptr b 0) w' X'):eV P R X w m (gZ t true (.tuple #[])) N:=by
 unfold eV eW;intro wa hk;unfold jy;have hzv: ∀w,(zeroValue t).run P w= .ok (I 0) w:=by
  intro w;cases hi:P.info? t with
  |none=>simp [hi] at hz
  |some inf=>
   have zS:inf.zero=some (I 0):=by simpa [hi] using hz
   simp [zeroValue,typeInfo,hi,zS]
 have hr:(gZ t true (.tuple #[])).run P wa= .ok (ptr wa.heap.size 0) (wa.alloc (.cells #[I 0] t)):=by simp [gZ,hzv,newVar,newRow,Value.cells]
 simp only [vS,Sem.run_bind,hr,Result.andThen_ok,Sem.run_pure];have hx:Ext wa (wa.alloc (.cells #[I 0] t)):=Ext.alloc _ _;exact⟨Step.fh hx,n _ _ _ hk.size (aj.fh hX hk hx) ⟨.inr ⟨bf _,by simp⟩,by simpa using heap_alloc_new wa _⟩⟩
theorem QL {w:World} {X:XS} {v0:Value} {prev st:bE} {t:gf} {l:List KV} (h:Sl w X 1 v0 ((gS (en prev st t l)).map U1)) (rW:ik prev st t l=true) (h1:AL prev) (h2:AL st) (h3:Cn t) (hn: ∀x∈l,Gw x)
  (DC:l.length≤2^16) (mQ: ∀x∈l,x.key.size≤2^16) (hlen:(gS (en prev st t l)).length≤262144) (cH: ∀b∈gS (en prev st t l),b<256):
  Ct pg 45 #[v0] w X nX fun v wa w'=> ∃va,v= .tuple #[(en prev st t l).v fH va fH fH fH fH,I 0]∧Own w' (made wa w') wa.heap.size 53 4 va (l.map KV.l):=by
 intro w0 hk;replace h:=h.mv hk.dm;have DD:Ft w0 nX w0 (ba w0) nX:=Ft.init fun _ h=>h.elim;refine Fi ?_;unfold zm;refine Fj (l:=Lk) DD.s.has kQ fun xb w1 X1 hxb aq Gz=>?_;have cm:=DD.since aq;refine UX cm.s.has kQ fun eb w2 X2 heb bQ xm=>?_;have bK:=cm.since bQ;have hrx:=Gz.since bQ;have hs:=aq.trans bQ;have j7:=h.mv hs.mv;have cU:gS (en prev st t l)≠[]:=by
  intro e;have:=GA (en prev st t l).kind;have h9:=congrArg az e;unfold gS at h9;simp only [ae,bz] at h9;omega
 generalize pF:gS (en prev st t l)=bs at*;repeat' first|refine bL ?_;intros
 refine cJ (UY j7 zQ cH) kQ bK.s.has ?_;rintro _ oG w3 X3 ⟨rb,vb,rfl,rX⟩ nJ mg cl;have cn:=bK.since cl;repeat' first|refine aI ?_;intros
 refine kX cn.s.has fun cb w4 X4 hcb ff sX=>?_;have dS:=(cn.since ff).Jw;have MD:=bK.s.kp.size;have ME:=cm.s.kp.size;have hz3:=cl.kp.size;have pQ:pZ w3 X3 rb vb 0 0 bs:=rX.mv (Mv.sub mg);have AN:=pQ.mv ff.mv;have GB:=(hrx.since cl).since ff;have UZ:=(xm.since cl).since ff;have HU:=rX.box.1;have U6:=bQ.has xb (bQ.sub xb Gz.1);have akT:=aq.has xb Gz.1;have qt:=bQ.has eb xm.1;have Bm:=ff.has cb sX.1;have zT:RB w4 X4 rb vb 0 0 bs cb xb Lk 117:=⟨AN,GB,sX.cells,by have:=HU.2;omega,by omega,by have:=HU.1;omega,fun hb=>by have:=(rX.ow.aU hb).1.1;omega⟩;refine dS.call (Yh (tl:=[]) zT (by rw [pF];simp) h1 h2 h3 hn zQ) kQ (fun k e=>e.elim (fun e=>by subst e;exact⟨AN.box.1,by have:=HU.1;omega⟩) fun e=>by subst e;exact⟨GB.1,by omega⟩) fun v Fk w5 X5 hq5 AM sG gR c5=>?_;obtain⟨va,rfl,sd,Bl,qx⟩:=hq5;rw [pF] at sd;have U7:bH w5 X5 xb _ _:=⟨c5.sub _ GB.1,Bl.2⟩;have adS:=UZ.dM c5 fun e=>e.elim (fun e=>by have:=HU.1;omega) fun e=>by omega
 have adT:=zT.Gx c5 (iX:=0+bs.length) ⟨c5.sub _ AN.box.1,sd.2⟩ zQ U7;have h0:Sl w0 (out nX w0) 1 v0 (bs.map U1):=h.mono fun k ai=>⟨ai,fun h=>h.elim⟩;clear hs j7 aq bQ cl ff;have hs:=aj.dY gR.s.has
 skip
 refine dy (U9 adT.r zQ) kQ gR.s.has fun w6 X6 pG=>?_;have gB:=gR.since pG;have Va:=U7.since pG;have adU:=adS.since pG;have Fl:Own w6 X6 w0.heap.size 53 4 va (l.map KV.l):=(qx.up sG (by have:=dS.s.kp.size;omega)).since pG;obtain⟨ab,an,ac,rfl⟩:=Fl.sl.form;repeat' first|refine bL ?_;intros
 have adV:Ct pg 91 #[(en prev st t l).v fH (.slice ab an ac) fH fH fH fH] w6 X6 nX fun v wa w'=> ∃vb,v= .tuple #[vb,I 0]∧Own w' (made wa w') wa.heap.size 5 1 vb (bs.map U1):=by
  refine(zl (r:=en prev st t l) ⟨Sl.nil _ _ _,Fl.sl,Sl.nil _ _ _,Sl.nil _ _ _,ic.nil _ _ _,ic.nil _ _ _⟩ ?_ rfl (fun _=>⟨DC,mQ,by rw [pF];exact hlen⟩)).mono fun v wb w' _ hq=>?_
  ·exact⟨by simp [en],by simp [en];omega,by simp [en],fun x hx=>by have:=mQ x hx;omega,⟨by simp [en,State.zero,Aa],by simp [en,State.zero,Ab],by simp [en,State.zero,Gu],by simp [en,State.zero,Gv]⟩⟩
  ·rw [Ns rW,if_neg (by simp),pF] at hq;exact hq
 refine cJ adV kQ gB.s.has ?_;rintro _ wa7 w7 X7 ⟨ve,rfl,hoe⟩ aaw Nu kY;have lP:=gB.since kY;have hx7:=Va.since kY;have adW:=adU.since kY;have UU:=Fl.since kY;have ove:=hoe.sl.one;repeat' first|refine bL ?_;intros
 refine fk (Q:=fun K=> ∀w X,aj X7 w7 X w→K (B true) w X) ?_ fun K hK=>?_
 ·intro w8 X8 qa;have Ad:=lP.since qa;have hx8:=hx7.since qa;have adX:=adW.since qa;have xp:=UU.since qa;clear hs;have hs:=aj.dY Ad.s.has;repeat' first|refine aI ?_;intros
  refine zH (o:=0) hx8 rfl kQ (iJ rfl) rfl ?_ Ad.s.has fun w9 X9 c9 hr9=>?_
  ·rfl
  have mu:=Ad.dM (F':=fun k=>yK w0 X4 k∨made Fk w5 k) c9 (fun k ai=>by subst ai;exact .inl ⟨GB.1,by omega⟩) fun k ai=>.inl ai;have Vb:=adX.dM c9 (fun e=>by have e:eb=xb:=e;omega);have OZ:=xp.dM c9 fun g hg e=>by
   have e:g=xb:=e;subst e;exact Own.dJ xp hx8 kQ hg
  refine kK (o:=0) Vb rfl kQ (by simp) rfl mu.s.has fun qz pa Fm adY=>?_;have fE:=mu.dM (F':=fun k=>yK w0 X4 k∨made Fk w5 k) Fm (fun k ai=>by subst ai;exact .inl ⟨UZ.1,by omega⟩) fun k ai=>.inl ai;have adZ:=hr9.dM Fm (fun e=>by have e:xb=eb:=e;omega);have ad0:=OZ.dM Fm fun g hg e=>by
   have e:g=eb:=e;subst e;exact Own.dJ OZ Vb kQ hg
  unfold dL.fin;intro wa aM;refine HT (X:=pa) (cs:=(en prev st t l).l fH (.slice ab an ac) fH fH fH fH) (adZ.kp aM) rfl (adY.kp aM) ?_;exact⟨_,rfl,⟨aM.os.trans fE.s.kp.os,aM.tape.trans fE.s.kp.tape,aM.output.trans fE.s.kp.output,ah fE.s.kp.size aM.size,fun k hl hn=>(aM.block k (fE.s.sub k ⟨hl,hn⟩)).trans (fE.s.kp.block k ⟨hl,hn⟩)⟩,.slice ab an ac,rfl,(ad0.kp aM).tight⟩
 ·repeat' first|refine aI ?_;intros
  refine dy (Ju (hoe.sl.mono Nu) (h0.mv lP.s.mv) cU) kQ lP.s.has fun w8 X8 qa=>?_;exact hK _ _ qa
theorem QM {w:World} {X:XS} {v0:Value} {st:bE} {l:List KV} (h:Sl w X 1 v0 ((fT (fg st l)).map U1)) (hm:st.may=true) (hp:sw l=true) (h2:AL st) (hn: ∀x∈l,Gw x)
  (DC:l.length≤2^16) (mQ: ∀x∈l,x.key.size≤2^16) (hlen:(fT (fg st l)).length≤262144) (cH: ∀b∈fT (fg st l),b<256):
  Ct pg 45 #[v0] w X nX fun v wa w'=> ∃va,v= .tuple #[(fg st l).v fH fH fH va fH fH,I 0]∧Own w' (made wa w') wa.heap.size 74 4 va (l.map KV.l):=by
 intro w0 hk;replace h:=h.mv hk.dm;have DD:Ft w0 nX w0 (ba w0) nX:=Ft.init fun _ h=>h.elim;refine Fi ?_;unfold zm;refine Fj (l:=Lk) DD.s.has kQ fun xb w1 X1 hxb aq Gz=>?_;have cm:=DD.since aq;refine UX cm.s.has kQ fun eb w2 X2 heb bQ xm=>?_;have bK:=cm.since bQ;have hrx:=Gz.since bQ;have hs:=aq.trans bQ;have j7:=h.mv hs.mv;have cU:fT (fg st l)≠[]:=by
  intro e;have:=GA (fg st l).kind;have h9:=congrArg az e;unfold fT at h9;simp only [ae,bz] at h9;omega
 generalize pF:fT (fg st l)=bs at*;repeat' first|refine bL ?_;intros
 refine cJ (UY j7 zQ cH) kQ bK.s.has ?_;rintro _ oG w3 X3 ⟨rb,vb,rfl,rX⟩ nJ mg cl;have cn:=bK.since cl;repeat' first|refine aI ?_;intros
 refine kX cn.s.has fun cb w4 X4 hcb ff sX=>?_;have dS:=(cn.since ff).Jw;have MD:=bK.s.kp.size;have ME:=cm.s.kp.size;have hz3:=cl.kp.size;have pQ:pZ w3 X3 rb vb 0 0 bs:=rX.mv (Mv.sub mg);have AN:=pQ.mv ff.mv;have GB:=(hrx.since cl).since ff;have UZ:=(xm.since cl).since ff;have HU:=rX.box.1;have U6:=bQ.has xb (bQ.sub xb Gz.1);have akT:=aq.has xb Gz.1;have qt:=bQ.has eb xm.1;have Bm:=ff.has cb sX.1;have zT:RB w4 X4 rb vb 0 0 bs cb xb Lk 117:=⟨AN,GB,sX.cells,by have:=HU.2;omega,by omega,by have:=HU.1;omega,fun hb=>by have:=(rX.ow.aU hb).1.1;omega⟩;refine dS.call (Yi (tl:=[]) zT (by rw [pF];simp) h2 hn zQ) kQ (fun k e=>e.elim (fun e=>by subst e;exact⟨AN.box.1,by have:=HU.1;omega⟩) fun e=>by subst e;exact⟨GB.1,by omega⟩) fun v Fk w5 X5 hq5 AM sG gR c5=>?_;obtain⟨va,rfl,sd,Bl,qx⟩:=hq5;rw [pF] at sd;have U7:bH w5 X5 xb _ _:=⟨c5.sub _ GB.1,Bl.2⟩;have adS:=UZ.dM c5 fun e=>e.elim (fun e=>by have:=HU.1;omega) fun e=>by omega
 have adT:=zT.Gx c5 (iX:=0+bs.length) ⟨c5.sub _ AN.box.1,sd.2⟩ zQ U7;have h0:Sl w0 (out nX w0) 1 v0 (bs.map U1):=h.mono fun k ai=>⟨ai,fun h=>h.elim⟩;clear hs j7 aq bQ cl ff;have hs:=aj.dY gR.s.has
 skip
 refine dy (U9 adT.r zQ) kQ gR.s.has fun w6 X6 pG=>?_;have gB:=gR.since pG;have Va:=U7.since pG;have adU:=adS.since pG;have Fl:Own w6 X6 w0.heap.size 74 4 va (l.map KV.l):=(qx.up sG (by have:=dS.s.kp.size;omega)).since pG;obtain⟨ab,an,ac,rfl⟩:=Fl.sl.form;repeat' first|refine bL ?_;intros
 have adV:Ct pg 91 #[(fg st l).v fH fH fH (.slice ab an ac) fH fH] w6 X6 nX fun v wa w'=> ∃vb,v= .tuple #[vb,I 0]∧Own w' (made wa w') wa.heap.size 5 1 vb (bs.map U1):=by
  refine(Fo (r:=fg st l) ⟨Sl.nil _ _ _,Sl.nil _ _ _,Sl.nil _ _ _,Fl.sl,ic.nil _ _ _,ic.nil _ _ _⟩ ?_ rfl (fun _=>⟨DC,mQ,by rw [pF];exact hlen⟩)).mono fun v wb w' _ hq=>?_
  ·exact⟨by simp [fg],by simp [fg],by simp [fg],by simp [fg],⟨by simp [fg,State.zero,Aa],by simp [fg,State.zero,Ab],by simp [fg,State.zero,Gu],by simp [fg,State.zero,Gv]⟩⟩
  ·rw [UT hm hp,if_neg (by simp),pF] at hq;exact hq
 refine cJ adV kQ gB.s.has ?_;rintro _ wa7 w7 X7 ⟨ve,rfl,hoe⟩ aaw Nu kY;have lP:=gB.since kY;have hx7:=Va.since kY;have adW:=adU.since kY;have UU:=Fl.since kY;have ove:=hoe.sl.one;repeat' first|refine bL ?_;intros
 refine fk (Q:=fun K=> ∀w X,aj X7 w7 X w→K (B true) w X) ?_ fun K hK=>?_
 ·intro w8 X8 qa;have Ad:=lP.since qa;have hx8:=hx7.since qa;have adX:=adW.since qa;have xp:=UU.since qa;clear hs;have hs:=aj.dY Ad.s.has;repeat' first|refine aI ?_;intros
  refine zH (o:=0) hx8 rfl kQ (iJ rfl) rfl ?_ Ad.s.has fun w9 X9 c9 hr9=>?_
  ·rfl
  have mu:=Ad.dM (F':=fun k=>yK w0 X4 k∨made Fk w5 k) c9 (fun k ai=>by subst ai;exact .inl ⟨GB.1,by omega⟩) fun k ai=>.inl ai;have Vb:=adX.dM c9 (fun e=>by have e:eb=xb:=e;omega);have OZ:=xp.dM c9 fun g hg e=>by
   have e:g=xb:=e;subst e;exact Own.dJ xp hx8 kQ hg
  refine kK (o:=0) Vb rfl kQ (by simp) rfl mu.s.has fun qz pa Fm adY=>?_;have fE:=mu.dM (F':=fun k=>yK w0 X4 k∨made Fk w5 k) Fm (fun k ai=>by subst ai;exact .inl ⟨UZ.1,by omega⟩) fun k ai=>.inl ai;have adZ:=hr9.dM Fm (fun e=>by have e:xb=eb:=e;omega);have ad0:=OZ.dM Fm fun g hg e=>by
   have e:g=eb:=e;subst e;exact Own.dJ OZ Vb kQ hg
  unfold dL.fin;intro wa aM;refine HT (X:=pa) (cs:=(fg st l).l fH fH fH (.slice ab an ac) fH fH) (adZ.kp aM) rfl (adY.kp aM) ?_;exact⟨_,rfl,⟨aM.os.trans fE.s.kp.os,aM.tape.trans fE.s.kp.tape,aM.output.trans fE.s.kp.output,ah fE.s.kp.size aM.size,fun k hl hn=>(aM.block k (fE.s.sub k ⟨hl,hn⟩)).trans (fE.s.kp.block k ⟨hl,hn⟩)⟩,.slice ab an ac,rfl,(ad0.kp aM).tight⟩
 ·repeat' first|refine aI ?_;intros
  refine dy (Ju (hoe.sl.mono Nu) (h0.mv lP.s.mv) cU) kQ lP.s.has fun w8 X8 qa=>?_;exact hK _ _ qa
section
variable {P : Program} {X : XS} {w : World} {N : Value → Prop} {t : TypeId}
theorem Vc {c k:Nat} {z:Int} (hz:z=k) (hk:k≤24) (hc:c<256) (h:N (.int .u32 ((c*2^k:Nat):Int))):aa P X w (binOp .shl t (.int .u32 (IntKind.u32.wrap (c:Int))) (.int .u64 z)) N:=
 Lm zQ (by
  have h1:min z.toNat IntKind.u32.bits=k:=by
   show min z.toNat 32=k
   omega
  have h2:c*2^k<4294967296:=by
   have h3:2^k≤2^24:=tz (by decide) hk;have h4:c*2^k≤255*2^24:=Nat.mul_le_mul zQ h3;omega
  have e:IntKind.u32.wrap (IntKind.u32.wrap (c:Int)*2^min z.toNat IntKind.u32.bits)=((c*2^k:Nat):Int):=by
   rw [h1,wrap32,wrap32,show(c:Int) % 4294967296=c by omega];have h5:(c:Int)*2^k=((c*2^k:Nat):Int):=by simp
   rw [h5];omega
  rw [e];exact h)
theorem aax {a c k:Nat} (hk:k≤24) (ha:a<2^k) (hc:c<256) (h:N (.int .u32 ((a+c*2^k:Nat):Int))):aa P X w (binOp .or t (.int .u32 (a:Int)) (.int .u32 ((c*2^k:Nat):Int))) N:=
 Jx (by
  have h3:2^k≤2^24:=tz (by decide) hk;have h4:c*2^k≤255*2^24:=Nat.mul_le_mul zQ h3;have e:IntKind.u32.wrap (aQ IntKind.u32.bits (a:Int)|||aQ IntKind.u32.bits ((c*2^k:Nat):Int)).toNat=((a+c*2^k:Nat):Int):=by
   rw [wrap32];have h1:(aQ 32 (a:Int))=BitVec.ofNat 32 a:=by rw [jS]
   have h2:(aQ 32 ((c*2^k:Nat):Int))=BitVec.ofNat 32 (c*2^k):=by rw [jS]
   show((aQ 32 (a:Int)|||aQ 32 ((c*2^k:Nat):Int)).toNat:Int) % 4294967296=_
   rw [h1,h2,BitVec.toNat_or,fc,fc,ek (by omega:a<2^32),ek (by omega:c*2^k<2^32),acu ha];omega
  rw [e];exact h)
end
theorem Zr: ∃g:List Nat→Nat,∀l,g l=l[0]?.getD 0+l[1]?.getD 0*2^8+l[2]?.getD 0*2^16+l[3]?.getD 0*2^24:=⟨_,fun _=>rfl⟩
noncomputable def im:List Nat→Nat:=Classical.choose Zr
theorem Fp (l:List Nat):im l=l[0]?.getD 0+l[1]?.getD 0*2^8+l[2]?.getD 0*2^16+l[3]?.getD 0*2^24:=Classical.choose_spec Zr l
theorem GC (n:Nat) (h:n<4294967296) (l:List Nat):im (qB n++l)=n:=by
 rw [Fp];unfold qB;simp;omega
theorem Ev {w:World} {X:XS} {vb:Value} {l:List Nat} (h:Sl w X 1 vb (l.map U1)) (h4:4≤l.length) (cH: ∀b∈l,b<256):Ct pg 202 #[vb] w X nX fun v wa w'=>v= .int .u32 (im l):=by
 intro w0 hk;replace h:=h.mv hk.dm;have hlen:=h.fQ;obtain⟨b0,b1,b2,b3,r,rfl⟩: ∃b0 b1 b2 b3 r,l=b0::b1::b2::b3::r:=by
  match l,h4 with
  |b0::b1::b2::b3::r,_=>exact⟨_,_,_,_,_,rfl⟩
 have x0:(b0::b1::b2::b3::r)[0]? =some b0:=rfl;have x1:(b0::b1::b2::b3::r)[1]? =some b1:=rfl;have x2:(b0::b1::b2::b3::r)[2]? =some b2:=rfl;have x3:(b0::b1::b2::b3::r)[3]? =some b3:=rfl;have y0:=cH b0 (by simp);have y1:=cH b1 (by simp);have y2:=cH b2 (by simp);have y3:=cH b3 (by simp);apply Vd;unfold Jy;have hs:=aj.init w0;have w8:IntKind.u32.wrap (b0:Int)=b0:=by rw [wrap32];omega
 repeat' first|refine aI ?_;intros|(with_reducible refine Vc (k:=8) rfl zQ y1 ?_)
 rw [w8];refine aax (k:=8) zQ zQ y1 ?_;repeat' first|refine aI ?_;intros|(with_reducible refine Vc (k:=16) rfl zQ y2 ?_)
 refine aax (k:=16) zQ zQ y2 ?_;repeat' first|refine aI ?_;intros|(with_reducible refine Vc (k:=24) rfl zQ y3 ?_)
 refine aax (k:=24) zQ zQ y3 ?_
 skip
 exact ak hs fun wa aM=>by rw [Fp];rfl
end Go.Proofs.YtpdkoaklobnegaaGreat
namespace Go.Proofs.YtpdkoaklobnegaaGreat
open Go.Proofs.Tryz renaming prog → pg
open Go.dL
noncomputable def kf (b:List Nat):Option (List Nat):=
 if b.length<12∨262144<im b∨im (b.drop 4)≠Ae (b.take 4)∨b.length-12<im b then none
 else if im (b.drop (8+im b))≠Ae ((b.drop 8).take (im b))then none
 else some ((b.drop 8).take (im b))
theorem O6 {b p:List Nat} (h:kf b=some p):p.length+12≤b.length:=by
 unfold kf at h;split at h
 ·cases h
 ·rename_i h1;simp only [not_or,Nat.not_lt] at h1;split at h
  ·cases h
  ·cases h;rw [bp,bU];omega
theorem Yk {b:List Nat} (h: ¬(b.length<12∨262144<im b∨im (b.drop 4)≠Ae (b.take 4)∨b.length-12<im b)) (h2:im (b.drop (8+im b))=Ae ((b.drop 8).take (im b))):kf b=some ((b.drop 8).take (im b)):=by
 unfold kf;rw [if_neg h,if_neg fun hn=>hn h2]
theorem tD {b:List Nat} (h:b.length<12∨262144<im b∨im (b.drop 4)≠Ae (b.take 4)∨b.length-12<im b):kf b=none:=by
 unfold kf;rw [if_pos h]
theorem aay {b:List Nat} (h2:im (b.drop (8+im b))≠Ae ((b.drop 8).take (im b))):kf b=none:=by
 unfold kf;rw [if_pos h2];split<;>rfl
noncomputable def iA (b:List Nat):List (List Nat)×Nat:=
 match h:kf b with
 |none=>([],0)
 |some p=>let r:=iA (b.drop (p.length+12));(p::r.1,p.length+12+r.2)
termination_by b.length
decreasing_by
 have:=O6 h;rw [bU];omega
theorem acv {p l:List Nat} (hp:p.length≤262144):kf (cC p++l)=some p:=by
 have e1:im (cC p++l)=p.length:=by
  unfold cC;simp only [au];exact GC _ zQ _
 have e2:(cC p++l).drop 4=qB (Ae (qB p.length))++(p++(qB (Ae p)++l)):=by
  unfold cC;simp only [au];exact jd (Ln _)
 have e3:(cC p++l).take 4=qB p.length:=by
  unfold cC;simp only [au];exact List.take_left' (Ln _)
 have e4:(cC p++l).drop 8=p++(qB (Ae p)++l):=by
  rw [show 8=4+4 from rfl,←fu,e2];exact jd (Ln _)
 have hlen:(cC p++l).length=p.length+12+l.length:=by rw [ae,lQ]
 unfold kf;rw [e1,e2,e3,hlen,GC _ (acw _),if_neg (by simp;omega),←fu,e4,List.drop_left,GC _ (acw _),List.take_left,if_neg (by simp)]
theorem aaz {p l:List Nat} (hp:p.length≤262144):iA (cC p++l)=(p::(iA l).1,p.length+12+(iA l).2):=by
 have h:=acv (l:=l) hp;have hd:(cC p++l).drop (p.length+12)=l:=jd (lQ p);rw [iA];split
 ·rename_i h2;rw [h] at h2;cases h2
 ·rename_i q h2;rw [h] at h2;cases h2;rw [hd]
theorem Jz: ∀(ps:List (List Nat)) (l:List Nat),(∀p∈ps,p.length≤262144)→iA ((ps.map cC).flatten++l)=(ps++(iA l).1,(ps.map cC).flatten.length+(iA l).2)
 |[],l,_=>by simp
 |p::ps,l,h=>by
  rw [bc,cD,au,aaz (h p (by simp)),Jz ps l fun q hq=>h q (aZ _ hq),ae,lQ];simp only [List.cons_append,Prod.mk.injEq,true_and];omega
theorem BO {l:List Nat} (h:kf l=none):iA l=([],0):=by
 rw [iA];split
 ·rfl
 ·rename_i p h2;rw [h] at h2;cases h2
theorem Yl {l:List Nat} (h:l.length<12):iA l=([],0):=BO (by unfold kf;rw [if_pos (.inl h)])
end Go.Proofs.YtpdkoaklobnegaaGreat
namespace Go.Proofs.YtpdkoaklobnegaaGreat
open Go.Proofs.Tryz renaming prog → pg
open Go.dL
set_option maxRecDepth 100000
set_option maxHeartbeats 1000000
set_option linter.unusedVariables false
set_option linter.unusedSimpArgs false
attribute [local irreducible] un jn bq aS bb gy dV dD cK lJ ez kV yC xf gU gH aa ay aD eW eV eU eC eF gE ao fin aR aE aJ vS yD jw jA tq A6 A7 yE A8 yF jx jB tt A9 Ba yG Bb
def L0 (dir:ByteArray) (sz:Nat):LM:=⟨dir,sz,[],0⟩
theorem Ym {w:World} {X F:XS} {db sz:Nat} {dir:ByteArray} {m:DM} (h:Dk w F db m) (hF:FX F X w) (Bc:m.fs=[]) (gg:m.dn=false) (h1:1≤dir.size) (h2:dir.size≤11) (aq:64≤sz) (bQ:sz≤262144)
  (hr:(LD.fI ⟨L0 dir sz,m⟩ 1).2=0):
  Ct pg 41 #[ptr db 0,.string dir,I sz] w X F fun v wa w'=> ∃lb F',v= .tuple #[ptr lb 0,I 0]∧(∀k,F' k→F k∨made wa w' k)∧Lg w' F' lb db (LD.fI ⟨L0 dir sz,m⟩ 1).1.L (LD.fI ⟨L0 dir sz,m⟩ 1).1.m:=by
 intro w0 hk;replace h:=h.mv (hF.mv hk);have hT:=hF.ft hk;have iz:FX F (ba w0) w0:=hF.kp hk;apply MF;unfold Ew;refine cJ (O7 (n:=1) h1 h2 zQ zQ) kQ hT.s.has ?_;rintro _ HQ w1 X1 rfl tv oF vW;replace hT:=hT.since vW;replace h:=h.mv (vW.dZ fun k ai=>(iz k ai).1);repeat' first|refine bL ?_;intros
 refine dy (MG h (hT.fx fun _ h=>h)) kQ hT.s.has fun w2 X2 nK=>?_;replace h:=h.mv (nK.dZ hT.aU);replace hT:=hT.since nK;rw [gg];repeat' first|refine aI ?_;intros
 refine kX hT.s.has fun lb w3 X3 zV cl dA=>?_;have h3:=h.mv (cl.dZ hT.aU);have cn:=hT.since cl;have Sn: ∀k,F k→k<w2.heap.size:=fun k ai=>hT.s.has k (hT.aU k ai);have fX:Ft w0 F w3 X3 (fun k=>F k∨k=lb):=cn.more fun k ai=>ai.imp id fun e=>by
  subst e;have:=hT.s.kp.size;exact⟨dA.1,by omega⟩
 have g3:Lg w3 (fun k=>F k∨k=lb) lb db (L0 dir sz) m:=
  ⟨(· =lb),F,.slice none 0 0,[],fun k a b=>by have:=Sn k b;omega,fun _ h=>.inr h,fun _ h=>.inl h,
   ⟨rfl,⟨rfl,dA.2⟩,⟨by simp,.inl ⟨rfl,rfl⟩⟩,by simp,by simp,by simp,List.Pairwise.nil⟩,h3⟩
 refine cJ (Es h3 (cn.fx fun _ h=>h) (by simp [Bc]) (by simp [Bc])) kQ cn.s.has ?_;rintro vl yJ w4 X4 Sp sF lK ff;rw [show(fB (m.fs.map (·.1))).map S1=([]:List ByteArray).map S1 from by rw [Bc];simp [fB]] at Sp;have j7:=Sp.sl;repeat' first|refine aI ?_;intros
 refine fV (fun n a w X=>a=I 0∧Ft w0 F w X (fun k=>F k∨k=lb)∧Lg w (fun k=>F k∨k=lb) lb db (L0 dir sz) m) 0 ⟨rfl,fX.since ff,g3.mv (ff.dZ fX.aU)⟩ ?_;clear hT cn fX g3 h3 h dA;rintro n a w5 X5 ⟨rfl,gR,g5⟩;obtain⟨FL,FD,sv,bl,iW,hL,hD,hl,hd⟩:=id g5;have Af:bl=[]:=by have:=hl.bI;cases bl with
  |nil=>rfl
  |cons x y=>simp [L0] at this
 subst Af;have Sq:=hl.box.mv (Mv.sub fun k ai=>gR.aU k (hL k ai));have hsv:=hl.so.sl;repeat' first|refine bL ?_;intros|refine de ?_ ?_<;>intros|with_reducible apply cG|(exfalso;rename_i h;simp at h;done)
 refine gR.call (GD (n:=1) g5 h2 zQ (by simp [L0]) (gR.fx fun _ h=>h)) kQ (fun _ h=>h) fun v MH w6 X6 O8 Nv Cq gB O9=>?_;obtain⟨rfl,F6,Pa,h6⟩:=O8;have rB:Ft w0 F w6 X6 F6:=gB.less Pa;rw [hr];repeat' first|refine bL ?_;intros
 exact rB.fin fun wa aM=>⟨lb,F6,rfl,rB.fL aM fun _ h=>h,h6.mv (aM.ew rB.aU)⟩
def fO (every:Int):SM:=⟨every,0,false,[],.zero,[]⟩
theorem Zs {dir:ByteArray} {sz:Nat} {m:DM} (hr:(LD.fI ⟨L0 dir sz,m⟩ 1).2=0):(LD.fI ⟨L0 dir sz,m⟩ 1).1.L=⟨dir,sz,[⟨1,[],0⟩],0⟩:=by
 unfold LD.fI at*;dsimp only at*;rw [if_pos hr];rfl
theorem JA {w:World} {X F:XS} {db sz:Nat} {every:Int} {m:DM} (h:Dk w F db m) (hF:FX F X w) (Bc:m.fs=[]) (gg:m.dn=false) (aq:64≤sz) (bQ:sz≤262144) (HV:0≤every) (HW:every≤1000)
  (hr:(LD.fI ⟨L0 ⟨#[115,105,110,107]⟩ sz,m⟩ 1).2=0):
  Ct pg 12 #[ptr db 0,I sz,I every] w X F fun v wa w'=> ∃nb lb F',v= .tuple #[ptr nb 0,I 0]∧(∀k,F' k→F k∨made wa w' k)∧
   ig w' F' nb lb db (fO every) (LD.fI ⟨L0 ⟨#[115,105,110,107]⟩ sz,m⟩ 1).1.L (LD.fI ⟨L0 ⟨#[115,105,110,107]⟩ sz,m⟩ 1).1.m:=by
 intro w0 hk;replace h:=h.mv (hF.mv hk);have hT:=hF.ft hk;have iz:FX F (ba w0) w0:=hF.kp hk;have hLL:=Zs hr;apply JB;unfold Cr;repeat' first|refine bL ?_;intros
 refine hT.call (Ym h (hT.fx fun _ h=>h) Bc gg (by decide) (by decide) aq bQ hr) kQ (fun _ h=>h) fun v HQ w1 X1 Zt tv oF cm Cp=>?_;obtain⟨lb,F1,rfl,Zu,g1⟩:=Zt;replace cm:Ft w0 F w1 X1 F1:=cm.less Zu;repeat' first|refine bL ?_;intros
 refine Ag (kv:=Value.string) xg nX cm.s.has fun mb w2 X2 hmb nK sa=>?_;have bK:=cm.since nK;have g2:=g1.mv (nK.dZ cm.aU);repeat' first|refine aI ?_;intros
 refine kX bK.s.has fun nb w3 X3 pX cl dA=>?_;have cn:=bK.since cl;have g3:=g2.mv (cl.dZ bK.aU);have Sn: ∀k,F1 k→k<w1.heap.size:=fun k ai=>cm.s.has k (cm.aU k ai);have Dx:=sa.mv mB cl.mv (fun _ h=>h.elim) (A':=nX);have Ve:iT ⟨⟨#[115,105,110,107]⟩,sz,[⟨1,[],0⟩],0⟩:=⟨by simp,(show 1≤jT ⟨#[115,105,110,107]⟩from by decide),(show jT ⟨#[115,105,110,107]⟩≤11 from by decide),by simp,by simp;omega⟩;have oH:LM.next ⟨⟨#[115,105,110,107]⟩,sz,[⟨1,[],0⟩],0⟩=1:=rfl
 have ME:=cm.s.kp.size;have MD:=nK.kp.size;have hz3:=cl.kp.size;have hmX:X3 mb∧mb<w2.heap.size:=⟨cl.sub mb sa.x.1,sa.x.2⟩;have fX:Ft w0 F w3 X3 (fun k=>F1 k∨k=nb∨k=mb):=cn.more fun k ai=>ai.imp id fun e=>by
  rcases e with e|e<;>subst e
  ·exact⟨dA.1,by omega⟩
  ·exact⟨hmX.1,by omega⟩
 rw [hLL] at g3;have h3:ig w3 (fun k=>F1 k∨k=nb∨k=mb) nb lb db (fO every) ⟨⟨#[115,105,110,107]⟩,sz,[⟨1,[],0⟩],0⟩ (LD.fI ⟨L0 ⟨#[115,105,110,107]⟩ sz,m⟩ 1).1.m:=by
  refine⟨fun k=>k=nb∨k=mb,F1,mb,.slice none 0 0,[],fun k a b=>?_,fun _ h=>.inr h,fun _ h=>.inl h,⟨rfl,⟨.inl rfl,dA.2⟩,?_,⟨by simp,.inl ⟨rfl,rfl⟩⟩,by simp⟩,g3⟩
  ·have:=Sn k b;rcases a with a|a<;>omega
  ·obtain⟨e,c',q1,q2⟩:=Dx;exact⟨e,c',⟨.inr rfl,q1.2⟩,q2⟩
 clear Dx sa dA g3 g2 g1 cn bK cm hT h;obtain⟨FL,FD,sv,bl,hW⟩:=(show Lg w3 (fun k=>F1 k∨k=nb∨k=mb) lb db _ _ from let⟨_,_,_,_,_,_,_,hG,_,g⟩:=h3;g.mono hG).lw;refine dy (uX hW.l rfl (fX.fx hW.hL)) kQ fX.s.has fun w4 X4 ff=>?_;have dS:=fX.since ff;have h4:=h3.mv (ff.dZ fX.aU);replace hW:=hW.mv (ff.dZ fX.aU);rw [show(((⟨1,[],0⟩:bW).first:Nat):Int)=1 from rfl];repeat' first|refine bL ?_;intros
 refine dy (uX hW.l rfl (dS.fx hW.hL)) kQ dS.s.has fun w5 X5 oI=>?_;have gR:=dS.since oI;have h5:=h4.mv (oI.dZ dS.aU);replace hW:=hW.mv (oI.dZ dS.aU);rw [show(((⟨1,[],0⟩:bW).first:Nat):Int)=1 from rfl];refine gN (fun n a b w X=>a=I 1∧b=B true∧Ft w0 F w X (fun k=>F1 k∨k=nb∨k=mb)∧ig w (fun k=>F1 k∨k=nb∨k=mb) nb lb db (fO every) ⟨⟨#[115,105,110,107]⟩,sz,[⟨1,[],0⟩],0⟩ (LD.fI ⟨L0 ⟨#[115,105,110,107]⟩ sz,m⟩ 1).1.m∧
  LW w (fun k=>F1 k∨k=nb∨k=mb) lb db ⟨⟨#[115,105,110,107]⟩,sz,[⟨1,[],0⟩],0⟩ (LD.fI ⟨L0 ⟨#[115,105,110,107]⟩ sz,m⟩ 1).1.m FL FD sv bl) 0 ⟨rfl,rfl,gR,h5,hW⟩ ?_
 clear gR h5 hW dS h4 fX h3;rintro n a b w6 X6 ⟨rfl,rfl,gB,h6,hW⟩;refine dy (xq hW.l Ve (gB.fx hW.hL)) kQ gB.s.has fun w7 X7 kY=>?_;have lP:=gB.since kY;have h7:=h6.mv (kY.dZ gB.aU);rw [oH];repeat' first|refine bL ?_;intros
 refine lP.fin fun wa aM=>⟨nb,lb,_,rfl,lP.fL aM fun _ h=>h,?_⟩;rw [hLL];exact h7.mv (aM.ew lP.aU)
def GF (n more most:Int):Int:=if more>most∨n>most then most+1 else n+more
theorem Tk {n more most:Int} (h1:0≤n∧n≤2^40) (h2:0≤more∧more≤2^42) (h3:0≤most∧most≤2^40):Pure pg 40 #[I n,I more,I most] (I (GF n more most)):=by
 intro w;apply QN;unfold Fq;have hs:=aj.init w;repeat' first|refine aI ?_;intros|refine de ?_ ?_<;>intros|((with_reducible refine eY hs ?_);(first|(simp_all [GF];done)|(simp only [GF];rw [if_neg zQ])|(simp only [GF];rw [if_pos zQ])))
def fS (l:List KV):Nat:=(l.map fun x=>1+x.key.size+x.val.text.size).sum
def hP (n:Int):bE:=if n>0 then⟨n,0,1⟩else .zero
theorem MI {w:World} {X:XS} {prev n:Int} {key:ByteArray} :Ct pg 13 #[I prev,I n,.string key] w X nX fun v wa w'=> ∃a,v=MA 12 31 32 (hP prev) ⟨n,0,1⟩ ⟨1,1,n⟩ a∧
  Own w' (made wa w') wa.heap.size 53 4 a ([(⟨key,⟨1,4607182418800017408,⟨#[]⟩⟩⟩:KV)].map KV.l):=by
 intro w0 hk;apply JC;unfold Ah;have hs:=aj.init w0;repeat' first|refine aI ?_;intros|refine de ?_ ?_<;>intros|(with_reducible apply Lh);(case hX=>exact hs.has);(case he=>kernel_rfl);(case hk=>rfl);intro acc w X aq ho;obtain⟨_,_,_,rfl⟩:=ho.sl.form;replace hs:=hs.trans aq|with_reducible apply cG
 ·refine ak hs fun wa aM=>⟨_,?_,(ho.kp aM).tight⟩;rw [hP,if_pos (by assumption)]
 ·refine ak hs fun wa aM=>⟨_,?_,(ho.kp aM).tight⟩;rw [hP,if_neg (by assumption)]
end Go.Proofs.YtpdkoaklobnegaaGreat
namespace Go.Proofs.YtpdkoaklobnegaaGreat
open Go.Proofs.Tryz renaming prog → pg
open Go.dL
def DM.ks (m:DM):List ByteArray:=m.fs.map (·.1)
theorem DM.get_some {m:DM} {n:ByteArray} :(m.get n).isSome=true↔n∈m.ks:=by
 have h:=getM_none (k:=n) (l:=m.fs)
 show(getM n m.fs).isSome=true↔n∈m.fs.map (·.1)
 cases hg:getM n m.fs with
 |none=>simpa using h.1 hg
 |some x=>
  simp only [Option.isSome_some,true_iff];rcases Classical.em (n∈m.fs.map (·.1))with h'|h'
  ·exact h'
  ·have:=h.2 h';rw [hg] at this;cases this
theorem DM.kg (m:DM):m.ks.length=m.fs.length:=by simp [DM.ks]
theorem Ey {α κ:Type} [DecidableEq κ] (f:α→Nat) (k:κ): ∀l:List (κ×α),pq f (mz k l)≤pq f l
 |[]=>bf _
 |x::l=>by
  have ih:=Ey f k l;unfold mz at*;rw [List.filter_cons];split
  ·simp only [pq,bc,gO] at ih⊢;omega
  ·simp only [pq,bc,gO] at ih⊢;omega
structure kP (m:DM):Prop where
 ar:m.ar=0
 dn:m.dn=false
theorem kP.tick {m:DM} (h:kP m):kP m.tick:=by
 unfold DM.tick;rw [if_neg (by rw [h.ar];decide)];exact⟨by simp [h.ar],h.dn⟩
theorem kP.write {m:DM} (h:kP m) (f:DM→DM):m.write 0 f=(f m.tick,0):=by
 unfold DM.write;rw [if_neg (by rw [h.dn];simp),if_neg (by simp),if_neg (by rw [h.tick.dn];simp)]
theorem kP.Vf {m:DM} (h:kP m) {e:Nat} (he:e≠0) (f:DM→DM):m.write e f=(m,e):=by
 unfold DM.write;rw [if_neg (by rw [h.dn];simp),if_pos he]
theorem kP.create {m:DM} (h:kP m) {n:ByteArray} (hn:qD n=true) (hk: ¬n∈m.ks):
  (64≤m.fs.length∧m.create n=(m,3))∨(m.fs.length<64∧(m.create n).2=0∧kP (m.create n).1∧(m.create n).1.ks=m.ks++[n]∧(m.create n).1.sz=m.sz):=by
 have hg: ¬(m.get n).isSome=true:=fun e=>hk (DM.get_some.1 e);unfold DM.create;rw [if_neg (by simp [hn]),if_neg hg];by_cases hl:64≤m.fs.length
 ·left;rw [if_pos hl];exact⟨hl,h.Vf (by decide) _⟩
 ·right;rw [if_neg hl,h.write];refine⟨by omega,rfl,⟨h.tick.ar,h.tick.dn⟩,?_,?_⟩
  ·show(fC n ([],0) m.tick.fs).map (·.1)=_
   rw [tE,m.mC,if_neg (show¬(getM n m.fs).isSome=true from hg)];rfl
  ·have:m.tick.get n=none:=by rw [m.lR];simpa using hg
   rw [DM.QO this,m.ud];simp
theorem kP.append {m:DM} (h:kP m) {n:ByteArray} {b:List Nat} (hk:n∈m.ks) (dU:m.sz+b.length≤4194304):
  (m.append n b).2=0∧kP (m.append n b).1∧(m.append n b).1.ks=m.ks∧(m.append n b).1.sz=m.sz+b.length:=by
 have hg:=DM.get_some.2 hk;unfold DM.append;rw [if_neg (by rw [h.dn];simp)];cases hx:m.get n with
 |none=>rw [hx] at hg;cases hg
 |some x=>
  obtain⟨bs,s⟩:=x;dsimp only;rw [if_neg zQ];refine⟨by rw [if_neg (by rw [h.tick.dn];simp)],⟨h.tick.ar,h.tick.dn⟩,?_,?_⟩
  ·show(fC n (bs++b,s) m.tick.fs).map (·.1)=_
   rw [tE,m.mC,if_pos (show(getM n m.fs).isSome=true from hg)];rfl
  ·have:m.tick.get n=some (bs,s):=by rw [m.lR];exact hx
   have:=DM.JD (bs:=bs++b) (s':=s) this;rw [m.ud,ae] at this;dsimp only;omega
theorem kP.sync {m:DM} (h:kP m) {n:ByteArray} (hk:n∈m.ks):(m.sync n).2=0∧kP (m.sync n).1∧(m.sync n).1.ks=m.ks∧(m.sync n).1.sz=m.sz:=by
 have hg:=DM.get_some.2 hk;unfold DM.sync;rw [if_pos hg,h.write];have hgt:(m.tick.get n).isSome=true:=by rw [m.lR];exact hg
 refine⟨rfl,?_,?_,by dsimp only;rw [DM.Cs,m.ud]⟩
 ·unfold DM.js;dsimp only;split
  ·exact h.tick
  ·exact⟨h.tick.ar,h.tick.dn⟩
 ·unfold DM.js;dsimp only;split
  ·unfold DM.ks;rw [m.mC]
  ·rename_i x hx
   show(fC n _ m.tick.fs).map (·.1)=_
   rw [tE,m.mC,if_pos (show(getM n m.fs).isSome=true from hg)];rfl
theorem kP.remove {m:DM} (h:kP m) (n:ByteArray):(m.remove n).2≠12∧kP (m.remove n).1∧(m.remove n).1.sz≤m.sz∧(m.remove n).1.ks.length≤m.ks.length∧
  ((m.remove n).2=0→(m.remove n).1.ks=m.ks.filter fun k=>decide (k≠n))∧((m.remove n).2≠0→(m.remove n).1=m):=by
 unfold DM.remove;by_cases hg:(m.get n).isSome=true
 ·rw [if_pos hg,h.write];have xj:(m.tick.del n).ks=m.ks.filter fun k=>decide (k≠n):=by
   show(mz n m.tick.fs).map (·.1)=_
   rw [m.mC];unfold mz DM.ks;rw [List.filter_map];rfl
  refine⟨by simp,⟨h.tick.ar,h.tick.dn⟩,?_,?_,fun _=>xj,fun e=>absurd rfl e⟩
  ·have:=Ey (fun x:List Nat×Nat=>x.1.length) n m.tick.fs;rw [m.mC] at this
   show pq _ (mz n m.tick.fs)≤_
   rw [m.mC];exact this
  ·dsimp only;rw [xj];exact sW _ _
 ·rw [if_neg hg,h.Vf (by decide)];exact⟨by simp,h,bf _,bf _,fun e=>by simp at e,fun _=>rfl⟩
theorem Vg: ∀{k a b:Nat},a<10^k→b<10^k→np k a=np k b→a=b
 |0,a,b,ha,hb,_=>by omega
 |k+1,a,b,ha,hb,h=>by
  unfold np at h;obtain⟨h1,h2⟩:=List.append_inj' h rfl;have:=Vg (k:=k) (a:=a/10) (b:=b/10) (by rw [Nat.pow_succ] at ha;omega) (by rw [Nat.pow_succ] at hb;omega) h1;simp at h2;omega
theorem Lo: ∀(k n:Nat),∀x∈np k n,x<256
 |0,_,x,h=>by cases h
 |k+1,n,x,h=>by
  unfold np at h;rcases List.mem_append.1 h with h|h
  ·exact Lo k _ x h
  ·simp at h;omega
theorem ad1 {a b:List Nat} (ha: ∀x∈a,x<256) (hb: ∀x∈b,x<256) (h:uH a=uH b):a=b:=by
 unfold uH at h;have h1:(a.map kr)=b.map kr:=by
  have:=congrArg (fun x:ByteArray=>x.data.toList) h;simpa using this
 have h2:=congrArg (List.map UInt8.toNat) h1;simp only [List.map_map] at h2;have e: ∀l:List Nat,(∀x∈l,x<256)→l.map (UInt8.toNat∘kr)=l:=fun l hl=>by
  refine(List.map_congr_left fun x hx=>?_).trans (List.map_id l);have:=hl x hx;simp [UInt8.toNat_ofNat'];omega
 rwa [e a ha,e b hb] at h2
theorem Ai {dir:ByteArray} {a b:Nat} (ha:a<10^8) (hb:b<10^8) (h:bw dir a=bw dir b):a=b:=by
 unfold bw at h;have h1:=congrArg (fun x:ByteArray=>x.data.toList) h;simp only [ByteArray.data_append,Array.toList_append] at h1;have h2:=List.append_cancel_left h1;refine Vg ha hb (ad1 (Lo _ _) (Lo _ _) ?_);unfold uH at h2⊢;simp only at h2
 congr 1
 exact Array.toList_inj.1 h2
structure iO (B c n:Nat) (x:LD):Prop where
 ok:kP x.m
 ne:x.L.bI≠[]
 d1:1≤x.L.dir.size
 d2:x.L.dir.size≤11
 r1:1≤x.L.room
 r2:x.L.room≤2^40
 keys: ∀k∈x.m.ks,∃f∈x.L.bI.map (·.first),k=bw x.L.dir f
 last:x.L.ee∈x.m.ks
 pw:(x.L.bI.map (·.first)).Pairwise (· < ·)
 emp:x.L.last.bS=[]→x.L.last.size=0
 pos: ∀s∈x.L.bI,1≤s.first∧s.first≤1+c∧s.first+s.bS.length≤1+c∧s.size≤B*c
 Aj:x.L.next=1+c
 sz:x.m.sz≤B*c
 len:x.L.bI.length≤n
 cnt:x.m.ks.length≤64
theorem iO.Fs {B c n:Nat} {x:LD} (h:iO B c n x) (hb:B*c≤2^30) (hc:c≤2^30):iT x.L:=
 ⟨h.ne,h.d1,h.d2,fun s hs=>by have:=h.pos s hs;omega,h.r2⟩
structure Alike (x y:LD):Prop where
 bI:y.L.bI=x.L.bI
 dir:y.L.dir=x.L.dir
 room:y.L.room=x.L.room
 ks:y.m.ks=x.m.ks
 sz:y.m.sz=x.m.sz
 ok:kP y.m
theorem Alike.refl {x:LD} (h:kP x.m):Alike x x:=⟨rfl,rfl,rfl,rfl,rfl,h⟩
theorem Alike.trans {x y z:LD} (h:Alike x y) (k:Alike y z):Alike x z:=⟨k.bI.trans h.bI,k.dir.trans h.dir,k.room.trans h.room,k.ks.trans h.ks,k.sz.trans h.sz,k.ok⟩
theorem Alike.last {x y:LD} (h:Alike x y):y.L.last=x.L.last:=by unfold LM.last;rw [h.bI]
theorem Alike.ee {x y:LD} (h:Alike x y):y.L.ee=x.L.ee:=by unfold LM.ee;rw [h.last,h.dir]
theorem Alike.next {x y:LD} (h:Alike x y):y.L.next=x.L.next:=by unfold LM.next;rw [h.last]
theorem Alike.inv {B c n:Nat} {x y:LD} (h:Alike x y) (k:iO B c n x):iO B c n y:=by
 refine⟨h.ok,by rw [h.bI];exact k.ne,by rw [h.dir];exact k.d1,by rw [h.dir];exact k.d2,by rw [h.room];exact k.r1,by rw [h.room];exact k.r2,?_,?_,by rw [h.bI];exact k.pw,?_,?_,?_,?_,?_,by rw [h.ks];exact k.cnt⟩
 ·rw [h.ks,h.bI,h.dir];exact k.keys
 ·rw [h.ks,h.ee];exact k.last
 ·rw [h.last];exact k.emp
 ·rw [h.bI];exact k.pos
 ·rw [h.next];exact k.Aj
 ·rw [h.sz];exact k.sz
 ·rw [h.bI];exact k.len
theorem iO.sync {B c n:Nat} {x:LD} (h:iO B c n x):x.sync.2=0∧Alike x x.sync.1:=by
 obtain⟨h1,h2,h3,h4⟩:=h.ok.sync h.last;unfold LD.sync;dsimp only;rw [if_pos h1];exact⟨h1,⟨rfl,rfl,rfl,h3,h4,h2⟩⟩
def Full (x:LD):Prop:=64≤x.m.ks.length∧x.L.room≤x.L.last.size
theorem Alike.full {x y:LD} (h:Alike x y) (k:Full x):Full y:=by unfold Full;rw [h.ks,h.room,h.last];exact k
theorem iO.le_last {B c n:Nat} {x:LD} (h:iO B c n x) {f:Nat} (hf:f∈x.L.bI.map (·.first)):f≤x.L.last.first:=by
 have h1:=h.pw;rw [LM.QQ h.ne,aT] at h1 hf;obtain⟨_,_,h2⟩:=List.pairwise_append.1 h1;rcases List.mem_append.1 hf with hf|hf
 ·exact Nat.le_of_lt (h2 f hf _ (by simp))
 ·simp at hf;omega
theorem iO.le_next {B c n:Nat} {x:LD} (h:iO B c n x) {f:Nat} (hf:f∈x.L.bI.map (·.first)):f≤1+c:=by
 obtain⟨s,hs,rfl⟩:=List.mem_map.1 hf;exact(h.pos s hs).2.1
theorem iO.fI {B c n:Nat} {x:LD} (h:iO B c n x) (hr:x.L.last.bS≠[]) (jF:c+2<99999999):
  (64≤x.m.ks.length∧x.fI x.L.next=(x,3))∨(x.m.ks.length<64∧(x.fI x.L.next).2=0∧iO B c (n+1) (x.fI x.L.next).1):=by
 have hl:1≤x.L.last.bS.length:=by
  cases hq:x.L.last.bS with
  |nil=>exact absurd hq hr
  |cons a b=>simp
 have oH:=h.Aj;have Et: ¬bw x.L.dir x.L.next∈x.m.ks:=fun hk=>by
  obtain⟨f,hf,e⟩:=h.keys _ hk;have h1:=h.le_last hf;have h2:=h.le_next hf;have:=Ai zQ zQ e;unfold LM.next at this;omega
 have DE:qD (bw x.L.dir x.L.next)=true:=by
  have:=h.d1;have:=h.d2;simp only [qD,rC,decide_eq_true_eq];omega
 rw [x.m.kg];rcases h.ok.create DE Et with⟨h1,h2⟩|⟨h1,h2,h3,h4,h5⟩
 ·left;refine⟨h1,?_⟩;unfold LD.fI;rw [h2];rfl
 ·right;refine⟨h1,?_⟩;have qi:(⟨x.L.dir,x.L.room,x.L.bI++[⟨x.L.next,[],0⟩],x.L.safe⟩:LM).last=⟨x.L.next,[],0⟩:=by simp [LM.last]
  unfold LD.fI;dsimp only;rw [if_pos h2];refine⟨h2,⟨h3,by simp,h.d1,h.d2,h.r1,h.r2,?_,?_,?_,?_,?_,?_,?_,?_,by dsimp only;rw [h4,ae,x.m.kg];simp;omega⟩⟩
  ·rw [h4];intro k hk;rcases List.mem_append.1 hk with hk|hk
   ·obtain⟨f,hf,e⟩:=h.keys k hk;exact⟨f,by rw [aT];exact bR _ hf,e⟩
   ·simp at hk;exact⟨x.L.next,by simp,hk⟩
  ·rw [h4];unfold LM.ee;rw [qi];simp
  ·rw [aT];refine List.pairwise_append.2 ⟨h.pw,by simp,fun a ha b hb=>?_⟩;simp at hb;subst hb;have:=h.le_last ha;unfold LM.next;omega
  ·intro _;rw [qi]
  ·intro s hs;rcases List.mem_append.1 hs with hs|hs
   ·exact h.pos s hs
   ·simp at hs;subst hs;simp;omega
  ·show(⟨x.L.dir,x.L.room,x.L.bI++[⟨x.L.next,[],0⟩],x.L.safe⟩:LM).last.first+(⟨x.L.dir,x.L.room,x.L.bI++[⟨x.L.next,[],0⟩],x.L.safe⟩:LM).last.bS.length=1+c
   rw [qi];simpa using oH
  ·rw [h5];exact h.sz
  ·simp;exact h.len
theorem iO.lay {B c n:Nat} {x:LD} {p:List Nat} (h:iO B c n x) (hp:p.length+12≤B) (hc:B*(c+1)≤4194304):(x.lay p).2=0∧iO B (c+1) n (x.lay p).1:=by
 have hB:B*(c+1)=B*c+B:=Nat.mul_succ B c;have eI:(cC p).length=p.length+12:=by simp [cC,qB]
 have dU:=h.sz;obtain⟨h1,h2,h3,h4⟩:=h.ok.append (b:=cC p) h.last zQ;have hlm:=LM.oJ h.ne;have hle:=LM.QQ h.ne;obtain⟨p1,p2,p3,p4⟩:=h.pos _ hlm;have qi:(x.L.add p).last=⟨x.L.last.first,x.L.last.bS++[p],x.L.last.size+(cC p).length⟩:=by simp [LM.last,LM.add]
 have Sr:(x.L.add p).bI.map (·.first)=x.L.bI.map (·.first):=by
  conv=>rhs;rw [hle]
  simp [LM.add]
 unfold LD.lay;dsimp only;rw [if_pos h1];refine⟨h1,⟨h2,by simp [LM.add],h.d1,h.d2,h.r1,h.r2,?_,?_,?_,?_,?_,?_,?_,?_,by dsimp only;rw [h3];exact h.cnt⟩⟩
 ·dsimp only;rw [h3,Sr];exact h.keys
 ·dsimp only;rw [h3];unfold LM.ee;rw [qi];exact h.last
 ·dsimp only;rw [Sr];exact h.pw
 ·dsimp only;rw [qi];intro e;simp at e
 ·dsimp only;intro s hs;rcases List.mem_append.1 hs with hs|hs
  ·have:=h.pos s (by rw [hle];exact bR _ hs);omega
  ·simp only [List.mem_singleton] at hs;subst hs;simp only [ae,aY,bz,eI];omega
 ·have:=h.Aj;dsimp only;unfold LM.next at this⊢;rw [qi];simp;omega
 ·dsimp only;rw [h4];omega
 ·have:=h.len;rw [hle] at this;simpa [LM.add] using this
theorem iO.more {B c n n':Nat} {x:LD} (h:iO B c n x) (hn:n≤n'):iO B c n' x:= { h with len:=ah h.len hn }
theorem iO.bS {B c n:Nat} {x:LD} (h:iO B c n x) (hr:x.L.room≤x.L.last.size):x.L.last.bS≠[]:=fun e=>by
 have:=h.emp e;have:=h.r1;omega
theorem iO.append {B c n:Nat} {x:LD} {p:List Nat} (h:iO B c n x) (hp:p.length+12≤B) (hB:B≤262144) (hc:B*(c+1)≤4194304) (jF:c+2<99999999):
  ((x.append p).2.2=0∧(x.append p).2.1=1+c∧iO B (c+1) (n+1) (x.append p).1)∨((x.append p).2.2=3∧Full x∧Alike x (x.append p).1):=by
 have oH:=h.Aj;unfold LD.append;rw [if_neg zQ,if_neg zQ];dsimp only;unfold LD.room;by_cases hr:x.L.room≤x.L.last.size
 ·rw [if_pos hr];obtain⟨h1,h2⟩:=h.sync;dsimp only;rw [if_neg (show¬x.sync.2≠0 from by rw [h1];simp)];have hi:=h2.inv h;rw [←h2.next];rcases hi.fI (hi.bS (by rw [h2.room,h2.last];exact hr)) jF with⟨g1,g2⟩|⟨g1,g2,g3⟩
  ·right;rw [g2];dsimp only;rw [if_pos (by simp)];exact⟨rfl,⟨by rw [←h2.ks];exact g1,hr⟩,h2⟩
  ·left;rw [if_neg (by rw [g2];simp)];obtain⟨k1,k2⟩:=g3.lay hp hc;rw [if_neg (by rw [k1];simp)];exact⟨rfl,by rw [h2.next];exact oH,k2⟩
 ·left;rw [if_neg hr];dsimp only;rw [if_neg (by simp)];obtain⟨k1,k2⟩:=h.lay hp hc;rw [if_neg (by rw [k1];simp)];exact⟨rfl,oH,k2.more zQ⟩
theorem iO.full {B c n:Nat} {x:LD} {p:List Nat} (h:iO B c n x) (hf:Full x) (hp:p.length≤262144) (jF:c+2<99999999):(x.append p).2.2=3∧Alike x (x.append p).1:=by
 have oH:=h.Aj;unfold LD.append;rw [if_neg zQ,if_neg zQ];dsimp only;unfold LD.room;rw [if_pos hf.2];obtain⟨h1,h2⟩:=h.sync;dsimp only;rw [if_neg (show¬x.sync.2≠0 from by rw [h1];simp)];have hi:=h2.inv h;rw [←h2.next];rcases hi.fI (hi.bS (by rw [h2.room,h2.last];exact hf.2)) jF with⟨g1,g2⟩|⟨g1,g2,g3⟩
 ·rw [g2];dsimp only;rw [if_pos (by simp)];exact⟨rfl,h2⟩
 ·have:=hf.1;rw [h2.ks] at g1;omega
theorem iO.trim {B c n below:Nat} : ∀{K:Nat} {x:LD},iO B c n x→c+2<99999999→(x.trim below K).2≠12∧iO B c n (x.trim below K).1
 |0,x,h,_=>⟨by simp [LD.trim],h⟩
 |K+1,x,h,jF=>by
  unfold LD.trim;split
  ·rename_i s t r JE;split
   ·obtain⟨h1,h2,h3,h4,h5,h6⟩:=h.ok.remove (bw x.L.dir s.first);dsimp only;split
    ·rename_i cU;refine⟨h1,?_⟩;rw [h6 cU];exact h
    ·rename_i cU;have hz:(x.m.remove (bw x.L.dir s.first)).2=0:=by omega
     refine iO.trim ?_ jF;have qi:(⟨x.L.dir,x.L.room,t::r,x.L.safe⟩:LM).last=x.L.last:=by unfold LM.last;rw [JE,List.getLast?_cons_cons]
     have hpw:=h.pw;rw [JE,bc] at hpw;have Zv:=List.pairwise_cons.1 hpw;have hlm:x.L.last∈t::r:=by rw [←qi];exact LM.oJ (by simp)
     have cH:s.first<x.L.last.first:=Zv.1 _ (List.mem_map.2 ⟨_,hlm,rfl⟩)
     refine⟨h2,by simp,h.d1,h.d2,h.r1,h.r2,?_,?_,Zv.2,?_,?_,?_,?_,?_,ah h4 h.cnt⟩
     ·dsimp only;rw [h5 hz];intro k hk;obtain⟨uY,Zw⟩:=List.mem_filter.1 hk;obtain⟨f,hf,e⟩:=h.keys k uY;rw [JE,bc] at hf;rcases List.mem_cons.1 hf with rfl|hf
      ·exact absurd e (by simpa using Zw)
      ·exact⟨f,hf,e⟩
     ·dsimp only;rw [h5 hz];unfold LM.ee;rw [qi];refine List.mem_filter.2 ⟨h.last,?_⟩;simp only [ne_eq,decide_not,bV,decide_eq_false_iff_not];intro e;have a1:=(h.pos _ (LM.oJ h.ne)).2.1;have:=Ai zQ zQ e;omega
     ·dsimp only;rw [qi];exact h.emp
     ·intro u hu;exact h.pos u (by rw [JE];exact aZ _ hu)
     ·have:=h.Aj;unfold LM.next at this⊢
      dsimp only;rw [qi];exact this
     ·exact ah h3 h.sz
     ·have:=h.len;rw [JE] at this;simp only [aY] at this⊢;omega
   ·exact⟨by simp,h⟩
  ·exact⟨by simp,h⟩
theorem Zx {α:Type} (f:α→List Nat) (B:Nat): ∀l:List α,(∀x∈l,(f x).length≤B)→(l.map f).flatten.length≤l.length*B
 |[],_=>by simp
 |x::l,h=>by
  have h1:=h x (by simp);have h2:=Zx f B l fun y hy=>h y (aZ _ hy);simp only [bc,cD,ae,aY,Nat.succ_mul];omega
theorem zn {prev st:bE} {t:gf} {x:KV} (h:x.key.size≤20000):(gS (en prev st t [x])).length≤20250:=by
 have h1:=dW (en prev st t [x]).kind;have h2:=iB prev;have h3:=iB st;have h4:=tF t;have h5:=dW ((([x]:List KV).length:Nat):Int);have h6:=DF (x:=x);unfold gS en fY at*;simp only [ae,bc,List.map_nil,cD,List.flatten_nil,bz] at*;omega
theorem ad2 {st:bE} {l:List KV} (h: ∀x∈l,x.key.size≤24) (hl:l.length≤40):(fT (fg st l)).length≤20250:=by
 have h1:=dW (fg st l).kind;have h2:=iB st;have h5:=dW ((l.length:Nat):Int);have h6:=Zx cM 134 l fun x hx=>by have:=DF (x:=x);have:=h x hx;omega
 have h7:l.length*134≤40*134:=Nat.mul_le_mul_right _ hl;unfold fT fg fY at*;simp only [ae] at*;omega
structure Cu (n:Nat) (p:List (ByteArray×eQ)):Prop where
 nd:(p.map (·.1)).Nodup
 zo: ∀x∈p,gI x.1=true∧x.2.may=true∧x.2.kind≠0
 len:p.length≤n
theorem Cu.apply {n:Nat} {p:List (ByteArray×eQ)} {x:KV} (h:Cu n p) (hk:gI x.key=true) (hv:x.val.may=true):Cu (n+1) (fq p x):=by
 unfold fq;split
 ·refine⟨?_,fun y hy=>h.zo y (List.mem_filter.1 hy).1,ah (sW _ _) (Nat.le_succ_of_le h.len)⟩;exact h.nd.sublist ((List.filter_sublist).map _)
 ·rename_i hz;refine⟨Pb h.nd,fun y hy=>?_,?_⟩
  ·rcases tG h.nd hy with rfl|⟨hy,_⟩
   ·exact⟨hk,hv,hz⟩
   ·exact h.zo y hy
  ·have:=congrArg az (tE x.key x.val p);have hl:=h.len;rw [aG] at this;rw [this];split<;>simp<;>omega
theorem Cv: ∀{a b:List UInt8},a≤b→a≠b→bY a b=true
 |[],[],_,h=>absurd rfl h
 |[],_::_,_,_=>by simp [bY]
 |a::l,[],h,_=>absurd h (by simp)
 |a::l,b::m,h,cU=>by
  simp only [bY,fM,aA,decide_eq_true_eq,beq_iff_eq];rcases List.cons_le_cons_iff.1 h with h1|⟨rfl,h1⟩
  ·exact .inl h1
  ·exact .inr ⟨rfl,Cv h1 fun e=>cU (by rw [e])⟩
theorem Vh {α:Type} {p:α→Bool} {r:α→α→Bool} : ∀{l:List α} (o:Option α),(∀x∈l,p x=true)→l.Pairwise (fun a b=>r a b=true)→(∀y,o=some y→ ∀x∈l,r y x=true)→chain p r o l=true
 |[],o,_,_,_=>by cases o<;>rfl
 |x::l,o,h1,h2,h3=>by
  have OS:=List.pairwise_cons.1 h2;have ih:=Vh (some x) (fun y hy=>h1 y (aZ _ hy)) OS.2 (fun y e z hz=>by cases e;exact OS.1 z hz);have hp:=h1 x (by simp);cases o with
  |none=>simp [chain,hp,ih]
  |some y=>have hr:=h3 y rfl x (by simp);simp [chain,hp,ih,hr]
theorem Cu.list {n:Nat} {s:SM} (h:Cu n s.bF):sw s.list=true∧(∀x∈s.list,x.key.size≤24)∧s.list.length≤n∧ ∀x∈s.bF,x.1.size≤24:=by
 have zF:=mK (s.bF.map (·.1));have mh: ∀x∈s.list,(x.key,x.val)∈s.bF:=fun x hx=>by
  obtain⟨k,hk,rfl⟩:=List.mem_map.1 hx;obtain⟨y,hy,rfl⟩:=List.mem_map.1 (zF.mem_iff.1 hk);have:=pR h.nd (k:=y.1) (a:=y.2) hy
  show(y.1,s.get y.1)∈s.bF
  unfold SM.get;rw [this];exact hy
 have hgk: ∀k:ByteArray,gI k=true→k.size≤24:=fun k hk=>by unfold gI at hk;simp at hk;omega
 refine⟨?_,fun x hx=>hgk _ (h.zo _ (mh x hx)).1,?_,fun x hx=>hgk _ (h.zo x hx).1⟩
 ·refine Vh none (fun x hx=>?_) ?_ (fun y e=>by cases e)
  ·obtain⟨g1,g2,g3⟩:=h.zo _ (mh x hx);simp only [g1,g2,g3,ne_eq,not_false_eq_true,decide_true,Bool.and_self]
  ·unfold SM.list;rw [ij];have mP:(fB (s.bF.map (·.1))).Nodup:=zF.nodup_iff.2 h.nd;have uZ:(fB (s.bF.map (·.1))).Pairwise fun a b=>bl a≤bl b:=by
    unfold fB;rw [ij];refine(List.pairwise_mergeSort Dv Dw _).imp fun qS=>?_;unfold leB at qS;simpa [bl] using qS
   refine(List.pairwise_and_iff.2 ⟨uZ,mP⟩).imp fun qS=>?_
   show jk _ _=true
   unfold jk;rw [ey,ey];exact Cv qS.1 fun e=>qS.2 (ByteArray.ext (Array.toList_inj.1 e))
 ·unfold SM.list;rw [aG,zF.length_eq,aG];exact h.len
structure Ez (ev:Int) (n:Nat) (s:SM) (x:LD):Prop where
 ev:s.every=ev
 si:0≤s.since∧s.since≤n
 dn:s.down=false
 hi:s.high=hP n
 dl:s.done.length=n
 dw: ∀e∈s.done,e.writes.length≤1
 pi:Cu n s.bF
 lg: ∃c k:Nat,iO 30000 c k x∧(c:Int)+s.since≤2*n∧k≤1+c
theorem GG (n:Nat):(hP n).wall=n:=by
 unfold hP;split
 ·rfl
 ·have:(n:Int)=0:=by omega
  rw [this]
theorem acx {a b:Nat} (h:hP a=hP b):a=b:=by
 have:=congrArg bE.wall h;rw [GG,GG] at this;omega
theorem acy (n:Nat):(⟨(n:Int)+1,0,1⟩:bE).cmp (hP n)>0:=by
 have e1:((n:Int)+1≠n):=by omega
 have e2: ¬((n:Int)+1<n):=by omega
 have e3:((n:Int)<n+1):=by omega
 simp [bE.cmp,GG,e1,e2,e3]
theorem Vi {prev st:bE} {t:gf} {w:KV} (h:ik prev st t [w]=true):gI w.key=true∧w.val.may=true:=by
 unfold ik at h;simp only [aA,decide_eq_true_eq] at h;have he:=h.2;unfold eG.err at he;dsimp only at he;split at he
 ·simp at he
 ·split at he
  ·simp at he
  ·split at he
   ·simp at he
   ·rename_i h3;split at he
    ·rename_i h4;refine⟨?_,by simpa using h4⟩;simp only [fM,bV,not_or,kS,rD,aA] at h3;have:=h3.2.1;simp only [bc,List.map_nil] at this;simpa [rising,chain] using this
    ·simp at he
theorem xt {c k:Nat} {x:LD} {p:List Nat} (h:iO 30000 c k x) (hc:c≤80) (hp:p.length≤20250):
  ((x.dN 0 p).2.2=0∧(x.dN 0 p).2.1=1+c∧iO 30000 (c+1) (k+1) (x.dN 0 p).1∧iO 30000 (c+1) (k+1) (x.append p).1)∨((x.dN 0 p).2.2=3∧Full x∧Alike x (x.dN 0 p).1∧Alike x (x.append p).1):=by
 unfold LD.dN;rw [if_neg (by simp)];dsimp only;rcases h.append (p:=p) zQ zQ zQ zQ with⟨h1,h2,h3⟩|⟨h1,h2,h3⟩
 ·left;rw [if_neg (by rw [h1];simp)];obtain⟨g1,g2⟩:=h3.sync;exact⟨g1,h2,g2.inv h3,h3⟩
 ·right;rw [if_pos (by rw [h1];simp)];exact⟨h1,h2,h3,h3⟩
theorem acz {c k:Nat} {x:LD} {p:List Nat} (h:iO 30000 c k x) (hf:Full x) (hc:c≤80) (hp:p.length≤20250):(x.dN 0 p).2.2=3:=by
 obtain⟨g1,g2⟩:=h.full (p:=p) hf zQ zQ;unfold LD.dN;rw [if_neg (by simp)];dsimp only;rw [if_pos (by rw [g1];simp)];exact g1
theorem iO.EA {c k:Nat} {x:LD} (h:iO 30000 c k x) (hc:c≤81):iT x.L:=h.Fs zQ zQ
structure acA (x:LD) (p:List Nat):Prop where
 lk:iT (x.append p).1.L
 kd:(x.dN 0 p).2.2≠12
 lk2:iT (x.dN 0 p).1.L
 len:(x.dN 0 p).1.L.bI.length≤1000
 tr:((x.dN 0 p).1.trim (x.dN 0 p).2.1 1000).2≠12
theorem Ez.Vj {ev:Int} {n:Nat} {s:SM} {x:LD} {p:List Nat} (h:Ez ev n s x) (hn:n≤40) (hp:p.length≤20250):iT x.L∧x.L.bI.length≤2^29∧acA x p:=by
 obtain⟨c,k,h1,h2,h3⟩:=h.lg;have hs:=h.si;have hlen:=h1.len;refine⟨h1.EA zQ,by omega,?_⟩;rcases xt (p:=p) h1 zQ hp with⟨a1,a2,a3,a4⟩|⟨a1,a2,a3,a4⟩
 ·have:=a3.len;exact⟨a4.EA zQ,by omega,a3.EA zQ,by omega,(a3.trim zQ).1⟩
 ·have h5:=a3.inv h1;have:=h5.len;exact⟨(a4.inv h1).EA zQ,by omega,h5.EA zQ,by omega,(h5.trim zQ).1⟩
theorem Ez.step {ev:Int} {n k:Nat} {s:SM} {x:LD} {w:KV} {t:gf} (h:Ez ev n s x) (hn:n≤40) (hk:k<40) (hw:w.key.size≤20000):
  (ik (hP k) ⟨(k:Int)+1,0,1⟩ t [w]=true∧k=n∧gI w.key=true∧Ez ev (n+1) (lM s x (hP k) ⟨(k:Int)+1,0,1⟩ t [w]).1 (lM s x (hP k) ⟨(k:Int)+1,0,1⟩ t [w]).2∧
   (lM s x (hP k) ⟨(k:Int)+1,0,1⟩ t [w]).1.high=⟨(k:Int)+1,0,1⟩)∨
  ((lM s x (hP k) ⟨(k:Int)+1,0,1⟩ t [w]).1=s∧Ez ev n s (lM s x (hP k) ⟨(k:Int)+1,0,1⟩ t [w]).2∧
   (ik (hP k) ⟨(k:Int)+1,0,1⟩ t [w]=true→k=n→Full (lM s x (hP k) ⟨(k:Int)+1,0,1⟩ t [w]).2)):=by
 obtain⟨c,m,h1,h2,h3⟩:=h.lg;have hs:=h.si;generalize gD:(⟨(k:Int)+1,0,1⟩:bE)=st;have hl:=zn (prev:=hP k) (st:=st) (t:=t) hw;unfold lM;by_cases hf:s.fits (hP k) st t [w]=true
 ·rw [if_pos hf];dsimp only;have hf':=hf;unfold SM.fits at hf';simp only [aA,decide_eq_true_eq] at hf';obtain⟨⟨f1,f2⟩,f3⟩:=hf';have hkn:k=n:=acx (f3.trans h.hi);obtain⟨q1,q2⟩:=Vi f1;rcases xt (p:=gS (en (hP k) st t [w])) h1 zQ hl with⟨a1,a2,a3,a4⟩|⟨a1,a2,a3,a4⟩
  ·left;rw [if_pos a1];refine⟨f1,hkn,q1,⟨h.ev,by dsimp only;omega,h.dn,?_,?_,?_,?_,⟨c+1,m+1,a3,by dsimp only;push_cast;omega,by omega⟩⟩,rfl⟩
   ·show st=_
    subst gD;subst hkn;unfold hP
    push_cast
    rw [if_pos zQ]
   ·show(s.done++[_]).length=_
    rw [ae,h.dl];rfl
   ·intro e he;have he:e∈s.done++[⟨t,st,[w]⟩]:=he;rcases List.mem_append.1 he with he|he
    ·exact h.dw e he
    ·simp at he;subst he;simp
   ·exact h.pi.apply q1 q2
  ·right;rw [if_neg (by rw [a1];decide)];exact⟨rfl,⟨h.ev,h.si,h.dn,h.hi,h.dl,h.dw,h.pi,⟨c,m,a3.inv h1,h2,h3⟩⟩,fun _ _=>a3.full a2⟩
 ·right;rw [if_neg hf];refine⟨rfl,h,fun ha hkn=>absurd ?_ hf⟩;unfold SM.fits;subst gD;subst hkn;have:=acy k;rw [ha,h.hi];simp [this]
theorem Ez.tick {ev:Int} {n:Nat} {s:SM} {x:LD} (h:Ez ev n s x) (he:0≤ev) (hn:n≤40):
  Ez ev n (kL s x 1000).1 (kL s x 1000).2∧(kL s x 1000).1.bF=s.bF∧(kL s x 1000).1.high=s.high∧(Full x→Full (kL s x 1000).2):=by
 obtain⟨c,m,h1,h2,h3⟩:=h.lg;have hs:=h.si;obtain⟨p1,p2,p3,p4⟩:=h.pi.list;unfold kL;by_cases hi:s.idle=true
 ·rw [if_pos hi];exact⟨h,rfl,rfl,id⟩
 ·rw [if_neg hi];dsimp only;have Mq:1≤s.since:=by
   unfold SM.idle at hi;simp only [fM,decide_eq_true_eq,not_or,Int.not_lt] at hi;have:=h.ev;omega
  have hl:=ad2 (st:=s.high) p2 zQ;rcases xt (p:=fT (fg s.high s.list)) h1 zQ hl with⟨a1,a2,a3,a4⟩|⟨a1,a2,a3,a4⟩
  ·rw [if_pos a1];refine⟨⟨h.ev,by dsimp only;omega,h.dn,h.hi,h.dl,h.dw,h.pi,⟨c+1,m+1,(a3.trim zQ).2,by dsimp only;push_cast;omega,by omega⟩⟩,rfl,rfl,fun hf=>?_⟩;have:=acz h1 hf zQ hl;omega
  ·rw [if_neg (by rw [a1];decide)];exact⟨⟨h.ev,h.si,h.dn,h.hi,h.dl,h.dw,h.pi,⟨c,m,a3.inv h1,h2,h3⟩⟩,rfl,rfl,fun hf=>a3.full hf⟩
end Go.Proofs.YtpdkoaklobnegaaGreat
namespace Go.Proofs.YtpdkoaklobnegaaGreat
open Go.Proofs.Tryz renaming prog → pg
open Go.dL
set_option maxRecDepth 100000
set_option maxHeartbeats 1000000
set_option linter.unusedVariables false
set_option linter.unusedSimpArgs false
attribute [local irreducible] un jn bq aS bb gy dV dD cK lJ ez kV yC xf gU gH aa ay aD eW eV eU eC eF gE ao fin aR aE aJ vS yD jw jA tq A6 A7 yE A8 yF jx jB tt A9 Ba yG Bb
theorem iO.Vj {c k:Nat} {x:LD} {p:List Nat} (h1:iO 30000 c k x) (hc:c≤80) (hk:k≤900) (hp:p.length≤20250):iT x.L∧x.L.bI.length≤2^29∧acA x p:=by
 have hlen:=h1.len;refine⟨h1.EA zQ,by omega,?_⟩;rcases xt (p:=p) h1 zQ hp with⟨a1,a2,a3,a4⟩|⟨a1,a2,a3,a4⟩
 ·have:=a3.len;exact⟨a4.EA zQ,by omega,a3.EA zQ,by omega,(a3.trim zQ).1⟩
 ·have h5:=a3.inv h1;have:=h5.len;exact⟨(a4.inv h1).EA zQ,by omega,h5.EA zQ,by omega,(h5.trim zQ).1⟩
def Cw:DM:=⟨[],0,0,false⟩
abbrev nL:ByteArray:=⟨#[115,105,110,107]⟩
def x0 (sz:Nat):LD:=(LD.fI ⟨L0 nL sz,Cw⟩ 1).1
theorem Fu (sz:Nat):(LD.fI ⟨L0 nL sz,Cw⟩ 1).2=0∧(Cw.create (bw nL 1)).2=0∧kP (Cw.create (bw nL 1)).1∧(Cw.create (bw nL 1)).1.ks=[bw nL 1]∧(Cw.create (bw nL 1)).1.sz=0:=by
 have hm:kP Cw:=⟨rfl,rfl⟩;have hn:qD (bw nL 1)=true:=by simp only [qD,rC,decide_eq_true_eq];decide
 rcases hm.create hn (by simp [DM.ks,Cw])with⟨h1,_⟩|⟨h1,h2,h3,h4,h5⟩
 ·simp [Cw] at h1
 ·exact⟨h2,h2,h3,h4,h5⟩
theorem aaA (sz:Nat):(x0 sz).L=⟨nL,sz,[⟨1,[],0⟩],0⟩:=Zs (Fu sz).1
theorem Pc {sz:Nat} (h1:64≤sz) (h2:sz≤262144):iO 30000 0 1 (x0 sz)∧ ¬Full (x0 sz):=by
 obtain⟨_,_,g3,g4,g5⟩:=Fu sz;have hL:=aaA sz;have hm:(x0 sz).m=(Cw.create (bw nL 1)).1:=rfl;have qi:(x0 sz).L.last=⟨1,[],0⟩:=by rw [hL];rfl
 constructor
 ·refine⟨by rw [hm];exact g3,by rw [hL];simp,by rw [hL];exact(show 1≤jT nL from by decide),by rw [hL];exact(show jT nL≤11 from by decide),by rw [hL];exact ah (by decide) h1,by rw [hL];exact ah h2 (by decide),?_,?_,?_,?_,?_,?_,?_,?_,by rw [hm,g4];simp⟩
  ·rw [hm,g4,hL];intro k hk;exact⟨1,by simp,by simpa using hk⟩
  ·rw [hm,g4];unfold LM.ee;rw [qi,hL];simp
  ·rw [hL];simp
  ·rw [qi];intro _;rfl
  ·rw [hL];intro s hs;simp at hs;subst hs;simp
  ·unfold LM.next;rw [qi];rfl
  ·rw [hm,g5];decide
  ·rw [hL];simp
 ·intro hf;have:=hf.1;rw [hm,g4] at this;simp at this
theorem o0 {ev:Int} {sz:Nat} (h1:64≤sz) (h2:sz≤262144):Ez ev 0 (fO ev) (x0 sz):=
 ⟨rfl,by simp [fO],rfl,rfl,rfl,by simp [fO],⟨by simp [fO],by simp [fO],by simp [fO]⟩,⟨0,1,(Pc h1 h2).1,by simp [fO],by omega⟩⟩
abbrev yL:KV:=⟨⟨#[97]⟩,⟨1,4607182418800017408,⟨#[]⟩⟩⟩
abbrev kvB:KV:=⟨⟨#[98]⟩,⟨1,4607182418800017408,⟨#[]⟩⟩⟩
theorem okA:ik (hP 0) ⟨5,0,1⟩ ⟨1,1,5⟩ [yL]=true:=by kernel_rfl
theorem okB:ik (hP 4) ⟨7,0,1⟩ ⟨1,1,7⟩ [kvB]=true:=by kernel_rfl
def s1:SM:= { (fO 0).apply ⟨1,1,5⟩ ⟨5,0,1⟩ [yL] with since:=1 }
theorem ahs:(lM (fO 0) (x0 4096) (hP 0) ⟨5,0,1⟩ ⟨1,1,5⟩ [yL]).1=s1∧iO 30000 1 2 (lM (fO 0) (x0 4096) (hP 0) ⟨5,0,1⟩ ⟨1,1,5⟩ [yL]).2:=by
 have hf:(fO 0).fits (hP 0) ⟨5,0,1⟩ ⟨1,1,5⟩ [yL]=true:=by kernel_rfl
 obtain⟨h1,h2⟩:=Pc (sz:=4096) (by decide) (by decide);unfold lM;rw [if_pos hf];dsimp only;rcases xt (p:=gS (en (hP 0) ⟨5,0,1⟩ ⟨1,1,5⟩ [yL])) h1 zQ (zn (by decide))with⟨a1,a2,a3,a4⟩|⟨a1,a2,a3,a4⟩
 ·rw [if_pos a1];exact⟨rfl,a3⟩
 ·exact absurd a2 h2
theorem aht (x:LD):lM s1 x (hP 4) ⟨7,0,1⟩ ⟨1,1,7⟩ [kvB]=(s1,x):=by
 unfold lM;rw [if_neg (by rw [show s1.fits (hP 4) ⟨7,0,1⟩ ⟨1,1,7⟩ [kvB]=false from by kernel_rfl];simp)]
theorem ajH:s1.list=[yL]:=by
 have:s1.bF=[(⟨#[97]⟩,⟨1,4607182418800017408,⟨#[]⟩⟩)]:=by kernel_rfl
 unfold SM.list SM.get;rw [this];simp [fB,bl,getM]
theorem MJ {w:World} {X:XS} :Ct pg 9 #[] w X nX fun v _ _=>v=B true:=by
 intro w0 hk;apply JF;unfold Ak;have hs:=aj.init w0;have DD:Ft w0 nX w0 (ba w0) nX:=Ft.init fun _ h=>h.elim;refine cJ Pd kQ hs.has ?_;rintro _ HQ w1 X1 ⟨db,rfl,hdk⟩ tv oF aq;have cm:Ft w0 nX w1 X1 (made HQ w1):=(DD.since aq).more fun k ai=>.inr ⟨oF k ai,ah tv ai.1⟩;clear hs DD;repeat' first|refine aI ?_;intros
 refine cm.call (JA (sz:=4096) (every:=0) hdk (cm.fx fun _ h=>h) rfl rfl (by decide) (by decide) (by decide) (by decide) (Fu 4096).1) kQ (fun _ h=>h) fun v rZ w2 X2 OU sD ph bK jF=>?_;obtain⟨nb,lb,F2,rfl,hF2,h2⟩:=OU;replace bK:Ft w0 nX w2 X2 F2:=bK.less hF2;replace h2:ig w2 F2 nb lb db (fO 0) (x0 4096).L (x0 4096).m:=h2;repeat' first|refine bL ?_;intros
 refine cJ MI kQ bK.s.has ?_;rintro _ oG w3 X3 ⟨a,rfl,Pe⟩ nJ mg cl;have cn:=bK.since cl;have h3:=h2.mv (cl.dZ bK.aU);have Cm: ∀k,F2 k→k<w2.heap.size:=fun k ai=>bK.s.has k (bK.aU k ai);obtain⟨q1,q2,q3⟩:=(Pc (sz:=4096) (by decide) (by decide)).1.Vj (p:=gS (en (hP 0) ⟨5,0,1⟩ ⟨1,1,5⟩ [yL])) zQ zQ (zn (by decide));refine cn.call (MC (S:=made oG w3) (l:=[yL]) h3 q1 q2 (cn.fx fun _ h=>h) rfl Pe.sl (fun k ai=>⟨mg k ai,fun hf=>by have:=Cm k hf;have:=ai.1;omega⟩) (by simp) (by simp;decide) (ah (zn (by decide)) (by decide)) (by simp [fO]) (by simp [fO]) q3.lk q3.kd) kQ (fun _ h=>h) fun v yJ w4 X4 UR sF lK dS sc=>?_;obtain⟨vo,F4,S4,rfl,Jt,ep,h4,yI⟩:=UR;replace dS:Ft w0 nX w4 X4 F4:=dS.less Jt;obtain⟨e1,i4⟩:=ahs;change ig w4 F4 nb lb db (lM (fO 0) (x0 4096) (hP 0) ⟨5,0,1⟩ ⟨1,1,5⟩ [yL]).1 (lM (fO 0) (x0 4096) (hP 0) ⟨5,0,1⟩ ⟨1,1,5⟩ [yL]).2.L (lM (fO 0) (x0 4096) (hP 0) ⟨5,0,1⟩ ⟨1,1,5⟩ [yL]).2.m at h4;change Sl w4 S4 36 vo (if ik (hP 0) ⟨5,0,1⟩ ⟨1,1,5⟩ [yL]=true then [rA 31 (lM (fO 0) (x0 4096) (hP 0) ⟨5,0,1⟩ ⟨1,1,5⟩ [yL]).1.high] else [])at yI;rw [e1] at h4 yI;rw [if_pos okA] at yI;generalize (lM (fO 0) (x0 4096) (hP 0) ⟨5,0,1⟩ ⟨1,1,5⟩ [yL]).2=x4 at h4 i4;have amC:Sl w4 X4 36 vo (([s1.high]:List bE).map (rA 31)):=yI.mono fun k ai=>lK k (ep k ai).1;clear sc jF e1 aq cl h3 h2 hdk q1 q2 q3;repeat' first|refine aI ?_;intros
 refine cJ MI kQ dS.s.has ?_;rintro _ Fk w5 X5 ⟨a5,rfl,akU⟩ AM sG oI;have gR:=dS.since oI;have h5:=h4.mv (oI.dZ dS.aU);have qx:Sl w5 S4 36 vo (([s1.high]:List bE).map (rA 31)):=yI.mv (oI.dZ fun k ai=>lK k (ep k ai).1);have Vk: ∀k,F4 k→k<w4.heap.size:=fun k ai=>dS.s.has k (dS.aU k ai);obtain⟨q1,q2,q3⟩:=i4.Vj (p:=gS (en (hP 4) ⟨7,0,1⟩ ⟨1,1,7⟩ [kvB])) zQ zQ (zn (by decide));refine gR.call (MC (S:=made Fk w5) (l:=[kvB]) h5 q1 q2 (gR.fx fun _ h=>h) rfl akU.sl (fun k ai=>⟨sG k ai,fun hf=>by have:=Vk k hf;have:=ai.1;omega⟩) (by simp) (by simp;decide) (ah (zn (by decide)) (by decide)) (by simp [s1,fO,SM.apply]) (by simp [s1]) q3.lk q3.kd) kQ (fun _ h=>h) fun v MH w6 X6 O8 Nv Cq gB O9=>?_;obtain⟨vo6,F6,S6,rfl,Pa,Bn,h6,Fl⟩:=O8;rw [aht] at h6 Fl;rw [if_pos okB] at Fl;replace h6:ig w6 F6 nb lb db s1 x4.L x4.m:=h6;replace gB:Ft w0 nX w6 X6 F6:=gB.less Pa;have akV:Sl w6 S4 36 vo (([s1.high]:List bE).map (rA 31)):=qx.mv (O9.ew fun k ai=>⟨oI.sub k (lK k (ep k ai).1),(ep k ai).2⟩);have akW:Sl w6 S6 36 vo6 (([s1.high]:List bE).map (rA 31)):=Fl;have akX: ∀k,S4 k→X6 k:=fun k ai=>O9.sub k (oI.sub k (lK k (ep k ai).1));have ajI:=akV.mono akX;have ajJ:Sl w6 X6 36 vo6 (([s1.high]:List bE).map (rA 31)):=akW.mono fun k ai=>Cq k (Bn k ai).1;repeat' first|refine aI ?_;intros
 obtain⟨FN,FG,mb,av,es,iW,hN,hG,Vl,hg⟩:=id h6;refine cJ (xi Vl (gB.fx hN) (by decide) (by decide)) kQ gB.s.has ?_;rintro vp wa7 w7 X7 yB aaw Nu kY;rw [ajH] at yB;have lP:=gB.since kY;have h7:=h6.mv (kY.dZ gB.aU);have amD:=ajI.mv kY.mv;have amE:=ajJ.mv kY.mv;have hp7:Sl w7 X7 4 vp (([yL]:List KV).map KV.l):=yB.sl.mono Nu;have r1:([s1.high]:List bE)[0]? =some s1.high:=rfl;have r2:([yL]:List KV)[0]? =some yL:=rfl;have w5:s1.high.wall=5:=rfl;repeat' first|refine bL ?_;intros|refine de ?_ ?_<;>intros|with_reducible apply cG
 ·obtain⟨FN7,FG7,mb7,av7,es7,amF,hN7,hG7,akY,hg7⟩:=id h7;refine dy (MB akY (lP.fx hN7)) kQ lP.s.has fun w8 X8 qa=>?_;have Ad:=lP.since qa;repeat' first|refine bL ?_;intros
  exact Ad.fin fun wa aM=>rfl
 ·exact absurd rfl (by assumption)
 ·exact absurd rfl (by assumption)
section
variable {P : Program} {X : XS} {w : World} {N : Value → Prop} {t : TypeId}
end
theorem Vm {x:KV} : ∀{l:List KV},x∈l→1+x.key.size+x.val.text.size≤fS l
 |y::l,h=>by
  unfold fS;rw [bc,gO];rcases List.mem_cons.1 h with rfl|h
  ·omega
  ·have:=Vm h;unfold fS at this;omega
def SM.rE (s:SM) (g:fJ):Bool:=decide (g.kind=12)&&decide (g.aP.cmp s.high>0)&&decide (g.prev=s.high)
def fJ.asks (g:fJ):Bool:=decide (g.err=0)&&decide (g.to=32)&&(decide (g.kind=12)||decide (g.kind=13))
theorem fJ.BP {g:fJ} (h:g.asks=true) (hk:g.kind=12):ik g.prev g.aP g.cB g.writes=true:=by
 simp only [fJ.asks,aA,decide_eq_true_eq] at h;have he:=h.1.1;unfold fJ.err at he;split at he
 ·cases he
 ·split at he
  ·cases he
  ·rename_i hn;simp only [fM,bV,not_or,kS] at hn;have hf:=hn.2;unfold fJ.pP at hf;simpa [hk] using hf
def mL (s:SM) (x:LD) (g:fJ):SM×LD:=
 if g.asks&&s.rE g then
  let k:=x.dN 0 (gS (en g.prev g.aP g.cB g.writes))
  (if k.2.2=0 then { s.apply g.cB g.aP g.writes with since:=s.since+1 } else s,k.1)
 else(s,x)
theorem agd {n more:Int} (h1:0≤n) (h2:n≤40002) (h3:0≤more):0≤GF n more 20000∧GF n more 20000≤40001∧(GF n more 20000≤20000→GF n more 20000=n+more):=by
 unfold GF;split<;>omega
theorem rF {R:Ending→World→Prop} {w:World} {X:XS} {b:Bool} {n more:Int} {N:Value→World→XS→Prop} (h1:0≤n∧n≤40002) (h2:0≤more∧more≤2^42) (hX: ∀k,X k→k<w.heap.size)
  (k: ∀m w' X',0≤m∧m≤40001∧(m≤20000→m=n+more)→aj X w X' w'→N (I m) w' X'):eC pg R X w b 40 #[I n,I more,I 20000] N:=by
 obtain⟨a1,a2,a3⟩:=agd h1.1 h1.2 h2.1;exact gh (Tk zQ h2 (by decide)) kQ hX fun w' X' hs=>k _ w' X' ⟨a1,a2,a3⟩ hs
abbrev Zy:Value→World→World→Prop:=fun v _ _=> ∃n:Int,v=I n∧0≤n∧n≤40001
theorem GH {w:World} {X:XS} {a:Value} {xs:List BA} (ha:Sl w X 1 a (xs.map S1)) (dU: ∀x∈xs,x.size≤2^40):Ct pg 23 #[a,I 20000] w X nX Zy:=by
 intro w0 hk;replace ha:=ha.mv hk.dm;have lS:=ha.fQ;apply Fv;unfold wK;have hs:=aj.init w0;refine gN (fun n a b w X=> ∃(i:Nat) (s:Int),a=I i∧b=I s∧n=(xs).length-i∧i≤(xs).length∧(0≤s∧s≤40001)∧aj (ba w0) w0 X w) (xs).length ⟨0,_,rfl,rfl,rfl,aN _,by omega,hs⟩ ?_;clear hs;rintro n a b w X ⟨i,s,rfl,rfl,rfl,hi,hw,hs⟩;rcases ej (xs) i with⟨cH,x,hx,hd⟩|⟨eh,hd⟩
 ·have z1:=dU x (aX hx);repeat' first|refine bL ?_;intros|refine de ?_ ?_<;>intros|(with_reducible refine rF zQ zQ hs.has fun m w X hm aq=>?_;replace hs:=hs.trans aq)
  ·exact gA (xs.length-(i+1)) zQ ⟨i+1,_,by simp,rfl,rfl,by omega,by omega,hs⟩
  ·exact ak hs fun wa aM=>⟨s,rfl,by omega,by omega⟩
 ·repeat' first|refine bL ?_;intros
  all_goals exact ak hs fun wa aM=>⟨s,rfl,by omega,by omega⟩
theorem acB {w:World} {X:XS} {a:Value} {xs:List mM} (ha:Sl w X 7 a (xs.map mM.l)) (dU: ∀x∈xs,x.key.size≤2^40∧x.val.text.size≤2^40):Ct pg 108 #[a,I 20000] w X nX Zy:=by
 intro w0 hk;replace ha:=ha.mv hk.dm;have lS:=ha.fQ;apply GI;unfold xu;have hs:=aj.init w0;refine gN (fun n a b w X=> ∃(i:Nat) (s:Int),a=I i∧b=I s∧n=(xs).length-i∧i≤(xs).length∧(0≤s∧s≤40001)∧aj (ba w0) w0 X w) (xs).length ⟨0,_,rfl,rfl,rfl,aN _,by omega,hs⟩ ?_;clear hs;rintro n a b w X ⟨i,s,rfl,rfl,rfl,hi,hw,hs⟩;rcases ej (xs) i with⟨cH,x,hx,hd⟩|⟨eh,hd⟩
 ·have z1:=dU x (aX hx);repeat' first|refine bL ?_;intros|refine de ?_ ?_<;>intros|(with_reducible refine rF zQ zQ hs.has fun m w X hm aq=>?_;replace hs:=hs.trans aq)
  ·exact gA (xs.length-(i+1)) zQ ⟨i+1,_,by simp,rfl,rfl,by omega,by omega,hs⟩
  ·exact ak hs fun wa aM=>⟨s,rfl,by omega,by omega⟩
 ·repeat' first|refine bL ?_;intros
  all_goals exact ak hs fun wa aM=>⟨s,rfl,by omega,by omega⟩
theorem EB {w:World} {X:XS} {a:Value} {xs:List KV} (ha:Sl w X 4 a (xs.map KV.l)) (dU: ∀x∈xs,x.key.size≤2^40∧x.val.text.size≤2^40):
  Ct pg 10 #[a,I 20000] w X nX fun v _ _=> ∃n:Int,v=I n∧0≤n∧n≤40001∧(n≤20000→(fS xs:Int)≤n):=by
 intro w0 hk;replace ha:=ha.mv hk.dm;have lS:=ha.fQ;apply EC;unfold u0;have hs:=aj.init w0;refine gN (fun n a b w X=> ∃(i:Nat) (s:Int),a=I i∧b=I s∧n=xs.length-i∧i≤xs.length∧(0≤s∧s≤40001∧(s≤20000→(fS (xs.take i):Int)≤s))∧aj (ba w0) w0 X w) xs.length ⟨0,_,rfl,rfl,rfl,aN _,by simp [fS],hs⟩ ?_;clear hs;rintro n a b w X ⟨i,s,rfl,rfl,rfl,hi,hw,hs⟩;rcases ej (xs) i with⟨cH,x,hx,hd⟩|⟨eh,hd⟩
 ·have z1:=dU x (aX hx);have ad3:fS (xs.take (i+1))=fS (xs.take i)+(1+x.key.size+x.val.text.size):=by rw [ca,hx];simp [fS]
  repeat' first|refine bL ?_;intros|refine de ?_ ?_<;>intros|(with_reducible refine rF zQ zQ hs.has fun m w X hm aq=>?_;replace hs:=hs.trans aq)
  ·exact gA (xs.length-(i+1)) zQ ⟨i+1,_,by simp,rfl,rfl,by omega,by rw [ad3];omega,hs⟩
  ·exact ak hs fun wa aM=>⟨s,rfl,by omega,by omega,fun h=>by omega⟩
 ·have jM:i=xs.length:=by omega
  subst jM;rw [dE] at hw;repeat' first|refine bL ?_;intros
  all_goals exact ak hs fun wa aM=>⟨s,rfl,by omega,by omega,hw.2.2⟩
def Lp (l:List jl):Prop:= ∀h∈l,h.key.size≤2^40∧ ∀v∈h.jV,v.val.text.size≤2^40
def Pf (l:List KV):Prop:= ∀x∈l,x.key.size≤2^40∧x.val.text.size≤2^40
def Lq (l:List eG):Prop:= ∀p∈l,(∀k∈p.reads,k.size≤2^40)∧Pf p.writes
theorem Tl {w:World} {X:XS} {a:Value} {xs:List eG} (ha:lF w X a xs) (dU:Lq xs):Ct pg 177 #[a,I 20000] w X nX Zy:=by
 intro w0 hk;replace ha:=ha.mv hk.dm;have lS:=ha.len;apply Cx;unfold tH;have hs:=aj.init w0;refine gN (fun n a b w X=> ∃(i:Nat) (s:Int),a=I i∧b=I s∧n=(xs).length-i∧i≤(xs).length∧(0≤s∧s≤40001)∧aj (ba w0) w0 X w) (xs).length ⟨0,_,rfl,rfl,rfl,aN _,by omega,hs⟩ ?_;clear hs;rintro n a b w X ⟨i,s,rfl,rfl,rfl,hi,hw,hs⟩;rcases ej (xs) i with⟨cH,x,hx,hd⟩|⟨eh,hd⟩
 ·obtain⟨z1,z2⟩:=dU x (aX hx);repeat' first|refine bL ?_;intros|refine de ?_ ?_<;>intros|((with_reducible apply T7);assumption;(try (case hz=>rfl));(case hr=>exact qR);(try (case hz=>omega));(case ht=>kernel_rfl);(case hs=>kernel_rfl);intros)|(with_reducible refine rF zQ zQ hs.has fun m w X hm aq=>?_;replace hs:=hs.trans aq)|(refine cJ (GH (Sl.mv (by assumption) hs.mv) z1) kQ hs.has ?_;rintro _ wa w X ⟨n1,rfl,R9,Zl⟩ hle fU aq;replace hs:=hs.trans aq)|(refine cJ (EB (Sl.mv (by assumption) hs.mv) z2) kQ hs.has ?_;rintro _ wa w X ⟨n2,rfl,hn3,hn4,_⟩ hle fU aq;replace hs:=hs.trans aq)
  all_goals first
   |exact gA (xs.length-(i+1)) zQ ⟨i+1,_,by simp,rfl,rfl,by omega,by omega,hs⟩
   |exact ak hs fun wa aM=>⟨s,rfl,by omega,by omega⟩
 ·repeat' first|refine bL ?_;intros
  all_goals exact ak hs fun wa aM=>⟨s,rfl,by omega,by omega⟩
theorem QR {w:World} {X:XS} {a:Value} {xs:List jl} (ha:mi w X a xs) (dU:Lp xs):Ct pg 176 #[a,I 20000] w X nX Zy:=by
 intro w0 hk;replace ha:=ha.mv hk.dm;have lS:=ha.len;apply BQ;unfold sY;have hs:=aj.init w0;refine Fw (fun n a _ b w X=> ∃(i:Nat) (s:Int),a=I i∧b=I s∧n=xs.length-i∧i≤xs.length∧(0≤s∧s≤40001)∧aj (ba w0) w0 X w) xs.length ⟨0,_,rfl,rfl,rfl,aN _,by omega,hs⟩ ?_;clear hs;rintro n a a2 b w X ⟨i,s,rfl,rfl,rfl,hi,hw,hs⟩;rcases ej (xs) i with⟨cH,x,hx,hd⟩|⟨eh,hd⟩
 ·obtain⟨z1,z2⟩:=dU x (aX hx);repeat' first|refine bL ?_;intros|refine de ?_ ?_<;>intros|((with_reducible apply Lr);assumption;(try (case hz=>rfl));(case hr=>exact qR);(try (case hz=>omega));(case ht=>kernel_rfl);(case hs=>kernel_rfl);intros)|(with_reducible refine rF zQ zQ hs.has fun m w X hm aq=>?_;replace hs:=hs.trans aq)
  ·have hl9:=Sl.fQ ‹Sl w0 (ba w0) 6 _ (List.map kZ.l x.jV)›;refine gN (fun n a b w X=> ∃(k:Nat) (s:Int),a=I k∧b=I s∧n=x.jV.length-k∧k≤x.jV.length∧(0≤s∧s≤40001)∧aj (ba w0) w0 X w) x.jV.length ⟨0,_,rfl,rfl,rfl,aN _,by omega,hs⟩ ?_;clear hs hw;rintro n a b w X ⟨k,s,rfl,rfl,rfl,hk,hw,hs⟩;rcases ej x.jV k with⟨Nw,y,hy,pY⟩|⟨GJ,pY⟩
   ·have z3:=z2 y (aX hy);repeat' first|refine bL ?_;intros|refine de ?_ ?_<;>intros|((with_reducible apply Lr);assumption;(try (case hz=>rfl));(case hr=>exact qR);(try (case hz=>omega));(case ht=>kernel_rfl);(case hs=>kernel_rfl);intros)|(with_reducible refine rF zQ zQ hs.has fun m w X hm aq=>?_;replace hs:=hs.trans aq)
    ·exact gA (x.jV.length-(k+1)) zQ ⟨k+1,_,by simp,rfl,rfl,by omega,by omega,hs⟩
    ·exact Cy (xs.length-(i+1)) zQ ⟨i+1,_,by simp,rfl,rfl,by omega,by omega,hs⟩
   ·repeat' first|refine bL ?_;intros|((with_reducible apply Lr);assumption;(try (case hz=>rfl));(case hr=>exact qR);(try (case hz=>omega));(case ht=>kernel_rfl);(case hs=>kernel_rfl);intros)
    all_goals exact Cy (xs.length-(i+1)) zQ ⟨i+1,_,by simp,rfl,rfl,by omega,by omega,hs⟩
  ·exact ak hs fun wa aM=>⟨s,rfl,by omega,by omega⟩
 ·repeat' first|refine bL ?_;intros
  all_goals exact ak hs fun wa aM=>⟨s,rfl,by omega,by omega⟩
theorem BR {w:World} {X:XS} {s:State} {vh vp:Value} (ha:mi w X vh s.ia) (hb:lF w X vp s.g8) (h1:Lp s.ia) (h2:Lq s.g8):Ct pg 110 #[s.v vh vp,I 20000] w X nX Zy:=by
 intro w0 hk;replace ha:=ha.mv hk.dm;replace hb:=hb.mv hk.dm;apply Fx;unfold wL;have hs:=aj.init w0;refine cJ (QR ha h1) kQ hs.has ?_;rintro _ wa w X ⟨n1,rfl,R9,Zl⟩ hle fU aq;replace hs:=hs.trans aq;refine cJ (Tl (lF.mv hb hs.mv) h2) kQ hs.has ?_;rintro _ wa w X ⟨n2,rfl,hn3,hn4⟩ hle fU aq;replace hs:=hs.trans aq;repeat' first|(with_reducible refine rF zQ zQ hs.has fun m w X hm aq=>?_;replace hs:=hs.trans aq)
 exact ak hs fun wa aM=>⟨_,rfl,by omega,by omega⟩
structure Rec.text (r:Rec):Prop where
 reads: ∀k∈r.reads,k.size≤2^40
 writes:Pf r.writes
 bF:Pf r.bF
 h:Lp r.state.ia
 p:Lq r.state.g8
theorem ad4 {w:World} {X:XS} {r:Rec} {vr vw vp vq vh vd:Value} (ha:r.at w X vr vw vp vq vh vd) (ht:r.text):Ct pg 109 #[r.v vr vw vp vq vh vd,I 20000] w X nX Zy:=by
 intro w0 hk;obtain⟨h1,h2,h3,h4,h5,h6⟩:=ha.mv hk.dm;have lS:=h4.fQ;have hl3:=h3.fQ;apply IC;unfold yM;have hs:=aj.init w0;refine cJ (GH h1 ht.reads) kQ hs.has ?_;rintro _ wa w X ⟨n1,rfl,R9,Zl⟩ hle fU aq;replace hs:=hs.trans aq;refine cJ (EB (h2.mv hs.mv) ht.writes) kQ hs.has ?_;rintro _ wa w X ⟨n2,rfl,hn3,hn4,_⟩ hle fU aq;replace hs:=hs.trans aq;repeat' first|refine aI ?_;intros|(with_reducible refine rF zQ zQ hs.has fun m w X hm aq=>?_;replace hs:=hs.trans aq)
 refine gN (fun n a b w X=> ∃(i:Nat) (s:Int),a=I i∧b=I s∧n=(r.bF).length-i∧i≤(r.bF).length∧(0≤s∧s≤40001)∧aj (ba w0) w0 X w) (r.bF).length ⟨0,_,rfl,rfl,rfl,aN _,by omega,hs⟩ ?_;clear hs;rintro n a b w X ⟨i,s,rfl,rfl,rfl,hi,hw,hs⟩;rcases ej (r.bF) i with⟨cH,x,hx,hd⟩|⟨eh,hd⟩
 ·have z1:=ht.bF x (aX hx);repeat' first|refine bL ?_;intros|refine de ?_ ?_<;>intros|(with_reducible refine rF zQ zQ hs.has fun m w X hm aq=>?_;replace hs:=hs.trans aq)
  ·exact gA (r.bF.length-(i+1)) zQ ⟨i+1,_,by simp,rfl,rfl,by omega,by omega,hs⟩
  ·refine cJ (BR (s:=r.state) (mi.mv h5 hs.mv) (lF.mv h6 hs.mv) ht.h ht.p) kQ hs.has ?_;rintro _ wa w X ⟨n3,rfl,hn5,hn6⟩ hle fU aq;replace hs:=hs.trans aq;repeat' first|(with_reducible refine rF zQ zQ hs.has fun m w X hm aq=>?_;replace hs:=hs.trans aq)
   exact ak hs fun wa aM=>⟨_,rfl,by omega,by omega⟩
 ·repeat' first|refine bL ?_;intros
  all_goals (refine cJ (BR (s:=r.state) (mi.mv h5 hs.mv) (lF.mv h6 hs.mv) ht.h ht.p) kQ hs.has ?_;rintro _ wa w X ⟨n3,rfl,hn5,hn6⟩ hle fU aq;replace hs:=hs.trans aq)
  repeat' first|(with_reducible refine rF zQ zQ hs.has fun m w X hm aq=>?_;replace hs:=hs.trans aq)
  all_goals exact ak hs fun wa aM=>⟨_,rfl,by omega,by omega⟩
structure fJ.text (m:fJ):Prop where
 keys: ∀k∈m.keys,k.size≤2^40
 seen: ∀x∈m.seen,x.key.size≤2^40∧x.val.text.size≤2^40
 writes:Pf m.writes
 bS: ∀r∈m.bS,r.text
 h:Lp m.state.ia
 p:Lq m.state.g8
theorem ad5 {w:World} {X:XS} {g:fJ} {vk vs vw vp vr vc vh vd:Value} (ha:g.at w X vk vs vw vp vr vc vh vd) (ht:g.text):
  Ct pg 61 #[g.v vk vs vw vp vr vc vh vd,I 20000] w X nX fun v _ _=> ∃n:Int,v=I n∧0≤n∧n≤40001∧(n≤20000→(fS g.writes:Int)+1≤n):=by
 intro w0 hk;obtain⟨h1,h2,h3,h4,h5,h6,h7,h8⟩:=ha.mv hk.dm;have lS:=h4.fQ;have zV:=h5.fQ;have Vn:=h6.len;apply ID;unfold yN;have hs:=aj.init w0;refine cJ (GH h1 ht.keys) kQ hs.has ?_;rintro _ wa w X ⟨n1,rfl,R9,Zl⟩ hle fU aq;replace hs:=hs.trans aq;refine cJ (acB (h2.mv hs.mv) ht.seen) kQ hs.has ?_;rintro _ wa w X ⟨n2,rfl,hn3,hn4⟩ hle fU aq;replace hs:=hs.trans aq;repeat' first|(with_reducible refine rF zQ zQ hs.has fun m w X hm aq=>?_;replace hs:=hs.trans aq)
 refine cJ (EB (h3.mv hs.mv) ht.writes) kQ hs.has ?_;rintro _ wa w X ⟨n3,rfl,hn5,hn6,hn7⟩ hle fU aq;replace hs:=hs.trans aq;repeat' first|refine aI ?_;intros|(with_reducible refine rF zQ zQ hs.has fun m w X hm aq=>?_;replace hs:=hs.trans aq)
 refine gN (fun n a b w X=> ∃(i:Nat) (s:Int),a=I i∧b=I s∧n=(g.bS).length-i∧i≤(g.bS).length∧(0≤s∧s≤40001∧(s≤20000→(fS g.writes:Int)≤s))∧aj (ba w0) w0 X w) (g.bS).length ⟨0,_,rfl,rfl,rfl,aN _,by omega,hs⟩ ?_;clear hs;rintro n a b w X ⟨i,s,rfl,rfl,rfl,hi,hw,hs⟩;rcases ej (g.bS) i with⟨cH,x,hx,hd⟩|⟨eh,hd⟩
 ·have z1:=ht.bS x (aX hx);repeat' first|refine bL ?_;intros|refine de ?_ ?_<;>intros|((with_reducible apply Zz);assumption;(try (case hz=>rfl));(case hr=>exact qR);(try (case hz=>omega));(case ht=>kernel_rfl);(case hs=>kernel_rfl);intros)|(with_reducible refine rF zQ zQ hs.has fun m w X hm aq=>?_;replace hs:=hs.trans aq)|(refine cJ (ad4 (r:=x) (Rec.at.mv (by assumption) hs.mv) z1) kQ hs.has ?_;rintro _ wa w X ⟨n8,rfl,hn8,hn9⟩ hle fU aq;replace hs:=hs.trans aq)|(refine cJ (BR (s:=g.state) (mi.mv h7 hs.mv) (lF.mv h8 hs.mv) ht.h ht.p) kQ hs.has ?_;rintro _ wa w X ⟨n10,rfl,akZ,ak0⟩ hle fU aq;replace hs:=hs.trans aq)
  all_goals first
   |exact gA (g.bS.length-(i+1)) zQ ⟨i+1,_,by simp,rfl,rfl,by omega,by omega,hs⟩
   |exact ak hs fun wa aM=>⟨_,rfl,by omega,by omega,fun h=>by omega⟩
 ·repeat' first|refine bL ?_;intros|(with_reducible refine rF zQ zQ hs.has fun m w X hm aq=>?_;replace hs:=hs.trans aq)|(refine cJ (BR (s:=g.state) (mi.mv h7 hs.mv) (lF.mv h8 hs.mv) ht.h ht.p) kQ hs.has ?_;rintro _ wa w X ⟨n10,rfl,akZ,ak0⟩ hle fU aq;replace hs:=hs.trans aq)
  all_goals exact ak hs fun wa aM=>⟨_,rfl,by omega,by omega,fun h=>by omega⟩
def iV (l:List KV) (x:KV):List KV:=
 let a:=l.takeWhile fun y=>jk y.key x.key
 let b:=l.dropWhile fun y=>jk y.key x.key
 a++((if x.val.kind≠0 then [x] else [])++(match b with|[]=>[]|y::r=>if y.key=x.key then r else y::r))
theorem Fy {α:Type} (p:α→Bool): ∀(l:List α) (i:Nat),(∀y∈l.take i,p y=true)→(∀x,l[i]? =some x→p x=false)→i≤l.length→l.takeWhile p=l.take i∧l.dropWhile p=l.drop i
 |[],i,_,_,_=>by simp
 |y::l,0,_,h,_=>by
  have:=h y rfl;simp [this]
 |y::l,i+1,h1,h2,hi=>by
  have hy:=h1 y (by simp);obtain⟨a,b⟩:=Fy p l i (fun z hz=>h1 z (by simp [hz])) (fun x hx=>h2 x (by simpa using hx)) (by simpa using hi);simp [hy,a,b]
theorem Pg {α:Type} {k:Nat} : ∀{rows:List (List α)} (i:Nat),(∀r∈rows,r.length=k)→(rows.drop i).flatten=rows.flatten.drop (i*k)
 |_,0,_=>by simp
 |[],i+1,_=>by simp
 |r::rows,i+1,h=>by
  have hr:=h r (by simp);rw [List.drop_succ_cons,Pg i fun x hx=>h x (aZ _ hx),cD,Nat.succ_mul,Nat.add_comm,←fu,jd hr]
theorem acC {P:Program} {X:XS} {w:World} {t:TypeId} {k:Nat} {v:Value} {z:Int} {i:Nat} {rows:List (List Value)} {N:Value→Prop} (h:Sl w X k v rows) (hz:z=i) (hi:i≤rows.length) (ht:P.underlying t=some (.slice (P.elem t))) (hs:(P.info? (P.elem t)).map (·.size)=some k)
  (n: ∀v',Sl w X k v' (rows.drop i)→N v'):aa P X w (cp t v (some (.int .i64 z)) none none) N:=by
 subst hz;obtain⟨h1,h2,base,cap,rfl,hc,hb,Vn,lA⟩:=h;have hq: ∃inf,P.info? (P.elem t)=some inf∧inf.size=k:=by
  cases hq:P.info? (P.elem t)with
  |none=>simp [hq] at hs
  |some inf=>exact⟨inf,rfl,by simpa [hq] using hs⟩
 obtain⟨inf,hq,dU⟩:=hq;have mR: ∀wa:World,(cp t (.slice base rows.length cap) (some (.int .i64 (i:Int))) none none).run P wa= .ok (sliced base i rows.length cap k) wa:=fun wa=>by
  rw [run_sliceAt_slice wa t _ _ _ _ ht,run_slice_l wa t _ _ cap ht .i64 i zQ zQ];simp [sizeOf,typeInfo,hq,dU]
 refine bX mR (n _ ?_);refine⟨fun r hr=>h1 r (List.mem_of_mem_drop hr),by rw [bU];omega,_,cap-i,by unfold sliced;rw [bU],fun cU=>?_,fun JG=>?_,by rw [bU];omega,by omega⟩
 ·have jM:i<rows.length:=by
   refine Nat.lt_of_not_le fun hle=>cU (List.drop_of_length_le hle)
  obtain⟨b,o,rfl,jj⟩:=hc (by intro e;rw [e] at jM;simp at jM);refine⟨b,o+i*k,?_,?_⟩
  ·rw [if_neg zQ];simp only [Option.map_some,Option.some.injEq];unfold Addr.add;split
   ·rename_i h0;rw [h0];rfl
   ·rfl
  ·rw [Pg i h1];obtain⟨hx,c,ty,fr,fR,Cz⟩:=jj;exact⟨hx,c,ty,fr,fR,fun j v hj=>by rw [List.getElem?_drop] at hj;have:=Cz _ _ hj;rwa [←Nat.add_assoc] at this⟩
 ·split at JG
  ·have:=hb JG;omega
  ·have:base=none:=by simpa using JG
   have:=hb this;omega
theorem age {l:List KV} : ∀r∈l.map KV.l,∀u∈r,dL.one u=true:=by
 intro r hr u hu;obtain⟨x,_,rfl⟩:=List.mem_map.1 hr;simp at hu;rcases hu with rfl|rfl|rfl|rfl<;>rfl
theorem Yn {w:World} {X:XS} {vl:Value} {l:List KV} {x:KV} (hl:Sl w X 4 vl (l.map KV.l)) (hb:l.length≤2^30):
  Ct pg 62 #[vl,x.v] w X nX fun v wa w'=>Own w' (made wa w') wa.heap.size 74 4 v ((iV l x).map KV.l):=by
 intro w0 hk;replace hl:=hl.mv hk.dm;obtain⟨lb,ln,lc,rfl⟩:=hl.form;have DC:=hl.fQ;apply Nx;unfold CA;have hs:=aj.init w0;refine gN (fun n a b w X=> ∃i:Nat,a=I i∧n=l.length-i∧i≤l.length∧(∀y∈l.take i,jk y.key x.key=true)∧Own w X w0.heap.size 74 4 b ((l.take i).map KV.l)∧aj (ba w0) w0 X w) l.length ⟨0,rfl,rfl,aN _,by simp,Own.nil _ _ _ _ _,hs⟩ ?_;clear hs;rintro n a acc w X ⟨i,rfl,rfl,hi,ahu,sE,hs⟩;have j7:=hl.mv hs.mv;have ZA:((l.take i).map KV.l).length=i:=by simp;omega
 have Vo: ∀(y5:Value) (w2:World) (X2:XS) (pre:List KV) (j:Nat) (z:Int),pre.length≤i+1→z=(j:Int)→j≤l.length→Own w2 X2 w0.heap.size 74 4 y5 (pre.map KV.l)→aj (ba w0) w0 X2 w2→iV l x=pre++l.drop j→
   aa pg X2 w2 (cp 54 (.slice lb ln lc) (some (.int .i64 z)) none none) fun x61=>eV pg (Bo nX w0 fun v w'=>(fun v wa w'=>Own w' (made wa w') wa.heap.size 74 4 v ((iV l x).map KV.l)) v w0 w') X2 w2 true (gH 54 74 4 48 54 y5 x61) fun x62 w68 X69=>
    dL.fin (Bo nX w0 fun v w'=>(fun v wa w'=>Own w' (made wa w') wa.heap.size 74 4 v ((iV l x).map KV.l)) v w0 w') X69 w68 x62:=by
  intro y5 w2 X2 pre j z wM hz hj ak1 bQ he;refine acC (hl.mv bQ.mv) hz (by simpa using hj) kQ kQ fun v' ZC=>?_;rw [←List.map_drop] at ZC;refine xv ak1 bQ (fun _ h=>h) kQ ZC age (by simp;omega) (by simp;omega) fun v9 w9 X9 wN OZ hc9 aaB=>?_;refine ak wN fun wa aM=>?_;rw [he,aT];exact(OZ.kp aM).tight
 have Vp:(∀y,l[i]? =some y→jk y.key x.key=false)→iV l x=(l.take i++(if x.val.kind≠0 then [x] else []))++(match l.drop i with|[]=>[]|y::r=>if y.key=x.key then r else y::r):=fun h=>by
  obtain⟨e1,e2⟩:=Fy (fun y:KV=>jk y.key x.key) l i ahu h hi;unfold iV;rw [e1,e2,au]
 rcases ej (l) i with⟨cH,y,hy,hd⟩|⟨eh,hd⟩
 ·rw [hd] at Vp;repeat' first|refine bL ?_;intros|refine de ?_ ?_<;>intros|((with_reducible apply Fc);(case own=>first|assumption|exact Own.since (by assumption) (by assumption));(case hs=>assumption);(case h0=>first|exact fun _ h=>h|exact bT.has);(case he=>kernel_rfl);(case hk=>rfl);(case h1=>exact qE);(case hb=>(simp only [aG,bp,ae,aY,bz];omega));(case hl=>(simp only [aG,bp,ae,aY,bz];omega));intro acc w X aq ho hc fm;replace hs:=aq)
  ·exact gA (l.length-(i+1)) zQ ⟨i+1,by simp,rfl,by omega,fun z hz=>(by
    rw [ca,hy] at hz;rcases List.mem_append.1 hz with hz|hz
    ·exact ahu z hz
    ·simp at hz;subst hz;assumption),by rw [ca,hy,aT];exact ho,hs⟩
  ·have Ph:=Vp fun z hz=>by rw [hy] at hz;cases hz;assumption
   refine fk (Q:=fun K=> ∀y5 w2 X2,Own w2 X2 w0.heap.size 74 4 y5 ((l.take i++(if x.val.kind≠0 then [x] else [])).map KV.l)→aj (ba w0) w0 X2 w2→K y5 w2 X2) ?_ fun K hK=>?_
   ·intro y5 w2 X2 m7 bQ;have QS:=hl.mv bQ.mv;have wM:(l.take i++(if x.val.kind≠0 then [x] else [])).length≤i+1:=by split<;>simp<;>omega
    clear j7 hs;have hs:=bQ;repeat' first|refine bL ?_;intros|refine de ?_ ?_<;>intros|with_reducible apply cG
    ·exact Vo _ _ _ _ (i+1) _ wM (by simp) zQ m7 bQ (by rw [Ph];simp [*])
    ·exact Vo _ _ _ _ i _ wM rfl hi m7 bQ (by rw [Ph,hd];simp [*])
   ·repeat' first|refine aI ?_;intros|refine de ?_ ?_<;>intros|((with_reducible apply Fc);(case own=>first|assumption|exact Own.since (by assumption) (by assumption));(case hs=>assumption);(case h0=>first|exact fun _ h=>h|exact bT.has);(case he=>kernel_rfl);(case hk=>rfl);(case h1=>exact qE);(case hb=>(simp only [aG,bp,ae,aY,bz];omega));(case hl=>(simp only [aG,bp,ae,aY,bz];omega));intro acc w X aq ho hc fm;replace hs:=aq)
    ·refine hK _ _ _ ?_ hs;rw [if_pos (by assumption),aT];exact ho
    ·refine hK _ _ _ ?_ hs;rw [if_neg (by simp;assumption),bZ];exact sE
 ·have jM:i=l.length:=by omega
  have Ph:=Vp fun z hz=>by rw [jM] at hz;simp at hz
  rw [hd] at Ph;repeat' first|refine bL ?_;intros
  refine fk (Q:=fun K=> ∀y5 w2 X2,Own w2 X2 w0.heap.size 74 4 y5 ((l.take i++(if x.val.kind≠0 then [x] else [])).map KV.l)→aj (ba w0) w0 X2 w2→K y5 w2 X2) ?_ fun K hK=>?_
  ·intro y5 w2 X2 m7 bQ;have QS:=hl.mv bQ.mv;have wM:(l.take i++(if x.val.kind≠0 then [x] else [])).length≤i+1:=by split<;>simp<;>omega
   clear j7 hs;have hs:=bQ;repeat' first|refine bL ?_;intros|with_reducible apply cG
   all_goals exact Vo _ _ _ _ i _ wM rfl hi m7 bQ (by rw [Ph,hd])
  ·repeat' first|refine aI ?_;intros|refine de ?_ ?_<;>intros|((with_reducible apply Fc);(case own=>first|assumption|exact Own.since (by assumption) (by assumption));(case hs=>assumption);(case h0=>first|exact fun _ h=>h|exact bT.has);(case he=>kernel_rfl);(case hk=>rfl);(case h1=>exact qE);(case hb=>(simp only [aG,bp,ae,aY,bz];omega));(case hl=>(simp only [aG,bp,ae,aY,bz];omega));intro acc w X aq ho hc fm;replace hs:=aq)
   ·refine hK _ _ _ ?_ hs;rw [if_pos (by assumption),aT];exact ho
   ·refine hK _ _ _ ?_ hs;rw [if_neg (by simp;assumption),bZ];exact sE
theorem ad6 (l:List KV) (x:KV):(iV l x).length≤l.length+1:=by
 have h:=congrArg az (List.takeWhile_append_dropWhile (p:=fun y:KV=>jk y.key x.key) (l:=l));rw [ae] at h;unfold iV;dsimp only;generalize l.takeWhile (fun y:KV=>jk y.key x.key)=a at h⊢;generalize l.dropWhile (fun y:KV=>jk y.key x.key)=b at h⊢;have h1:(if x.val.kind≠0 then [x] else []).length≤1:=by split<;>simp
 rw [ae,ae];cases b with
 |nil=>simp only [bz] at h⊢;omega
 |cons y r=>
  simp only [aY] at h⊢;have h2:(if y.key=x.key then r else y::r).length≤r.length+1:=by split<;>simp
  omega
theorem ED: ∀(ws l:List KV),(ws.foldl iV l).length≤l.length+ws.length
 |[],l=>by simp
 |x::ws,l=>by
  have h1:=ED ws (iV l x);have h2:=ad6 l x;simp only [List.foldl_cons,aY];omega
def jf (es:List fN):List KV:=(es.map fN.writes).flatten
theorem Vq {w:World} {X:XS} {va:Value} {es:List (Value×fN)} {c:Nat} (hc:c≤es.length) (ha:Sl w X 7 va (es.map fun x=>x.2.l x.1)) (hw: ∀x∈es,Sl w X 4 x.1 (x.2.writes.map KV.l)) (hb:(jf (es.map eZ)).length≤2^30) (hn:es.length≤2^30):
  Ct pg 24 #[va,I c] w X nX fun v wa w'=>Own w' (made wa w') wa.heap.size 74 4 v (((jf ((es.map eZ).take c)).foldl iV []).map KV.l):=by
 intro w0 hk;replace ha:=ha.mv hk.dm;replace hw: ∀x∈es,Sl w0 (ba w0) 4 x.1 (x.2.writes.map KV.l):=fun x hx=>(hw x hx).mv hk.dm;obtain⟨lb,ln,lc,rfl⟩:=ha.form;have DC:=ha.fQ;have qU: ∀i,(jf ((es.map eZ).take i)).length≤2^30:=fun i=>by
  have h1:=congrArg (fun l=>(jf l).length) (List.take_append_drop i (es.map eZ));simp only [jf,aT,List.flatten_append,ae] at h1;unfold jf at hb⊢;omega
 apply JH;unfold Al;have hs:=aj.init w0;refine Fw (fun n a b _ w X=> ∃i:Nat,a=I i∧n=c-i∧i≤c∧Own w X w0.heap.size 74 4 b (((jf ((es.map eZ).take i)).foldl iV []).map KV.l)∧aj (ba w0) w0 X w) c ⟨0,rfl,rfl,aN _,Own.nil _ _ _ _ _,hs⟩ ?_;clear hs;rintro n a acc _ w X ⟨i,rfl,rfl,hi,sE,hs⟩;rcases Nat.lt_or_ge i c with hic|hic
 ·obtain⟨x,hx⟩: ∃x,es[i]? =some x:=⟨_,List.getElem?_eq_getElem (aK hic hc)⟩;have cH:i<es.length:=aK hic hc;have Ss:=aX hx;have hwx:=hw x Ss;have hlx:=hwx.fQ;obtain⟨xb,xn,xc,hxf⟩:=hwx.form;have St:jf ((es.map eZ).take (i+1))=jf ((es.map eZ).take i)++x.2.writes:=by
   rw [ca];simp [hx,jf]
  have htx:=qU (i+1);rw [St,ae] at htx;repeat' first|refine bL ?_;intros
  refine gN (fun n a b w X=> ∃k:Nat,a=I k∧n=x.2.writes.length-k∧k≤x.2.writes.length∧Own w X w0.heap.size 74 4 b (((x.2.writes.take k).foldl iV ((jf ((es.map eZ).take i)).foldl iV [])).map KV.l)∧aj (ba w0) w0 X w) x.2.writes.length ⟨0,rfl,rfl,aN _,sE,hs⟩ ?_;clear hs sE;rintro n a acc w X ⟨k,rfl,rfl,Zw,sE,hs⟩;have amG:=hwx.mv hs.mv;rcases ej x.2.writes k with⟨Nw,y,hy,pY⟩|⟨GJ,pY⟩
  ·repeat' first|refine bL ?_;intros
   have Am:=ED (jf ((es.map eZ).take i)) [];have xw:=ED (x.2.writes.take k) ((jf ((es.map eZ).take i)).foldl iV []);have hl3:(x.2.writes.take k).length≤x.2.writes.length:=by rw [bp];exact Nat.min_le_right _ _
   refine cJ (Yn (x:=y) sE.sl (by simp only [bz] at Am;omega)) kQ hs.has ?_;rintro v wa w2 X2 ho hle fU bQ;have hz:=hs.kp.size;replace hs:=hs.trans bQ;have m7:Own w2 X2 w0.heap.size 74 4 v _:=ho.up fU zQ;repeat' first|refine aI ?_;intros
   refine gA (x.2.writes.length-(k+1)) zQ ⟨k+1,by simp,rfl,by omega,?_,hs⟩;rw [ca,hy,wH];exact m7
  ·have lO:k=x.2.writes.length:=by omega
   subst lO;rw [dE] at sE;repeat' first|refine bL ?_;intros
   refine Cy (c-(i+1)) zQ ⟨i+1,by simp,rfl,by omega,?_,hs⟩;rw [St,wH];exact sE
 ·have jM:i=c:=by omega
  subst jM;repeat' first|refine bL ?_;intros
  exact ak hs fun wa aM=>(sE.kp aM).tight
end Go.Proofs.YtpdkoaklobnegaaGreat
