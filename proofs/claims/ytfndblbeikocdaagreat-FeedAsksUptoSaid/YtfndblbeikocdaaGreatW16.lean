/-
 Part 16 of the proof: what the last text leans on.
-/
import Derived.Test.YtfndblbeikocdaaGreatW15
open Nat renaming eq_zero_or_pos → du, zero_le → aL, lt_of_lt_of_le → aN, le_trans → af
open List renaming length_nil → bI, length_map → aA, mem_of_getElem? → aH, eq_nil_of_length_eq_zero → cT, take_add_one → bg, range → dg, length_singleton → bF, map_append → bp, getElem?_map → dD, map_map → dN, range_succ → rV, find?_cons → b8, nil_append → eB, length_take → aX, take_length → kR
set_option linter.unusedVariables false
set_option linter.unusedSimpArgs false
namespace Go.Proofs.YtfndblbeikocdaaGreat
open Go.Proofs.Tryz renaming prog → pg
open Go.bB
set_option maxRecDepth 100000
set_option maxHeartbeats 1000000
set_option linter.unusedVariables false
set_option linter.unusedSimpArgs false
attribute [local irreducible] un jn aI aT ld1 ek st1 cA cp mE ea mF wh vy gG ga ab ax ay eW eV eU eC eF gE au fin aM aP aF vS y9 gg ix rr wi wj za zc zd fY iy ru wm wo ze zf
theorem T4 {w:World} {X F:XS} {db:Nat} {m:DM} {n:ByteArray} (h:Dk w F db m) (hF:FX F X w) (h0:m.get n=none):
  Ct pg 59 #[ptr db 0,.string n] w X nX fun v _ _=>v= .tuple #[.slice none 0 0,I 8]:=by
 intro w0 hk;obtain⟨mb,l,hL,hz⟩:=h.mv (hF.mv hk);have hX:=fun k ah=>(hF.kp hk k ah).1;have hb:=hL.box.mv (Mv.sub hX);have hg:=hL.get n;have hm:=hL.map.mv jx (Mv.sub hX) (A':=nX) fun _ h=>h.elim;apply JR;unfold Ap;have hs:=aj.init w0;repeat' first|refine aG ?_;intros
 refine qz hm (fun f h1=>?_) fun h1=>?_
 ·rw [h1] at hg;rw [h0] at hg;cases hg
 ·repeat' first|refine aG ?_;intros|((first|(with_reducible refine ai hs ?_)|(with_reducible refine ai (bE.trans hs) ?_));intro wa hk;rfl)
theorem T5 {w:World} {X F:XS} {db:Nat} {m:DM} (h:Dk w F db m) (hF:FX F X w) (h0:m.get ⟨#[109,97,114,107]⟩=none):
  Ct pg 26 #[ptr db 0] w X nX fun v _ _=>v= .tuple #[.agg #[I 0,I 0,I 0,.slice none 0 0],I 8]:=by
 intro w0 hk;replace h:=h.mv (hF.mv hk);have lW:=hF.kp hk;apply T6;unfold Im;have hs:=aj.init w0;refine dH (T4 h lW h0) kQ hs.has fun w1 X1 ao=>?_;replace hs:=hs.trans ao;repeat' first|refine aG ?_;intros|refine dj ?_ ?_<;>intros|((first|(with_reducible refine ai hs ?_)|(with_reducible refine ai (bE.trans hs) ?_));intro wa hk;rfl)|(exfalso;omega)
theorem CL {κ α:Type} [DecidableEq κ] {k:κ} {a:α} : ∀{l:List (κ×α)},getM k l=none→bU k a l=l++[(k,a)]
 |[],_=>rfl
 |x::l,h=>by
  have hx: ¬x.1=k:=fun e=>by simp [getM,b8,e] at h
  have h':getM k l=none:=by simpa [getM,b8,hx] using h
  unfold bU;rw [if_neg hx,CL h'];rfl
def DM.LS (fr to:ByteArray) (m:DM):DM:=match m.get fr with
 |none=>m
 |some x=> { m with fs:=jm fr (bU to x m.fs) }
theorem lV.ren {w w':World} {F X X':XS} {db mb z:Nat} {l:List (ByteArray×jY)} {m:DM} {fr to:ByteArray} {f:jY} (h:lV w F db mb l m z) (hX: ∀k,F k→X k) (c:eo (· =mb) X w X' w') (sh:getM fr l=some f) (Lb:getM to l=none) (cn:fr≠to)
  (hm:fL w' X' nX mb Value.string HQ (jm fr (bU to f l))):lV w' F db mb (jm fr (bU to f l)) { m with fs:=jm fr (bU to f.er m.fs) } z:=by
 have mv: ∀{A:XS},(∀k,A k→F k∧k≠mb)→Mv A w F w':=fun hA k hk _=>⟨(hA k hk).1,c.block k (hX k (hA k hk).1) (hA k hk).2⟩;have Qy:=lg sh;have hl:jm fr (bU to f l)=jm fr l++[(to,f)]:=by
  rw [CL Lb];unfold jm;rw [List.filter_append];simp [Ne.symm cn]
 have lH: ∀x∈jm fr (bU to f l),x∈l∨x=(to,f):=fun x hx=>by
  rw [hl] at hx;rcases List.mem_append.1 hx with hx|hx
  ·exact .inl (List.mem_filter.1 hx).1
  ·exact .inr (List.mem_singleton.1 hx)
 have bH: ∀x∈jm fr (bU to f l),bN w F x.2.b [x.2.v,I x.2.safe] 193:=fun x hx=>by
  rcases lH x hx with hx|rfl
  ·exact h.row x hx
  ·exact h.row (fr,f) Qy
 have Aq: ∀x∈jm fr (bU to f l),Ow w F 5 1 x.2.v (x.2.bs.map U1):=fun x hx=>by
  rcases lH x hx with hx|rfl
  ·exact h.ow x hx
  ·exact h.ow (fr,f) Qy
 refine⟨?_,?_,?_,fun x hx=>?_,fun x hx=>?_,?_,h.ar,fun x hx=>?_⟩
 ·show jm fr (bU to f.er m.fs)=_
  rw [h.fs,Td jY.er,Fa jY.er]
 ·exact h.box.own.mv (mv fun k hk=>by subst hk;exact⟨h.box.1,(h.map.gi h.box).symm⟩)
 ·obtain⟨es,c',h1,h2⟩:=hm;exact⟨es,c',⟨h.map.x.1,h1.2⟩,h2⟩
 ·exact(bH x hx).own.mv (mv fun k hk=>by subst hk;exact⟨(bH x hx).1,(h.map.gi (bH x hx)).symm⟩)
 ·exact(Aq x hx).tight.mv (mv fun k hk=>⟨((Aq x hx).bm hk).1,fun e=>h.map.OC (Aq x hx) (e▸hk)⟩)
 ·rw [hl];refine List.pairwise_append.2 ⟨h.ap.filter _,by simp,fun x hx y hy=>?_⟩;rw [List.mem_singleton.1 hy];have KD:=List.mem_filter.1 hx;exact ac2 (y:=(fr,f)) AM h.ap KD.1 Qy fun e=>by rw [e] at KD;simp at KD
 ·rcases lH x hx with hx|rfl
  ·exact h.safe x hx
  ·exact h.safe (fr,f) Qy
theorem T7 {w:World} {X F:XS} {db:Nat} {m:DM} {n:ByteArray} (h:Dk w F db m) (hF:FX F X w) (h0:m.get n=none):
  Ct pg 143 #[ptr db 0,.string n] w X nX fun v _ _=>v= .tuple #[]:=by
 intro w0 hk;obtain⟨mb,l,hL,hz⟩:=h.mv (hF.mv hk);have hX:=fun k ah=>(hF.kp hk k ah).1;have fi:=hL.box.mv (Mv.sub hX);have hg:=hL.get n;have hm:=hL.map.mv jx (Mv.sub hX) (A':=nX) fun _ h=>h.elim;apply JS;unfold Ar;have hs:=aj.init w0;repeat' first|refine aG ?_;intros
 refine qz hm (fun f hn=>?_) fun hn=>?_
 ·rw [hn,h0] at hg;cases hg
 ·repeat' first|refine aG ?_;intros|((first|(with_reducible refine ai hs ?_)|(with_reducible refine ai (bE.trans hs) ?_));intro wa hk;rfl)
theorem OV {w:World} {X F:XS} {db bd bf bt:Nat} {m:DM} {fr to:ByteArray} (h:Dk w F db m) (hF:FX F X w) (hd:bN w X bd [ptr db 0] 24) (hf:bN w X bf [.string fr] 9) (ht:bN w X bt [.string to] 9)
  (hA: ¬F bd∧ ¬F bf∧ ¬F bt) (hg:(m.get fr).isSome=true) (Lb:m.get to=none) (cn:fr≠to):
  Ct pg 149 #[ptr bf 0,ptr bt 0,ptr bd 0] w X F fun v wa w'=>v= .tuple #[]∧ ∃F',(∀k,F' k→F k∨made wa w' k)∧Dk w' F' db (DM.LS fr to m):=by
 intro w0 hk;replace h:=h.mv (hF.mv hk);have hT:=hF.ft hk;replace hd:=hd.mv hk.cE;replace hf:=hf.mv hk.cE;replace ht:=ht.mv hk.cE;apply Dv;unfold uG;have hs:=aj.init w0;repeat' first|refine aG ?_;intros|refine dj ?_ ?_<;>intros|(exfalso;contradiction)
 refine dH (T7 h (hT.fx fun _ h=>h) Lb) kQ hT.s.has fun w1 X1 ao=>?_;have dq:=hT.since ao;obtain⟨mb,l,hL,hz⟩:=h.mv (ao.jQ hT.bm);replace hd:=hd.mv ao.mv;replace hf:=hf.mv ao.mv;replace ht:=ht.mv ao.mv;have fi:=hL.box.mv (Mv.sub dq.bm);have hgf:=hL.get fr;have WY:=hL.get to;have hm:=hL.map.mv jx (Mv.sub dq.bm) (A':=nX) fun _ h=>h.elim;clear hs;have hs:=dq.s;repeat' first|refine aG ?_;intros
 refine qz hm (fun f hn=>?_) fun hn=>?_
 rotate_left
 ·rw [hn] at hgf;rw [hgf] at hg;cases hg
 have hnt:getM to l=none:=by
  cases h9:getM to l with
  |none=>rfl
  |some x=>rw [h9,Lb] at WY;cases WY
 skip
 refine sU (kt:=9) (et:=191) (a:=f) hm jx rfl (fun _ h=>h.elim) (wS kQ) kQ dq.s.has fun w2 X2 c2 pf=>?_;have YM:F mb:=hL.map.x.1;have cq:Ft w0 F w2 X2 F:=dq.dK c2 (fun k ah=>by subst ah;exact YM) fun k ah=>.inl ah;have rq:=nC hd c2 fun e=>hA.1 (by have e:bd=mb:=e;rw [e];exact YM);have hf2:=nC hf c2 fun e=>hA.2.1 (by have e:bf=mb:=e;rw [e];exact YM);have aeB:=nC fi c2 fun e=>hL.map.gi hL.box (by have e:db=mb:=e;exact e.symm);clear hs hd hf fi;have hs:=cq.s;repeat' first|refine aG ?_;intros
 refine SE (kt:=9) (et:=191) pf jx (fun _ h=>h.elim) (wS kQ) kQ cq.s.has fun w3 X3 c3 Gn=>?_;have dG:Ft w0 F w3 X3 F:=cq.dK c3 (fun k ah=>by subst ah;exact YM) fun k ah=>.inl ah;have hR:=hL.ren dq.bm (c2.trans c3) hn hnt cn Gn;have zT:m.get fr=some f.er:=by rw [hgf,hn];rfl
 have afk:DM.LS fr to m= { m with fs:=jm fr (bU to f.er m.fs) } :=by unfold DM.LS;rw [zT]
 have fN:(DM.LS fr to m).sz=m.sz:=by
  rw [afk];have mf:(m.fs.map (·.1)).Nodup:=by rw [hL.fs,dN];exact hL.nodup
  have h1:=Te (f:=fun x:List Nat×Nat=>x.1.length) (a:=f.er) (show getM to m.fs=none from Lb);have h2:=abv (f:=fun x:List Nat×Nat=>x.1.length) (k:=fr) (b:=f.er) (l:=bU to f.er m.fs) (XX mf) (by rw [mq cn];exact zT)
  show rO _ (jm fr (bU to f.er m.fs))=rO _ m.fs
  omega
 exact dG.fin fun wa bD=>⟨rfl,F,fun k ah=>.inl ah,by rw [afk] at fN⊢;exact⟨mb,_,by rw [fN];exact hR.mv (bD.kf dG.bm),by rw [fN];exact hz⟩⟩
theorem Rn {w:World} {X F:XS} {db:Nat} {m:DM} {fr to:ByteArray} (h:Dk w F db m) (hF:FX F X w) (hg:(m.get fr).isSome=true) (Lb:m.get to=none) (cn:fr≠to) (hn:By to=true):
  Ct pg 106 #[ptr db 0,.string fr,.string to] w X F fun v wa w'=>v=I (m.write 0 (DM.LS fr to)).2∧ ∃F',(∀k,F' k→F k∨made wa w' k)∧Dk w' F' db (m.write 0 (DM.LS fr to)).1:=by
 intro w0 hk;replace h:=h.mv (hF.mv hk);have hT:=hF.ft hk;have lW:FX F (aR w0) w0:=hF.kp hk;clear hF;apply GV;unfold yd;refine ph rfl hT.s.has fun bd w1 X1 mS ao mG=>?_;refine ph rfl ao.has fun bf w2 X2 hbf dF hrf=>?_;refine ph rfl dF.has fun bt w2' X2' hbt YN hrt=>?_;have yu:=(ao.trans dF).trans YN;have cq:=hT.since yu;have HT:=(mG.since dF).since YN;have aip:=hrf.since YN;have h2:Dk w2' F db m:=h.mv (yu.jQ fun k ah=>(lW k ah).1);have hs:=aj.iB YN.has;repeat' first|refine aG ?_;intros
 refine ep (M6 h2 (cq.fx fun _ h=>h)) kQ hs.has ?_;rintro v wa w3 X3 rfl hle eH dZ;rw [hg,if_pos rfl];have dG:=cq.since dZ;have h3:Dk w3 F db m:=h2.mv (dZ.jQ cq.bm);have yv:=HT.since dZ;have afl:=aip.since dZ;have afm:=hrt.since dZ;have QI: ∀k,w0.heap.size≤k→ ¬F k:=fun k dV hf=>by have:=(lW k hf).2;omega
 have SU:=ao.kp.size;have K8:=dF.kp.size;clear hs;have hs:=dG.s;refine ir (fun (k:Value→World→XS→Prop)=> ∀w4 X4,aj X3 w3 X4 w4→k (I 0) w4 X4) ?_ ?_
 ·intro w4 X4 j6;have fk:=dG.since j6;have h4:Dk w4 F db m:=h3.mv (j6.jQ dG.bm);have YO:=yv.since j6;have YP:=afl.since j6;have YQ:=afm.since j6;clear hs yv afl afm;have hs:=fk.s;repeat' first|refine aG ?_;intros
  refine fk.call (BC (e:=0) (A:=fun k=>k=bf∨k=bt∨k=bd) (g:=DM.LS fr to) h4 (fk.fx fun _ h=>h) (fun k ah=>?_) kQ ?_) kQ (fun _ h=>h) fun v KI w5 X5 hq E8 Di fU hc5=>?_
  ·rcases ah with rfl|rfl|rfl
   ·exact⟨YP.1,YP.lt,QI _ zQ⟩
   ·exact⟨YQ.1,YQ.lt,QI _ zQ⟩
   ·exact⟨YO.1,YO.lt,QI _ zQ⟩
  ·intro _ w5 X5 Gl Gm HU h5;refine OV h5 HU ⟨Gm _ (.inr (.inr rfl)),?_⟩ ⟨Gm _ (.inl rfl),?_⟩ ⟨Gm _ (.inr (.inl rfl)),?_⟩ ⟨QI _ zQ,QI _ zQ,QI _ zQ⟩ (by rw [m.yt];exact hg) (by rw [m.yt];exact Lb) cn
   ·rw [(Gl bd (.inr (.inr rfl)) (YO.lt)).2];exact YO.2
   ·rw [(Gl bf (.inl rfl) (YP.lt)).2];exact YP.2
   ·rw [(Gl bt (.inr (.inl rfl)) (YQ.lt)).2];exact YQ.2
  ·obtain⟨rfl,F',ux,hD⟩:=hq;clear hs;have hs:=fU.s
   skip
   refine fU.fin fun P9 bD=>⟨rfl,F',fU.oT bD ux,hD.mv (bD.kf fun k ah=>fU.bm k (ux k ah))⟩
 ·intro K hK;clear hs;have hs:=aj.iB dZ.has;repeat' first|refine bQ ?_;intros|with_reducible apply dJ|((with_reducible refine dI (KM _) ?_ hs.has ?_ ?_);(· kernel_rfl);all_goals (intro _ w X ao;replace hs:=hs.trans ao))
  all_goals first|exact hK _ _ hs|(exfalso;simp_all)
theorem DM.xt {m:DM} {f:DM→DM} (hd:m.dn=false) (ha:m.ar=0):m.write 0 f=(f m.tick,0)∧m.tick.dn=false∧m.tick.ar=0:=by
 have h1:m.tick.dn=false∧m.tick.ar=0:=by unfold DM.tick;rw [if_neg zQ];exact⟨hd,by show m.ar-1=0;omega⟩
 refine⟨?_,h1⟩;unfold DM.write;rw [hd,h1.1];simp
theorem T8 {w:World} {X F S:XS} {db:Nat} {s:aO} {vt:Value} {tl:List (Int×Int)} (h:Dk w F db ⟨[],0,0,false⟩) (hF:FX F X w) (ht:Sl w S 2 vt (tl.map sZ)) (hS: ∀k,S k→X k∧ ¬F k) (hl:tl.length≤2^10) (mH:BV 0 tl=true∧s.may=true):
  Ct pg 55 #[ptr db 0,.agg #[I s.wall,I s.dv,I s.node,vt]] w X F fun v wa w'=>v=I 0:=by
 intro w0 hk;replace h:=h.mv (hF.mv hk);have hT:=hF.ft hk;have Xa:Sl w0 (out F w0) 2 vt (tl.map sZ):=ht.mv fun k ah jE=>⟨⟨aN jE hk.size,(hS k ah).2⟩,hk.block k (hS k ah).1⟩;have ov:=Xa.one;obtain⟨b1,n1,c1,rfl⟩:=Xa.form;obtain⟨fresh,zj⟩: ∃s:ByteArray,s=⟨#[109,97,114,107,46,110,101,119]⟩:=⟨_,rfl⟩;obtain⟨name,NB⟩: ∃s:ByteArray,s=⟨#[109,97,114,107]⟩:=⟨_,rfl⟩;have hfn:fresh≠name:=by rw [zj,NB];decide
 have SR:By fresh=true:=by rw [zj];decide
 have hnn:By name=true:=by rw [NB];decide
 apply T9;unfold Io;rw [←zj,←NB];have hs:=aj.init w0;refine dH (KO h (hT.fx fun _ h=>h)) kQ hT.s.has fun w1 X1 ao=>?_;have dq:=hT.since ao;have h1:=h.mv (ao.jQ hT.bm);clear hs;have hs:=dq.s;repeat' first|refine aG ?_;intros
 refine dH (YJ (Xa.mv dq.s.mv) mH) kQ dq.s.has fun w2 X2 dF=>?_;have cq:=dq.since dF;have h2:=h1.mv (dF.jQ dq.bm);clear hs;have hs:=cq.s;repeat' first|refine aG ?_;intros
 refine ir (fun (k:World→XS→Prop)=> ∀w X,aj X2 w2 X w→k w X) ?_ ?_
 rotate_left
 ·intro K hK;refine ep (VR h2 (cq.fx fun _ h=>h) (by simp) (by simp)) kQ cq.s.has ?_;rintro v wa w3 X3 ho hle eH dZ;have e0:yM ((⟨[],0,0,false⟩:DM).fs.map (·.1))=[]:=by simp [yM]
  rw [e0] at ho;refine dH (BW (k:=fresh) (ho.mono eH).sl) kQ dZ.has fun w4 X4 j6=>?_;repeat' first|refine aG ?_;intros|refine dj ?_ ?_<;>intros
  all_goals first|exact hK _ _ (dZ.trans j6)|(exfalso;simp_all)
 ·intro w3 X3 dZ;have dG:=cq.since dZ;have h3:=h2.mv (dZ.jQ cq.bm);clear hs h h1 h2;have hcr:DM.create ⟨[],0,0,false⟩ fresh=((⟨[],0,0,false⟩:DM).tick.put fresh [] 0,0):=by
   unfold DM.create;rw [if_neg (by simp [SR]),if_neg (by simp [DM.get,getM]),if_neg (by simp)];exact(DM.xt rfl rfl).1
  obtain⟨m1,sd⟩: ∃m1,m1=(⟨[],0,0,false⟩:DM).tick.put fresh [] 0:=⟨_,rfl⟩;have Ua:m1.dn=false∧m1.ar=0:=by rw [sd];exact⟨(DM.xt (m:=⟨[],0,0,false⟩) (f:=id) rfl rfl).2.1,(DM.xt (m:=⟨[],0,0,false⟩) (f:=id) rfl rfl).2.2⟩
  have Bp:m1.get fresh=some ([],0):=by rw [sd];exact lJ
  have aiq:m1.get name=none:=by
   rw [sd]
   show getM name (bU fresh ([],0) (DM.tick ⟨[],0,0,false⟩).fs)=none
   rw [mq (Ne.symm hfn),DM.A4];rfl
  have SU:m1.sz=0:=by
   rw [sd,DM.WK (by unfold DM.get;rw [DM.A4];rfl),DM.WJ];rfl
  refine dG.call (Rb (n:=fresh) h3 (dG.fx fun _ h=>h)) kQ (fun _ h=>h) ?_;rintro _ KI w4 X4 ⟨rfl,F4,KR,h4⟩ E8 Di fk c4;rw [hcr,←sd] at h4⊢;replace fk:=fk.less KR;have hs:=fk.s;repeat' first|refine bQ ?_;intros
  refine ep (Rm (Xa.mv fk.s.mv) zQ) kQ fk.s.has ?_;rintro v5 wa5 w5 X5 ⟨bs,P4,hb5⟩ SV SX Gh;have fU:=fk.since Gh;have h5:=h4.mv (Gh.jQ fk.bm);refine ep (Re (P4.mono SX).sl) kQ fU.s.has ?_;rintro v6 Qd w6 X6 K5 HX LA wO;rw [if_neg zQ] at K5;obtain⟨vb,rfl,uF⟩:=K5;have gU:=fU.since wO;have h6:=h5.mv (wO.jQ fU.bm);clear hs;have hs:=gU.s;have fF:=Yb bs;have QI: ∀k,made Qd w6 k→ ¬F4 k:=fun k ah hf=>by
   have h1:=fU.s.has k (fU.bm k hf);have h2:=ah.1;omega
  repeat' first|refine aG ?_;intros
  have Hl:m1.append fresh (rz bs)=(m1.tick.put fresh (rz bs) 0,0):=by
   unfold DM.append;rw [Ua.1,Bp,(DM.xt (f:=id) Ua.1 Ua.2).2.1];simp only [Bool.false_eq_true,if_false,eB];rw [if_neg zQ]
  refine gU.call (Ra (n:=fresh) (S:=made Qd w6) h6 (gU.fx fun _ h=>h) uF.sl (fun k ah=>⟨LA k ah,QI k ah⟩) zQ) kQ (fun _ h=>h) ?_;rintro _ wa7 w7 X7 ⟨rfl,F7,KS,h7⟩ afn Ub nv c7;rw [Hl] at h7⊢;replace nv:=nv.less KS;obtain⟨m2,pf⟩: ∃m2,m2=m1.tick.put fresh (rz bs) 0:=⟨_,rfl⟩;have rq:m2.dn=false∧m2.ar=0:=by rw [pf];exact(DM.xt (f:=id) Ua.1 Ua.2).2
  have Qe:m2.get fresh=some (rz bs,0):=by rw [pf];exact lJ
  have air:m2.get name=none:=by
   rw [pf]
   show getM name (bU fresh (rz bs,0) m1.tick.fs)=none
   rw [mq (Ne.symm hfn),DM.A4];exact aiq
  rw [←pf] at h7;clear hs;have hs:=nv.s;repeat' first|refine bQ ?_;intros
  have hsy:m2.sync fresh=(m2.tick.put fresh (rz bs) (rz bs).length,0):=by
   unfold DM.sync;rw [Qe,Option.isSome_some,if_pos rfl,(DM.xt rq.1 rq.2).1];unfold DM.CF;rw [DM.yt,Qe]
  refine nv.call (VM (n:=fresh) h7 (nv.fx fun _ h=>h)) kQ (fun _ h=>h) ?_;rintro _ wa8 w8 X8 ⟨rfl,F8,W9,h8⟩ YA ae8 s4 c8;rw [hsy] at h8⊢;replace s4:=s4.less W9;clear hs;have hs:=s4.s;repeat' first|refine bQ ?_;intros
  refine s4.call (Rn (fr:=fresh) (to:=name) h8 (s4.fx fun _ h=>h) (by
    show(getM fresh (bU fresh _ m2.tick.fs)).isSome=true
    rw [lJ];rfl) (by
    show getM name (bU fresh _ m2.tick.fs)=none
    rw [mq (Ne.symm hfn),DM.A4];exact air) hfn hnn) kQ (fun _ h=>h) ?_
  rintro _ P9 w9 X9 ⟨rfl,F9,BX,h9⟩ ais ait zz c9;rw [(DM.xt (m:=m2.tick.put fresh (rz bs) (rz bs).length) (DM.xt (f:=id) rq.1 rq.2).2.1 (DM.xt (f:=id) rq.1 rq.2).2.2).1];clear hs;have hs:=zz.s
  skip
  exact zz.fin fun wa bD=>rfl
def sB (n:Nat):List (Int×Int):=(dg n).map fun i:Nat=>((i:Int)+1,1)
def NC (n:Nat):List (Int×iC×mm):=(dg n).map fun i:Nat=>((i:Int)+1,⟨(i:Int)+1,1,.zero⟩,[])
def Ip (n:Nat):List (Int×aO):=(dg n).map fun i:Nat=>((i:Int)+1,.zero)
theorem YR (n:Nat):sB (n+1)=sB n++[((n:Int)+1,1)]:=by simp [sB,rV]
theorem Lc {α:Type} {f:Nat→α} {n:Nat} :getM ((n:Int)+1) ((dg n).map fun i:Nat=>((i:Int)+1,f i))=none:=by
 rw [getM_none];intro h;obtain⟨x,hx,e⟩:=List.mem_map.1 h;obtain⟨i,hi,rfl⟩:=List.mem_map.1 hx;have:=List.mem_range.1 hi;have e:(i:Int)+1=(n:Int)+1:=e;omega
theorem Ld (n:Nat):getM ((n:Int)+1) (NC n)=none:=Lc (f:=fun i:Nat=>((⟨(i:Int)+1,1,.zero⟩:iC),([]:mm)))
structure YS (db:Nat) (room:Int) (R n:Nat) (st:dM):Prop where
 db:st.db=db
 room:st.room=room
 tl:st.tl=sB R
 bA:st.bA= .zero
 told:st.told=false
 seen:st.seen= .zero
 q:st.q=[]
 hl:st.hl=[]
 holds:st.holds=[]
 b7:iJ st.b7=NC n
 fs:st.fs=Ip n
theorem Le {w:World} {X F:XS} {db:Nat} {m:DM} {ranges room:Int} (h:Dk w F db m) (hF:FX F X w) (jP:m.dn=false) (h0:m.get ⟨#[109,97,114,107]⟩=none):
  Ct pg 7 #[ptr db 0,I ranges,I room] w X nX fun v wa w'=>
   (v= .tuple #[.pointer none,I 1]∧ ¬(1≤ranges∧ranges≤12∧1≤room∧room≤64))∨ ∃nb own st,1≤ranges∧ranges≤12∧v= .tuple #[ptr nb 0,I 0]∧(∀k,own k≠0→made wa w' k)∧cC w' own nb st∧fD 12 st∧YS db room ranges.toNat ranges.toNat st:=by
 intro w0 hk;replace h:=h.mv (hF.mv hk);have lW:=hF.kp hk;have hT:Ft w0 nX w0 (aR w0) nX:=Ft.init fun k ah=>ah.elim;apply Uc;unfold Iq;have hs:=aj.init w0;by_cases hr:ranges<1∨12<ranges
 ·repeat' first|refine bQ ?_;intros|refine dj ?_ ?_<;>intros
  all_goals exact ai hs fun wa bD=>.inl ⟨rfl,by omega⟩
 repeat' first|refine bQ ?_;intros
 refine dH (KO h lW) kQ hs.has fun w1 X1 ao=>?_;replace hs:=hs.trans ao;rw [jP];repeat' first|refine aG ?_;intros
 refine ep (KZ (room:=room) (high:=.zero)) kQ hs.has ?_;rintro v wa w2 X2 hq hle eH dF;replace hs:=hs.trans dF;by_cases kS:room<1∨64<room
 ·rw [if_pos kS] at hq;subst hq;repeat' first|refine bQ ?_;intros
  all_goals exact ai hs fun wa bD=>.inl ⟨rfl,by omega⟩
 rw [if_neg kS,if_neg (by decide)] at hq;obtain⟨mb0,sb0,fb0,rfl,_⟩:=hq;repeat' first|refine bQ ?_;intros
 refine dH (T5 (h.mv (hs.jQ fun k ah=>(lW k ah).1)) (fun k ah=>⟨hs.sub k (lW k ah).1,aN (lW k ah).2 hs.kp.size⟩) h0) kQ hs.has fun w3 X3 dZ=>?_;replace hs:=hs.trans dZ;clear ao dF dZ eH;obtain⟨R,hR⟩: ∃R:Nat,ranges=(R:Int):=⟨ranges.toNat,by omega⟩;have hRt:ranges.toNat=R:=by omega
 rw [hRt];repeat' first|refine aG ?_;intros
 refine ir (fun (k:Value→World→XS→Prop)=> ∀w X vt,aj (aR w0) w0 X w→Own w X w0.heap.size 89 2 vt ((sB R).map sZ)→k (.agg #[I 0,I 0,I 0,vt]) w X) ?_ ?_
 ·intro w4 X4 vt j6 vK;clear hs;have hs:=j6;have ovt:=vK.sl.one;have aez:=j6.kp.size;repeat' first|refine aG ?_;intros
  refine sP (α:=fX) (kv:=fun z:Int=>I z) TL nX hs.has fun kT w5 X5 QE Gh Gl=>?_;replace hs:=hs.trans Gh;have ajH:=Gh.kp.size;repeat' first|refine aG ?_;intros|(with_reducible apply nI);(case hX=>exact hs.has);intro bx w X fi ao bH;have bE:=hs.trans ao;replace hs:=aj.iB ao.has
  have YT:=(vK.mv Gh.mv).mv ao.mv;have hmw:=Gl.mv BQ ao.mv (A':=nX) fun _ h=>h.elim;have afo:=fun k ah=>(vK.ge (g:=k) ah).2;have ajI:=Gl.x.2;have ajJ:=ao.kp.size;refine ep (KZ (room:=room) (high:=.zero)) kQ hs.has ?_;rintro v wa w7 X7 hq afn Ub wP;rw [if_neg kS,if_neg (by decide)] at hq;obtain⟨mb,sb,fb,rfl,hM⟩:=hq;have aiu:=bE.trans wP;have Jo:=bH.mv wP.mv;have hbw:=bH.lt;clear hs bH;have hs:=aj.iB wP.has;repeat' first|refine aG ?_;intros
  refine AN (o:=5) Jo zQ kQ (by simp) rfl wP.has fun w8 X8 c8 hr8=>?_
  classical
  obtain⟨own,lN⟩: ∃own:Nat→Nat,own=fun k=>if k=bx then 1 else if made wa w7 k then 2 else if k=kT then 5 else if vt.ownBlock=some k then 6 else 0:=⟨_,rfl⟩
  have Bm:w5.heap.size≤bx:=fi;have ob:own bx=1:=by rw [lN];simp
  have om: ∀k,made wa w7 k→own k=2:=fun k ah=>by rw [lN];have:=ah.1;simp [show¬k=bx by omega,ah]
  have ot:own kT=5:=by rw [lN];simp [show¬kT=bx by omega,show¬made wa w7 kT from fun h9=>by have:=h9.1;omega]
  have ov: ∀k,vt.ownBlock=some k→own k=6:=fun k ah=>by
   have:=afo k ah;rw [lN];simp [show¬k=bx by omega,show¬made wa w7 k from fun h9=>by have:=h9.1;omega,show¬k=kT by omega,ah]
  have qb: ∀k,own k≠0→X8 k∧w0.heap.size≤k:=fun k ah=>by
   rw [lN] at ah;by_cases k1:k=bx
   ·rw [k1];exact⟨hr8.1,by omega⟩
   ·by_cases k2:made wa w7 k
    ·exact⟨c8.sub k (Ub k k2),by have:=k2.1;omega⟩
    ·by_cases k3:k=kT
     ·rw [k3];exact⟨c8.sub _ (wP.sub _ hmw.x.1),by omega⟩
     ·by_cases k4:vt.ownBlock=some k
      ·exact⟨c8.sub _ (wP.sub _ (YT.2.2 k k4)),(vK.ge k4).1⟩
      ·simp [k1,k2,k3,k4] at ah
  have KH:aj (aR w0) w0 X8 w8:=aiu.dK c8 fun k ah e=>by
   have e:k=bx:=e;have ah:k<w0.heap.size:=ah;omega
  have s4:Ft w0 nX w8 X8 (all own):=⟨KH.less fun k ah=>ah.1,fun k ah=>(qb k ah).1,fun k ah=>.inr (qb k ah).2⟩;have TU: ∀{A:XS} {q:Nat},(∀k,A k→X7 k∧k≠bx∧own k=q)→Mv A w7 (ik own q) w8:=fun hA k ah _=>⟨(hA k ah).2.2,c8.block k (hA k ah).1 (hA k ah).2.1⟩;obtain⟨Ud,YU⟩: ∃Ud:dM,Ud=⟨sB R,.zero,room,.zero,[],[],[],.zero,false,[],[],.zero,db,vt,mb,sb,fb,kT,.slice none 0 0,.slice none 0 0,.slice none 0 0⟩:=⟨_,rfl⟩;have hN8:cC w8 own bx Ud:=by
   rw [YU];refine⟨⟨ob,hr8.2⟩,hM.mv (TU fun k ah=>⟨Ub k ah,by have:=ah.1;omega,om k ah⟩),ef.nil _ _ _,Own.nil _ _ _ _ _,⟨?_,by simp,by simp,by simp⟩,?_⟩
   ·exact((hmw.mv BQ wP.mv (A':=nX) fun _ h=>h.elim).own).mv BQ (TU fun k ah=>by subst ah;exact⟨wP.sub _ hmw.x.1,by omega,ot⟩) fun _ h=>h.elim
   ·have h9:Own w7 (dP vt) w0.heap.size 89 2 vt ((sB R).map sZ):=⟨(YT.mv wP.mv).1,(YT.mv wP.mv).2.1,fun g hg=>hg⟩;exact(h9.mv (TU fun k ah=>⟨wP.sub _ (YT.2.2 k ah),by have:=afo k ah;omega,ov k ah⟩)).sl
  have ajK:1≤R∧R≤12:=by omega
  have hI0:fD 0 Ud:=by
   rw [YU];refine⟨by show 1≤room∧room≤64;omega,by simp,by simp,by simp,fun r=>rfl,by simp,rS.nil _,by simp,by simp,yz.nil _ _,by simp,by simp,fun c hc=>?_⟩;obtain⟨i,_,rfl⟩:=List.mem_map.1 hc
   show(1:Int)≤1∧(1:Int)≤100000000;omega
  have ab4:YS db room R 0 Ud:=by rw [YU];exact⟨rfl,rfl,rfl,rfl,rfl,rfl,rfl,rfl,rfl,rfl,rfl⟩
  have ab5:Ud.Ih=vt:=by rw [YU]
  clear hs Jo hr8;have hs:=s4.s;have YV:=hN8.tS.mv (Mv.sub fun k ah=>s4.bm k (cJ (p:=6) (by decide) k ah));rw [ab5,ab4.tl] at YV;have o9:(sB R).length=R:=by simp [sB]
  repeat' first|refine aG ?_;intros
  refine eA (fun n a w X=> ∃(j:Nat) (mA:Nat→Nat) (st1:dM),a=I j∧n=R-j∧j≤R∧Ft w0 nX w X (all mA)∧cC w mA bx st1∧fD j st1∧YS db room R j st1∧st1.Ih=vt) R ⟨0,own,Ud,rfl,rfl,aL _,s4,hN8,hI0,ab4,ab5⟩ ?_;clear hs YV s4 hN8 hI0 ab4 ab5;rintro n a w9 X9 ⟨j,mA,st1,rfl,rfl,hj,zz,hN9,hI9,BX,afp⟩;have hs:=zz.s;have YV:=hN9.tS.mv (Mv.sub fun k ah=>zz.bm k (cJ (p:=6) (by decide) k ah));rw [afp,BX.tl] at YV;by_cases cI:j<R
  ·have hx:(sB R)[j]? =some ((j:Int)+1,1):=by simp [sB,cI]
   repeat' first|refine bQ ?_;intros
   have RR:getM ((j:Int)+1) st1.b7=none:=by
    have h9:=nS ((j:Int)+1) st1.b7;rw [BX.b7,Ld j] at h9;cases fR:getM ((j:Int)+1) st1.b7 with
    |none=>rfl
    |some y=>rw [fR] at h9;cases h9
   refine zz.call (K0 (id:=(j:Int)+1) (next:=1) (gb:=.zero) hN9 hI9 (zz.fx fun k h=>h) zQ zQ RR (by decide)) kQ (fun k h=>h) ?_;rintro _ zr w10 X10 ⟨rfl,Fp,x2,K4,aiv,aiw,wD,KD⟩ aje ajf YW c10;replace YW:=YW.less K4;clear hs;have hs:=YW.s;repeat' first|refine aG ?_;intros
   refine en (R-(j+1)) zQ ⟨j+1,Fp,_,by simp,rfl,by omega,YW,aiv,aiw,⟨BX.db,BX.room,BX.tl,BX.bA,BX.told,BX.seen,BX.q,BX.hl,BX.holds,?_,?_⟩,afp⟩
   ·rw [Fo,BX.b7,wD,KD,CL (Ld j)];simp [NC,rV]
   ·show bU ((j:Int)+1) aO.zero st1.fs=_
    rw [BX.fs,CL (show getM ((j:Int)+1) (Ip j)=none from Lc (f:=fun i=>aO.zero))];simp [Ip,rV]
  ·have hjR:j=R:=by omega
   subst hjR;repeat' first|refine bQ ?_;intros
   refine zz.fin fun wa bD=>.inr ⟨bx,mA,st1,by omega,by omega,rfl,fun k ah=>?_,hN9.kp bD zz.bm,hI9.up zQ,BX⟩;rcases zz.v k ah with h9|h9
   ·exact h9.elim
   ·exact⟨h9,aN (zz.s.has k (zz.bm k ah)) bD.size⟩
 ·intro K hK;repeat' first|refine bQ ?_;intros
  refine fT (fun n a b w X=> ∃(j:Nat) (vt:Value),a=I j∧b= .agg #[I 0,I 0,I 0,vt]∧n=R-j∧j≤R∧aj (aR w0) w0 X w∧Own w X w0.heap.size 89 2 vt ((sB j).map sZ)) R ⟨0,_,rfl,rfl,rfl,aL _,hs,Own.nil _ _ _ _ _⟩ ?_;clear hs;rintro n a b w X ⟨j,vt,rfl,rfl,rfl,hj,hs,vK⟩;have ovt:=vK.sl.one;have fN:=hs.kp.size;have o9:(sB j).length=j:=by simp [sB]
  rw [hR];repeat' first|refine aG ?_;intros|refine dj ?_ ?_<;>intros|(with_reducible apply wX);(case hX=>exact hs.has);(case he=>kernel_rfl);(case hk=>rfl);intro acc w X ao ho;obtain⟨_,_,_,rfl⟩:=ho.sl.form;replace hs:=hs.trans ao
  rotate_left
  ·have hjR:j=R:=by omega
   subst hjR;exact hK _ _ vt hs vK
  have afq:=vK.mv ao.mv;refine rG (dw:=[sZ ((j:Int)+1,1)]) afq hs.has (af fN ao.kp.size) kQ ho.sl (by simp [bB.one]) (by simp only [aA,bF];omega) (by simp only [aA,bF];omega) fun v5 w5 X5 c5 P4 ajL=>?_;have Gh:=hs.dK c5 fun k ah hb=>by
   have h1:=(afq.ge hb).1;have ah:k<w0.heap.size:=ah;omega
  have o5:=P4.sl.one;clear hs;have hs:=Gh;repeat' first|refine aG ?_;intros
  exact eR (R-(j+1)) zQ ⟨j+1,v5,by simp,rfl,rfl,by omega,hs,by rw [YR,bp];exact P4⟩
def BY (p:List (Int×iC×mm)) (r:Int):Int:=match getM r p with
 |none=>0
 |some y=>Jc y.1.next y.2
def pW (p:List (Int×iC×mm)):List (Int×Int):=(ig (p.map (·.1))).map fun r=>(r,BY p r)
theorem VZ {w:World} {X Fd:XS} {own:Nat→Nat} {nb b:Nat} {st:dM} (h:cC w own nb st) (i:fD b st) (hb:b≤2^10) (hD:Dk w Fd st.db ⟨[],0,0,false⟩) (hF:FX (fun k=>all own k∨Fd k) X w) (aix: ∀k,Fd k→own k=0)
  (hho:st.holds=[]) (mH:BV 0 (pW (iJ st.b7))=true∧st.bA.may=true):
  Ct pg 23 #[ptr nb 0] w X (fun k=>all own k∨Fd k) fun v wa w'=>v=I 0∧ ∃dC Ih,Gr own dC wa w'∧cC w' dC nb { st with tl:=pW (iJ st.b7),mh:=st.bA,Ih:=Ih } :=by
 intro w0 hk;have hT:=hF.ft hk;replace h:=h.kp hk fun k ah=>(hF k (.inl ah)).1;replace hD:=hD.mv fun k ah _=>⟨ah,hk.block k (hF k (.inr ah)).1⟩;have hX0: ∀k,all own k→aR w0 k:=fun k ah=>hT.bm k (.inl ah);have bH:=h.row.mv Mv.aR;have Ee:=h.lX.mv Mv.aR;have hH0:Own w0 (aR w0) 0 102 5 st.ov (st.holds.map fQ.l):=h.nz.mv Mv.aR;have oo:=hH0.sl.one;have om:=h.tS.one;have hlen:st.b7.length≤b:=by
  have h9:=(i.YH h).length_eq;simp only [aA] at h9;have:=i.BS;omega
 have hkr: ∀x∈st.b7,1≤x.1∧x.1≤12:=fun x hx=>by
  have h9:=i.keys x.1;have hg:getM x.1 st.b7=some x.2:=nk Ee.map.nodup hx;rw [hg] at h9;cases fR:getM x.1 st.fs with
  |none=>rw [fR] at h9;cases h9
  |some a=>exact i.gH _ (kU fR)
 apply JU;unfold As;have hs:=aj.init w0;repeat' first|refine aG ?_;intros
 refine ep Xd kQ hs.has ?_;rintro _ wa w1 X1 ⟨bx,rfl,fi⟩ hle eH ao;have dq:=Ee.mv ao.mv;refine ep (QH dq.map (fi.mono eH) (fun x hx=>by have:=hkr x hx;omega) zQ) kQ ao.has ?_;rintro kv zr w2 X2 CJ oU lx dF;have BU:=CJ.up (lo:=w0.heap.size) lx (af (af hs.kp.size ao.kp.size) oU);have BG:=BU.sl;replace hs:=(hs.trans ao).trans dF;have xa:(iJ st.b7).map (·.1)=st.b7.map (·.1):=by unfold iJ;rw [dN];rfl
 have oR:(ig (st.b7.map (·.1))).length≤b:=by rw [(l7 _).length_eq,aA];exact hlen
 have gY: ∀r∈ig (st.b7.map (·.1)),∃x,getM r st.b7=some x:=fun r hr=>by
  obtain⟨x,hx,rfl⟩:=List.mem_map.1 ((l7 _).mem_iff.1 hr);exact⟨x.2,nk Ee.map.nodup hx⟩
 refine xf BG kQ ?_;have hmT:pW (iJ st.b7)=(ig (st.b7.map (·.1))).map fun r=>(r,BY (iJ st.b7) r):=by unfold pW;rw [xa]
 generalize hsr:ig (st.b7.map (·.1))=rs at BU oR gY hmT;refine afr (fun n a bv _ _ w X=> ∃(j:Nat) (vt:Value),a=I j∧bv= .agg #[I st.bA.wall,I st.bA.dv,I st.bA.node,vt]∧n=rs.length-j∧j≤rs.length∧aj (aR w0) w0 X w∧Own w X w0.heap.size 3 1 kv (rs.map I1)∧
  Own w X w0.heap.size 89 2 vt (((rs.take j).map fun r=>(r,BY (iJ st.b7) r)).map sZ)) rs.length ⟨0,_,rfl,rfl,rfl,aL _,hs,BU,Own.nil _ _ _ _ _⟩ ?_
 clear hs ao dF dq fi CJ eH lx BU BG;rintro n a bv z1 z2 w X ⟨j,vt,rfl,rfl,rfl,hj,hs,BU,vK⟩;have Wy:=BU.sl;have ovt:=vK.sl.one;have jq:=bH.mv hs.mv;have dq:=Ee.mv hs.mv;rcases dX rs j with⟨cI,r,hx,hd⟩|⟨dV,hd⟩
 ·obtain⟨x,hg⟩:=gY r (aH hx);have gN:rs.take (j+1)=rs.take j++[r]:=by rw [bg,hx];rfl
  have agS:BY (iJ st.b7) r=Jc x.s.next (cont x.m):=by unfold BY;rw [nS,hg];rfl
  repeat' first|refine bQ ?_;intros
  refine np (kt:=3) (et:=111) (.pointer none) dq.map iS kQ kQ (fun vx x' gA hv=>?_) (fun gA=>absurd (hg.symm.trans gA) (by simp));have hv:vx=ptr x'.tb 0:=hv;subst hv;have hxx:x'=x:=Option.some.inj (gA.symm.trans hg);subst hxx;refine dH (Vy (dq.tl _ (kU hg)).1 hs.has) kQ hs.has fun w3 X3 dZ=>?_;rw [VA];have afs:=BU.mv dZ.mv;have Ir:=vK.mv dZ.mv;replace hs:=hs.trans dZ;have iq:=bH.mv hs.mv;have Qu:=(hH0.mv hs.mv).sl;rw [hho] at Qu;clear jq dZ dq;have fN:=hs.kp.size;repeat' first|refine aG ?_;intros
  refine fT (fun n a bv w X=>a=I 0∧bv=I (Jc x'.s.next (cont x'.m))∧n=0∧aj (aR w0) w0 X w∧Own w X w0.heap.size 3 1 kv (rs.map I1)∧Own w X w0.heap.size 89 2 vt (((rs.take j).map fun r=>(r,BY (iJ st.b7) r)).map sZ)) 0
   ⟨rfl,rfl,rfl,hs,afs,Ir⟩ ?_
  clear hs afs Ir iq Qu fN;rintro n a bv w4 X4 ⟨rfl,rfl,rfl,hs,YI,aiy⟩;have fN:=hs.kp.size;have hz0:(([]:List fQ).length:Int)=0:=rfl;repeat' first|refine bQ ?_;intros|(with_reducible apply wX);(case hX=>exact hs.has);(case he=>kernel_rfl);(case hk=>rfl);intro acc w X ao ho;obtain⟨_,_,_,rfl⟩:=ho.sl.form;replace hs:=hs.trans ao
  have aft:=YI.mv ao.mv;have ab6:=aiy.mv ao.mv;refine rG (dw:=[sZ (r,Jc x'.s.next (cont x'.m))]) ab6 hs.has (af fN ao.kp.size) kQ ho.sl (by simp [bB.one]) (by simp only [aA,bF,aX];omega) (by simp only [aA,bF,aX];omega) fun v6 w6 X6 c6 uF Yz=>?_;have wO:=hs.dK c6 fun k ah hb=>by
   have h1:=(ab6.ge hb).1;have ah:k<w0.heap.size:=ah;omega
  have ab3:=aft.dK c6 fun g hg hb=>jI aft ab6 (by decide) hg hb;have o6:=uF.sl.one;clear hs;have hs:=wO;repeat' first|refine aG ?_;intros
  exact afu (rs.length-(j+1)) zQ ⟨j+1,v6,by simp,rfl,rfl,by omega,hs,ab3,by rw [gN,bp,bp,List.map_singleton,agS];exact uF⟩
 ·have hmj:((rs.take j).map fun r=>(r,BY (iJ st.b7) r))=pW (iJ st.b7):=by rw [List.take_of_length_le dV,hmT]
  rw [hmj] at vK;obtain⟨z3,z4,z5,rfl⟩:=vK.sl.form;have cq:=hT.since hs;have h2:=h.since hs hX0;have hD2:=hD.mv (hs.jQ fun k ah=>hT.bm k (.inr ah));clear hs;have hs:=cq.s;have WC:(pW (iJ st.b7)).length≤2^10:=by rw [hmT,aA];omega
  have hvF: ∀k,(w0.heap.size≤k∧k<w.heap.size)→X k→X k:=fun _ _ h=>h;have hvS:Sl w (fun k=>X k∧w0.heap.size≤k) 2 (.slice z3 z4 z5) ((pW (iJ st.b7)).map sZ):=by
   have h9:Own w (fun k=>X k∧w0.heap.size≤k) w0.heap.size 89 2 (.slice z3 z4 z5) ((pW (iJ st.b7)).map sZ):=⟨vK.1,vK.2.1,fun g hg=>⟨vK.2.2 g hg,(vK.ge hg).1⟩⟩;exact h9.sl
  have hd0: ∀k,Fd k→k<w0.heap.size:=fun k ah=>hT.bm k (.inr ah);repeat' first|refine bQ ?_;intros
  refine cq.call (T8 (s:=st.bA) hD2 (cq.fx fun k h=>.inr h) hvS (fun k ah=>⟨ah.1,fun hf=>by have:=hd0 k hf;omega⟩) WC mH) kQ (fun k h=>.inr h) ?_;rintro _ Ad w3 X3 rfl wT rP dG c3;replace dG:=dG.less fun k ah=>.inl ah;have h3:cC w3 own nb st:=h2.mv fun q h0=>ae7 c3 (fun k ah=>cq.bm k (.inl ah)) aix q h0;have Ir:Own w3 X3 w0.heap.size 89 2 (.slice z3 z4 z5) ((pW (iJ st.b7)).map sZ):=vK.dK c3 fun g hg hf=>by
   have:=(vK.ge hg).1;have:=hd0 g hf;omega
  have iq:=h3.row.mv (Mv.sub fun k ah=>dG.bm k (.inl (cJ (p:=1) (by decide) k ah)));clear hs jq;have hs:=dG.s;repeat' first|refine bQ ?_;intros|with_reducible apply dJ
  refine Je (o:=1) iq zQ kQ (by simp) rfl rfl dG.s.has fun w4 X4 c4 Qf=>?_;have hvz: ∀k,(Value.slice z3 z4 z5).ownBlock=some k→own k=0:=fun k ah=>by
   rcases du (own k)with h9|h9
   ·exact h9
   ·have fR:k<w0.heap.size:=hX0 k (show own k≠0 by omega);have:=(vK.ge ah).1;omega
  obtain⟨dC,q1,q2,q3,q4,q5⟩:=LM (own:=own) (p:=6) (F':=dP (.slice z3 z4 z5)) (by decide) (eo.qW (aj.iB dG.s.has) nX) (fun k ah=>dG.bm k (.inl ah)) (fun k ah=>ah.elim) fun k ah=>.inr (.inl (hvz k ah));have afv:=h3.row.mv (q2 1 (by decide) (by decide));have yB:Ft w0 (fun k=>all own k∨Fd k) w3 X3 (all dC):=dG.more fun k ah=>by
   rcases q3 k ah with h9|h9
   ·exact .inl (.inl h9)
   ·exact .inr ⟨Ir.2.2 k h9,(Ir.ge h9).1⟩
  have h9:Own w3 (ik dC 6) w0.heap.size 89 2 (.slice z3 z4 z5) ((pW (iJ st.b7)).map sZ):=⟨Ir.1,Ir.2.1,fun g hg=>q1 g hg⟩;have h4:cC w4 dC nb { st with tl:=pW (iJ st.b7),mh:=st.bA,Ih:=.slice z3 z4 z5 } :=
   cC.put afv.1 yB.bm c4 Qf (h3.oS.mv (q2 2 (by decide) (by decide))) (h3.pr.mv (q2 3 (by decide) (by decide))) (h3.nz.mv (q2 4 (by decide) (by decide))) (h3.lX.mv (q2 5 (by decide) (by decide))) h9.sl
  have fk:Ft w0 (fun k=>all own k∨Fd k) w4 X4 (all dC):=yB.dK c4 (fun k ah=>by subst ah;exact cJ (p:=1) (by decide) _ afv.1) fun k ah=>.inl ah;clear hs iq Qf;have hs:=fk.s
  skip
  exact fk.fin fun wa bD=>⟨rfl,dC,_,fun k ah=>by
   rcases q3 k ah with h9|h9
   ·exact .inl h9
   ·exact .inr ⟨(Ir.ge h9).1,aN (fk.s.has k (fk.bm k ah)) bD.size⟩,h4.kp bD fk.bm⟩
def rB:Rec:=⟨1,.zero,.zero,.zero,false,0,0,[],[],[],[],⟨⟨1,0,0,4602678819172646912⟩,.zero,.zero,[],[]⟩⟩
def rC:Rec:=⟨5,.zero,⟨5,0,1⟩,.zero,false,0,0,[],[],[],[],⟨⟨0,0,0,0⟩,.zero,.zero,[],[]⟩⟩
def mB:gx:=⟨9,1,31,.zero,1,0,0,.zero,.zero,false,1,0,[],[],[],[],[],[rB,rC],⟨⟨0,0,0,0⟩,.zero,.zero,[],[]⟩⟩
theorem aaE:mB.err=0:=by kernel_rfl
theorem aiz:s5 .zero mB (NC 2,Ip 2,[])=([(1,⟨1,3,⟨5,0,1⟩⟩,[]),(2,⟨2,1,.zero⟩,[])],[(1,⟨5,0,1⟩),(2,.zero)],[]):=by kernel_rfl
theorem aiA:s5 .zero mB ([(1,⟨1,3,⟨5,0,1⟩⟩,[]),(2,⟨2,1,.zero⟩,[])],[(1,⟨5,0,1⟩),(2,.zero)],[])=([(1,⟨1,3,⟨5,0,1⟩⟩,[]),(2,⟨2,1,.zero⟩,[])],[(1,⟨5,0,1⟩),(2,.zero)],[]):=by kernel_rfl
theorem LU {l:List Int} (h:l.Pairwise fun a b=>a≤b):ig l=l:=Fh (l7 l) (LG l) h
structure FS (w0 w:World) (X Fd:XS) (own:Nat→Nat) (nb db:Nat) (st:dM):Prop where
 t:Ft w0 nX w X (fun k=>all own k∨Fd k)
 n:cC w own nb st
 d:Dk w Fd db ⟨[],0,0,false⟩
 z: ∀k,Fd k→own k=0
section
variable {w0 w w' wa : World} {X X' Fd : XS} {own dC : Nat → Nat} {nb db : Nat} {st ko : dM}
theorem FS.x (h:FS w0 w X Fd own nb db st): ∀k,all own k→X k:=fun k hk=>h.t.bm k (.inl hk)
theorem FS.fx (h:FS w0 w X Fd own nb db st):FX (all own) X w:=h.t.fx fun k hk=>.inl hk
theorem FS.since (h:FS w0 w X Fd own nb db st) (hs:aj X w X' w'):FS w0 w' X' Fd own nb db st:=⟨h.t.since hs,h.n.since hs h.x,h.d.mv (hs.jQ fun k hk=>h.t.bm k (.inr hk)),h.z⟩
theorem FS.next (h:FS w0 w X Fd own nb db st) (hT:Ft w0 nX w' X' (fun k=>(all own k∨Fd k)∨made wa w' k)) (hle:w.heap.size≤wa.heap.size) (c:eo (all own) X w X' w') (hg:Gr own dC wa w') (hn:cC w' dC nb ko):FS w0 w' X' Fd dC nb db ko:=
 ⟨hT.less fun k hk=>by
  rcases hk with hk|hk
  ·exact(hg k hk).imp .inl id
  ·exact .inl (.inr hk),hn,h.d.mv fun k hk _=>⟨hk,c.block k (h.t.bm k (.inr hk)) fun hf=>hf (h.z k hk)⟩,fun k hk=>by
   rcases du (dC k)with h9|h9
   ·exact h9
   ·rcases hg k zQ with fR|fR
    ·exact absurd (h.z k hk) fR
    ·have:=h.t.s.has k (h.t.bm k (.inr hk));have:=fR.1;omega⟩
end
theorem Gr.zero {own dC:Nat→Nat} {w wa w':World} (hg:Gr own dC wa w') (hle:w.heap.size≤wa.heap.size) {k:Nat} (h0:own k=0) (hk:k<w.heap.size):dC k=0:=by
 rcases du (dC k)with h9|h9
 ·exact h9
 ·rcases hg k zQ with fR|fR
  ·exact absurd h0 fR
  ·have:=fR.1;omega
theorem aiB {α:Type} : ∀{l:List α},l.length=3→ ∃a b c,l=[a,b,c]
 |[],h=>by simp at h
 |[_],h=>by simp at h
 |[_,_],h=>by simp at h
 |[a,b,c],_=>⟨a,b,c,rfl⟩
 |_::_::_::_::_,h=>by simp at h
theorem yO {w:World} {X:XS} :Ct pg 5 #[] w X nX fun v _ _=>v=B true:=by
 intro w0 hk;apply Is;unfold zB;have hs:=aj.init w0;refine ep M5 kQ hs.has ?_;rintro _ wa w1 X1 ⟨db,rfl,hD0⟩ hle eH ao;have hD1:Dk w1 (fun k=>made wa w1 k) db ⟨[],0,0,false⟩:=hD0;have hFd: ∀k,made wa w1 k→w0.heap.size≤k∧k<w1.heap.size:=fun k ah=>⟨af hle ah.1,ah.2⟩;replace hs:=hs.trans ao;repeat' first|refine aG ?_;intros
 refine ep (Le (ranges:=2) (room:=8) hD1 (fun k ah=>⟨eH k ah,ah.2⟩) rfl rfl) kQ hs.has ?_;rintro v zr w2 X2 hq oU lx dF;rcases hq with⟨rfl,tH⟩|⟨nb,own,st,_,_,rfl,lN,hN,hI,Eg⟩
 ·exact absurd zQ tH
 obtain⟨Fd,YX⟩: ∃Fd:XS,Fd=fun k=>made wa w1 k:=⟨_,rfl⟩;have su:FS w0 w2 X2 Fd own nb db st:=by
  refine⟨⟨(hs.trans dF).less fun k ah=>ah.1,fun k ah=>?_,fun k ah=>?_⟩,hN,by rw [YX];exact hD1.mv (dF.jQ eH),fun k ah=>?_⟩
  ·rcases ah with h9|h9
   ·exact lx k (lN k h9)
   ·rw [YX] at h9;exact dF.sub k (eH k h9)
  ·rcases ah with h9|h9
   ·exact .inr (af (af hs.kp.size oU) (lN k h9).1)
   ·rw [YX] at h9;exact .inr (hFd k h9).1
  ·rcases du (own k)with h9|h9
   ·exact h9
   ·have fR:=(lN k zQ).1;rw [YX] at ah;have:=(hFd k ah).2;omega
 have xa:st.b7.map (·.1)=[1,2]:=by
  have h9:=congrArg (List.map (·.1)) Eg.b7;have e1:(iJ st.b7).map (·.1)=st.b7.map (·.1):=by unfold iJ;rw [dN];rfl
  rw [e1] at h9;exact h9
 have aiC:uN st=[BT,xq st 1,xq st 2]:=by
  unfold uN;rw [Eg.told,xa,LU (by decide)];rfl
 have Tu:lQ st 2=false:=by
  unfold lQ rD;have e:Ip (Int.toNat 2)=[(1,.zero),(2,.zero)]:=rfl;rw [Eg.fs,e,show([(1,aO.zero),(2,aO.zero)]:List (Int×aO)).map (·.1)=[1,2] from rfl,LU (by decide)];have e2:decide ((((getM 2 ([(1,aO.zero),(2,aO.zero)]:List (Int×aO))).getD .zero)).cmp (((mV [(1,aO.zero),(2,aO.zero)] [1,2])).getD .zero)>0)=false:=by decide
  rw [e2,Bool.and_false]
 clear hs;have hs:=su.t.s;repeat' first|refine bQ ?_;intros
 refine ep (K9 su.n hI zQ su.x) kQ hs.has ?_;rintro _ Ad w3 X3 ⟨ov,l,rfl,hO,hl⟩ wT rP dZ;rw [aiC] at hl;have BM:=su.since dZ;have M9:=hO.mv (Mv.sub rP);clear hs;have hs:=BM.t.s;repeat' first|refine aG ?_;intros
 refine Yf (rows:=[rB.l eT eT eT eT eT eT,rC.l eT eT eT eT eT eT]) (rB.l eT eT eT eT eT eT++rC.l eT eT eT eT eT eT).toArray ((⟨0,.zero,.zero,.zero,false,0,0,[],[],[],[],⟨⟨0,0,0,0⟩,.zero,.zero,[],[]⟩⟩:Rec).v eT eT eT eT eT eT)
  hs.has (bytes:=328) kQ kQ zQ zQ kQ (by simp) rfl rfl fun vc w4 X4 j6 sj=>?_
 have KR:=BM.since j6;obtain⟨y1,y2,y3,rfl⟩:=sj.sl.form;obtain⟨S,hS⟩: ∃S:XS,∀k,S k↔(X4 k∧w3.heap.size≤k):=⟨_,fun _=>Iff.rfl⟩;have It:Own w4 S w3.heap.size 73 29 (.slice y1 y2 y3) [rB.l eT eT eT eT eT eT,rC.l eT eT eT eT eT eT]:=⟨sj.1,sj.2.1,fun g hg=>(hS g).2 ⟨sj.2.2 g hg,(sj.ge hg).1⟩⟩;have Qb: ∀{w:World} {X:XS} (r:Rec),r.reads=[]→r.writes=[]→r.parts=[]→r.qL=[]→r.state.gF=[]→r.state.eK=[]→r.at w X eT eT eT eT eT eT:=fun r h1 h2 h3 h4 h5 h6=>by
  unfold Rec.at;rw [h1,h2,h3,h4,h5,h6];exact⟨Sl.nil _ _ _,Sl.nil _ _ _,Sl.nil _ _ _,Sl.nil _ _ _,gq.nil _ _ _,gq.nil _ _ _⟩
 have afw:mB.at w4 S eT eT eT eT eT (.slice y1 y2 y3) eT eT:=by
  refine⟨Sl.nil _ _ _,Sl.nil _ _ _,Sl.nil _ _ _,Sl.nil _ _ _,Sl.nil _ _ _,⟨_,It.sl,rfl,fun i l x hl hx=>?_⟩,gq.nil _ _ _,gq.nil _ _ _⟩;rcases i with _|_|i
  ·cases hl;cases hx;exact⟨_,_,_,_,_,_,rfl,Qb rB rfl rfl rfl rfl rfl rfl⟩
  ·cases hl;cases hx;exact⟨_,_,_,_,_,_,rfl,Qb rC rfl rfl rfl rfl rfl rfl⟩
  ·cases hl
 have fI: ∀k,S k→X4 k∧own k=0:=fun k ah=>by
  have h9:=(hS k).1 ah;refine⟨h9.1,?_⟩;rcases du (own k)with fR|fR
  ·exact fR
  ·have:=BM.t.s.has k (BM.x k (by show own k≠0;omega));have:=h9.2;omega
 have fZ: ∀{s:State},s.gF=[]→s.eK=[]→s.small:=fun h1 h2=>⟨by rw [h1];exact fun _ h=>absurd h (by simp),by rw [h2];exact fun _ h=>absurd h (by simp),by rw [h1];exact fun _ h=>absurd h (by simp),by rw [h2];exact fun _ h=>absurd h (by simp)⟩;have oR: ∀r∈mB.eb,r=rB∨r=rC:=fun r hr=>by simpa [mB] using hr
 have aiD: ∀r∈mB.eb,r.small:=fun r hr=>by
  rcases oR r hr with rfl|rfl<;>exact⟨by simp [rB,rC],by simp [rB,rC],by simp [rB,rC],by simp [rB,rC],fZ rfl rfl⟩
 have jv:mB.small:=⟨by simp [mB],by simp [mB],aiD,fun r hr _=>by rcases oR r hr with rfl|rfl<;>decide+kernel,fZ rfl rfl⟩;have fN: ∀r∈mB.eb,r.sz:=fun r hr=>by
  rcases oR r hr with rfl|rfl<;>exact⟨by simp [rB,rC],by simp [rB,rC]⟩
 have hrw:iZ mB.eb=4:=rfl;have P5:mB.lens≤2^62:=by show 2≤2^62;omega
 clear hs;have hs:=KR.t.s;repeat' first|refine aG ?_;intros
 refine KR.t.call (Du (m:=mB) KR.n hI KR.fx afw fI jv P5 fN (by rw [hrw];omega)) kQ (fun k h=>.inl h) ?_;rintro _ wa5 w5 X5 ⟨rfl,s6,st5,hg5,hn5,hI5,QF⟩ SV SX fU c5;have HU:=KR.next fU SV c5 hg5 hn5
 have agT:mB.at w5 S eT eT eT eT eT (.slice y1 y2 y3) eT eT:=afw.mv fun k ah _=>⟨ah,c5.block k (fI k ah).1 fun hf=>hf (fI k ah).2⟩;have kP: ∀k,S k→X5 k∧s6 k=0:=fun k ah=>by
  refine⟨c5.sub k (fI k ah).1,?_⟩;rcases du (s6 k)with fR|fR
  ·exact fR
  ·rcases hg5 k zQ with vI|vI
   ·exact absurd (fI k ah).2 vI
   ·have:=KR.t.s.has k (fI k ah).1;have:=vI.1;omega
 have hnh:nT mB=false:=by simp [nT,mB]
 have aiE:iW st5=([(1,⟨1,3,⟨5,0,1⟩⟩,[]),(2,⟨2,1,.zero⟩,[])],[(1,⟨5,0,1⟩),(2,.zero)],[]):=by
  rw [QF.abs,Jp,if_pos ⟨aaE,rfl,rfl⟩,Eg.bA,←aiz];unfold iW;rw [Eg.b7,Eg.fs,Eg.holds];rfl
 clear hs;have hs:=HU.t.s;repeat' first|refine aG ?_;intros
 refine HU.t.call (Du (m:=mB) HU.n hI5 HU.fx agT kP jv P5 fN (by rw [hrw];omega)) kQ (fun k h=>.inl h) ?_;rintro _ Qd w6 X6 ⟨rfl,rU,qH,Xg,hn6,Gy,K5⟩ HX LA gU c6;have hF6:=HU.next gU HX c6 Xg hn6
 have hak:qH.bA= .zero:=by rw [K5.Fl hnh,QF.Fl hnh,Eg.bA]
 have ab7:iW qH=([(1,⟨1,3,⟨5,0,1⟩⟩,[]),(2,⟨2,1,.zero⟩,[])],[(1,⟨5,0,1⟩),(2,.zero)],[]):=by
  rw [K5.abs,Jp,if_pos ⟨aaE,rfl,rfl⟩,QF.Fl hnh,Eg.bA,aiE,aiA]
 have hdb:qH.db=db:=by rw [K5.db,QF.db,Eg.db]
 have ht6:iJ qH.b7=[(1,⟨1,3,⟨5,0,1⟩⟩,[]),(2,⟨2,1,.zero⟩,[])]:=congrArg (·.1) ab7;have hf6:qH.fs=[(1,⟨5,0,1⟩),(2,.zero)]:=congrArg (·.2.1) ab7;have hh6:qH.holds=[]:=congrArg (·.2.2) ab7;clear hs;have hs:=hF6.t.s
 skip
 refine dH (xm (r:=1) hF6.n hF6.x) kQ hs.has fun w7 X7 wP=>?_;have KS:=hF6.since wP;rw [hf6,show(((getM 1 ([(1,⟨5,0,1⟩),(2,.zero)]:List (Int×aO))).getD .zero))=⟨5,0,1⟩from rfl,show(getM 1 ([(1,⟨5,0,1⟩),(2,.zero)]:List (Int×aO))).isSome=true from rfl];clear hs;have hs:=KS.t.s;repeat' first|refine aG ?_;intros
 have lp:pW (iJ qH.b7)=[(1,3),(2,1)]:=by
  rw [ht6];unfold pW;rw [show(([(1,⟨1,3,⟨5,0,1⟩⟩,[]),(2,⟨2,1,.zero⟩,[])]:List (Int×iC×mm)).map (·.1))=[1,2] from rfl,LU (by decide)];rfl
 have hD7:Dk w7 Fd qH.db ⟨[],0,0,false⟩:=by rw [hdb];exact KS.d
 refine KS.t.call (VZ KS.n Gy (by rw [hrw];omega) hD7 (KS.t.fx fun k h=>h) KS.z hh6 (by rw [lp,hak];exact⟨by decide,by decide⟩)) kQ (fun k h=>h) ?_;rintro _ wa8 w8 X8 ⟨rfl,yA,mk8,hg8,hn8⟩ YA ae8 s4 c8;have Ii:Ft w0 nX w8 X8 (all yA):=s4.less fun k ah=>(hg8 k ah).imp .inl id;have hI8:fD (12+iZ mB.eb+iZ mB.eb) { qH with tl:=pW (iJ qH.b7),mh:=qH.bA,Ih:=mk8 } := { Gy with cur:=by rw [lp];simp };clear hs;have hs:=Ii.s
 skip
 refine Ii.call (K7 (r:=1) hn8 hI8 (Ii.fx fun k h=>h)) kQ (fun k h=>h) ?_;rintro _ P9 w9 X9 ⟨rfl,aiF,st9,hg9,hn9,hI9,bD,afx⟩ ais ait zz c9;have Bp:(getM 1 qH.b7).isSome=true:=by
  have h9:=nS 1 qH.b7;rw [ht6] at h9;cases fR:getM 1 qH.b7 with
  |none=>rw [fR] at h9;cases h9
  |some y=>rfl
 have ab8:Ft w0 nX w9 X9 (all aiF):=zz.less hg9;have afy:(getM 1 ({ qH with tl:=pW (iJ qH.b7),mh:=qH.bA,Ih:=mk8 } :dM).b7).isSome=true:=Bp;rw [afy,if_pos rfl];rw [afy,if_pos rfl] at afx;have afz:mz st9 1=3:=by
  have h9:iJ st9.b7=bU 1 (⟨1,Fw 1 (pW (iJ qH.b7)),.zero⟩,[]) (iJ qH.b7):=congrArg (·.1) afx;rw [lp,ht6] at h9;have fR:=nS 1 st9.b7;rw [h9] at fR;unfold mz;cases vI:getM 1 st9.b7 with
  |none=>rw [vI] at fR;cases fR
  |some y=>
   rw [vI] at fR;have Bn:=congrArg (fun o=>(o.map (·.1.next)).getD 0) fR;exact Bn.symm
 have Wx:l.length=3:=by have h9:=congrArg List.length hl;rw [aA] at h9;exact h9
 obtain⟨l0,l1,l2,rfl⟩:=aiB Wx;simp only [List.map_cons,List.map_nil,List.cons.injEq,and_true] at hl;obtain⟨e0,e1,e2⟩:=hl;have k0:l0.kind=13:=congrArg Om.kind e0;have k2:l2.kind=8:=congrArg Om.kind e2;have m2:l2.mx=8:=by
  have h9:=congrArg Om.mx e2;have fR:(xq st 2).mx=8:=by unfold xq;rw [Tu];rfl
  exact h9.trans fR
 obtain⟨So,hSo⟩: ∃So:XS,∀k,So k↔(X3 k∧w2.heap.size≤k):=⟨_,fun _=>Iff.rfl⟩;have ajM:Sl w3 So 36 ov ([l0,l1,l2].map Om.l):=by
  have h9:Own w3 So Ad.heap.size 49 36 ov ([l0,l1,l2].map Om.l):=⟨M9.own.1,M9.own.2.1,fun g hg=>(hSo g).2 ⟨M9.own.2.2 g hg,af wT (M9.own.ge hg).1⟩⟩;exact h9.sl
 have z3: ∀k,So k→own k=0∧k<w3.heap.size∧ ¬Fd k:=fun k ah=>by
  have h9:=(hSo k).1 ah;have fR:=BM.t.s.has k h9.1;have afA:=su.t.s.has;refine⟨?_,fR,fun hf=>?_⟩
  ·rcases du (own k)with vI|vI
   ·exact vI
   ·have:=afA k (su.x k (by show own k≠0;omega));omega
  ·have:=afA k (su.t.bm k (.inr hf));omega
 have aiG:aj So w3 X4 w4:=j6.less fun k ah=>((hSo k).1 ah).1;have z5: ∀k,So k→s6 k=0:=fun k ah=>hg5.zero SV (z3 k ah).1 (aN (z3 k ah).2.1 j6.kp.size);have afB:=aiG.dK c5 fun k ah hf=>hf (z3 k ah).1;have z6: ∀k,So k→rU k=0:=fun k ah=>Xg.zero HX (z5 k ah) (aN (z3 k ah).2.1 afB.kp.size);have aiH:=afB.dK c6 fun k ah hf=>hf (z5 k ah);have afC:=aiH.trans wP;have z8: ∀k,So k→yA k=0:=fun k ah=>hg8.zero YA (z6 k ah) (aN (z3 k ah).2.1 afC.kp.size);have aiI:=afC.dK c8 fun k ah hf=>hf.elim (fun h=>h (z6 k ah)) (z3 k ah).2.2;have ajN:=aiI.dK c9 fun k ah hf=>hf (z8 k ah);have ML:([l0,l1,l2]:List Om)[0]? =some l0:=rfl;have Aj:([l0,l1,l2]:List Om)[2]? =some l2:=rfl;clear M9 hO;clear hs;have hs:=ab8.s;repeat' first|refine bQ ?_;intros|refine dj ?_ ?_<;>intros|with_reducible apply dJ
 refine dH (K6 (r:=1) hn9 ab8.bm) kQ hs.has fun wA XA xY=>?_;rw [afz];have hTA:=ab8.since xY;clear hs;have hs:=hTA.s;repeat' first|refine bQ ?_;intros
 ·exact hTA.fin fun wa bD=>rfl
 all_goals exact absurd rfl ‹¬(⟨5,0,1⟩:aO).wall=5›
theorem YY (a:aO):Pure pg 10 #[a.v] (B a.may):=by
 intro w0;apply ND;unfold CM;have hs:=aj.init w0;repeat' first|refine aG ?_;intros|refine dj ?_ ?_<;>intros|(with_reducible refine fh hs ?_);simp_all [aO.may]<;>omega
def ab9 (a b:Int):Int:=if a<b then-1 else if a>b then 1 else 0
theorem Ue (a b:Int):Pure pg 98 #[I a,I b] (I (ab9 a b)):=by
 intro w0;apply JV;unfold Au;have hs:=aj.init w0;repeat' first|refine aG ?_;intros|refine dj ?_ ?_<;>intros|(with_reducible refine fh hs ?_);simp_all [ab9]<;>omega
theorem OW (a b:aO):Pure pg 52 #[a.v,b.v] (I (a.cmp b)):=by
 intro w0;apply GW;unfold ye;have hs:=aj.init w0;repeat' first|refine aG ?_;intros|refine dj ?_ ?_<;>intros|with_reducible apply dJ|((with_reducible refine gh (Ue _ _) ?_ hs.has ?_);(· kernel_rfl);intro w X ao;replace hs:=hs.trans ao)|(with_reducible refine fh hs ?_);(simp only [ab9,aO.cmp] at*;grind)
theorem V4 (a b:aO):Pure pg 20 #[a.v,b.v] (B (decide (a.cmp b<0))):=by
 intro w0;apply LV;unfold BZ;have hs:=aj.init w0;repeat' first|refine aG ?_;intros|refine dj ?_ ?_<;>intros|((with_reducible refine gh (OW _ _) ?_ hs.has ?_);(· kernel_rfl);intro w X ao;replace hs:=hs.trans ao)|(with_reducible refine fh hs ?_);simp_all<;>omega
theorem YZ (n:Int):Pure pg 12 #[I n] (B (wQ n)):=by
 intro w0;apply JW;unfold Aw;have hs:=aj.init w0;repeat' first|refine aG ?_;intros|refine dj ?_ ?_<;>intros|(with_reducible refine fh hs ?_);simp_all [wQ]<;>omega
theorem NF {w:World} {X:XS} {a:Value} {xs:List jX} (ha:Sl w X 7 a (xs.map jX.l)):Ct pg 38 #[a,.slice none 0 0] w X nX fun v _ _=>v=B (decide (xs=[])):=by
  intro w0 hk;replace ha:=ha.mv hk.cE;have gC:=ha.gw;apply NG;unfold CN;have hs:=aj.init w0;have hb:Sl w0 (aR w0) 7 (.slice none 0 0) (([]:List jX).map jX.l):=Sl.nil _ _ _;have tI:=hb.gw;simp only [bI] at tI;rcases du xs.length with hz|hz
  ·have hn:=cT hz;repeat' first|refine aG ?_;intros|refine dj ?_ ?_<;>intros|(exfalso;simp only [bI] at*;omega)
   refine eA (fun n a w X=>a=I 0∧n=0∧aj (aR w0) w0 X w) 0 ⟨rfl,rfl,hs⟩ ?_;clear hs;rintro n a w X ⟨rfl,rfl,hs⟩;repeat' first|refine bQ ?_;intros
   exact ai hs fun wa bD=>by rw [hn];rfl
  ·have hn:xs≠[]:=fun h=>by rw [h] at hz;cases hz
   repeat' first|refine aG ?_;intros|refine dj ?_ ?_<;>intros|(exfalso;simp only [bI] at*;omega)
   exact ai hs fun wa bD=>by rw [decide_eq_false hn]
theorem JX {w:World} {X:XS} {a:Value} {xs:List ju} (ha:Sl w X 4 a (xs.map ju.l)):Ct pg 41 #[a,.slice none 0 0] w X nX fun v _ _=>v=B (decide (xs=[])):=by
  intro w0 hk;replace ha:=ha.mv hk.cE;have gC:=ha.gw;apply JY;unfold Ax;have hs:=aj.init w0;have hb:Sl w0 (aR w0) 4 (.slice none 0 0) (([]:List ju).map ju.l):=Sl.nil _ _ _;have tI:=hb.gw;simp only [bI] at tI;rcases du xs.length with hz|hz
  ·have hn:=cT hz;repeat' first|refine aG ?_;intros|refine dj ?_ ?_<;>intros|(exfalso;simp only [bI] at*;omega)
   refine eA (fun n a w X=>a=I 0∧n=0∧aj (aR w0) w0 X w) 0 ⟨rfl,rfl,hs⟩ ?_;clear hs;rintro n a w X ⟨rfl,rfl,hs⟩;repeat' first|refine bQ ?_;intros
   exact ai hs fun wa bD=>by rw [hn];rfl
  ·have hn:xs≠[]:=fun h=>by rw [h] at hz;cases hz
   repeat' first|refine aG ?_;intros|refine dj ?_ ?_<;>intros|(exfalso;simp only [bI] at*;omega)
   exact ai hs fun wa bD=>by rw [decide_eq_false hn]
theorem NH {w:World} {X:XS} {a:Value} {xs:List Rec} (ha:gq w X 29 a Rec.rd xs):Ct pg 42 #[a,.slice none 0 0] w X nX fun v _ _=>v=B (decide (xs=[])):=by
 intro w0 hk;replace ha:=gq.mv ha Rec.mv hk.cE;have gC:=ha.len;apply NI;unfold CO;have hs:=aj.init w0;have hb:gq w0 (aR w0) 29 (.slice none 0 0) Rec.rd []:=gq.nil _ _ _;rcases du xs.length with hz|hz
 ·have hn:=cT hz;repeat' first|refine aG ?_;intros|refine dj ?_ ?_<;>intros|(exfalso;simp only [bI] at*;omega)
  refine eA (fun n a w X=>a=I 0∧n=0∧aj (aR w0) w0 X w) 0 ⟨rfl,rfl,hs⟩ ?_;clear hs;rintro n a w X ⟨rfl,rfl,hs⟩;repeat' first|refine bQ ?_;intros
  exact ai hs fun wa bD=>by rw [hn];rfl
 ·have hn:xs≠[]:=fun h=>by rw [h] at hz;cases hz
  repeat' first|refine aG ?_;intros|refine dj ?_ ?_<;>intros|(exfalso;simp only [bI] at*;omega)
  exact ai hs fun wa bD=>by rw [decide_eq_false hn]
theorem Fx {w:World} {X:XS} {a:Value} {xs:List iM} (ha:lA w X a xs):Ct pg 91 #[a,.slice none 0 0] w X nX fun v _ _=>v=B (decide (xs=[])):=by
  intro w0 hk;replace ha:=ha.mv hk.cE;have gC:=ha.len;apply Fy;unfold xu;have hs:=aj.init w0;have hb:lA w0 (aR w0) (.slice none 0 0) []:=gq.nil _ _ _;have tI:=hb.len;simp only [bI] at tI;rcases du xs.length with hz|hz
  ·have hn:=cT hz;repeat' first|refine aG ?_;intros|refine dj ?_ ?_<;>intros|(exfalso;simp only [bI] at*;omega)
   refine fT (fun n a b w X=>a=I 0∧n=0∧aj (aR w0) w0 X w) 0 ⟨rfl,rfl,hs⟩ ?_;clear hs;rintro n a b w X ⟨rfl,rfl,hs⟩;repeat' first|refine bQ ?_;intros
   exact ai hs fun wa bD=>by rw [hn];rfl
  ·have hn:xs≠[]:=fun h=>by rw [h] at hz;cases hz
   repeat' first|refine aG ?_;intros|refine dj ?_ ?_<;>intros|(exfalso;simp only [bI] at*;omega)
   exact ai hs fun wa bD=>by rw [decide_eq_false hn]
theorem LW {w:World} {X:XS} {s:State} {vh vp:Value} (h1:lA w X vh s.gF) (h2:kH w X vp s.eK):
  Ct pg 43 #[s.v vh vp,State.zero.v (.slice none 0 0) (.slice none 0 0)] w X nX fun v _ _=>v=B s.isZero:=by
 intro w0 hk;replace h1:=h1.mv hk.cE;replace h2:=h2.mv hk.cE;apply LX;unfold B0;have hs:=aj.init w0;repeat' first|refine aG ?_;intros|(with_reducible refine wR _ ?_ ?_ ?_);(· kernel_rfl);all_goals intros|with_reducible apply dJ|((with_reducible refine dI (NJ _ _) ?_ hs.has ?_ ?_);(· kernel_rfl);all_goals (intro _ w X ao;replace hs:=hs.trans ao))|((first|(with_reducible refine ai hs ?_)|(with_reducible refine ai (bE.trans hs) ?_));intro wa hk;(simp_all [State.isZero,ju.ext_iff]))|(refine eO (Fx  qA) kQ hs.has ?_ ?_<;>(intro _ w X ao;replace hs:=hs.trans ao))|((with_reducible refine dH (Iu (ys:=[]) (kH.mv ‹_› hs.mv) (gq.nil _ _ _)) kQ hs.has fun w X ao=>?_);replace hs:=hs.trans ao)
def gx.Jq (m:gx):Bool:=decide (m.b6= .zero)&&decide (m.range=0)&&decide (m.jo=0)&&decide (m.code=0)&&decide (m.prev= .zero)&&!m.ij&&decide (m.n=0)&&decide (m.mx=0)&&
 m.state.isZero&&(decide (m.keys=[])&&decide (m.seen=[])&&decide (m.writes=[])&&decide (m.parts=[])&&decide (m.ranges=[]))&&decide (m.eb=[])
end Go.Proofs.YtfndblbeikocdaaGreat
namespace Go.Proofs.YtfndblbeikocdaaGreat
open Go.Proofs.Tryz renaming prog → pg
open Go.bB
section
variable {P : Program} {R : Ending → World → Prop} {X : XS} {w : World} {N : Value → Prop} {t : TypeId} {xo yo : Operand} {a b c d : Bool}
theorem run_equalIn_bool (ht:P.underlying t=some .bool) (n:Nat) (a b:Bool) (w:World):(Op.equalIn (n+1) t (.bool a) (.bool b)).run P w= .ok (a==b) w:=by simp [Op.equalIn,run_underlying ht]
theorem LY (ht:P.underlying t=some .bool) (h:N (.bool (a==b))):ab P X w (aF .eql t xo yo (.bool a) (.bool b)) N:=by
 refine cB (fun wa=>?_) h;have:(Op.equal t (.bool a) (.bool b)).run P wa= .ok (a==b) wa:=run_equalIn_bool ht 9999 a b wa;simp [aF,eqGuard,binOp,this]
theorem Y4 {s:Value→Value→Sem Value} {u v:Value} (h: ∀N:Value→Prop,N (.bool d)→ab P X w (s u v) N) (k:N (.bool (c&&d))):
  un (aB (.bool c) true u) fun a=>un (aB (.bool c) true v) fun b=>ay P X w (.bool c) true (vS (s a b)) fun x=>ax P X w (aM (.bool c) x (.bool false)) N:=by
 cases c
 ·exact pK (pK (vL (qI k)))
 ·exact tq (tq (B1 (h _ (s7 (by simpa using k)))))
theorem afD {q:IntKind} {i j:Int} (k:N (.bool (c&&decide (i=j)))):
  un (aB (.bool c) true (.int q i)) fun a=>un (aB (.bool c) true (.int q j)) fun b=>ay P X w (.bool c) true (vS (aF .eql t xo yo a b)) fun x=>ax P X w (aM (.bool c) x (.bool false)) N:=
 Y4 (fun _=>OX) k
theorem adM (ht:P.underlying t=some .bool) (k:N (.bool (c&&(a==b)))):
  un (aB (.bool c) true (.bool a)) fun a=>un (aB (.bool c) true (.bool b)) fun b=>ay P X w (.bool c) true (vS (aF .eql t xo yo a b)) fun x=>ax P X w (aM (.bool c) x (.bool false)) N:=
 Y4 (fun _=>LY ht) k
theorem aca {i j k i' j' k':Int} (ht:gB P t 3=true) (n:N (.bool (c&&decide (i=i'∧j=j'∧k=k')))):
  un (aB (.bool c) true (.agg #[.int .i64 i,.int .i64 j,.int .i64 k])) fun a=>un (aB (.bool c) true (.agg #[.int .i64 i',.int .i64 j',.int .i64 k'])) fun b=>
   ay P X w (.bool c) true (vS (aF .eql t xo yo a b)) fun x=>ax P X w (aM (.bool c) x (.bool false)) N:=
 Y4 (fun _=>LZ ht) n
theorem aaF (k:N (.bool (c&&d))):un (aB (.bool c) true (.bool d)) fun a=>ax P X w (aM (.bool c) a (.bool false)) N:=by
 cases c
 ·exact pK (qI k)
 ·exact tq (s7 (by simpa using k))
theorem A8 {f:FuncId} {u v:Value} {m:Bool} {M:Value→World→XS→Prop} (h:Ct P f #[u,v] w X nX fun x _ _=>x= .bool d) (hf:enters P f=true) (hX: ∀k,X k→k<w.heap.size)
  (k: ∀w' X',aj X w X' w'→M (.bool (c&&d)) w' X'):
  un (aB (.bool c) true u) fun a=>un (aB (.bool c) true v) fun b=>jn (fun (x:Value) (w1:World) (X1:XS)=>ax P X1 w1 (aM (.bool c) x (.bool false)) fun y=>M y w1 X1) fun K=>
   gE (.bool c) true (eC P R X w m f #[a,b] K) (K undef w X):=by
 cases c
 ·exact pK (pK (adj (qI (k w X (aj.iB hX)))))
 ·exact tq (tq (afE (dH h hf hX fun w' X' hs=>s7 (by simpa using k w' X' hs))))
end
set_option maxRecDepth 100000
set_option maxHeartbeats 1000000
set_option linter.unusedVariables false
set_option linter.unusedSimpArgs false
attribute [local irreducible] un jn aI aT ld1 ek st1 cA cp mE ea mF wh vy gG ga ab ax ay eW eV eU eC eF gE au fin aM aP aF vS y9 gg ix rr wi wj za zc zd fY iy ru wm wo ze zf
abbrev agU (m:gx):Value:=.agg #[I m.kind,I m.fr,I m.to,I 0,I 0,I 0,I 0,I 0,I 0,I m.aw.wall,I m.aw.dv,I m.aw.node,I 0,I 0,I 0,B false,I 0,I 0,.slice none 0 0,.slice none 0 0,.slice none 0 0,.slice none 0 0,.slice none 0 0,.slice none 0 0,
 I 0,I 0,.float .f64 0,.float .f64 0,I 0,I 0,I 0,I 0,I 0,I 0,.slice none 0 0,.slice none 0 0]
theorem OY {w:World} {X:XS} {m:gx} {vk vs vw vp vr vc vh vd:Value} (h:m.at w X vk vs vw vp vr vc vh vd):
  Ct pg 11 #[m.v vk vs vw vp vr vc vh vd,agU m] w X nX fun v _ _=>v=B m.Jq:=by
 intro w0 hk;replace h:=h.mv hk.cE;obtain⟨h1,h2,h3,h4,h5,h6,h7,h8⟩:=h;have o1:=h1.one;have o2:=h2.one;have o3:=h3.one;have o4:=h4.one;have o5:=h5.one;have o6:=h6.one;have o7:=h7.one;have o8:=h8.one;apply OZ;unfold Eh;have hs:=aj.init w0;refine OX ?_;repeat (first|with_reducible refine afD ?_|(with_reducible refine aca kQ ?_)|(with_reducible refine adM kQ ?_)|(with_reducible refine LZ kQ ?_))
 refine dH (CP (ys:=[]) h1 (Sl.nil _ _ _)) kQ hs.has fun w1 X1 ao=>?_;replace hs:=hs.trans ao;refine A8 (NF (h2.mv hs.mv)) kQ hs.has fun w2 X2 ao=>?_;replace hs:=hs.trans ao;refine A8 (u6 (ys:=[]) (h3.mv hs.mv) (Sl.nil _ _ _)) kQ hs.has fun w3 X3 ao=>?_;replace hs:=hs.trans ao;refine A8 (O4 (ys:=[]) (h4.mv hs.mv) (Sl.nil _ _ _)) kQ hs.has fun w4 X4 ao=>?_;replace hs:=hs.trans ao;refine A8 (JX (h5.mv hs.mv)) kQ hs.has fun w5 X5 ao=>?_;replace hs:=hs.trans ao;refine aaF (aaF ?_);refine A8 (NH (gq.mv h6 Rec.mv hs.mv)) kQ hs.has fun w6 X6 ao=>?_;replace hs:=hs.trans ao;refine A8 (LW (s:=m.state) (lA.mv h7 hs.mv) (kH.mv h8 hs.mv)) kQ hs.has fun w7 X7 ao=>?_;replace hs:=hs.trans ao;refine ai hs fun wa bD=>?_;simp only [gx.Jq,Value.bool.injEq,eh.ext_iff,aO.ext_iff];cases m.ij<;>simp [and_assoc,Bool.and_assoc,Bool.and_comm,Bool.and_left_comm]
theorem aaG {m:gx} :(decide (m.kind=14)&&decide (m.to=31)&&m.aw.may&&m.Jq&&wQ m.fr)=nT m:=by
 by_cases hk:m.kind=14
 rotate_left
 ·simp [nT,hk]
 by_cases ht:m.to=31
 rotate_left
 ·simp [nT,ht]
 have hn:wQ 31=true:=rfl;have e1:m.strip=({ m with aw:=.zero },true):=by simp [gx.strip,hk]
 have e2:m.lI=m.aw.may:=by simp [gx.lI,hk]
 have e3:m.strip.1.isZero=m.Jq:=by
  rw [e1];simp only [gx.isZero,gx.Jq];have hz:decide ((m.keys.length:Int)+m.seen.length+m.writes.length+m.parts.length+m.ranges.length+m.eb.length=0)=((decide (m.keys=[])&&decide (m.seen=[])&&decide (m.writes=[])&&decide (m.parts=[])&&decide (m.ranges=[]))&&decide (m.eb=[])):=by
   rw [Bool.eq_iff_iff];simp only [decide_eq_true_eq,Bool.and_eq_true,←List.length_eq_zero_iff];omega
  rw [hz];simp only [decide_true,Bool.and_true,Bool.and_assoc]
 have e4:m.strip.2=true:=by rw [e1]
 unfold nT gx.err;rw [e2,e3,e4,ht,hn,hk];cases m.aw.may<;>cases m.Jq<;>cases wQ m.fr<;>simp
end Go.Proofs.YtfndblbeikocdaaGreat
namespace Go.Proofs.YtfndblbeikocdaaGreat
open Go.Proofs.Tryz renaming prog → pg
open Go.bB
set_option maxRecDepth 100000
set_option maxHeartbeats 1000000
set_option linter.unusedVariables false
set_option linter.unusedSimpArgs false
attribute [local irreducible] un jn aI aT ld1 ek st1 cA cp mE ea mF wh vy gG ga ab ax ay eW eV eU eC eF gE au fin aM aP aF vS y9 gg ix rr wi wj za zc zd fY iy ru wm wo ze zf
theorem GX {w:World} {X:XS} {a:Value} {xs:List jX} {most:Int} (ha:Sl w X 7 a (xs.map jX.l)):
  Ct pg 71 #[a,I most] w X nX AT:=by
 intro w0 hk;replace ha:=ha.mv hk.cE;have gC:=ha.gw;apply FA;unfold xv;have hs:=aj.init w0;refine fT (fun n a b w X=> ∃(i:Nat) (s:Int),a=I i∧b=I s∧n=(xs).length-i∧i≤(xs).length∧aj (aR w0) w0 X w) (xs).length ⟨0,_,rfl,rfl,rfl,aL _,hs⟩ ?_;rintro n a b w X ⟨i,s,rfl,rfl,rfl,hi,hs⟩;repeat' first|refine aG ?_;intros|refine dj ?_ ?_<;>intros|((first|(with_reducible refine ai hs ?_)|(with_reducible refine ai (bE.trans hs) ?_));intro wa hk;exact⟨_,rfl⟩)|(refine jj (iO  _ _ _ _ _) kQ hs.has ?_;intro n1 w X ao;replace hs:=hs.trans ao)|((with_reducible refine eR ((xs).length-(i+1)) ?_ ?_);omega;exact⟨i+1,_,by simp,rfl,rfl,by omega,hs⟩)|with_reducible apply mI
theorem Iv {w:World} {X:XS} {m:gx} {vk vs vw vp vr vc vh vd:Value} {most:Int} (ha:m.at w X vk vs vw vp vr vc vh vd):
  Ct pg 28 #[m.v vk vs vw vp vr vc vh vd,I most] w X nX AT:=by
 intro w0 hk;obtain⟨h1,h2,h3,h4,h5,h6,h7,h8⟩:=ha.mv hk.cE;have gC:=h6.len;apply GY;unfold yf;have hs:=aj.init w0;repeat' first|refine aG ?_;intros|(refine jj (iO  _ _ _ _ _) kQ hs.has ?_;intro n1 w X ao;replace hs:=hs.trans ao)|(refine jj (rj  qA) kQ hs.has ?_;intro n1 w X ao;replace hs:=hs.trans ao)|(refine jj (GX  qA) kQ hs.has ?_;intro n1 w X ao;replace hs:=hs.trans ao)|(refine jj (qm  qA) kQ hs.has ?_;intro n1 w X ao;replace hs:=hs.trans ao)|with_reducible apply mI
 refine fT (fun n a b w X=> ∃(i:Nat) (s:Int),a=I i∧b=I s∧n=(m.eb).length-i∧i≤(m.eb).length∧aj (aR w0) w0 X w) (m.eb).length ⟨0,_,rfl,rfl,rfl,aL _,hs⟩ ?_;rintro n a b w X ⟨i,s,rfl,rfl,rfl,hi,hs⟩;repeat' first|refine aG ?_;intros|refine dj ?_ ?_<;>intros|((with_reducible apply Oy);assumption;(try (case hz=>rfl));(case hr=>exact qR);(try (case hz=>omega));(case ht=>kernel_rfl);(case hs=>kernel_rfl);intros)|((first|(with_reducible refine ai hs ?_)|(with_reducible refine ai (bE.trans hs) ?_));intro wa hk;exact⟨_,rfl⟩)|(refine jj (iO  _ _ _ _ _) kQ hs.has ?_;intro n1 w X ao;replace hs:=hs.trans ao)|(refine jj (xw  (s:=m.state) qA qA) kQ hs.has ?_;intro n1 w X ao;replace hs:=hs.trans ao)|(refine jj ((Iw (r:=_))  (Rec.at.mv (by assumption) hs.mv)) kQ hs.has ?_;intro n1 w X ao;replace hs:=hs.trans ao)|((with_reducible refine eR ((m.eb).length-(i+1)) ?_ ?_);omega;exact⟨i+1,_,by simp,rfl,rfl,by omega,hs⟩)|with_reducible apply mI
structure lY where
 kind:Int
 n:Int
 m:gx
 RV:List Int
abbrev lY.l (o:lY) (vk vs vw vp vr vc vh vd vq:Value):List Value:=[I o.kind,I o.n,I o.m.kind,I o.m.fr,I o.m.to,I o.m.b6.iP,I o.m.b6.lu,I o.m.b6.sq,I o.m.range,I o.m.jo,I o.m.code,
 I o.m.aw.wall,I o.m.aw.dv,I o.m.aw.node,I o.m.prev.wall,I o.m.prev.dv,I o.m.prev.node,B o.m.ij,I o.m.n,I o.m.mx,vk,vs,vw,vp,vr,vc,
 I o.m.state.range.id,I o.m.state.range.jo,.float .f64 o.m.state.range.lo,.float .f64 o.m.state.range.hi,
 I o.m.state.floor.wall,I o.m.state.floor.dv,I o.m.state.floor.node,I o.m.state.closed.wall,I o.m.state.closed.dv,I o.m.state.closed.node,vh,vd,vq]
structure lY.at (w:World) (X:XS) (o:lY) (vk vs vw vp vr vc vh vd vq:Value):Prop where
 m:o.m.at w X vk vs vw vp vr vc vh vd
 p:Sl w X 1 vq (o.RV.map I1)
 nr:o.n<2^63
def lY.rd (w:World) (X:XS) (l:List Value) (o:lY):Prop:= ∃vk vs vw vp vr vc vh vd vq,l=o.l vk vs vw vp vr vc vh vd vq∧o.at w X vk vs vw vp vr vc vh vd vq
theorem lY.mv:E9 lY.rd:=fun ⟨vk,vs,vw,vp,vr,vc,vh,vd,vq,h,h1⟩ m=>⟨vk,vs,vw,vp,vr,vc,vh,vd,vq,h,⟨h1.m.mv m,h1.p.mv m,h1.nr⟩⟩
theorem NK {P:Program} {X X0:XS} {w w0:World} {N:Value→Prop} {t:TypeId} {v:Value} {xs:List lY} {i:Nat} {z:Int} {x:lY} (h:gq w0 X0 39 v lY.rd xs) (hr:xs[i]? =some x)
  (hz:z=i) (ht:P.underlying t=some (.slice (P.elem t))) (hs:(P.info? (P.elem t)).map (·.size)=some 39)
  (n: ∀b o vk vs vw vp vr vc vh vd vq,bB.one vk=true→bB.one vs=true→bB.one vw=true→bB.one vp=true→bB.one vr=true→bB.one vc=true→bB.one vh=true→bB.one vd=true→bB.one vq=true→
   Cells w0 X0 b o (x.l vk vs vw vp vr vc vh vd vq)→x.at w0 X0 vk vs vw vp vr vc vh vd vq→N (ptr b o)):ab P X w (cA t 39 v (.int .i64 z)) N:=
 RW h hr hz ht hs fun b o _ hc ⟨vk,vs,vw,vp,vr,vc,vh,vd,vq,hl,h1⟩=>n b o vk vs vw vp vr vc vh vd vq h1.m.keys.one h1.m.seen.one h1.m.writes.one h1.m.parts.one h1.m.ranges.one h1.m.eb.one h1.m.gF.one h1.m.eK.one h1.p.one (hl▸hc) h1
theorem aaH {w:World} {X:XS} {a:Value} {xs:List lY} (ha:gq w X 39 a lY.rd xs):
  Ct pg 8 #[a] w X nX fun v _ _=> ∃b:Bool,v=B b∧(b=true→xs.length≤200):=by
 intro w0 hk;replace ha:=gq.mv ha lY.mv hk.cE;have gC:=ha.len;apply L4;unfold B2;have hs:=aj.init w0;refine fT (fun n a b w X=> ∃(i:Nat) (s:Int),a=I i∧b=I s∧n=(xs).length-i∧i≤(xs).length∧aj (aR w0) w0 X w) (xs).length ⟨0,_,rfl,rfl,rfl,aL _,hs⟩ ?_;rintro n a b w X ⟨i,s,rfl,rfl,rfl,hi,hs⟩;rcases dX (xs) i with⟨cI,x,hx,hd⟩|⟨dV,hd⟩
 ·repeat' first|refine bQ ?_;intros|refine dj ?_ ?_<;>intros|(with_reducible apply NK);(case h=>assumption);(case hr=>exact hx);(case hz=>rfl);(case ht=>kernel_rfl);(case hs=>kernel_rfl);intros
  ·refine ep (Iv (m:=x.m) (gx.at.mv (lY.at.m (by assumption)) hs.mv)) kQ hs.has ?_;rintro _ wa w X ⟨n1,rfl⟩ hle eH ao;replace hs:=hs.trans ao;repeat' first|refine aG ?_;intros|with_reducible apply mI
   exact eR (xs.length-(i+1)) zQ ⟨i+1,_,by simp,rfl,rfl,by omega,hs⟩
  all_goals first
   |exact ai hs fun wa bD=>⟨true,rfl,fun _=>by omega⟩
   |exact ai hs fun wa bD=>⟨false,rfl,fun h=>by cases h⟩
 ·repeat' first|refine bQ ?_;intros|refine dj ?_ ?_<;>intros
  all_goals first
   |exact ai hs fun wa bD=>⟨true,rfl,fun _=>by omega⟩
   |exact ai hs fun wa bD=>⟨false,rfl,fun h=>by cases h⟩
end Go.Proofs.YtfndblbeikocdaaGreat
namespace Go.Proofs.YtfndblbeikocdaaGreat
open Go.Proofs.Tryz renaming prog → pg
open Go.bB
def kV (fs:List (Int×aO)) (r:Int):aO:=(getM r fs).getD .zero
theorem NL (fs:List (Int×aO)): ∀{rs:List Int} {a:aO},mV fs rs=some a→ ∃r∈rs,a=kV fs r:=fun {rs} =>by
 induction hn:rs.length generalizing rs with
 |zero=>intro a h;rw [cT hn] at h;cases h
 |succ n ih=>
  intro a h;rcases my rs with rfl|⟨l,r,rfl⟩
  ·cases hn
  ·rw [uD] at h;have hl:l.length=n:=by simpa using hn
   cases gC:mV fs l with
   |none=>rw [gC] at h;exact⟨r,by simp,by simpa [tp,kV] using h.symm⟩
   |some b=>
    rw [gC] at h;simp only [tp] at h;split at h
    ·exact⟨r,by simp,by simpa [kV] using h.symm⟩
    ·obtain⟨q,hq,he⟩:=ih hl gC;cases h;exact⟨q,List.mem_append_left _ hq,he⟩
theorem aaI (fs:List (Int×aO)): ∀{rs:List Int} {a:aO},mV fs rs=some a→ ∀r∈rs,¬(kV fs r).cmp a<0:=fun {rs} =>by
 induction hn:rs.length generalizing rs with
 |zero=>intro a h;rw [cT hn] at h;cases h
 |succ n ih=>
  intro a h q hq;rcases my rs with rfl|⟨l,r,rfl⟩
  ·cases hn
  ·rw [uD] at h;have hl:l.length=n:=by simpa using hn
   cases gC:mV fs l with
   |none=>
    have h0:=(yN fs l).1 gC;subst h0;rw [gC] at h;have h1:kV fs r=a:=by simpa [tp,kV] using h
    rw [eB,List.mem_singleton] at hq;subst hq;rw [h1];exact rH a
   |some b=>
    rw [gC] at h;simp only [tp] at h;rcases List.mem_append.1 hq with hq|hq
    ·have h2:=ih hl gC q hq;split at h
     ·rename_i cI;have h1:kV fs r=a:=by simpa [kV] using h
      rw [←h1];exact fun h9=>h2 (aaz h9 cI)
     ·cases h;exact h2
    ·rw [List.mem_singleton.1 hq];split at h
     ·have h1:kV fs r=a:=by simpa [kV] using h
      rw [h1];exact rH a
     ·rename_i dV;cases h;exact dV
def rE (fs:List (Int×aO)) (rs:List Int) (r:Int):Bool:=rs.all fun q=>!decide ((kV fs q).cmp (kV fs r)<0)
theorem Y5 {st:dM} {rs:List Int} (oR:rs=ig (st.fs.map (·.1))) {r:Int} (hr:r∈rs) (hs:rE st.fs rs r=true):lQ st r=false:=by
 have hl:rD st.fs≠none:=fun h=>by
  have h1:=(yN st.fs _).1 h;rw [oR,h1] at hr;cases hr
 cases hle:rD st.fs with
 |none=>exact absurd hle hl
 |some a=>
  obtain⟨q,hq,rfl⟩:=NL st.fs hle;have h2:=List.all_eq_true.1 hs q (oR▸hq);simp only [Bool.not_eq_true',decide_eq_false_iff_not] at h2;unfold lQ;rw [hle];have h3: ¬((getM r st.fs).getD .zero).cmp (kV st.fs q)>0:=fun h9=>h2 ((D9 _ _).2 h9);simp [h3]
theorem aaJ {fs:List (Int×aO)} {rs:List Int} (oR:rs=ig (fs.map (·.1))) (h0:rs≠[]):rs.any (rE fs rs)=true:=by
 cases hle:rD fs with
 |none=>exact absurd (oR.trans ((yN fs _).1 hle)) h0
 |some a=>
  obtain⟨q,hq,rfl⟩:=NL fs hle;refine List.any_eq_true.2 ⟨q,oR▸hq,List.all_eq_true.2 fun z hz=>?_⟩;have:=aaI fs hle z (oR▸hz);simp [this]
theorem Lf: ∀(l:List qG) (p:aO) (i:Nat),(lP p l)[i]? =(l[i]?).map (NA (jr p (l.take i)))
 |[],p,i=>by simp [lP]
 |e::l,p,0=>rfl
 |e::l,p,i+1=>by
  have h:=Lf l e.aw i;have e2:jr e.aw (l.take i)=jr p ((e::l).take (i+1)):=by
   rw [List.take_succ_cons];unfold jr;cases hq:l.take i with
   |nil=>rfl
   |cons b m=>
    rw [List.getLast?_cons_cons];cases hq2:(b::m).getLast? with
    |none=>simp at hq2
    |some e=>rfl
  simpa only [lP,List.getElem?_cons_succ,e2] using h
theorem xx: ∀(l:List qG) (p:aO),(lP p l).length=l.length
 |[],_=>rfl
 |e::l,_=>by simp [lP,xx l]
def tr (st:dM):Nat:=if st.told then min 8 st.q.length else 1
theorem aaK (st:dM):(uN st).length=tr st+(ig (st.b7.map (·.1))).length:=by
 unfold uN tr;cases st.told<;>simp [xx]<;>omega
theorem V5 {st:dM} (ht:st.told=true) {i:Nat} {e:qG} (hi:i<8) (he:(st.q.map Ev.e)[i]? =some e):(uN st)[i]? =some (NA (jr st.bA ((st.q.map Ev.e).take i)) e):=by
 have cI:i<st.q.length:=by have:=(List.getElem?_eq_some_iff.1 he).1;simpa using this
 unfold uN;rw [ht,if_pos rfl,List.getElem?_append_left (by rw [xx];simp;omega),Lf,List.map_take,List.getElem?_take_of_lt hi,he,List.take_take,Nat.min_eq_left zQ];rfl
theorem Y6 {st:dM} {rs:List Int} (oR:ig (st.b7.map (·.1))=rs) {i:Nat} {r:Int} (hr:rs[i]? =some r):(uN st)[tr st+i]? =some (xq st r):=by
 have hl: ∀A:List Om,A.length=tr st→(A++rs.map (xq st))[tr st+i]? =some (xq st r):=fun A hA=>by
  rw [List.getElem?_append_right zQ,hA,Nat.add_sub_cancel_left,dD,hr];rfl
 unfold uN;rw [oR];refine hl _ ?_;unfold tr;cases st.told<;>simp [xx]
theorem Uf {α β:Type} {f:α→β} {l:List α} {s:List β} (h:l.map f=s) {i:Nat} {y:β} (hy:s[i]? =some y): ∃x,l[i]? =some x∧f x=y:=by
 rw [←h,dD] at hy;cases hx:l[i]? with
 |none=>rw [hx] at hy;cases hy
 |some x=>rw [hx] at hy;exact⟨x,rfl,by simpa using hy⟩
section
variable {P : Program} {X : XS} {w : World} {N : Value → Prop} {t : TypeId} {xo yo : Operand} {c d : Bool}
theorem aiJ {ty:TypeId} {j len:Int} {v:Value} (hl: ∀N:Value→Prop,N (I len)→ab P X w (cp t ty v) N) (hi: ∀(N:Value→Prop) (a b:Int),N (.bool (decide (a<b)))→ab P X w (binOp .lss ty (I a) (I b)) N)
  (k:N (.bool (c&&decide (j<len)&&decide (j<8)))):un (aB (.bool c) true (I j)) fun u=>un (aB (.bool c) true v) fun u'=>ay P X w (.bool c) true (vS (cp t ty u')) fun x=>ay P X w (.bool c) true (vS (binOp .lss ty u x)) fun y=>
   ax P X w (aM (.bool c) y (.bool false)) fun z=>un (aB z true (I j)) fun u2=>ay P X w z true (vS (binOp .lss ty u2 (I 8))) fun y2=>ax P X w (aM z y2 (.bool false)) N:=by
 cases c
 ·exact pK (pK (vL (vL (qI (pK (vL (qI k)))))))
 ·refine tq (tq (B1 (hl _ (B1 (hi _ _ _ (s7 ?_))))));cases hd:decide (j<len)with
  |false=>rw [hd] at k;exact pK (vL (qI k))
  |true=>rw [hd] at k;exact tq (B1 (hi _ _ _ (s7 k)))
theorem agV (k:N (.bool (c||d))):un (aB (.bool c) false (.bool d)) fun a=>ax P X w (aM (.bool c) (.bool true) a) N:=by
 cases c
 ·exact Xh (qI k)
 ·exact Ug (s7 k)
end
set_option maxRecDepth 100000
set_option maxHeartbeats 1000000
set_option linter.unusedVariables false
set_option linter.unusedSimpArgs false
attribute [local irreducible] un jn aI aT ld1 ek st1 cA cp mE ea mF wh vy gG ga ab ax ay eW eV eU eC eF gE au fin aM aP aF vS y9 gg ix rr wi wj za zc zd fY iy ru wm wo ze zf
theorem Y7 {w:World} {X:XS} {own:Nat→Nat} {nb b lo:Nat} {st:dM} {ov:Value} {l:List Om} (h:cC w own nb st) (i:fD b st) (hb:b≤2^21) (hF:FX (all own) X w)
  (ho:mK w X lo ov l) (hl:l.map Om.p=uN st):Ct pg 15 #[ptr nb 0,ov,B st.told] w X nX fun v _ _=>v=B true:=by
 intro w0 hk;replace h:=h.kp hk fun k ah=>(hF k ah).1;have ho0:mK w0 (aR w0) lo ov l:=ho.mv hk.cE;have hold: ∀k,all own k→aR w0 k:=fun k ah=>aN (hF k ah).2 hk.size;have oov:=ho0.own.sl.one;apply JZ;unfold Ay;have hs:=aj.init w0;refine ep (OT h i zQ hold) kQ hs.has ?_;rintro wv wa w1 X1 ⟨es,Ai,hee⟩ hle eH ao;have x6:Sl w1 X1 7 wv (es.map Ev.l):=Ai.own.sl.mono eH;have hW1: ∀x∈es,Sl w1 X1 4 x.j7 (x.writes.map KV.l):=fun x hx=>(Ai.ws x hx).sl.mono eH;have kD:=ho0.mv ao.mv;have h1:=h.since ao hold;have Bj: ∀k,all own k→X1 k:=fun k ah=>ao.sub k (hold k ah);refine dH (TX h1 Bj) kQ ao.has fun w2 X2 dF=>?_;have bE:=ao.trans dF;have sv:=x6.mv dF.mv;have Xe: ∀x∈es,Sl w2 X2 4 x.j7 (x.writes.map KV.l):=fun x hx=>(hW1 x hx).mv dF.mv;have iH:=kD.mv dF.mv;have h2:=h1.since dF Bj;have zX: ∀k,all own k→X2 k:=fun k ah=>dF.sub k (Bj k ah);clear Ai x6 hW1 kD h1 Bj hs eH hle ho hk;have Ia:es.length=st.q.length:=by have:=congrArg List.length hee;simpa using this
 have W7:=i.len;have hll:l.length=tr st+(ig (st.b7.map (·.1))).length:=by rw [←aaK,←hl,aA]
 have hc8:tr st≤8:=by unfold tr;split<;>omega
 have hs:=aj.iB dF.has;have hoX:=iH;have Uh:=hoX.own.sl;have hE:=sv;repeat' first|refine aG ?_;intros
 refine ir (Q:=fun K=>K (I (if st.told then 0 else 1))) ?_ fun K hK=>?_
 ·refine Bg (fun n a c pv w X=> ∃j:Nat,a=I j∧c=I (if st.told then(j:Int)else 1)∧pv=(jr st.bA ((es.map Ev.e).take j)).v∧n=8-j∧j≤es.length∧(st.told=true→j≤8)∧aj X2 w2 X w) 8
   ⟨0,rfl,rfl,rfl,rfl,aL _,fun _=>aL _,hs⟩ ?_
  clear hs hoX Uh hE;rintro n a c pv w X ⟨j,rfl,rfl,rfl,rfl,hj,WR,hs⟩;have hoX:=iH.mv hs.mv;have Uh:=hoX.own.sl;have hE:=sv.mv hs.mv;refine aiJ (len:=es.length) (fun N hN=>xf hE kQ hN) (fun N a b=>Xi) ?_;by_cases hc:st.told=true∧j<es.length∧j<8
  ·obtain⟨ht,hje,hj9⟩:=hc;have hce:(st.told&&decide ((j:Int)<es.length)&&decide ((j:Int)<8))=true:=by simp [ht];omega
   obtain⟨x,hx,Ww⟩:=yC hje;obtain⟨y,hy,hyp⟩:=Uf hl (V5 (e:=x.e) ht hj9 (by rw [←hee,dD,hx];rfl));have y1:y.kind=12:=congrArg Om.kind hyp;have y2:y.prev=jr st.bA ((es.map Ev.e).take j):=by rw [hee];exact congrArg Om.prev hyp
   have y3:y.aw=x.aw:=congrArg Om.aw hyp;have y4:y.writes=x.writes:=congrArg Om.writes hyp;have wB:j<l.length:=(List.getElem?_eq_some_iff.1 hy).1;have hyw:=((iH.ws y (aH hy)).sl).mv hs.mv;have H7:=(Xe x (aH hx)).mv hs.mv;have oy:=hyw.one;have ox:=H7.one;rw [hce,ht];simp only [if_true];generalize hpv:jr st.bA ((es.map Ev.e).take j)=pv at y2;repeat' first|refine bQ ?_;intros|(with_reducible refine adk _ _ ?_ ?_ ?_);(· kernel_rfl);all_goals intros|with_reducible apply dJ|contradiction
   refine dH (u6 hyw H7) kQ hs.has fun w3 X3 ao=>?_;replace hs:=hs.trans ao;have hE:=sv.mv hs.mv;rw [decide_eq_true y4];repeat' first|refine aG ?_;intros
   refine zg (8-(j+1)) zQ ⟨j+1,by simp,by simp,?_,rfl,by omega,fun _=>by omega,hs⟩;rw [bg,dD,hx];simp [AQ,Ev.e]
  ·have hce:(st.told&&decide ((j:Int)<es.length)&&decide ((j:Int)<8))=false:=by
    cases ht:st.told with
    |false=>rfl
    |true=>
     have jN: ¬(j<es.length∧j<8):=fun h9=>hc ⟨ht,h9.1,h9.2⟩;simp only [Bool.true_and,Bool.and_eq_false_iff,decide_eq_false_iff_not];omega
   rw [hce];have afF:(if st.told then(j:Int)else 1)=(tr st:Int):=by
    unfold tr;cases ht:st.told with
    |false=>rfl
    |true=>
     have jN: ¬(j<es.length∧j<8):=fun h9=>hc ⟨ht,h9.1,h9.2⟩;have:=WR ht;simp only [if_true];omega
   rw [afF];clear hc hce afF hE Uh hoX WR hj;have hn:=h2.since hs zX;have hXX: ∀k,all own k→X k:=fun k ah=>hs.sub k (zX k ah);repeat' first|refine aG ?_;intros
   refine ep (Rl hn i zQ hXX) kQ hs.has ?_;rintro rv Ad w3 X3 Xj wT rP dZ;replace Xj:=(Xj.mono rP).sl;have bE:=bE.trans (hs.trans dZ);have Gv:=iH.mv (hs.trans dZ).mv;have h3:=h2.since (hs.trans dZ) zX;have Nz: ∀k,all own k→X3 k:=fun k ah=>dZ.sub k (hXX k ah);clear hn hXX hs;have hs:=aj.iB dZ.has;have kM:ig (st.b7.map (·.1))=ig (st.fs.map (·.1)):=Tw (i.YH h2);have MI:(ig (st.fs.map (·.1))).length≤2^40:=by
    have h9:=i.BS;rw [(l7 _).length_eq,aA];omega
   generalize oR:ig (st.fs.map (·.1))=rs at Xj kM MI;rw [kM] at hll;refine afG (fun n a bk c _ _ w X=> ∃j:Nat,a=I j∧bk=I (tr st+j:Nat)∧c=B ((rs.take j).any (rE st.fs rs))∧n=rs.length-j∧j≤rs.length∧aj X3 w3 X w) rs.length
    ⟨0,rfl,rfl,rfl,rfl,aL _,hs⟩ ?_
   clear hs;rintro n a bk c _ _ w X ⟨j,rfl,rfl,rfl,rfl,hj,hs⟩;have Uh:=(Gv.mv hs.mv).own.sl;have hR:=Xj.mv hs.mv;rcases dX rs j with⟨cI,r,hx,hd⟩|⟨dV,hd⟩
   ·obtain⟨y,hy,hyp⟩:=Uf hl (Y6 (st:=st) kM hx);have y1:y.kind=8:=congrArg Om.kind hyp;have y2:y.to=r:=congrArg Om.to hyp;have y3:y.n=mz st r:=congrArg Om.n hyp;have y4:y.mx=if lQ st r then 0 else 8:=congrArg Om.mx hyp
    have oy:=((Gv.ws y (aH hy)).sl).one;have wB:tr st+j<l.length:=(List.getElem?_eq_some_iff.1 hy).1;repeat' first|refine bQ ?_;intros|with_reducible apply dJ
    refine dH (K6 (r:=r) (h3.since hs Nz) fun k ah=>hs.sub k (Nz k ah)) kQ hs.has fun w X ao=>?_;replace hs:=hs.trans ao;have Uh:=(Gv.mv hs.mv).own.sl;have hR:=Xj.mv hs.mv;clear ao;have hpm:lQ st r=true∧y.mx=0∨lQ st r=false∧y.mx=8:=by
     rw [y4];cases lQ st r<;>simp
    have aiK:rE st.fs rs r=true→lQ st r=false:=Y5 oR.symm (aH hx);rcases hpm with⟨hp,hm⟩|⟨hp,hm⟩;all_goals
     repeat' first|refine bQ ?_;intros
     refine dH (xm (r:=r) (h3.since hs Nz) fun k ah=>hs.sub k (Nz k ah)) kQ hs.has fun w X ao=>?_;replace hs:=hs.trans ao;clear ao;repeat' first|refine aG ?_;intros
     refine fT (fun n a c w X=> ∃q:Nat,a=I q∧c=B ((rs.take q).all fun z=>!decide ((kV st.fs z).cmp (kV st.fs r)<0))∧n=rs.length-q∧q≤rs.length∧aj X3 w3 X w) rs.length ⟨0,rfl,rfl,rfl,aL _,hs⟩ ?_;clear hs Uh hR;rintro n a c w X ⟨q,rfl,rfl,rfl,hq,hs⟩;have Uh:=(Gv.mv hs.mv).own.sl;have hR:=Xj.mv hs.mv;rcases dX rs q with⟨abA,r2,Aj,rq⟩|⟨abi,rq⟩
     ·have gN:(rs.take (q+1)).all (fun z=>!decide ((kV st.fs z).cmp (kV st.fs r)<0))=((rs.take q).all (fun z=>!decide ((kV st.fs z).cmp (kV st.fs r)<0))&&!decide ((kV st.fs r2).cmp (kV st.fs r)<0)):=by
       rw [bg,Aj];simp
      repeat' first|refine bQ ?_;intros
      refine dH (xm (r:=r2) (h3.since hs Nz) fun k ah=>hs.sub k (Nz k ah)) kQ hs.has fun w X ao=>?_;replace hs:=hs.trans ao;clear ao;generalize fF:((rs.take q).all fun z=>!decide ((kV st.fs z).cmp (kV st.fs r)<0))=fl at gN;cases fl
      ·repeat' first|refine aG ?_;intros|with_reducible apply dJ
       exact eR (rs.length-(q+1)) zQ ⟨q+1,by simp,by rw [gN];rfl,rfl,by omega,hs⟩
      ·repeat' first|refine aG ?_;intros|with_reducible apply dJ
       refine gh (V4 (kV st.fs r2) (kV st.fs r)) kQ hs.has fun w X ao=>?_;replace hs:=hs.trans ao;rw [Bool.true_and] at gN;cases aiL:decide ((kV st.fs r2).cmp (kV st.fs r)<0);all_goals
        rw [aiL] at gN;repeat' first|refine aG ?_;intros
        exact eR (rs.length-(q+1)) zQ ⟨q+1,by simp,by rw [gN];rfl,rfl,by omega,hs⟩
     ·have W7:q=rs.length:=by omega
      subst W7;rw [kR];have gN:(rs.take (j+1)).any (rE st.fs rs)=((rs.take j).any (rE st.fs rs)||rE st.fs rs r):=by
       rw [bg,hx];simp
      rw [show(rs.all fun z=>!decide ((kV st.fs z).cmp (kV st.fs r)<0))=rE st.fs rs r from rfl];generalize fF:(rs.take j).any (rE st.fs rs)=fl at gN;cases lD:rE st.fs rs r;all_goals
       rw [lD] at gN;try (exfalso;have h9:=aiK lD;rw [h9] at hp;cases hp;done)
       all_goals
        repeat' first|refine bQ ?_;intros
       all_goals refine agV ?_
       all_goals
        repeat' first|refine aG ?_;intros
       all_goals exact afH (rs.length-(j+1)) zQ ⟨j+1,by simp,(by simp only [Value.int.injEq,true_and];omega),by rw [gN],rfl,by omega,hs⟩
   ·have qB:j=rs.length:=by omega
    subst qB;rw [kR];have aiM:(rs.any (rE st.fs rs)||decide ((rs.length:Int)=0))=true:=by
     by_cases h0:rs=[]
     ·simp [h0]
     ·rw [aaJ oR.symm h0];rfl
    cases fF:rs.any (rE st.fs rs);all_goals
     rw [fF] at aiM;repeat' first|refine bQ ?_;intros|refine dj ?_ ?_<;>intros|(exfalso;simp_all;done)
     all_goals exact ai (bE.trans hs) fun wa bD=>by first|rfl|simp_all
 ·cases ht:st.told
  ·rw [ht] at hK;obtain⟨y,hy,hyp⟩:=Uf hl (i:=0) (y:=BT) (by unfold uN;rw [ht];rfl);have y1:y.kind=13:=congrArg Om.kind hyp;have y2:y.to=32:=congrArg Om.to hyp;have oy:=((iH.ws y (aH hy)).sl).one;have wB:0<l.length:=(List.getElem?_eq_some_iff.1 hy).1;repeat' first|refine bQ ?_;intros
   exact hK
  ·rw [ht] at hK;repeat' first|refine aG ?_;intros
   exact hK
end Go.Proofs.YtfndblbeikocdaaGreat
namespace Go.Proofs.YtfndblbeikocdaaGreat
open Go.Proofs.Tryz renaming prog → pg
open Go.bB
set_option maxRecDepth 100000
set_option maxHeartbeats 1000000
set_option linter.unusedVariables false
set_option linter.unusedSimpArgs false
attribute [local irreducible] un jn aI aT ld1 ek st1 cA cp mE ea mF wh vy gG ga ab ax ay eW eV eU eC eF gE au fin aM aP aF vS y9 gg ix rr wi wj za zc zd fY iy ru wm wo ze zf
def u7 (l:List lY):Nat:=(l.map fun o=>iZ o.m.eb).sum
theorem aaL {l:List lY} {i:Nat} {x:lY} (hx:l[i]? =some x):u7 (l.take (i+1))=u7 (l.take i)+iZ x.m.eb:=by rw [bg,hx];simp [u7]
theorem Xk (l:List lY) (i:Nat):u7 (l.take i)≤u7 l:=by
 have h:=congrArg u7 (List.take_append_drop i l);have e:u7 (l.take i++l.drop i)=u7 (l.take i)+u7 (l.drop i):=by unfold u7;rw [bp,List.sum_append]
 rw [e] at h;omega
theorem agW {i:Nat} {M:Value→Prop} (k:M (cellOf undef i)):un (cellOf undef i) M:=by unfold un;exact k
theorem O5 {w:World} {X:XS} {vo:Value} {R M:Int} {ops:List lY} (h1:gq w X 39 vo lY.rd ops) (fN: ∀o∈ops,o.m.small∧o.m.lens≤2^62∧ ∀r∈o.m.eb,r.sz) (hbk:u7 ops≤2^20):
  Ct pg 3 #[I R,I M,vo] w X nX fun v _ _=>v=B true:=by
 intro w0 hk;replace h1:=gq.mv h1 lY.mv hk.cE;have Z5:=h1.len;have Ee:Ft w0 nX w0 (aR w0) nX:=Ft.init fun _ h=>h.elim;have fR:gq w0 (out nX w0) 39 vo lY.rd ops:=gq.mv h1 lY.mv fun k ah _=>⟨⟨ah,fun h=>h.elim⟩,rfl⟩;apply Ei;unfold vM;refine dH yO kQ Ee.s.has fun w1 X1 ao=>?_;have dq:=Ee.since ao;clear Ee ao;have hs:=dq.s;repeat' first|refine aG ?_;intros
 refine ep M5 kQ dq.s.has ?_;rintro _ zr w2 X2 ⟨db,rfl,hD0⟩ oU lx dF;have cq:=dq.since dF;clear hs;have hs:=cq.s;repeat' first|refine aG ?_;intros
 refine ep (Le (ranges:=R) (room:=M) hD0 (fun k ah=>⟨lx k ah,ah.2⟩) rfl rfl) kQ cq.s.has ?_;rintro v Ad w3 X3 hq wT rP dZ;have dG:=cq.since dZ;clear hs;have hs:=dG.s;have aiN: ∀(w X F),Ft w0 nX w X F→eC pg (Bs nX w0 fun v w'=>(fun v x x_1=>v=B true) v w0 w') X w true 5 #[] fun x w X=>bB.fin (Bs nX w0 fun v w'=>(fun v x x_1=>v=B true) v w0 w') X w x:=fun w X F hT=>by
  refine dH yO kQ hT.s.has fun w X hs=>?_;exact(hT.since hs).fin fun wa bD=>rfl
 rcases hq with⟨rfl,tH⟩|⟨nb,own,st,_,_,rfl,lN,hN,hI,Eg⟩
 ·repeat' first|refine bQ ?_;intros|with_reducible apply dJ
  refine dH yO kQ dG.s.has fun w4 X4 j6=>?_;have fk:=dG.since j6;clear hs;have hs:=fk.s;repeat' first|refine bQ ?_;intros|((with_reducible refine LY kQ ?_))
  exact fk.fin fun wa bD=>rfl
 have K8:=cq.s.kp.size;replace dG:Ft w0 nX w3 X3 (all own):=dG.more fun k ah=>.inr ⟨rP k (lN k ah),by have:=(lN k ah).1;omega⟩;have Lb:B st.told=B false:=by rw [Eg.told]
 clear cq dq hD0 lN Eg dF dZ lx rP;repeat' first|refine bQ ?_;intros
 refine ir (Q:=fun K=> ∀(b:Bool) w X,(b=true→ops.length≤200)→Ft w0 nX w X (all own)→cC w own nb st→K (B b) w X) ?_ fun K hK=>?_
 ·intro few w4 X4 acb fk hN4;clear hs dG hN;have hs:=fk.s;cases few
  ·repeat' first|refine aG ?_;intros
   refine dH yO kQ fk.s.has fun w5 X5 Gh=>?_;have fU:=fk.since Gh;clear hs;have hs:=fU.s;repeat' first|refine bQ ?_;intros|((with_reducible refine LY kQ ?_))
   exact fU.fin fun wa bD=>rfl
  have hn:=acb rfl;repeat' first|refine aG ?_;intros
  refine fT (fun n a t w X=> ∃(i:Nat) (own:Nat→Nat) (st:dM),a=I i∧t=B st.told∧n=ops.length-i∧i≤ops.length∧Ft w0 nX w X (all own)∧cC w own nb st∧fD (12+u7 (ops.take i)) st) ops.length
   ⟨0,own,st,rfl,Lb.symm,rfl,aL _,fk,hN4,by simpa [u7] using hI⟩ ?_
  clear fk hN4 hI Lb hs own st;rintro m a t w5 X5 ⟨i,own,st,rfl,rfl,rfl,hi,fU,hN5,hI5⟩;have hoi:=Xk ops i;have h15:=gq.mv fR lY.mv fU.s.mv;have hs:=fU.s;rcases dX ops i with⟨cI,o,hx,hd⟩|⟨dV,hd⟩
  ·have h16:gq w5 (out nX w0) 39 vo lY.rd ops:=gq.mv fR lY.mv fun k ah _=>⟨ah,fU.s.kp.block k ah⟩;have afI:Mv (out nX w0) w5 X5 w5:=fun k ah _=>⟨fU.s.sub k ah,rfl⟩;have hrt:=aaL hx;have Z4:=Xk ops (i+1);obtain⟨z1,z2,z3⟩:=fN o (aH hx);repeat' first|refine bQ ?_;intros|(with_reducible apply NK);(case h=>exact h16);(case hr=>exact hx);(case hz=>rfl);(case ht=>kernel_rfl);(case hs=>kernel_rfl);intro b1 o1 vk vs vw vp vr vc vh vd vq _ _ _ _ _ _ _ _ _ It Y8;replace It:=It.mv afI
   refine ir (Q:=fun K=> ∀(b:Bool) w X own st,b=st.told→Ft w0 nX w X (all own)→cC w own nb st→fD (12+u7 (ops.take (i+1))) st→K (B b) w X) ?_ fun K2 K3=>?_
   ·rintro _ w6 X6 rU qH rfl gU Xl Gy;clear hs;have hs:=gU.s
    skip
    refine ep (K9 Xl Gy zQ fun k ah=>gU.bm k ah) kQ gU.s.has ?_;rintro _ wa7 w7 X7 ⟨ov,l,rfl,hO,hl⟩ afn Ub wP;have nv:=gU.since wP;have hN7:=Xl.since wP fun k ah=>gU.bm k ah;have Tm:=hO.mv (Mv.sub Ub);have ovo:=Tm.own.sl.one;clear hs;have hs:=nv.s;repeat' first|refine bQ ?_;intros|with_reducible apply dJ
    refine dH (Y7 hN7 Gy zQ (nv.fx fun k ah=>ah) Tm hl) kQ nv.s.has fun w8 X8 KH=>?_;have s4:=nv.since KH;have hN8:=hN7.since KH fun k ah=>nv.bm k ah;clear hs;have hs:=s4.s;repeat' first|refine aG ?_;intros
    exact eR (ops.length-(i+1)) zQ ⟨i+1,rU,qH,by simp,rfl,rfl,by omega,s4,hN8,Gy⟩
   ·have kP: ∀k,out nX w0 k→X5 k∧own k=0:=fun k ah=>⟨fU.s.sub k ah,by
     rcases du (own k)with h9|h9
     ·exact h9
     ·exact absurd ah (fU.no (by show own k≠0;omega))⟩
    repeat' first|refine aG ?_;intros|refine dj ?_ ?_<;>intros|(with_reducible apply NK);(case h=>exact h16);(case hr=>exact hx);(case hz=>rfl);(case ht=>kernel_rfl);(case hs=>kernel_rfl);intro b1 o1 vk vs vw vp vr vc vh vd vq _ _ _ _ _ _ _ _ _ It Y8;replace It:=It.mv afI
    ·refine fU.call (Du (m:=o.m) hN5 hI5 (fU.fx fun k ah=>ah) Y8.m kP z1 z2 z3 zQ) kQ (fun k ah=>ah) ?_;rintro _ Qd w6 X6 ⟨rfl,rU,qH,Xg,Xl,Gy,K5⟩ HX LA gU c6;replace gU:Ft w0 nX w6 X6 (all rU):=gU.less Xg;replace Gy:fD (12+u7 (ops.take (i+1))) qH:=by rw [hrt,←Nat.add_assoc];exact Gy
     have Sj:=K5.told;rw [←aaG] at Sj;have h17:gq w6 (out nX w0) 39 vo lY.rd ops:=gq.mv fR lY.mv fun k ah _=>⟨ah,gU.s.kp.block k ah⟩;have afJ:Mv (out nX w0) w6 X6 w6:=fun k ah _=>⟨gU.s.sub k ah,rfl⟩;clear hs It Y8;have hs:=aj.iB gU.s.has;cases ht:st.told;all_goals
      rw [ht] at Sj;repeat' first|refine aG ?_;intros|refine dj ?_ ?_<;>intros|with_reducible apply dJ|((with_reducible refine dI (YY _) ?_ hs.has ?_ ?_);(· kernel_rfl);all_goals (intro _ w X ao;replace hs:=hs.trans ao))|((with_reducible refine dI (YZ _) ?_ hs.has ?_ ?_);(· kernel_rfl);all_goals (intro _ w X ao;replace hs:=hs.trans ao))|(with_reducible apply NK);(case h=>exact h17);(case hr=>exact hx);(case hz=>rfl);(case ht=>kernel_rfl);(case hs=>kernel_rfl);intro b1 o1 vk vs vw vp vr vc vh vd vq _ _ _ _ _ _ _ _ _ It Y8;replace It:=It.mv afJ|with_reducible refine agW ?_|(refine eO (OY (m:=o.m) ((lY.at.m (by assumption)).mv afJ|>.mv hs.mv)) kQ hs.has ?_ ?_<;>(intro _ w X ao;replace hs:=hs.trans ao))
      all_goals exact K3 _ _ _ rU qH (by rw [Sj];simp [*]) (gU.since hs) (Xl.since hs fun k ah=>gU.bm k ah) Gy
    ·refine fU.call (K7 (r:=o.n) hN5 hI5 (fU.fx fun k ah=>ah)) kQ (fun k ah=>ah) ?_;rintro _ Qd w6 X6 ⟨rfl,rU,qH,Xg,Xl,Gy,WG,_⟩ HX LA gU c6;replace gU:Ft w0 nX w6 X6 (all rU):=gU.less Xg;exact K3 _ w6 X6 rU qH WG.told.symm gU Xl (Gy.up zQ)
    ·exact K3 _ w5 X5 own st rfl fU hN5 (hI5.up zQ)
  ·have hs:=fU.s;repeat' first|refine bQ ?_;intros
   exact aiN _ _ _ fU
 ·repeat' first|refine aG ?_;intros
  refine ep (aaH (gq.mv fR lY.mv dG.s.mv)) kQ dG.s.has ?_;rintro _ KI w4 X4 ⟨few,rfl,acb⟩ E8 Di j6;exact hK few w4 X4 acb (dG.since j6) (hN.since j6 fun k ah=>dG.bm k ah)
end Go.Proofs.YtfndblbeikocdaaGreat
