/-
 Part 8 of the proof: what the last text leans on.
-/
import Derived.Test.YtfndblbeikocdaaGreatY7
open Nat renaming le_trans → af, zero_le → aN, lt_of_lt_of_le → aI
open List renaming length_append → ae, append_assoc → aB, take_of_length_le → aY, length_map → ay, length_cons → bP, map_cons → bB, mem_cons_of_mem → bG, map_append → bo, map_map → dS, map_congr_left → gI, take_add_one → bc, append_nil → fh, length_nil → dj, foldl_map → sx, mem_cons_self → di, mem_of_getElem? → aA, length_take → aW
open BitVec renaming ofInt → bY
open Function renaming comp → kO
open Go.IntKind renaming signed → kh, wrap → BH, bits → nI
open Go.Value renaming ownBlock → ec
open Option.some renaming injEq → ax
open Int renaming fdiv_eq_ediv_of_nonneg → gN
set_option linter.unusedVariables false
set_option linter.unusedSimpArgs false
namespace Go.Proofs.YtfndblbeikocdaaGreat
open Go.Proofs.Tryz renaming prog → pg
open Go.bu
set_option maxRecDepth 100000
set_option maxHeartbeats 1000000
set_option linter.unusedVariables false
set_option linter.unusedSimpArgs false
attribute [local irreducible] un jn aF aT ld1 ew st1 dt cB lS dV lT uN tG gq fW ad az aJ eW eV eU eC eF gE au fin aQ aM aH vS xt gp il pR uO xu xv xw xx gm im pS uP xy xz xA
theorem Ks {k:dX} {a:nU} {l:eE} {y:dX×nU} (h:y∈l) (hy:y.1≠k):y∈bM k a l:=by
 induction l with
 |nil=>cases h
 |cons x l ih=>
  unfold bM;rcases List.mem_cons.1 h with rfl|h
  ·rw [if_neg hy];exact di
  ·split
   ·exact bG _ h
   ·exact bG _ (ih h)
theorem qD {k:dX} {a:nU} : ∀{l:eE},(k,a)∈bM k a l
 |[]=>by simp [bM]
 |x::l=>by unfold bM;split<;>simp [qD]
theorem adL {m:eE} {k:dX} {q a:nU} (hn:(m.map (·.1)).Nodup) (hq:getM k m=some q) (FR:a.br=q.br) {g:Nat} (h:fZ (bM k a m) g):fZ m g∨a.bw=some g:=by
 obtain⟨x,hx,hg⟩:=h;rcases fc hn hx with rfl|⟨hx,_⟩
 ·rcases hg with hg|hg
  ·exact .inl ⟨_,kR hq,.inl (by rw [←FR];exact hg)⟩
  ·exact .inr hg
 ·exact .inl ⟨x,hx,hg⟩
theorem qi.put {m:eE} {k:dX} {q a:nU} (h:qi m) (hn:(m.map (·.1)).Nodup) (hq:getM k m=some q) (FR:a.br=q.br) (hbw: ∀g,a.bw=some g→ ¬fZ m g):qi (bM k a m):=by
 have hm:=kR hq;have e1: ∀y∈m,y.1≠k→a.sep y.2:=fun y hy bW=>by
  have hs:=h.all _ hm y hy bW;exact⟨by rw [FR];exact hs.1,by rw [FR];exact hs.2.1,fun g hg hb=>hbw g hg ⟨y,hy,.inl hb⟩,fun g hg hb=>hbw g hg ⟨y,hy,.inr hb⟩⟩
 refine⟨fun x hx=>?_,fun x hx y hy bW=>?_⟩
 ·rcases fc hn hx with rfl|⟨hx,_⟩
  ·exact fun g hg hb=>hbw g hb ⟨_,hm,.inl (by rw [←FR];exact hg)⟩
  ·exact h.two x hx
 ·rcases fc hn hx with rfl|⟨hx,hxk⟩<;>rcases fc hn hy with rfl|⟨hy,Y7⟩
  ·exact absurd rfl bW
  ·exact e1 y hy Y7
  ·exact(e1 x hx hxk).symm
  ·exact h.all x hx y hy bW
theorem Py.put {m:eE} {k:dX} {a:nU} (h:Py m) (hn:(m.map (·.1)).Nodup) (ha:a.p.ok):Py (bM k a m):=fun x hx=>by
 rcases fc hn hx with rfl|⟨hx,_⟩
 ·exact ha
 ·exact h x hx
def pV (tb mb:Nat) (m:eE):XS:=fun k=>k=tb∨k=mb∨fZ m k
theorem df.tight {w:World} {X:XS} {tb mb:Nat} {s:iv} {m:eE} (h:df w X (fZ m) tb mb s m):df w (pV tb mb m) (fZ m) tb mb s m:=by
 refine⟨⟨.inl rfl,h.box.2⟩,h.lX.own.mv e7.mv (fun k hk _=>⟨.inr (.inl hk),rfl⟩) (Mv.refl _ _),fun k hk=>.inr (.inr hk),h.off,h.ne⟩
theorem df.wide {w:World} {X Y A:XS} {tb mb:Nat} {s:iv} {m:eE} (h:df w X A tb mb s m) (hs: ∀k,X k→Y k):df w Y A tb mb s m:=
 ⟨h.box.mv (Mv.sub hs),h.lX.mv e7.mv (Mv.sub hs) (Mv.refl _ _),fun k hk=>hs k (h.sub k hk),h.off,h.ne⟩
theorem df.fp {w:World} {X A:XS} {tb mb:Nat} {s:iv} {m:eE} (h:df w X A tb mb s m): ∀k,fZ m k→A k∧k<w.heap.size:=fun k ⟨x,hx,hg⟩=>
 let⟨_,hv⟩:=fy.all h.lX x hx
 hv.dK hg
theorem df.exact {w:World} {X A:XS} {tb mb:Nat} {s:iv} {m:eE} (h:df w X A tb mb s m):df w X (fZ m) tb mb s m:=by
 refine⟨h.box,?_,fun k hk=>h.sub k (h.fp k hk).1,fun k hk=>h.off k (h.fp k hk).1,h.ne⟩;obtain⟨es,c,h1,h2⟩:=h.lX;refine⟨es,c,h1,?_⟩;have key: ∀{es:List (iq dX)} {l:eE},(∀x∈l,x∈m)→jq w A e7 es l→jq w (fZ m) e7 es l:=by
  intro es
  induction es with
  |nil=>intro l _ hr;cases l<;>first|trivial|exact hr.elim
  |cons e es ih=>
   intro l hl hr;cases l with
   |nil=>exact hr.elim
   |cons y l=>exact⟨hr.1,e7.loc hr.2.1 fun g hg=>⟨⟨y,hl y (by simp),hg⟩,rfl⟩,ih (fun z hz=>hl z (by simp [hz])) hr.2.2⟩
 exact key (fun _ h=>h) h2
theorem df.head {w w':World} {X X' A:XS} {tb mb:Nat} {s s':iv} {m:eE} (h:df w X A tb mb s m) (c:ef (fun k=>k=tb) X w X' w')
  (hr:bI w' X' tb [I s'.id,I s'.next,I s'.closed.wall,I s'.closed.dp,I s'.closed.node,.map (some mb)] 174):df w' X' A tb mb s' m:=by
 refine⟨hr,h.lX.own.mv e7.mv (fun k hk _=>?_) (fun k hk _=>?_),fun k hk=>c.sub k (h.sub k hk),h.off,h.ne⟩
 ·subst hk;exact⟨c.sub _ h.lX.x.1,c.block _ h.lX.x.1 (Ne.symm h.ne)⟩
 ·exact⟨hk,c.block k (h.sub k hk) (h.off k hk).1⟩
theorem df.body {w w':World} {X X' A A':XS} {tb mb:Nat} {s:iv} {m m':eE} (h:df w X A tb mb s m) (c:ef (fun k=>k=mb) X w X' w')
  (hm:fy w' X' A' mb (fun k:dX=>k.v) e7 m') (hA: ∀k,A' k→X' k∧k≠tb∧k≠mb):df w' X' A' tb mb s m':=
 ⟨⟨c.sub _ h.box.1,by rw [c.block _ h.box.1 h.ne];exact h.box.2⟩,hm,fun k hk=>(hA k hk).1,fun k hk=>(hA k hk).2,h.ne⟩
def CZ (pt:Nat) (e:dX×dB×Int):dX×dB×Int:=(e.1,e.2.1.cut pt,e.2.2)
theorem H9 (m:eE):(cont m).map (·.1)=m.map (·.1):=by simp [cont]
theorem aab {m mi:eE} {ks:List dX} {i:Nat} {x:dX} {q a:nU} {pt:Nat} (hc:cont mi=(cont m).map fun e=>if e.1∈ks.take i then CZ pt e else e) (hk:ks.Nodup) (hx:ks[i]? =some x)
  (hn:(mi.map (·.1)).Nodup) (hq:getM x mi=some q) (h1:a.p=q.p.cut pt) (h2:a.fY=q.fY):cont (bM x a mi)=(cont m).map fun e=>if e.1∈ks.take (i+1)then CZ pt e else e:=by
 rw [Pz hn ⟨q,hq⟩];have Cl:(cont mi).map (fun e=>if e.1=x then(x,a.p,a.fY)else e)=(cont mi).map (fun e=>if e.1=x then CZ pt e else e):=by
  simp only [cont,dS];refine gI fun y hy=>?_;simp only [kO];by_cases h:y.1=x
  ·have:getM x mi=some y.2:=mR hn (by rw [←h];exact hy);rw [hq] at this;cases this;simp [h,CZ,h1,h2]
  ·simp [h]
 rw [Cl,hc,dS];refine gI fun e _=>?_;have iE:ks.take (i+1)=ks.take i++[x]:=by rw [bc,hx];rfl
 have nk:x ∉ ks.take i:=by
  have:=hk.sublist (List.take_sublist (i+1) ks);rw [iE,List.nodup_append] at this;intro gR;exact this.2.2 x gR x (by simp) rfl
 simp only [kO,iE,List.mem_append,List.mem_singleton];by_cases h1:e.1∈ks.take i
 ·have:e.1≠x:=fun e'=>nk (e'▸h1);simp [h1,CZ,this]
 ·by_cases h2:e.1=x<;>simp [h1,h2,nk]
theorem aac {left:eE} {k:dX} {a:nU} (hn:(left.map (·.1)).Nodup) (h:(k,a)∈left):(left.map (·.1)).Perm (k::(left.filter fun y=>decide (y.1≠k)).map (·.1)):=by
 have h1:k∈left.map (·.1):=List.mem_map.2 ⟨_,h,rfl⟩;have h2:(left.filter fun y=>decide (y.1≠k)).map (·.1)=(left.map (·.1)).filter fun y=>decide (y≠k):=by rw [List.filter_map];rfl
 have h3:=List.perm_cons_erase h1;rw [hn.erase_eq_filter] at h3;rw [h2];refine h3.trans (List.Perm.cons _ ?_);rw [show(left.map (·.1)).filter (fun y=>y !=k)=(left.map (·.1)).filter (fun y=>decide (y≠k))from List.filter_congr fun y _=>by simp [bne,Bool.beq_eq_decide_eq]]
theorem tj.own {w:World} {X A:XS} {r b:Nat} {l left:eE} {kv:dX→Value} {rd:World→XS→Value→nU→Prop} (h:tj w X A r b kv rd l left):tj w (fun k=>k=r∨k=b) A r b kv rd l left:=
 let⟨es,c,Du,h1,h2,h3,h4⟩:=h
 ⟨es,c,Du,⟨⟨.inr rfl,h1.1.2⟩,.inl rfl,h1.2.2⟩,h2,h3,h4⟩
theorem tj.x {w:World} {X A:XS} {r b:Nat} {l left:eE} {kv:dX→Value} {rd:World→XS→Value→nU→Prop} (h:tj w X A r b kv rd l left):X r∧X b∧r<w.heap.size∧r≠b:=by
 obtain⟨es,c,Du,h1,_⟩:=h;obtain⟨s,hs,_⟩:=h1.2.2.2;exact⟨h1.2.1,h1.1.1,(Array.getElem?_eq_some_iff.1 hs).1,h1.2.2.1⟩
abbrev T3 (k:dX):List Value:=[I k.iH,I k.lg,I k.sq]
abbrev Told.v (kind:Int) (gF fY:Int) (t:dX) (s:aK) (vw:Value) (child:Int) (st:aK):Value:=
 .agg #[I kind,I gF,I fY,I t.iH,I t.lg,I t.sq,I s.wall,I s.dp,I s.node,vw,I child,I st.wall,I st.dp,I st.node]
theorem TJ {w:World} {X:XS} {tb mb:Nat} {s:iv} {m:eE} {r:Rec} {vr vw vp vq vh vd:Value} (h:df w X (fZ m) tb mb s m) (hX: ∀k,X k→k<w.heap.size)
  (ha:r.at w X vr vw vp vq vh vd) (ju:qi m) (ml:Py m) (Vt:m.length≤2^40):
  Ct pg 125 #[ptr tb 0,r.v vr vw vp vq vh vd] w X (pV tb mb m) fun v wa w'=> ∃m',cont m'=(cont m).map (CZ r.jP)∧qi m'∧(∀k,fZ m' k→fZ m k∨wa.heap.size≤k)∧
   df w' (pV tb mb m') (fZ m') tb mb { s with closed:=s.closed.later r.aw } m'∧
   v=Told.v 2 0 0 ⟨0,0,0⟩ .zero (.slice none 0 0) r.n (vZ (s.closed.later r.aw) m'):=by
 intro w0 hk;replace h:=h.mv hX hk.cL;replace ha:=ha.mv hk.cL;have h1:=ha.1;have h2:=ha.2.1;have h3:=ha.2.2.1;have h4:=ha.2.2.2.1;have h5:=ha.2.2.2.2.1;have h6:=ha.2.2.2.2.2;have o1:=h1.one;have o2:=h2.one;have o3:=h3.one;have o4:=h4.one;have o5:=h5.one;have o6:=h6.one;have hF: ∀k,pV tb mb m k→k<w0.heap.size:=fun k ah=>by
  rcases ah with h'|h'|h'
  ·rw [h'];exact h.box.lt
  ·rw [h'];exact h.lX.x.2
  ·exact(h.fp k h').2
 apply HO;unfold y6;have hs:=ak.out (pV tb mb m) w0;refine ns hs.has fun bx w X eX aq bE=>?_;replace hs:=hs.trans aq;have hT:=h.mv (fun k h=>h) aq.mv;have J8:=aq.has;have kJ:=hT.box;clear h hk h1 h2 h3 h4 h5 h6 ha aq;repeat' first|refine aD ?_;intros|((with_reducible refine fX (tM _ _) ?_ hs.has ?_);(· kernel_rfl);intro w X aq;replace hs:=hs.trans aq)
 rename_i e3 c3;subst e3;clear c3;rename_i aq _ ;rename_i w1 X1 _ ;rename_i _ c2 ;clear c2;replace hT:=hT.mv J8 aq.mv;replace bE:=bE.since aq;refine qh hT.box kQ (by simp) rfl rfl hs.has fun w2 X2 hc kl=>?_;have b8:=hT.head (s':= { s with closed:=s.closed.later r.aw }) hc kl;have XU:bI w2 X2 bx _ _:=bE.own.mv (hc.mv fun k hk=>⟨by rw [hk];exact bE.1,by have:=hF tb (.inl rfl);omega⟩);have xH:=hs.dF hc fun k hk e=>hk.2 (.inl e);have kJ:=b8.box;clear hs aq hT bE kl;have bF:=ak.iS xH.has;have hs:=bF;repeat' first|refine aD ?_;intros
 refine Iz (kt:=32) (et:=184) b8.lX e7.mv b8.sub kQ hs.has fun ri w X hr aq rM=>?_;have B6:List.Perm ([]++m.map (·.1)) (m.map (·.1)):=List.Perm.refl _;refine eG (fun n a w X=> ∃(left:eE) (ks:List dX),n=left.length∧ak X2 w2 X w∧tj w X (fZ m) ri mb (fun k:dX=>k.v) e7 m left∧
  Own w X w2.heap.size 32 3 a (ks.map T3)∧(∀g,a.ownBlock=some g→g≠ri)∧List.Perm (ks++left.map (·.1)) (m.map (·.1))∧ks.length≤m.length) m.length
  ⟨m,[],rfl,aq,rM,Own.nil _ _ _ _ _,(by intro g hg;simp [ec] at hg),B6,aN _⟩ ?_
 clear aq rM;rintro n a w X ⟨left,ks,rfl,hs,rM,DY,bW,B6,Ka⟩;have hA: ∀k,fZ m k→X k∧k≠ri:=fun k hk=>⟨hs.sub k (b8.sub k hk),fun e=>by have:=(b8.fp k hk).2;omega⟩;refine Mp rM e7.mv hA hs.has (fun e0 w X aq=>?_) fun kx q v gR w1 X1 hc mj CW he=>?_
 ·subst e0;replace DY:=DY.since aq;replace hs:=hs.trans aq;rw [List.map_nil,fh] at B6;have ah7:ks.Nodup:=B6.nodup_iff.2 b8.lX.nodup;have aiX:=xH.kp.size;have TK:=xH.trans hs;have hsY:ak (out (pV tb mb m) w0) w0 (fun k=>X k∧ ¬pV tb mb m k) w:=⟨TK.kp,fun k hk=>⟨TK.sub k hk,hk.2⟩,fun k hk=>TK.has k hk.1⟩;have Pn:=b8.mv bF.has hs.mv;have acy:bI w (fun k=>X k∧ ¬pV tb mb m k) bx _ _:=⟨⟨(XU.since hs).1,fun h=>by have:=hF _ h;omega⟩,(XU.since hs).2⟩;have afu:Own w (fun k=>X k∧ ¬pV tb mb m k) w2.heap.size 32 3 a (ks.map T3):=
   ⟨DY.1,DY.2.1,fun g hg=>⟨DY.2.2 g hg,fun h=>by have:=hF _ h;have:=(DY.ge hg).1;omega⟩⟩
  have mg:=afu.sl;have aiY:=acy.lt;have gR: ∀x∈ks,x∈m.map (·.1):=fun x hx=>B6.mem_iff.1 hx;have pz: ∀x∈m.map (·.1),x∈ks:=fun x hx=>B6.mem_iff.2 hx;have J6:ak (fun k=>X k∧ ¬pV tb mb m k) w X w:=⟨Kp.refl _ _,fun k hk=>hk.1,TK.has⟩;clear DY afu hs aq TK b8 XU rM hA B6;have aiZ:ks.length≤2^40:=by omega
  repeat' first|refine aD ?_;intros
  refine eG (fun n a w' X'=> ∃(i:Nat) (mi:eE),a=I (i:Nat)∧n=ks.length-i∧i≤ks.length∧ak (fun k=>X k∧ ¬pV tb mb m k) w X' w'∧df w' X' (fZ mi) tb mb { s with closed:=s.closed.later r.aw } mi∧
   qi mi∧Py mi∧cont mi=(cont m).map (fun e=>if e.1∈ks.take i then CZ r.jP e else e)∧(∀k,fZ mi k→fZ m k∨w.heap.size≤k)) ks.length
   ⟨0,m,rfl,rfl,aN _,J6,Pn,ju,ml,by simp,fun k hk=>.inl hk⟩ ?_
  clear Pn J6 ju ml;rintro n a w X ⟨i,mi,rfl,rfl,hi,hs,hT,ju,ml,rG,mC⟩;have kJ:=hT.box;rcases eb ks i with⟨cK,x,hx,hd⟩|⟨dU,hd⟩
  ·repeat' first|refine bO ?_;intros
   have JP: ∃q,getM x mi=some q:=by
    have h1:x∈mi.map (·.1):=by
     rw [←H9,rG,dS];have h2:=gR x (aA hx);rw [←H9] at h2;obtain⟨e,he,rfl⟩:=List.mem_map.1 h2;refine List.mem_map.2 ⟨e,he,?_⟩;simp only [kO];split<;>rfl
    obtain⟨y,hy,rfl⟩:=List.mem_map.1 h1;exact⟨y.2,mR hT.lX.nodup hy⟩
   refine mP (kv:=fun k:dX=>k.v) (k:=x) (kt:=32) (et:=184) (.agg #[I 0,I 0,I 0,I 0,I 0,I 0,.slice none 0 0,.slice none 0 0,I 0]) hT.lX s7 kQ kQ (fun v q hg mj=>?_) fun hg=>?_
   rotate_left
   ·obtain⟨q,hq⟩:=JP;rw [hq] at hg;cases hg
   obtain⟨ur,uw,rfl,q1,q2,q3⟩:=mj;have o1:=q1.sl.one;have o2:=q2.sl.one;have hqo:=ml _ (kR hg);repeat' first|refine aD ?_;intros
   refine ek (TH (pt:=r.jP) (Sl.mv q2.sl (Mv.sub hT.sub)) hqo.w hqo.wk) kQ hs.has ?_;rintro v wa w1 X1 ⟨va,vb,rfl,ll,jb⟩ hle eD aq;have de:=hT.mv hs.has aq.mv;have q1':=q1.mv (aq.j6 hT.sub);have hva:=ll.sl.one;have hvb:=jb.sl.one;have eo:=hs.kp.size;replace hs:=hs.trans aq;have ry:=acy.since hs;repeat' first|refine aD ?_;intros
   have FR: ∀g,dK ur g→fZ mi g:=fun g gl=>⟨_,kR hg,.inl (q3.1▸gl)⟩;have aej: ∀g,fZ mi g→g≠bx:=fun g gl e=>by
    rcases mC g gl with h|h
    ·have:=hF g (.inr (.inr h));omega
    ·omega
   refine Nc (H8 (A:=fun k=>k=bx) (cs:=[ptr bx 0]) (p:=fun k=>Fx (placeOf k) r.jP||zN (placeOf k) r.jP) (q1'.mono de.sub) hs.has (fun k hk=>⟨by rw [hk];exact ry.1,fun h=>aej k (FR k h) hk⟩) kQ
    (fun y hy=>MO (bI.cells ry.own) (af (hqo.rk y hy) (by decide)))) kQ hs.has (fun k hk=>de.sub k (FR k hk)) ?_
   rintro va' wb Zm X2' ⟨hor,hbe⟩ nW kZ V3 j9;have ai0:=hor.sl.one;have abS: ∀g,fZ mi g→g≠tb∧g≠mb:=de.off;have acz:bI Zm X2' tb _ _:=de.box.own.mv (j9.mv fun k hk=>⟨by rw [hk];exact de.box.1,fun h=>(abS k (FR k h)).1 hk⟩);have rE:=hs.dF j9 fun k hk e=>by
    rcases mC k (FR k e)with h|h
    ·exact hk.2 (.inr (.inr h))
    ·have:=hsY.has k hk;omega
   clear kJ;replace hs:=rE;clear rE;repeat' first|refine aD ?_;intros
   let a:nU:= { p:=q.p.cut r.jP,fY:=q.fY,br:=q.br,bw:=va.ownBlock }
   have XV:=hT.lX.nodup;have yW: ∀g,va.ownBlock=some g→wa.heap.size≤g∧g<w1.heap.size:=fun g gl=>ll.ge gl;have np: ∀g,va.ownBlock=some g→ ¬fZ mi g:=fun g gl h=>by have:=(hT.fp g h).2;have:=(yW g gl).1;omega
   have afv: ∀g,fZ (bM x a mi) g→fZ mi g∨va.ownBlock=some g:=fun g h=>adL (a:=a) XV hg rfl h;have Fw: ∀g,fZ (bM x a mi) g→X2' g∧g≠tb∧g≠mb:=fun g h=>by
    rcases afv g h with h|h
    ·exact⟨j9.sub g (de.sub g h),abS g h⟩
    ·have h3:=yW g h;have:=hT.box.lt;have:=hT.lX.x.2;exact⟨j9.sub g (eD g h3),by omega,by omega⟩
   have jU: ∀g,va.ownBlock=some g→ ¬dK ur g:=fun g gl h=>np g gl (FR g h);have AM:QE Zm X2' (fZ (bM x a mi)) mb (fun k:dX=>k.v) e7 x mi:=fy.ZZ de.lX (fun k hk _=>by
     have hk:k=mb:=hk;subst hk;exact⟨j9.sub _ de.lX.x.1,j9.block _ de.lX.x.1 fun h=>(abS _ (FR _ h)).2 rfl⟩) fun y v hy bW mj=>e7.loc mj fun g gl=>
    ⟨⟨y,Ks hy bW,gl⟩,j9.block g (de.sub g ⟨y,hy,gl⟩) fun h=>by
     have Ox:=ju.all _ (kR hg) y hy bW;have hbg:q.br=some g:=q3.1▸h;rcases gl with gl|gl
     ·exact Ox.1 g hbg gl
     ·exact Ox.2.1 g hbg gl⟩
   have ah8:e7 Zm (fZ (bM x a mi)) (a.v va' va) a:=⟨va',va,rfl,hor.mono fun g gl=>⟨_,qD,.inl (q3.1▸gl)⟩,
    Own.loc (ll.low (aN _)) fun g gl=>⟨⟨_,qD,.inr gl⟩,j9.block g (eD g (yW g gl)) (jU g gl)⟩,hbe.trans q3.1,rfl⟩
   refine Pu (κ:=dX) (k:=x) (a:=a) (kv:=fun k:dX=>k.v) (kt:=32) (et:=184) AM e7.mv ah8 (fun k hk=>⟨(Fw k hk).1,(Fw k hk).2.2⟩) s7 kQ hs.has fun w4 X4 rI hm4=>?_;have eY:df w4 X4 (fZ (bM x a mi)) tb mb { s with closed:=s.closed.later r.aw } (bM x a mi):=
    ⟨acz.own.mv (rI.mv fun k hk=>⟨by rw [hk];exact acz.1,by rw [hk];exact hT.ne⟩),hm4,fun k hk=>rI.sub k (Fw k hk).1,fun k hk=>(Fw k hk).2,hT.ne⟩
   replace hs:=hs.dF rI fun k hk e=>hk.2 (.inr (.inl e));repeat' first|refine aD ?_;intros
   refine ep (ks.length-(i+1)) zQ ⟨i+1,bM x a mi,by simp,rfl,by omega,hs,eY,qi.put ju XV hg rfl np,Py.put ml XV (dB.aaa hqo),aab rG ah7 hx XV hg rfl rfl,fun k hk=>?_⟩;rcases afv k hk with h|h
   ·exact mC k h
   ·right;have:=(yW k h).1;omega
  ·rw [aY dU] at rG;repeat' first|refine bO ?_;intros
   refine dC (BX hT hs.has) kQ hs.has fun w X dI=>?_;have b8:=hT.mv hs.has dI.mv;replace hs:=hs.trans dI;repeat' first|refine aD ?_;intros
   refine mX (hsY.trans hs) fun wa hk=>⟨mi,?_,ju,fun k hk=>(mC k hk).imp id fun h=>af hsY.kp.size h,df.tight (b8.mv hs.has hk.mv),rfl⟩;exact rG.trans (gI fun e he=>if_pos (pz _ (by rw [←H9];exact List.mem_map.2 ⟨e,he,rfl⟩)))
 ·have N5:=DY.dF hc fun g hg e=>bW g hg e;replace hs:=hs.dF hc fun k hk e=>by have:=bF.has k hk;omega
  obtain⟨ur,uw,rfl,q1,q2,q3⟩:=mj;have o1:=q1.sl.one;have o2:=q2.sl.one;have ah9:=aac rM.nodup gR;have Y3:(ks++left.map (·.1)).length=m.length:=by rw [B6.length_eq,ay]
  have cK:=Iy gR;rw [ae,ay] at Y3;have Kq: ∀k,fZ m k→X1 k:=fun k hk=>hs.sub k (b8.sub k hk);clear DY hc;repeat' first|refine aD ?_;intros|((with_reducible apply V4);(case own=>first|assumption|exact Own.since (by assumption) (by assumption));(case hs=>assumption);(case h0=>first|exact fun _ h=>h|exact bF.has);(case he=>kernel_rfl);(case hk=>rfl);(case h1=>exact qE);(case hb=>(simp only [ay,aW,ae,bP,dj];omega));(case hl=>(simp only [ay,aW,ae,bP,dj];omega));intro acc w X aq ho hc fm;replace hs:=aq)|(refine IA hs.has he fun w X dI=>?_;replace hs:=hs.trans dI;replace N5:=N5.since dI;replace CW:=CW.mv e7.mv dI.mv (dI.j6 Kq))
  have hix:=tj.x CW;have ai1:=b8.lX.x.2;have nb: ∀k,dK a k→w2.heap.size≤k∧k≠ri:=fun k hk=>⟨(N5.ge hk).1,bW k hk⟩;have hA2: ∀k,fZ m k→k<w2.heap.size:=fun k hk=>(b8.fp k hk).2;have aia:=tj.mv (tj.own CW) e7.mv (hc.mv fun k hk=>by
   rcases hk with rfl|rfl
   ·exact⟨hix.1,fun h=>(nb _ h).2 rfl⟩
   ·exact⟨hix.2.1,fun h=>by have:=(nb _ h).1;omega⟩) (fun k hk _=>⟨hk,hc.block k (dI.sub k (Kq k hk)) fun h=>by have:=(nb _ h).1;have:=hA2 k hk;omega⟩)
  refine ep _ cK ⟨_,ks++[kx],rfl,hs,aia,by simpa using ho,?_,?_,?_⟩
  ·intro g hg;rcases fm with e|⟨g',e,dU⟩
   ·exact bW g (e▸hg)
   ·rw [e] at hg;cases hg;have:=hix.2.2.1;omega
  ·rw [aB];exact(List.Perm.append_left ks ah9.symm).trans B6
  ·simp;omega
abbrev lZ:=List (dX×dB×Int)
theorem Cn (k:dX): ∀m:eE,getM k (cont m)=(getM k m).map fun x=>(x.p,x.fY)
 |[]=>rfl
 |x::l=>by
  have ih:=Cn k l;unfold getM at ih⊢;simp only [cont,bB,List.find?_cons] at ih⊢;by_cases h:x.1=k
  ·simp [h]
  ·simp only [h,decide_false,Bool.false_eq_true,if_false];exact ih
theorem Kt (k:dX) (a:nU): ∀m:eE,cont (bM k a m)=bM k (a.p,a.fY) (cont m)
 |[]=>rfl
 |x::l=>by
  have ih:=Kt k a l;simp only [cont,bB,bM] at ih⊢;split
  ·rfl
  ·simp only [bB,ih]
theorem Co (k:dX): ∀m:eE,cont (jk k m)=jk k (cont m)
 |[]=>rfl
 |x::l=>by
  have ih:=Co k l;simp only [cont,jk,bB,List.filter_cons] at ih⊢;split
  ·simp only [bB,ih]
  ·exact ih
def Cz (s:aK) (c:lZ):aK:=c.foldl (fun s x=>if x.2.1.aw.qf.1.cmp s<0 then x.2.1.aw.qf.1 else s) s
theorem L5 (s:aK) (m:eE):vZ s m=Cz s (cont m):=by simp [vZ,Cz,cont,sx]
theorem abT (s:aK) (pt:Nat) (c:lZ):Cz s (c.map (CZ pt))=Cz s c:=by simp only [Cz,sx,CZ,dB.cut];rfl
def Ir (n:Int) (c:lZ):Int:=c.foldl (fun n x=>min n x.2.2) n
theorem Us (n:Int) (m:eE):BG n m=Ir n (cont m):=by simp [BG,Ir,cont,sx]
structure ph where
 kind:Int
 gF:Int
 fY:Int
 bU:dX
 aw:aK
 writes:List KV
 child:Int
 st:aK
def ph.none:ph:=⟨0,0,0,⟨0,0,0⟩,.zero,[],0,.zero⟩
abbrev ph.v (t:ph) (vw:Value):Value:=Told.v t.kind t.gF t.fY t.bU t.aw vw t.child t.st
def gT (s:iv) (r:Rec):iv:=
 ⟨s.id,s.next+1,if r.kind=1 then s.closed.later r.state.closed else if r.kind=5∨r.kind=6 then s.closed.later r.aw else s.closed⟩
def lN (n:Int) (r:Rec) (c:lZ):lZ:=
 if r.kind=1 then r.state.eA.foldl (fun c p=>bM p.bU (p,n) c) c
 else if r.kind=3 then bM r.bU (⟨r.bU,r.aw,r.reads,r.writes⟩,n) c
 else if r.kind=4 then jk r.bU c
 else if r.kind=6 then c.map (CZ r.jP)else c
def ei (s:iv) (r:Rec) (c:lZ):ph:=
 if r.kind=4 then(match getM r.bU c with
  |some x=>if r.iy=true∧0<x.1.writes.length then⟨1,s.id,x.2,r.bU,r.aw,x.1.writes,0,.zero⟩else .none
  |none=>.none)
 else if r.kind=6 then⟨2,0,0,⟨0,0,0⟩,.zero,[],r.n,Cz (s.closed.later r.aw) c⟩else .none
section
variable {w : World} {X : XS} {tb mb : Nat} {s : iv} {m : eE} {R : Ending → World → Prop} {N : Value → World → XS → Prop}
theorem XW {z:Int} {o:Nat} (hT:df w X (fZ m) tb mb s m) (ho:o=0+1) (hX: ∀k,X k→k<w.heap.size)
  (n: ∀w' X',ef (fun k=>k=tb) X w X' w'→df w' X' (fZ m) tb mb { s with next:=z } m→N undef w' X'):eU pg R X w true (st1 3 1 (ptr tb o) (I z)) N:=by
 subst ho;exact qh hT.box kQ (by simp) rfl rfl hX fun w2 X2 hc hr=>n w2 X2 hc (hT.head (s':= { s with next:=z }) hc hr)
theorem Ia {c:aK} {o:Nat} (hT:df w X (fZ m) tb mb s m) (ho:o=0+2) (hX: ∀k,X k→k<w.heap.size)
  (n: ∀w' X',ef (fun k=>k=tb) X w X' w'→df w' X' (fZ m) tb mb { s with closed:=c } m→N undef w' X'):eU pg R X w true (st1 34 3 (ptr tb o) c.v) N:=by
 subst ho;exact qh hT.box kQ (by simp) rfl rfl hX fun w2 X2 hc hr=>n w2 X2 hc (hT.head (s':= { s with closed:=c }) hc hr)
theorem PA {k:dX} {a:nU} {v vr vw:Value} {lo:Nat} (hT:df w X (fZ m) tb mb s m) (ju:qi m) (hX: ∀k,X k→k<w.heap.size) (hv:v=a.v vr vw)
  (h1:Own w X lo 9 1 vr (a.p.reads.map S1)) (h2:Own w X lo 118 4 vw (a.p.writes.map KV.l)) (zJ:vr.ownBlock=a.br) (Fj:vw.ownBlock=a.bw) (AZ:CX a.br a.bw)
  (np: ∀g,a.br=some g∨a.bw=some g→ ¬fZ m g∧g≠tb∧g≠mb)
  (n: ∀w' X' m',ef (fun k=>k=mb) X w X' w'→df w' X' (fZ m') tb mb s m'→qi m'→cont m'=bM k (a.p,a.fY) (cont m)→(∀g,fZ m' g→fZ m g∨a.br=some g∨a.bw=some g)→N undef w' X'):
  eU pg R X w true (Instr.mapUpdate 172 (.map (some mb)) k.v v) N:=by
 subst hv;have hn:=hT.lX.nodup;have mC: ∀g,fZ (bM k a m) g→fZ m g∨a.br=some g∨a.bw=some g:=by
  rintro g ⟨x,hx,hg⟩;rcases fc hn hx with rfl|⟨hx,_⟩
  ·exact .inr hg
  ·exact .inl ⟨x,hx,hg⟩
 have ml: ∀g,a.br=some g∨a.bw=some g→X g:=fun g hg=>by
  rcases hg with hg|hg
  ·exact h1.2.2 g (zJ.trans hg)
  ·exact h2.2.2 g (Fj.trans hg)
 have pz: ∀g,fZ (bM k a m) g→X g∧g≠tb∧g≠mb:=fun g hg=>by
  rcases mC g hg with h|h
  ·exact⟨hT.sub g h,hT.off g h⟩
  ·exact⟨ml g h,(np g h).2⟩
 have AM:QE w X (fZ (bM k a m)) mb (fun k:dX=>k.v) e7 k m:=fy.ZZ hT.lX (fun g hg _=>by
   have hg:g=mb:=hg;exact⟨by rw [hg];exact hT.lX.x.1,rfl⟩) fun y v hy bW mj=>e7.loc mj fun g hg=>⟨⟨y,Ks hy bW,hg⟩,rfl⟩
 have hv:e7 w (fZ (bM k a m)) (a.v vr vw) a:=⟨vr,vw,rfl,Own.loc (h1.low (aN _)) fun g hg=>⟨⟨_,qD,.inl (zJ▸hg)⟩,rfl⟩,
  Own.loc (h2.low (aN _)) fun g hg=>⟨⟨_,qD,.inr (Fj▸hg)⟩,rfl⟩,zJ,Fj⟩
 refine Pu (κ:=dX) (k:=k) (a:=a) (kv:=fun k:dX=>k.v) (kt:=32) (et:=184) AM e7.mv hv (fun g hg=>⟨(pz g hg).1,(pz g hg).2.2⟩) s7 kQ hX fun w4 X4 rI hm4=>?_;refine n w4 X4 _ rI (hT.body rI hm4 fun g hg=>⟨rI.sub g (pz g hg).1,(pz g hg).2⟩) ?_ (Kt k a m) mC;have e1: ∀y∈m,a.sep y.2:=fun y hy=>⟨fun g hg hb=>(np g (.inl hg)).1 ⟨y,hy,.inl hb⟩,fun g hg hb=>(np g (.inl hg)).1 ⟨y,hy,.inr hb⟩,
  fun g hg hb=>(np g (.inr hg)).1 ⟨y,hy,.inl hb⟩,fun g hg hb=>(np g (.inr hg)).1 ⟨y,hy,.inr hb⟩⟩
 refine⟨fun x hx=>?_,fun x hx y hy bW=>?_⟩
 ·rcases fc hn hx with rfl|⟨hx,_⟩
  ·exact AZ
  ·exact ju.two x hx
 ·rcases fc hn hx with rfl|⟨hx,hxk⟩<;>rcases fc hn hy with rfl|⟨hy,Y7⟩
  ·exact absurd rfl bW
  ·exact e1 y hy
  ·exact(e1 x hx).symm
  ·exact ju.all x hx y hy bW
theorem N6 {k:dX} {g:Nat} (h:fZ (jk k m) g):fZ m g:=by
 obtain⟨x,hx,hg⟩:=h;exact⟨x,(List.mem_filter.1 hx).1,hg⟩
theorem PB {k:dX} (hT:df w X (fZ m) tb mb s m) (ju:qi m) (hX: ∀k,X k→k<w.heap.size)
  (n: ∀w' X',ef (fun k=>k=mb) X w X' w'→df w' X' (fZ (jk k m)) tb mb s (jk k m)→qi (jk k m)→N (.tuple #[]) w' X'):
  eV pg R X w true (Builtin.delete_ #[172,32] 0 #[.map (some mb),k.v]) N:=by
 refine R1 (kv:=fun k:dX=>k.v) (k:=k) (kt:=32) (et:=184) hT.lX e7.mv (fun g hg=>⟨hT.sub g hg,(hT.off g hg).2⟩) s7 kQ hX fun w' X' hc hm=>?_;refine n w' X' hc (df.exact (hT.body hc hm fun g hg=>⟨hc.sub g (hT.sub g hg),hT.off g hg⟩)) ⟨fun x hx=>ju.two x (List.mem_filter.1 hx).1,fun x hx y hy bW=>ju.all x (List.mem_filter.1 hx).1 y (List.mem_filter.1 hy).1 bW⟩
end
def Ek (s:iv) (m:eE) (tb mb:Nat) (n:Int) (r:Rec) (v:Value) (wa w':World):Prop:=
 if jL s m n r≠0 then v= .tuple #[ph.none.v (.slice none 0 0),I (jL s m n r)]∧df w' (pV tb mb m) (fZ m) tb mb s m
 else∃m' vw,v= .tuple #[(ei s r (cont m)).v vw,I 0]∧Sl w' (fun k=>fZ m k∨wa.heap.size≤k) 4 vw ((ei s r (cont m)).writes.map KV.l)∧
  cont m'=lN n r (cont m)∧qi m'∧(∀k,fZ m' k→fZ m k∨wa.heap.size≤k)∧df w' (pV tb mb m') (fZ m') tb mb (gT s r) m'
theorem Uk {w:World} {X A:XS} {tb mb:Nat} {s:iv} {m:eE} {n:Int} {r:Rec} {vr vw vp vq vh vd:Value} (h:df w X (fZ m) tb mb s m) (hX: ∀k,X k→k<w.heap.size)
  (ha:r.at w A vr vw vp vq vh vd) (hA: ∀k,A k→X k∧ ¬pV tb mb m k) (jr:r.small) (ju:qi m) (ml:Py m) (Vt:m.length≤2^40) (nk:1≤s.next):
  Ct pg 79 #[ptr tb 0,I n,r.v vr vw vp vq vh vd] w X (pV tb mb m) fun v wa w'=>Ek s m tb mb n r v wa w':=by
 intro w0 hk;replace h:=h.mv hX hk.cL;have hao:=ha.mv (Mv.trans (Y:=out (pV tb mb m) w0) (w':=w0) (fun k ah hl=>⟨⟨aI hl hk.size,(hA k ah).2⟩,hk.block k (hA k ah).1⟩) (Mv.refl _ _));replace ha:=ha.mv ((Mv.sub fun k ah=>(hA k ah).1).trans hk.cL);have h1:=hao.1;have h2:=hao.2.1;have h6:=hao.2.2.2.2.2;have hl6:=h6.len;have hF: ∀k,pV tb mb m k→k<w0.heap.size:=fun k ah=>by
  rcases ah with h'|h'|h'
  ·rw [h'];exact h.box.lt
  ·rw [h'];exact h.lX.x.2
  ·exact(h.fp k h').2
 obtain⟨br,nr,cr,rfl⟩:=h1.form;obtain⟨bw,nw,cw,rfl⟩:=h2.form;apply Jl;unfold zT;have hs:=ak.out (pV tb mb m) w0;refine dC (XT (r:=r) h hs.has ha jr) kQ hs.has fun w X aq=>?_;replace hs:=hs.trans aq;have hT:=h.mv (fun k h=>h) aq.mv;have kJ:=hT.box;repeat' first|refine aD ?_;intros|refine dD ?_ ?_<;>intros
 ·refine mX hs fun wa hk=>?_
  show Ek s m tb mb n r _ w0 wa
  unfold Ek;rw [if_pos (by assumption)];exact⟨rfl,df.tight (hT.mv hs.has hk.mv)⟩
 ·have AY:jL s m n r=0:=by assumption
  have hns:n=s.next∧n≤99999999:=by
   have:=AY;unfold jL at this;split at this
   ·omega
   ·omega
  obtain⟨hns,hn9⟩:=hns;have nq: ∀(v:Value) (wa:World) (m':eE) (vw:Value),v= .tuple #[(ei s r (cont m)).v vw,I 0]→Sl wa (fun k=>fZ m k∨w0.heap.size≤k) 4 vw ((ei s r (cont m)).writes.map KV.l)→
    cont m'=lN n r (cont m)→qi m'→(∀k,fZ m' k→fZ m k∨w0.heap.size≤k)→df wa (pV tb mb m') (fZ m') tb mb (gT s r) m'→Ek s m tb mb n r v w0 wa:=by
   intro v wa m' vw q1 q2 q3 q4 q5 q6;unfold Ek;rw [if_neg (by simpa using AY)];exact⟨m',vw,q1,q2,q3,q4,q5,q6⟩
  generalize Ek s m tb mb n r=Q at nq⊢;repeat' first|refine aD ?_;intros
  refine XW hT (by assumption) hs.has fun w2 X2 hc b8=>?_;replace hs:=hs.dF hc fun k hk e=>hk.2 (.inl e);have fB:=hs.kp.size;clear kJ hc aq hT;have kJ:=b8.box;refine iu (fun k=> ∀w X (m':eE),ak (out (pV tb mb m) w0) w0 X w→df w X (fZ m') tb mb (gT s r) m'→qi m'→cont m'=lN n r (cont m)→(∀k,fZ m' k→fZ m k∨w0.heap.size≤k)→ei s r (cont m)= .none→k w X) ?_ ?_
  ·intro w X m' hs hT ju hc mC ht;repeat' first|refine aD ?_;intros
   refine mX hs fun wa hk=>nq _ wa m' (.slice none 0 0) ?_ ?_ hc ju mC (df.tight (hT.mv hs.has hk.mv))
   ·rw [ht];rfl
   ·rw [ht];exact Sl.nil _ _ _
  have Fw:=hs.has;intro K hK;repeat' first|refine aD ?_;intros|refine dD ?_ ?_<;>intros|((with_reducible refine fX (tM _ _) ?_ hs.has ?_);(· kernel_rfl);intro w X aq;replace hs:=hs.trans aq)
  ·have tS:= ‹r.kind=1›;refine Ia (c:=s.closed.later r.state.closed) (b8.mv Fw aq.mv) (by assumption) hs.has fun w3 X3 lK dz=>?_;have Fi:=fB;clear kJ b8 aq;have kJ:=dz.box;replace hs:=hs.dF lK fun k hk e=>hk.2 (.inl e);repeat' first|refine aD ?_;intros
   refine eG (fun n' a w X=> ∃(i:Nat) (mi:eE),a=I (i:Nat)∧n'=r.state.eA.length-i∧i≤r.state.eA.length∧ak (out (pV tb mb m) w0) w0 X w∧df w X (fZ mi) tb mb ⟨s.id,s.next+1,s.closed.later r.state.closed⟩ mi∧
    qi mi∧cont mi=(r.state.eA.take i).foldl (fun c p=>bM p.bU (p,n) c) (cont m)∧(∀k,fZ mi k→fZ m k∨w0.heap.size≤k)) r.state.eA.length
    ⟨0,m,rfl,rfl,aN _,hs,dz,ju,rfl,fun k hk=>.inl hk⟩ ?_
   clear hs dz ju lK kJ;rintro n' a w X ⟨i,mi,rfl,rfl,hi,hs,hT,ju,rG,mC⟩;have kJ:=hT.box;rcases eb r.state.eA i with⟨cK,x,hx,hd⟩|⟨dU,hd⟩
   ·have wh:=jr.state.p x (aA hx);repeat' first|refine bO ?_;intros|((with_reducible apply IE);assumption;(try (case hz=>rfl));(case hr=>exact qR);(try (case hz=>omega));(case ht=>kernel_rfl);(case hs=>kernel_rfl);intros)
    refine ek (H4 (p:=x) (Sl.mv (by assumption) hs.mv) (Sl.mv (by assumption) hs.mv) wh.1 wh.2) kQ hs.has ?_;rintro v wa w3 X3 ⟨ur,uw,rfl,ll,jb,AZ⟩ hle eD dZ;have dz:=hT.mv hs.has dZ.mv;have iC:=hT;have eo:=hs.kp.size;have o1:=ll.sl.one;have o2:=jb.sl.one;replace hs:=hs.trans dZ;clear kJ;have kJ:=dz.box;repeat' first|refine aD ?_;intros
    let a:nU:= { p:=x,fY:=n,br:=ur.ownBlock,bw:=uw.ownBlock }
    have TL: ∀g,a.br=some g∨a.bw=some g→wa.heap.size≤g:=fun g hg=>by
     rcases hg with hg|hg
     ·exact(ll.ge hg).1
     ·exact(jb.ge hg).1
    refine PA (k:=x.bU) (a:=a) (vr:=ur) (vw:=uw) (lo:=wa.heap.size) dz ju hs.has rfl (ll.mono eD) (jb.mono eD) rfl rfl (fun g hg hb=>AZ g hg hb) (fun g hg=>?_) fun w4 X4 m4 rI eY XX TM abU=>?_
    ·have A3:=TL g hg;have:=iC.box.lt;have:=iC.lX.x.2;exact⟨fun hf=>by have:=(iC.fp g hf).2;omega,by omega,by omega⟩
    replace hs:=hs.dF rI fun k hk e=>hk.2 (.inr (.inl e));clear kJ;have kJ:=eY.box;repeat' first|refine aD ?_;intros
    refine ep (r.state.eA.length-(i+1)) zQ ⟨i+1,m4,by simp,rfl,by omega,hs,eY,XX,?_,fun k hk=>?_⟩
    ·rw [TM,rG,bc,hx];simp [a]
    ·rcases abU k hk with h|h
     ·exact mC k h
     ·have:=TL k h;right;omega
   ·rw [aY dU] at rG;repeat' first|refine bO ?_;intros
    refine hK _ _ mi hs ?_ ju ?_ mC ?_
    ·have:gT s r=⟨s.id,s.next+1,s.closed.later r.state.closed⟩:=by simp [gT,tS]
     rw [this];exact hT
    ·rw [rG];simp [lN,tS]
    ·simp [ei,tS]
  ·have VD:= ‹r.kind=3›;refine ek (H4 (p:=(⟨r.bU,r.aw,r.reads,r.writes⟩:dB)) (h1.mv hs.mv) (h2.mv hs.mv) jr.reads jr.writes) kQ hs.has ?_;rintro v wa w3 X3 ⟨ur,uw,rfl,ll,jb,AZ⟩ hle eD dZ;have dz:=b8.mv hs.has dZ.mv;have iC:=b8;have eo:=hs.kp.size;have o1:=ll.sl.one;have o2:=jb.sl.one;replace hs:=hs.trans dZ;clear kJ;have kJ:=dz.box;repeat' first|refine aD ?_;intros
   let a:nU:= { p:=(⟨r.bU,r.aw,r.reads,r.writes⟩:dB),fY:=n,br:=ur.ownBlock,bw:=uw.ownBlock }
   have TL: ∀g,a.br=some g∨a.bw=some g→wa.heap.size≤g:=fun g hg=>by
    rcases hg with hg|hg
    ·exact(ll.ge hg).1
    ·exact(jb.ge hg).1
   refine PA (k:=r.bU) (a:=a) (vr:=ur) (vw:=uw) (lo:=wa.heap.size) dz ju hs.has rfl (ll.mono eD) (jb.mono eD) rfl rfl (fun g hg hb=>AZ g hg hb) (fun g hg=>?_) fun w4 X4 m4 rI eY XX TM abU=>?_
   ·have A3:=TL g hg;have:=iC.box.lt;have:=iC.lX.x.2;exact⟨fun hf=>by have:=(iC.fp g hf).2;omega,by omega,by omega⟩
   replace hs:=hs.dF rI fun k hk e=>hk.2 (.inr (.inl e));clear kJ;have kJ:=eY.box;refine hK _ _ m4 hs ?_ XX ?_ (fun k hk=>?_) ?_
   ·have:gT s r=⟨s.id,s.next+1,s.closed⟩:=by simp [gT,VD]
    rw [this];exact eY
   ·rw [TM];simp [lN,VD,a]
   ·rcases abU k hk with h|h
    ·exact .inl h
    ·have:=TL k h;right;omega
   ·simp [ei,VD]
  ·have zF:= ‹r.kind=4›;refine oS (kv:=fun k:dX=>k.v) (k:=r.bU) (kt:=32) (et:=184) (.agg #[I 0,I 0,I 0,I 0,I 0,I 0,.slice none 0 0,.slice none 0 0,I 0]) b8.lX s7 kQ kQ (fun v q hg mj=>?_) fun hg=>?_
   ·obtain⟨ur,uw,rfl,q1,q2,q3⟩:=mj;have o1:=q1.sl.one;have o2:=q2.sl.one;obtain⟨b3,n3,c3,rfl⟩:=q2.sl.form;repeat' first|refine aD ?_;intros
    refine PB b8 ju hs.has fun w3 X3 lK dz IH=>?_;have q4:=q2.mv (Y:=fZ m) (w':=w3) fun k hk _=>⟨hk,lK.block k (b8.sub k hk) (b8.off k hk).2⟩;replace hs:=hs.dF lK fun k hk e=>hk.2 (.inr (.inl e));have kJ:=dz.box;have q5:=q4.sl.mv (Mv.sub (b8.sub));have q6:=q5.mv (Mv.sub lK.sub);have Kr:getM r.bU (cont m)=some (q.p,q.fY):=by rw [Cn,hg];rfl
    have hK4:ei s r (cont m)= .none→K w3 X3:=fun hn=>by
     refine hK _ _ _ hs ?_ IH ?_ (fun k hk=>.inl (N6 hk)) hn
     ·have:gT s r=⟨s.id,s.next+1,s.closed⟩:=by simp [gT,zF]
      rw [this];exact dz
     ·simp only [lN,zF];simpa using Co r.bU m
    cases iB:r.iy
    ·repeat' first|refine aD ?_;intros
     exact hK4 (by simp [ei,zF,Kr,iB])
    ·repeat' first|refine aD ?_;intros|refine dD ?_ ?_<;>intros
     ·refine mX hs fun wb hk=>nq _ wb (jk r.bU m) (.slice b3 n3 c3) ?_ ?_ ?_ IH (fun k hk=>.inl (N6 hk)) ?_
      ·have hlen:0<q.p.writes.length:=by omega
       simp [ei,zF,Kr,iB,hlen,ph.v]
      ·have hlen:0<q.p.writes.length:=by omega
       have:(ei s r (cont m)).writes=q.p.writes:=by simp [ei,zF,Kr,iB,hlen]
       rw [this];exact q4.sl.mv fun k ah hl=>⟨.inl ah,hk.block k (lK.sub k (b8.sub k ah))⟩
      ·simp only [lN,zF];simpa using Co r.bU m
      ·have:gT s r=⟨s.id,s.next+1,s.closed⟩:=by simp [gT,zF]
       rw [this];exact df.tight (dz.mv hs.has hk.mv)
     ·exact hK4 (by
       have hlen: ¬0<q.p.writes.length:=by omega
       simp [ei,zF,Kr,iB];omega)
   ·repeat' first|refine aD ?_;intros
    refine PB b8 ju hs.has fun w3 X3 lK dz IH=>?_;replace hs:=hs.dF lK fun k hk e=>hk.2 (.inr (.inl e));have Kr:getM r.bU (cont m)=none:=by rw [Cn,hg];rfl
    repeat' first|refine aD ?_;intros
    refine hK _ _ _ hs ?_ IH ?_ (fun k hk=>.inl (N6 hk)) ?_
    ·have:gT s r=⟨s.id,s.next+1,s.closed⟩:=by simp [gT,zF]
     rw [this];exact dz
    ·simp only [lN,zF];simpa using Co r.bU m
    ·simp [ei,zF,Kr]
  ·have hk5:= ‹r.kind=5›;refine Ia (c:=s.closed.later r.aw) (b8.mv Fw aq.mv) (by assumption) hs.has fun w3 X3 lK dz=>?_;replace hs:=hs.dF lK fun k hk e=>hk.2 (.inl e);refine hK _ _ m hs ?_ ju ?_ (fun k hk=>.inl hk) ?_
   ·have:gT s r=⟨s.id,s.next+1,s.closed.later r.aw⟩:=by simp [gT,hk5]
    rw [this];exact dz
   ·simp [lN,hk5]
   ·simp [ei,hk5]
  ·have hk6:= ‹r.kind=6›;refine Nc (TJ b8 Fw (hao.mv hs.mv) ju ml Vt) kQ hs.has (fun k hk=>?_) ?_
   ·rcases hk with rfl|rfl|hk
    ·exact b8.box.1
    ·exact b8.lX.x.1
    ·exact b8.sub k hk
   rintro v wa w3 X3 ⟨m',rG,IH,mC,dz,rfl⟩ hle eD l8 lK;have eo:=hs.kp.size;have eY:=dz.wide (Y:=X3) fun k hk=>by
    rcases hk with rfl|rfl|hk
    ·exact lK.sub _ b8.box.1
    ·exact lK.sub _ b8.lX.x.1
    ·rcases mC k hk with h|h
     ·exact lK.sub _ (b8.sub k h)
     ·exact eD k ⟨h,(dz.fp k hk).2⟩
   replace hs:=hs.dF lK fun k hk e=>hk.2 e;repeat' first|refine aD ?_;intros
   refine mX hs fun wb hk=>nq _ wb m' (.slice none 0 0) ?_ ?_ ?_ IH (fun k hk=>?_) ?_
   ·have:ei s r (cont m)=⟨2,0,0,⟨0,0,0⟩,.zero,[],r.n,Cz (s.closed.later r.aw) (cont m)⟩:=by simp [ei,hk6]
    rw [this,L5,rG,abT]
   ·have:(ei s r (cont m)).writes=[]:=by simp [ei,hk6]
    rw [this];exact Sl.nil _ _ _
   ·rw [rG];simp [lN,hk6]
   ·rcases mC k hk with h|h
    ·exact .inl h
    ·right;omega
   ·have:gT s r=⟨s.id,s.next+1,s.closed.later r.aw⟩:=by simp [gT,hk6]
    rw [this];exact df.tight (eY.mv hs.has hk.mv)
  ·refine hK _ _ m hs ?_ ju ?_ (fun k hk=>.inl hk) ?_
   ·have:gT s r=⟨s.id,s.next+1,s.closed⟩:=by simp [gT, *]
    rw [this];exact b8
   ·simp [lN, *]
   ·simp [ei, *]
def aaT (s:iv) (c:lZ) (n:Int) (r:Rec):Int:=
 if n≠s.next∨n>99999999 then 14
 else if r.err≠0 then 4
 else if r.kind=1 then(if r.state.range.id≠s.id then 4 else if r.state.eA.any (fun p=>(getM p.bU c).isSome)then 9 else 0)
 else if r.kind=3 then(if(getM r.bU c).isSome then 9 else 0)
 else if r.kind=2∨r.kind=4∨r.kind=5∨r.kind=6∨r.kind=7 then 0 else 4
theorem JJ (s:iv) (m:eE) (n:Int) (r:Rec):jL s m n r=aaT s (cont m) n r:=by
 have h: ∀k,(getM k (cont m)).isSome=(getM k m).isSome:=fun k=>by rw [Cn];simp
 unfold jL aaT;simp only [h]
def afw (c:lZ):Prop:= ∀e∈c,e.2.1.bU=e.1
def Y9 (c:lZ):Prop:= ∀e∈c,e.2.1.ok
structure qj (b:Nat) (c:lZ):Prop where
 key:afw c
 ok:Y9 c
 len:c.length≤b
theorem qj.nil (b:Nat):qj b []:=⟨by simp [afw],by simp [Y9],by simp⟩
theorem qj.up {b b':Nat} {c:lZ} (h:qj b c) (hb:b≤b'):qj b' c:=⟨h.key,h.ok,af h.len hb⟩
theorem Y9.m {m:eE} (h:Y9 (cont m)):Py m:=fun x hx=>h (x.1,x.2.p,x.2.fY) (List.mem_map.2 ⟨x,hx,rfl⟩)
theorem AX {k:dX} {a:dB×Int} : ∀{c:lZ} {e:dX×dB×Int},e∈bM k a c→e=(k,a)∨e∈c
 |[],e,h=>by simpa [bM] using h
 |x::c,e,h=>by
  unfold bM at h;split at h
  ·rcases List.mem_cons.1 h with h|h
   ·exact .inl h
   ·exact .inr (bG _ h)
  ·rcases List.mem_cons.1 h with h|h
   ·exact .inr (by rw [h];exact di)
   ·exact(AX h).imp id (bG _)
theorem TN {k:dX} {a:dB×Int} : ∀c:lZ,(bM k a c).length≤c.length+1
 |[]=>by simp [bM]
 |x::c=>by
  unfold bM;split
  ·simp
  ·simp only [bP];have:=TN (k:=k) (a:=a) c;omega
theorem qj.put {b:Nat} {c:lZ} (h:qj b c) {p:dB} (hp:p.ok) (n:Int):qj (b+1) (bM p.bU (p,n) c):=by
 refine⟨fun e he=>?_,fun e he=>?_,?_⟩
 ·rcases AX he with rfl|he
  ·rfl
  ·exact h.key e he
 ·rcases AX he with rfl|he
  ·exact hp
  ·exact h.ok e he
 ·have:=TN (k:=p.bU) (a:=(p,n)) c;have:=h.len;omega
theorem qj.ej {n:Int} : ∀{l:List dB} {b:Nat} {c:lZ},qj b c→(∀p∈l,p.ok)→qj (b+l.length) (l.foldl (fun c p=>bM p.bU (p,n) c) c)
 |[],_,_,h,_=>h
 |p::l,b,c,h,hp=>by
  have:=qj.ej (n:=n) (h.put (hp p (by simp)) n) fun q hq=>hp q (bG _ hq);rw [bP,List.foldl_cons,show b+(l.length+1)=b+1+l.length by omega];exact this
theorem State.small.ok {s:State} (h:s.small): ∀p∈s.eA,p.ok:=fun p hp=>⟨(h.p p hp).1,(h.p p hp).2,(h.pk p hp).1,(h.pk p hp).2⟩
theorem qj.feed {b:Nat} {c:lZ} (h:qj b c) {r:Rec} (hr:r.small) (n:Int):qj (b+r.state.eA.length+1) (lN n r c):=by
 unfold lN;split
 ·exact(qj.ej h hr.state.ok).up zQ
 split
 ·exact(h.put (p:=⟨r.bU,r.aw,r.reads,r.writes⟩) ⟨hr.reads,hr.writes,hr.rk,hr.wk⟩ n).up zQ
 split
 ·refine⟨fun e he=>h.key e (List.mem_filter.1 he).1,fun e he=>h.ok e (List.mem_filter.1 he).1,?_⟩;have:=List.length_filter_le (fun x:dX×dB×Int=>decide (x.1≠r.bU)) c;have:=h.len;unfold jk;omega
 split
 ·refine⟨fun e he=>?_,fun e he=>?_,?_⟩
  ·obtain⟨x,hx,rfl⟩:=List.mem_map.1 he;exact h.key x hx
  ·obtain⟨x,hx,rfl⟩:=List.mem_map.1 he;exact dB.aaa (h.ok x hx)
  ·rw [ay];have:=h.len;omega
 ·exact h.up zQ
abbrev U1 (b:Nat):List Value:=[.int .u8 b]
def BI (u:Nat):List Nat:=if u<128 then [u] else(u % 128+128)::BI (u/128)
termination_by u
decreasing_by omega
def Ib (n:Int):Nat:=if n<0 then 18446744073709551615-((n % 18446744073709551616).toNat*2 % 18446744073709551616)else(n % 18446744073709551616).toNat*2 % 18446744073709551616
def encI (n:Int):List Nat:=BI (Ib n)
theorem TO: ∀(k u:Nat),u<128^k→(BI u).length≤max k 1
 |0,u,h=>by
  have:u=0:=by simpa using h
  subst this;unfold BI;simp
 |k+1,u,h=>by
  unfold BI;split
  ·simp only [bP,dj];omega
  ·have hk:1≤k:=by
    rcases k with _|k
    ·simp at h;omega
    ·exact Nat.le_add_left _ _
   have h1:u/128<128^k:=by
    rw [Nat.div_lt_iff_lt_mul (by decide),←Nat.pow_succ];exact h
   have:=TO k (u/128) h1;simp only [bP];omega
theorem afx (n:Int):Ib n<18446744073709551616:=by
 unfold Ib;split<;>omega
theorem fe (n:Int):(encI n).length≤10:=by
 have:=TO 10 (Ib n) (aI (afx n) (by decide));unfold encI;omega
def qV (s:BA):List Nat:=encI s.size++s.data.toList.map UInt8.toNat
def aad (u k:Nat):Nat:=u/256^k % 256
def C3 (x:Nat):List Nat:=(List.range 8).map (aad (canon x))
def E6 (v:mS):List Nat:=
 let v:=if v.may then v else mS.zero
 encI v.kind++(if v.kind=1 then C3 v.num else if v.kind=2 then qV v.text else [])
def W2 (b:Bool):List Nat:=[if b then 1 else 0]
def oP (s:aK):List Nat:=encI s.wall++encI s.dp++encI s.node
def As (t:dX):List Nat:=encI t.iH++encI t.lg++encI t.sq
def nP (x:KV):List Nat:=qV x.key++E6 x.val
def jv {α:Type} (f:α→List Nat) (l:List α):List Nat:=encI l.length++(l.map f).flatten
theorem Own.tag {w:World} {X:XS} {lo e k:Nat} {v:Value} {rows:List (List Value)} (h:Own w X lo e k v rows) {g:Nat} (hg:v.ownBlock=some g): ∃cs:List Value,w.heap[g]? =some (.cells cs.toArray e (0,0)):=by
 rcases h.row with⟨rfl,_⟩|⟨b,cap,cs,rfl,_,hr,_⟩
 ·cases hg
 ·simp only [ec,ax] at hg;subst hg;exact⟨cs,hr.2⟩
theorem Own.gd {w:World} {X Y:XS} {lo e e' k g:Nat} {v:Value} {rows:List (List Value)} {cs:List Value} (h:Own w X lo e k v rows) (hr:bI w Y g cs e') (he:decide (e≠e')=true):v.ownBlock≠some g:=fun hg=>by
 obtain⟨c,h1⟩:=Own.tag h hg;rw [hr.2] at h1;simp only [ax,Obj.cells.injEq] at h1;exact of_decide_eq_true he h1.2.1.symm
theorem wrap64 (n:Int):IntKind.u64.wrap n=n % 18446744073709551616:=by
 simp only [BH,nI,kh];simp
theorem QH (n:Int):IntKind.u8.wrap n=n % 256:=by
 simp only [BH,nI,kh];simp
section
variable {P : Program} {X : XS} {w : World} {N : Value → Prop} {t : TypeId}
theorem MP {src dst:TypeId} {k:IntKind} {u:Nat} (hs:(P.underlying src).isSome=true) (hd:P.underlying dst=some (.int .u8)) (h:N (.int .u8 ((u % 256:Nat):Int))):ad P X w (lT .u8 src dst (.int k (u:Int))) N:=
 Xm hs hd (by rw [QH];exact h)
theorem TP (u:Nat):IntKind.u8.wrap (u:Int)=((u % 256:Nat):Int):=by rw [QH];omega
theorem afy {u:Nat} (h:N (.int .u64 ((u*2 % 18446744073709551616:Nat):Int))):ad P X w (binOp .shl t (.int .u64 (u:Int)) (.int .u64 1)) N:=
 adu zQ (by
  rw [wrap64];have e:((u:Int)*2^min (1:Int).toNat IntKind.u64.bits) % 18446744073709551616=((u*2 % 18446744073709551616:Nat):Int):=by
   show((u:Int)*2^1) % 18446744073709551616=_
   omega
  rw [e];exact h)
theorem afz {u:Nat} (h:N (.int .u64 ((u/128:Nat):Int))):ad P X w (binOp .shr t (.int .u64 (u:Int)) (.int .u64 7)) N:=
 Az zQ (by
  have e:((u:Int)).fdiv (2^min (7:Int).toNat IntKind.u64.bits)=((u/128:Nat):Int):=by
   show((u:Int)).fdiv 128=_
   rw [gN _ (by decide)];omega
  rw [e];exact h)
theorem afA {u:Nat} (h:N (.int .u64 ((u/256:Nat):Int))):ad P X w (binOp .shr t (.int .u64 (u:Int)) (.int .u64 8)) N:=
 Az zQ (by
  have e:((u:Int)).fdiv (2^min (8:Int).toNat IntKind.u64.bits)=((u/256:Nat):Int):=by
   show((u:Int)).fdiv 256=_
   rw [gN _ (by decide)];omega
  rw [e];exact h)
theorem afB {u:Nat} (hu:u<18446744073709551616) (h:N (.int .u64 ((18446744073709551615-u:Nat):Int))):ad P X w (Op.unary .xor (.int .u64 (u:Int))) N:=by
 refine cx (v:=.int .u64 ((18446744073709551615-u:Nat):Int)) (fun wa=>?_) h;have key:(bY 64 18446744073709551615^^^bY 64 (u:Int)).toNat=18446744073709551615-u:=by
  have h1:bY 64 18446744073709551615=BitVec.allOnes 64:=by decide
  have h2:(bY 64 (u:Int))=BitVec.ofNat 64 u:=by simp
  rw [h1,h2,BitVec.allOnes_xor,BitVec.toNat_not,BitVec.toNat_ofNat,Nat.mod_eq_of_lt zQ]
 have e:IntKind.u64.wrap (bY IntKind.u64.bits IntKind.u64.max^^^bY IntKind.u64.bits (u:Int)).toNat=((18446744073709551615-u:Nat):Int):=by
  rw [wrap64]
  show((bY 64 18446744073709551615^^^bY 64 (u:Int)).toNat:Int) % 18446744073709551616=_
  rw [key];omega
 have hk:(Op.unary .xor (.int .u64 (u:Int))).run P wa= .ok (.int .u64 (IntKind.u64.wrap (bY IntKind.u64.bits IntKind.u64.max^^^bY IntKind.u64.bits (u:Int)).toNat)) wa:=by
  simp [Op.unary,Op.intBits,kh]
 rw [hk,e]
theorem afC {k:IntKind} {a b:Int} (h:N (.int k (k.wrap (bY k.bits a|||bY k.bits b).toNat))):ad P X w (binOp .or t (.int k a) (.int k b)) N:=
 cx (fun wa=>by simp [binOp,Op.intBits]) h
theorem agC: ∀b:Nat,b<256→(bY 8 (b:Int)|||bY 8 128).toNat=b % 128+128:=by decide+kernel
theorem adM {b:Nat} (hb:b<256) (h:N (.int .u8 ((b % 128+128:Nat):Int))):ad P X w (binOp .or t (.int .u8 (b:Int)) (.int .u8 128)) N:=
 afC (by
  have e:IntKind.u8.wrap (bY IntKind.u8.bits (b:Int)|||bY IntKind.u8.bits 128).toNat=((b % 128+128:Nat):Int):=by
   rw [QH];have:=agC b hb
   show((bY 8 (b:Int)|||bY 8 128).toNat:Int) % 256=_
   rw [this];omega
  rw [e];exact h)
theorem afD {n:Int} (h:N (.int .u64 (((n % 18446744073709551616).toNat*2 % 18446744073709551616:Nat):Int))):ad P X w (binOp .shl t (.int .u64 (IntKind.u64.wrap n)) (.int .u64 1)) N:=by
 have e:IntKind.u64.wrap n=((n % 18446744073709551616).toNat:Int):=by rw [wrap64];omega
 rw [e];exact afy h
theorem agD {u:Nat} (h:N (.int .u8 ((u % 128+128:Nat):Int))):ad P X w (binOp .or t (.int .u8 (IntKind.u8.wrap (u:Int))) (.int .u8 128)) N:=by
 rw [TP];exact adM zQ (by rw [show u % 256 % 128=u % 128 by omega];exact h)
end
structure Wr (w:World) (X:XS) (lo wb:Nat) (vb:Value) (bs:List Nat):Prop where
 box:bI w X wb [vb] 247
 ow:Own w X lo 5 1 vb (bs.map U1)
def yV (wb:Nat) (vb:Value):XS:=fun k=>k=wb∨vb.ownBlock=some k
theorem Wr.mv {w w':World} {X Y:XS} {lo wb:Nat} {vb:Value} {bs:List Nat} (h:Wr w X lo wb vb bs) (m:Mv X w Y w'):Wr w' Y lo wb vb bs:=⟨h.box.mv m,h.ow.mv m⟩
theorem Wr.ne {w:World} {X:XS} {lo wb:Nat} {vb:Value} {bs:List Nat} (h:Wr w X lo wb vb bs):vb.ownBlock≠some wb:=Own.gd h.ow h.box kQ
def lh (f:FuncId) (args:Array Value) (w:World) (X:XS) (lo wb:Nat) (vb:Value) (bs ds:List Nat):Prop:=
 Ct pg f args w X (yV wb vb) fun v wa w'=>v= .tuple #[]∧ ∃xJ,Wr w' (fun k=>yV wb vb k∨made wa w' k) lo wb xJ (bs++ds)
structure WS (w0:World) (nJ:Value) (w:World) (X:XS) (lo wb:Nat) (vb:Value) (bs:List Nat):Prop where
 s:ak (out (yV wb nJ) w0) w0 X w
 r:Wr w X lo wb vb bs
 v: ∀g,vb.ownBlock=some g→nJ.ownBlock=some g∨w0.heap.size≤g
section
variable {w0 w : World} {X : XS} {lo wb : Nat} {nJ vb : Value} {bs ds : List Nat} {R : Ending → World → Prop} {N : Value → World → XS → Prop}
theorem WS.init (h:Wr w0 (aS w0) lo wb nJ bs):WS w0 nJ w0 (aS w0) lo wb nJ bs:=⟨ak.out _ _,h,fun g hg=>.inl hg⟩
theorem WS.since {X':XS} {w':World} (h:WS w0 nJ w X lo wb vb bs) (hs:ak X w X' w'):WS w0 nJ w' X' lo wb vb bs:=⟨h.s.trans hs,h.r.mv hs.mv,h.v⟩
theorem WS.fin (h:WS w0 nJ w X lo wb vb (bs++ds)):fin (AP (yV wb nJ) w0 fun v w'=>(fun v wa w'=>v= .tuple #[]∧ ∃xJ,Wr w' (fun k=>yV wb nJ k∨made wa w' k) lo wb xJ (bs++ds)) v w0 w') X w (.tuple #[]):=by
 refine mX h.s fun wa hk=>⟨rfl,vb,⟨.inl (.inl rfl),(h.r.box.kp hk).2⟩,(h.r.ow.kp hk).1,(h.r.ow.kp hk).2.1,fun g hg=>?_⟩;rcases h.v g hg with h1|h1
 ·exact .inl (.inr h1)
 ·exact .inr ⟨h1,((h.r.ow.kp hk).ge hg).2⟩
theorem WS.out (h:WS w0 nJ w X lo wb vb bs) {k:Nat} (hk:yV wb vb k) (h0:out (yV wb nJ) w0 k):False:=by
 rcases hk with hk|hk
 ·exact h0.2 (.inl hk)
 ·rcases h.v k hk with h1|h1
  ·exact h0.2 (.inr h1)
  ·have:=h0.1;omega
theorem WS.ej {f:FuncId} {args:Array Value} (hS:WS w0 nJ w X lo wb vb bs) (hp:lh f args w X lo wb vb bs ds) (hf:enters pg f=true)
  (k: ∀xJ w' X',WS w0 nJ w' X' lo wb xJ (bs++ds)→ef (yV wb vb) X w X' w'→N (.tuple #[]) w' X'):eC pg R X w true f args N:=by
 refine Nc hp hf hS.s.has (fun q hq=>?_) fun v wa w' X' hq hle eD l8 hc=>?_
 ·rcases hq with rfl|hq
  ·exact hS.r.box.1
  ·exact hS.r.ow.2.2 q hq
 ·obtain⟨rfl,xJ,hW⟩:=hq;refine k xJ w' X' ⟨hS.s.dF hc fun q h0 hq=>hS.out hq h0,⟨⟨hc.sub _ hS.r.box.1,hW.box.2⟩,hW.ow.1,hW.ow.2.1,fun g hg=>?_⟩,fun g hg=>?_⟩ hc
  ·rcases hW.ow.2.2 g hg with h1|h1
   ·rcases h1 with rfl|h1
    ·exact hc.sub _ hS.r.box.1
    ·exact hc.sub g (hS.r.ow.2.2 g h1)
   ·exact eD g h1
  ·rcases hW.ow.2.2 g hg with h1|h1
   ·rcases h1 with rfl|h1
    ·exact absurd hg hW.ne
    ·exact hS.v g h1
   ·right;have:=h1.1;have:=hS.s.kp.size;omega
theorem Ic {b:Nat} (hS:WS w0 nJ w X lo wb vb bs) (eo:lo≤w.heap.size) (hb:bs.length≤2^40)
  (k: ∀xJ w' X',WS w0 nJ w' X' lo wb xJ (bs++[b])→N undef w' X'):
  eV pg R X w true (gq 132 5 1 1 #[(0,.int .u8 (b:Int))]) fun s w1 X1=>eV pg R X1 w1 true (fW 132 5 1 1 132 vb s) fun x w2 X2=>
   az pg X2 w2 (aM (ptr wb 0)) fun p=>ad pg X2 w2 (aT 247 0 0 1 p) fun q=>eU pg R X2 w2 true (st1 132 1 q x) N:=by
 refine adK hS.r.ow hS.s.has eo kQ (row:=U1 b) rfl rfl rfl (by simp;omega) (by simp;omega) fun v' w' X' hc ho fm=>?_;have bW: ∀q,dK vb q→q≠wb:=fun q hq e=>hS.r.ne (by rw [←e];exact hq);have eX:bI w' X' wb [vb] 247:=⟨hc.sub _ hS.r.box.1,by rw [hc.block _ hS.r.box.1 fun hq=>bW _ hq rfl];exact hS.r.box.2⟩;have rE:=hS.s.dF hc fun q h0 hq=>hS.out (.inr hq) h0;have j5: ∀g,v'.ownBlock=some g→nJ.ownBlock=some g∨w0.heap.size≤g:=fun g hg=>by
  rcases fm with e|⟨g',e,dU⟩
  ·exact hS.v g (e▸hg)
  ·rw [e] at hg;cases hg;right;have:=hS.s.kp.size;omega
 with_reducible apply QB
 have hfi:fieldInfo pg 247 0=some (0,1):=by kernel_rfl
 refine Ml (eX.cells) hfi rfl fun o' tF _=>?_;subst tF;refine qh eX kQ (by simp) (by obtain⟨_,_,_,rfl⟩:=ho.sl.form;rfl) (by obtain⟨_,_,_,rfl⟩:=ho.sl.form;rfl) rE.has fun w3 X3 lK oY=>?_;have abV:v'.ownBlock≠some wb:=Own.gd ho eX kQ;refine k v' w3 X3 ⟨rE.dF lK fun q h0 hq=>h0.2 (.inl hq),⟨?_,?_⟩,j5⟩
 ·have e:cz [vb] (0+0) v'.cells.toList=[v']:=by obtain⟨_,_,_,rfl⟩:=ho.sl.form;rfl
  rw [e] at oY;exact oY
 ·rw [bo];exact Own.dF ho lK fun g hg e=>abV (by rw [hg,e])
end
theorem A9 {w:World} {X:XS} :Ct pg 112 #[] w X nX fun v wa w'=> ∃wb,v=ptr wb 0∧Wr w' (made wa w') wa.heap.size wb (.slice none 0 0) []:=by
 intro w0 hk;apply Jn;unfold zV;have hs:=ak.init w0;repeat' first|refine aD ?_;intros|(with_reducible apply ns);(case hX=>exact hs.has);intro bx w X eX aq bE;have bF:=hs.trans aq;replace hs:=ak.iS aq.has
 refine ai (bF.trans hs) fun wa bC=>⟨bx,rfl,⟨⟨eX,(bE.kp bC).lt⟩,(bE.kp bC).2⟩,Own.nil _ _ _ _ _⟩
theorem kF {w:World} {X:XS} {lo wb:Nat} {vb:Value} {bs:List Nat} {n:Int} (h:Wr w X lo wb vb bs) (hb:bs.length≤2^39) (eo:lo≤w.heap.size):lh 113 #[ptr wb 0,I n] w X lo wb vb bs (encI n):=by
 intro w0 hk;have dd:lo≤w0.heap.size:=af eo hk.size;have hS:=WS.init (h.mv hk.cL);apply HN;unfold y5;have hs:=hS.s;have kJ:=hS.r.box;repeat' first|refine aD ?_;intros|(with_reducible apply afD)
 refine iu (fun k=>k (.int .u64 (Ib n:Int))) ?_ ?_
 ·refine eG (fun n' a w X=> ∃(u:Nat) (pY:Value) (bsi:List Nat),a= .int .u64 (u:Int)∧n'=u∧WS w0 vb w X lo wb pY bsi∧bsi++BI u=bs++encI n) (Ib n) ⟨Ib n,vb,bs,rfl,rfl,hS,rfl⟩ ?_;clear hs kJ hS;rintro u a w X ⟨_,pY,bsi,rfl,rfl,hS,Pc⟩;have hs:=hS.s;have kJ:=hS.r.box;have hlen:bsi.length≤2^40:=by
   have h1:=congrArg List.length Pc;have h2:=fe n;simp only [ae] at h1;omega
  have Nq:lo≤w.heap.size:=af dd hs.kp.size;by_cases hu:u<128
  ·have he:BI u=[u]:=by rw [BI,if_pos hu]
   repeat' first|refine bO ?_;intros
   rw [TP,show u % 256=u by omega];refine Ic hS Nq hlen fun gy w2 X2 bR=>?_;rw [←he,Pc] at bR;exact bR.fin
  ·have he:BI u=(u % 128+128)::BI (u/128):=by rw [BI,if_neg hu]
   repeat' first|refine bO ?_;intros|(with_reducible apply agD)
   refine Ic hS Nq hlen fun gy w2 X2 bR=>?_;repeat' first|(with_reducible apply afz)
   refine ep (u/128) zQ ⟨u/128,gy,_,rfl,rfl,bR,?_⟩;rw [aB,List.singleton_append,←he];exact Pc
 ·intro K hK;repeat' first|refine aD ?_;intros|refine dD ?_ ?_<;>intros|(with_reducible apply afB);omega
  ·have:Ib n=18446744073709551615-((n % 18446744073709551616).toNat*2 % 18446744073709551616):=by unfold Ib;rw [if_pos zQ]
   rw [←this];exact hK
  ·have:Ib n=(n % 18446744073709551616).toNat*2 % 18446744073709551616:=by unfold Ib;rw [if_neg zQ]
   rw [←this];exact hK
theorem abW (s:BA):(tm s).map (fun x=>[x])=(s.data.toList.map UInt8.toNat).map U1:=by
 unfold tm;simp
section
variable {w0 w : World} {X : XS} {lo wb : Nat} {nJ vb : Value} {bs ds : List Nat} {R : Ending → World → Prop} {N : Value → World → XS → Prop}
theorem afE {v':Value} {w':World} {X':XS} (hS:WS w0 nJ w X lo wb vb bs) (hc:ef (dK vb) X w X' w') (ho:Own w' X' lo 5 1 v' (ds.map U1)) (fm:v'.ownBlock=vb.ownBlock∨ ∃g,v'.ownBlock=some g∧w.heap.size≤g)
  (k: ∀w' X',WS w0 nJ w' X' lo wb v' ds→N undef w' X'):
  az pg X' w' (aM (ptr wb 0)) fun p=>ad pg X' w' (aT 247 0 0 1 p) fun q=>eU pg R X' w' true (st1 132 1 q v') N:=by
 have bW: ∀q,dK vb q→q≠wb:=fun q hq e=>hS.r.ne (by rw [←e];exact hq);have eX:bI w' X' wb [vb] 247:=⟨hc.sub _ hS.r.box.1,by rw [hc.block _ hS.r.box.1 fun hq=>bW _ hq rfl];exact hS.r.box.2⟩;have rE:=hS.s.dF hc fun q h0 hq=>hS.out (.inr hq) h0;have j5: ∀g,v'.ownBlock=some g→nJ.ownBlock=some g∨w0.heap.size≤g:=fun g hg=>by
  rcases fm with e|⟨g',e,dU⟩
  ·exact hS.v g (e▸hg)
  ·rw [e] at hg;cases hg;right;have:=hS.s.kp.size;omega
 with_reducible apply QB
 have hfi:fieldInfo pg 247 0=some (0,1):=by kernel_rfl
 refine Ml (eX.cells) hfi rfl fun o' tF _=>?_;subst tF;refine qh eX kQ (by simp) (by obtain⟨_,_,_,rfl⟩:=ho.sl.form;rfl) (by obtain⟨_,_,_,rfl⟩:=ho.sl.form;rfl) rE.has fun w3 X3 lK oY=>?_;have abV:v'.ownBlock≠some wb:=Own.gd ho eX kQ;refine k w3 X3 ⟨rE.dF lK fun q h0 hq=>h0.2 (.inl hq),⟨?_,?_⟩,j5⟩
 ·have e:cz [vb] (0+0) v'.cells.toList=[v']:=by obtain⟨_,_,_,rfl⟩:=ho.sl.form;rfl
  rw [e] at oY;exact oY
 ·exact Own.dF ho lK fun g hg e=>abV (by rw [hg,e])
end
theorem Ku {w:World} {X:XS} {lo wb:Nat} {vb:Value} {bs:List Nat} {s:BA} (h:Wr w X lo wb vb bs) (hb:bs.length≤2^38) (eo:lo≤w.heap.size) (bF:s.size≤2^38):lh 305 #[ptr wb 0,.string s] w X lo wb vb bs (qV s):=by
 intro w0 hk;have dd:lo≤w0.heap.size:=af eo hk.size;have hS:=WS.init (h.mv hk.cL);apply Gy;unfold xZ;have hs:=hS.s;repeat' first|refine aD ?_;intros
 refine hS.ej (kF hS.r zQ dd) kQ fun gy w2 X2 bR j9=>?_;clear hs;have hs:=bR.s;have kJ:=bR.r.box;have hen:=fe s.size;repeat' first|refine aD ?_;intros
 refine afq (bytes:=1) bR.r.ow hs.has (af dd hs.kp.size) kQ kQ (by simp;omega) (by simp;omega) fun v' w3 X3 hc ho fm=>?_;rw [abW,←bo] at ho;refine afE bR hc ho fm fun w4 X4 fu=>?_;rw [aB] at fu;exact fu.fin
theorem Ie {w:World} {X:XS} {lo wb:Nat} {vb:Value} {bs:List Nat} {x:Nat} (h:Wr w X lo wb vb bs) (hb:bs.length≤2^39) (eo:lo≤w.heap.size):lh 287 #[ptr wb 0,.float .f64 x] w X lo wb vb bs (C3 x):=by
 intro w0 hk;have dd:lo≤w0.heap.size:=af eo hk.size;have hS:=WS.init (h.mv hk.cL);apply EX;unfold xf;have hs:=hS.s;repeat' first|((with_reducible refine fX (E3 _) ?_ hs.has ?_);(· kernel_rfl);intro w X aq;replace hs:=hs.trans aq)
 refine gb (fun n' a b w X=> ∃(i:Nat) (pY:Value),a=I i∧b= .int .u64 ((canon x/256^i:Nat):Int)∧n'=8-i∧i≤8∧WS w0 vb w X lo wb pY (bs++(List.range i).map (aad (canon x)))) 8
  ⟨0,vb,rfl,by simp,rfl,by omega,by simpa using hS.since (by assumption)⟩ ?_
 clear hs hS aq;rintro n' a b w X ⟨i,pY,rfl,rfl,rfl,hi,hS⟩;have hs:=hS.s;have kJ:=hS.r.box;have Nq:lo≤w.heap.size:=af dd hs.kp.size;by_cases h8:i<8
 ·repeat' first|refine bO ?_;intros
  rw [TP];refine Ic hS Nq (by simp;omega) fun gy w2 X2 bR=>?_;repeat' first|refine aD ?_;intros|(with_reducible apply afA)
  refine eM (8-(i+1)) zQ ⟨i+1,gy,by simp,?_,rfl,by omega,?_⟩
  ·rw [Nat.div_div_eq_div_mul,Nat.pow_succ]
  ·rw [List.range_succ,bo,←aB];exact bR
 ·obtain rfl:i=8:=by omega
  repeat' first|refine bO ?_;intros
  exact hS.fin
theorem GZ {w:World} {X:XS} {lo wb:Nat} {vb:Value} {bs:List Nat} (h:Wr w X lo wb vb bs) (hb:bs.length≤2^40):Ct pg 114 #[ptr wb 0] w X nX fun v wa w'=>Own w' (made wa w') wa.heap.size 5 1 v (bs.map U1):=by
 intro w0 hk;replace h:=h.mv hk.cL;have kJ:=h.box;apply EM;unfold wT;have hs:=ak.init w0;repeat' first|refine aD ?_;intros|(with_reducible apply QC);(case hX=>exact hs.has);(case hu=>kernel_rfl);(case hz=>kernel_rfl);intro acc w X aq ho;replace hs:=hs.trans aq|((first|(with_reducible refine ai hs ?_)|(with_reducible refine ai (bF.trans hs) ?_));intro wa hk;(exact(ho.kp hk).tight))|((with_reducible apply Mn);(case own=>assumption);(case hs=>assumption);(case h0=>exact fun _ h=>h);(case he=>kernel_rfl);(case src=>exact Sl.mv h.ow.sl (ak.mv hs));(case h1=>simp [bu.one]);(case hb=>simp;omega);(case hl=>simp;omega);intro acc w X aq ho hc fm;replace hs:=aq;rw [List.nil_append] at ho)
theorem UW {w:World} {X:XS} {lo wb:Nat} {vb:Value} {bs:List Nat} {b:Bool} (h:Wr w X lo wb vb bs) (hb:bs.length≤2^39) (eo:lo≤w.heap.size):lh 285 #[ptr wb 0,B b] w X lo wb vb bs (W2 b):=by
 intro w0 hk;have dd:lo≤w0.heap.size:=af eo hk.size;have hS:=WS.init (h.mv hk.cL);apply Gx;unfold xY;have hs:=hS.s;have kJ:=hS.r.box;cases b<;>
 repeat' first|refine aD ?_;intros
 ·refine Ic (b:=0) hS dd zQ fun gy w2 X2 bR=>?_;exact bR.fin
 ·refine Ic (b:=1) hS dd zQ fun gy w2 X2 bR=>?_;exact bR.fin
def pO (Z X:XS) (wb:Nat) (vb:Value):Prop:= ∀k,Z k→X k∧ ¬yV wb vb k
section
variable {w0 w : World} {X : XS} {lo wb : Nat} {nJ vb : Value} {bs ds : List Nat}
theorem WS.z (hS:WS w0 nJ w X lo wb vb bs):pO (bu.out (yV wb nJ) w0) X wb vb:=fun k h=>⟨hS.s.sub k h,fun hf=>hS.out hf h⟩
theorem WS.at (hS:WS w0 nJ w X lo wb vb bs):Mv (bu.out (yV wb nJ) w0) w0 (bu.out (yV wb nJ) w0) w:=fun k hk _=>⟨hk,hS.s.kp.block k hk⟩
theorem pO.mv {Z:XS} (h:pO Z X wb vb) (hk:Kp X w w0):Mv Z w (out (yV wb vb) w0) w0:=fun k ah hl=>⟨⟨aI hl hk.size,(h k ah).2⟩,hk.block k (h k ah).1⟩
end
abbrev jg (wb:Nat):List Value:=[ptr wb 0,.pointer none]
theorem UX {w:World} {X:XS} {lo wb:Nat} {vb:Value} {bs:List Nat} {v:mS} (h:Wr w X lo wb vb bs) (hb:bs.length≤2^37) (eo:lo≤w.heap.size):lh 308 #[ptr wb 0,v.v] w X lo wb vb bs (E6 v):=by
 intro w0 hk;have dd:lo≤w0.heap.size:=af eo hk.size;have hS:=WS.init (h.mv hk.cL);apply Tu;unfold HM;have hs:=hS.s;refine iu (fun k=> ∀w X,ak (aS w0) w0 X w→k (if v.may then v else mS.zero).v w X) ?_ ?_
 ·intro w X TK;generalize hu:(if v.may then v else mS.zero)=u;have hue:E6 v=encI u.kind++(if u.kind=1 then C3 u.num else if u.kind=2 then qV u.text else []):=by unfold E6;simp only [hu]
  have hut:u.kind=2→u.text.size≤64:=by
   intro h2;by_cases hm:v.may=true
   ·rw [if_pos hm] at hu;subst hu;unfold mS.may at hm;rw [if_neg zQ,if_neg zQ,if_pos h2] at hm;simp at hm;omega
   ·rw [if_neg hm] at hu;rw [←hu] at h2;cases h2
  have hS1:=hS.since TK;replace hs:=hS1.s;repeat' first|refine aD ?_;intros
  refine hS1.ej (kF hS1.r zQ (af dd hs.kp.size)) kQ fun gy w2 X2 bR j9=>?_;have he:=fe u.kind;replace hs:=bR.s;repeat' first|refine aD ?_;intros
  refine iu (fun k=> ∀w X ki,WS w0 vb w X lo wb ki (bs++E6 v)→k w X) ?_ ?_
  ·intro w X ki dv;exact dv.fin
  ·intro K hK;rw [hue,←aB] at hK;repeat' first|refine aD ?_;intros|refine dD ?_ ?_<;>intros
   ·refine bR.ej (Ie bR.r (by simp;omega) (af dd hs.kp.size)) kQ fun ki w3 X3 dv lK=>?_;replace hs:=dv.s
    skip
    rw [if_pos zQ] at hK;exact hK _ _ _ dv
   ·refine bR.ej (Ku bR.r (by simp;omega) (af dd hs.kp.size) (by have:=hut zQ;omega)) kQ fun ki w3 X3 dv lK=>?_;replace hs:=dv.s
    skip
    rw [if_neg zQ,if_pos zQ] at hK;exact hK _ _ _ dv
   ·rw [if_neg zQ,if_neg zQ] at hK;rw [fh] at hK;exact hK _ _ _ bR
 ·intro K hK;have hs:=ak.init w0;cases hm:v.may<;>rw [hm] at hK
  ·repeat' first|refine aD ?_;intros|((with_reducible refine dR (mV _) ?_ hs.has ?_ ?_);(· kernel_rfl);all_goals (intro _ w X aq;replace hs:=hs.trans aq))
   all_goals first|exact hK _ _ hs|(exfalso;simp_all)
  ·repeat' first|refine aD ?_;intros|((with_reducible refine dR (mV _) ?_ hs.has ?_ ?_);(· kernel_rfl);all_goals (intro _ w X aq;replace hs:=hs.trans aq))
   all_goals first|exact hK _ _ hs|(exfalso;simp_all)
theorem ix {w:World} {X Z:XS} {lo wb cb xb xo:Nat} {vb:Value} {bs:List Nat} {n:Int} (h:Wr w X lo wb vb bs) (hc:Cells w Z cb 0 (jg wb)) (hx:Cells w Z xb xo [I n]) (hZ:pO Z X wb vb) (hb:bs.length≤2^38) (eo:lo≤w.heap.size):
  lh 229 #[ptr cb 0,ptr xb xo] w X lo wb vb bs (encI n):=by
 intro w0 hk;have dd:lo≤w0.heap.size:=af eo hk.size;replace hc:=hc.mv (hZ.mv hk);replace hx:=hx.mv (hZ.mv hk);have hS:=WS.init (h.mv hk.cL);apply HR;unfold y9;have hs:=hS.s;repeat' first|refine aD ?_;intros
 refine hS.ej (kF hS.r zQ dd) kQ fun gy w2 X2 bR j9=>?_
 skip
 exact bR.fin
theorem xi {w:World} {X Z:XS} {lo wb cb xb xo:Nat} {vb:Value} {bs:List Nat} {s:BA} (h:Wr w X lo wb vb bs) (hc:Cells w Z cb 0 (jg wb)) (hx:Cells w Z xb xo [.string s]) (hZ:pO Z X wb vb) (hb:bs.length≤2^38) (eo:lo≤w.heap.size) (bF:s.size≤2^38):
  lh 283 #[ptr cb 0,ptr xb xo] w X lo wb vb bs (qV s):=by
 intro w0 hk;have dd:lo≤w0.heap.size:=af eo hk.size;replace hc:=hc.mv (hZ.mv hk);replace hx:=hx.mv (hZ.mv hk);have hS:=WS.init (h.mv hk.cL);apply Gw;unfold xX;have hs:=hS.s;repeat' first|refine aD ?_;intros
 refine hS.ej (Ku hS.r zQ dd bF) kQ fun gy w2 X2 bR j9=>?_
 skip
 exact bR.fin
theorem iG {w:World} {X Z:XS} {lo wb cb xb xo:Nat} {vb:Value} {bs:List Nat} {s:aK} (h:Wr w X lo wb vb bs) (hc:Cells w Z cb 0 (jg wb)) (hx:Cells w Z xb xo s.l) (hZ:pO Z X wb vb) (hb:bs.length≤2^37) (eo:lo≤w.heap.size):
  lh 235 #[ptr cb 0,ptr xb xo] w X lo wb vb bs (oP s):=by
 have e1:=fe s.wall;have e2:=fe s.dp;intro w0 hk;have dd:lo≤w0.heap.size:=af eo hk.size;replace hc:=hc.mv (hZ.mv hk);replace hx:=hx.mv (hZ.mv hk);have hS:=WS.init (h.mv hk.cL);apply ER;unfold wX;have hs:=hS.s;repeat' first|refine aD ?_;intros
 refine hS.ej (ix (hS.r) (hc.mv hS.at) (Cells.mv (by assumption) hS.at) hS.z zQ dd) kQ fun gy w2 X2 bR j9=>?_;replace hs:=bR.s;repeat' first|refine aD ?_;intros
 refine bR.ej (ix (bR.r) (hc.mv bR.at) (Cells.mv (by assumption) bR.at) bR.z (by simp;omega) (af dd hs.kp.size)) kQ fun ki w3 X3 dv lK=>?_;replace hs:=dv.s;repeat' first|refine aD ?_;intros
 refine dv.ej (ix (dv.r) (hc.mv dv.at) (Cells.mv (by assumption) dv.at) dv.z (by simp;omega) (af dd hs.kp.size)) kQ fun MQ w4 X4 fu rI=>?_;replace hs:=fu.s
 skip
 rw [aB,aB,←aB (encI s.wall)] at fu;exact fu.fin
theorem ue {w:World} {X Z:XS} {lo wb cb xb xo:Nat} {vb:Value} {bs:List Nat} {s:dX} (h:Wr w X lo wb vb bs) (hc:Cells w Z cb 0 (jg wb)) (hx:Cells w Z xb xo s.l) (hZ:pO Z X wb vb) (hb:bs.length≤2^37) (eo:lo≤w.heap.size):
  lh 233 #[ptr cb 0,ptr xb xo] w X lo wb vb bs (As s):=by
 have e1:=fe s.iH;have e2:=fe s.lg;intro w0 hk;have dd:lo≤w0.heap.size:=af eo hk.size;replace hc:=hc.mv (hZ.mv hk);replace hx:=hx.mv (hZ.mv hk);have hS:=WS.init (h.mv hk.cL);apply HS;unfold za;have hs:=hS.s;repeat' first|refine aD ?_;intros
 refine hS.ej (ix (hS.r) (hc.mv hS.at) (Cells.mv (by assumption) hS.at) hS.z zQ dd) kQ fun gy w2 X2 bR j9=>?_;replace hs:=bR.s;repeat' first|refine aD ?_;intros
 refine bR.ej (ix (bR.r) (hc.mv bR.at) (Cells.mv (by assumption) bR.at) bR.z (by simp;omega) (af dd hs.kp.size)) kQ fun ki w3 X3 dv lK=>?_;replace hs:=dv.s;repeat' first|refine aD ?_;intros
 refine dv.ej (ix (dv.r) (hc.mv dv.at) (Cells.mv (by assumption) dv.at) dv.z (by simp;omega) (af dd hs.kp.size)) kQ fun MQ w4 X4 fu rI=>?_;replace hs:=fu.s
 skip
 rw [aB,aB,←aB (encI s.iH)] at fu;exact fu.fin
theorem uA (s:BA):(qV s).length=(encI s.size).length+s.size:=by
 unfold qV;rw [ae,ay]
 congr 1
theorem St {v:mS} :(E6 v).length≤100:=by
 unfold E6;generalize hu:(if v.may then v else mS.zero)=u;have h1:=fe u.kind;have hut:u.kind=2→u.text.size≤64:=by
  intro h2;by_cases hm:v.may=true
  ·rw [if_pos hm] at hu;subst hu;unfold mS.may at hm;rw [if_neg zQ,if_neg zQ,if_pos h2] at hm;simp at hm;omega
  ·rw [if_neg hm] at hu;rw [←hu] at h2;cases h2
 dsimp only;rw [ae];by_cases k1:u.kind=1
 ·rw [if_pos k1];unfold C3;simp;omega
 ·rw [if_neg k1];by_cases k2:u.kind=2
  ·rw [if_pos k2];have h3:=hut k2;have h4:=fe u.text.size;rw [uA];omega
  ·rw [if_neg k2];simp;omega
theorem zl {w:World} {X Z:XS} {lo wb cb xb xo:Nat} {vb:Value} {bs:List Nat} {v:mS} (h:Wr w X lo wb vb bs) (hc:Cells w Z cb 0 (jg wb)) (hx:Cells w Z xb xo v.l) (hZ:pO Z X wb vb) (hb:bs.length≤2^37) (eo:lo≤w.heap.size):
  lh 289 #[ptr cb 0,ptr xb xo] w X lo wb vb bs (E6 v):=by
 intro w0 hk;have dd:lo≤w0.heap.size:=af eo hk.size;replace hc:=hc.mv (hZ.mv hk);replace hx:=hx.mv (hZ.mv hk);have hS:=WS.init (h.mv hk.cL);apply EY;unfold xg;have hs:=hS.s;repeat' first|refine aD ?_;intros
 refine hS.ej (UX hS.r zQ dd) kQ fun gy w2 X2 bR j9=>?_
 skip
 exact bR.fin
theorem Qk {w:World} {X Z:XS} {lo wb cb xb xo:Nat} {vb:Value} {bs:List Nat} {x:KV} (h:Wr w X lo wb vb bs) (hc:Cells w Z cb 0 (jg wb)) (hx:Cells w Z xb xo x.l) (hZ:pO Z X wb vb) (hb:bs.length≤2^35) (eo:lo≤w.heap.size) (bF:x.key.size≤2^35):
  lh 238 #[ptr cb 0,ptr xb xo] w X lo wb vb bs (nP x):=by
 have e1:(qV x.key).length≤10+x.key.size:=by
  have:=fe x.key.size;rw [uA];omega
 intro w0 hk;have dd:lo≤w0.heap.size:=af eo hk.size;replace hc:=hc.mv (hZ.mv hk);replace hx:=hx.mv (hZ.mv hk);have hS:=WS.init (h.mv hk.cL);apply ET;unfold wZ;have hs:=hS.s;repeat' first|refine aD ?_;intros
 refine hS.ej (xi hS.r (hc.mv hS.at) (Cells.mv (by assumption) hS.at) hS.z zQ dd zQ) kQ fun gy w2 X2 bR j9=>?_;replace hs:=bR.s;repeat' first|refine aD ?_;intros
 refine bR.ej (zl (v:=x.val) bR.r (hc.mv bR.at) (Cells.mv (by assumption) bR.at) bR.z (by simp;omega) (af dd hs.kp.size)) kQ fun ki w3 X3 dv lK=>?_;replace hs:=dv.s
 skip
 rw [aB] at dv;exact dv.fin
theorem TQ {w:World} {X Z:XS} {lo wb cb xb xo:Nat} {vb:Value} {bs:List Nat} {x:KV} (h:Wr w X lo wb vb bs) (hc:Cells w Z cb 0 (jg wb)) (hx:Cells w Z xb xo x.l) (hZ:pO Z X wb vb) (hb:bs.length≤2^35) (eo:lo≤w.heap.size) (bF:x.key.size≤2^35):
  lh 240 #[ptr cb 0,ptr xb xo] w X lo wb vb bs (nP x):=by
 have e1:(qV x.key).length≤10+x.key.size:=by
  have:=fe x.key.size;rw [uA];omega
 intro w0 hk;have dd:lo≤w0.heap.size:=af eo hk.size;replace hc:=hc.mv (hZ.mv hk);replace hx:=hx.mv (hZ.mv hk);have hS:=WS.init (h.mv hk.cL);apply Gu;unfold xV;have hs:=hS.s;repeat' first|refine aD ?_;intros
 refine hS.ej (xi hS.r (hc.mv hS.at) (Cells.mv (by assumption) hS.at) hS.z zQ dd zQ) kQ fun gy w2 X2 bR j9=>?_;replace hs:=bR.s;repeat' first|refine aD ?_;intros
 refine bR.ej (zl (v:=x.val) bR.r (hc.mv bR.at) (Cells.mv (by assumption) bR.at) bR.z (by simp;omega) (af dd hs.kp.size)) kQ fun ki w3 X3 dv lK=>?_;replace hs:=dv.s
 skip
 rw [aB] at dv;exact dv.fin
theorem oI {α:Type} {f:α→List Nat} {xs:List α} {i:Nat} {x:α} (h:xs[i]? =some x):((xs.take (i+1)).map f).flatten=((xs.take i).map f).flatten++f x:=by
 rw [bc,h];simp
theorem su (s:aK):(oP s).length≤30:=by
 have h1:=fe s.wall;have h2:=fe s.dp;have h3:=fe s.node;unfold oP;simp only [ae];omega
theorem Pm (s:dX):(As s).length≤30:=by
 have h1:=fe s.iH;have h2:=fe s.lg;have h3:=fe s.sq;unfold As;simp only [ae];omega
def Mf (r:kX):List Nat:=encI r.id++(encI r.jD++(C3 r.lo++C3 r.hi))
def tV (v:kc):List Nat:=oP v.aw++E6 v.val
def ye (h:iP):List Nat:=qV h.key++jv tV h.jZ
def tz (p:dB):List Nat:=As p.bU++(oP p.aw++(jv qV p.reads++jv nP p.writes))
def encS (s:State):List Nat:=Mf s.range++(oP s.floor++(oP s.closed++(jv ye s.gG++jv tz s.eA)))
theorem yl {α:Type} {f:α→List Nat} {xs:List α} {i:Nat} {x:α} (h:xs[i]? =some x):(encI xs.length).length+((xs.take i).map f).flatten.length+(f x).length≤(jv f xs).length:=by
 have h1:xs=xs.take i++(x::xs.drop (i+1)):=by
  obtain⟨hi,rfl⟩:=List.getElem?_eq_some_iff.1 h;rw [←List.drop_eq_getElem_cons hi,List.take_append_drop]
 have h2:(jv f xs).length=(encI xs.length).length+((xs.take i).map f).flatten.length+((f x).length+((xs.drop (i+1)).map f).flatten.length):=by
  unfold jv;conv=>lhs;rw [h1]
  rw [bo,List.flatten_append,←h1];simp only [bB,List.flatten_cons,ae];omega
 omega
theorem KX (x:Nat):(C3 x).length=8:=by simp [C3]
theorem PC (x:KV):x.key.size≤(nP x).length:=by
 have h1:=uA x.key;unfold nP;rw [ae];omega
theorem TR {w:World} {X Z:XS} {lo wb cb xb xo:Nat} {vb:Value} {bs:List Nat} {b:Bool} (h:Wr w X lo wb vb bs) (hc:Cells w Z cb 0 (jg wb)) (hx:Cells w Z xb xo [B b]) (hZ:pO Z X wb vb) (hb:bs.length≤2^38) (eo:lo≤w.heap.size):
  lh 234 #[ptr cb 0,ptr xb xo] w X lo wb vb bs (W2 b):=by
 intro w0 hk;have dd:lo≤w0.heap.size:=af eo hk.size;replace hc:=hc.mv (hZ.mv hk);replace hx:=hx.mv (hZ.mv hk);have hS:=WS.init (h.mv hk.cL);apply Gt;unfold xU;have hs:=hS.s;repeat' first|refine aD ?_;intros
 refine hS.ej (UW hS.r zQ dd) kQ fun gy w2 X2 bR j9=>?_
 skip
 exact bR.fin
theorem zm {w:World} {X Z:XS} {lo wb cb xb xo:Nat} {vb:Value} {bs:List Nat} {x:Nat} (h:Wr w X lo wb vb bs) (hc:Cells w Z cb 0 (jg wb)) (hx:Cells w Z xb xo [.float .f64 x]) (hZ:pO Z X wb vb) (hb:bs.length≤2^38) (eo:lo≤w.heap.size):
  lh 236 #[ptr cb 0,ptr xb xo] w X lo wb vb bs (C3 x):=by
 intro w0 hk;have dd:lo≤w0.heap.size:=af eo hk.size;replace hc:=hc.mv (hZ.mv hk);replace hx:=hx.mv (hZ.mv hk);have hS:=WS.init (h.mv hk.cL);apply ES;unfold wY;have hs:=hS.s;repeat' first|refine aD ?_;intros
 refine hS.ej (Ie hS.r zQ dd) kQ fun gy w2 X2 bR j9=>?_
 skip
 exact bR.fin
theorem Ql {w:World} {X Z:XS} {lo wb cb xb xo:Nat} {vb:Value} {bs:List Nat} {r:kX} (h:Wr w X lo wb vb bs) (hc:Cells w Z cb 0 (jg wb)) (hx:Cells w Z xb xo r.l) (hZ:pO Z X wb vb) (hb:bs.length≤2^36) (eo:lo≤w.heap.size):
  lh 278 #[ptr cb 0,ptr xb xo] w X lo wb vb bs (Mf r):=by
 have e1:=fe r.id;have e2:=fe r.jD;have e3:=KX r.lo;intro w0 hk;have dd:lo≤w0.heap.size:=af eo hk.size;replace hc:=hc.mv (hZ.mv hk);replace hx:=hx.mv (hZ.mv hk);have hS:=WS.init (h.mv hk.cL);apply EV;unfold xd;have hs:=hS.s;repeat' first|refine aD ?_;intros
 refine hS.ej (ix hS.r (hc.mv hS.at) (Cells.mv (by assumption) hS.at) hS.z (by(try simp only [ae]);omega) (af dd hs.kp.size)) kQ fun gy w X bR _=>?_;replace hs:=bR.s;repeat' first|refine aD ?_;intros
 refine bR.ej (ix bR.r (hc.mv bR.at) (Cells.mv (by assumption) bR.at) bR.z (by(try simp only [ae]);omega) (af dd hs.kp.size)) kQ fun ki w X dv _=>?_;replace hs:=dv.s;repeat' first|refine aD ?_;intros
 refine dv.ej (zm dv.r (hc.mv dv.at) (Cells.mv (by assumption) dv.at) dv.z (by(try simp only [ae]);omega) (af dd hs.kp.size)) kQ fun MQ w X fu _=>?_;replace hs:=fu.s;repeat' first|refine aD ?_;intros
 refine fu.ej (zm fu.r (hc.mv fu.at) (Cells.mv (by assumption) fu.at) fu.z (by(try simp only [ae]);omega) (af dd hs.kp.size)) kQ fun TS w X kG _=>?_;replace hs:=kG.s
 skip
 unfold Mf;simp only [aB] at kG;exact kG.fin
theorem MR {w:World} {X Z:XS} {lo wb cb xb xo:Nat} {vb:Value} {bs:List Nat} {x:kc} (h:Wr w X lo wb vb bs) (hc:Cells w Z cb 0 (jg wb)) (hx:Cells w Z xb xo x.l) (hZ:pO Z X wb vb) (hb:bs.length≤2^36) (eo:lo≤w.heap.size):
  lh 304 #[ptr cb 0,ptr xb xo] w X lo wb vb bs (tV x):=by
 have e1:=su x.aw;intro w0 hk;have dd:lo≤w0.heap.size:=af eo hk.size;replace hc:=hc.mv (hZ.mv hk);replace hx:=hx.mv (hZ.mv hk);have hS:=WS.init (h.mv hk.cL);apply CV;unfold uc;have hs:=hS.s;repeat' first|refine aD ?_;intros
 refine hS.ej (iG (s:=x.aw) hS.r (hc.mv hS.at) (Cells.mv (by assumption) hS.at) hS.z (by(try simp only [ae]);omega) (af dd hs.kp.size)) kQ fun gy w X bR _=>?_;replace hs:=bR.s;repeat' first|refine aD ?_;intros
 refine bR.ej (zl (v:=x.val) bR.r (hc.mv bR.at) (Cells.mv (by assumption) bR.at) bR.z (by(try simp only [ae]);omega) (af dd hs.kp.size)) kQ fun ki w X dv _=>?_;replace hs:=dv.s
 skip
 unfold tV;simp only [aB] at dv;exact dv.fin
theorem Lp {w:World} {X Z:XS} {lo wb cb xb xo:Nat} {vb va:Value} {bs:List Nat} {xs:List BA} (h:Wr w X lo wb vb bs) (hc:Cells w Z cb 0 (jg wb)) (hx:Cells w Z xb xo [va]) (ha:Sl w Z 1 va (xs.map S1)) (hZ:pO Z X wb vb) (eo:lo≤w.heap.size) (hb:bs.length+(jv qV xs).length≤2^33):
  lh 282 #[ptr cb 0,ptr xb xo,.func (.func 283) #[ptr cb 0] #[]] w X lo wb vb bs (jv qV xs):=by
  intro w0 hk;have dd:lo≤w0.heap.size:=af eo hk.size;replace hc:=hc.mv (hZ.mv hk);replace hx:=hx.mv (hZ.mv hk);replace ha:=ha.mv (hZ.mv hk);have hS:=WS.init (h.mv hk.cL);have iV:=ha.gz;apply EW;unfold xe;have hs:=hS.s;repeat' first|refine aD ?_;intros
  refine iu (fun (k:Value→World→XS→Prop)=> ∀w X gy,WS w0 vb w X lo wb gy (bs++encI xs.length)→k (I xs.length) w X) ?_ ?_
  ·intro w X gy bR;refine eG (fun n' a w X=> ∃(i:Nat) (pY:Value),a=I i∧n'=xs.length-i∧i≤xs.length∧WS w0 vb w X lo wb pY (bs++encI xs.length++((xs.take i).map qV).flatten)) xs.length ⟨0,gy,rfl,rfl,aN _,by simpa using bR⟩ ?_;clear bR hS hs;rintro n' a w X ⟨i,pY,rfl,rfl,hi,hS⟩;have hs:=hS.s;rcases eb xs i with⟨cK,x,vu,hd⟩|⟨dU,hd⟩
   ·have eX:=yl (f:=qV) vu;repeat' first|refine bO ?_;intros
    refine iu (fun (k:World→XS→Prop)=>k w X) ?_ ?_
    ·repeat' first|refine aD ?_;intros
     refine Bo ?_;refine hS.ej (xi (s:=x) hS.r (hc.mv hS.at) (Cells.mv (by assumption) hS.at) hS.z (by simp only [ae];omega) (af dd hs.kp.size) (by have:=uA x;omega)) kQ fun ki w3 X3 dv lK=>?_;replace hs:=dv.s;repeat' first|refine aD ?_;intros
     refine ep (xs.length-(i+1)) zQ ⟨i+1,ki,by simp,rfl,by omega,?_⟩;rw [oI vu,←aB];exact dv
    ·intro K hK;repeat' first|refine aD ?_;intros|exact hK
   ·rw [aY dU] at hS;repeat' first|refine bO ?_;intros
    rw [aB] at hS;exact hS.fin
  ·intro K hK;repeat' first|refine aD ?_;intros
   refine hS.ej (kF hS.r zQ dd) kQ fun gy w2 X2 bR j9=>?_;replace hs:=bR.s
   skip
   exact hK _ _ _ bR
theorem Cp {w:World} {X Z:XS} {lo wb cb xb xo:Nat} {vb va:Value} {bs:List Nat} {xs:List Int} (h:Wr w X lo wb vb bs) (hc:Cells w Z cb 0 (jg wb)) (hx:Cells w Z xb xo [va]) (ha:Sl w Z 1 va (xs.map I1)) (hZ:pO Z X wb vb) (eo:lo≤w.heap.size) (hb:bs.length+(jv encI xs).length≤2^33):
  lh 232 #[ptr cb 0,ptr xb xo,.func (.func 229) #[ptr cb 0] #[]] w X lo wb vb bs (jv encI xs):=by
  intro w0 hk;have dd:lo≤w0.heap.size:=af eo hk.size;replace hc:=hc.mv (hZ.mv hk);replace hx:=hx.mv (hZ.mv hk);replace ha:=ha.mv (hZ.mv hk);have hS:=WS.init (h.mv hk.cL);have iV:=ha.gz;apply Jr;unfold zZ;have hs:=hS.s;repeat' first|refine aD ?_;intros
  refine iu (fun (k:Value→World→XS→Prop)=> ∀w X gy,WS w0 vb w X lo wb gy (bs++encI xs.length)→k (I xs.length) w X) ?_ ?_
  ·intro w X gy bR;refine eG (fun n' a w X=> ∃(i:Nat) (pY:Value),a=I i∧n'=xs.length-i∧i≤xs.length∧WS w0 vb w X lo wb pY (bs++encI xs.length++((xs.take i).map encI).flatten)) xs.length ⟨0,gy,rfl,rfl,aN _,by simpa using bR⟩ ?_;clear bR hS hs;rintro n' a w X ⟨i,pY,rfl,rfl,hi,hS⟩;have hs:=hS.s;rcases eb xs i with⟨cK,x,vu,hd⟩|⟨dU,hd⟩
   ·have eX:=yl (f:=encI) vu;repeat' first|refine bO ?_;intros
    refine iu (fun (k:World→XS→Prop)=>k w X) ?_ ?_
    ·repeat' first|refine aD ?_;intros
     refine Bo ?_;refine hS.ej (ix (n:=x) hS.r (hc.mv hS.at) (Cells.mv (by assumption) hS.at) hS.z (by simp only [ae];omega) (af dd hs.kp.size)) kQ fun ki w3 X3 dv lK=>?_;replace hs:=dv.s;repeat' first|refine aD ?_;intros
     refine ep (xs.length-(i+1)) zQ ⟨i+1,ki,by simp,rfl,by omega,?_⟩;rw [oI vu,←aB];exact dv
    ·intro K hK;repeat' first|refine aD ?_;intros|exact hK
   ·rw [aY dU] at hS;repeat' first|refine bO ?_;intros
    rw [aB] at hS;exact hS.fin
  ·intro K hK;repeat' first|refine aD ?_;intros
   refine hS.ej (kF hS.r zQ dd) kQ fun gy w2 X2 bR j9=>?_;replace hs:=bR.s
   skip
   exact hK _ _ _ bR
theorem FU {w:World} {X Z:XS} {lo wb cb xb xo:Nat} {vb va:Value} {bs:List Nat} {xs:List KV} (h:Wr w X lo wb vb bs) (hc:Cells w Z cb 0 (jg wb)) (hx:Cells w Z xb xo [va]) (ha:Sl w Z 4 va (xs.map KV.l)) (hZ:pO Z X wb vb) (eo:lo≤w.heap.size) (hb:bs.length+(jv nP xs).length≤2^33):
  lh 237 #[ptr cb 0,ptr xb xo,.func (.func 238) #[ptr cb 0] #[]] w X lo wb vb bs (jv nP xs):=by
  intro w0 hk;have dd:lo≤w0.heap.size:=af eo hk.size;replace hc:=hc.mv (hZ.mv hk);replace hx:=hx.mv (hZ.mv hk);replace ha:=ha.mv (hZ.mv hk);have hS:=WS.init (h.mv hk.cL);have iV:=ha.gz;apply BN;unfold tp;have hs:=hS.s;repeat' first|refine aD ?_;intros
  refine iu (fun (k:Value→World→XS→Prop)=> ∀w X gy,WS w0 vb w X lo wb gy (bs++encI xs.length)→k (I xs.length) w X) ?_ ?_
  ·intro w X gy bR;refine eG (fun n' a w X=> ∃(i:Nat) (pY:Value),a=I i∧n'=xs.length-i∧i≤xs.length∧WS w0 vb w X lo wb pY (bs++encI xs.length++((xs.take i).map nP).flatten)) xs.length ⟨0,gy,rfl,rfl,aN _,by simpa using bR⟩ ?_;clear bR hS hs;rintro n' a w X ⟨i,pY,rfl,rfl,hi,hS⟩;have hs:=hS.s;rcases eb xs i with⟨cK,x,vu,hd⟩|⟨dU,hd⟩
   ·have eX:=yl (f:=nP) vu;repeat' first|refine bO ?_;intros
    refine iu (fun (k:World→XS→Prop)=>k w X) ?_ ?_
    ·repeat' first|refine aD ?_;intros
     refine Bo ?_;refine hS.ej (Qk (x:=x) hS.r (hc.mv hS.at) (Cells.mv (by assumption) hS.at) hS.z (by simp only [ae];omega) (af dd hs.kp.size) (by have:=PC x;omega)) kQ fun ki w3 X3 dv lK=>?_;replace hs:=dv.s;repeat' first|refine aD ?_;intros
     refine ep (xs.length-(i+1)) zQ ⟨i+1,ki,by simp,rfl,by omega,?_⟩;rw [oI vu,←aB];exact dv
    ·intro K hK;repeat' first|refine aD ?_;intros|exact hK
   ·rw [aY dU] at hS;repeat' first|refine bO ?_;intros
    rw [aB] at hS;exact hS.fin
  ·intro K hK;repeat' first|refine aD ?_;intros
   refine hS.ej (kF hS.r zQ dd) kQ fun gy w2 X2 bR j9=>?_;replace hs:=bR.s
   skip
   exact hK _ _ _ bR
theorem Qm {w:World} {X Z:XS} {lo wb cb xb xo:Nat} {vb va:Value} {bs:List Nat} {xs:List KV} (h:Wr w X lo wb vb bs) (hc:Cells w Z cb 0 (jg wb)) (hx:Cells w Z xb xo [va]) (ha:Sl w Z 4 va (xs.map KV.l)) (hZ:pO Z X wb vb) (eo:lo≤w.heap.size) (hb:bs.length+(jv nP xs).length≤2^33):
  lh 239 #[ptr cb 0,ptr xb xo,.func (.func 240) #[ptr cb 0] #[]] w X lo wb vb bs (jv nP xs):=by
  intro w0 hk;have dd:lo≤w0.heap.size:=af eo hk.size;replace hc:=hc.mv (hZ.mv hk);replace hx:=hx.mv (hZ.mv hk);replace ha:=ha.mv (hZ.mv hk);have hS:=WS.init (h.mv hk.cL);have iV:=ha.gz;apply CT;unfold ua;have hs:=hS.s;repeat' first|refine aD ?_;intros
  refine iu (fun (k:Value→World→XS→Prop)=> ∀w X gy,WS w0 vb w X lo wb gy (bs++encI xs.length)→k (I xs.length) w X) ?_ ?_
  ·intro w X gy bR;refine eG (fun n' a w X=> ∃(i:Nat) (pY:Value),a=I i∧n'=xs.length-i∧i≤xs.length∧WS w0 vb w X lo wb pY (bs++encI xs.length++((xs.take i).map nP).flatten)) xs.length ⟨0,gy,rfl,rfl,aN _,by simpa using bR⟩ ?_;clear bR hS hs;rintro n' a w X ⟨i,pY,rfl,rfl,hi,hS⟩;have hs:=hS.s;rcases eb xs i with⟨cK,x,vu,hd⟩|⟨dU,hd⟩
   ·have eX:=yl (f:=nP) vu;repeat' first|refine bO ?_;intros
    refine iu (fun (k:World→XS→Prop)=>k w X) ?_ ?_
    ·repeat' first|refine aD ?_;intros
     refine Bo ?_;refine hS.ej (TQ (x:=x) hS.r (hc.mv hS.at) (Cells.mv (by assumption) hS.at) hS.z (by simp only [ae];omega) (af dd hs.kp.size) (by have:=PC x;omega)) kQ fun ki w3 X3 dv lK=>?_;replace hs:=dv.s;repeat' first|refine aD ?_;intros
     refine ep (xs.length-(i+1)) zQ ⟨i+1,ki,by simp,rfl,by omega,?_⟩;rw [oI vu,←aB];exact dv
    ·intro K hK;repeat' first|refine aD ?_;intros|exact hK
   ·rw [aY dU] at hS;repeat' first|refine bO ?_;intros
    rw [aB] at hS;exact hS.fin
  ·intro K hK;repeat' first|refine aD ?_;intros
   refine hS.ej (kF hS.r zQ dd) kQ fun gy w2 X2 bR j9=>?_;replace hs:=bR.s
   skip
   exact hK _ _ _ bR
theorem MS {w:World} {X Z:XS} {lo wb cb xb xo:Nat} {vb va:Value} {bs:List Nat} {xs:List kc} (h:Wr w X lo wb vb bs) (hc:Cells w Z cb 0 (jg wb)) (hx:Cells w Z xb xo [va]) (ha:Sl w Z 6 va (xs.map kc.l)) (hZ:pO Z X wb vb) (eo:lo≤w.heap.size) (hb:bs.length+(jv tV xs).length≤2^33):
  lh 303 #[ptr cb 0,ptr xb xo,.func (.func 304) #[ptr cb 0] #[]] w X lo wb vb bs (jv tV xs):=by
  intro w0 hk;have dd:lo≤w0.heap.size:=af eo hk.size;replace hc:=hc.mv (hZ.mv hk);replace hx:=hx.mv (hZ.mv hk);replace ha:=ha.mv (hZ.mv hk);have hS:=WS.init (h.mv hk.cL);have iV:=ha.gz;apply Aq;unfold rU;have hs:=hS.s;repeat' first|refine aD ?_;intros
  refine iu (fun (k:Value→World→XS→Prop)=> ∀w X gy,WS w0 vb w X lo wb gy (bs++encI xs.length)→k (I xs.length) w X) ?_ ?_
  ·intro w X gy bR;refine eG (fun n' a w X=> ∃(i:Nat) (pY:Value),a=I i∧n'=xs.length-i∧i≤xs.length∧WS w0 vb w X lo wb pY (bs++encI xs.length++((xs.take i).map tV).flatten)) xs.length ⟨0,gy,rfl,rfl,aN _,by simpa using bR⟩ ?_;clear bR hS hs;rintro n' a w X ⟨i,pY,rfl,rfl,hi,hS⟩;have hs:=hS.s;rcases eb xs i with⟨cK,x,vu,hd⟩|⟨dU,hd⟩
   ·have eX:=yl (f:=tV) vu;repeat' first|refine bO ?_;intros
    refine iu (fun (k:World→XS→Prop)=>k w X) ?_ ?_
    ·repeat' first|refine aD ?_;intros
     refine Bo ?_;refine hS.ej (MR (x:=x) hS.r (hc.mv hS.at) (Cells.mv (by assumption) hS.at) hS.z (by simp only [ae];omega) (af dd hs.kp.size)) kQ fun ki w3 X3 dv lK=>?_;replace hs:=dv.s;repeat' first|refine aD ?_;intros
     refine ep (xs.length-(i+1)) zQ ⟨i+1,ki,by simp,rfl,by omega,?_⟩;rw [oI vu,←aB];exact dv
    ·intro K hK;repeat' first|refine aD ?_;intros|exact hK
   ·rw [aY dU] at hS;repeat' first|refine bO ?_;intros
    rw [aB] at hS;exact hS.fin
  ·intro K hK;repeat' first|refine aD ?_;intros
   refine hS.ej (kF hS.r zQ dd) kQ fun gy w2 X2 bR j9=>?_;replace hs:=bR.s
   skip
   exact hK _ _ _ bR
theorem MT {w:World} {X Z:XS} {lo wb cb xb xo:Nat} {vb vv:Value} {bs:List Nat} {x:iP} (h:Wr w X lo wb vb bs) (hc:Cells w Z cb 0 (jg wb)) (hx:Cells w Z xb xo (x.l vv)) (ha:Sl w Z 6 vv (x.jZ.map kc.l)) (hZ:pO Z X wb vb) (eo:lo≤w.heap.size) (hb:bs.length+(ye x).length≤2^33):
  lh 280 #[ptr cb 0,ptr xb xo] w X lo wb vb bs (ye x):=by
 have e1:(ye x).length=(qV x.key).length+(jv tV x.jZ).length:=by simp [ye]
 have e2:=uA x.key;replace ha:=fun {w1:World} (hk:Kp X w w1)=>ha.mv (hZ.mv hk);intro w0 hk;have dd:lo≤w0.heap.size:=af eo hk.size;replace hc:=hc.mv (hZ.mv hk);replace hx:=hx.mv (hZ.mv hk);have hS:=WS.init (h.mv hk.cL);apply CU;unfold ub;have hs:=hS.s;replace ha:=ha hk;have ov:=ha.one;repeat' first|refine aD ?_;intros
 refine hS.ej (xi hS.r (hc.mv hS.at) (Cells.mv (by assumption) hS.at) hS.z zQ dd zQ) kQ fun gy w X bR _=>?_;replace hs:=bR.s;repeat' first|refine aD ?_;intros
 refine bR.ej (MS bR.r (hc.mv bR.at) (Cells.mv (by assumption) bR.at) (ha.mv bR.at) bR.z (af dd hs.kp.size) (by simp only [ae];omega)) kQ fun ki w X dv _=>?_
 skip
 unfold ye;simp only [aB] at dv;exact dv.fin
theorem Cq {w:World} {X Z:XS} {lo wb cb xb xo:Nat} {vb vr vw:Value} {bs:List Nat} {x:dB} (h:Wr w X lo wb vb bs) (hc:Cells w Z cb 0 (jg wb)) (hx:Cells w Z xb xo (x.l vr vw)) (h1:Sl w Z 1 vr (x.reads.map S1)) (h2:Sl w Z 4 vw (x.writes.map KV.l)) (hZ:pO Z X wb vb) (eo:lo≤w.heap.size) (hb:bs.length+(tz x).length≤2^33):
  lh 231 #[ptr cb 0,ptr xb xo] w X lo wb vb bs (tz x):=by
 have e1:(tz x).length=(As x.bU).length+((oP x.aw).length+((jv qV x.reads).length+(jv nP x.writes).length)):=by simp [tz]
 replace h1:=fun {w1:World} (hk:Kp X w w1)=>h1.mv (hZ.mv hk);replace h2:=fun {w1:World} (hk:Kp X w w1)=>h2.mv (hZ.mv hk);intro w0 hk;have dd:lo≤w0.heap.size:=af eo hk.size;replace hc:=hc.mv (hZ.mv hk);replace hx:=hx.mv (hZ.mv hk);have hS:=WS.init (h.mv hk.cL);apply CQ;unfold tZ;have hs:=hS.s;replace h1:=h1 hk;replace h2:=h2 hk;have o1:=h1.one;have o2:=h2.one;repeat' first|refine aD ?_;intros
 refine hS.ej (ue (s:=x.bU) hS.r (hc.mv hS.at) (Cells.mv (by assumption) hS.at) hS.z (by(try simp only [ae]);omega) (af dd hs.kp.size)) kQ fun gy w X bR _=>?_;replace hs:=bR.s;repeat' first|refine aD ?_;intros
 refine bR.ej (iG (s:=x.aw) bR.r (hc.mv bR.at) (Cells.mv (by assumption) bR.at) bR.z (by(try simp only [ae]);omega) (af dd hs.kp.size)) kQ fun ki w X dv _=>?_;replace hs:=dv.s;repeat' first|refine aD ?_;intros
 refine dv.ej (Lp dv.r (hc.mv dv.at) (Cells.mv (by assumption) dv.at) (h1.mv dv.at) dv.z (af dd hs.kp.size) (by simp only [ae];omega)) kQ fun MQ w X fu _=>?_;replace hs:=fu.s;repeat' first|refine aD ?_;intros
 refine fu.ej (FU fu.r (hc.mv fu.at) (Cells.mv (by assumption) fu.at) (h2.mv fu.at) fu.z (af dd hs.kp.size) (by simp only [ae];omega)) kQ fun TS w X kG _=>?_
 skip
 unfold tz;simp only [aB] at kG;exact kG.fin
theorem Lq {w:World} {X Z:XS} {lo wb cb xb xo:Nat} {vb va:Value} {bs:List Nat} {xs:List iP} (h:Wr w X lo wb vb bs) (hc:Cells w Z cb 0 (jg wb)) (hx:Cells w Z xb xo [va]) (ha:nL w Z va xs) (hZ:pO Z X wb vb) (eo:lo≤w.heap.size) (hb:bs.length+(jv ye xs).length≤2^33):
  lh 279 #[ptr cb 0,ptr xb xo,.func (.func 280) #[ptr cb 0] #[]] w X lo wb vb bs (jv ye xs):=by
  intro w0 hk;have dd:lo≤w0.heap.size:=af eo hk.size;replace hc:=hc.mv (hZ.mv hk);replace hx:=hx.mv (hZ.mv hk);replace ha:=ha.mv (hZ.mv hk);have hS:=WS.init (h.mv hk.cL);have iV:=gO.len ha;apply Ao;unfold rS;have hs:=hS.s;repeat' first|refine aD ?_;intros
  refine iu (fun (k:Value→World→XS→Prop)=> ∀w X gy,WS w0 vb w X lo wb gy (bs++encI xs.length)→k (I xs.length) w X) ?_ ?_
  ·intro w X gy bR;refine eG (fun n' a w X=> ∃(i:Nat) (pY:Value),a=I i∧n'=xs.length-i∧i≤xs.length∧WS w0 vb w X lo wb pY (bs++encI xs.length++((xs.take i).map ye).flatten)) xs.length ⟨0,gy,rfl,rfl,aN _,by simpa using bR⟩ ?_;clear bR hS hs;rintro n' a w X ⟨i,pY,rfl,rfl,hi,hS⟩;have hs:=hS.s;rcases eb xs i with⟨cK,x,vu,hd⟩|⟨dU,hd⟩
   ·have eX:=yl (f:=ye) vu;repeat' first|refine bO ?_;intros
    refine iu (fun (k:World→XS→Prop)=>k w X) ?_ ?_
    ·repeat' first|refine aD ?_;intros|((with_reducible apply MG);assumption;(try (case hz=>rfl));(case hr=>exact qR);(try (case hz=>omega));(case ht=>kernel_rfl);(case hs=>kernel_rfl);intros)
     refine Bo ?_;refine hS.ej (MT (x:=x) hS.r (hc.mv hS.at) (Cells.mv (by assumption) hS.at) (Sl.mv (by assumption) hS.at) hS.z (af dd hs.kp.size) (by simp only [ae];omega)) kQ fun ki w3 X3 dv lK=>?_;replace hs:=dv.s;repeat' first|refine aD ?_;intros
     refine ep (xs.length-(i+1)) zQ ⟨i+1,ki,by simp,rfl,by omega,?_⟩;rw [oI vu,←aB];exact dv
    ·intro K hK;repeat' first|refine aD ?_;intros|exact hK
   ·rw [aY dU] at hS;repeat' first|refine bO ?_;intros
    rw [aB] at hS;exact hS.fin
  ·intro K hK;repeat' first|refine aD ?_;intros
   refine hS.ej (kF hS.r zQ dd) kQ fun gy w2 X2 bR j9=>?_;replace hs:=bR.s
   skip
   exact hK _ _ _ bR
theorem Lr {w:World} {X Z:XS} {lo wb cb xb xo:Nat} {vb va:Value} {bs:List Nat} {xs:List dB} (h:Wr w X lo wb vb bs) (hc:Cells w Z cb 0 (jg wb)) (hx:Cells w Z xb xo [va]) (ha:nK w Z va xs) (hZ:pO Z X wb vb) (eo:lo≤w.heap.size) (hb:bs.length+(jv tz xs).length≤2^33):
  lh 281 #[ptr cb 0,ptr xb xo,.func (.func 231) #[ptr cb 0] #[]] w X lo wb vb bs (jv tz xs):=by
  intro w0 hk;have dd:lo≤w0.heap.size:=af eo hk.size;replace hc:=hc.mv (hZ.mv hk);replace hx:=hx.mv (hZ.mv hk);replace ha:=ha.mv (hZ.mv hk);have hS:=WS.init (h.mv hk.cL);have iV:=gO.len ha;apply Ap;unfold rT;have hs:=hS.s;repeat' first|refine aD ?_;intros
  refine iu (fun (k:Value→World→XS→Prop)=> ∀w X gy,WS w0 vb w X lo wb gy (bs++encI xs.length)→k (I xs.length) w X) ?_ ?_
  ·intro w X gy bR;refine eG (fun n' a w X=> ∃(i:Nat) (pY:Value),a=I i∧n'=xs.length-i∧i≤xs.length∧WS w0 vb w X lo wb pY (bs++encI xs.length++((xs.take i).map tz).flatten)) xs.length ⟨0,gy,rfl,rfl,aN _,by simpa using bR⟩ ?_;clear bR hS hs;rintro n' a w X ⟨i,pY,rfl,rfl,hi,hS⟩;have hs:=hS.s;rcases eb xs i with⟨cK,x,vu,hd⟩|⟨dU,hd⟩
   ·have eX:=yl (f:=tz) vu;repeat' first|refine bO ?_;intros
    refine iu (fun (k:World→XS→Prop)=>k w X) ?_ ?_
    ·repeat' first|refine aD ?_;intros|((with_reducible apply IE);assumption;(try (case hz=>rfl));(case hr=>exact qR);(try (case hz=>omega));(case ht=>kernel_rfl);(case hs=>kernel_rfl);intros)
     refine Bo ?_;refine hS.ej (Cq (x:=x) hS.r (hc.mv hS.at) (Cells.mv (by assumption) hS.at) (Sl.mv (by assumption) hS.at) (Sl.mv (by assumption) hS.at) hS.z (af dd hs.kp.size) (by simp only [ae];omega)) kQ fun ki w3 X3 dv lK=>?_;replace hs:=dv.s;repeat' first|refine aD ?_;intros
     refine ep (xs.length-(i+1)) zQ ⟨i+1,ki,by simp,rfl,by omega,?_⟩;rw [oI vu,←aB];exact dv
    ·intro K hK;repeat' first|refine aD ?_;intros|exact hK
   ·rw [aY dU] at hS;repeat' first|refine bO ?_;intros
    rw [aB] at hS;exact hS.fin
  ·intro K hK;repeat' first|refine aD ?_;intros
   refine hS.ej (kF hS.r zQ dd) kQ fun gy w2 X2 bR j9=>?_;replace hs:=bR.s
   skip
   exact hK _ _ _ bR
theorem Qn {w:World} {X Z:XS} {lo wb cb xb xo:Nat} {vb vh vp:Value} {bs:List Nat} {x:State} (h:Wr w X lo wb vb bs) (hc:Cells w Z cb 0 (jg wb)) (hx:Cells w Z xb xo (x.l vh vp)) (h1:nL w Z vh x.gG) (h2:nK w Z vp x.eA) (hZ:pO Z X wb vb) (eo:lo≤w.heap.size) (hb:bs.length+(encS x).length≤2^33):
  lh 230 #[ptr cb 0,ptr xb xo] w X lo wb vb bs (encS x):=by
 have e1:(encS x).length=(Mf x.range).length+((oP x.floor).length+((oP x.closed).length+((jv ye x.gG).length+(jv tz x.eA).length))):=by simp [encS]
 replace h1:=fun {w1:World} (hk:Kp X w w1)=>nL.mv h1 (hZ.mv hk);replace h2:=fun {w1:World} (hk:Kp X w w1)=>nK.mv h2 (hZ.mv hk);intro w0 hk;have dd:lo≤w0.heap.size:=af eo hk.size;replace hc:=hc.mv (hZ.mv hk);replace hx:=hx.mv (hZ.mv hk);have hS:=WS.init (h.mv hk.cL);apply EP;unfold wW;have hs:=hS.s;replace h1:=h1 hk;replace h2:=h2 hk;have o1:=h1.one;have o2:=h2.one;repeat' first|refine aD ?_;intros
 refine hS.ej (Ql (r:=x.range) hS.r (hc.mv hS.at) (Cells.mv (by assumption) hS.at) hS.z (by(try simp only [ae]);omega) (af dd hs.kp.size)) kQ fun gy w X bR _=>?_;replace hs:=bR.s;repeat' first|refine aD ?_;intros
 refine bR.ej (iG (s:=x.floor) bR.r (hc.mv bR.at) (Cells.mv (by assumption) bR.at) bR.z (by(try simp only [ae]);omega) (af dd hs.kp.size)) kQ fun ki w X dv _=>?_;replace hs:=dv.s;repeat' first|refine aD ?_;intros
 refine dv.ej (iG (s:=x.closed) dv.r (hc.mv dv.at) (Cells.mv (by assumption) dv.at) dv.z (by(try simp only [ae]);omega) (af dd hs.kp.size)) kQ fun MQ w X fu _=>?_;replace hs:=fu.s;repeat' first|refine aD ?_;intros
 refine fu.ej (Lq fu.r (hc.mv fu.at) (Cells.mv (by assumption) fu.at) (h1.mv fu.at) fu.z (af dd hs.kp.size) (by simp only [ae];omega)) kQ fun TS w X kG _=>?_;replace hs:=kG.s;repeat' first|refine aD ?_;intros
 refine kG.ej (Lr kG.r (hc.mv kG.at) (Cells.mv (by assumption) kG.at) (h2.mv kG.at) kG.z (af dd hs.kp.size) (by simp only [ae];omega)) kQ fun vb6 w X PD _=>?_
 skip
 unfold encS;simp only [aB] at PD;exact PD.fin
def uB (r:Rec):List Nat:=encI r.kind++(
 if r.kind=1 then encS r.state
 else if r.kind=2∨r.kind=7∨r.kind=8 then encI r.n
 else if r.kind=3 then tz ⟨r.bU,r.aw,r.reads,r.writes⟩++jv encI r.parts
 else if r.kind=4 then As r.bU++(W2 r.iy++oP r.aw)
 else if r.kind=5 then oP r.aw
 else if r.kind=6 then C3 r.jP++(encI r.n++oP r.aw)
 else if r.kind=9 then As r.bU++(oP r.aw++jv encI r.parts)
 else if r.kind=10 then As r.bU
 else if r.kind=11 then oP r.prev++(oP r.aw++(As r.bU++jv nP r.writes))
 else if r.kind=12 then oP r.aw++jv nP r.qm
 else [])
theorem E7 {P:Program} {R:Ending→World→Prop} {X:XS} {w:World} {t sz b o o':Nat} {cs:List Value} {ty:TypeId} {v:Value} {N:Value→World→XS→Prop} (h:bI w X b cs ty) (SK:o'=o) (ht:(P.info? t).map (·.size)=some sz)
  (hl:o+sz≤cs.length) (hv:v.cells.size=sz) (h1:v.cells.toList.all bu.one=true) (hX: ∀k,X k→k<w.heap.size) (he:cz cs o v.cells.toList=cs)
  (n: ∀w' X',ak X w X' w'→N undef w' X'):eU P R X w true (st1 t sz (ptr b o') v) N:=by
 refine Io h SK ht hl hv h1 hX fun w' X' c hr=>n w' X' ⟨⟨c.os,c.tape,c.output,c.size,fun k hk=>?_⟩,c.sub,c.has⟩;by_cases e:k=b
 ·subst e;rw [h.2,hr.2,he]
 ·exact c.block k hk e
theorem WS.aib {w0 w w':World} {X X':XS} {lo wb b:Nat} {nJ vb:Value} {bs:List Nat} {cs:List Value} {ty:TypeId} (hS:WS w0 nJ w X lo wb vb bs) (hr:bI w X b cs ty) (hb:w0.heap.size≤b)
  (h1:decide (247≠ty)=true) (h2:decide (5≠ty)=true) (c:ef (fun k=>k=b) X w X' w'):WS w0 nJ w' X' lo wb vb bs:=by
 have bW:wb≠b:=hS.r.box.gd hr h1;refine⟨hS.s.dF c fun q h0 hq=>?_,⟨⟨c.sub _ hS.r.box.1,by rw [c.block _ hS.r.box.1 fun e=>bW e];exact hS.r.box.2⟩,Own.dF hS.r.ow c fun g hg e=>Own.gd hS.r.ow hr h2 (by rw [hg,e])⟩,hS.v⟩;have:=h0.1;have hq:q=b:=hq;omega
theorem _root_.Go.bu.bI.dF {F X X':XS} {w w':World} {b:Nat} {cs:List Value} {ty:TypeId} (h:bI w X b cs ty) (c:ef F X w X' w') (hn: ¬F b):bI w' X' b cs ty:=⟨c.sub _ h.1,by rw [c.block _ h.1 hn];exact h.2⟩
theorem UY {w:World} {X Z:XS} {lo wb cb xb:Nat} {vb:Value} {bs:List Nat} {r:Rec} {vr vw vp vq vh vd:Value} (h:Wr w X lo wb vb bs) (hc:Cells w Z cb 0 (jg wb)) (hx:bI w Z xb (r.l vr vw vp vq vh vd) 73) (fm:r.at w Z vr vw vp vq vh vd) (hZ:pO Z X wb vb) (eo:lo≤w.heap.size)
  (hb:bs.length+(uB r).length≤2^33):lh 197 #[ptr cb 0,ptr xb 0] w X lo wb vb bs (uB r):=by
 intro w0 hk;have dd:lo≤w0.heap.size:=af eo hk.size;replace hc:=hc.mv (hZ.mv hk);replace hx:=hx.mv (hZ.mv hk);replace fm:=fm.mv (hZ.mv hk);obtain⟨a1,a2,a3,a4,a5,a6⟩:=fm;obtain⟨p1,n1,c1,rfl⟩:=a1.form;obtain⟨p2,n2,c2,rfl⟩:=a2.form;have o1:=a1.one;have o2:=a2.one;have o3:=a3.one;have o4:=a4.one;have o5:=a5.one;have o6:=a6.one;have bE:=hx;replace hx:=hx.cells;have hS:=WS.init (h.mv hk.cL);have e1:=fe r.kind;obtain⟨E,hE⟩: ∃E,E=uB r:=⟨_,rfl⟩;rw [←hE] at hb⊢;unfold uB at hE;have hEl:(encI r.kind).length≤E.length:=by rw [hE,ae];omega
 apply Tn;unfold HE;have hs:=hS.s;repeat' first|refine aD ?_;intros
 refine hS.ej (ix hS.r (hc.mv hS.at) (Cells.mv (by assumption) hS.at) hS.z zQ (af dd hs.kp.size)) kQ fun gy w X bR _=>?_;replace hs:=bR.s;repeat' first|refine aD ?_;intros
 refine iu (fun (k:World→XS→Prop)=> ∀w X ki,WS w0 vb w X lo wb ki (bs++E)→k w X) (fun w X ki dv=>dv.fin) fun K hK=>?_;repeat' first|refine aD ?_;intros|refine dD ?_ ?_<;>intros|with_reducible apply dG
 all_goals (repeat (first|rw [if_pos zQ] at hE|rw [if_neg zQ] at hE))
 all_goals (have hEb:=congrArg List.length hE;simp only [ae] at hEb)
 ·refine bR.ej (Qn (x:=r.state) bR.r (hc.mv bR.at) (Cells.mv (by assumption) bR.at) (a5.mv bR.at) (a6.mv bR.at) bR.z (af dd hs.kp.size) (by simp only [ae];omega)) kQ fun ki w X dv _=>?_;have h9:=dv;rw [hE] at hK
  (try simp only [aB] at h9 hK)
  exact hK _ _ _ h9
 ·refine bR.ej (ix bR.r (hc.mv bR.at) (Cells.mv (by assumption) bR.at) bR.z (by simp only [ae];omega) (af dd hs.kp.size)) kQ fun ki w X dv _=>?_;have h9:=dv;rw [hE] at hK
  (try simp only [aB] at h9 hK)
  exact hK _ _ _ h9
 ·refine bR.ej (ix bR.r (hc.mv bR.at) (Cells.mv (by assumption) bR.at) bR.z (by simp only [ae];omega) (af dd hs.kp.size)) kQ fun ki w X dv _=>?_;have h9:=dv;rw [hE] at hK
  (try simp only [aB] at h9 hK)
  exact hK _ _ _ h9
 ·refine bR.ej (ix bR.r (hc.mv bR.at) (Cells.mv (by assumption) bR.at) bR.z (by simp only [ae];omega) (af dd hs.kp.size)) kQ fun ki w X dv _=>?_;have h9:=dv;rw [hE] at hK
  (try simp only [aB] at h9 hK)
  exact hK _ _ _ h9
 ·have e2:(tz ⟨r.bU,r.aw,r.reads,r.writes⟩).length≤E.length:=by omega
  refine Nr (l:=[I 0,I 0,I 0,I 0,I 0,I 0,.slice none 0 0,.slice none 0 0]) hs.has kQ fun pb w3 X3 VY dZ acA=>?_;have dv:=bR.since dZ;refine Io (o:=0) acA rfl kQ (by simp) rfl rfl dZ.has fun w4 X4 c4 sH=>?_;replace sH:bI w4 X4 pb ((⟨r.bU,r.aw,r.reads,r.writes⟩:dB).l (.slice p1 n1 c1) (.slice p2 n2 c2)) 182:=sH;have aic:w0.heap.size≤pb:=af hs.kp.size VY;have fu:=dv.aib acA aic kQ kQ c4;have RG: ¬yV wb gy pb:=fun hf=>hf.elim (fun e=>fu.r.box.gd sH kQ e.symm) fun e=>Own.gd fu.r.ow sH kQ e;obtain⟨Z',hZ'⟩: ∃Z':XS,Z'=fun k=>k=pb∨out (yV wb vb) w0 k:=⟨_,rfl⟩;have mv4:Mv (out (yV wb vb) w0) w0 Z' w4:=fun k ah _=>⟨by rw [hZ'];exact .inr ah,fu.s.kp.block k ah⟩;have lH:pO Z' X4 wb gy:=fun k ah=>by
   rw [hZ'] at ah;rcases ah with rfl|ah
   ·exact⟨sH.1,RG⟩
   ·exact fu.z k ah
  refine fu.ej (Cq (x:=⟨r.bU,r.aw,r.reads,r.writes⟩) fu.r (hc.mv mv4) (bI.cells (X:=Z') (ty:=182) ⟨by rw [hZ'];exact .inl rfl,sH.2⟩) (a1.mv mv4) (a2.mv mv4) lH (af dd fu.s.kp.size) (by simp only [ae];omega)) kQ fun TS w5 X5 kG c5=>?_;have sI:=sH.dF c5 RG;clear hs;have hs:=kG.s;repeat' first|refine aD ?_;intros
  refine E7 (o:=1) (bE.mv kG.s.mv) zQ kQ (by simp) rfl rfl kG.s.has (by rfl) fun w6 X6 sj=>?_;have PD:=kG.since sj;repeat' first|refine aD ?_;intros
  refine E7 (o:=4) (bE.mv PD.s.mv) zQ kQ (by simp) rfl rfl PD.s.has (by rfl) fun w7 X7 u6=>?_;have hS7:=PD.since u6;repeat' first|refine aD ?_;intros
  refine E7 (o:=13) (bE.mv hS7.s.mv) zQ kQ (by simp) rfl rfl hS7.s.has (by rfl) fun w8 X8 GY=>?_;have hS8:=hS7.since GY;repeat' first|refine aD ?_;intros
  refine E7 (o:=14) (bE.mv hS8.s.mv) zQ kQ (by simp) rfl rfl hS8.s.has (by rfl) fun w9 X9 J6=>?_;have TT:=hS8.since J6;clear hs;have hs:=TT.s;repeat' first|refine aD ?_;intros
  refine TT.ej (Cp TT.r (hc.mv TT.at) (Cells.mv (by assumption) TT.at) (a3.mv TT.at) TT.z (af dd hs.kp.size) (by simp only [ae];omega)) kQ fun ai2 w X aid _=>?_;have h9:=aid;rw [hE] at hK
  (try simp only [aB] at h9 hK)
  exact hK _ _ _ h9
 ·refine bR.ej (ue (s:=r.bU) bR.r (hc.mv bR.at) (Cells.mv (by assumption) bR.at) bR.z (by(try simp only [ae]);omega) (af dd hs.kp.size)) kQ fun ki w X dv _=>?_;replace hs:=dv.s;repeat' first|refine aD ?_;intros
  refine dv.ej (TR (b:=r.iy) dv.r (hc.mv dv.at) (Cells.mv (by assumption) dv.at) dv.z (by(try simp only [ae]);omega) (af dd hs.kp.size)) kQ fun MQ w X fu _=>?_;replace hs:=fu.s;repeat' first|refine aD ?_;intros
  refine fu.ej (iG (s:=r.aw) fu.r (hc.mv fu.at) (Cells.mv (by assumption) fu.at) fu.z (by(try simp only [ae]);omega) (af dd hs.kp.size)) kQ fun TS w X kG _=>?_;replace hs:=kG.s
  skip
  have h9:=kG;rw [hE] at hK
  (try simp only [aB] at h9 hK)
  exact hK _ _ _ h9
 ·refine bR.ej (iG (s:=r.aw) bR.r (hc.mv bR.at) (Cells.mv (by assumption) bR.at) bR.z (by(try simp only [ae]);omega) (af dd hs.kp.size)) kQ fun ki w X dv _=>?_;replace hs:=dv.s
  skip
  have h9:=dv;rw [hE] at hK
  (try simp only [aB] at h9 hK)
  exact hK _ _ _ h9
 ·refine bR.ej (zm bR.r (hc.mv bR.at) (Cells.mv (by assumption) bR.at) bR.z (by(try simp only [ae]);omega) (af dd hs.kp.size)) kQ fun ki w X dv _=>?_;replace hs:=dv.s;repeat' first|refine aD ?_;intros
  refine dv.ej (ix dv.r (hc.mv dv.at) (Cells.mv (by assumption) dv.at) dv.z (by(try simp only [ae]);omega) (af dd hs.kp.size)) kQ fun MQ w X fu _=>?_;replace hs:=fu.s;repeat' first|refine aD ?_;intros
  refine fu.ej (iG (s:=r.aw) fu.r (hc.mv fu.at) (Cells.mv (by assumption) fu.at) fu.z (by(try simp only [ae]);omega) (af dd hs.kp.size)) kQ fun TS w X kG _=>?_;replace hs:=kG.s
  skip
  have h9:=kG;rw [hE] at hK
  (try simp only [aB] at h9 hK)
  exact hK _ _ _ h9
 ·refine bR.ej (ue (s:=r.bU) bR.r (hc.mv bR.at) (Cells.mv (by assumption) bR.at) bR.z (by(try simp only [ae]);omega) (af dd hs.kp.size)) kQ fun ki w X dv _=>?_;replace hs:=dv.s;repeat' first|refine aD ?_;intros
  refine dv.ej (iG (s:=r.aw) dv.r (hc.mv dv.at) (Cells.mv (by assumption) dv.at) dv.z (by(try simp only [ae]);omega) (af dd hs.kp.size)) kQ fun MQ w X fu _=>?_;replace hs:=fu.s;repeat' first|refine aD ?_;intros
  refine fu.ej (Cp fu.r (hc.mv fu.at) (Cells.mv (by assumption) fu.at) (a3.mv fu.at) fu.z (af dd hs.kp.size) (by simp only [ae];omega)) kQ fun TS w X kG _=>?_;have h9:=kG;rw [hE] at hK
  (try simp only [aB] at h9 hK)
  exact hK _ _ _ h9
 ·refine bR.ej (ue (s:=r.bU) bR.r (hc.mv bR.at) (Cells.mv (by assumption) bR.at) bR.z (by(try simp only [ae]);omega) (af dd hs.kp.size)) kQ fun ki w X dv _=>?_;replace hs:=dv.s
  skip
  have h9:=dv;rw [hE] at hK
  (try simp only [aB] at h9 hK)
  exact hK _ _ _ h9
 ·refine bR.ej (iG (s:=r.prev) bR.r (hc.mv bR.at) (Cells.mv (by assumption) bR.at) bR.z (by(try simp only [ae]);omega) (af dd hs.kp.size)) kQ fun ki w X dv _=>?_;replace hs:=dv.s;repeat' first|refine aD ?_;intros
  refine dv.ej (iG (s:=r.aw) dv.r (hc.mv dv.at) (Cells.mv (by assumption) dv.at) dv.z (by(try simp only [ae]);omega) (af dd hs.kp.size)) kQ fun MQ w X fu _=>?_;replace hs:=fu.s;repeat' first|refine aD ?_;intros
  refine fu.ej (ue (s:=r.bU) fu.r (hc.mv fu.at) (Cells.mv (by assumption) fu.at) fu.z (by(try simp only [ae]);omega) (af dd hs.kp.size)) kQ fun TS w X kG _=>?_;replace hs:=kG.s;repeat' first|refine aD ?_;intros
  refine kG.ej (FU kG.r (hc.mv kG.at) (Cells.mv (by assumption) kG.at) (a2.mv kG.at) kG.z (af dd hs.kp.size) (by simp only [ae];omega)) kQ fun vb6 w X PD _=>?_;have h9:=PD;rw [hE] at hK
  (try simp only [aB] at h9 hK)
  exact hK _ _ _ h9
 ·refine bR.ej (iG (s:=r.aw) bR.r (hc.mv bR.at) (Cells.mv (by assumption) bR.at) bR.z (by(try simp only [ae]);omega) (af dd hs.kp.size)) kQ fun ki w X dv _=>?_;replace hs:=dv.s;repeat' first|refine aD ?_;intros
  refine dv.ej (Qm dv.r (hc.mv dv.at) (Cells.mv (by assumption) dv.at) (a4.mv dv.at) dv.z (af dd hs.kp.size) (by simp only [ae];omega)) kQ fun MQ w X fu _=>?_;have h9:=fu;rw [hE] at hK
  (try simp only [aB] at h9 hK)
  exact hK _ _ _ h9
 ·rw [fh] at hE;have h9:=bR;rw [hE] at hK
  (try simp only [aB] at h9 hK)
  exact hK _ _ _ h9
def Rec.sy (r:Rec):Int:=if r.err≠0 then r.err else if 262144<(uB r).length then 2 else 0
theorem Qo {w:World} {X:XS} {r:Rec} {vr vw vp vq vh vd:Value} (h:r.at w X vr vw vp vq vh vd) (jr:r.small) (ml:r.err=0→(uB r).length≤2^33):
  Ct pg 159 #[r.v vr vw vp vq vh vd] w X nX fun v wa w'=>if r.sy≠0 then v= .tuple #[.slice none 0 0,I r.sy] else∃vb,v= .tuple #[vb,I 0]∧Own w' (made wa w') wa.heap.size 5 1 vb ((uB r).map U1):=by
 intro w0 hk;replace h:=h.mv hk.cL;have o1:=h.1.one;have o2:=h.2.1.one;have o3:=h.2.2.1.one;have o4:=h.2.2.2.1.one;have o5:=h.2.2.2.2.1.one;have o6:=h.2.2.2.2.2.one;apply NO;unfold DI;have hs:=ak.init w0;repeat' first|refine aD ?_;intros|refine dD ?_ ?_<;>intros|(with_reducible apply ns);(case hX=>exact hs.has);intro bx w X eX aq bE;have bF:=hs.trans aq;replace hs:=ak.iS aq.has|(refine dC (MN (r:=r) (h.mv (bF.trans hs).mv) jr) kQ hs.has fun w X aq=>?_;replace hs:=hs.trans aq)
 ·have e:r.sy=r.err:=if_pos (by assumption);exact ai (bF.trans hs) fun wa hk=>by dsimp only;rw [e,if_pos (by assumption)]
 ·have PE:r.err=0:=by assumption
  have k3:=ml PE;refine ek A9 kQ hs.has ?_;rintro v wa w2 X2 ⟨wb,rfl,hW⟩ hle eD dI;have xG:=bF.trans (hs.trans dI);have zJ:=bE.lt;have RQ:=hs.kp.size;have hz0:=bF.kp.size;have VF:=hW.box.1;have kl:=bE.since (hs.trans dI);refine Xl kQ ?_;refine ns xG.has fun cb w3 X3 hcb dZ acB=>?_;have xH:=xG.trans dZ;have gY:=kl.since dZ;obtain⟨Z,hZd⟩: ∃Z:XS,Z=fun k=>k=bx∨k=cb∨aS w0 k:=⟨_,rfl⟩;have ai3:wa.heap.size≤wb∧wb<w2.heap.size:=VF;have hZ:pO Z X3 wb (.slice none 0 0):=fun k ah=>by
   rw [hZd] at ah;refine⟨?_,fun hf=>?_⟩
   ·rcases ah with rfl|rfl|ah
    ·exact gY.1
    ·exact acB.1
    ·exact xH.sub k ah
   ·rcases hf with hf|hf
    ·rcases ah with e|e|e
     ·omega
     ·omega
     ·have:k<w0.heap.size:=e;omega
    ·cases hf
  have hcC:Cells w3 Z cb 0 (jg wb):=bI.cells (ty:=293) ⟨by rw [hZd];exact .inr (.inl rfl),acB.2⟩;have hxC:bI w3 Z bx (r.l vr vw vp vq vh vd) 73:=⟨by rw [hZd];exact .inl rfl,gY.2⟩;have haC:r.at w3 Z vr vw vp vq vh vd:=h.mv fun k ah hl=>⟨by rw [hZd];exact .inr (.inr ah),xH.kp.block k ah⟩;have hW3:Wr w3 X3 wa.heap.size wb (.slice none 0 0) []:=(hW.mv (Mv.sub eD)).mv dZ.mv;refine Nc (UY hW3 hcC hxC haC hZ (by have:=dZ.kp.size;omega) (by simpa using k3)) kQ xH.has (fun q hq=>by
   rcases hq with rfl|hq
   ·exact hW3.box.1
   ·cases hq) fun v JI w4 X4 hq En CC ai4 rI=>?_
  obtain⟨rfl,xJ,hW4⟩:=hq;have jX:=xH.dF rI fun k ah hf=>by
   have h0:k<w0.heap.size:=ah;rcases hf with hf|hf
   ·omega
   ·cases hf
  have hW5:Wr w4 X4 wa.heap.size wb xJ (uB r):=hW4.mv (Mv.sub fun k ah=>by
   rcases ah with(ah|ah)|ah
   ·rw [ah];exact rI.sub _ hW3.box.1
   ·cases ah
   ·exact CC k ah)
  refine ek (GZ hW5 zQ) kQ jX.has ?_;rintro v5 wa5 w5 X5 OO Rk Rl Fs;have VQ:=jX.trans Fs;have ho:Own w5 X5 w0.heap.size 5 1 v5 ((uB r).map U1):=OO.up Rl (by have:=jX.kp.size;omega);clear hs bF;have hs:=VQ;have ov:=ho.sl.one;have hl:(List.map U1 (uB r)).length=(uB r).length:=ay _;repeat' first|refine aD ?_;intros|refine dD ?_ ?_<;>intros
  ·have e:r.sy=2:=by unfold Rec.sy;rw [if_neg zQ,if_pos zQ]
   exact ai hs fun wb bC=>by dsimp only;rw [e,if_pos zQ]
  ·have e:r.sy=0:=by unfold Rec.sy;rw [if_neg zQ,if_neg zQ]
   exact ai hs fun wb bC=>by
    dsimp only;rw [e,if_neg zQ];exact⟨v5,rfl,(ho.kp bC).tight⟩
def MU (n:Int):Bool:=(decide (n≥1)&&decide (n≤12))||(decide (n>20)&&decide (n≤22))||decide (n=31)||decide (n=32)
theorem zn (n:Int):Pure pg 117 #[I n] (B (decide (n≥1)&&decide (n≤12))):=by
 intro w;apply NL;unfold DF;have hs:=ak.init w;repeat' first|refine aD ?_;intros|refine dD ?_ ?_<;>intros|(with_reducible refine fA hs ?_);simp_all<;>omega
theorem UZ (n:Int):Pure pg 76 #[I n] (B (MU n)):=by
 intro w;apply Ta;unfold Hn;have hs:=ak.init w;repeat' first|refine aD ?_;intros|refine dD ?_ ?_<;>intros|((with_reducible refine dR (zn _) ?_ hs.has ?_ ?_);(· kernel_rfl);all_goals (intro _ w X aq;replace hs:=hs.trans aq))|(with_reducible refine fA hs ?_);simp_all [MU]<;>omega
end Go.Proofs.YtfndblbeikocdaaGreat
