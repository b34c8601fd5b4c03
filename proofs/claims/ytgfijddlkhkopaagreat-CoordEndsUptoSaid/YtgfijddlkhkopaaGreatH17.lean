/-
 Part 17 of the proof: what the last text leans on.
-/
import Derived.Shelf.Abstract
import Derived.Test.YtgfijddlkhkopaaGreatH16
open Nat renaming le_refl → aq, le_succ → dc, le_trans → ad, zero_le → au, le_of_ble_eq_true → eu, le_succ_of_le → uD, le_add_right → ke
open List renaming length_append → aa, mem_singleton → aw, length_nil → bz, length_map → ai, map_append → aJ, map_congr_left → ey, map_cons → bD, length_cons → aM, mem_of_getElem? → aB, append_assoc → ak, length → az, map_map → bB, map_nil → lu, mem_cons → lQ, not_mem_nil → dC, take_add_one → dr, mem_cons_of_mem → bQ, take_of_length_le → ax, take_append_drop → gX, flatten_cons → cW, getElem?_cons_succ → uW, sum_append → B4, dropLast_concat → jN, mem_of_mem_take → dL, mem_of_mem_drop → dd
open Option.some renaming inj → bW, injEq → ah
open Go.World renaming cell? → fq, frozen? → yY, putObj_heap_same → km, putObj_heap_other → fy
open Int renaming le_refl → tu
open Bool renaming and_eq_true → aD
open Classical renaming byContradiction → eH
open Go.Obj.cells renaming injEq → B5
namespace Go.Proofs.YtgfijddlkhkopaaGreat
open Go.Proofs.Tryz renaming prog → pg
open Go.aG
set_option maxRecDepth 100000
set_option maxHeartbeats 4000000
set_option linter.unusedVariables false
set_option linter.unusedSimpArgs false
attribute [local irreducible] un jn jq ji ld1 je st1 oS mO pj me pH HR D4 gT pI aZ nO nQ eW eV eU eC eF gE mE fin iM bq de vS KZ HS HT HU HV HW K0 K3 K4 K5 EW EX HX HY HZ K6 K7 K8
variable {w : World} {X : XS}
section
variable {nb : Nat} {x0 x1 x2 x3 x4 x5 x6 x7 x8 x9 vm va : Value}
theorem SI (h:aK w X nb [x0,x1,x2,x3,x4,x5,x6,x7,x8,x9,vm,va] nT):Ct pg 52 #[ptr nb 0,Fw] w X (· =nb) λv _ w'=>v= .tuple #[.agg #[bf,bf],I 12]/\aK w' (· =nb) nb [x0,x1,x2,x3,x4,x5,x6,x7,x8,x9,bf,bf] nT:=by
 intro w0 hk;have Gu:=h.mv hk.cu;have L4:Ft w0 (λk=>k=nb) w0 (bV w0) (λk=>k=nb):=Ft.init λk e=>by subst e;exact Gu.1
 have hs:=aj.init w0;refine I8.1 λ_=>?_;repeat' first|with_reducible apply cK|(with_reducible refine aj4 ?_ ?_);(· kernel_rfl)|(with_reducible apply aji);rfl|with_reducible apply Yr|with_reducible apply afD|with_reducible apply abK|with_reducible apply SJ|((with_reducible apply Ys))
 refine di.2 ⟨rfl,di.2 ⟨rfl,?_⟩⟩;repeat' first|with_reducible apply Yr|with_reducible apply SJ
 repeat' refine ao ?_;intros
 rename_i o2 lv _;obtain rfl:o2=10:=by omega
 refine Gy Gu rfl kQ sQ rfl rfl L4.s.has λw2 X2 c2 jI=>?_;replace jI:aK w2 X2 nb [x0,x1,x2,x3,x4,x5,x6,x7,x8,x9,bf,bf] nT:=jI;have da:Ft w0 (λk=>k=nb) w2 X2 (λk=>k=nb):=L4.eo c2 (λk hk=>hk) λk hk=>.inl hk;clear hs;repeat' refine ao ?_;intros
 exact da.fin λwa aL=>⟨rfl,rfl,(aL.block nb jI.1).trans jI.2⟩
end
variable {ty : TypeId} {b : Nat}
theorem I9 {o:Nat} {cs:Array Value} (v:Value) (hb:w.heap[b]? =some (.cells cs ty (0,0))) (k:Nat):(w.setCell ⟨b,o,none⟩ v).heap[k]? =if k=b then some (.cells (cs.setIfInBounds o v) ty (0,0))else w.heap[k]? :=by
 unfold World.setCell;simp only[Array.getElem?_modify]
 grind
theorem adF:Tryz.f25.results= #[.cell 6 32,.cell 7 37]:=by kernel_rfl
variable {R : Ending -> World -> Prop}
theorem Yt {RP:List PanicEntry->World->Prop} {cv:List (Option Value)} {nb:Nat} (hcv:cv[0]? =some (some (ptr nb 0)))
  (hR: ∀ch w,RP ch w->ch=A3/\ ∃x0 x1 x2 x3 x4 x5 x6 x7 x8 x9 vm va,aK w (· =nb) nb [x0,x1,x2,x3,x4,x5,x6,x7,x8,x9,vm,va] nT/\ ∀w2,w2.os=w.os->w2.tape=w.tape->w2.output=w.output->w.heap.size<=w2.heap.size->(∀k,k<w.heap.size->k≠nb->w2.heap[k]? =w.heap[k]?)->
   aK w2 (· =nb) nb [x0,x1,x2,x3,x4,x5,x6,x7,x8,x9,bf,bf] nT->R (.returned (.tuple #[.agg #[bf,bf],I 12])) w2):
  El pg pO Tryz.f25 R 51 [3,6,7] cv RP:=by
 intro ks DE ch w tf nI tc hh hv gd hRP;obtain⟨k0,k1,k2,rfl⟩: ∃a b c,ks=[a,b,c]:=by
  match ks,tf with
  |[a,b,c],_=>exact⟨a,b,c,rfl⟩
 obtain⟨c0,c1,c2,rfl⟩: ∃a b c,DE=[a,b,c]:=by
  match DE,nI with
  |[a,b,c],_=>exact⟨a,b,c,rfl⟩
 obtain⟨ty0,g0⟩:=hh 0 k0 c0 rfl rfl;obtain⟨TJ,g1⟩:=hh 1 k1 c1 rfl rfl;obtain⟨N8,g2⟩:=hh 2 k2 c2 rfl rfl;have e0:=hv 0 (ptr nb 0) c0 hcv rfl;have s1:c1.size=2:=gd 1 6 2 c1 rfl kQ rfl;have s2:c2.size=1:=gd 2 7 1 c2 rfl kQ rfl;subst e0;obtain⟨rfl,x0,x1,x2,x3,x4,x5,x6,x7,x8,x9,vm,va,bo,_⟩:=hR _ _ (hRP w (aG.Outside.refl _ _));refine callsD_of_wpS Tryz.func51 rfl λc₀ cs hu=>?_;rw[Tryz.ntmps51];simp only[bD,lu,List.size_toArray,aM,bz];apply wpS_seq;apply wpS_region;simp[wpOpsS,go_sem,recoverD,hu,Exit.thenS];have ht:(#[dE k0 0,dE k1 0,dE k2 0]++((Array.replicate 10 undef).setIfInBounds 1 Fw).setIfInBounds 0 Fw)= #[dE k0 0,dE k1 0,dE k2 0,Fw,Fw,undef,undef,undef,undef,undef,undef,undef,undef]:=rfl;rw[ht];apply wpS_seq;apply wpS_region;simp[wpOpsS,go_sem,Exit.thenS];refine wpS_cond (t:=true) (by rfl) ?_;simp only[if_true];apply wpS_region;have uo:w.cell? ⟨k0,0,none⟩=some (ptr nb 0):=by simp[fq,g0]
 simp[wpOpsS,go_sem,dE,uo];refine(SI (X:=(· =nb)) (bo.mono λ_ h=>h) w (Kp.refl _ _)).mono ?_;rintro _ w2 ⟨v,rfl,xe,rfl,jI⟩;have n1:k1≠nb:=λe=>by
  rw[e,bo.2] at g1;simp only[ah,B5] at g1;rw[<-g1.1] at s1;simp at s1
 have n2:k2≠nb:=λe=>by
  rw[e,bo.2] at g2;simp only[ah,B5] at g2;rw[<-g2.1] at s2;simp at s2
 have l1:=(Array.getElem?_eq_some_iff.1 g1).1;have l2:=(Array.getElem?_eq_some_iff.1 g2).1;have g1':w2.heap[k1]? =_:=(xe.block k1 l1 n1).trans g1;have g2':w2.heap[k2]? =_:=(xe.block k2 l2 n2).trans g2;obtain⟨a1,b1,rfl⟩: ∃a b,c1= #[a,b]:=by
  match c1,s1 with
  |⟨[a,b]⟩,_=>exact⟨a,b,rfl⟩
 obtain⟨a2,rfl⟩: ∃x,c2= #[x]:=by
  match c2,s2 with
  |⟨[x]⟩,_=>exact⟨x,rfl⟩
 have ap3:w2.cell? ⟨k1,0,none⟩=some a1:=by simp[fq,g1']
 have ap4:w2.frozen? ⟨k1,0,none⟩=false:=by simp[yY,g1']
 have r3: ∀k,(w2.setCell ⟨k1,0,none⟩ bf).heap[k]? =if k=k1 then some (.cells #[bf,b1] TJ (0,0))else w2.heap[k]? :=λk=>by rw[I9 _ g1'];rfl
 simp only[List.nodup_cons,lQ,dC,or_false,not_or] at tc;generalize we:w2.setCell ⟨k1,0,none⟩ bf=w3 at r3;have g13:w3.heap[k1]? =some (.cells #[bf,b1] TJ (0,0)):=by rw[r3,if_pos rfl]
 have ap5:w3.cell? ⟨k1,1,none⟩=some b1:=by simp[fq,g13]
 have ap6:w3.frozen? ⟨k1,1,none⟩=false:=by simp[yY,g13]
 have r4: ∀k,(w3.setCell ⟨k1,1,none⟩ bf).heap[k]? =if k=k1 then some (.cells #[bf,bf] TJ (0,0))else w3.heap[k]? :=λk=>by rw[I9 _ g13];rfl
 generalize Gv:w3.setCell ⟨k1,1,none⟩ bf=w4 at r4;have g24:w4.heap[k2]? =some (.cells #[a2] N8 (0,0)):=by rw[r4,if_neg (λe=>tc.2.1 e.symm),r3,if_neg (λe=>tc.2.1 e.symm)];exact g2'
 have nW:w4.cell? ⟨k2,0,none⟩=some a2:=by simp[fq,g24]
 have Qw:w4.frozen? ⟨k2,0,none⟩=false:=by simp[yY,g24]
 simp[go_sem,storeCells,ap3,ap4,we,ap5,ap6,Gv,nW,Qw,Addr.add];have r5: ∀k,(w4.setCell ⟨k2,0,none⟩ (.int .i64 12)).heap[k]? =if k=k2 then some (.cells #[I 12] N8 (0,0))else w4.heap[k]? :=λk=>by rw[I9 _ g24];rfl
 generalize hw5:w4.setCell ⟨k2,0,none⟩ (.int .i64 12)=w5 at r5;have g15:w5.heap[k1]? =some (.cells #[bf,bf] TJ (0,0)):=by rw[r5,if_neg tc.2.1,r4,if_pos rfl]
 have g25:w5.heap[k2]? =some (.cells #[I 12] N8 (0,0)):=by rw[r5,if_pos rfl]
 have Fz: ∀k,k≠k1->k≠k2->w5.heap[k]? =w2.heap[k]? :=λk h1 h2=>by rw[r5,if_neg h2,r4,if_neg h1,r3,if_neg h1]
 have wV:w5.os=w.os/\w5.tape=w.tape/\w5.output=w.output/\w5.heap.size=w2.heap.size:=by
  rw[<-hw5,<-Gv,<-we];exact⟨xe.os,xe.tape,xe.output,by simp[World.setCell]⟩
 have hnl:nb<w.heap.size:=bo.lt;have fE:aG.Outside [k0,k1,k2] w (w5.putObj nb (.cells [x0,x1,x2,x3,x4,x5,x6,x7,x8,x9,vm,va].toArray nT)):=by
  refine⟨wV.1,wV.2.1,wV.2.2.1,?_,λk hl hk=>?_⟩
  ·have:=xe.size;have:=wV.2.2.2;simp[World.putObj];omega
  ·simp only[lQ,dC,or_false,not_or] at hk;by_cases e:k=nb
   ·subst e;rw[km (by have:=xe.size;omega)];exact bo.2.symm
   ·rw[fy (λh=>e h),Fz k hk.2.1 hk.2.2];exact xe.block k hl e
 obtain⟨_,y0,y1,y2,y3,y4,y5,y6,y7,y8,y9,wm,wv,En,hR2⟩:=hR _ _ (hRP _ fE);have ajj:=En.2;rw[km (by have:=xe.size;omega)] at ajj;have hl:=congrArg Array.toList (Obj.cells.inj (bW ajj)).1;simp only[List.cons.injEq,and_true] at hl;obtain⟨rfl,rfl,rfl,rfl,rfl,rfl,rfl,rfl,rfl,rfl,rfl,rfl⟩:=hl;have hRw:R (.returned (.tuple #[.agg #[bf,bf],I 12])) w5:=hR2 w5 rfl rfl rfl (by simp[World.putObj]) (λk _ hk=>(fy hk).symm) ⟨rfl,(Fz nb n1.symm n2.symm).trans jI.2⟩;have ap7:w5.cell? ⟨k2,0,none⟩=some (I 12):=by simp[fq,g25]
 refine⟨rfl,.panicking [{ v:=Fw,recovered:=true }],rfl,.tuple #[],?_,⟨_,rfl⟩,rfl,_,hRw,λtmps ht=>?_⟩
 ·simp[results,Tryz.results51]
 ·unfold results;rw[adF];obtain⟨fs,hu⟩: ∃fs,pg.underlying 32=some (.struct fs):=⟨_,rfl⟩;have q1:(loadVar 32 ⟨k1,0,none⟩).run pg w5= .ok (.agg #[bf,bf]) w5:=run_loadVar_row w5 k1 _ _ _ _ (.struct fs) g15 hu rfl kQ;simp[ht 1 6 k1 rfl rfl,ht 2 7 k2 rfl rfl,asAddr,q1,(TH ap7)]
abbrev Wb:Value:=.tuple #[.agg #[bf,bf],I 12]
def yv (n:bt) (m:bZ) (n1:bt):Prop:=
 (¬(m.err=0/\m.to=20+n.c.id)/\n1=n)\/(m.err=0/\m.to=20+n.c.id/\((m.kind=2/\QN n m n1)\/(m.kind=4/\Np n m n1)\/(m.kind=6/\adB n m n1)\/(m.kind=7/\adE n m n1)\/(¬m.kind=2/\ ¬m.kind=4/\ ¬m.kind=6/\ ¬m.kind=7/\n1=n)))
def Ja (n:bt) (m:bZ) (m':DM):Prop:=m.err=0/\m.to=20+n.c.id/\((m.kind=4/\ady n m m')\/(m.kind=6/\adC n m m'))
theorem abL {m:bZ} (h:m.err=0) (hk:m.kind=2\/m.kind=4):m.aV.may=true:=by
 unfold bZ.err at h;split at h
 ·cases h
 ·split at h
  ·cases h
  ·rename_i _ h2;simp only[Bool.or_eq_true,Bool.not_eq_true',not_or,Bool.not_eq_false] at h2;have h3:=h2.2;unfold bZ.qw at h3;rw[if_pos zQ] at h3;unfold bZ.Nf at h3;rcases hk with e|e<;>simp[e] at h3<;>simp_all
structure CM (n n':bt):Prop where
 nb:n'.nb=n.nb
 db:n'.db=n.db
 ex:n'.ex=n.ex
 pre:n'.pre=n.pre
variable {w' w0 wa : World} {X' : XS} {aH bM : Nat -> Nat} {n' n1 : bt} {M N : Nat} {pp : Bool} {sg : dO} {pre : List dO} {gL : Int} {vd vh vk vp vr vw : Value}
section
variable {own : Nat -> Nat} {n : bt}
theorem tn.dM (h:tn N M n):Go.Proofs.YtgfijddlkhkopaaGreat.dM n=n:=by
 have q: ∀{a b c d e},n.vm=a->n.va=b->n.rm=c->n.ra=d->n.ms=e->({ n with vm:=a,va:=b,rm:=c,ra:=d,ms:=e } :bt)=n:=by
  rintro _ _ _ _ _ rfl rfl rfl rfl rfl;rfl
 exact q h.vm h.va h.rm h.ra h.ms
theorem Told.nb {l:List bZ} (h:Told n l n'):CM n n':=by obtain⟨_,_,rfl,_⟩:=h;exact⟨rfl,rfl,rfl,rfl⟩
theorem CM.of {n2:bt} (h:CM n1 n2) (e:n1.nb=n.nb/\n1.db=n.db/\n1.pre=n.pre:=by exact⟨rfl,rfl,rfl⟩):CM n { n2 with ex:=n.ex } :=⟨h.nb.trans e.1,h.db.trans e.2.1,rfl,h.pre.trans e.2.2⟩
theorem CM.by (h:CM n1 n') (e:n1.nb=n.nb/\n1.db=n.db/\n1.ex=n.ex/\n1.pre=n.pre:=by exact⟨rfl,rfl,rfl,rfl⟩):CM n n':=⟨h.nb.trans e.1,h.db.trans e.2.1,h.ex.trans e.2.2.1,h.pre.trans e.2.2.2⟩
theorem Pd.nb (h:Pd n b n'):CM n { n' with ex:=n.ex } :=by
 rcases h with⟨_,_,_,_,h⟩|⟨_,_,_,_,_,_,_,_,_,_,h⟩<;>exact h.nb.of
theorem Gr.nb {m:bZ} (h:Gr n m pp n'):CM n n':=by
 obtain⟨_,_,_,_,_,_,_,_,rfl⟩:=h;exact⟨rfl,rfl,rfl,rfl⟩
theorem yv.nb {m:bZ} (h:yv n m n'):CM n n':=by
 rcases h with⟨_,rfl⟩|⟨_,_,⟨_,h⟩|⟨_,h⟩|⟨_,h⟩|⟨_,h⟩|⟨_,_,_,_,rfl⟩⟩
 ·exact⟨rfl,rfl,rfl,rfl⟩
 ·rcases h with⟨_,rfl⟩|h|⟨_,_,_,_,_,_,_,n1,_,rfl,⟨_,rfl⟩|⟨_,n2,h,rfl⟩⟩
  ·exact⟨rfl,rfl,rfl,rfl⟩
  ·exact h.nb
  ·exact⟨rfl,rfl,rfl,rfl⟩
  ·exact h.nb.by
 ·rcases h with⟨_,rfl,_⟩|h|⟨_,_,_,_,_,_,n1,_,rfl,⟨_,rfl⟩|⟨_,⟨_,_,_,h⟩|⟨_,_,_,_,_,_,_,_,_,h⟩⟩⟩
  ·exact⟨rfl,rfl,rfl,rfl⟩
  ·exact h.nb
  ·exact⟨rfl,rfl,rfl,rfl⟩
  all_goals exact h.nb.by
 ·rcases h with rfl|⟨_,_,_,_,⟨_,rfl⟩|⟨_,_,rfl⟩⟩<;>exact⟨rfl,rfl,rfl,rfl⟩
 ·rcases h with⟨_,rfl⟩|⟨_,h⟩
  ·exact⟨rfl,rfl,rfl,rfl⟩
  ·exact h.nb
 ·exact⟨rfl,rfl,rfl,rfl⟩
theorem L5 {m:bZ} {vs vc:Value} (h:jb w own n) (hX:sK own X) (jF:oY ⟨n.L,n.m⟩ pre sg) (hm:m.at w (bR own 4) vk vs vw vp vr vc vh vd) (hk:tn N M n) (hN:N+m.seen.length<=2^20) (ni:m.small) (AG:m.lens<=2^62):
  Ct pg 25 #[ptr n.nb 0,I gL,m.v vk vs vw vp vr vc vh vd] w X (gB own) λv wa w'=>Sy own wa w' (yv n m) (λn1=>v= .tuple #[.agg #[n1.vm,n1.va],I 0])\/(v=Wb/\DQ own n.nb n.db wa w' (Ja n m)):=by
 intro w0 iw;have s:=St.init h hX iw;replace hm:=hm.mv (yD hX iw);have hi:1<=n.c.id/\n.c.id<=2:=by rw[hk.id];decide
 clear h hX iw;have n1:own n.nb=1:=(s.get 1).1;refine Kk (RP:=λch w'=>ch=A3/\Fr (gB own) w0 w'/\DQ own n.nb n.db w0 w' (Ja n m)) (g0:=51) (cb:=[3,6,7]) (cv:=[some (ptr n.nb 0),none,none]) (λg hg=>?_) kQ (Yt rfl λch w' hr=>?_) ?_
 ·have e:DL Tryz.f25=some 51:=by kernel_rfl
  rw[e] at hg;cases hg;exact Ov
 ·obtain⟨rfl,hf,aH,m',e,hd,hq⟩:=hr;obtain⟨x0,x1,x2,x3,x5,x6,x7,x8,x9,vm,va,hr⟩:=hd.gA 1 dQ dQ;refine⟨rfl,x0,x1,x2,x3,B true,x5,x6,x7,x8,x9,vm,va,⟨rfl,hr.2⟩,λw2 q1 q2 q3 q4 q5 q6=>⟨_,rfl,?_,.inr ⟨rfl,aH,m',e,?_,hq⟩⟩⟩
  ·exact⟨q1.trans hf.os,q2.trans hf.tape,q3.trans hf.output,ad hf.size q4,λk hl hn=>(q5 k (Nat.lt_of_lt_of_le hl hf.size) λe=>hn (by rw[e];exact⟨by omega,by omega⟩)).trans (hf.block k hl hn)⟩
  ·exact hd.one 1 q4 (λk hk h1=>q5 k (hd.lt k hk) λe'=>h1 (by rw[e'];exact hr.1)) ⟨x0,x1,x2,x3,x5,x6,x7,x8,x9,bf,bf,⟨hr.1,q6.2⟩⟩ λc _ w K A h=>h
 unfold tv;refine cz ?_;have hs:=s.rf;have hr:=s.v.1;repeat' refine ao ?_;intros
 refine eT (aax (hm.mv (Mv.sub (s.sub 4))) ni AG) kQ hs.has λw1 X1 aC=>?_;have s1:=s.since aC;replace hm:=hm.mv (aC.gU (s.sub 4));clear hs hr aC s;have adG: ∀{w2:World} {X2:XS},Sn w0 own w2 X2 own n-> ¬(m.err=0/\m.to=20+n.c.id)->aG.fin (yp (vR (gB own) w0 λv w'=>Sy own w0 w' (yv n m) (λn1=>v= .tuple #[.agg #[n1.vm,n1.va],I 0])\/(v=Wb/\DQ own n.nb n.db w0 w' (Ja n m))) λch w'=>ch=A3/\Fr (gB own) w0 w'/\DQ own n.nb n.db w0 w' (Ja n m)) X2 w2 (.tuple #[.agg #[bf,bf],I 0]):=λ{w2 X2} s2 kO=>
  s2.t.acr λwa oZ=>.inl ⟨own,n,s2.e,s2.h.kp s2.x oZ,n,.inl ⟨kO,rfl⟩,by show _=Value.tuple #[.agg #[n.vm,n.va],I 0];rw[hk.vm,hk.va],hk.dM.symm,by rw[hk.vm,hk.rm];exact Sl.nil _ _ _,by rw[hk.rm,hk.ms];exact fN.nil _ _,by rw[hk.va,hk.ra];exact Sl.nil _ _ _⟩
 have hs:=s1.rf;have hr:=s1.v.1;by_cases L6:m.err=0;case neg=>
  repeat' first|refine aN ?_;intros|with_reducible apply cK
  exact adG s1 λe=>L6 e.1
 rw[L6];repeat' refine aN ?_;intros
 refine cK ?_;repeat' refine ao ?_;intros
 refine eT (A4 hr (λ_ h=>h) hi) kQ hs.has λw2 X2 bm=>?_;have s2:=s1.since bm;replace hm:=hm.mv (bm.gU (s1.sub 4));clear hs hr bm s1;by_cases yN:m.to=20+n.c.id;case neg=>
  repeat' refine aN ?_;intros
  exact adG s2 λe=>yN e.2
 clear adG;repeat' refine aN ?_;intros
 refine gY (Q:=λK=> ∀(nE:Nat->Nat) (n3:bt) (w3:World) (X3:XS),Sn w0 own w3 X3 nE n3->yv n m n3->K w3 X3) (λnE n3 w3 X3 s3 fE=>?_) (λK hK=>?_)
 ·rw[<-fE.nb.nb];refine s3.call (Ff s3.h s3.x) kQ λv w4 X4 lT n4 s4 ⟨q1,q2,q3⟩ _=>?_;subst q1;have o1:=s3.v.2.1;have o2:=s3.v.2.2.1;repeat' refine ao ?_;intros
  exact s4.t.acr λwa oZ=>.inl ⟨lT,n4,s4.e,s4.h.kp s4.x oZ,n3,fE,rfl,q2,q3.mv (yD s4.x oZ)⟩
 ·have Jb:=hm.mv (Mv.sub (s2.sub 4));by_cases k2:m.kind=2
  ·repeat' refine aN ?_;intros
   exact s2.call (XF s2.h s2.x hm (abL L6 (.inl k2)) hk hN) kQ λv w3 X3 nE n3 s3 q _=>hK nE n3 w3 X3 s3 (.inr ⟨L6,yN,.inl ⟨k2,q⟩⟩)
  by_cases k4:m.kind=4
  ·repeat' refine aN ?_;intros
   exact s2.V7 (Yp s2.h s2.x jF hm (abL L6 (.inr k4)) hk zQ) kQ (λv w3 X3 nE n3 s3 q _=>hK nE n3 w3 X3 s3 (.inr ⟨L6,yN,.inr (.inl ⟨k4,q⟩)⟩)) λwb hf hd=>⟨rfl,hf,hd.imp λm' q=>⟨L6,yN,.inl ⟨k4,q⟩⟩⟩
  by_cases k6:m.kind=6
  ·repeat' refine aN ?_;intros
   exact s2.V7 (Yq s2.h s2.x jF hk) kQ (λv w3 X3 nE n3 s3 q _=>hK nE n3 w3 X3 s3 (.inr ⟨L6,yN,.inr (.inr (.inl ⟨k6,q⟩))⟩)) λwb hf hd=>⟨rfl,hf,hd.imp λm' q=>⟨L6,yN,.inr ⟨k6,q⟩⟩⟩
  by_cases k7:m.kind=7
  ·repeat' refine aN ?_;intros
   exact s2.call (Vm s2.h s2.x hk) kQ λv w3 X3 nE n3 s3 q _=>hK nE n3 w3 X3 s3 (.inr ⟨L6,yN,.inr (.inr (.inr (.inl ⟨k7,q⟩)))⟩)
  repeat' refine aN ?_;intros
  exact hK own n w2 X2 s2 (.inr ⟨L6,yN,.inr (.inr (.inr (.inr ⟨k2,k4,k6,k7,rfl⟩)))⟩)
end
def qo (d:rl):rl:= { d with x:= { d.x with kn:=d.x.kn+1 } }
def vG (n:bt) (t:bH) (n':bt):Prop:= ∃(b:Nat),getM t n.al=some b/\n'.rm.length<=n.rm.length+80/\
  ((6<=(n.A b).x.kn+1/\ ∃ki,Told { dN n b (qo (n.A b))with al:=jL t n.al,va:=ki,ra:=n.ra++[D6 25 t .zero false bf] } (if(n.A b).x.pre then(n.A b).ids.map λid=>(Sm t id).qx (20+n.c.id)else []) n')\/
   (¬6<=(n.A b).x.kn+1/\Told (dN n b (qo (n.A b))) ((n.A b).ws.map λm=>m.qx (20+n.c.id)) n'))
def ou:List bH->bt->bt->Prop
 |[],n,n'=>n'=n
 |t::l,n,n'=> ∃n1,vG n t n1/\ou l n1 n'
theorem ou.snoc: ∀{l:List bH} {t:bH} {n n1 n2:bt},ou l n n1->vG n1 t n2->ou (l++[t]) n n2
 |[],t,n,n1,n2,h,h2=>by
  have h:n1=n:=h;subst h;exact⟨n2,h2,rfl⟩
 |x::l,t,n,n1,n2,⟨n3,h3,h⟩,h2=>⟨n3,h3,h.snoc h2⟩
def Yu (n:bt) (b:Nat) (n':bt):Prop:=((n.C b).ended=true/\n'=n)\/((n.C b).ended=false/\Told n ((n.C b).waits.map λid=>(Yo (n.C b).r id).qx (20+n.c.id)) n')
def Cq:List Nat->bt->bt->Prop
 |[],n,n'=>n'=n
 |b::l,n,n'=> ∃n1,Yu n b n1/\Cq l n1 n'
theorem Cq.snoc: ∀{l:List Nat} {t:Nat} {n n1 n2:bt},Cq l n n1->Yu n1 t n2->Cq (l++[t]) n n2
 |[],t,n,n1,n2,h,h2=>by
  have h:n1=n:=h;subst h;exact⟨n2,h2,rfl⟩
 |x::l,t,n,n1,n2,⟨n3,h3,h⟩,h2=>⟨n3,h3,h.snoc h2⟩
def zI (n n1:bt):Prop:= ∃ts n2,ts.Perm (n.al.map (·.1))/\ou ts n n2/\Cq n.cl n2 n1
structure TK (n n':bt):Prop where
 nb:n'.nb=n.nb
 db:n'.db=n.db
 c:n'.c=n.c
 cl:n'.cl=n.cl
 C:n'.C=n.C
 ex:n'.ex=n.ex
 pre:n'.pre=n.pre
variable {t t' : bH}
section
variable {own : Nat -> Nat} {n : bt}
theorem vG.tk (h:vG n t n'):TK n n':=by
 obtain⟨b,_,_,⟨_,_,_,_,rfl,_⟩|⟨_,_,_,rfl,_⟩⟩:=h<;>exact⟨rfl,rfl,rfl,rfl,rfl,rfl,rfl⟩
theorem Yu.tk (h:Yu n b n'):TK n n':=by
 rcases h with⟨_,rfl⟩|⟨_,_,_,rfl,_⟩<;>exact⟨rfl,rfl,rfl,rfl,rfl,rfl,rfl⟩
theorem TK.trans {n'':bt} (a:TK n n') (b:TK n' n''):TK n n'':=⟨b.nb.trans a.nb,b.db.trans a.db,b.c.trans a.c,b.cl.trans a.cl,b.C.trans a.C,b.ex.trans a.ex,b.pre.trans a.pre⟩
theorem vG.ra (h:vG n t n'):n'.ra.length<=n.ra.length+1/\n'.rm.length<=n.rm.length+80:=by
 obtain⟨b,_,h1,⟨_,_,_,_,rfl,_⟩|⟨_,_,_,rfl,_⟩⟩:=h
 ·exact⟨by simp,h1⟩
 ·exact⟨dc _,h1⟩
theorem vG.get (h:vG n t n') (cj:t'≠t):getM t' n'.al=getM t' n.al:=by
 obtain⟨b,_,_,⟨_,_,_,_,rfl,_⟩|⟨_,_,_,rfl,_⟩⟩:=h
 ·exact xP cj
 ·rfl
theorem vG.ok (h:vG n t n') (lV: ∀t b,getM t n.al=some b->(n.A b).x.aR=t) (nk: ∀t b,getM t n.al=some b->sB N (n.A b)): ∀t b,getM t n'.al=some b->sB N (n'.A b):=by
 obtain⟨b,hb,_,hc⟩:=h;intro t' b' dU;have hg:n'.A=(dN n b (qo (n.A b))).A/\getM t' n.al=some b'/\(b'=b-> ¬6<=(n.A b).x.kn+1):=by
  rcases hc with⟨_,_,_,_,rfl,_⟩|⟨h6,_,_,rfl,_⟩
  ·obtain⟨q1,q2⟩:=oH (show getM t' (jL t n.al)=some b' from dU);exact⟨rfl,q1,λe=>absurd (by rw[e] at q1;exact(lV _ _ q1).symm.trans (lV _ _ hb)) q2⟩
  ·exact⟨rfl,dU,λ_=>h6⟩
 have ha:=nk t' b' hg.2.1;rw[hg.1];by_cases e:b'=b
 ·have:=hg.2.2 e;subst e;rw[jj];exact⟨ha.q,ha.p,ha.sn,ha.ws,ha.ids,ha.C3,by have:=ha.kn;show 0<=(n.A b').x.kn+1/\(n.A b').x.kn+1<6;omega,ha.pq⟩
 ·rw[show(dN n b (qo (n.A b))).A b'=n.A b' from if_neg e];exact ha
theorem L7 (h:jb w own n) (hX:sK own X) (hk:tn N M n):
  Ct pg 16 #[ptr n.nb 0,I gL] w X (gB own) λv wa w'=>Sy own wa w' (zI n) λn1=>v= .tuple #[.agg #[n1.vm,n1.va],I 0]:=by
 intro w0 iw;have s:=St.init h hX iw;have hi:1<=n.c.id/\n.c.id<=2:=by rw[hk.id];decide
 have hM:=hk.mM;have qi:=hk.cl;have alT:=hk.QJ;clear h hX iw;have hr:=s.v.1;rw[Qp hk.pre] at hr;have hs:=s.rf;have TT:dK w0 (bV w0) nX n.c.ab (λk:bH=>k.v) wT n.al:=s.zO 5;refine Dp.1 λ_=>?_;repeat' refine ao ?_;intros
 refine cA (Gw (Y:=bV w0) hr (λ_ h=>h) TT zQ) kQ hs.has ?_;rintro vt D8 w1 X1 ⟨ts,uz,_,yN⟩ qz nY aC;have hts:Sl w1 X1 3 vt (ts.map bH.l):=(yN.mono nY).sl;have htl:ts.length=n.al.length:=by rw[uz.length_eq,ai]
 have tc:ts.Nodup:=uz.nodup_iff.2 TT.nodup;have DD: ∀t∈ts,∃b,getM t n.al=some b:=λt ht=>by
  obtain⟨x,hx,rfl⟩:=List.mem_map.1 (uz.mem_iff.1 ht);exact⟨x.2,pC TT.nodup hx⟩
 obtain⟨alU,sp,-,-,hp4⟩:=(s.since aC).vB (N:=made D8 w1) λk af=>⟨nY k af,s.nw (ad qz af.1)⟩;have hvt:Sl w1 (bR alU 4) 3 vt (ts.map bH.l):=(yN.mono hp4).sl;have alV:n.ra.length=0:=by rw[hk.ra];rfl
 have ar8:n.rm.length=0:=by rw[hk.rm];rfl
 clear hs hr s yN hp4 nY qz aC TT;have hs:=sp.rf;repeat' refine ao ?_;intros
 refine gM (λk a z w X=> ∃(i:Nat) (lS:Nat->Nat) (n2:bt),a=I (i:Nat)/\k=ts.length-i/\i<=ts.length/\Sn w0 own w X lS n2/\ou (ts.take i) n n2/\TK n n2/\n2.rm.length<=80*i/\n2.ra.length<=i/\(∀t b,getM t n2.al=some b->sB N (n2.A b))/\(∀t∈ts.drop i,∃b,getM t n2.al=some b)/\Sl w (bR lS 4) 3 vt (ts.map bH.l))
  ts.length ⟨0,alU,n,rfl,rfl,au _,sp,rfl,⟨rfl,rfl,rfl,rfl,rfl,rfl,rfl⟩,by omega,by omega,hk.act,DD,hvt⟩ ?_
 clear hs sp hvt hts;rintro k _ z w2 X2 ⟨i,lS,n2,rfl,rfl,hi2,s2,da,JU,ar9,alW,alX,afE,ahI⟩;have hs:=s2.rf;have alY:Sl w2 X2 3 vt (ts.map bH.l):=ahI.mono (s2.sub 4);have view: ∀{w5:World} {X5:XS} {mW:Nat->Nat} {n5:bt},Sn w0 own w5 X5 mW n5->TK n n5->aK w5 X5 n.nb (coL n.c n5.vm n5.va) nT:=λs5 h5=>by
  have:=s5.v.1;rw[Qp (h5.pre.trans hk.pre),h5.nb,h5.c] at this;exact this
 have jI:=view s2 JU;rcases dG (ts) i with⟨cC,t,hx,hd⟩|⟨dH,hd⟩
 ·repeat' refine aN ?_;intros
  refine gY (Q:=λK=> ∀(lT:Nat->Nat) (n4:bt) (w4:World) (X4:XS) (y:Value),Sn w0 own w4 X4 lT n4->vG n2 t n4->Mv (bR lS 4) w2 (bR lT 4) w4->K y w4 X4) (λlT n4 w4 X4 y s4 h4 m4=>?_) (λK hK=>?_)
  ·have hs:=s4.rf;repeat' refine ao ?_;intros
   have asa:=h4.ra;refine fK (ts.length-(i+1)) zQ ⟨i+1,lT,n4,by simp,rfl,by omega,s4,by rw[dr,hx];exact da.snoc h4,JU.trans h4.tk,by omega,by omega,h4.ok (s2.get 12:) alX,λt' ht'=>?_,ahI.mv m4⟩;have cj:t'≠t:=λe=>by
    have:=tc;rw[<-gX i ts,hd] at this;exact(List.nodup_cons.1 (List.nodup_append.1 this).2.1).1 (e▸ht')
   rw[h4.get cj];exact afE t' (by rw[hd];exact bQ _ ht')
  have alZ:dK w2 X2 nX n.c.ab (λk:bH=>k.v) wT n2.al:=by
   have:dK w2 X2 nX n2.c.ab (λk:bH=>k.v) wT n2.al:=s2.zO 5
   rwa [JU.c] at this
  repeat' refine ao ?_;intros
  refine nh (kt:=34) (et:=116) (kv:=λk:bH=>k.v) (k:=t) (.pointer none) alZ ta kQ kQ (λv b lq rT=>?_) (λhn=>?_);case refine_2=>
   obtain⟨b,hb⟩:=afE t (by rw[hd];simp);rw[hn] at hb;cases hb
  simp only[wT] at rT;subst rT;have hb:n2.cU b:=.inl ⟨_,lq⟩;have C7:=alX _ b lq;have L8:=C7.kn;have hw8:=C7.ws;have acU:=C7.ids;obtain⟨ha,o1,o2,o3,o4⟩:=s2.va hb;repeat' refine ao ?_;intros
  refine s2.st (o:=7) (tx b 0) (s2.h.act hb).1 (ea (dN n2 b (qo (n2.A b)))) zQ kQ (eu rfl) rfl (λ_ _ _ h=>rj dQ h) IW (λw3 X3 nE s3 m3=>?_) ix.1 ix.2;obtain⟨n3,sM⟩: ∃n3:bt,n3=dN n2 b (qo (n2.A b)):=⟨_,rfl⟩;rw[<-sM] at s3;have e3:n3.A b=qo (n2.A b):=by rw[sM];exact jj
  have f3:n3.nb=n.nb/\n3.c=n.c/\n3.rm=n2.rm/\n3.ra=n2.ra/\n3.ms=n2.ms/\n3.al=n2.al/\n3.ex=n2.ex:=by rw[sM];exact⟨JU.nb,JU.c,rfl,rfl,rfl,rfl,rfl⟩
  have rV:n3.cU b:=by rw[sM];exact hb
  have ht3:(qo (n2.A b)).x.aR=t:=(show∀t b,getM t n2.al=some b->(n2.A b).x.aR=t from s2.h.gA 12 dQ dQ) _ _ lq;clear hs ha s2 alZ alY jI;have hs:=s3.rf;obtain⟨ha,-⟩:=s3.va rV;rw[e3] at ha;have asb:(qo (n2.A b)).x.kn=(n2.A b).x.kn+1:=rfl;have hi3:1<=n3.c.id/\n3.c.id<=2:=by rw[f3.2.1];exact hi
  by_cases h6:6<=(n2.A b).x.kn+1
  ·repeat' refine aN ?_;intros
   rw[<-f3.1];refine s3.call (zF (code:=25) s3.h s3.x rV (by rw[e3];exact C7.pq) (by rw[f3.2.2.2.1];omega) hi3 (by rw[f3.2.2.1,e3];show n2.rm.length+(n2.A b).ids.length<=_;omega)) kQ λv w4 X4 lT n4 s4 ⟨ki,sJ,qP,q4,Qx⟩ m4=>?_;have s5:=s4.to (H5 (e':=n2.ex) λb' h'=>by rw[q4];show b'∈b::n3.ex;rw[f3.2.2.2.2.2.2];exact .tail _ h');rw[e3,ht3] at q4 Qx;refine hK lT _ w4 X4 _ s5 ⟨b,lq,?_,.inl ⟨h6,ki,sJ,qP,by rw[q4,sM];rfl,by rw[Qx,sM];rfl⟩⟩ (m3.trans m4)
   show n4.rm.length<=_
   rw[q4]
   show qP.length<=_
   rw[Qx]
   show n3.rm.length+_<=_
   rw[f3.2.2.1];split
   ·show _+((n2.A b).ids.map _).length<=_;rw[ai];omega
   ·simp
  ·have hws:(n2.A b).rw.length=(n2.A b).ws.length:=by have:=(s3.h.act rV).2.2.2.1.1;rw[e3] at this;exact this
   have rows: ∀{w5:World} {X5:XS} {mW:Nat->Nat} {n5:bt},Sn w0 own w5 X5 mW n5->n5.cU b->n5.A b=qo (n2.A b)->Sl w5 X5 36 (n2.A b).vw ((n2.A b).rw.map id)/\fN w5 (bR mW 4) (n2.A b).rw (n2.A b).ws:=λs5 BY e5=>by
    have:=s5.h.act BY;rw[e5] at this;exact⟨by rw[List.map_id];exact this.2.1.sl.mono (s5.sub _ ix.1),this.2.2.2.1⟩
   have ap8:=(rows s3 rV e3).1;repeat' refine aN ?_;intros
   refine gh (λk a w X=> ∃(j:Nat) (lT:Nat->Nat) (n4:bt),a=I (j:Nat)/\k=(n2.A b).rw.length-j/\j<=(n2.A b).rw.length/\Sn w0 own w X lT n4/\Told n3 (((n2.A b).ws.take j).map λm=>m.qx (20+n.c.id)) n4/\Mv (bR nE 4) w3 (bR lT 4) w)
    (n2.A b).rw.length ⟨0,nE,n3,rfl,rfl,au _,s3,Told.nil _,Mv.refl _ _⟩ ?_
   clear hs s3 ap8 ha;rintro k _ w4 X4 ⟨j,lT,n4,rfl,rfl,hj,s4,ht4,m4⟩;have hs:=s4.rf;have f4:n4.nb=n.nb/\n4.c=n.c/\n4.rm.length=n2.rm.length+j/\n4.A b=qo (n2.A b)/\n4.cU b:=by
    obtain⟨v,r,rfl,hl⟩:=id ht4;exact⟨f3.1,f3.2.1,by show r.length=_;rw[hl,f3.2.2.1,ai,List.length_take];omega,e3,rV⟩
   have zk:=rows s4 f4.2.2.2.2 f4.2.2.2.1;have asc:=zk.1;rcases dG (n2.A b).rw j with⟨cC,l,hl,_⟩|⟨dH,_⟩
   ·obtain⟨y,hy⟩: ∃y,(n2.A b).ws[j]? =some y:=⟨_,List.getElem?_eq_getElem zQ⟩;obtain⟨uk,us,uw,up,ur,uc,uh,ud,rfl,dB⟩:=zk.2.2 j l y hl hy;have q1:=dB.keys.one;have q2:=dB.seen.one;have q3:=dB.writes.one;have q4:=dB.parts.one;have q5:=dB.ranges.one;have q6:=dB.bp.one;have q7:=dB.iD.one;have q8:=dB.hU.one;have q9:(id (y.l uk us uw up ur uc uh ud)).all aG.one=true:=by dsimp only [id];exact qE
    repeat' refine aN ?_;intros
    (try dsimp only [id]);repeat' refine ao ?_;intros
    refine cA (Io (m:=y) (dB.mv (Mv.sub (s4.sub 4))) (C7.C3 y (aB hy))) kQ hs.has ?_;rintro _ Ox w5 X5 ⟨H4,yC,jK,JP,rfl,u1,u2,u3,u4⟩ IX Fe tg;have yX:=dB.mv (hs.gU (s4.sub 4));have s5:=s4.since hs;replace yX:=yX.mv (tg.gU (s5.sub 4));obtain⟨wC,s6,m6,-,n6⟩:=(s5.since tg).vB (N:=made Ox w5) λk hk=>⟨Fe k hk,s5.nw (ad IX hk.1)⟩;have k6:Mv (made Ox w5) w5 (bR wC 4) w5:=Mv.sub n6;replace yX:=yX.mv m6;rw[<-f4.1];refine s6.call (A5 (m:=y) s6.h s6.x ⟨u1.mv k6,u2.mv k6,u3.mv k6,u4.mv k6,yX.ranges,yX.bp,yX.iD,yX.hU⟩ (by rw[f4.2.1];exact hi) zQ) kQ λv w7 X7 DK n7 s7 q7 m7=>?_;replace q7:Told n4 [y.qx (20+n.c.id)] n7:=by rw[<-f4.2.1];exact q7
    have m47:=((m4.trans (hs.gU (s4.sub 4))).trans (tg.gU (s5.sub 4))).trans (m6.trans m7);clear hs;repeat' refine ao ?_;intros
    exact fp ((n2.A b).rw.length-(j+1)) zQ ⟨j+1,DK,n7,by simp,rfl,by omega,s7,by rw[C5 hy];exact ht4.add q7,m47⟩
   ·repeat' refine aN ?_;intros
    rw[ax zQ] at ht4;exact hK lT n4 w4 X4 _ s4 ⟨b,lq,by rw[f4.2.2.1];omega,.inr ⟨h6,by rw[JU.c];rw[sM] at ht4;exact ht4⟩⟩ (m3.trans m4)
 ·rw[ax dH] at da;have iF: ∀{w5:World} {X5:XS} {mW:Nat->Nat} {n5:bt},Sn w0 own w5 X5 mW n5->TK n n5->Sl w5 X5 1 n.c.cm (n.cl.map λb=>[ptr b 0]):=λ{w5 X5 mW n5} s5 Dh=>by
   have:=(show Own w5 X5 0 pcT 1 n5.c.cm (n5.cl.map λb=>[ptr b 0])from s5.zO 10).sl
   rwa [Dh.c,Dh.cl] at this
  have ap9:=iF s2 JU;repeat' refine aN ?_;intros
  refine gh (λk a w X=> ∃(j:Nat) (mW:Nat->Nat) (n5:bt),a=I (j:Nat)/\k=n.cl.length-j/\j<=n.cl.length/\Sn w0 own w X mW n5/\Cq (n.cl.take j) n2 n5/\TK n n5/\n5.rm.length<=80*ts.length+80*j) n.cl.length ⟨0,lS,n2,rfl,rfl,au _,s2,rfl,JU,by omega⟩ ?_;clear hs s2 ap9 jI alY ahI;rintro k _ w5 X5 ⟨j,mW,n5,rfl,rfl,hj,s5,hD5,Dh,asd⟩;have hs:=s5.rf;have ase:=iF s5 Dh;have Dg:=view s5 Dh;rcases dG n.cl j with⟨cC,b,hb,_⟩|⟨Fm,_⟩
  ·have hbm:b∈n.cl:=aB hb;have BY:b∈n5.cl:=by rw[Dh.cl];exact hbm
   have hw8:=hk.cw b hbm;repeat' refine aN ?_;intros
   refine gY (Q:=λK=> ∀(wC:Nat->Nat) (n6:bt) (w6:World) (X6:XS),Sn w0 own w6 X6 wC n6->Yu n5 b n6->K w6 X6) (λwC n6 w6 X6 s6 h6=>?_) (λK hK=>?_)
   ·have hs:=s6.rf;repeat' refine ao ?_;intros
    refine fp (n.cl.length-(j+1)) zQ ⟨j+1,wC,n6,by simp,rfl,by omega,s6,by rw[dr,hb];exact hD5.snoc h6,Dh.trans h6.tk,?_⟩;have:n6.rm.length<=n5.rm.length+80:=by
     rcases h6 with⟨_,rfl⟩|⟨_,_,_,rfl,h⟩
     ·omega
     ·show az _<=_;rw[h,ai,Dh.C];omega
    omega
   ·obtain⟨hc,o2,o1,H8⟩:=s5.vc BY;cases BX:(n5.C b).ended with
    |true=>
     rw[BX] at hc;repeat' refine ao ?_;intros
     exact hK mW n5 w5 X5 s5 (.inl ⟨BX,rfl⟩)
    |false=>
     rw[BX] at hc;repeat' refine ao ?_;intros
     rw[<-Dh.nb];exact s5.call (Im (b:=b) s5.h s5.x BY (by rw[Dh.c];exact hi) (by rw[Dh.C];omega)) kQ λv w6 X6 wC n6 s6 q6 _=>hK wC n6 w6 X6 s6 (.inr ⟨BX,q6⟩)
  ·rw[ax Fm] at hD5;repeat' refine aN ?_;intros
   rw[<-Dh.nb];refine s5.call (Ff s5.h s5.x) kQ λv w6 X6 wC n6 s6 ⟨q1,q2,q3⟩ _=>?_;subst q1 q2;have o1:=s5.v.2.1;have o2:=s5.v.2.2.1;clear hs;repeat' refine ao ?_;intros
   exact St.alm s6 q3 ⟨ts,n2,uz,da,hD5⟩ rfl
end
theorem Yv: ∀xs:List Int,xs.length<=(xs.map encI).flatten.length
 |[]=>by simp
 |x::xs=>by
  have h1:=Yv xs;have h2:=FA x;simp only[bD,cW,aa,aM];omega
variable {r : Rec}
section
variable {rb at_ gA cb xb : Nat} {vb : Value} {pl : Int} {bs tl : List Nat} {cs qe : List Value}
theorem Vn {xo:Nat} {xs:List Int} (h:RB w X rb vb at_ pl bs cb xb cs ty) (he:bs.drop at_=iU encI xs++tl) (hn: ∀x∈xs,uU x) (hl:xs.length<=2^30) (ho:cs[xo]? =some ko):
  Ct pg 186 #[ptr cb 0,ptr xb xo,.func (.func 183) #[ptr cb 0] #[]] w X (λk=>k=rb\/k=xb) λv wa w'=> ∃va,v= .tuple #[]/\
   aK w' (λk=>k=rb) rb [vb,I ((at_+(iU encI xs).length:Nat):Int),I 0,I pl] 315/\aK w' (λk=>k=xb) xb (cY cs xo [va]) ty/\Own w' (made wa w') wa.heap.size 3 1 va (xs.map I1):=by
 intro wi hk;have hS:=h.start hk;have hc:=hS.c;have Rc:xo+1<=cs.length:=(List.getElem?_eq_some_iff.1 ho).1;have e0:bs.drop at_=encI xs.length++((xs.map encI).flatten++tl):=by rw[he];unfold iU;rw[ak]
 have d0:=hS.np e0;have e1:=rH e0;have hfg:=Yv xs;have d1:at_+(encI xs.length).length+(xs.map encI).flatten.length<=bs.length:=by
  have h1:=congrArg az e1;rw[List.length_drop,aa] at h1;omega
 have L9:Cells wi (bV wi) xb xo [ko]:=⟨hS.x.1,cs.toArray,ty,(0,0),hS.x.2,λj u hj=>by
  cases j with
  |zero=>simp at hj;subst hj;simpa using ho
  |succ j=>simp at hj⟩
 have hnl:Sl wi (bV wi) 1 ko (([]:List Int).map I1):=Sl.nil _ _ _;refine Ed.1 λ_=>?_;have hs:=aj.fT hS.t.s.has;have Ma:=hS.an5;repeat' refine ao ?_;intros
 refine gY (Q:=λK=> ∀w X,RS wi w X rb vb (at_+(encI xs.length).length) pl bs cb xb (cY cs xo [ko]) ty->K (I xs.length) w X) ?_ λK hK=>?_
 ·intro w1 X1 nq;refine gh (λm a w X=> ∃(i:Nat) (va:Value),a=I i/\m=xs.length-i/\i<=xs.length/\RS wi w X rb vb (at_+(encI xs.length).length+((xs.take i).map encI).flatten.length) pl bs cb xb (cY cs xo [va]) ty/\Own w X wi.heap.size 3 1 va ((xs.take i).map I1)) xs.length ⟨0,ko,rfl,rfl,au _,by simpa using nq,Own.nil _ _ _ _ _⟩ ?_;clear nq hs L9 hc;rintro m a w2 X2 ⟨i,va,rfl,rfl,hi,bg,lv⟩;have hs:=aj.fT bg.t.s.has;rcases dG xs i with⟨cC,x,hx,hd⟩|⟨dH,hd⟩
  ·have hc:=bg.c;have L9:=Dd bg.x Rc;have hti:((xs.take i).map I1).length=i:=by simp;omega
   have gy:=hn x (aB hx);have Yw:((xs.take (i+1)).map encI).flatten=((xs.take i).map encI).flatten++encI x:=mi hx;have ei:bs.drop (at_+(encI xs.length).length+((xs.take i).map encI).flatten.length)=encI x++(((xs.drop (i+1)).map encI).flatten++tl):=by
    have h1:(xs.map encI).flatten=((xs.take i).map encI).flatten++(encI x++((xs.drop (i+1)).map encI).flatten):=by
     conv=>lhs;rw[<-gX i xs,hd]
     rw[aJ,List.flatten_append,bD,cW]
    rw[h1] at e1;rw[<-List.drop_drop,e1];simp only[ak];rw[List.drop_left]
   repeat' refine aN ?_;intros
   refine gY (Q:=λK=> ∀w X va,RS wi w X rb vb (at_+(encI xs.length).length+((xs.take i).map encI).flatten.length) pl bs cb xb (cY cs xo [va]) ty->Own w X wi.heap.size 3 1 va ((xs.take i).map I1++[[I 0]])->K w X) ?_ λK hK=>?_
   ·intro w3 X3 va3 bX Mb;clear hs hc L9;have hs:=aj.fT bX.t.s.has;have L9:=Dd bX.x Rc;repeat' refine ao ?_;intros
    refine ahv Mb (by rw[hti]) kQ kQ λg csg hg gv hbg hlen px al0=>?_;refine Dq ?_;have dH:rb<g/\xb<g/\cb<g:=by have:=Ma.r;have:=Ma.x;have:=Ma.c;omega
    have KF:RB w3 X3 rb vb (at_+(encI xs.length).length+((xs.take i).map encI).flatten.length) pl bs cb g csg 3:=⟨bX.r,hg,bX.c,bX.c1,by omega,by omega,λhb=>by have:=Ma.v g hb;omega⟩;rw[hti] at al0 hlen⊢;refine yV (pL (xo:=i*1) KF ei gy hlen) kQ bX.t.s.has (λk e=>e.elim (λe=>e▸bX.r.box.1) λe=>e▸hg.1) λv wa w4 X4 ⟨hv,zk,hx4⟩ _ _ _ c4=>?_;subst hv;have gZ:=bX.an7 Ma c4 ⟨hg.1,gv⟩ ⟨c4.sub _ bX.r.box.1,zk.2⟩ (KF.np ei);clear hs;repeat' refine ao ?_;intros
    refine fp (xs.length-(i+1)) zQ ⟨i+1,va3,by simp,rfl,by omega,?_,?_⟩
    ·rw[Yw,aa,<-Nat.add_assoc];exact gZ
    ·rw[dr,hx,aJ];exact(al0 w4 X4 [I x] rfl ⟨c4.sub _ hg.1,hx4.2⟩)
   ·repeat' first|refine ao ?_;intros|(refine q1s hs ?_;intro _ _ _ w X hs ho)
    have ahJ:=bg.since hs;have ahK:=lv.since hs;refine Ip (bytes:=8) (dw:=[[I 0]]) ahK ahJ.t.s.has ahJ.t.s.kp.size kQ ho.sl (λr hr u hu=>?_) oQ oQ λva3 w3 X3 c3 Mb al1=>?_
    ·simp only[aw] at hr;subst hr;simp at hu;subst hu;rfl
    have bX:=ahJ.apN Ma c3 λk af=>⟨(ahK.ow.br af).1,(ahK.ge af).1⟩;clear hs hc L9;have hs:=aj.fT bX.t.s.has;repeat' refine ao ?_;intros
    refine qj (o:=xo) bX.x rfl kQ (by rw[Cm _ _ _ oQ];omega) Mb.sl.one bX.t.s.has λw4 X4 c4 zk=>?_;rw[ac1 _ _ _ _ Rc] at zk;exact hK _ _ va3 (bX.ahu c4 zk) (Mb.eo c4 λg hg e=>by have:=(Mb.ge hg).1;have:=Ma.x;have e:g=xb:=e;omega)
  ·have mQ:i=xs.length:=by omega
   subst mQ;rw[List.take_length] at bg lv;have e:at_+(encI xs.length).length+(xs.map encI).flatten.length=at_+(iU encI xs).length:=by unfold iU;rw[aa];omega
   rw[e] at bg;repeat' refine aN ?_;intros
   refine bg.t.fin λwa aL=>⟨va,rfl,(bg.out aL).2.1,(bg.out aL).2.2,(lv.kp aL).tight⟩
 ·repeat' refine ao ?_;intros
  refine eT (afp hS.r) kQ hS.t.s.has λw1 X1 aC=>?_;have nq:=hS.since aC;refine nq.read (acX nq.r e0 zQ (by have:=nq.r.sz;omega)) kQ d0 λw2 X2 bg=>?_;refine eT (T7 bg.toRB) kQ bg.t.s.has λw3 X3 cV=>?_;have bX:=bg.since cV;clear hs;repeat' refine ao ?_;intros
  refine qj (o:=xo) bX.x rfl kQ Rc rfl bX.t.s.has λw4 X4 c4 zk=>?_;exact hK _ _ (bX.ahu c4 zk)
abbrev ahL:List Value:=[I 0,I 0,I 0,I 0,I 0,I 0,I 0,I 0,I 0,I 0,B false,I 0,.float .f64 0,ko,ko,ko,ko,I 0,I 0,.float .f64 0,.float .f64 0,I 0,I 0,I 0,I 0,I 0,I 0,ko,ko]
def mj (n:Int):Rec:=⟨8,.zero,.zero,.zero,false,n,0,[],[],[],[],.zero⟩
theorem Re (n:Int):fZ (mj n)=encI 8++encI n:=by simp[fZ,mj]
inductive Ur:Rec->Prop
 |FB (n:Int):uU n->Ur (mj n)
 |Dl (t:bH) (st:bN) (ps:List Int):DN t->acZ st->(∀x∈ps,uU x)->ps.length<=2^30->Ur (jw t st ps)
 |fin (t:bH):DN t->Ur (mJ t)
theorem Ur.kind (h:Ur r):r.kind=8\/r.kind=9\/r.kind=10:=by
 cases h
 ·exact .inl rfl
 ·exact .inr (.inl rfl)
 ·exact .inr (.inr rfl)
theorem aaY (hr:Ur r) (h:RB w X rb vb at_ pl bs cb xb ahL ty) (he:bs.drop at_=fZ r++tl):
  Ct pg 134 #[ptr cb 0,ptr xb 0] w X (λk=>k=rb\/k=xb) λv wa w'=> ∃vp,v= .tuple #[]/\
   aK w' (λk=>k=rb) rb [vb,I ((at_+(fZ r).length:Nat):Int),I 0,I pl] 315/\aK w' (λk=>k=xb) xb (r.l ko ko vp ko ko ko) ty/\Own w' (made wa w') wa.heap.size 3 1 vp (r.parts.map I1):=by
 intro wi hk;have hS:=h.start hk;refine Mc.1 λ_=>?_;repeat' first|refine ao ?_;intros|(with_reducible refine tq kQ kQ ?_)
 cases hr with
 |FB n hn=>
  rw[Re] at he⊢;have e0:bs.drop at_=encI 8++(encI n++tl):=by rw[he,ak]
  have e1:=rH e0;have d0:=hS.np e0;refine hS.call (pL (xo:=0) hS.toRB e0 (by unfold uU;omega) sQ) kQ d0 λw1 X1 nq=>?_;have hs:=aj.fT nq.t.s.has;have L9:=Dd (u:=I 8) nq.x sQ;repeat' first|refine aN ?_;intros|with_reducible apply cK
  rename_i o7 ho7 _;subst ho7;clear L9 hs;have d1:=nq.np e1;refine nq.call (pL (xo:=11) nq.toRB e1 hn (eu rfl)) kQ d1 λw2 X2 bg=>?_;have hs:=aj.fT bg.t.s.has
  skip
  have e:at_+(encI 8).length+(encI n).length=at_+(encI 8++encI n).length:=by simp only[aa];omega
  rw[e] at bg;exact bg.t.fin λFl aL=>⟨ko,rfl,(bg.out aL).2.1,(bg.out aL).2.2,Own.nil _ _ _ _ _⟩
 |Dl t st ps h1 h2 h3 h4=>
  rw[V8] at he⊢;have e0:bs.drop at_=encI 9++(oq t++(lI st++(iU encI ps++tl))):=by rw[he];simp only[ak]
  have e1:=rH e0;have e2:=rH e1;have e3:=rH e2;have d0:=hS.np e0;refine hS.call (pL (xo:=0) hS.toRB e0 (by unfold uU;omega) sQ) kQ d0 λw1 X1 nq=>?_;have hs:=aj.fT nq.t.s.has;have L9:=Dd (u:=I 9) nq.x sQ;repeat' first|refine aN ?_;intros|with_reducible apply cK
  rename_i o7 ho7 _;subst ho7;clear L9 hs;have d1:=nq.np e1;refine nq.call (T8 (xo:=1) nq.toRB e1 h1 (eu rfl)) kQ d1 λw2 X2 bg=>?_;repeat' first|refine ao ?_;intros|(with_reducible refine tq kQ kQ ?_)
  refine bg.call (aaN (xo:=4) bg.toRB e2 h2 (eu rfl)) kQ (bg.np e2) λw3 X3 bX=>?_;repeat' first|refine ao ?_;intros|(with_reducible refine tq kQ kQ ?_)
  refine yV (Vn (xo:=15) bX.toRB e3 h3 h4 rfl) kQ bX.t.s.has (λk e=>e.elim (λe=>e▸bX.r.box.1) λe=>e▸bX.x.1) λv wa w5 X5 ⟨va,hv,Dg,Rf,vX⟩ IX Fe _ c5=>?_;subst hv;have nK:=bX.Pg c5 ⟨c5.sub _ bX.r.box.1,Dg.2⟩ (bX.np e3) ⟨c5.sub _ bX.x.1,Rf.2⟩
  skip
  have e:at_+(encI 9).length+(oq t).length+(lI st).length+(iU encI ps).length=at_+(encI 9++(oq t++(lI st++iU encI ps))).length:=by simp only[aa];omega
  rw[e] at nK;exact nK.t.fin λFl aL=>⟨va,rfl,(nK.out aL).2.1,(nK.out aL).2.2,((vX.up Fe (ad bX.t.s.kp.size IX)).kp aL).tight⟩
 |fin t h1=>
  rw[Rb] at he⊢;have e0:bs.drop at_=encI 10++(oq t++tl):=by rw[he,ak]
  have e1:=rH e0;refine hS.call (pL (xo:=0) hS.toRB e0 (by unfold uU;omega) sQ) kQ (hS.np e0) λw1 X1 nq=>?_;have hs:=aj.fT nq.t.s.has;have L9:=Dd (u:=I 10) nq.x sQ;repeat' first|refine aN ?_;intros|with_reducible apply cK
  rename_i o7 ho7 _;subst ho7;clear L9 hs;refine nq.call (T8 (xo:=1) nq.toRB e1 h1 (eu rfl)) kQ (nq.np e1) λw2 X2 bg=>?_
  skip
  have e:at_+(encI 10).length+(oq t).length=at_+(encI 10++oq t).length:=by simp only[aa];omega
  rw[e] at bg;exact bg.t.fin λFl aL=>⟨ko,rfl,(bg.out aL).2.1,(bg.out aL).2.2,Own.nil _ _ _ _ _⟩
theorem SK {v0:Value} (hr:Ur r) (h:Sl w X 1 v0 ((fZ r).map U1)) (aqa:r.err=0) (hlen:(fZ r).length<=262144) (cC: ∀b∈fZ r,b<256):
  Ct pg 79 #[v0] w X nX λv wa w'=> ∃va,v= .tuple #[r.v ko ko va ko ko ko,I 0]/\Own w' (made wa w') wa.heap.size 3 1 va (r.parts.map I1):=by
 intro w0 hk;replace h:=h.mv hk.cu;have L4:Ft w0 nX w0 (bV w0) nX:=Ft.init λ_ h=>h.elim;refine SL ?_;unfold Iq;refine Nr (l:=ahL) L4.s.has kQ λxb w1 X1 Oz aC Et=>?_;have ej:=L4.since aC;refine ahw ej.s.has kQ λeb w2 X2 heb bm En=>?_;have da:=ej.since bm;have hrx:=Et.since bm;have hs:=aC.trans bm;have nV:=h.mv hs.mv;have cj:fZ r≠[]:=by
  intro e;have:=FA r.kind;have h9:=congrArg az e;cases hr
  ·rw[Re] at h9;have:=FA 8;simp only[aa,bz] at h9;omega
  ·rw[V8] at h9;have:=FA 9;simp only[aa,bz] at h9;omega
  ·rw[Rb] at h9;have:=FA 10;simp only[aa,bz] at h9;omega
 generalize wR:fZ r=bs at*;repeat' refine aN ?_;intros
 refine cA (aht nV zQ cC) kQ da.s.has ?_;rintro _ yF w3 X3 ⟨rb,vb,rfl,jE⟩ qy mr cV;have dS:=da.since cV;repeat' refine ao ?_;intros
 refine AJ dS.s.has λcb w4 X4 hcb fR Rg=>?_;have fJ:=(dS.since fR).Ps;have hz3:=cV.kp.size;have zT:BZ w3 X3 rb vb 0 0 bs:=jE.mv (Mv.sub mr);have LF:=zT.mv fR.mv;have adH:=(hrx.since cV).since fR;have al2:=(En.since cV).since fR;have Og:=jE.box.1;have Uf:=bm.has xb (bm.sub xb Et.1);have asf:=aC.has xb Et.1;have Ma:=bm.has eb En.1;have qi:=fR.has cb Rg.1;have KF:RB w4 X4 rb vb 0 0 bs cb xb ahL 73:=⟨LF,adH,Rg.cells,by have:=Og.2;omega,by omega,by have:=Og.1;omega,λhb=>by have:=(jE.ow.br hb).1.1;omega⟩;refine fJ.call (aaY (tl:=[]) hr KF (by rw[wR];simp)) kQ (λk e=>e.elim (λe=>by subst e;exact⟨LF.box.1,by have:=Og.1;omega⟩) λe=>by subst e;exact⟨adH.1,by omega⟩) λv Ox w5 X5 hq5 IX Fe iN c5=>?_;obtain⟨va,rfl,Dg,Rf,vX⟩:=hq5;rw[wR] at Dg;have al3:aK w5 X5 xb _ _:=⟨c5.sub _ adH.1,Rf.2⟩;have aqb:=al2.eo c5 λe=>e.elim (λe=>by have:=Og.1;omega) λe=>by omega
 have aqc:=KF.Pg c5 (gA:=0+bs.length) ⟨c5.sub _ LF.box.1,Dg.2⟩ zQ al3;have h0:Sl w0 (out nX w0) 1 v0 (bs.map U1):=h.mono λk af=>⟨af,λh=>h.elim⟩;clear hs nV aC bm cV fR;have hs:=aj.fT iN.s.has
 skip
 refine eT (ahs aqc.r zQ) kQ iN.s.has λw6 X6 rF=>?_;have kj:=iN.since rF;have hx6:=al3.since rF;have aqd:=aqb.since rF;have ho6:Own w6 X6 w0.heap.size 3 1 va (r.parts.map I1):=(vX.up Fe (by have:=fJ.s.kp.size;omega)).since rF;obtain⟨ab,an,ac,rfl⟩:=ho6.sl.form;repeat' refine aN ?_;intros
 have aqe:Ct pg 136 #[r.v ko ko (.slice ab an ac) ko ko ko] w6 X6 nX λv wa w'=> ∃vb,v= .tuple #[vb,I 0]/\Own w' (made wa w') wa.heap.size 5 1 vb (bs.map U1):=by
  have dB:r.at w6 X6 ko ko (.slice ab an ac) ko ko ko:=by
   cases hr<;>exact⟨Sl.nil _ _ _,Sl.nil _ _ _,ho6.sl,Sl.nil _ _ _,eQ.nil _ _ _,eQ.nil _ _ _⟩
  have ni:r.small:=by cases hr<;>exact Es rfl rfl rfl
  refine(DT dB ni (λ_=>by rw[wR];omega)).mono λv wb w' _ hq=>?_;have AS:r.fB=0:=by
   unfold Rec.fB;rw[if_neg (by simp[aqa]),if_neg (by rw[wR];omega)]
  rw[if_neg (by simp[AS]),wR] at hq;exact hq
 refine cA aqe kQ kj.s.has ?_;rintro _ Qs w7 X7 ⟨ve,rfl,hoe⟩ Sp Hc py;have CY:=kj.since py;have hx7:=hx6.since py;have aqf:=aqd.since py;repeat' refine aN ?_;intros
 refine gY (Q:=λK=> ∀w X,aj X7 w7 X w->K (B true) w X) ?_ λK hK=>?_
 ·intro w8 X8 lr;have TN:=CY.since lr;have hx8:=hx7.since lr;have aqg:=aqf.since lr;have AK:=(ho6.since py).since lr;clear hs;repeat' refine ao ?_;intros
  refine Gy (o:=0) hx8 rfl kQ (eu rfl) rfl ?_ TN.s.has λw9 X9 c9 QH=>?_
  ·rfl
  have hT9:=TN.eo (F':=λk=>Ee w0 X4 k\/made Ox w5 k) c9 (λk af=>by subst af;exact .inl ⟨adH.1,by omega⟩) λk af=>.inl af;have al4:=aqg.eo c9 (λe=>by have e:eb=xb:=e;omega);have TO:=AK.eo c9 λg hg e=>by
   have e:g=xb:=e;subst e;exact Own.eP AK hx8 kQ hg
  refine qj (o:=0) al4 rfl kQ sQ rfl hT9.s.has λOM ON Rh Yy=>?_;have Hl:=hT9.eo (F':=λk=>Ee w0 X4 k\/made Ox w5 k) Rh (λk af=>by subst af;exact .inl ⟨al2.1,by omega⟩) λk af=>.inl af;have aqh:=QH.eo Rh (λe=>by have e:xb=eb:=e;omega);have aqi:=TO.eo Rh λg hg e=>by
   have e:g=eb:=e;subst e;exact Own.eP TO al4 kQ hg
  unfold aG.fin;intro wa aL;refine Vi (X:=ON) (cs:=r.l ko ko (.slice ab an ac) ko ko ko) (aqh.kp aL) rfl (Yy.kp aL) ?_;exact⟨_,rfl,⟨aL.os.trans Hl.s.kp.os,aL.tape.trans Hl.s.kp.tape,aL.output.trans Hl.s.kp.output,ad Hl.s.kp.size aL.size,λk hl hn=>(aL.block k (Hl.s.sub k ⟨hl,hn⟩)).trans (Hl.s.kp.block k ⟨hl,hn⟩)⟩,.slice ab an ac,rfl,(aqi.kp aL).tight⟩
 ·repeat' refine ao ?_;intros
  refine eT (XI (hoe.sl.mono Hc) (h0.mv CY.s.mv) cj) kQ CY.s.has λw8 X8 lr=>?_;exact hK _ _ lr
end
def Yz (n:bt) (r:Rec):Prop:=
 (r.kind=8/\r.n=n.c.ba+1)\/(r.kind=9/\r.aR.dX=n.c.id/\r.aR.ba=n.c.ba/\getM r.aR n.bl=none)\/(r.kind=10/\ ∃b,b∈n.cl/\getM r.aR n.bl=some b/\(n.C b).ended=false)
def Wc (n:bt) (r:Rec) (vp:Value) (n':bt):Prop:=
 (r.kind=8/\n'= { n with c:= { n.c with ba:=n.c.ba+1 } })\/(r.kind=9/\ ∃v,alO n r vp v n')\/
 (r.kind=10/\ ∃b,getM r.aR n.bl=some b/\n'=nG n b { n.C b with v2:=bf,waits:=[],ended:=true })
section
variable {own : Nat -> Nat} {n : bt}
theorem YA (h:jb w own n) (hX:sK own X) (hr:Yz n r) (hp:Sl w (bR own 4) 1 vp (r.parts.map I1)) (xD:r.parts.length<=2^40) (qi:n.cl.length<=2^20) (hl:0<=n.c.ba/\n.c.ba<=2^30):
  Ct pg 80 #[ptr n.nb 0,r.v bf bf vp bf bf bf] w X (gB own) λv wa w'=>NQ ea own wa w' λ_ n'=>v=B true/\Wc n r vp n':=by
 intro w0 hk;have s:=St.init h hX hk;replace hp:=hp.mv (yD hX hk);have pz:=s.v.1;refine Md.1 λ_=>?_;have hs:=s.rf;rcases hr with⟨hk,hn⟩|⟨hk,h1,h2,h3⟩|⟨hk,b,hb,h1,h2⟩
 ·repeat' refine aN ?_;intros
  refine s.st (o:=1) 1 (s.get 1) (ea { n with c:= { n.c with ba:=n.c.ba+1 } }) zQ kQ (eu rfl) rfl (λ_ _ _ h=>h) nU λw1 X1 ij s1 m1=>?_;clear hs pz;have pz:=s1.v.1;have hs:=s1.rf;repeat' refine aN ?_;intros
  exact s1.fin λ_ _=>⟨by first|rfl|(congr 1;simp;omega),.inl ⟨hk,rfl⟩⟩
 ·repeat' refine aN ?_;intros
  refine nh (kt:=34) (et:=124) (kv:=λk:bH=>k.v) (k:=r.aR) (.pointer none) (s.zO 6:) ta kQ kQ (λv b lq rT=>?_) (λhn=>?_)
  ·rw[h3] at lq;cases lq
  repeat' refine ao ?_;intros
  refine s.call (OK (r:=r) s.h s.x hp xD qi) kQ λv w1 X1 ij n1' s1 q1 m1=>?_;clear hs
  skip
  exact s1.fin λ_ _=>⟨rfl,.inr (.inl ⟨hk,_,q1⟩)⟩
 ·obtain⟨hc,o3,o2,H8⟩:=s.vc hb;rw[h2] at hc;repeat' refine aN ?_;intros
  refine nh (kt:=34) (et:=124) (kv:=λk:bH=>k.v) (k:=r.aR) (.pointer none) (s.zO 6:) ta kQ kQ (λv b' lq rT=>?_) (λhn=>?_);case refine_2=>rw[h1] at hn;cases hn
  simp only[wT] at rT;subst rT;obtain rfl:b'=b:=by rw[h1] at lq;exact(bW lq).symm
  repeat' refine ao ?_;intros
  refine s.st (o:=30) (tx b' 4) (s.h.Dl hb).1 (ea (nG n b' { n.C b' with ended:=true })) zQ kQ sQ rfl (λ_ _ _ h=>Nq dQ h) Wa (λw1 X1 ij s1 m1=>?_) ix.1 ix.2;have lD:b'∈(nG n b' { n.C b' with ended:=true }).cl:=hb;clear hs hc;have hs:=s1.rf;obtain⟨hc,-⟩:=s1.vc lD;rw[L2] at hc;repeat' refine ao ?_;intros
  have iF:=s1.h.Dl lD;rw[L2] at iF;refine qj (o:=29) hc zQ kQ sQ rfl s1.has λw2 X2 c2 jI=>?_;obtain⟨lS,s2,m2⟩:=s1.jY (F':=ea (nG n b' { n.C b' with v2:=bf,waits:=[],ended:=true })) (j:=tx b' 4) (N:=λ_=>False) c2 (λc=>c=tx b' 4\/c=tx b' 5) (λk e=>.inl (by rw[show k=b' from e];exact iF.1.1)) (λe=>by unfold tx at e;omega) (λe=>by unfold tx at e;omega) (λ_ h=>h.elim) ix.1
   (λaH e1 e2 m c hc=>by
    rcases hc with rfl|rfl
    ·exact Nq dQ ⟨(e1 b' (by rw[show ij b'=tx b' 4 from iF.1.1];exact ix.1)).trans iF.1.1,jI.2⟩
    ·exact Nq dQ (Own.nil _ _ _ _ _))
   λc hc K A m h=>by
    have:=Wa (n:=nG n b' { n.C b' with ended:=true }) (b:=b') (Q:=λc=> ¬(c=tx b' 4\/c=tx b' 5)) (d:= { n.C b' with v2:=bf,waits:=[],ended:=true }) (by rw[L2];intro i hq w K A h;rcases i with _|_|_|_|_|_|_|_|i<;>first|exact h|exact absurd (.inl rfl) hq|exact absurd (.inr rfl) hq) c hc _ _ _ h
    rwa [Uq] at this
  clear hs hc;have hs:=s2.rf
  skip
  exact s2.fin λ_ _=>⟨rfl,.inr (.inr ⟨hk,b',h1,rfl⟩)⟩
end
abbrev pe:ByteArray:=⟨#[108,111,103]⟩
abbrev lK:=Int×List (Rec×Bool)
def Jc (t:bH) (l:List (Rec×Bool)):List (Rec×Bool):=l.map λx=>if x.1.aR=t then(x.1,true)else x
open Classical in
noncomputable def uX (s:lK) (r:Rec):Option lK:=
 if r.kind=8 then(if r.n=s.1+1 then some (s.1+1,s.2)else none)
 else if r.kind=9 then(if r.aR.dX=1/\r.aR.ba=s.1/\(∀x∈s.2,x.1.aR≠r.aR)then some (s.1,s.2++[(r,false)])else none)
 else if r.kind=10 then(if∃x∈s.2,x.1.aR=r.aR/\x.2=false then some (s.1,Jc r.aR s.2)else none)
 else none
noncomputable def zV:lK->List Rec->Option lK
 |s,[]=>some s
 |s,r::l=>(uX s r).bind λs'=>zV s' l
theorem OO: ∀(l l':List Rec) (s:lK),zV s (l++l')=(zV s l).bind λs'=>zV s' l'
 |[],l',s=>rfl
 |r::l,l',s=>by
  show(uX s r).bind (λs'=>zV s' (l++l'))=((uX s r).bind λs'=>zV s' l).bind _
  cases uX s r with
  |none=>rfl
  |some x=>exact OO l l' x
variable {s1 s2 : lK}
theorem afF {l:List Rec} {s:lK} (h:zV s l=some s1) (h2:uX s1 r=some s2):zV s (l++[r])=some s2:=by
 rw[OO,h]
 show(uX s1 r).bind (λs'=>some s')=_
 rw[h2];rfl
def bt.abs (n:bt):lK:=(n.c.ba,n.cl.map λb=>((n.C b).r,(n.C b).ended))
def Me (n:bt):Prop:= ∀t b,getM t n.bl=some b↔b∈n.cl/\(n.C b).r.aR=t
structure Rest (n n':bt):Prop where
 nb:n'.nb=n.nb
 db:n'.db=n.db
 mb:n'.mb=n.mb
 L:n'.L=n.L
 m:n'.m=n.m
 al:n'.al=n.al
 ds:n'.ds=n.ds
 id:n'.c.id=n.c.id
 fF:n'.c.fF=n.c.fF
 lb:n'.c.lb=n.c.lb
 pre:n'.pre=n.pre
 ex:n'.ex=n.ex
 out:n'.vm=n.vm/\n'.va=n.va/\n'.rm=n.rm/\n'.ra=n.ra/\n'.ms=n.ms
theorem Rest.refl (n:bt):Rest n n:=⟨rfl,rfl,rfl,rfl,rfl,rfl,rfl,rfl,rfl,rfl,rfl,rfl,rfl,rfl,rfl,rfl,rfl⟩
variable {a : bt}
theorem Rest.trans {b c:bt} (h:Rest a b) (k:Rest b c):Rest a c:=⟨k.nb.trans h.nb,k.db.trans h.db,k.mb.trans h.mb,k.L.trans h.L,k.m.trans h.m,k.al.trans h.al,k.ds.trans h.ds,k.id.trans h.id,k.fF.trans h.fF,k.lb.trans h.lb,k.pre.trans h.pre,k.ex.trans h.ex,k.out.1.trans h.out.1,k.out.2.1.trans h.out.2.1,k.out.2.2.1.trans h.out.2.2.1,k.out.2.2.2.1.trans h.out.2.2.2.1,k.out.2.2.2.2.trans h.out.2.2.2.2⟩
variable {s' : lK}
section
variable {n : bt}
theorem afG (h:Me n) (hi:n.c.id=1) (hr:uX n.abs r=some s'):Yz n r:=by
 unfold uX at hr;split at hr
 ·rename_i hk;split at hr
  ·rename_i h1;exact .inl ⟨hk,h1⟩
  ·cases hr
 ·split at hr
  ·rename_i hk;split at hr
   ·rename_i h1;refine .inr (.inl ⟨hk,h1.1.trans hi.symm,h1.2.1,?_⟩);cases e:getM r.aR n.bl with
    |none=>rfl
    |some b=>
     obtain⟨h2,h3⟩:=(h _ _).1 e;exact absurd h3 (h1.2.2 _ (List.mem_map.2 ⟨b,h2,rfl⟩))
   ·cases hr
  ·split at hr
   ·rename_i hk;split at hr
    ·rename_i h1;obtain⟨x,hx,h2,h3⟩:=h1;obtain⟨b,hb,rfl⟩:=List.mem_map.1 hx;exact .inr (.inr ⟨hk,b,hb,(h _ _).2 ⟨hb,h2⟩,h3⟩)
    ·cases hr
   ·cases hr
theorem YB (h:Me n) (hr:uX n.abs r=some s') (ok:Yz n r) (hs:Wc n r vp n') (hw: ∀b∈n.cl,(n.C b).waits.length<=80) (hp:r.parts.length<=80):
  n'.abs=s'/\Me n'/\Rest n n'/\(∀b∈n'.cl,(n'.C b).waits.length<=80)/\n'.cl.length<=n.cl.length+1:=by
 unfold uX at hr;unfold Wc nG at hs;rcases hs with⟨hk,rfl⟩|⟨hk,v,bx,B3,v2,_,gq,rfl⟩|⟨hk,b,hb,rfl⟩
 ·rw[if_pos hk] at hr;split at hr
  ·exact⟨bW hr,h,⟨rfl,rfl,rfl,rfl,rfl,rfl,rfl,rfl,rfl,rfl,rfl,rfl,rfl,rfl,rfl,rfl,rfl⟩,hw,dc _⟩
  ·cases hr
 ·have kO:getM r.aR n.bl=none:=by
   rcases ok with ok|ok|ok
   ·omega
   ·exact ok.2.2.2
   ·omega
  rw[if_neg zQ,if_pos hk] at hr;have cj: ∀b∈n.cl,b≠bx:=λb hb e=>gq (e▸hb);split at hr
  ·have e:=bW hr;refine⟨?_,λt b=>?_,⟨rfl,rfl,rfl,rfl,rfl,rfl,rfl,rfl,rfl,rfl,rfl,rfl,rfl,rfl,rfl,rfl,rfl⟩,λb hb=>?_,by simp⟩
   ·rw[<-e];unfold bt.abs;dsimp only;rw[aJ];refine congrArg (Prod.mk _) ?_;rw[ey (l:=n.cl) (g:=λb=>((n.C b).r,(n.C b).ended)) λb hb=>by grind];simp
   ·dsimp only;by_cases ht:t=r.aR
    ·subst ht;rw[kD];constructor
     ·grind
     ·rintro⟨h1,h2⟩;rcases List.mem_append.1 h1 with h1|h1
      ·rw[if_neg (cj b h1)] at h2;rw[(h _ _).2 ⟨h1,h2⟩] at kO;cases kO
      ·rw[List.mem_singleton.1 h1]
    ·rw[od ht];constructor
     ·intro e;obtain⟨h1,h2⟩:=(h _ _).1 e
      grind
     ·rintro⟨h1,h2⟩;rcases List.mem_append.1 h1 with h1|h1
      ·rw[if_neg (cj b h1)] at h2;exact(h _ _).2 ⟨h1,h2⟩
      ·rw[aw] at h1
       grind
   ·dsimp only at hb⊢;split
    ·exact hp
    ·rename_i hn;rcases List.mem_append.1 hb with hb|hb
     ·grind
     grind
  ·cases hr
 ·rw[if_neg zQ,if_neg zQ,if_pos hk] at hr;obtain⟨hbc,hbt⟩:=(h _ _).1 hb;split at hr
  ·have e:=bW hr;refine⟨?_,λt b'=>?_,⟨rfl,rfl,rfl,rfl,rfl,rfl,rfl,rfl,rfl,rfl,rfl,rfl,rfl,rfl,rfl,rfl,rfl⟩,λb' dU=>?_,dc _⟩
   ·rw[<-e];unfold bt.abs Jc;dsimp only;rw[bB];refine congrArg (Prod.mk _) (ey λb' dU=>?_);by_cases e:b'=b
    ·grind
    ·rw[if_neg e];have: ¬(n.C b').r.aR=r.aR:=λe'=>by
      have:=(h _ _).2 ⟨dU,e'⟩
      grind
     simp[this]
   ·refine(h t b').trans (and_congr_right λ_=>?_)
    grind
   grind
  ·cases hr
end
theorem gC.count: ∀{l:List dO} {s:dO} {f:Nat},gC (l++[s])->oN (l++[s])=some f->s.first+s.bp.length=f+(fA (l++[s])).length
 |[],s,f,_,h=>by
  have:s.first=f:=bW h
  simp[fA,this]
 |[a],s,f,h,hf=>by
  have h1:s.first=a.first+a.bp.length:=h.1
  have h2:a.first=f:=bW hf
  simp[fA];omega
 |a::b::l,s,f,h,hf=>by
  have h1:b.first=a.first+a.bp.length:=h.1
  have h2:a.first=f:=bW hf
  have:=gC.count (l:=b::l) (s:=s) (f:=b.first) h.2.2 rfl;have e:fA (a::b::l++[s])=a.bp++fA (b::l++[s]):=by simp[fA]
  grind
theorem gC.has: ∀{l:List dO} {f k:Nat} {p:List Nat},gC l->oN l=some f->(fA l)[k]? =some p-> ∃(j:Nat) (s:dO),l[j]? =some s/\s.first<=f+k/\(∀(i:Nat) (t:dO),j<i->l[i]? =some t->f+k<t.first)/\s.bp[f+k-s.first]? =some p
 |[],_,_,_,_,h,_=>by cases h
 |s::l,f,k,p,hl,h,hk=>by
  have hf:s.first=f:=bW h
  have hr:fA (s::l)=s.bp++fA l:=by simp[fA]
  rw[hr] at hk;by_cases cC:k<s.bp.length
  ·rw[List.getElem?_append_left cC] at hk;refine⟨0,s,rfl,by omega,λi t hi ht=>?_,by simp_all⟩;cases i with
   |zero=>omega
   |succ i=>
    rw[uW] at ht;cases l with
    |nil=>cases ht
    |cons u r=>
     have h1:=hl.1;have hm:=aB ht;rcases List.mem_cons.1 hm with rfl|hm
     ·omega
     ·have:=hl.tail.lt t hm;omega
  ·rw[List.getElem?_append_right zQ] at hk;cases l with
   |nil=>simp[fA] at hk
   |cons u r=>
    have h1:=hl.1;obtain⟨j,q,h2,h3,h4,h5⟩:=gC.has (l:=u::r) (f:=u.first) hl.tail rfl hk;have e:u.first+(k-s.bp.length)=f+k:=by omega
    rw[e] at h3 h4 h5;exact⟨j+1,q,by assumption,h3,λi t hi ht=>by
     cases i with
     |zero=>omega
     |succ i=>rw[uW] at ht;exact h4 i t zQ ht,h5⟩
structure Us (r:Rec):Prop where
 co:Ur r
 err:r.err=0
 len:(fZ r).length<=900
 isb: ∀b∈fZ r,b<256
 ps:r.parts.length<=80
structure Mf (x:LD) (pre:List dO) (s:dO) (rs:List Rec):Prop where
 up:oY x pre s
 fst:oN (pre++[s])=some 1
 Ap:fA (pre++[s])=rs.map fZ
 ok: ∀r∈rs,Us r
 len:rs.length<=1000
variable {rs : List Rec} {s : dO}
theorem Mf.next {x:LD} (h:Mf x pre s rs):x.L.next=1+rs.length:=by
 have:=gC.count h.up.g.lk h.fst;rw[h.Ap,ai] at this;rw[h.up.next];exact this
variable {k : Nat}
theorem Mf.has {x:LD} (h:Mf x pre s rs) (hr:rs[k]? =some r):x.L.has (1+k) (fZ r):=by
 unfold LM.has;rw[h.up.bu];exact gC.has h.up.g.lk h.fst (by rw[h.Ap,List.getElem?_map,hr];rfl)
theorem Mf.head {x:LD} (h:Mf x pre s rs): ∃u t,x.L.bu=u::t/\u.first=1:=by
 have h1:=h.fst;rw[h.up.bu];cases pre with
 |nil=>exact⟨s,[],rfl,bW h1⟩
 |cons u v=>exact⟨u,v++[s],rfl,bW h1⟩
theorem YC {s:lK} (h:uX s r=some s'):s.1<=s'.1/\s'.1<=s.1+1:=by
 unfold uX at h;repeat' split at h
 all_goals first|cases h;done|(have e:=bW h;rw[<-e];dsimp only;omega)
variable {F : Nat -> qm} {db : Nat}
section
variable {N : XS} {own : Nat -> Nat} {n : bt}
structure OI (n0 n:bt) (s:lK) (k:Nat):Prop where
 abs:n.abs=s
 bl:Me n
 rest:Rest n0 n
 cw: ∀b∈n.cl,(n.C b).waits.length<=80
 cl:n.cl.length<=k
 ba:0<=n.c.ba/\n.c.ba<=k
structure ajk (l:List eI) (x:LD) (s1:lK) (db k:Nat) (n:bt):Prop where
 db:n.db=db
 abs:n.abs=(s1.1+1,s1.2)
 bl:Me n
 id:n.c.id=1
 fF:n.c.fF=0
 al:n.al=[]
 ck:n.ck=⟨0,0,21⟩
 ds:n.ds=l.foldl iY []
 ld:(⟨n.L,n.m⟩:LD)=(x.iG 0 (fZ (mj (s1.1+1)))).1
 ms:n.ms=[]
 vm:n.vm=bf
 va:n.va=bf
 rm:n.rm=[]
 ra:n.ra=[]
 cw: ∀b∈n.cl,(n.C b).waits.length<=80
 cl:n.cl.length<=k
 pre:n.pre=false
 ex:n.ex=[]
def lgR (lb db:Nat) (L:LM) (m:DM):qm:=⟨λw _ A=>Lg w A lb db L m,λh _ m=>ajl h m⟩
def diR (rb mb:Nat) (ds:tM):qm:=⟨λw _ A=>mH w A rb mb ds,λh _ m=>h.mv m⟩
theorem _root_.Go.aG.St.IL (s:St w0 bM w X own F) (j:Nat) (r:qm) (hN: ∀k,N k->X k/\own k=0/\w0.heap.size<=k) (hr: ∀K,r.p w K N) (h0:j≠0:=by decide) (h4:j≠4:=by decide):
  ∃aH,St w0 bM w X aH (λc=>if c=j then r else F c)/\Mv (bR own 4) w (bR aH 4) w/\ ∀k,¬N k->aH k=own k:=by
 obtain⟨aH,s',m,e,-⟩:=s.jY (F':=λc=>if c=j then r else F c) (j:=j) (N:=N) (eh.oh s.rf nX) (· =j) (λ_ h=>h.elim) h0.symm h4.symm hN h0 (λaH _ e2 m c hc=>by subst hc;rw[if_pos rfl];exact r.mv (hr _) (Mv.refl _ _) (Mv.sub e2)) λc hc K A _ h=>by rw[if_neg hc];exact h
 exact⟨aH,s',m,e⟩
theorem FC {a:Value} {l:List eI} {m:DM} {x:LD} {sf:lK} (h:Hs (Un db m) w own) (hX:sK own X) (ha:Sl w (bR own 4) 4 a (l.map eI.l)) (hc:A6 l=0)
  (zn: ∀x∈m.fs,x.1.size<=2^40) (iR:m.fs.length<=2^29) (GB: ∀n,∀b∈m.bytes n,b<256) (hO:LD.B1 pe 4096 m=(x,0)) (hL:Mf x pre sg rs) (jE:zV (0,[]) rs=some sf) (Ea:(x.iG 0 (fZ (mj (sf.1+1)))).2.2=0) (hke:(mj (sf.1+1)).fB=0):
  Ct pg 36 #[ptr db 0,I 1,I 4096,a] w X (gB own) λv wa w'=>NQ ea own wa w' λ_ n=>v= .tuple #[ptr n.nb 0,I 0]/\ajk l x sf db rs.length n:=by
 intro w0 hk;have s:=St.init h hX hk;replace ha:=ha.mv (yD hX hk);clear h hX hk;refine SM (RP:=λ_ _=>False) (show YD Tryz.f36=some (81,[8,9])from by kernel_rfl) aaI adI ?_;refine cz ?_;have hs:=s.rf;repeat' refine aN ?_;intros
 refine cA (afH (ha.mono (s.sub 4))) kQ hs.has ?_;rintro v1 D8 w1 X1 q1 qz nY aC;rw[if_neg zQ] at q1;obtain⟨rb,mb,D,rfl,hD,alK⟩:=q1;obtain⟨ij,s1,m1,e1⟩:=(s.since aC).IL (N:=D) 2 (diR rb mb (l.foldl iY [])) (λk hk=>⟨nY k (hD k hk),s.nw (ad qz (hD k hk).1)⟩) λ_=>alK;clear hs;have hs:=s1.rf;repeat' refine aN ?_;intros
 refine yV (adk (dir:=pe) (sz:=4096) (s1.get 3:Dk w1 (bR ij 3) db m) (s1.fxc 3) zn iR GB dQ dQ dQ dQ) kQ s1.has (s1.sub 3) λv yE w2 X2 CV mq kW _ c2=>?_;rw[hO] at CV;obtain⟨lb,F2,rfl,hF2,_,g2⟩:=CV;replace g2:=g2 rfl;dsimp only at g2;obtain⟨lS,s2,m2⟩:=s1.DI (F':=λc=>if c=2 then diR rb mb (l.foldl iY [])else if c=3 then lgR lb db x.L x.m else Q8) 3 c2 (λ_ e=>e) F2 (λk af=>(hF2 k af).imp id λe=>⟨kW k e,ad mq e.1⟩) (λ_ _=>g2) λc hc w K A h=>by
  by_cases e:c=2
  ·rw[if_pos e] at h⊢;exact h
  ·rw[if_neg e,if_neg hc];trivial
 rw[if_pos rfl];clear hs;have hs:=s2.rf;repeat' refine aN ?_;intros
 refine rE (kv:=λk:bH=>k.v) wT nX s2.has λab w3 X3 wX cV qK=>?_;obtain⟨nE,s3,m3,e3⟩:=(s2.since cV).IL (N:=(· =ab)) 5 (mpR ab []) (λk hk=>by subst hk;exact⟨qK.x.1,s2.nw wX⟩) λ_=>qK.own;refine rE (kv:=λk:bH=>k.v) wT nX s3.has λtb w4 X4 htb fR Aj=>?_;obtain⟨lT,s4,m4,e4⟩:=(s3.since fR).IL (N:=(· =tb)) 6 (mpR tb []) (λk hk=>by subst hk;exact⟨Aj.x.1,s3.nw htb⟩) λ_=>Aj.own;clear hs;have hs:=s4.rf;repeat' first|refine ao ?_;intros|(refine Oy hs ?_;intro bx w X gq aC gg hs bo)
 obtain⟨mW,s5,m5,e5⟩:=(s4.since aC).IL (N:=(· =bx)) 1 (Yl bx (Hf ⟨1,0,0,lb,rb,0,ab,bf,tb⟩ (.pointer none) bf bf) nT) (λk hk=>by subst hk;exact⟨bo.1,s4.nw aQ⟩) λ_=>⟨rfl,bo.2⟩;obtain⟨n0,Ut⟩: ∃n0:bt,n0= { nb:=bx,db:=db,mb:=mb,c:=⟨1,0,0,lb,rb,0,ab,bf,tb⟩,ck:=.zero,ds:=l.foldl iY [],L:=x.L,m:=x.m,al:=[],bl:=[],vm:=bf,va:=bf,rm:=[],ra:=[],ms:=[],cl:=[],A:=λ_=>⟨⟨.zero,bf,.zero,0,bf,false,bf,.zero⟩,bf,[],[],[],[],[],false⟩,C:=λ_=>⟨mJ .zero,bf,bf,[],false⟩,pre:=true } :=⟨_,rfl⟩;have hA: ∀b,¬n0.cU b:=λb h=>by
  rw[Ut] at h;exact h.elim (λ⟨t,e⟩=>by cases e) λe=>by cases e
 have hC: ∀b,b ∉ n0.cl:=λb h=>by rw[Ut] at h;cases h
 replace s5:Sn w0 own w X mW n0:=s5.to λc h0 h4 w K A h=>by
  by_cases hc:c<16
  ·subst Ut;unfold ea;rw[if_pos hc];rcases c with _|_|_|_|_|_|_|_|_|_|_|_|_|c<;>first|exact absurd rfl h0|exact h|exact Own.nil _ _ _ _ _|exact fN.nil _ _|exact λe=>Bool.noConfusion e|(intro t b e;cases e;done)|trivial
  ·unfold ea;rw[if_neg hc];generalize c/8-2=b;generalize c % 8=i;rcases i with _|_|_|_|_|_|_|_|i<;>first|exact λha=>absurd ha (hA _)|exact λha=>absurd ha (hC _)|trivial
 clear hA hC;have hI:OI n0 n0 (0,[]) 0:=by
  rw[Ut];exact⟨rfl,λt b=>by constructor<;>intro h<;>simp[getM] at h,Rest.refl _,λb hb=>absurd hb sQ,aq _,⟨tu _,tu _⟩⟩
 have hx:n0.nb=bx/\n0.c.lb=lb/\n0.db=db/\n0.L=x.L/\n0.m=x.m/\n0.c.id=1/\n0.c.fF=0/\n0.al=[]/\n0.ds=l.foldl iY []:=by rw[Ut];exact⟨rfl,rfl,rfl,rfl,rfl,rfl,rfl,rfl,rfl⟩
 have hy:n0.pre=true/\n0.ex=[]/\n0.vm=bf/\n0.va=bf/\n0.rm=[]/\n0.ra=[]/\n0.ms=[]:=by rw[Ut];exact⟨rfl,rfl,rfl,rfl,rfl,rfl,rfl⟩
 clear Ut bo;obtain⟨x1,x2,x3,x4,x5,x6,x7,x8,x9⟩:=hx;obtain⟨u,tl,LL,hu1⟩:=hL.head;have hLK:=hL.up.LK;have nJ:=hL.next
 have rG:=hL.len;have lg: ∀{w' X' aH n'},Sn w0 own w' X' aH n'->Rest n0 n'->Lg w' (bR aH 3) lb db x.L x.m:=λ{w' X' aH n'} s hr=>by
  have:Lg w' (bR aH 3) n'.c.lb n'.db n'.L n'.m:=s.get 3
  rwa [hr.lb,hr.db,hr.L,hr.m,x2,x3,x4,x5] at this
 have hfx: ∀{FL:XS} {aH:Nat->Nat},(∀k,FL k->bR aH 3 k)-> ∀k,FL k->gB aH k:=λh k hk=>by have:_=3:=h k hk;exact⟨by omega,by omega⟩
 obtain⟨FL,FD,sv,bl,hW⟩:=(lg s5 (Rest.refl _)).lw;refine eT (OG hW.l LL (s5.t.fx (hfx hW.hL))) kQ s5.has λw6 X6 rF=>?_;rw[hu1];have s6:=s5.since rF;refine C8 (λn a b c w X=> ∃(k:Nat) (aH:Nat->Nat) (n':bt) (s:lK),a=I ((1+k:Nat):Int)/\b= .agg #[I 0]/\c= .agg #[ptr bx 0]/\n=rs.length-k/\k<=rs.length/\Sn w0 own w X aH n'/\OI n0 n' s k/\zV s (rs.drop k)=some sf) rs.length
  ⟨0,mW,n0,(0,[]),rfl,rfl,rfl,rfl,au _,s6,hI,jE⟩ ?_
 clear s6 rF s5 hW hI jE hs;rintro n _ _ _ w7 X7 ⟨k,DK,n7,s,rfl,rfl,rfl,rfl,tf,s7,hI,jE⟩;have l8:n7.nb=bx:=hI.rest.nb.trans x1;obtain⟨FL,FD,sv,bl,hW⟩:=(lg s7 hI.rest).lw;refine eT (Er hW.l hLK (s7.t.fx (hfx hW.hL))) kQ s7.has λw8 X8 lr=>?_;rw[nJ];have s8:=s7.since lr;replace hW:=hW.mv (lr.gU (s7.sub 3));clear s7 lr;have hs:=s8.rf;rcases dG rs k with⟨cC,r,hr,hd⟩|⟨dH,hd⟩
 ·rw[hd] at jE;obtain⟨s',pz,jI⟩:=Option.bind_eq_some_iff.1 (show(uX s r).bind (λs'=>zV s' (rs.drop (k+1)))=some sf from jE);have hG:=hL.ok r (aB hr);have asg:=hG.len;have JY:=hG.ps;repeat' refine aN ?_;intros
  refine cA (adm hW.l hLK (hL.has hr) zQ LL zQ (by rw[nJ];omega) (s8.t.fx (hfx hW.hL))) kQ s8.has ?_;rintro _ Fl w9 X9 ⟨vb,rfl,yJ⟩ aqj ahM Ak;have s9:=s8.since Ak;clear hs;have hs:=s9.rf;repeat' refine ao ?_;intros
  refine cA (SK hG.co (yJ.sl.mono ahM) hG.err zQ hG.isb) kQ s9.has ?_;rintro _ aqk OM ON ⟨va,rfl,hva⟩ aoc adJ ac9;obtain⟨Ri,Uu,-,-,p4⟩:=(s9.since ac9).vB (N:=made aqk OM) λq hq=>⟨adJ q hq,s9.nw (ad aoc hq.1)⟩;have hp:Sl OM (bR Ri 4) 1 va (r.parts.map I1):=hva.sl.mono p4;have oa:=hp.one;obtain⟨e1,e2,e3,rfl⟩:=hp.form;clear hs;have hs:=Uu.rf;have ok:=afG hI.bl (hI.rest.id.trans x6) (by rw[hI.abs];exact pz);have qi:=hI.cl;have Rj:=hI.ba;have wS:=YC pz;have e0:s.1=n7.c.ba:=by rw[<-hI.abs];rfl
  repeat' refine aN ?_;intros
  refine gY (Q:=λK=> ∀w X aH n',Sn w0 own w X aH n'->OI n0 n' s' (k+1)->K (B true) w X) ?_ λK hK=>?_
  ·intro Ir Mg Eu n12 Rk aql;clear hs;repeat' refine ao ?_;intros
   exact AV (rs.length-(k+1)) zQ ⟨k+1,Eu,n12,s',congrArg I zQ,rfl,rfl,rfl,by omega,Rk,aql,jI⟩
  ·repeat' refine ao ?_;intros
   rw[<-l8];refine Uu.call (YA (r:=r) Uu.h Uu.x ok hp zQ zQ zQ) kQ λv Ir Mg Eu n12 Rk ⟨hv,hS⟩ _=>?_;subst hv;obtain⟨i1,i2,i3,i4,i5⟩:=YB hI.bl (by rw[hI.abs];exact pz) ok hS hI.cw JY;have e12:s'.1=n12.c.ba:=by rw[<-i1];rfl
   exact hK _ _ Eu n12 Rk ⟨i1,i2,hI.rest.trans i3,i4,by omega,by omega,by omega⟩
 have af:k=rs.length:=by omega
 rw[hd] at jE;obtain rfl:s=sf:=bW jE;have e0:s.1=n7.c.ba:=by rw[<-hI.abs];rfl
 rw[e0] at Ea hke;subst l8;have Rj:=hI.ba;have AQ:n7.c.id=1:=hI.rest.id.trans x6;have hb8:(fZ (mj (n7.c.ba+1))).length<=900:=by
  have:=fz 8;have:=fz (n7.c.ba+1);rw[Re,aa];omega
 have hr8:=s8.v.1;repeat' refine aN ?_;intros
 have eK:jG n7 (mj (n7.c.ba+1))=x.iG 0 (fZ (mj (n7.c.ba+1))):=by
  unfold jG;rw[hI.rest.L,hI.rest.m,x4,x5,hke];rfl
 refine s8.V7 (nb:=n7.nb) (db:=n7.db) (QP:=No n7 (mj (n7.c.ba+1))) (Fy (r:=mj (n7.c.ba+1)) s8.h s8.x (by rw[hI.rest.L,hI.rest.m,x4,x5];exact hL.up) (abJ rfl rfl rfl rfl rfl) (Es rfl rfl rfl) zQ) kQ (λv w9 X9 pK n9 s9 ⟨k1,k2,k3⟩ _=>?_) λwb _ ⟨_,_,_,_,xJ⟩=>by
  have:=xJ.1;rw[eK,Ea] at this;exact absurd this dQ
 subst k2;rw[eK,Ea];have y1:n9.nb=n7.nb/\n9.c=n7.c:=by rw[k3];exact⟨rfl,rfl⟩
 rw[<-y1.1];have ash:0<=n9.c.ba/\n9.c.ba<=k:=by rw[y1.2];exact Rj
 clear hs hr8;have hs:=s9.rf;have QH:=s9.v.1;repeat' refine aN ?_;intros
 refine s9.st (o:=1) 1 (s9.get 1) (ea { n9 with c:= { n9.c with ba:=n9.c.ba+1 } }) zQ kQ (eu rfl) rfl (λ_ _ _ h=>h) nU λOM ON Wd Up m10=>?_;clear hs QH;have hs:=Up.rf;have Yy:=Up.v.1;repeat' refine ao ?_;intros
 obtain⟨n10,ahN⟩: ∃n10:bt,n10= { n9 with c:= { n9.c with ba:=n9.c.ba+1 } } :=⟨_,rfl⟩;rw[<-ahN] at Up Yy;have y2:n10.nb=n9.nb/\n10.c.id=1:=by rw[ahN];exact⟨rfl,by rw[y1.2];exact AQ⟩
 rw[<-y2.1];refine eT (A4 (Y:=ON) Yy (λ_ h=>h) (by rw[y2.2];decide)) kQ Up.has λw11 X11 al5=>?_;rw[y2.2];have Uu:=Up.since al5;refine cA (afI (node:=21) (fl:=.zero) dQ dQ dQ) kQ al5.has ?_;rintro _ aqm Ir Mg ⟨cb,rfl,AH⟩ ajm adK pc;obtain⟨Eu,Rk,m12,e12⟩:=(Uu.since pc).IL (N:=(· =cb)) 7 ⟨λw _ A=>aK w A cb (G9 ⟨0,0,21⟩) IQ/\(⟨0,0,21⟩:bN).may=true,λh _ m=>⟨h.1.mv m,h.2⟩⟩ (λk e=>by subst e;exact⟨adK k AH.1,Uu.nw (ad ajm AH.1.1)⟩) λ_=>⟨⟨rfl,AH.2⟩,by decide⟩;clear hs Yy;have hs:=Rk.rf;have al6:aK Ir (bR Eu 1) n10.nb (Hf n10.c n10.D5 n10.vm n10.va) nT:=Rk.get 1;have hrX:=al6.mono (Rk.sub 1);repeat' refine ao ?_;intros
 refine Rk.st (o:=6) 1 al6 (ea { n10 with c:= { n10.c with cb:=cb },ck:=⟨0,0,21⟩,pre:=false }) zQ kQ (eu rfl) rfl (λ_ _ _ h=>h) (λc hc w K A h=>?_) λw13 X13 aod s13 m13=>?_
 ·by_cases e:c=7
  ·subst e;exact λ_=>h
  ·rw[if_neg e] at h;exact(nU: ∀c,(c≠1/\c≠7)-> ∀w K A,(ea n10 c).p w K A->(ea { n10 with c:= { n10.c with cb:=cb },ck:=⟨0,0,21⟩,pre:=false } c).p w K A) c ⟨hc,e⟩ w K A h
 clear hs hrX;have hs:=s13.rf;repeat' refine ao ?_;intros
 obtain⟨y3,y4,y5,y6,y7,y8,y9⟩:=hy;have ho:=hI.rest.out;refine s13.t.acr λwa aL=>⟨aod,_,s13.e,s13.h.kp s13.x aL,rfl,?_⟩;rw[ahN,k3];refine⟨hI.rest.db.trans x3,?_,hI.bl,AQ,hI.rest.fF.trans x7,hI.rest.al.trans x8,rfl,hI.rest.ds.trans x9,?_,ho.2.2.2.2.trans y9,ho.1.trans y5,ho.2.1.trans y6,ho.2.2.1.trans y7,ho.2.2.2.1.trans y8,hI.cw,by rw[<-af];exact hI.cl,rfl,hI.rest.ex.trans y4⟩
 ·rw[<-hI.abs];rfl
 ·rw[e0,<-eK]
end
section
variable {Y : XS} {own : Nat -> Nat} {n : bt} {nb : Nat} {m : DM}
theorem Vo {a:Value} (h:Hk w X nb) (oa:aG.one a=true):
  Ct pg 29 #[ptr nb 0,I gL,a] w X nX λv _ _=>v= .tuple #[.agg #[I 0,I 0,I 0],.agg #[bf,bf],I 12]:=by
 intro w0 hk;obtain⟨x0,x1,x2,x3,x5,x6,x7,x8,x9,vm,va,bo⟩:=h.mv hk.cu;refine C4 (λg hg=>?_) (λch w hh=>by obtain⟨v,he,_⟩:=hh;cases he) ?_
 ·have e:DL Tryz.f29=some 59:=by kernel_rfl
  rw[e] at hg;cases hg;exact Ou
 unfold tp;refine cz ?_;have hs:=aj.init w0;repeat' refine ao ?_;intros
 exact cG hs λwa aL=>rfl
theorem Vp {g:bZ} {vs vc:Value} (h:Hk w X nb) (hm:g.at w Y vk vs vw vp vr vc vh vd):
  Ct pg 25 #[ptr nb 0,I gL,g.v vk vs vw vp vr vc vh vd] w X nX λv _ _=>v=Wb:=by
 intro w0 hk;obtain⟨x0,x1,x2,x3,x5,x6,x7,x8,x9,vm,va,bo⟩:=h.mv hk.cu;refine Mh (λg hg=>?_) (λch w hh=>by obtain⟨v,he,_⟩:=hh;cases he) ?_
 ·have e:DL Tryz.f25=some 51:=by kernel_rfl
  rw[e] at hg;cases hg;exact Ov
 unfold tv;refine cz ?_;have hs:=aj.init w0;repeat' refine ao ?_;intros
 exact cG hs λwa aL=>rfl
theorem Vq (h:Hk w X nb):Ct pg 16 #[ptr nb 0,I gL] w X nX λv _ _=>v=Wb:=by
 intro w0 hk;obtain⟨x0,x1,x2,x3,x5,x6,x7,x8,x9,vm,va,bo⟩:=h.mv hk.cu;refine Dp.1 λhs=>?_;repeat' refine ao ?_;intros
 exact cG hs λwa aL=>rfl
theorem Vr (h:Hk w X nb):Ct pg 13 #[ptr nb 0] w X nX λv _ _=>v=B true:=by
 intro w0 hk;obtain⟨x0,x1,x2,x3,x5,x6,x7,x8,x9,vm,va,bo⟩:=h.mv hk.cu;refine Dr.1 λhs=>?_;repeat' refine ao ?_;intros
 exact cG hs λwa aL=>rfl
theorem ahO (h:jb w own n) (hX:sK own X):aK w X n.nb (Hf n.c n.D5 n.vm n.va) nT:=(h.gA 1 dQ dQ:aK w (bR own 1) _ _ _).mono λk (e:own k=1)=>hX k zQ
theorem Vs (h:jb w own n) (hX:sK own X):Ct pg 13 #[ptr n.nb 0] w X nX λv _ _=>v=B false:=by
 intro w0 hk;have bo:=(ahO h hX).mv hk.cu;refine Dr.1 λhs=>?_;repeat' refine ao ?_;intros
 exact cG hs λwa aL=>rfl
theorem YE (h:jb w own n) (hX:sK own X):Ct pg 26 #[ptr n.nb 0] w X nX λv _ _=>v=I n.c.ba:=by
 intro w0 hk;have bo:=(ahO h hX).mv hk.cu;have hs:=aj.init w0;refine Mi.1 λ_=>?_;repeat' first|refine ao ?_;intros|(refine qr ?_;intro wa hk;rfl)
theorem GG (h:jb w own n) (hX:sK own X) (hl:n.al.length<=2^40):
  Ct pg 15 #[ptr n.nb 0] w X nX λv wa w'=> ∃ts:List bH,ts.Perm (n.al.map (·.1))/\ts.Pairwise (λa b=>b.less a=false)/\Own w' (made wa w') wa.heap.size tT 3 v (ts.map bH.l):=
 Gw (Y:=X) (ahO h hX) (λ_ h=>h) (lH (h.gA 5 dQ dQ:dK w (bR own 5) nX n.c.ab (λk:bH=>k.v) wT n.al) (hX _ (by rw[show own n.c.ab=5 from(h.gA 5 dQ dQ:dK w (bR own 5) nX n.c.ab (λk:bH=>k.v) wT n.al).x.1];decide))) hl
def DM.lL (m:DM) (n:Int):DM:=if m.dn then m else { m with ar:=n.toNat }
theorem OP {z:Int} (h:jb w own n) (hX:sK own X) (hz:z<2^63):
  Ct pg 14 #[ptr n.db 0,I z] w X (gB own) λv wa w'=>NQ ea own wa w' λ_ n'=>v= .tuple #[]/\n'= { n with m:=n.m.lL z } :=by
 intro wa hk;have ha:=h.kp hX hk;obtain⟨FL,FD,sv,bl,hW⟩:=(ha.gA 3 dQ dQ:Lg wa (bR own 3) n.c.lb n.db n.L n.m).lw;have cC: ∀k,FD k->k<wa.heap.size:=λk af=>ha.lt k (by have:own k=3:=hW.hD k af;omega);refine((Rl hW.d (λk af=>⟨cC k af,cC k af⟩) hz) wa (Kp.refl _ _)).mono ?_;rintro e w' ⟨v,he,hf,hv,hd⟩;have xe:Fr (bR own 3) wa w':=hf.mono hW.hD;exact⟨v,he,xe.mono λk (e:own k=3)=>⟨by omega,by omega⟩,own,_,Cr.refl _ _,ha.one (F':=ea { n with m:=n.m.lL z }) 3 xe.size (λk hk h3=>xe.block k (ha.lt k hk) h3) ⟨FL,FD,sv,bl,hW.dj,hW.hL,hW.hD,hW.l.mv λk hk hl=>⟨hk,hf.block k hl λh=>hW.dj k hk h⟩,hd⟩ nU,hv,rfl⟩
theorem aaZ {z:Int} (h:V6 w own nb db m) (hX:sK own X) (hz:z<2^63) (hd:m.dn=true):
  Ct pg 14 #[ptr db 0,I z] w X (gB own) λv wa w'=>NQ (Uo nb db) own wa w' λ_ m'=>v= .tuple #[]/\m'=m:=by
 intro wa hk;have ha:=h.kp hX hk;refine((Rl (ha.gA 3 dQ dQ:Dk wa (bR own 3) db m) (λk (e:own k=3)=>⟨ha.lt k zQ,ha.lt k zQ⟩) hz) wa (Kp.refl _ _)).mono ?_;rintro e w' ⟨v,he,hf,hv,hdk⟩;rw[if_pos hd] at hdk;exact⟨v,he,hf.mono λk (e:own k=3)=>⟨by omega,by omega⟩,own,m,Cr.refl _ _,ha.one 3 hf.size (λk hk h3=>hf.block k (ha.lt k hk) h3) hdk λ_ _ _ _ _ h=>h,hv,rfl⟩
theorem _root_.Go.aG.St.kst (s:Sn w0 bM w X own n):St w0 bM w X own (Un n.db n.m):=s.to λc h0 h4 w K A h=>by
 rcases c with _|_|_|_|c<;>first|exact Lg.dk h|trivial
theorem _root_.Go.aG.St.aqn (s:St w0 bM w X own (Uo nb db m)):St w0 bM w X own (Un db m):=s.to λc h0 h4 w K A h=>by
 rcases c with _|_|_|_|c<;>first|exact h|trivial
theorem _root_.Go.aG.St.mI {vq:Value} {cH:List Int} {N:Value->World->XS->Prop} (s:St w0 bM w X own (Un db m)) (hq:Sl w (bR own 4) 1 vq (cH.map I1)) (hn: ∀x∈m.fs,x.1.size<=2^40) (hl:m.fs.length<=2^40)
  (k: ∀w' X' aH,St w0 bM w' X' aH (Un db (m.mI cH))->N (.tuple #[]) w' X'):eC pg R X w true 38 #[ptr db 0,vq] N:=
 yV (XR (s.get 3:Dk w (bR own 3) db m) (s.fxc 3) hq (λk (e:own k=4)=>⟨s.x k zQ,λh:own k=3=>by omega⟩) hn hl) kQ s.has (s.sub 3) λv wa w' X' ⟨hv,hd⟩ _ _ _ c=>by
  subst hv;obtain⟨aH,s',_⟩:=s.DI (F':=Un db (m.mI cH)) 3 c (λ_ e=>e) (bR own 3) (λ_ e=>.inl e) (λ_ _=>hd) λc hc w K A h=>by rcases c with _|_|_|_|c<;>first|exact h|exact absurd rfl hc
  exact k w' X' aH s'
theorem _root_.Go.aG.St.ajn {P:Program} {f:FuncId} {args:Array Value} {N:Value->World->XS->Prop} {Q:Value->World->(Nat->Nat)->bt->Prop} {dv:Value} {QP:DM->Prop} (s:Sn w0 bM w X own n) (h:Ct P f args w X (gB own) λv wa w'=>NQ ea own wa w' (Q v w')\/(v=dv/\DQ own nb db wa w' QP)) (hf:enters P f=true)
  (k: ∀v w' X' aH n',Sn w0 bM w' X' aH n'->Q v w' aH n'->Mv (bR own 4) w (bR aH 4) w'->N v w' X') (kd: ∀w' X' aH m',St w0 bM w' X' aH (Uo nb db m')->QP m'->N dv w' X'):eC P R X w true f args N:=
 s.t.call h hf (λ_ h=>h) λv wa w' X' hq hle gy _ c=>by
  rcases hq with⟨aH,n',e,h',q⟩|⟨rfl,aH,m',e,h',q⟩
  ·exact k v w' X' aH n' (s.Yj hle gy c e h').1 q (s.Yj hle gy c e h').2
  ·exact kd w' X' aH m' (s.Yj (ea:=Uo nb db) hle gy c e h').1 q
end
structure pP (B c n:Nat) (x:LD):Prop where
 ok:lx x.m
 ne:x.L.bu≠[]
 d1:1<=x.L.dir.size
 d2:x.L.dir.size<=11
 r1:1<=x.L.room
 r2:x.L.room<=2^40
 keys: ∀k∈x.m.ks,∃f∈x.L.bu.map (·.first),k=bL x.L.dir f
 last:x.L.ff∈x.m.ks
 pw:(x.L.bu.map (·.first)).Pairwise (· < ·)
 emp:x.L.last.bp=[]->x.L.last.size=0
 pos: ∀s∈x.L.bu,1<=s.first/\s.first<=1+c/\s.first+s.bp.length<=1+c/\s.size<=B*c
 EV:x.L.next=1+c
 sz:x.m.sz<=B*c
 len:x.L.bu.length<=n
 fF:x.m.ks.length<=64
variable {c n : Nat}
theorem pP.LK {B:Nat} {x:LD} (h:pP B c n x) (hb:B*c<=2^30) (hc:c<=2^30):pM x.L:=
 ⟨h.ne,h.d1,h.d2,λs hs=>by have:=h.pos s hs;omega,h.r2⟩
structure Alike (x y:LD):Prop where
 bu:y.L.bu=x.L.bu
 dir:y.L.dir=x.L.dir
 room:y.L.room=x.L.room
 ks:y.m.ks=x.m.ks
 sz:y.m.sz=x.m.sz
 ok:lx y.m
theorem Alike.refl {x:LD} (h:lx x.m):Alike x x:=⟨rfl,rfl,rfl,rfl,rfl,h⟩
variable {y : LD}
theorem Alike.trans {x z:LD} (h:Alike x y) (k:Alike y z):Alike x z:=⟨k.bu.trans h.bu,k.dir.trans h.dir,k.room.trans h.room,k.ks.trans h.ks,k.sz.trans h.sz,k.ok⟩
theorem Alike.last {x:LD} (h:Alike x y):y.L.last=x.L.last:=by unfold LM.last;rw[h.bu]
theorem Alike.ff {x:LD} (h:Alike x y):y.L.ff=x.L.ff:=by unfold LM.ff;rw[h.last,h.dir]
theorem Alike.next {x:LD} (h:Alike x y):y.L.next=x.L.next:=by unfold LM.next;rw[h.last]
theorem Alike.inv {B:Nat} {x:LD} (h:Alike x y) (k:pP B c n x):pP B c n y:=by
 refine⟨h.ok,by rw[h.bu];exact k.ne,by rw[h.dir];exact k.d1,by rw[h.dir];exact k.d2,by rw[h.room];exact k.r1,by rw[h.room];exact k.r2,?_,?_,by rw[h.bu];exact k.pw,?_,?_,?_,?_,?_,by rw[h.ks];exact k.fF⟩
 ·rw[h.ks,h.bu,h.dir];exact k.keys
 ·rw[h.ks,h.ff];exact k.last
 ·rw[h.last];exact k.emp
 ·rw[h.bu];exact k.pos
 ·rw[h.next];exact k.EV
 ·rw[h.sz];exact k.sz
 ·rw[h.bu];exact k.len
theorem pP.sync {B:Nat} {x:LD} (h:pP B c n x):x.sync.2=0/\Alike x x.sync.1:=by
 obtain⟨h1,h2,h3,h4⟩:=h.ok.sync h.last;unfold LD.sync;dsimp only;rw[if_pos h1];exact⟨h1,⟨rfl,rfl,rfl,h3,h4,h2⟩⟩
def Full (x:LD):Prop:=64<=x.m.ks.length/\x.L.room<=x.L.last.size
theorem Alike.full {x:LD} (h:Alike x y) (k:Full x):Full y:=by unfold Full;rw[h.ks,h.room,h.last];exact k
variable {f : Nat}
theorem pP.le_last {B:Nat} {x:LD} (h:pP B c n x) (hf:f∈x.L.bu.map (·.first)):f<=x.L.last.first:=by
 have h1:=h.pw;rw[LM.SN h.ne,aJ] at h1 hf;obtain⟨_,_,h2⟩:=List.pairwise_append.1 h1;rcases List.mem_append.1 hf with hf|hf
 ·exact Nat.le_of_lt (h2 f hf _ sQ)
 ·simp at hf;omega
theorem pP.le_next {B:Nat} {x:LD} (h:pP B c n x) (hf:f∈x.L.bu.map (·.first)):f<=1+c:=by
 obtain⟨s,hs,rfl⟩:=List.mem_map.1 hf;exact(h.pos s hs).2.1
theorem pP.iI {B:Nat} {x:LD} (h:pP B c n x) (hr:x.L.last.bp≠[]) (nW:c+2<99999999):
  (64<=x.m.ks.length/\x.iI x.L.next=(x,3))\/(x.m.ks.length<64/\(x.iI x.L.next).2=0/\pP B c (n+1) (x.iI x.L.next).1):=by
 have hl:1<=x.L.last.bp.length:=by
  cases hq:x.L.last.bp with
  |nil=>grind
  |cons a b=>simp
 have nJ:=h.EV;have Hm: ¬bL x.L.dir x.L.next∈x.m.ks:=λhk=>by
  obtain⟨f,hf,e⟩:=h.keys _ hk;have h1:=h.le_last hf;have h2:=h.le_next hf;have:=LN zQ zQ e;unfold LM.next at this;omega
 have zn:vZ (bL x.L.dir x.L.next)=true:=by
  have:=h.d1;have:=h.d2;simp only[vZ,A2,decide_eq_true_eq];omega
 rw[x.m.vY];rcases h.ok.create zn Hm with⟨h1,h2⟩|⟨h1,h2,h3,h4,h5⟩
 ·left;refine⟨h1,?_⟩;unfold LD.iI;rw[h2];rfl
 ·right;refine⟨h1,?_⟩;have We:(⟨x.L.dir,x.L.room,x.L.bu++[⟨x.L.next,[],0⟩],x.L.safe⟩:LM).last=⟨x.L.next,[],0⟩:=by simp[LM.last]
  unfold LD.iI;dsimp only;rw[if_pos h2];refine⟨h2,⟨h3,by simp,h.d1,h.d2,h.r1,h.r2,?_,?_,?_,?_,?_,?_,?_,?_,by dsimp only;rw[h4,aa,x.m.vY];simp;omega⟩⟩
  ·rw[h4];intro k hk;rcases List.mem_append.1 hk with hk|hk
   ·obtain⟨f,hf,e⟩:=h.keys k hk
    grind
   ·simp at hk;exact⟨x.L.next,by simp,hk⟩
  ·grind [LM.ff]
  ·rw[aJ];refine List.pairwise_append.2 ⟨h.pw,by simp,λa ha b hb=>?_⟩;simp at hb;subst hb;have:=h.le_last ha;unfold LM.next;omega
  ·grind
  ·intro s hs;rcases List.mem_append.1 hs with hs|hs
   ·exact h.pos s hs
   simp_all
  ·show(⟨x.L.dir,x.L.room,x.L.bu++[⟨x.L.next,[],0⟩],x.L.safe⟩:LM).last.first+(⟨x.L.dir,x.L.room,x.L.bu++[⟨x.L.next,[],0⟩],x.L.safe⟩:LM).last.bp.length=1+c
   grind
  ·rw[h5];exact h.sz
  ·simp;exact h.len
variable {p : List Nat}
theorem pP.lay {B:Nat} {x:LD} (h:pP B c n x) (hp:p.length+12<=B) (hc:B*(c+1)<=4194304):(x.lay p).2=0/\pP B (c+1) n (x.lay p).1:=by
 have hB:B*(c+1)=B*c+B:=Nat.mul_succ B c;have iR:(dt p).length=p.length+12:=by simp[dt,uA]
 have gd:=h.sz;obtain⟨h1,h2,h3,h4⟩:=h.ok.append (b:=dt p) h.last zQ;have hlm:=LM.xL h.ne;have hle:=LM.SN h.ne;obtain⟨p1,p2,p3,p4⟩:=h.pos _ hlm;have We:(x.L.add p).last=⟨x.L.last.first,x.L.last.bp++[p],x.L.last.size+(dt p).length⟩:=by simp[LM.last,LM.add]
 have Uv:(x.L.add p).bu.map (·.first)=x.L.bu.map (·.first):=by
  conv=>rhs;rw[hle]
  simp[LM.add]
 unfold LD.lay;dsimp only;rw[if_pos h1];refine⟨h1,⟨h2,by simp[LM.add],h.d1,h.d2,h.r1,h.r2,?_,?_,?_,?_,?_,?_,?_,?_,by dsimp only;rw[h3];exact h.fF⟩⟩
 ·dsimp only;rw[h3,Uv];exact h.keys
 ·dsimp only;rw[h3];unfold LM.ff;rw[We];exact h.last
 ·dsimp only;rw[Uv];exact h.pw
 ·dsimp only;rw[We];intro e;simp at e
 ·dsimp only;intro s hs;rcases List.mem_append.1 hs with hs|hs
  ·have:=h.pos s gQ;omega
  ·simp only[aw] at hs;subst hs;simp only[aa,aM,bz,iR];omega
 ·have:=h.EV;dsimp only;unfold LM.next at this⊢;rw[We];simp;omega
 ·dsimp only;omega
 ·have:=h.len;rw[hle] at this;simpa [LM.add] using this
theorem pP.more {B n':Nat} {x:LD} (h:pP B c n x) (hn:n<=n'):pP B c n' x:= { h with len:=ad h.len hn }
theorem pP.bp {B:Nat} {x:LD} (h:pP B c n x) (hr:x.L.room<=x.L.last.size):x.L.last.bp≠[]:=λe=>by
 have:=h.emp e;have:=h.r1;omega
theorem pP.append {B:Nat} {x:LD} (h:pP B c n x) (hp:p.length+12<=B) (hB:B<=262144) (hc:B*(c+1)<=4194304) (nW:c+2<99999999):
  ((x.append p).2.2=0/\(x.append p).2.1=1+c/\pP B (c+1) (n+1) (x.append p).1)\/((x.append p).2.2=3/\Full x/\Alike x (x.append p).1):=by
 have nJ:=h.EV;unfold LD.append;rw[if_neg zQ,if_neg zQ];dsimp only;unfold LD.room;by_cases hr:x.L.room<=x.L.last.size
 ·rw[if_pos hr];obtain⟨h1,h2⟩:=h.sync;dsimp only;rw[if_neg (show¬x.sync.2≠0 from by omega)];have hi:=h2.inv h;rw[<-h2.next];rcases hi.iI (hi.bp (by rw[h2.room,h2.last];exact hr)) nW with⟨g1,g2⟩|⟨g1,g2,g3⟩
  ·right;rw[g2];dsimp only;rw[if_pos sQ];exact⟨rfl,⟨by rw[<-h2.ks];exact g1,hr⟩,h2⟩
  ·left;rw[if_neg zQ];obtain⟨k1,k2⟩:=g3.lay hp hc;rw[if_neg zQ];exact⟨rfl,by rw[h2.next];omega,k2⟩
 ·left;rw[if_neg hr];dsimp only;rw[if_neg sQ];obtain⟨k1,k2⟩:=h.lay hp hc;rw[if_neg zQ];exact⟨rfl,nJ,k2.more zQ⟩
theorem pP.full {B:Nat} {x:LD} (h:pP B c n x) (hf:Full x) (hp:p.length<=262144) (nW:c+2<99999999):(x.append p).2.2=3/\Alike x (x.append p).1:=by
 have nJ:=h.EV;unfold LD.append;rw[if_neg zQ,if_neg zQ];dsimp only;unfold LD.room;rw[if_pos hf.2];obtain⟨h1,h2⟩:=h.sync;dsimp only;rw[if_neg (show¬x.sync.2≠0 from by omega)];have hi:=h2.inv h;rw[<-h2.next];rcases hi.iI (hi.bp (by rw[h2.room,h2.last];exact hf.2)) nW with⟨g1,g2⟩|⟨g1,g2,g3⟩
 ·grind
 ·have:=hf.1;rw[h2.ks] at g1;omega
theorem lx.afJ {m:DM} (h:lx m) {e:Nat} (he:e≠12) {f:DM->DM} (hf: ∀m,lx m->lx (f m)):(m.write e f).2≠12/\lx (m.write e f).1:=by
 by_cases h0:e=0
 ·subst h0;rw[h.write];exact⟨by simp,hf _ h.tick⟩
 ·rw[h.afw h0];grind
theorem lx.aj5 {m:DM} (h:lx m) (n:ByteArray):(m.create n).2≠12/\lx (m.create n).1:=by
 unfold DM.create;refine h.afJ ?_ λm hm=>⟨hm.ar,hm.dn⟩
 grind
theorem lx.aoe {m:DM} (h:lx m) (n:ByteArray):(m.sync n).2≠12/\lx (m.sync n).1:=by
 unfold DM.sync;refine h.afJ gQ λm hm=>?_;unfold DM.kB;split
 ·exact hm
 ·exact⟨hm.ar,hm.dn⟩
theorem lx.aj6 {m:DM} (h:lx m) (n:ByteArray) (b:List Nat):(m.append n b).2≠12/\lx (m.append n b).1:=by
 unfold DM.append;rw[if_neg (by rw[h.dn];simp)];split
 ·grind
 ·split
  ·exact⟨by simp,h⟩
  ·refine⟨?_,⟨h.tick.ar,h.tick.dn⟩⟩;dsimp only;rw[if_neg (by rw[h.tick.dn];simp)]
   decide
structure GL (n:Nat) (x:LD):Prop where
 ok:lx x.m
 ne:x.L.bu≠[]
 d1:1<=x.L.dir.size
 d2:x.L.dir.size<=11
 yM: ∀s∈x.L.bu,s.first+s.bp.length<=n/\s.size<=n*300000
 room:x.L.room<=2^40
 len:x.L.bu.length<=n
theorem GL.up {n':Nat} {x:LD} (h:GL n x) (hn:n<=n'):GL n' x:=
 ⟨h.ok,h.ne,h.d1,h.d2,λs hs=>by have:=h.yM s hs;omega,h.room,ad h.len hn⟩
theorem GL.LK {x:LD} (h:GL n x) (hn:n<=1000):pM x.L:=
 ⟨h.ne,h.d1,h.d2,λs hs=>by have:=h.yM s hs;omega,h.room⟩
theorem GL.sync {x:LD} (h:GL n x):x.sync.2≠12/\GL n x.sync.1:=by
 obtain⟨h1,h2⟩:=h.ok.aoe x.L.ff;unfold LD.sync;dsimp only;refine⟨h1,?_⟩;split
 ·exact⟨h2,h.ne,h.d1,h.d2,h.yM,h.room,h.len⟩
 ·exact⟨h2,h.ne,h.d1,h.d2,h.yM,h.room,h.len⟩
theorem GL.iI {x:LD} (h:GL n x):(x.iI x.L.next).2≠12/\GL (n+1) (x.iI x.L.next).1:=by
 obtain⟨h1,h2⟩:=h.ok.aj5 (bL x.L.dir x.L.next);have hu:=h.up (n':=n+1) zQ;unfold LD.iI;dsimp only;refine⟨h1,?_⟩;split
 ·refine⟨h2,by simp,h.d1,h.d2,λs hs=>?_,h.room,by simp;exact h.len⟩;rcases List.mem_append.1 hs with hs|hs
  ·exact hu.yM s hs
  ·simp only[aw] at hs;subst hs;have:=(h.yM _ (LM.xL h.ne)).1;have e:x.L.next=x.L.last.first+x.L.last.bp.length:=rfl
   grind
 ·exact⟨h2,hu.ne,hu.d1,hu.d2,hu.yM,hu.room,hu.len⟩
theorem GL.adt {x:LD} (h:GL n x):x.room.2≠12/\GL (n+1) x.room.1:=by
 unfold LD.room;split
 ·dsimp only;obtain⟨h1,h2⟩:=h.sync;split
  ·exact⟨h1,h2.up zQ⟩
  ·have e:x.sync.1.L.next=x.L.next:=by unfold LM.next LM.last;rw[LD.Uw]
   rw[<-e];exact h2.iI
 ·exact⟨by simp,h.up zQ⟩
theorem GL.lay {x:LD} (h:GL n x) (hp:p.length<=262144):(x.lay p).2≠12/\GL (n+1) (x.lay p).1:=by
 obtain⟨h1,h2⟩:=h.ok.aj6 x.L.ff (dt p);have hu:=h.up (n':=n+1) zQ;have iR:=rn p;unfold LD.lay;dsimp only;refine⟨h1,?_⟩;split
 ·have hle:=LM.SN h.ne;have hlm:=h.yM _ (LM.xL h.ne);refine⟨h2,by simp[LM.add],h.d1,h.d2,λs hs=>?_,h.room,?_⟩
  ·rcases List.mem_append.1 hs with hs|hs
   ·exact hu.yM s gQ
   ·simp only[aw] at hs;subst hs;simp only[aa,aM,bz];omega
  ·have:=hu.len;rw[hle] at this;simp only[LM.add,aa,aM,bz] at this⊢;omega
 ·exact⟨h2,hu.ne,hu.d1,hu.d2,hu.yM,hu.room,hu.len⟩
theorem GL.append {x:LD} (h:GL n x) (p:List Nat):(x.append p).2.2≠12/\GL (n+2) (x.append p).1:=by
 unfold LD.append;split
 ·exact⟨by simp,h.up zQ⟩
 ·split
  ·exact⟨by simp,h.up zQ⟩
  ·obtain⟨h1,h2⟩:=h.adt;dsimp only;split
   ·exact⟨h1,h2.up zQ⟩
   ·obtain⟨h3,h4⟩:=h2.lay (p:=p) zQ
    grind
theorem GL.iG {x:LD} (h:GL n x) (p:List Nat):(x.iG 0 p).2.2≠12/\GL (n+2) (x.iG 0 p).1:=by
 obtain⟨h1,h2⟩:=h.append p;unfold LD.iG;rw[if_neg sQ];dsimp only;split
 ·grind
 ·exact h2.sync
structure sD (k:Nat) (l:List dO) (s1:lK):Prop where
 fst:oN l=some 1
 rs: ∃rs,fA l=rs.map fZ/\(∀r∈rs,Us r)/\rs.length<=k/\zV (0,[]) rs=some s1
 full: ∀t∈l.dropLast,4096<=t.size
def yw (k:Nat) (P:lK->Prop) (m:DM):Prop:=Ye pe (λl=> ∃s1,P s1/\sD k l s1) m
def wD (x:LD) (k:Nat) (s1:lK):Prop:= ∃pre sg,oY x pre sg/\sD k (pre++[sg]) s1/\x.L.dir=pe/\x.L.room=4096
variable {k' : Nat}
theorem sD.up {l:List dO} (h:sD k l s1) (hk:k<=k'):sD k' l s1:=
 ⟨h.fst,let⟨rs,a,b,c,d⟩:=h.rs;⟨rs,a,b,by omega,d⟩,h.full⟩
variable {P : lK -> Prop}
theorem yw.imp {P':lK->Prop} {m:DM} (h:yw k P m) (hk:k<=k') (hp: ∀s,P s->P' s):yw k' P' m:=
 Ye.imp h λ_ _ ⟨s1,a,b⟩=>⟨s1,hp _ a,b.up hk⟩
theorem wD.crs {x:LD} (h:wD x k s1):yw k (· =s1) x.m:=by
 obtain⟨pre,sg,h1,h2,h3,h4⟩:=h;have hd:=h1.d;rw[h3] at hd;exact(Yf hd h1.g h1.fl).imp λl s e=>by grind
theorem wD.up {x:LD} (h:wD x k s1) (hk:k<=k'):wD x k' s1:=let⟨pre,sg,h1,h2,h3,h4⟩:=h;⟨pre,sg,h1,h2.up hk,h3,h4⟩
variable {l' : List dO}
theorem sD.snoc {l:List dO} (h:sD k l s1) (hr:Us r) (hs:uX s1 r=some s2) (e1:oN l'=oN l) (e2:fA l'=fA l++[fZ r]) (hf: ∀t∈l'.dropLast,4096<=t.size):sD (k+1) l' s2:=by
 obtain⟨rs,a,b,c,d⟩:=h.rs;refine⟨e1.trans h.fst,⟨rs++[r],by grind,λq hq=>?_,by simp;omega,afF d hs⟩,hf⟩
 grind
theorem sD.same {l:List dO} (h:sD k l s1) (e1:oN l'=oN l) (e2:fA l'=fA l) (hf: ∀t∈l'.dropLast,4096<=t.size):sD k l' s1:=
 let⟨rs,a,b,c,d⟩:=h.rs
 ⟨e1.trans h.fst,⟨rs,e2.trans a,b,c,d⟩,hf⟩
theorem DM.aof {m:DM} (hn:m.ks.Nodup):m.sz=(m.ks.map λk=>(m.bytes k).length).sum:=by
 unfold DM.sz uv DM.ks;rw[bB];refine congrArg List.sum (ey λx hx=>?_);have e:m.get x.1=some x.2:=pC hn hx
 grind [DM.bytes]
variable {sf : Nat} {lJ : List Nat} {dir : ByteArray}
theorem pA.sz {m:DM} (h:pA dir pre s lJ sf m):m.sz=(pre.map λt=>(flat t.bp).length).sum+(flat s.bp++lJ).length:=by
 rw[DM.aof h.nd,(h.ks.map _).sum_nat,bB,aJ,B4];have e1:pre.map ((λk=>(m.bytes k).length)∘λs=>bL dir s.first)=pre.map λt=>(flat t.bp).length:=ey λt ht=>by
  show(m.bytes (bL dir t.first)).length=_
  rw[vF (h.body t ht)]
 rw[e1];simp only[bD,lu,Function.comp,List.sum_cons,List.sum_nil,Nat.add_zero];rw[vF h.last]
theorem abM: ∀{l:List (List Nat)},(∀p∈l,p.length<=900)->(flat l).length<=912*l.length
 |[],_=>by simp[flat]
 |p::l,h=>by
  have h1:=abM (l:=l) λq hq=>h q (bQ _ hq);have h2:=h p sQ;have h3:=rn p;have e:flat (p::l)=dt p++flat l:=by simp[flat]
  grind
theorem YG: ∀{l:List dO},(∀p∈fA l,p.length<=900)->(l.map λt=>(flat t.bp).length).sum<=912*(fA l).length
 |[],_=>by grind
 |t::l,h=>by
  have e:fA (t::l)=t.bp++fA l:=by simp[fA]
  rw[e] at h⊢;have h1:=YG (l:=l) λq hq=>h q (List.mem_append_right _ hq);have h2:=abM (l:=t.bp) λq hq=>h q (List.mem_append_left _ hq)
  grind
theorem abN: ∀{l:List dO},(∀t∈l,4096<=(flat t.bp).length)->4096*l.length<=(l.map λt=>(flat t.bp).length).sum
 |[],_=>by simp
 |t::l,h=>by
  have h1:=abN (l:=l) λq hq=>h q (bQ _ hq)
  grind
theorem sD.lens {l:List dO} (h:sD k l s1):(∀p∈fA l,p.length<=900)/\(fA l).length<=k:=by
 obtain⟨rs,a,b,c,d⟩:=h.rs;rw[a];refine⟨λp hp=>?_,by grind⟩;obtain⟨r,hr,rfl⟩:=List.mem_map.1 hp;exact(b r hr).len
theorem sD.size {m:DM} (h:sD k (pre++[s]) s1) (hg:Good (pre++[s])) (hd:pA dir pre s lJ sf m):m.sz<=912*k+lJ.length/\4096*pre.length<=912*k/\m.fs.length=pre.length+1:=by
 obtain⟨h1,h2⟩:=h.lens;have h3:=YG h1;have h4:=hd.sz;have hf: ∀t∈pre,4096<=(flat t.bp).length:=λt ht=>by
  have:=h.full t gQ
  rwa [(hg.ok t (by simp[ht])).sz] at this
 have h5:=abN hf;rw[aJ,B4] at h3;simp only[bD,lu,List.sum_cons,List.sum_nil,Nat.add_zero] at h3;rw[aa] at h4;have h6:=hd.ks.length_eq;rw[DM.vY,ai,aa,List.length_singleton] at h6;exact⟨by omega,by omega,h6⟩
theorem sD.next (h:sD k (pre++[s]) s1) (hg:Good (pre++[s])):s.first+s.bp.length<=1+k:=by
 have:=gC.count hg.lk h.fst;have:=h.lens.2;omega
theorem wD.iG {x:LD} (h:wD x k s1) (hr:Us r) (hs:uX s1 r=some s2) (hk:k<=200):
  ((x.iG 0 (fZ r)).2.2=12/\(x.iG 0 (fZ r)).1.m.dn=true/\yw (k+1) (λs=>s=s1\/s=s2) (x.iG 0 (fZ r)).1.m)\/
  ((x.iG 0 (fZ r)).2.2=0/\wD (x.iG 0 (fZ r)).1 (k+1) s2):=by
 obtain⟨pre,sg,h1,h2,h3,h4⟩:=h;have iR: ∀t∈pre,4096<=t.size:=by have:=h2.full;rwa [jN] at this
 rcases h1.iG (by have:=hr.len;omega) hr.isb with⟨e,hf⟩|⟨e,dB,pd,s',hk,hrr,hsh⟩|⟨e1,e2,⟨pd,s',hk,hrr⟩,hw⟩
 ·left;rw[h3] at hf;refine⟨e,hf.1,hf.2.imp λl s ⟨q1,q2,q3⟩=>?_⟩;have q3:=q3 gQ;rcases q2 with q2|q2
  ·exact⟨s1,.inl rfl,(h2.same q1 q2 (by rw[h4] at q3;exact q3)).up (dc _)⟩
  ·exact⟨s2,.inr rfl,h2.snoc hr hs q1 q2 (by rw[h4] at q3;exact q3)⟩
 ·right;refine⟨e,pd,s',hk.up,h2.snoc hr hs hk.fst hrr ?_,hk.dir.trans h3,hk.room.trans h4⟩;rw[jN];rcases hsh with⟨rfl,_,_⟩|⟨rfl,_,q⟩
  ·omega
  grind
 ·exfalso;obtain⟨q1,q2,q3⟩:=h2.size h1.g h1.d;have q4:=h2.next h1.g
  have q5:=h1.next
  have q6:=hr.len;have q7:=rn (fZ r);simp only[bz] at q1;rcases hw with hw|hw|hw<;>omega
theorem YH: ∀(k u:Nat),u<=k->xc (qB u)
 |0,u,h=>by
  have:u=0:=by omega
  subst this;intro x hx;unfold qB at hx;simp at hx;omega
 |k+1,u,h=>by
  intro x hx;unfold qB at hx;split at hx
  ·simp at hx;omega
  ·rcases List.mem_cons.1 hx with rfl|hx
   ·omega
   ·exact YH k (u/128) zQ x hx
theorem xQ (n:Int):xc (encI n):=YH _ _ (aq _)
theorem gC.top: ∀{l:List dO} {f:Nat},gC l->oN l=some f-> ∀t∈l,t.first+t.bp.length<=f+(fA l).length
 |[],_,_,h,_,_=>by cases h
 |[a],f,_,hf,t,ht=>by
  have h2:a.first=f:=bW hf
  rw[aw] at ht;grind [fA]
 |a::b::l,f,h,hf,t,ht=>by
  have h1:b.first=a.first+a.bp.length:=h.1
  have h2:a.first=f:=bW hf
  have e:fA (a::b::l)=a.bp++fA (b::l):=by simp[fA]
  rw[e,aa];rcases List.mem_cons.1 ht with rfl|ht
  ·omega
  ·have:=gC.top (l:=b::l) (f:=b.first) h.2.2 rfl t ht;omega
theorem YI {n:Int} (h1:1<=n) (h2:n<=2^40):Us (mj n)/\(mj n).fB=0:=by
 have e1:=fz 8;have e2:=fz n;have e4:(mj n).err=0:=by
  simp[Rec.err,mj,Rec.strip,Rec.isZero,Rec.qw,State.isZero,State.zero,h1]
 have e5:(fZ (mj n)).length<=900:=by rw[Re,aa];omega
 refine⟨⟨.FB n (by unfold uU;omega),e4,e5,λb hb=>?_,by simp[mj]⟩,?_⟩
 ·rw[Re] at hb;rcases List.mem_append.1 hb with hb|hb
  ·exact xQ _ b hb
  ·exact xQ _ b hb
 ·unfold Rec.fB;omega
theorem Ux: ∀{l:List Rec} {s s':lK},zV s l=some s'->s.1<=s'.1/\s'.1<=s.1+l.length
 |[],s,s',h=>by
  obtain rfl:=bW h;simp
 |r::l,s,s',h=>by
  obtain⟨x,h1,h2⟩:=Option.bind_eq_some_iff.1 (show(uX s r).bind (λs'=>zV s' l)=some s' from h);have h3:=YC h1;have h4:=Ux h2
  grind
theorem YJ (s:lK):uX s (mj (s.1+1))=some (s.1+1,s.2):=by
 unfold uX;rw[if_pos (show(mj (s.1+1)).kind=8 from rfl),if_pos (show(mj (s.1+1)).n=s.1+1 from rfl)]
structure adL (m:DM) (k:Nat) (s1:lK) (x:LD) (pre:List dO) (sg:dO) (rs:List Rec):Prop where
 B1:LD.B1 pe 4096 m=(x,0)
 log:Mf x pre sg rs
 len:rs.length<=k
 uX:zV (0,[]) rs=some s1
 ba:0<=s1.1/\s1.1<=k
 err:(mj (s1.1+1)).fB=0
 kp:(x.iG 0 (fZ (mj (s1.1+1)))).2.2=0
 up:wD (x.iG 0 (fZ (mj (s1.1+1)))).1 (k+1) (s1.1+1,s1.2)
theorem FB {m:DM} (h:yw k P m) (hk:k<=200) (cH:List Int) (gd:(m.mI cH).sz<=4194304): ∃s1 x pre sg rs,P s1/\adL (m.mI cH) k s1 x pre sg rs:=by
 obtain⟨pre,s,lJ,sf,⟨s1,hP,hr⟩,hg,ht,hbt,hd⟩:=h.2 cH;have h0:(m.mI cH).ar=0:=rfl;have jz:(m.mI cH).dn=false:=rfl;obtain⟨m',e,h1,h2,h3⟩:=alH (room:=4096) hd hg ht h0 jz;obtain⟨q1,q2,q3⟩:=hr.size hg h1;simp only[bz] at q1;have jF:oY ⟨⟨pe,4096,pre++[s],(s.first+s.bp.length:Nat)-1⟩,m'⟩ pre s:=
  ⟨rfl,hg,h1,h3,by grind,by grind,(show 1<=pe.size from by decide),(show pe.size<=11 from by decide),(show 64<=4096 from by decide),(show 4096<=262144 from by decide)⟩
 have hlu:wD ⟨⟨pe,4096,pre++[s],(s.first+s.bp.length:Nat)-1⟩,m'⟩ k s1:=⟨pre,s,jF,hr,rfl,rfl⟩;obtain⟨rs,a,b,c,d⟩:=hr.rs;have hl:=Ux d;have B0:0<=s1.1/\s1.1<=k:=by have:(0:Int)<=s1.1:=hl.1;have:s1.1<=(0:Int)+rs.length:=hl.2;omega
 obtain⟨cg,ce⟩:=YI (n:=s1.1+1) zQ zQ;have gW:GL 300 ⟨⟨pe,4096,pre++[s],(s.first+s.bp.length:Nat)-1⟩,m'⟩:=by
  have hB:=jF.adu;have hN:=jF.adv;refine⟨⟨h2,h3⟩,by simp,jF.d1,jF.d2,λt ht=>⟨?_,?_⟩,(show(4096:Nat)<=2^40 from by decide),by omega⟩
  ·have:=gC.top hg.lk hr.fst t ht;have:=hr.lens.2;omega
  ·have:=(hB t ht).2;omega
 have Ea:(LD.iG ⟨⟨pe,4096,pre++[s],(s.first+s.bp.length:Nat)-1⟩,m'⟩ 0 (fZ (mj (s1.1+1)))).2.2=0/\wD (LD.iG ⟨⟨pe,4096,pre++[s],(s.first+s.bp.length:Nat)-1⟩,m'⟩ 0 (fZ (mj (s1.1+1)))).1 (k+1) (s1.1+1,s1.2):=by
  rcases hlu.iG cg (YJ s1) hk with⟨e,_⟩|h
  ·exact absurd e (gW.iG _).1
  ·exact h
 refine⟨s1,_,pre,s,rs,hP,e,⟨jF,hr.fst,a,b,by omega⟩,c,d,B0,ce,Ea.1,Ea.2⟩
theorem ajo: ∃x,adL ⟨[],0,0,false⟩ 0 (0,[]) x [] ⟨1,[],0⟩ []/\lx (x.iG 0 (fZ (mj (0+1)))).1.m:=by
 obtain⟨nm,zn⟩: ∃nm,nm=bL pe 1:=⟨_,rfl⟩;have gd:nm.size=12:=by rw[zn,A2];rfl
 have nk:vZ nm=true:=by unfold vZ;rw[gd];decide
 obtain⟨m1,pr⟩: ∃m1:DM,m1=((⟨[],0,0,false⟩:DM).tick.put nm [] 0):=⟨_,rfl⟩;have ht:(⟨[],0,0,false⟩:DM).tick.dn=false/\(⟨[],0,0,false⟩:DM).tick.ar=0/\(⟨[],0,0,false⟩:DM).tick.fs=[]:=by
  unfold DM.tick;rw[if_neg dQ];exact⟨rfl,rfl,rfl⟩
 have OC:DM.create ⟨[],0,0,false⟩ nm=(m1,0):=by
  unfold DM.create DM.write;have e:(if¬vZ nm=true then 10 else if((⟨[],0,0,false⟩:DM).get nm).isSome then 9 else if 64<=(⟨[],0,0,false⟩:DM).fs.length then 3 else 0)=0:=by
   rw[if_neg gQ];rfl
  rw[e,if_neg dQ,if_neg dQ,if_neg gQ,pr]
 have Df:m1.fs=[(nm,([],0))]:=by
  rw[pr]
  show cI nm ([],0) (⟨[],0,0,false⟩:DM).tick.fs=_
  rw[ht.2.2];rfl
 have Uy:m1.dn=false:=by rw[pr];exact ht.1
 have rS:m1.ar=0:=by rw[pr];exact ht.2.1
 have YK:m1.get nm=some ([],0):=by unfold DM.get;rw[Df];simp[getM]
 have hO:LD.B1 pe 4096 ⟨[],0,0,false⟩=(⟨⟨pe,4096,[⟨1,[],0⟩],0⟩,m1⟩,0):=by
  unfold LD.B1;rw[if_neg dQ];have e:fL ((⟨[],0,0,false⟩:DM).fs.map (·.1))=[]:=by simp[fL]
  rw[e];dsimp only;have e2:LD.pE ⟨L0 pe 4096,⟨[],0,0,false⟩⟩ []=(⟨L0 pe 4096,⟨[],0,0,false⟩⟩,0):=by unfold LD.pE;rfl
  rw[e2,if_neg sQ,if_pos (show(L0 pe 4096).bu=[] from rfl)];unfold LD.iI;dsimp only;have e3:(L0 pe 4096).dir=pe:=rfl;rw[e3,<-zn,OC];rfl
 have hgd:Good ([]++[(⟨1,[],0⟩:dO)]):=⟨trivial,λs hs=>by
  rw[List.nil_append,aw] at hs;subst hs;exact⟨aq _,⟨by decide,by decide⟩,by rfl,λp hp=>absurd hp sQ⟩⟩
 have hon:pA pe [] ⟨1,[],0⟩ [] (flat []).length m1:=⟨by unfold DM.ks;rw[Df];simp,by unfold DM.ks;rw[Df,zn];simp,λt ht=>absurd ht sQ,by
  show m1.get (bL pe 1)=_
  rw[<-zn,YK];rfl,aq _⟩
 have hz:m1.sz=0:=by unfold DM.sz uv;rw[Df];simp
 have jF:oY ⟨⟨pe,4096,[⟨1,[],0⟩],0⟩,m1⟩ [] ⟨1,[],0⟩:=
  ⟨rfl,hgd,hon,Uy,by grind,by grind,(show 1<=pe.size from by decide),(show pe.size<=11 from by decide),(show 64<=4096 from by decide),(show 4096<=262144 from by decide)⟩
 have hr:sD 0 ([]++[(⟨1,[],0⟩:dO)]) (0,[]):=⟨rfl,⟨[],rfl,λr hr=>absurd hr sQ,aq _,rfl⟩,λt ht=>absurd ht sQ⟩;obtain⟨cg,ce⟩:=YI (n:=1) zQ zQ;have gW:GL 300 ⟨⟨pe,4096,[⟨1,[],0⟩],0⟩,m1⟩:=⟨⟨rS,Uy⟩,by simp,jF.d1,jF.d2,λt ht=>by simp_all,(show(4096:Nat)<=2^40 from by decide),by simp⟩;have hlu:wD ⟨⟨pe,4096,[⟨1,[],0⟩],0⟩,m1⟩ 0 (0,[]):=⟨[],⟨1,[],0⟩,jF,hr,rfl,rfl⟩;have Ea:=(hlu.iG cg (YJ (0,[])) zQ).resolve_left λe=>absurd e.1 (gW.iG _).1;exact⟨_,⟨hO,⟨jF,rfl,rfl,λr hr=>absurd hr sQ,by simp⟩,aq _,rfl,⟨tu _,tu _⟩,ce,Ea.1,Ea.2⟩,(gW.iG _).2.ok⟩
def A7 (s:lK):Prop:= ∀x∈s.2,x.1.aR.dX=1/\1<=x.1.aR.ba/\x.1.aR.ba<=s.1/\1<=x.1.aR.sq/\x.1.aR.sq<=2^40
structure ahP (n:bt) (t:bH):Prop where
 co:t.dX=1
 ba:t.ba=n.c.ba
 sq:1<=t.sq/\t.sq<=n.c.fF
 bl:getM t n.bl=none
structure gD (k N:Nat) (n:bt):Prop where
 ok:tn N k n
 bl:Me n
 log:wD ⟨n.L,n.m⟩ k n.abs
 fF:0<=n.c.fF/\n.c.fF<=k
 ba:1<=n.c.ba/\n.c.ba<=k
 act: ∀t b,getM t n.al=some b->ahP n t
 abs:A7 n.abs
 Dl: ∀x∈n.abs.2,x.1.aR.ba=n.c.ba->x.1.aR.sq<=n.c.fF
def xf (n:bt):Prop:= ∀t b,getM t n.al=some b->(n.A b).x.aR=t
theorem bZ.C3.asked {m:bZ} {x:AcV} (h:m.C3):(m.asked x).C3:=by
 obtain⟨a,b,c,d⟩:=h;exact⟨a,b,c,d⟩
variable {N' : Nat}
theorem sB.up {d:rl} (h:sB N d) (hN:N<=N'):sB N' d:=⟨h.q,h.p,ad h.sn hN,h.ws,h.ids,h.C3,h.kn,h.pq⟩
theorem EK {κ α:Type} [DecidableEq κ] {k:κ} {l:List (κ×α)} :(jL k l).length<=l.length:=List.length_filter_le _ _
section
variable {n : bt}
structure Calm (n n1:bt):Prop where
 id:n1.c.id=n.c.id
 ba:n1.c.ba=n.c.ba
 fF:n1.c.fF=n.c.fF
 cl:n1.cl=n.cl
 C:n1.C=n.C
 bl:n1.bl=n.bl
 L:n1.L=n.L
 m:n1.m=n.m
 pre:n1.pre=n.pre
theorem Calm.refl (n:bt):Calm n n:=⟨rfl,rfl,rfl,rfl,rfl,rfl,rfl,rfl,rfl⟩
theorem Calm.trans {b c:bt} (h:Calm a b) (q:Calm b c):Calm a c:=⟨q.id.trans h.id,q.ba.trans h.ba,q.fF.trans h.fF,q.cl.trans h.cl,q.C.trans h.C,q.bl.trans h.bl,q.L.trans h.L,q.m.trans h.m,q.pre.trans h.pre⟩
theorem Calm.after {b c:bt} (q:Calm b c) (h:Calm a b):Calm a c:=h.trans q
theorem gD.sub (h:gD k N n) (hN:N<=N') (hk:k<=k') (af:k'<=1000) (hc:Calm n n1) (hds: ∀(i:Int) (r:eI),getM i n1.ds=some r->r.id=i)
  (T1: ∀t b,getM t n1.al=some b->(∃b',getM t n.al=some b')/\sB N' (n1.A b)) (hlen:n1.al.length<=n.al.length):gD k' N' (dM n1):=by
 have e:(dM n1).abs=n.abs:=by
  show(n1.c.ba,n1.cl.map λb=>((n1.C b).r,(n1.C b).ended))=_
  rw[hc.ba,hc.cl,hc.C];rfl
 refine⟨⟨hc.id.trans h.ok.id,λt b hg=>(T1 t b hg).2,hds,rfl,rfl,rfl,rfl,rfl,?_,?_,af,hc.pre.trans h.ok.pre,?_,?_⟩,?_,?_,?_,?_,?_,?_,?_⟩
 ·show n1.cl.length<=_;rw[hc.cl];exact ad h.ok.cl hk
 ·exact ad (ad hlen h.ok.QJ) hk
 ·show∀b∈n1.cl,(n1.C b).waits.length<=80;rw[hc.cl,hc.C];exact h.ok.cw
 ·show∀t b,getM t n1.bl=some b->b∈n1.cl/\(n1.C b).r.aR=t;rw[hc.bl,hc.cl,hc.C];exact h.ok.byT
 ·show∀t b,getM t n1.bl=some b↔b∈n1.cl/\(n1.C b).r.aR=t;rw[hc.bl,hc.cl,hc.C];exact h.bl
 ·rw[e];show wD ⟨n1.L,n1.m⟩ _ _;rw[hc.L,hc.m];exact h.log.up hk
 ·show 0<=n1.c.fF/\n1.c.fF<=_;rw[hc.fF];have:=h.fF;omega
 ·show 1<=n1.c.ba/\n1.c.ba<=_;rw[hc.ba];have:=h.ba;omega
 ·intro t b hg;obtain⟨b',dU⟩:=(T1 t b hg).1;have q:=h.act t b' dU;exact⟨q.co,by show _=n1.c.ba;rw[hc.ba];exact q.ba,by show _/\_<=n1.c.fF;rw[hc.fF];exact q.sq,by show getM t n1.bl=none;rw[hc.bl];exact q.bl⟩
 ·rw[e];exact h.abs
 ·rw[e];show∀x∈_,_=n1.c.ba->_<=n1.c.fF;rw[hc.ba,hc.fF];exact h.Dl
theorem gD.call {p:List jr} (h:gD k N n) (hc:zH n p n1) (hk:k+1<=1000):gD (k+1) N (dM n1):=by
 obtain⟨xb,gn,D9,vm,va,rm,ra,ms,d,rfl,Oz,adM⟩:=hc;have hT: ∀t b,getM t D9=some b->(getM t n.al=some b/\b≠xb)\/(t=iu n/\b=xb/\D9=cI (iu n) xb n.al):=λt b hg=>by
  rcases adM with⟨_,_,_,e,_⟩|⟨_,e,_⟩
  ·rw[e] at hg;have q:=(oH hg).1
   grind
  ·rw[e] at hg;by_cases e1:t=iu n
   ·rw[e1,kD] at hg;exact .inr ⟨e1,(bW hg).symm,e⟩
   ·rw[od e1] at hg;exact .inl ⟨hg,λe=>Oz t (e▸hg)⟩
 have hlen:D9.length<=n.al.length+1:=by
  rcases adM with⟨_,_,_,e,_⟩|⟨_,e,_⟩
  ·rw[e];exact ad EK (dc _)
  ·rw[e];exact CZ _
 have Uz:=h.fF;have Rj:=h.ba;have Hm:getM (iu n) n.bl=none:=by
  cases e:getM (iu n) n.bl with
  |none=>rfl
  |some b=>
   obtain⟨h1,h2⟩:=(h.bl _ _).1 e;have:=h.Dl _ (List.mem_map.2 ⟨b,h1,rfl⟩) (by show(n.C b).r.aR.ba=_;rw[h2];rfl);have e3:((n.C b).r).aR.sq=n.c.fF+1:=by rw[h2];rfl
   have:(n.C b).r.aR.sq<=n.c.fF:=this;omega
 refine⟨⟨h.ok.id,λt b hg=>?_,h.ok.ds,rfl,rfl,rfl,rfl,rfl,uD h.ok.cl,?_,hk,h.ok.pre,h.ok.cw,h.ok.byT⟩,h.bl,h.log.up (dc _),?_,?_,λt b hg=>?_,h.abs,λx hx e=>?_⟩
 ·rcases hT t b hg with⟨q1,q2⟩|⟨_,q2,q3⟩
  ·show sB N (if b=xb then d else n.A b)
   rw[if_neg q2];exact h.ok.act t b q1
  ·show sB N (if b=xb then d else n.A b)
   rw[if_pos q2];rcases adM with⟨_,_,_,e,_⟩|⟨_,_,hp,Fa,ht,L8,asi,JV,Ue,cj,hws,hw,hq⟩
   ·have q4:getM t (jL (iu n) n.al)=some xb:=by rw[<-e,<-q2];exact hg
    exact absurd (oH q4).1 (Oz t)
   ·refine⟨λe=>?_,by rw[hp];omega,by rw[JV.1];exact au _,hws,?_,λy hy=>(hw y hy).2,by omega,JV.2⟩
    ·rcases hq with q|q
     ·exact⟨q.2.1,q.2.2.1⟩
     ·rw[q.1] at e;cases e
    ·rcases hq with q|q
     ·rw[q.2.2.1];exact au _
     ·rw[<-q.2.1,ai];omega
 ·have:=h.ok.QJ;show D9.length<=_;omega
 ·show 0<=n.c.fF+1/\n.c.fF+1<=((k+1:Nat):Int);omega
 ·show 1<=n.c.ba/\n.c.ba<=((k+1:Nat):Int);omega
 ·rcases hT t b hg with⟨q1,q2⟩|⟨rfl,_,_⟩
  ·have q:=h.act t b q1;exact⟨q.co,q.ba,by have:=q.sq;show 1<=t.sq/\t.sq<=n.c.fF+1;omega,q.bl⟩
  ·exact⟨h.ok.id,rfl,by show 1<=n.c.fF+1/\n.c.fF+1<=n.c.fF+1;omega,Hm⟩
 ·have:=h.Dl x hx e
  show _<=n.c.fF+1
  omega
theorem ou.calm: ∀{ts:List bH} {n n1:bt},ou ts n n1->Calm n n1/\n1.ds=n.ds/\n1.al.length<=n.al.length
 |[],n,n1,h=>by
  have:n1=n:=h;subst this;exact⟨Calm.refl _,rfl,aq _⟩
 |t::ts,n,n1,⟨n2,h1,h2⟩=>by
  obtain⟨q1,q2,q3⟩:=ou.calm h2;have q:Calm n n2/\n2.ds=n.ds/\n2.al.length<=n.al.length:=by
   obtain⟨b,_,_,⟨_,_,_,_,rfl,_⟩|⟨_,_,_,rfl,_⟩⟩:=h1
   ·exact⟨⟨rfl,rfl,rfl,rfl,rfl,rfl,rfl,rfl,rfl⟩,rfl,EK⟩
   ·exact⟨⟨rfl,rfl,rfl,rfl,rfl,rfl,rfl,rfl,rfl⟩,rfl,aq _⟩
  exact⟨q1.after q.1,q2.trans q.2.1,ad q3 q.2.2⟩
theorem vG.key (h:vG n t n1) (lV:xf n):xf n1/\ ∀t b,getM t n1.al=some b->getM t n.al=some b:=by
 obtain⟨b,_,_,hc⟩:=h;have hs:n1.A=(dN n b (qo (n.A b))).A/\ ∀t b,getM t n1.al=some b->getM t n.al=some b:=by
  rcases hc with⟨_,_,_,_,rfl,_⟩|⟨_,_,_,rfl,_⟩
  ·exact⟨rfl,λt b hg=>(oH hg).1⟩
  ·exact⟨rfl,λt b hg=>hg⟩
 refine⟨λt b' hg=>?_,hs.2⟩;have:=lV t b' (hs.2 t b' hg);rw[hs.1]
 show(if b'=b then qo (n.A b)else n.A b').x.aR=t
 split
 ·grind [qo]
 omega
theorem ou.ok: ∀{ts:List bH} {n n1:bt},ou ts n n1->xf n->(∀t b,getM t n.al=some b->sB N (n.A b))-> ∀t b,getM t n1.al=some b->getM t n.al=some b/\sB N (n1.A b)
 |[],n,n1,h,_,nk=>λt b hg=>by
  have:n1=n:=h
  grind
 |t::ts,n,n1,⟨n2,h1,h2⟩,lV,nk=>λt' b hg=>by
  obtain⟨q1,q2⟩:=h1.key lV;obtain⟨q3,q4⟩:=ou.ok h2 q1 (h1.ok lV nk) t' b hg
  grind
theorem Cq.calm: ∀{l:List Nat} {n n1:bt},Cq l n n1->Calm n n1/\n1.ds=n.ds/\n1.al=n.al/\n1.A=n.A/\n1.ra=n.ra
 |[],n,n1,h=>by
  have:n1=n:=h
  grind [Calm.refl]
 |b::l,n,n1,⟨n2,h1,h2⟩=>by
  obtain⟨q1,q2,q3,q4,q5⟩:=Cq.calm h2;rcases h1 with⟨_,rfl⟩|⟨_,sJ,qP,rfl,_⟩
  ·grind
  ·exact⟨q1.after ⟨rfl,rfl,rfl,rfl,rfl,rfl,rfl,rfl,rfl⟩,q2,q3,q4,q5⟩
theorem gD.tick (h:gD k N n) (lV:xf n) (ht:zI n n1) (hk:k+1<=1000):gD (k+1) N (dM n1):=by
 obtain⟨ts,n2,hp,h1,h2⟩:=ht;obtain⟨a1,a2,a3⟩:=h1.calm;obtain⟨b1,b2,b3,b4,_⟩:=h2.calm;refine h.sub (aq _) (dc _) hk (a1.trans b1) (by rw[b2,a2];exact h.ok.ds) (λt b hg=>?_) gQ;rw[b3] at hg;rw[b4];obtain⟨q1,q2⟩:=ou.ok h1 lV h.ok.act t b hg
 grind
end
theorem afK (t:bH):xc (oq t):=by grind [oq,uC,xQ]
theorem al7 (t:bN):xc (lI t):=by grind [lI,uC,xQ]
theorem ahQ (l:List Int):xc (iU encI l):=by
 unfold iU;refine uC (xQ _) λb hb=>?_;obtain⟨q,hq,hb⟩:=List.mem_flatten.1 hb;obtain⟨x,_,rfl⟩:=List.mem_map.1 hq;exact xQ _ b hb
theorem UA {α:Type} {p:α->Bool} {r:α->α->Bool} : ∀{l:List α} {o:Option α},chain p r o l=true-> ∀x∈l,p x=true
 |[],_,_,_,hx=>by simp at hx
 |y::l,o,h,x,hx=>by
  have h1:p y=true/\chain p r (some y) l=true:=by
   cases o<;>simp[chain] at h
   ·exact h
   ·exact⟨h.1.1,h.2⟩
  rcases List.mem_cons.1 hx with rfl|hx
  ·exact h1.1
  ·exact UA h1.2 x hx
theorem al8 (h:r.fB=0):r.err=0:=by
 apply eH;intro e;unfold Rec.fB at h;omega
theorem Rm {st:bN} {ids:List Int} (he:(jw t st ids).fB=0) (hl:ids.length<=80) (ht:DN t):Us (jw t st ids):=by
 have h1:=al8 he;have h2:(jw t st ids).qw=true:=by
  apply eH;intro e;unfold Rec.err at h1;split at h1
  ·cases h1
  ·grind
 have h3:(t.may&&st.It&&yn ids)=true:=by
  unfold Rec.qw at h2;exact h2
 simp only[aD] at h3;obtain⟨⟨h4,h5⟩,h6⟩:=h3;have h7:st.may=true:=by unfold bN.It at h5;simp only[aD] at h5;exact h5.1
 have h8: ∀x∈ids,uU x:=λx hx=>by
  unfold yn at h6;simp only[aD] at h6;have:=UA h6.1 x hx;simp only[aD,decide_eq_true_eq] at this;unfold uU;omega
 have h9:acZ st:=by
  unfold bN.may at h7;simp only[aD,decide_eq_true_eq] at h7;unfold acZ uU;omega
 have h10:=afC t st ids;refine⟨.Dl t st ids ht h9 h8 zQ,h1,by omega,λb hb=>?_,hl⟩;rw[V8] at hb;exact uC (xQ _) (uC (afK _) (uC (al7 _) (ahQ _))) b hb
theorem al9 (ht:DN t) (hm:t.may=true):Us (mJ t)/\(mJ t).fB=0:=by
 have e1:=fz 10;have e2:=Dn t;have e4:(mJ t).err=0:=by
  simp[Rec.err,mJ,Rec.strip,Rec.isZero,Rec.qw,State.isZero,State.zero,hm]
 have e5:(fZ (mJ t)).length<=900:=by rw[Rb,aa];omega
 refine⟨⟨.fin t ht,e4,e5,λb hb=>?_,by simp[mJ]⟩,?_⟩
 ·rw[Rb] at hb;exact uC (xQ _) (afK _) b hb
 ·unfold Rec.fB;omega
theorem UB: ∀(l:List eI) (ds:tM),(∀(i:Int) (r:eI),getM i ds=some r->r.id=i)-> ∀(i:Int) (r:eI),getM i (l.foldl iY ds)=some r->r.id=i
 |[],ds,h=>h
 |x::l,ds,h=>UB l (iY ds x) λi r hg=>by
  have hp: ∀i r,getM i (cI x.id x ds)=some r->r.id=i:=λi r hg=>by
   by_cases e:i=x.id
   ·rw[e,kD] at hg;cases hg;exact e.symm
   ·rw[od e] at hg;exact h i r hg
  unfold iY at hg;split at hg
  ·split at hg
   ·split at hg
    ·exact h i r hg
    ·exact hp i r hg
   ·exact hp i r hg
  ·exact h i r hg
section
variable {n : bt}
theorem Pt (h:r.fB≠0):jG n r=(⟨n.L,n.m⟩,0,r.fB.toNat):=by
 unfold jG LD.iG;rcases r.xO with e|e|e|e
 ·omega
 all_goals rw[e];rfl
theorem xR (h:r.fB=0):jG n r=LD.iG ⟨n.L,n.m⟩ 0 (fZ r):=by
 unfold jG;rw[h];rfl
theorem gD.Wf (h:gD k N n) (ht:ahP n t) (st:bN) (ids:List Int):uX n.abs (jw t st ids)=some (n.c.ba,n.abs.2++[(jw t st ids,false)]):=by
 unfold uX;rw[if_neg (show¬(jw t st ids).kind=8 from(by decide: ¬(9:Int)=8)),if_pos (show(jw t st ids).kind=9 from rfl),if_pos ?_]
 ·rfl
 ·refine⟨ht.co,ht.ba,λx hx e=>?_⟩;obtain⟨b,hb,rfl⟩:=List.mem_map.1 hx;have:=(h.bl t b).2 ⟨hb,e⟩;rw[ht.bl] at this;cases this
theorem gD.DN (h:gD k N n) (hk:k<=1000) (ht:ahP n t):DN t:=by
 have h1:=h.fF;have h2:=h.ba;have h3:=ht.sq;have h4:=ht.ba;have h5:=ht.co;unfold Go.Proofs.YtgfijddlkhkopaaGreat.DN uU;omega
theorem aj7 (lV:xf n) (hb:getM t n.al=some b) {b':Nat} (hg:getM t' (jL t n.al)=some b'):getM t' n.al=some b'/\b'≠b:=by
 obtain⟨q1,q2⟩:=oH hg;exact⟨q1,λe=>q2 (by rw[e] at q1;exact(lV _ _ q1).symm.trans (lV _ _ hb))⟩
theorem gD.Xx {m:bZ} (h:gD k N n) (hg:Gr n m pp n1) (hN:N<=N') (hk:k<=k') (af:k'<=1000):gD k' N' (dM n1):=by
 obtain⟨b,gn,sJ,ki,qP,hb,hp,hc,rfl⟩:=hg;exact h.sub hN hk af ⟨rfl,rfl,rfl,rfl,rfl,rfl,rfl,rfl,rfl⟩ (UB _ _ h.ok.ds) (λt b hg=>⟨⟨b,(oH hg).1⟩,(h.ok.act t b (oH hg).1).up hN⟩) EK
theorem gD.seen {m:bZ} (h:gD k N n) (lV:xf n) (hs:QN n m n1) (af:k+1<=1000):gD (k+1) (N+m.seen.length) (dM n1):=by
 have hN:N<=N+m.seen.length:=ke _ _;rcases hs with⟨gn,rfl⟩|hg|⟨b,i,y,gn,yC,jK,mf,n2,hw,rfl,hc⟩
 ·exact h.sub hN (dc _) af ⟨rfl,rfl,rfl,rfl,rfl,rfl,rfl,rfl,rfl⟩ h.ok.ds (λt b hg=>⟨⟨b,hg⟩,(h.ok.act t b hg).up hN⟩) (aq _)
 ·exact h.Xx hg hN (dc _) af
 ·have ha:=h.ok.act _ _ hw.g;have hA: ∀t' b',getM t' n.al=some b'->sB (N+m.seen.length) ((dN n b (wY (n.A b) i m yC jK mf)).A b'):=λt' b' hg=>by
   show sB _ (if b'=b then _ else n.A b')
   split
   ·refine⟨ha.q,ha.p,by show az (_++_)<=_;rw[aa];have:=ha.sn;omega,?_,ha.ids,λy hy=>?_,ha.kn,ha.pq⟩
    ·have:=ha.ws;simp[wY];omega
    ·exact ha.C3 y ((List.mem_append.1 hy).elim dL dd)
   ·exact(h.ok.act t' b' hg).up hN
  have hxt:((dN n b (wY (n.A b) i m yC jK mf)).A b).x.aR=m.aR:=by rw[jj];exact lV _ _ hw.g
  rcases hc with⟨_,rfl⟩|⟨_,n3,hr,rfl⟩
  ·exact h.sub hN (dc _) af ⟨rfl,rfl,rfl,rfl,rfl,rfl,rfl,rfl,rfl⟩ h.ok.ds (λt b' hg=>⟨⟨b',hg⟩,hA t b' hg⟩) (aq _)
  ·rcases hr with⟨ki,a,_,_,_,_,rfl,_⟩|⟨ids,pm,vq,vw2,rw2,cj,mQ,uz,mh,_,_,_,rfl,_⟩
   ·refine h.sub hN (dc _) af ⟨rfl,rfl,rfl,rfl,rfl,rfl,rfl,rfl,rfl⟩ h.ok.ds (λt b' hg=>?_) EK;have hg:getM t (jL ((dN n b (wY (n.A b) i m yC jK mf)).A b).x.aR n.al)=some b':=hg;rw[hxt] at hg;obtain⟨q1,q2⟩:=aj7 lV hw.g hg;exact⟨⟨b',q1⟩,hA _ _ q1⟩
   ·refine h.sub hN (dc _) af ⟨rfl,rfl,rfl,rfl,rfl,rfl,rfl,rfl,rfl⟩ h.ok.ds (λt b' hg=>⟨⟨b',hg⟩,?_⟩) (aq _);have hb:=hA m.aR b hw.g;have hl:pm.length=ids.length:=by rw[<-uz,ai]
    show sB _ (if b'=b then _ else(dN n b (wY (n.A b) i m yC jK mf)).A b')
    split
    ·refine⟨λe=>absurd e sQ,hb.p,hb.sn,by grind,mQ,λy hy=>?_,hb.kn,hb.pq⟩;obtain⟨z,hz,rfl⟩:=List.mem_map.1 hy;exact(mh z hz).2.2.asked
    ·exact hA _ _ hg
theorem gD.comm (h:gD k N n) (lV:xf n) (hb:getM t n.al=some b) (hl:(n.A b).ids.length<=80) (hc:Q9 n t b n1) (hk:k<=190) (hA: ∀t b,getM t n.al=some b->sB N' (n.A b)) (hN:N<=N'):gD (k+1) N' (dM n1):=by
 have ht:=h.act t b hb;have XB:=h.DN zQ ht;unfold Q9 V9 at hc;rcases hc with⟨xJ,h0,ki,sJ,qP,rfl,_⟩|⟨h0,bx,B3,vp,v2,ki,vs,UC,gq,sJ,qP,en,_⟩
 ·have Xv:(jw t (n.A b).x.mR (n.A b).ids).fB≠0:=λe=>by
   rw[xR e] at xJ h0;rcases h.log.iG (Rm e hl XB) (h.Wf ht _ _) zQ with q|q
   ·omega
   omega
  have e:=Pt (n:=n) Xv;refine h.sub hN (dc _) zQ ⟨rfl,rfl,rfl,rfl,rfl,rfl,by grind,by grind,rfl⟩ h.ok.ds (λt' b' hg=>?_) EK;have q:=(oH hg).1
  grind
 ·have Ns:(jw t (n.A b).x.mR (n.A b).ids).fB=0:=by
   apply eH;intro e;rw[Pt e] at h0;rcases(jw t (n.A b).x.mR (n.A b).ids).xO with q|q|q|q
   ·omega
   all_goals grind
  have jE:=h.Wf ht (n.A b).x.mR (n.A b).ids;rw[xR Ns] at h0;have Pu:=((h.log.iG (Rm Ns hl XB) jE zQ).resolve_left λe=>by omega).2;have hex: ∃n2:bt,n2= { n with c:= { n.c with cm:=B3 },bl:=cI t bx n.bl,cl:=n.cl++[bx],C:=λb'=>if b'=bx then⟨jw t (n.A b).x.mR (n.A b).ids,vp,v2,(n.A b).ids,false⟩else n.C b' } :=⟨_,rfl⟩;obtain⟨n2,WH⟩:=hex;have hR:Wc n (jw t (n.A b).x.mR (n.A b).ids) vp n2:=.inr (.inl ⟨rfl,_,bx,B3,v2,rfl,gq,WH⟩);obtain⟨i1,i2,i3,i4,i5⟩:=YB h.bl jE (afG h.bl h.ok.id jE) hR h.ok.cw hl;have e2:n2.c.ba=n.c.ba/\n2.cl=n.cl++[bx]/\n2.bl=cI t bx n.bl/\n2.C=λb'=>if b'=bx then⟨jw t (n.A b).x.mR (n.A b).ids,vp,v2,(n.A b).ids,false⟩else n.C b':=by rw[WH];exact⟨rfl,rfl,rfl,rfl⟩
  have Uz:=h.fF;have Rj:=h.ba;have qi:=h.ok.cl;have alT:=h.ok.QJ;have wX:(dM n1).abs=(n.c.ba,n.abs.2++[(jw t (n.A b).x.mR (n.A b).ids,false)]):=by
   rw[en,<-i1];unfold bt.abs;rw[e2.1,e2.2.1,e2.2.2.2];rfl
  subst en;refine⟨⟨h.ok.id,λt' b' hg=>hA t' b' (oH hg).1,h.ok.ds,rfl,rfl,rfl,rfl,rfl,?_,?_,by omega,h.ok.pre,?_,?_⟩,?_,?_,?_,?_,λt' b' hg=>?_,?_,?_⟩
  ·show(n.cl++[bx]).length<=_;simp;omega
  ·exact ad EK zQ
  ·rw[e2.2.1,e2.2.2.2] at i4;exact i4
  ·intro t' b' hg;have q:=(i2 t' b').1 (by rw[e2.2.2.1];exact hg);rw[e2.2.1,e2.2.2.2] at q;exact q
  ·intro t' b';have q:=i2 t' b';rw[e2.2.2.1,e2.2.1,e2.2.2.2] at q;exact q
  ·rw[wX,<-xR Ns] at*;exact Pu
  ·show 0<=n.c.fF/\n.c.fF<=((k+1:Nat):Int);omega
  ·show 1<=n.c.ba/\n.c.ba<=((k+1:Nat):Int);omega
  ·obtain⟨q1,q2⟩:=oH hg;have q:=h.act t' b' q1;exact⟨q.co,q.ba,q.sq,by show getM t' (cI t bx n.bl)=none;rw[od q2];exact q.bl⟩
  ·rw[wX];intro x hx;rcases List.mem_append.1 hx with hx|hx
   ·exact h.abs x hx
   ·rw[aw] at hx;subst hx;have:=ht.sq;exact⟨ht.co,by rw[show(jw t (n.A b).x.mR (n.A b).ids).aR.ba=t.ba from rfl,ht.ba];omega,by show t.ba<=n.c.ba;rw[ht.ba];omega,this.1,by show t.sq<=2^40;omega⟩
  ·rw[wX];intro x hx Uf;rcases List.mem_append.1 hx with hx|hx
   ·exact h.Dl x hx Uf
   ·rw[aw] at hx;subst hx;exact ht.sq.2
theorem gD.aqo {m:bZ} (h:gD k N n) (lV:xf n) (hs:Np n m n1) (hk:k<=190):gD (k+1) N (dM n1):=by
 rcases hs with⟨gn,rfl,_⟩|hg|⟨b,i,y,gn,jK,mf,n2,hw,rfl,hc⟩
 ·exact h.sub (aq _) (dc _) zQ ⟨rfl,rfl,rfl,rfl,rfl,rfl,rfl,rfl,rfl⟩ h.ok.ds (λt b hg=>⟨⟨b,hg⟩,h.ok.act t b hg⟩) (aq _)
 ·exact h.Xx hg (aq _) (dc _) zQ
 ·have ha:=h.ok.act _ _ hw.g;have hA: ∀t' b',getM t' n.al=some b'->sB N ((dN n b (tt (n.A b) i m jK mf)).A b'):=λt' b' hg=>by
   show sB _ (if b'=b then _ else n.A b')
   split
   ·refine⟨ha.q,ha.p,ha.sn,?_,ha.ids,λy hy=>?_,ha.kn,ha.pq⟩
    ·have:=ha.ws;simp[tt];omega
    ·exact ha.C3 y ((List.mem_append.1 hy).elim dL dd)
   ·exact h.ok.act t' b' hg
  rcases hc with⟨_,rfl⟩|⟨_,hc⟩
  ·exact h.sub (aq _) (dc _) zQ ⟨rfl,rfl,rfl,rfl,rfl,rfl,rfl,rfl,rfl⟩ h.ok.ds (λt b' hg=>⟨⟨b',hg⟩,hA t b' hg⟩) (aq _)
  ·have h2:gD k N (dM { dN n b (tt (n.A b) i m jK mf)with ck:=gn }):=h.sub (aq _) (aq _) zQ ⟨rfl,rfl,rfl,rfl,rfl,rfl,rfl,rfl,rfl⟩ h.ok.ds (λt b' hg=>⟨⟨b',hg⟩,hA t b' hg⟩) (aq _);have e:dM { dN n b (tt (n.A b) i m jK mf)with ck:=gn } = { dN n b (tt (n.A b) i m jK mf)with ck:=gn } :=by
    have h1:=h.ok.dM;have:dM { dN n b (tt (n.A b) i m jK mf)with ck:=gn } = { dN (dM n) b (tt (n.A b) i m jK mf)with ck:=gn } :=rfl;rw[this,h1]
   rw[e] at h2;refine h2.comm (λt' b' hg=>?_) (b:=b) hw.g ?_ hc hk hA (aq _)
   ·show(if b'=b then tt (n.A b) i m jK mf else n.A b').x.aR=t'
    have:=lV t' b' hg
    grind [tt]
   ·exact(hA _ _ hw.g).ids
end
variable {en : Bool} {v2 : Value} {i : Nat}
section
variable {n : bt}
theorem gD.ajp (h:gD k N n) (hb:getM t n.bl=some b) (he:(n.C b).ended=false):uX n.abs (mJ t)=some (n.c.ba,Jc t n.abs.2):=by
 obtain⟨h1,h2⟩:=(h.bl t b).1 hb;unfold uX;rw[if_neg (show¬(mJ t).kind=8 from(by decide: ¬(10:Int)=8)),if_neg (show¬(mJ t).kind=9 from(by decide: ¬(10:Int)=9)),if_pos (show(mJ t).kind=10 from rfl),if_pos ?_]
 ·rfl
 ·exact⟨((n.C b).r,(n.C b).ended),List.mem_map.2 ⟨b,h1,rfl⟩,h2,he⟩
theorem gD.ajq (h:gD k N n) (hk:k<=1000) (hb:getM t n.bl=some b):Us (mJ t)/\(mJ t).fB=0:=by
 obtain⟨h1,h2⟩:=(h.bl t b).1 hb;have ha:=h.abs _ (List.mem_map.2 ⟨b,h1,rfl⟩);dsimp only at ha;rw[h2] at ha;have hl:=h.ba;have e:n.abs.1=n.c.ba:=rfl;rw[e] at ha;refine al9 ?_ ?_
 ·unfold Go.Proofs.YtgfijddlkhkopaaGreat.DN uU;omega
 ·unfold bH.may;simp_all
theorem UD {s:lK} (h:A7 s):A7 (s.1,Jc t s.2):=λx hx=>by
 obtain⟨y,hy,rfl⟩:=List.mem_map.1 hx;have:=h y hy;split<;>omega
theorem ahR {s:lK} {st:bN} {ids:List Int} (h:A7 s) (h1:t.dX=1) (h2:1<=t.ba/\t.ba<=s.1) (h3:1<=t.sq/\t.sq<=2^40):A7 (s.1,s.2++[(jw t st ids,false)]):=λx hx=>by
 rcases List.mem_append.1 hx with hx|hx
 ·exact h x hx
 ·rw[aw] at hx;subst hx;exact⟨h1,h2.1,h2.2,h3.1,h3.2⟩
theorem ahS (h:Me n) (hb:getM t n.bl=some b) (he:(n.C b).ended=false):
  (n.cl.map λb'=>(((nG n b (sC (n.C b) i v2 en)).C b').r,((nG n b (sC (n.C b) i v2 en)).C b').ended))=if en then Jc t n.abs.2 else n.abs.2:=by
 obtain⟨h1,h2⟩:=(h t b).1 hb;cases en with
 |false=>
  rw[if_neg dQ];refine ey λb' dU=>?_;unfold nG sC;dsimp only
  grind
 |true=>
  rw[if_pos rfl];unfold Jc bt.abs;dsimp only;rw[bB];refine ey λb' dU=>?_;unfold nG sC;dsimp only;by_cases e:b'=b
  ·grind
  ·rw[if_neg e];have: ¬(n.C b').r.aR=t:=λe'=>by
    have:=(h _ _).2 ⟨dU,e'⟩
    grind
   simp[this]
theorem abO (h:Me n): ∀t b',getM t n.bl=some b'↔b'∈n.cl/\((nG n b (sC (n.C b) i v2 en)).C b').r.aR=t:=λt b'=>by
 refine(h t b').trans (and_congr_right λ_=>?_);unfold nG sC;dsimp only
 grind
theorem aj8 (h: ∀b∈n.cl,(n.C b).waits.length<=80) (hb:b∈n.cl): ∀b'∈n.cl,((nG n b (sC (n.C b) i v2 en)).C b').waits.length<=80:=λb' dU=>by
 unfold nG sC;dsimp only;split
 ·have:=h b hb;simp;omega
 grind
theorem gD.done {m:bZ} (h:gD k N n) (hs:adB n m n1) (hk:k<=190):gD (k+1) N (dM n1):=by
 rcases hs with rfl|⟨b,i,v2,hD,hc⟩
 ·exact h.sub (aq _) (dc _) zQ (Calm.refl _) h.ok.ds (λt b hg=>⟨⟨b,hg⟩,h.ok.act t b hg⟩) (aq _)
 ·obtain⟨hbc,hbt⟩:=(h.bl _ _).1 hD.g;have Uz:=h.fF;have Rj:=h.ba;have mk: ∀{L':LM} {m':DM} {en:Bool},(∀s2,s2=(if en then Jc m.aR n.abs.2 else n.abs.2)->wD ⟨L',m'⟩ (k+1) (n.c.ba,s2))->gD (k+1) N (dM { nG n b (sC (n.C b) i v2 en)with L:=L',m:=m' }):=λ{L' m' en} Pu=>by
   have e:=ahS (i:=i) (v2:=v2) (en:=en) h.bl hD.g hD.en;have wX:(dM { nG n b (sC (n.C b) i v2 en)with L:=L',m:=m' }).abs=(n.c.ba,if en then Jc m.aR n.abs.2 else n.abs.2):=by
    unfold bt.abs;exact congrArg (Prod.mk _) e
   refine⟨⟨h.ok.id,h.ok.act,h.ok.ds,rfl,rfl,rfl,rfl,rfl,uD h.ok.cl,uD h.ok.QJ,by omega,h.ok.pre,aj8 h.ok.cw hbc,λt b' hg=>(abO h.bl t b').1 hg⟩,abO h.bl,by rw[wX];exact Pu _ rfl,?_,?_,λt b' hg=>?_,?_,?_⟩
   ·show 0<=n.c.fF/\n.c.fF<=((k+1:Nat):Int);omega
   ·show 1<=n.c.ba/\n.c.ba<=((k+1:Nat):Int);omega
   ·have q:=h.act t b' hg;exact⟨q.co,q.ba,q.sq,q.bl⟩
   ·rw[wX];cases en
    ·exact h.abs
    ·exact UD (s:=n.abs) h.abs
   ·rw[wX];cases en
    ·exact h.Dl
    ·intro x hx hl;obtain⟨y,hy,rfl⟩:=List.mem_map.1 hx;have:=h.Dl y hy;split at hl<;>(split;exact this hl;exact this hl)
  rcases hc with⟨_,rfl⟩|⟨_,xJ,rfl⟩
  ·exact mk (en:=false) λs2 e=>by rw[e];exact h.log.up (dc _)
  ·obtain⟨cg,ce⟩:=h.ajq zQ hD.g;unfold LU;rw[xR ce] at xJ⊢;rcases h.log.iG cg (h.ajp hD.g hD.en) zQ with q|⟨q0,q⟩
   ·exact absurd q.1 xJ
   ·rw[decide_eq_true q0];exact mk (en:=true) λs2 e=>by rw[e];exact q
theorem gD.ask {m:bZ} (h:gD k N n) (hs:adE n m n1) (hk:k+1<=1000):gD (k+1) N (dM n1):=by
 rcases hs with⟨_,rfl⟩|⟨_,sJ,qP,rfl,_⟩;all_goals exact h.sub (aq _) (dc _) hk ⟨rfl,rfl,rfl,rfl,rfl,rfl,rfl,rfl,rfl⟩ h.ok.ds (λt b hg=>⟨⟨b,hg⟩,h.ok.act t b hg⟩) (aq _)
theorem gD.up (h:gD k N n) (hk:k<=k') (af:k'<=1000) (hN:N<=N'):gD k' N' n:=by
 have:=h.sub (n1:=n) hN hk af (Calm.refl _) h.ok.ds (λt b hg=>⟨⟨b,hg⟩,(h.ok.act t b hg).up hN⟩) (aq _)
 rwa [h.ok.dM] at this
theorem gD.step {m:bZ} (h:gD k N n) (lV:xf n) (hs:yv n m n1) (hk:k<=190):gD (k+1) (N+m.seen.length) (dM n1):=by
 have up: ∀{n1},gD (k+1) N (dM n1)->gD (k+1) (N+m.seen.length) (dM n1):=λh=>h.up (aq _) zQ (ke _ _);have same:gD (k+1) (N+m.seen.length) (dM n):=up (h.sub (aq _) (dc _) zQ (Calm.refl _) h.ok.ds (λt b hg=>⟨⟨b,hg⟩,h.ok.act t b hg⟩) (aq _));rcases hs with⟨_,rfl⟩|⟨_,_,⟨_,hs⟩|⟨_,hs⟩|⟨_,hs⟩|⟨_,hs⟩|⟨_,_,_,_,rfl⟩⟩
 ·omega
 ·exact h.seen lV hs zQ
 ·exact up (h.aqo lV hs hk)
 ·exact up (h.done hs hk)
 ·exact up (h.ask hs zQ)
 omega
def adN (n:bt) (m:bZ) (s:lK):Prop:=s=n.abs\/(m.kind=4/\ ∃(b i:Nat) (y:bZ),Gs n m true b i y/\(n.A b).ws.length=1/\s=(n.c.ba,n.abs.2++[(jw m.aR ((n.A b).x.mR.later m.aV) (n.A b).ids,false)]))\/(m.kind=6/\s=(n.c.ba,Jc m.aR n.abs.2))
def DnS (k:Nat) (P:lK->Prop) (m:DM):Prop:=m.dn=true/\yw k (λs=>P s/\A7 s) m
theorem DnS.up {m:DM} (h:DnS k P m) (hk:k<=k'):DnS k' P m:=⟨h.1,h.2.imp hk λ_ h=>h⟩
theorem gD.crs (h:gD k N n):yw k (λs=>s=n.abs/\A7 s) n.m:=h.log.crs.imp (aq _) λs e=>⟨e,by rw[e];exact h.abs⟩
theorem gD.aog {m:bZ} {m':DM} (h:gD k N n) (hs:Ja n m m') (hk:k<=190):DnS (k+1) (adN n m) m':=by
 obtain⟨_,_,⟨Ol,b,i,y,hw,hl,xJ,rfl⟩|⟨hk6,b,i,hD,hl,xJ,rfl⟩⟩:=hs
 ·have ht:=h.act _ _ hw.g;have ha:=h.ok.act _ _ hw.g;have Ns:(jw m.aR ((n.A b).x.mR.later m.aV) (n.A b).ids).fB=0:=by
   apply eH;intro e;rw[Pt e] at xJ;rcases(jw m.aR ((n.A b).x.mR.later m.aV) (n.A b).ids).xO with q|q|q|q
   ·omega
   all_goals grind
  rw[xR Ns] at xJ⊢;have Uz:=h.fF;have hsq:=ht.sq;rcases h.log.iG (Rm Ns ha.ids (h.DN zQ ht)) (h.Wf ht _ _) zQ with q|q
  ·refine⟨q.2.1,q.2.2.imp (aq _) λs e=>?_⟩;rcases e with e|e
   ·exact⟨.inl e,by rw[e];exact h.abs⟩
   ·exact⟨.inr (.inl ⟨Ol,b,i,y,hw,hl,e⟩),by rw[e];exact ahR (s:=n.abs) h.abs ht.co ⟨by rw[ht.ba];exact h.ba.1,by rw[ht.ba];exact tu _⟩ ⟨hsq.1,by omega⟩⟩
  omega
 ·obtain⟨cg,ce⟩:=h.ajq zQ hD.g;rw[xR ce] at xJ⊢;rcases h.log.iG cg (h.ajp hD.g hD.en) zQ with q|q
  ·refine⟨q.2.1,q.2.2.imp (aq _) λs e=>?_⟩;rcases e with e|e
   ·exact⟨.inl e,by rw[e];exact h.abs⟩
   ·exact⟨.inr (.inr ⟨hk6,e⟩),by rw[e];exact UD (s:=n.abs) h.abs⟩
  omega
theorem gD.FB {l:List eI} {m:DM} {x:LD} (hb:adL m k s1 x pre sg rs) (ha:A7 s1) (hn:ajk l x s1 db rs.length n) (hds: ∀(i:Int) (r:eI),getM i (l.foldl iY [])=some r->r.id=i) (hk:k+1<=1000):gD (k+1) N n:=by
 have hl:=hb.ba;have hlen:=hb.len;have hc:=hn.cl;have Rj:n.c.ba=s1.1+1:=congrArg Prod.fst hn.abs;have Uz:=hn.fF;refine⟨⟨hn.id,λt b hg=>(by rw[hn.al] at hg;cases hg),by rw[hn.ds];omega,hn.ms,hn.vm,hn.va,hn.rm,hn.ra,by omega,by rw[hn.al];grind,hk,hn.pre,hn.cw,λt b hg=>(hn.bl t b).1 hg⟩,hn.bl,?_,by omega,by omega,λt b hg=>(by rw[hn.al] at hg;cases hg),?_,?_⟩
 ·rw[hn.ld,hn.abs];exact hb.up
 ·rw[hn.abs];intro x hx;have:=ha x hx;dsimp only;omega
 ·rw[hn.abs,Rj];intro x hx e;have:=ha x hx;omega
end
variable {most : Int}
theorem Kl {a:Value} {xs:List fe} (ha:Sl w X 7 a (xs.map fe.l)):
  Ct pg 67 #[a,I most] w X nX Ev:=by
 intro w0 hk;replace ha:=ha.mv hk.cu;have lN:=ha.ib;refine Jd.1 λhs=>?_;refine gM (λn a b w X=> ∃(i:Nat) (s:Int),a=I i/\b=I s/\n=(xs).length-i/\i<=(xs).length/\aj (bV w0) w0 X w) (xs).length ⟨0,_,rfl,rfl,rfl,au _,hs⟩ ?_;rintro n a b w X ⟨i,s,rfl,rfl,rfl,hi,hs⟩;repeat' first|refine ao ?_;intros|refine dq ?_ ?_<;>intros|(refine qr ?_;intro wa hk;exact⟨_,rfl⟩)|(refine xS (kq  _ _ _ _ _) hs ?_;intro n1 w X hs)|((with_reducible refine fK ((xs).length-(i+1)) ?_ ?_);omega;exact⟨i+1,_,by simp,rfl,rfl,by omega,hs⟩)|with_reducible apply oD
theorem Mj {m:bZ} {vs vc:Value} (ha:m.at w X vk vs vw vp vr vc vh vd):
  Ct pg 30 #[m.v vk vs vw vp vr vc vh vd,I most] w X nX Ev:=by
 intro w0 hk;obtain⟨h1,h2,h3,h4,h5,h6,h7,h8⟩:=ha.mv hk.cu;have lN:=h6.len;refine Km.1 λhs=>?_;repeat' first|refine ao ?_;intros|(refine xS (kq  _ _ _ _ _) hs ?_;intro n1 w X hs)|(refine xS (vH  qA) hs ?_;intro n1 w X hs)|(refine xS (Kl  qA) hs ?_;intro n1 w X hs)|(refine xS (uE  qA) hs ?_;intro n1 w X hs)|with_reducible apply oD
 refine gM (λn a b w X=> ∃(i:Nat) (s:Int),a=I i/\b=I s/\n=(m.bp).length-i/\i<=(m.bp).length/\aj (bV w0) w0 X w) (m.bp).length ⟨0,_,rfl,rfl,rfl,au _,hs⟩ ?_;rintro n a b w X ⟨i,s,rfl,rfl,rfl,hi,hs⟩;repeat' first|refine ao ?_;intros|refine dq ?_ ?_<;>intros|((with_reducible apply abP);assumption;(try (case hz=>rfl));(case hr=>exact qR);(try (case hz=>omega));(case ht=>kernel_rfl);(case hs=>kernel_rfl);intros)|(refine qr ?_;intro wa hk;exact⟨_,rfl⟩)|(refine xS (kq  _ _ _ _ _) hs ?_;intro n1 w X hs)|(refine xS (A8  (s:=m.state) qA qA) hs ?_;intro n1 w X hs)|(refine xS ((Mk (r:=_))  (Rec.at.mv aQ hs.mv)) hs ?_;intro n1 w X hs)|((with_reducible refine fK ((m.bp).length-(i+1)) ?_ ?_);omega;exact⟨i+1,_,by simp,rfl,rfl,by omega,hs⟩)|with_reducible apply oD
structure iV where
 kind:Int
 gL:Int
 n:Int
 m:bZ
 prog:List jr
 cH:List Int
abbrev iV.l (o:iV) (vk vs vw vp vr vc vh vd vo vq:Value):List Value:=[I o.kind,I o.gL,I o.n,I o.m.kind,I o.m.fr,I o.m.to,I o.m.aR.dX,I o.m.aR.ba,I o.m.aR.sq,I o.m.range,I o.m.iC,I o.m.code,
 I o.m.aV.wall,I o.m.aV.du,I o.m.aV.node,I o.m.prev.wall,I o.m.prev.du,I o.m.prev.node,B o.m.jJ,I o.m.n,I o.m.mx,vk,vs,vw,vp,vr,vc,
 I o.m.state.range.id,I o.m.state.range.iC,.float .f64 o.m.state.range.lo,.float .f64 o.m.state.range.hi,
 I o.m.state.floor.wall,I o.m.state.floor.du,I o.m.state.floor.node,I o.m.state.closed.wall,I o.m.state.closed.du,I o.m.state.closed.node,vh,vd,vo,vq]
structure iV.at (w:World) (X:XS) (o:iV) (vk vs vw vp vr vc vh vd vo vq:Value):Prop where
 m:o.m.at w X vk vs vw vp vr vc vh vd
 po:Sl w X 5 vo (o.prog.map jr.l)
 p:Sl w X 1 vq (o.cH.map I1)
def iV.rd (w:World) (X:XS) (l:List Value) (o:iV):Prop:= ∃vk vs vw vp vr vc vh vd vo vq,l=o.l vk vs vw vp vr vc vh vd vo vq/\o.at w X vk vs vw vp vr vc vh vd vo vq
theorem iV.mv:GH iV.rd:=λ⟨vk,vs,vw,vp,vr,vc,vh,vd,vo,vq,h,h1⟩ m=>⟨vk,vs,vw,vp,vr,vc,vh,vd,vo,vq,h,⟨h1.m.mv m,h1.po.mv m,h1.p.mv m⟩⟩
theorem xT {P:Program} {X0:XS} {N:Value->Prop} {t:TypeId} {v:Value} {xs:List iV} {z:Int} {x:iV} (h:eQ w0 X0 41 v iV.rd xs) (hr:xs[i]? =some x)
  (hz:z=i) (ht:P.underlying t=some (.slice (P.elem t))) (hs:(P.info? (P.elem t)).map (·.size)=some 41)
  (n: ∀b o vk vs vw vp vr vc vh vd vo vq,aG.one vk=true->aG.one vs=true->aG.one vw=true->aG.one vp=true->aG.one vr=true->aG.one vc=true->aG.one vh=true->aG.one vd=true->aG.one vo=true->aG.one vq=true->Sl w0 X0 5 vo (x.prog.map jr.l)->
   Cells w0 X0 b o (x.l vk vs vw vp vr vc vh vd vo vq)->x.at w0 X0 vk vs vw vp vr vc vh vd vo vq->N (ptr b o)):aZ P X w (oS t 41 v (.int .i64 z)) N:=
 Gq h hr hz ht hs λb o _ hc ⟨vk,vs,vw,vp,vr,vc,vh,vd,vo,vq,hl,h1⟩=>n b o vk vs vw vp vr vc vh vd vo vq h1.m.keys.one h1.m.seen.one h1.m.writes.one h1.m.parts.one h1.m.ranges.one h1.m.bp.one h1.m.iD.one h1.m.hU.one h1.po.one h1.p.one h1.po (hl▸hc) h1
abbrev rg1:eI:=⟨1,0,0,4602678819172646912⟩
abbrev rg2:eI:=⟨2,0,4602678819172646912,4607182418800017408⟩
abbrev Ml:List eI:=[rg1,rg2]
abbrev kEx:BA:=⟨#[107]⟩
abbrev B6:List jr:=[⟨4,⟨#[]⟩,⟨1,4607182418800017408,⟨#[]⟩⟩⟩,⟨2,kEx,.zero⟩]
abbrev Mm:tM:=[(1,rg1),(2,rg2)]
theorem SO:A6 Ml=0:=by kernel_rfl
theorem Rn:Ml.foldl iY []=Mm:=by kernel_rfl
theorem ama {i:Int} {r:eI} (h:getM i Mm=some r):r.id=i:=by
 have hm:=gK h;simp only[Mm,lQ,Prod.mk.injEq,dC,or_false] at hm;rcases hm with⟨rfl,rfl⟩|⟨rfl,rfl⟩<;>rfl
abbrev UE:Value:=.slice none 0 0
theorem UF (k:BA):fL [k]=[k]:=by
 simp[fL,bl]
theorem afL:fL []=[]:=by simp[fL]
theorem afM (k:Int):qk [k]=[k]:=by simp[qk]
theorem FE:fj 1 1 B6=[]:=by grind [lf,fj,afL]
theorem afN:fj 2 3 B6=[kEx]:=by
 have:B6.foldl (lf 2 3) []=[(kEx,1)]:=by kernel_rfl
 grind [fj,UF]
theorem abQ:nF B6=0:=by
 have:yU B6 0=0:=by kernel_rfl
 unfold nF;rw[if_neg dQ,if_neg zQ,FE,afN,if_neg dQ]
theorem amb:runM B6 [] []= .ok ([],[(kEx,⟨1,4607182418800017408,⟨#[]⟩⟩)]):=by rfl
abbrev wEx:CW:=[(kEx,⟨1,4607182418800017408,⟨#[]⟩⟩)]
theorem YM:oc Mm kEx=some rg1:=by kernel_rfl
theorem afO:EY wEx=[⟨kEx,⟨1,4607182418800017408,⟨#[]⟩⟩⟩]:=by
 unfold EY;rw[show(wEx.map (·.1))=[kEx] from rfl,UF];rfl
theorem aj9:tO B6 ⟨0,0,21⟩ 5 Mm=0:=by
 unfold tO;rw[abQ,FE];rfl
abbrev YN:bN:=⟨7,0,1⟩
abbrev Mn:bH:=⟨1,1,1⟩
theorem afP:(jw Mn YN [1]).fB=0:=by kernel_rfl
def Iu:bZ:=⟨4,1,21,Mn,1,0,0,YN,.zero,false,0,0,[],[],[],[],[],[],.zero⟩
theorem aka:Iu.err=0:=by rfl
theorem amc {st:State} (h1:st.iD=[]) (h2:st.hU=[]):st.small:=⟨by rw[h1];exact λ_ h=>absurd h sQ,by rw[h2];exact λ_ h=>absurd h sQ,by rw[h1];exact λ_ h=>absurd h sQ,by rw[h2];exact λ_ h=>absurd h sQ⟩
theorem afQ:Iu.small:=⟨by decide,by decide,by simp[Iu],by simp[Iu],amc rfl rfl⟩
theorem ahT:Iu.lens<=2^62:=by decide
theorem ahU:bN.later .zero YN=YN:=by rfl
theorem Mo:Ct pg 37 #[] w X nX λv wa w'=>Own w' (made wa w') wa.heap.size 48 4 v (Ml.map eI.l):=by
 intro w0 hk;refine Pv.1 λhs=>?_;repeat' refine ao ?_;intros
 refine Wg (rows:=Ml.map eI.l) (rg1.l++rg2.l).toArray eI.zero.v hs.has (bytes:=32) kQ kQ zQ zQ kQ sQ rfl rfl λv2 w2 X2 bm lv=>?_;exact cG (hs.trans bm) λFl aL=>(lv.kp aL).tight
end Go.Proofs.YtgfijddlkhkopaaGreat