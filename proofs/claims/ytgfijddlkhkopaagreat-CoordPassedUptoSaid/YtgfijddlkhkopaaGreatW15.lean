/-
 racelaw17.CoordPassed returns true, whatever it is called with, where what it reads is of bulk at most 1048576; the input reads as it did.
-/
import Derived.Shelf.SlIter.Nil
import Derived.Shelf.SlIterI.Nil
import Derived.Shelf.SortM.Plain
import Derived.Shelf.SortM.SortNone
import Derived.Shelf.SlSortCmp.WholeK
import Derived.Ground.GgzProg
import Derived.Ground.SlgmProg
import Derived.Ground.SlsfProg
import Derived.Shelf.SlGeneric
import Derived.Test.YtgfijddlkhkopaaGreatProg
import Derived.Test.YtgfijddlkhkopaaGreatW14
set_option linter.all false
open List renaming length_map → af, map_append → aC, mem_of_getElem? → ay, take_length → jW, length_take → aD, length_nil → br, take_add_one → bT, length_append → aa, length_cons → aL, mem_singleton → av, length_singleton → bR, not_mem_nil → dq, getElem?_map → cP, append_nil → gJ
open Nat renaming le_trans → ad, zero_le → aq, le_refl → au
open Classical renaming byContradiction → dB
open Bool renaming and_eq_true → aB
open Go.Proofs.SlLaysZI renaming n7 → qH
namespace Go.Proofs
open Go.Proofs.Tryz renaming prog → pg
open Go.Shelf
def Tryz.Uv:Go.Shelf.Ren:=⟨fun|7=>121|10=>176|n=>n,fun|23=>222|26=>3|3=>48|28=>220|0=>0|27=>219|33=>190|4=>4|n=>n,fun|n=>n⟩
theorem Tryz.aox:qH pg Tryz.Uv:= {
 mixed:=by kernel_rfl
 f7:=⟨Tryz.f121.name,by decide,Tryz.func121.trans Go.aK.kS⟩
 f10:=⟨Tryz.f176.name,by decide,Tryz.func176.trans Go.aK.kS⟩
 t0:=Tryz.underlying0
 a0:=Tryz.isAgg0
 z0:=Tryz.sizeOf0
 v0:=Tryz.zeroValue0
 t4:=Tryz.underlying4
 a4:=Tryz.isAgg4
 z4:=Tryz.sizeOf4
 v4:=Tryz.zeroValue4
 t23:=Tryz.underlying222
 a23:=Tryz.isAgg222
 z23:=Tryz.sizeOf222
 v23:=Tryz.zeroValue222
 t26:=Tryz.underlying3
 a26:=Tryz.isAgg3
 z26:=Tryz.sizeOf3
 v26:=Tryz.zeroValue3
 t27:=Tryz.underlying219
 a27:=Tryz.isAgg219
 z27:=Tryz.sizeOf219
 v27:=Tryz.zeroValue219
 t28:=Tryz.underlying220
 a28:=Tryz.isAgg220
 z28:=Tryz.sizeOf220
 v28:=Tryz.zeroValue220
 t33:=Tryz.underlying190
 a33:=Tryz.isAgg190
 z33:=Tryz.sizeOf190
 v33:=Tryz.zeroValue190 }
end Go.Proofs
namespace Go.Proofs.YtgfijddlkhkopaaGreat
open Go.Proofs.Tryz renaming prog → pg
open Go.aK Go.Maps Go.Shelf
set_option maxRecDepth 100000
set_option maxHeartbeats 4000000
section
variable {P : Program} {R : Ending -> World -> Prop} {X : XS} {w : World} {m : Bool}
theorem YO {src dst e u:Nat} {l:List Nat} {v:Value} {N:Value->World->XS->Prop} (h:Ow w X u 1 v (l.map U1)) (hs:P.underlying src=some (.slice e)) (he:P.underlying e=some (.int .u8)) (hd:P.underlying dst=some .string)
  (hX: ∀k,X k->k<w.heap.size) (n: ∀w' X',ai X w X' w'->N (.string (zV l)) w' X'):eV P R X w m (convert src dst v) N:=by
 by_cases hl:l=[]
 ·subst hl;intro wa hk;have hr:(convert src dst v).run P wa= .ok (.string (zV [])) wa:=by
   obtain⟨_,⟨rfl,_⟩|⟨g,off,cap,cur,rfl,_⟩⟩:=h
   ·exact run_convert_bytes_nil wa src e hs he 0 0 dst hd
   ·exact run_convert_bytes_arg wa src e hs he g off 0 cap [] rfl (λi hi=>absurd hi (Nat.not_lt_zero _)) dst hd
  unfold jA;simp only[vS,Sem.run_bind,hr,Result.andThen_ok,Sem.run_pure];have hx:=Ext.refl wa;exact⟨Step.eP hx,n _ _ (ai.eP hX hk hx)⟩
 ·have cA:l.map U1≠[]:=λe=>hl (by simpa using e);obtain⟨_,_,base,cap,rfl,hc,_⟩:=h.sl;obtain⟨g,o,rfl,jm⟩:=hc cA;rw[Xf] at jm;exact MG (by rw[af]) jm hs he hd hX n
end
set_option maxRecDepth 100000
set_option maxHeartbeats 1000000
attribute [local irreducible] un jn jc iE ld1 iw st1 kY kZ oP rF o9 Hg Dz gO ga aV lK lB eW eV eU eC eF gE me fin iu bu eB vS Kz Hh Hi Hj Hk Hl KA KB KC KD Et Eu Hm Hn Ho KE KF KG
theorem akC {w:World} {X:XS} {mb:Nat} :Ct pg 121 #[.map (some mb)] w X nX λv wa w'=> ∃bx,v= .func (.func 176) #[] #[ptr bx 0]/\aG w' (made wa w') bx [.map (some mb)] 222:=by
 intro w0 hk;refine tw.1 λhs=>?_;refine sP rfl hs.has λbx w1 X1 fY ax bo=>?_;repeat' refine ak ?_;intros
 exact bM ax λwa aH=>⟨bx,rfl,⟨fY,(bo.kp aH).lt⟩,(bo.kp aH).2⟩
theorem afP {w:World} {X A:XS} {mb bx:Nat} {α:Type} {rd:World->XS->Value->α->Prop} {l:List (Int×α)} (h:dM w X A mb zp rd l) (hb:aG w X bx [.map (some mb)] 222)
  (hs: ∀x∈l,-(2^63)<=x.1/\x.1<2^63) (hl:l.length<=2^40):
  Ct pg 120 #[.func (.func 176) #[] #[ptr bx 0]] w X nX λv wa w'=>Own w' (made wa w') wa.heap.size 3 1 v ((mW (l.map (·.1))).map I1):=
 Uw h kQ hs hl λwa hk nn D0 uV=>
  AnyZI.keys_gives (ρ:=Tryz.Uv) { Tryz.aox with } Fence.wide _ trivial rfl zQ bx mb nn D0 wa (hb.kp hk).lt (by have:=(hb.kp hk).2;simp[World.cell?,this]) uV
def MT (ds:pc):List dR:=(mW (ds.map (·.1))).map λid=>(getM id ds).getD dR.zero
theorem pig: ∀(k:Nat) (l:List Int),l.Nodup->(∀x∈l,1<=x/\x<=k)->l.length<=k
 |0,l,_,h=>by
  cases l with
  |nil=>exact au _
  |cons x l=>have:=h x sQ;omega
 |k+1,l,hn,h=>by
  by_cases hm:((k+1:Nat):Int)∈l
  ·have q:=pig k (l.erase ((k+1:Nat):Int)) (hn.erase _) λx hx=>by
    obtain⟨h1,h2⟩:=(hn.mem_erase_iff).1 hx;have:=h x h2;omega
   rw[List.length_erase_of_mem hm] at q;omega
  ·have q:=pig k l hn λx hx=>by
    have:=h x hx;have:x≠((k+1:Nat):Int):=λe=>hm (e▸hx);omega
   omega
section
variable {w w' wa w0 : World} {X X' D : XS} {own aI bZ : Nat -> Nat} {n n' : bE} {db mb : Nat} {ds : pc}
theorem ad1 (h:kJ w X db mb ds) (hd: ∀x∈ds,1<=x.1/\x.1<=32):
  Ct pg 72 #[ptr db 0] w X nX λv wa w'=>Own w' (made wa w') wa.heap.size 48 4 v ((MT ds).map dR.l):=by
 intro w0 hk;replace h:=h.mv hk.bY;have bo:=h.row;have hl:ds.length<=32:=by
  have:=pig 32 (ds.map (·.1)) h.map.nodup λx hx=>by
   obtain⟨y,hy,rfl⟩:=List.mem_map.1 hx;exact hd y hy
  rwa [af] at this
 have tZ:(mW (ds.map (·.1))).length=ds.length:=by rw[(mg _).length_eq,af]
 refine Q3.1 λhs=>?_;repeat' refine ak ?_;intros
 refine cd akC kQ hs.has ?_;rintro _ Cv w1 X1 ⟨bx,rfl,fY⟩ pa mB ax;refine cd (afP (h.mv ax.mv).map (fY.mono mB) (λx hx=>by have:=hd x hx;omega) zQ) kQ ax.has ?_;rintro vl vM w2 X2 ju kF jt bp;obtain⟨ks,zj⟩: ∃ks,ks=mW (ds.map (·.1)):=⟨_,rfl⟩;rw[<-zj] at ju tZ;have mu:Sl w2 X2 1 vl (ks.map I1):=(ju.mono jt).sl;have hkm: ∀id∈ks,id∈ds.map (·.1):=λid h=>(mg _).mem_iff.1 (zj▸h);have er:MT ds=ks.map λid=>(getM id ds).getD dR.zero:=by rw[zj];rfl
 rw[er];have fv:=ax.trans bp;clear hs;have hs:=ai.eQ bp.has;repeat' refine ak ?_;intros
 refine gv (λk a v w X=> ∃i:Nat,a=I i/\k=ks.length-i/\i<=ks.length/\ai X2 w2 X w/\Own w X w2.heap.size 48 4 v (((ks.take i).map λid=>(getM id ds).getD dR.zero).map dR.l)) ks.length
  ⟨0,rfl,rfl,aq _,hs,Own.nil _ _ _ _ _⟩ ?_
 clear hs;rintro k _ v w3 X3 ⟨i,rfl,rfl,hi,hs,ho⟩;rcases dE ks i with⟨cD,id,sR,YP⟩|⟨dD,YP⟩
 ·repeat' refine aJ ?_;intros
  refine lO (kt:=3) (et:=48) dR.zero.v (h.mv (fv.trans hs).mv).map xS kQ kQ (λv9 r hg hv=>?_) (λhn=>?_)
  ·simp only[F9] at hv;subst hv;repeat' first|refine ak ?_;intros|((with_reducible apply abU);(case own=>first|assumption|exact Own.since aQ aQ);(case hs=>assumption);(case h0=>first|exact λ_ h=>h|exact fv.has);(case he=>kernel_rfl);(case hk=>rfl);(case h1=>exact qE);(case hb=>(simp only[af,aD,aa,aL,br];omega));(case hl=>(simp only[af,aD,aa,aL,br];omega));intro acc w X ax ho hc dF;replace hs:=ax)
   exact fw (ks.length-(i+1)) zQ ⟨i+1,congrArg I zQ,rfl,by omega,hs,by rw[bT,sR,aC,aC];simpa [hg] using ho⟩
  ·exact absurd (hkm id (ay sR)) (getM_none.1 hn)
 ·obtain rfl:i=ks.length:=by omega
  rw[jW] at ho;repeat' refine aJ ?_;intros
  exact bM (fv.trans hs) λwa aH=>((ho.low (by have:=fv.kp.size;omega)).kp aH).tight
theorem Pa {w:World} {X:XS} {a b:Value} {xs ys:List dR} (ha:Sl w X 4 a (xs.map dR.l)) (hb:Sl w X 4 b (ys.map dR.l)):
  Ct pg 34 #[a,b] w X nX λv _ _=>v=B (decide (xs=ys)):=by
  intro w0 hk;replace ha:=ha.mv hk.bY;replace hb:=hb.mv hk.bY;have kn:=ha.gR;refine Nh.1 λhs=>?_;repeat' first|refine ak ?_;intros|refine cM ?_ ?_<;>intros|(refine qr ?_;intro wa hk;(simp only[B,Value.bool.injEq];symm;rw[decide_eq_false_iff_not];rintro rfl;omega))
  have hlen:xs.length=ys.length:=by omega
  refine eY (λn a w X=> ∃i:Nat,a=I (i:Nat)/\n=(xs).length-i/\i<=(xs).length/\ai (bI w0) w0 X w/\(xs=ys↔xs.drop i=ys.drop i)) (xs).length ⟨0,rfl,rfl,aq _,hs,by simp⟩ ?_;rintro n a w X ⟨i,rfl,rfl,hi,hs,hw⟩;rcases dE (xs) i with⟨cD,x,hx,hd⟩|⟨dD,hd⟩
  ·obtain⟨y,hy,hdy⟩:=MS (xs:=ys) (i:=i) zQ;repeat' first|refine aJ ?_;intros|(refine j5 (F8 _ _) hs ?_ ?_<;>intro _ w X hs)|(refine qr ?_;intro wa hk;(simp_all [decide_true]))|((with_reducible refine ep ((xs).length-(i+1)) ?_ ?_);omega;exact⟨i+1,by simp,rfl,by omega,hs,by simp_all [decide_true]⟩)
  ·have hdy:=List.drop_of_length_le (l:=ys) (i:=i) zQ;repeat' first|refine aJ ?_;intros|(refine qr ?_;intro wa hk;simp_all)
theorem HR (h:jd w own n) (hX:qW own X) (hd: ∀x∈n.ds,1<=x.1/\x.1<=32):
  Ct pg 32 #[ptr n.nb 0] w X nX λv wa w'=>Own w' (made wa w') wa.heap.size 48 4 v ((MT n.ds).map dR.l):=by
 intro w0 hk;have s0:=St.init h hX hk;clear h hX hk;have bo:=s0.v.1;have adn:kJ w0 (bI w0) n.c.R9 n.mb n.ds:=(show kJ w0 (bN own 2) n.c.R9 n.mb n.ds from s0.get 2).mv (Mv.sub (s0.sub 2));refine IH.1 λhs=>?_;repeat' refine ak ?_;intros
 refine cd (ad1 adn hd) kQ hs.has ?_;rintro v wa w1 X1 ho hle gn ax;exact bM ax λEI aH=>(((ho.low hle).mono gn).kp aH).tight
abbrev HS:=ByteArray×List Nat×Nat
abbrev flT:Nat:=155
abbrev Q4 (z:HS×Value):List Value:=[.string z.1.1,z.2,I z.1.2.2]
def DM.file (m:DM) (n:ByteArray):HS:=(n,m.bytes n,((m.get n).map (·.2)).getD 0)
def DM.files (m:DM):List HS:=(fG (m.fs.map (·.1))).map m.file
def HT (w:World) (K:XS) (zs:List (HS×Value)) (fs:List HS):Prop:=zs.map (·.1)=fs/\ ∀z∈zs,Ow w K 5 1 z.2 (z.1.2.1.map U1)
def HT.mv {K K':XS} {zs:List (HS×Value)} {fs:List HS} (h:HT w K zs fs) (m:Mv K w K' w'):HT w' K' zs fs:=⟨h.1,λz hz=>(h.2 z hz).mv m⟩
theorem HT.snoc {K:XS} {zs:List (HS×Value)} {fs:List HS} {r:HS} {vp:Value} (h:HT w K zs fs) (hp:Ow w K 5 1 vp (r.2.1.map U1)):HT w K (zs++[(r,vp)]) (fs++[r]):=by
 refine⟨by rw[aC,h.1];rfl,λz hz=>?_⟩;rcases List.mem_append.1 hz with hz|hz
 ·exact h.2 z hz
 ·rw[av] at hz;subst hz;exact hp
theorem LK {F:XS} {m:DM} (h:Dk w F db m) (hF:FX F X w) (hn: ∀x∈m.fs,x.1.size<=2^40) (hl:m.fs.length<=2^40):
  Ct pg 31 #[ptr db 0] w X nX λv wa w'=> ∃zs,Own w' (made wa w') wa.heap.size flT 3 v (zs.map Q4)/\HT w' (made wa w') zs m.files:=by
 intro w0 hk;obtain⟨mb,l,h0,hz⟩:=h.mv (hF.mv hk);have hX:=λk ah=>(hF.kp hk k ah).1;have hb:=h0.box.mv (Mv.sub hX);have hm:=h0.map.mv kP (Mv.sub hX) (A':=nX) λ_ h=>h.elim;refine LL.1 λhs=>?_
 skip
 refine cd (Gy ⟨mb,l,h0,hz⟩ (hF.kp hk) hn hl) kQ hs.has ?_;rintro vl vM w2 X2 ju kF jt bp;obtain⟨ks,zj⟩: ∃ks,ks=fG (m.fs.map (·.1)):=⟨_,rfl⟩;rw[<-zj] at ju;have mu:Sl w2 X2 1 vl (ks.map S1):=(ju.mono jt).sl;have xD: ∀n∈ks,∃x,m.get n=some x:=λn h=>by
  have:=(jx (m.fs.map (·.1))).mem_iff.1 (zj▸h);cases hg:m.get n with
  |some x=>exact⟨x,rfl⟩
  |none=>exact absurd this (getM_none.1 hg)
 have er:m.files=ks.map m.file:=by rw[zj];rfl
 rw[er];have tZ:ks.length<=2^40:=by rw[zj,(jx _).length_eq,af];exact hl
 have fv:=bp;clear hs;have hs:=ai.eQ bp.has;repeat' refine ak ?_;intros
 refine gv (λk a v w X=> ∃(i:Nat) (zs:List (HS×Value)) (K:XS),a=I i/\k=ks.length-i/\i<=ks.length/\ai X2 w2 X w/\Own w X w2.heap.size flT 3 v (zs.map Q4)/\(∀k,K k->w2.heap.size<=k/\X k/\ ¬fc v k)/\HT w K zs ((ks.take i).map m.file)) ks.length
  ⟨0,[],nX,rfl,rfl,aq _,hs,Own.nil _ _ _ _ _,λk hk=>hk.elim,rfl,λz hz=>absurd hz sQ⟩ ?_
 clear hs;rintro k _ v w3 X3 ⟨i,zs,K,rfl,rfl,hi,hs,ho,hK,hR⟩;rcases dE ks i with⟨cD,n,hni,YP⟩|⟨dD,YP⟩
 ·repeat' refine aJ ?_;intros
  refine qY (hm.mv kP (fv.trans hs).mv (A':=nX) λ_ h=>h.elim) (λf hf=>?_) λhf=>?_
  ·have lx:m.get n=some (f.bs,f.safe):=by rw[h0.get n,hf];rfl
   have hr:=(h0.row _ (gA hf)).mv (Mv.sub hX);have OP:=((h0.ow _ (gA hf)).mono hX).sl;have hle:=DM.Au lx;have uJ:m.file n=(n,f.bs,f.safe):=by unfold DM.file DM.bytes;rw[lx];rfl
   have cY:=hs;have TW:=ho;have Cs:aG w3 X3 f.b [f.v,I f.safe] 153:=hr.mv (fv.trans hs).mv;have aoy:Sl w3 X3 1 f.v (f.bs.map U1):=OP.mv (fv.trans hs).mv;have yA:(f.bs.map U1).length<=4194304:=by rw[af];omega
   clear ho hs hr OP;have hs:=ai.eQ bp.has;repeat' refine ak ?_;intros
   refine ajA (bytes:=1) cY.has kQ aoy (λr hr u hu=>?_) zQ zQ λv8 w8 X8 jZ yJ=>?_
   ·obtain⟨x,_,rfl⟩:=List.mem_map.1 hr;simp at hu;subst hu;rfl
   obtain⟨g1,g2,g3,rfl⟩: ∃a b c,v8= .slice a b c:=by
    obtain⟨_,⟨e,_⟩|⟨_,_,_,_,e,_⟩⟩:=yJ<;>exact⟨_,_,_,e⟩
   clear hs;have hs:=ai.eQ jZ.has;repeat' first|refine ak ?_;intros|(refine q1e hs ?_;intro _ _ _ w X hs ho)
   have Pb:=jZ.trans hs;have hlen:=congrArg List.length hR.1;rw[af,af,aD] at hlen;refine Ec (bytes:=48) (TW.since Pb) hs.has (by have:=cY.kp.size;have:=Pb.kp.size;omega) kQ ho.sl (λr hr u hu=>?_) (by simp only[bR,af];omega) (by simp only[bR,af];omega) λv5 w5 X5 c5 sW ua=>?_
   ·rw[av] at hr;subst hr;simp only[List.mem_cons,dq,or_false] at hu;rcases hu with rfl|rfl|rfl<;>rfl
   have hv: ∀k,fc v k->k<w3.heap.size:=λk e=>(TW.ge e).2;have sz:w3.heap.size<=w.heap.size:=Pb.kp.size;have Qt: ∀k,¬fc v k->k<w.heap.size-> ¬fc v5 k:=λk h hl h5=>by
    have h5:v5.ownBlock=some k:=h5;rcases ua with e|⟨g,e,dD⟩
    ·exact h (by rw[e] at h5;exact h5)
    ·rw[e] at h5;cases h5;omega
   have hA: ∀k,K k->X k/\k<w.heap.size:=λk hk=>⟨Pb.sub k (hK k hk).2.1,hs.has k (Pb.sub k (hK k hk).2.1)⟩;have hB: ∀k,BE w3 X8 k->X k/\k<w.heap.size/\ ¬fc v k:=λk hk=>⟨hs.sub k hk.1,hs.has k (hs.sub k hk.1),λe=>by have:=hv k e;have:=hk.2;omega⟩;have aqO:ai X2 w2 X5 w5:=(cY.trans Pb).dY c5 λk hk e=>by have:=(TW.ge e).1;have:=bp.has k hk;omega
   have hR5:HT w5 (λk=>K k\/BE w3 X8 k) (zs++[((n,f.bs,f.safe),.slice g1 g2 g3)]) ((ks.take (i+1)).map m.file):=by
    have e:(ks.take (i+1)).map m.file=(ks.take i).map m.file++[(n,f.bs,f.safe)]:=by rw[bT,hni,aC,<-uJ];rfl
    rw[e];exact HT.snoc (hR.mv λk hk _=>⟨.inl hk,(c5.block k (hA k hk).1 (hK k hk).2.2).trans (Pb.kp.block k (hK k hk).2.1)⟩) (yJ.mv λk hk _=>⟨.inr hk,(c5.block k (hB k hk).1 (hB k hk).2.2).trans (hs.kp.block k hk.1)⟩)
   clear hs;have hs:=ai.eQ c5.has;repeat' refine ak ?_;intros
   exact fw (ks.length-(i+1)) zQ ⟨i+1,_,_,congrArg I zQ,rfl,by omega,aqO,by rw[aC];exact sW,λk hk=>hk.elim (λhk=>⟨(hK k hk).1,c5.sub k (hA k hk).1,Qt k (hK k hk).2.2 (hA k hk).2⟩) λhk=>⟨ad cY.kp.size hk.2,c5.sub k (hB k hk).1,Qt k (hB k hk).2.2 (hB k hk).2.1⟩,hR5⟩
  ·obtain⟨x,hx⟩:=xD n (ay hni);rw[h0.get n,hf] at hx;cases hx
 ·obtain rfl:i=ks.length:=by omega
  rw[jW] at hR;repeat' refine aJ ?_;intros
  exact bM (fv.trans hs) λwa aH=>⟨zs,((ho.low (by have:=fv.kp.size;omega)).kp aH).tight,hR.mv λk hk _=>⟨⟨ad fv.kp.size (hK k hk).1,Nat.lt_of_lt_of_le (hs.has k (hK k hk).2.1) aH.size⟩,aH.block k (hK k hk).2.1⟩⟩
theorem Q5 {a b:Value} {zs zt:List (HS×Value)} {fs:List HS} (ha:Sl w X 3 a (zs.map Q4)) (hb:Sl w X 3 b (zt.map Q4)) (hz:HT w X zs fs) (ht:HT w X zt fs):
  Ct pg 33 #[a,b] w X nX λv _ _=>v=B true:=by
 intro w0 hk;replace ha:=ha.mv hk.bY;replace hb:=hb.mv hk.bY;replace hz:=hz.mv hk.bY;replace ht:=ht.mv hk.bY;have kn:=ha.gR;have hlen:zs.length=zt.length:=by have:=congrArg List.length (hz.1.trans ht.1.symm);simpa using this
 refine Pc.1 λhs=>?_;repeat' refine aJ ?_;intros
 refine eY (λn a w X=> ∃i:Nat,a=I i/\n=zs.length-i/\i<=zs.length/\ai (bI w0) w0 X w) zs.length ⟨0,rfl,rfl,aq _,hs⟩ ?_;clear hs;rintro n _ w1 X1 ⟨i,rfl,rfl,hi,hs⟩
 show(aV _ _ _ _ _:Prop)
 rcases dE zs i with⟨cD,z,hzi,hd⟩|⟨dD,hd⟩
 ·obtain⟨z',sK⟩: ∃z',zt[i]? =some z':=⟨_,List.getElem?_eq_getElem zQ⟩;have h1:=(hz.2 z (ay hzi)).mv hs.mv;have h2:=(ht.2 z' (ay sK)).mv hs.mv;have he:z.1=z'.1:=by
   have:(zs.map (·.1))[i]? =(zt.map (·.1))[i]? :=by rw[hz.1,ht.1]
   rw[cP,cP,hzi,sK] at this;simpa using this
  obtain⟨r,v⟩:=z;obtain⟨r',v'⟩:=z';obtain rfl:r=r':=he;have o1:=h1.sl.one;have o2:=h2.sl.one;repeat' first|refine aJ ?_;intros|refine cM ?_ ?_<;>intros|with_reducible apply cB|(exfalso;simp_all;done)
  refine And.intro ?_ ?_;all_goals
   repeat' first|refine ak ?_;intros|with_reducible apply cB
   refine YO (e:=5) (by first|exact h1|exact h2) kQ kQ kQ hs.has λw2 X2 bp=>?_;repeat' first|refine ak ?_;intros|with_reducible apply cB
   refine YO (e:=5) (by first|exact h1.mv bp.mv|exact h2.mv bp.mv) kQ kQ kQ bp.has λw3 X3 cY=>?_;replace hs:=(hs.trans bp).trans cY;repeat' first|refine ak ?_;intros|refine cM ?_ ?_<;>intros|(exfalso;simp_all;done)
   exact ep (zs.length-(i+1)) zQ ⟨i+1,congrArg I zQ,rfl,by omega,hs⟩
 ·repeat' refine aJ ?_;intros
  exact bM hs λwa aH=>rfl
end
def xT (ds:pc):Prop:= ∀x∈ds,1<=x.1/\x.1<=32
theorem xT.aoz {ds:pc} {r:dR} (h:xT ds):xT (ib ds r):=by
 unfold ib;split
 ·rename_i hm;have hr:1<=r.id/\r.id<=32:=by
   unfold dR.may at hm;simp only[aB,decide_eq_true_eq] at hm;omega
  have hp:xT (cL r.id r ds):=λx hx=>by
   have hk:x.1∈(cL r.id r ds).map (·.1):=List.mem_map.2 ⟨x,hx,rfl⟩;rw[uK] at hk;have:x.1∈ds.map (·.1)\/x.1=r.id:=by
    split at hk
    ·exact .inl hk
    ·rcases List.mem_append.1 hk with hk|hk
     ·exact .inl hk
     ·exact .inr (List.mem_singleton.1 hk)
   rcases this with h1|h1
   ·obtain⟨y,hy,e⟩:=List.mem_map.1 h1;rw[<-e];exact h y hy
   ·rw[h1];exact hr
  split
  ·split
   ·exact h
   ·exact hp
  ·exact hp
 ·exact h
theorem xT.fold: ∀{l:List dR} {ds:pc},xT ds->xT (l.foldl ib ds)
 |[],_,h=>h
 |r::l,ds,h=>(xT.fold (l:=l) (ds:=ib ds r) (xT.aoz h):xT (l.foldl ib (ib ds r)))
def CS.Ux:CS->Prop
 | .up n=>xT n.ds
 | .dn _ _ _=>True
section
variable {n n1 : bE} {m : cO} {k N : Nat}
theorem DR.ds {pp:Bool} (h:xT n.ds) (hG:DR n m pp n1):xT n1.ds:=by
 obtain⟨_,_,_,_,_,_,_,_,rfl⟩:=hG;exact h.fold
theorem wY.Ux (h:xT n.ds) (hS:wY n m n1):xT n1.ds:=by
 rcases hS with⟨_,rfl⟩|⟨_,_,⟨_,h1⟩|⟨_,h1⟩|⟨_,h1⟩|⟨_,h1⟩|⟨_,_,_,_,rfl⟩⟩
 ·exact h
 ·rcases h1 with⟨_,rfl⟩|hG|⟨_,_,_,_,_,_,_,_,_,rfl,⟨_,rfl⟩|⟨_,_,⟨_,_,_,_,_,_,rfl,_⟩|⟨_,_,_,_,_,_,_,_,_,_,_,_,rfl,_⟩,rfl⟩⟩
  ·exact h
  ·exact hG.ds h
  all_goals exact h
 ·rcases h1 with⟨_,rfl,_⟩|hG|⟨_,_,_,_,_,_,_,_,rfl,⟨_,rfl⟩|⟨_,⟨_,_,_,_,_,rfl,_⟩|⟨_,_,_,_,_,_,_,_,_,_,_,rfl,_⟩⟩⟩
  ·exact h
  ·exact hG.ds h
  all_goals exact h
 ·rcases h1 with rfl|⟨_,_,_,_,⟨_,rfl⟩|⟨_,_,rfl⟩⟩<;>exact h
 ·rcases h1 with⟨_,rfl⟩|⟨_,_,_,rfl,_⟩<;>exact h
 ·exact h
theorem ah3:xT HK:=λx hx=>by
 simp only[HK,List.mem_cons,dq,or_false] at hx;rcases hx with rfl|rfl<;>decide
theorem Ys.Ux {s s1:CS} {o:lu} {t:bL} (h:s.Ux) (hR:Ys s o t s1):s1.LF.Ux:=by
 cases s with
 |up n=>
  have h:xT n.ds:=h;rcases hR with⟨_,_,n1,rfl,hC⟩|⟨hk,_,⟨n1,rfl,hC⟩|⟨m',rfl,hF⟩⟩|⟨_,_,n1,rfl,hC⟩|⟨_,_,rfl⟩|⟨_,_,n1,rfl,hB⟩|⟨_,_,rfl⟩
  ·obtain⟨_,_,_,_,_,_,_,_,_,rfl,_⟩:=hC;exact h
  ·show xT n1.ds
   exact wY.Ux h hC
  ·trivial
  ·obtain⟨ts,n2,_,h1,h2⟩:=hC
   show xT n1.ds
   rw[h2.calm.2.1,h1.calm.2.1];exact h
  ·exact h
  ·show xT n1.ds
   rw[hB.ds];exact ah3
  ·exact h
 |dn nb m P=>
  rcases hR with⟨_,_,n1,a,rfl,hP,_,hB⟩|⟨_,_,rfl⟩
  ·show xT n1.ds
   rw[hB.ds];exact ah3
  ·trivial
theorem wY.pass (sR:n.c.id=1) (lR: ¬(m.to=21/\(getM m.aO n.al≠none\/m.kind=7\/m.kind=6))) (hS:wY n m n1): ∃iq,n1= { n with ck:=iq } :=by
 rcases hS with⟨_,rfl⟩|⟨_,su,h1⟩
 ·exact⟨_,rfl⟩
 ·rw[sR] at su;have hn:getM m.aO n.al=none:=dB λe=>lR ⟨su,.inl e⟩;have KJ: ∀{pp},DR n m pp n1-> ∃iq,n1= { n with ck:=iq } :=λ⟨_,_,_,_,_,hb,_⟩=>by rw[hn] at hb;cases hb
  have wait: ∀{pp b i y},DS n m pp b i y-> ∃iq,n1= { n with ck:=iq } :=λhw=>by have:=hw.g;rw[hn] at this;cases this
  rcases h1 with⟨_,⟨_,rfl⟩|hG|⟨_,_,_,_,_,_,_,_,hw,_⟩⟩|⟨_,⟨_,rfl,_⟩|hG|⟨_,_,_,_,_,_,_,hw,_⟩⟩|⟨hk,_⟩|⟨hk,_⟩|⟨_,_,_,_,rfl⟩
  ·exact⟨_,rfl⟩
  ·exact KJ hG
  ·exact wait hw
  ·exact⟨_,rfl⟩
  ·exact KJ hG
  ·exact wait hw
  ·exact absurd ⟨su,.inr (.inr hk)⟩ lR
  ·exact absurd ⟨su,.inr (.inl hk)⟩ lR
  ·exact⟨_,rfl⟩
theorem DW.pass {m':DM} (sR:n.c.id=1) (lR: ¬(m.to=21/\(getM m.aO n.al≠none\/m.kind=7\/m.kind=6))) (hF:DW n m m'):False:=by
 obtain⟨_,su,h1⟩:=hF;rw[sR] at su;rcases h1 with⟨_,_,_,_,hw,_⟩|⟨hk,_⟩
 ·exact lR ⟨su,.inl (by rw[hw.g];simp)⟩
 ·exact lR ⟨su,.inr (.inr hk)⟩
def afQ: ∀{a b:List bL},a.Perm b->a.Pairwise (λx y=>y.less x=false)->b.Pairwise (λx y=>y.less x=false)->a=b:=λhp h1 h2=>hp.eq_of_pairwise (λ_ _ _ _ e1 e2=>bL.acn e2 e1) h1 h2
end
section
variable {w w' wa w0 : World} {X X' G K K' F T T' : XS} {own aI bZ : Nat -> Nat} {n n' : bE} {b : Nat} {t0 : bL} {db : Nat} {m : DM} {s s' : CS}
theorem Ni {a:Value} {ops:List lu} {mm:cO} {vk vs vw vp vr vc vh vd:Value} (ha:fp w X 41 a lu.rd ops) (En:mm.at w X vk vs vw vp vr vc vh vd) (hm: ∀o∈ops,adS o) (lX:mm.small) (zm:mm.lens<=2^62) (as0:zW ops+mm.seen.length<=2^20):
  Ct pg 8 #[a,mm.v vk vs vw vp vr vc vh vd] w X nX λv _ _=>v=B true:=by
 have key: ∀w0,Kp X w w0->Calls pg 8 #[a,mm.v vk vs vw vp vr vc vh vd] w0 (uF (gy λk=>if k<w0.heap.size then 4 else 0) w0 λv _=>v=B true):=by
  intro w0 hk;replace ha:=fp.mv ha lu.mv hk.bY;replace En:=En.mv hk.bY;have kn:=ha.len;clear hk;have o1:=En.keys.one;have o2:=En.seen.one;have o3:=En.writes.one;have o4:=En.parts.one;have o5:=En.ranges.one;have o6:=En.bt.one;have o7:=En.iz.one;have o8:=En.gX.one;obtain⟨bZ,ad2⟩: ∃bZ:Nat->Nat,bZ=λk=>if k<w0.heap.size then 4 else 0:=⟨_,rfl⟩
  rw[<-ad2];have Lo:Ft w0 (gy bZ) w0 (bI w0) nX:=(Ft.init λk hk=>by rw[ad2] at hk;exact dB λhl=>hk.1 (if_neg hl)).less λk hk=>hk.elim;have fv:=Lo.s;refine Fc.1 λhs=>?_
  skip
  refine dL ui kQ hs.has λw1 X1 ax=>?_;have ea:=Lo.since ax;clear hs;have hs:=ai.eQ ax.has;repeat' refine ak ?_;intros
  refine cd (adR (ha.mv lu.mv ax.mv)) kQ ax.has ?_;rintro _ vM w2 X2 ⟨b1,rfl,lL⟩ kF jt bp;have dh:=ea.since bp;clear hs;have hs:=ai.eQ bp.has;cases b1 with
  |false=>
   repeat' first|refine ak ?_;intros|with_reducible apply cB
   refine dL ui kQ bp.has λw3 X3 cY=>?_;exact(dh.since cY).fin λwa nD=>rfl
  |true=>
   have wI:=lL rfl;repeat' first|refine ak ?_;intros|with_reducible apply cB
   refine cd (CY (m:=mm) (En.mv (ax.trans bp).mv)) kQ bp.has ?_;rintro _ yD w3 X3 ⟨z3,rfl⟩ pV lT cY;have dU:=dh.since cY;clear hs;have hs:=ai.eQ cY.has;repeat' first|refine ak ?_;intros|refine cM ?_ ?_<;>intros
   ·refine dL ui kQ cY.has λw4 X4 fV=>?_;exact(dU.since fV).fin λwa nD=>rfl
   refine cd aaS kQ cY.has ?_;rintro _ zk w4 X4 ⟨lD,n4,hmd,Uy,rfl,aqP,hB4⟩ tr oH fV;have fO:=dU.since fV;have hle:w0.heap.size<=zk.heap.size:=ad dU.s.kp.size tr;subst ad2;obtain⟨mE,q5⟩:=LS.init (s:=.up n4) (db:=n4.db) fO (λk hk=>⟨hmd k hk,oH k (hmd k hk)⟩) hle ⟨Uy,rfl⟩;have aqQ:(CS.up n4).Ux:=by show xT n4.ds;rw[hB4.ds];exact ah3
   generalize n4.db=db at q5;clear hs Lo ea dh dU fO hmd Uy;have hs:=q5.rf;repeat' refine ak ?_;intros
   refine gv (λn a b w X=> ∃(i:Nat) (aI:Nat->Nat) (s:CS),a=I i/\b=ptr s.nb 0/\n=ops.length-i/\i<=ops.length/\LS w0 (λk=>if k<w0.heap.size then 4 else 0) nX w X aI db s/\CS.Ok (i+1) (zW (ops.take i)) s/\s.Ux) ops.length
    ⟨0,mE,.up n4,rfl,rfl,rfl,aq _,q5,aqP,aqQ⟩ ?_
   rintro n _ _ w5 X5 ⟨i,sy,s6,rfl,rfl,rfl,hi,q6,ah4,amy⟩;clear q5 hs;have hs:=q6.t.s;have SC:Mv (out (gy λk=>if k<w0.heap.size then 4 else 0) w0) w0 (bN sy 4) w5:=λk hk _=>⟨(q6.e k hk.1).2 (if_pos hk.1),q6.t.s.kp.block k hk⟩;have ow0:Mv (bI w0) w0 (out (gy λk=>if k<w0.heap.size then 4 else 0) w0) w0:=λk hk _=>⟨⟨hk,λh=>h.2 (if_pos hk)⟩,rfl⟩;have haO:fp w0 (out (gy λk=>if k<w0.heap.size then 4 else 0) w0) 41 a lu.rd ops:=ha.mv lu.mv ow0;rcases dE (ops) i with⟨cD,x,hx,hd⟩|⟨dD,hd⟩
   ·have hxo:=hm x (ay hx);have oC:=ako hx;repeat' first|refine aJ ?_;intros|(with_reducible apply E2);(case h=>exact haO);(case hr=>exact hx);(case hz=>rfl);(case ht=>kernel_rfl);(case hs=>kernel_rfl);intros
    refine q6.act (o:=x) ah4 (q6.op aQ) hxo zQ zQ λv w6 X6 Dd s7 q7 hP _ _=>?_;obtain⟨s8,t,rfl,hO,aqR,rfl,hR⟩:=hP;obtain⟨y,z,hyz,oy,oz⟩:=hO.two;rw[hyz];clear hs;repeat' refine ak ?_;intros
    exact fw (ops.length-(i+1)) zQ ⟨i+1,Dd,s8.LF,congrArg I zQ,by rw[CS.akj],rfl,by omega,q7,by rw[Uu hx];exact aqR,hR.Ux amy⟩
   ·obtain rfl:i=ops.length:=by omega
    rw[jW] at ah4;repeat' refine aJ ?_;intros
    cases s6 with
    |dn nb m P=>
     refine dL (Ve (GC.mv (Hs.gK (show VW w5 sy nb db m from q6.h) 1 dQ dQ) (Mv.sub λk (e:sy k=1)=>q6.x k zQ))) kQ q6.has λw6 X6 qm=>?_;have q7:=q6.since qm;clear hs;have hs:=q7.rf;repeat' refine ak ?_;intros
     refine dL ui kQ q7.has λw8 X8 jZ=>?_;exact(q7.since jZ).t.fin λwa nD=>rfl
    |up n=>
     have zY:=En.mv (ow0.trans SC);obtain⟨hN6,hdb⟩:=q6.h;refine dL (Vf hN6 q6.x) kQ q6.has λw6 X6 qm=>?_;have q7:=q6.since qm;replace zY:=zY.mv (λk (hk:sy k=4) _=>⟨hk,qm.kp.block k (q6.x k zQ)⟩:Mv (bN sy 4) w5 (bN sy 4) w6);clear hs;have hs:=q7.rf;repeat' refine ak ?_;intros
     rw[<-hdb];refine q7.call (Q:=λ_ _ _ s1=>s1= .up { n with m:=n.m.mj 0 }) ((Oe (z:=0) (show jd w6 sy n from q7.h.1) q7.x dQ).mono λv wa w' _ ⟨aI,n',e,h',_,hn⟩=>⟨aI,.up n',e,⟨h',by rw[hn];exact hdb⟩,by rw[hn]⟩) kQ λv w8 X8 OK s8 q8 e8 _ m8=>?_;subst e8;replace zY:=zY.mv m8;obtain⟨n8,Xv⟩: ∃n8:bE,n8= { n with m:=n.m.mj 0 } :=⟨_,rfl⟩;rw[<-Xv] at q8;have Bb:gM (ops.length+1) (zW ops) n8:=by rw[Xv];exact gM.mj ah4 0
     have amz:xT n8.ds:=by rw[Xv];exact amy
     have amA:n8.nb=n.nb:=by rw[Xv]
     show eC _ _ _ _ _ _ #[ptr n.nb 0] _
     rw[<-amA];clear hs hN6;have hs:=q8.rf;have al6:=Bb.ok.W5;have hM:=Bb.ok.mM;refine cd (FY (n:=n8) q8.h.1 q8.x zQ) kQ q8.has ?_;rintro vt EI w9 X9 ⟨ts,wP,hpw,su⟩ amg ahM As;obtain⟨lU,q9,p9,m9⟩:=q8.new As amg ahM;have FU:Sl w9 (bN lU 4) 3 vt (ts.map bL.l):=(su.mono p9).sl;replace zY:=zY.mv m9;have htX:Sl w9 X9 3 vt (ts.map bL.l):=FU.mono λk (hk:lU k=4)=>q9.x k zQ;have htl:=htX.gR;clear hs;have hs:=q9.rf
     skip
     refine gv (λn a b w X=> ∃i:Nat,a=I i/\b=B ((ts.take i).any λt=>decide (t=mm.aO))/\n=ts.length-i/\i<=ts.length/\ai X9 w9 X w) ts.length ⟨0,rfl,rfl,rfl,aq _,hs⟩ ?_;clear hs;rintro n' _ _ Jv Lu ⟨i,rfl,rfl,rfl,Dy,hs⟩
     show(aV _ _ _ _ _:Prop)
     replace htX:=htX.mv hs.mv;rcases dE ts i with⟨cD,y,hy,hd9⟩|⟨dD,hd9⟩
     ·have e2:((ts.take (i+1)).any λt=>decide (t=mm.aO))=(((ts.take i).any λt=>decide (t=mm.aO))||decide (y=mm.aO)):=by rw[bT,hy];simp
      cases hb:(ts.take i).any λt=>decide (t=mm.aO)with
      |true=>
       repeat' refine aJ ?_;intros
       exact fw (ts.length-(i+1)) zQ ⟨i+1,congrArg I zQ,by rw[e2,hb];rfl,rfl,by omega,hs⟩
      |false=>
       by_cases e:y=mm.aO
       ·repeat' first|refine aJ ?_;intros|(with_reducible refine ad3 _ _ ?_ ?_ ?_);(· kernel_rfl);all_goals intros|contradiction
        exact fw (ts.length-(i+1)) zQ ⟨i+1,congrArg I zQ,by rw[e2,decide_eq_true e];simp,rfl,by omega,hs⟩
       ·repeat' first|refine aJ ?_;intros|(with_reducible refine ad3 _ _ ?_ ?_ ?_);(· kernel_rfl);all_goals intros|contradiction
        exact fw (ts.length-(i+1)) zQ ⟨i+1,congrArg I zQ,by rw[e2,hb,decide_eq_false e];rfl,rfl,by omega,hs⟩
     ·obtain rfl:i=ts.length:=by omega
      rw[jW];have XP:=q9.since hs;have amB:Mv (bN lU 4) w9 (bN lU 4) Jv:=λk (hk:lU k=4) _=>⟨hk,hs.kp.block k (q9.x k zQ)⟩;replace zY:=zY.mv amB;replace FU:=FU.mv amB;have aqS:n.db=n8.db:=by rw[Xv]
      have CD:=Bb.crs;have sR:=Bb.ok.id;obtain⟨pre,sg,IE,-⟩:=id Bb.log;rw[show(CS.up n).nb=n8.nb from amA.symm,aqS];have hmt:ts.any (λt=>decide (t=mm.aO))=true↔getM mm.aO n8.al≠none:=by
       rw[List.any_eq_true];constructor
       ·rintro⟨t,ht,e⟩ hn;rw[of_decide_eq_true e] at ht;exact getM_none.1 hn (wP.mem_iff.1 ht)
       ·intro hn;have:=dB λh=>hn (getM_none.2 h);exact⟨_,wP.mem_iff.2 this,decide_eq_true rfl⟩
      clear hs;have hs:=XP.rf;cases hb:ts.any λt=>decide (t=mm.aO);all_goals
       rw[hb] at hmt;repeat' first|refine aJ ?_;intros|refine cM ?_ ?_<;>intros|(refine dL ui kQ hs.has λw8 X8 jZ=>?_;exact(XP.since jZ).t.fin λwa nD=>rfl)
      all_goals
       have lR: ¬(mm.to=21/\(getM mm.aO n8.al≠none\/mm.kind=7\/mm.kind=6)):=by
        rintro⟨h1,h2|h2|h2⟩
        ·first|omega|exact absurd (hmt.2 h2) dQ
        ·omega
        ·omega
       have dk: ∀{w X own} {n9:bE},LS w0 (λk=>if k<w0.heap.size then 4 else 0) nX w X own db (.up n9)->Dk w (bN own 3) n9.db n9.m/\FX (bN own 3) X w:=λ{w X own n9} q=>
        ⟨Lg.dk ((show jd w own n9 from q.h.1).gK 3 dQ dQ),λk (hk:own k=3)=>⟨q.x k zQ,q.has k (q.x k zQ)⟩⟩
       refine cd (LK (dk XP).1 (dk XP).2 CD.names (by have:=CD.1;omega)) kQ hs.has ?_;rintro vf as1 w11 X11 ⟨zf,hfo,hfz⟩ aoA aoB adE;obtain⟨V4,q11,Uz,m11⟩:=XP.new adE aoA aoB;have wS:Sl w11 (bN V4 4) 3 vf (zf.map Q4):=(hfo.mono Uz).sl;have Es:HT w11 (bN V4 4) zf n8.m.files:=hfz.mv (Mv.sub Uz);replace zY:=zY.mv m11;replace FU:=FU.mv m11;clear hs;have hs:=q11.rf
       skip
       refine cd (Fa (n:=n8) q11.h.1 q11.x (ad Bb.ok.cl Bb.ok.mM) λb hb=>ad (Bb.parts b hb) dQ) kQ hs.has ?_;rintro vc aqD Yj X12 ⟨zc,hco,hcz⟩ adF adG sA;obtain⟨FW,q12,p12,m12⟩:=q11.new sA adF adG;have Ap:Sl Yj (bN FW 4) 29 vc (zc.map LJ):=(hco.mono p12).sl;have ni:E9 Yj (bN FW 4) zc (n8.cl.map λb=>(n8.C b).r):=hcz.mv (Mv.sub p12);replace zY:=zY.mv m12;replace FU:=FU.mv m12;replace wS:=wS.mv m12;replace Es:=Es.mv m12;clear hs;have hs:=q12.rf
       skip
       refine cd (HR (n:=n8) q12.h.1 q12.x amz) kQ hs.has ?_;rintro vg as2 w13 X13 hro aoC aoD ac2;obtain⟨adH,q13,p13,m13⟩:=q12.new ac2 aoC aoD;have oO:Sl w13 (bN adH 4) 4 vg ((MT n8.ds).map dR.l):=(hro.mono p13).sl;replace zY:=zY.mv m13;replace FU:=FU.mv m13;replace wS:=wS.mv m13;replace Es:=Es.mv m13;replace Ap:=Ap.mv m13;replace ni:=ni.mv m13;clear hs;have hs:=q13.rf
       skip
       refine q13.call (Q:=λv w' aI s2=> ∃n1,wY n8 mm n1/\v= .tuple #[.agg #[n1.vm,n1.va],I 0]/\s2= .up (fb n1)) ((EX (n:=n8) (m:=mm) q13.h.1 q13.x IE zY Bb.ok zQ lX zm).mono λv wa w' _ hq=>?_) kQ λv w14 X14 ajB s14 q14 hQ _ m14=>?_
       ·rcases hq with⟨aI,n',e,h',n1,hP,hv,rfl,hO⟩|⟨_,_,_,_,_,hF⟩
        ·exact⟨aI,.up (fb n1),e,⟨h',hP.nb.db.trans q13.h.2⟩,n1,hP,hv,rfl⟩
        ·exact(hF.pass sR lR).elim
       obtain⟨n1,hS,rfl,rfl⟩:=hQ;obtain⟨iq,rfl⟩:=hS.pass sR lR;rw[show({ n8 with ck:=iq } :bE).vm=aP from Bb.ok.vm,show({ n8 with ck:=iq } :bE).va=aP from Bb.ok.va];replace FU:=FU.mv m14;replace wS:=wS.mv m14;replace Es:=Es.mv m14;replace Ap:=Ap.mv m14;replace ni:=ni.mv m14;replace oO:=oO.mv m14;obtain⟨n9,hn9⟩: ∃n9:bE,n9=fb { n8 with ck:=iq } :=⟨_,rfl⟩;rw[<-hn9] at q14;have h0:Sl w14 X14 1 aP (([]:List BA).map S1):=Sl.nil _ _ _;clear hs;have hs:=q14.rf;repeat' refine ak ?_;intros
       obtain⟨edb,em,enb,ecl,eC,eds,eal⟩:n9.db=n8.db/\n9.m=n8.m/\n9.nb=n8.nb/\n9.cl=n8.cl/\n9.C=n8.C/\n9.ds=n8.ds/\n9.al=n8.al:=by rw[hn9];exact⟨rfl,rfl,rfl,rfl,rfl,rfl,rfl⟩
       rw[<-edb,<-enb];have hx: ∀{w X},ai X14 w14 X w->Mv (bN ajB 4) w14 X w:=λh k (hk:ajB k=4) _=>⟨h.sub k (q14.x k zQ),h.kp.block k (q14.x k zQ)⟩;refine dL ui kQ hs.has λw15 X15 ah5=>?_;have q15:=q14.since ah5;replace h0:=h0.mv ah5.mv;clear hs;have hs:=q15.rf;repeat' first|refine aJ ?_;intros|refine cM ?_ ?_<;>intros|with_reducible apply cB|(exfalso;simp only[br] at*;omega)
       refine cd (LK (dk q15).1 (dk q15).2 (by rw[em];exact CD.names) (by rw[em];have:=CD.1;omega)) kQ hs.has ?_;rintro vf2 as3 w16 X16 ⟨zg,PN,hgz⟩ aoE ajC amC;rw[em] at hgz;have q16:=q15.since amC;have h16:=ah5.trans amC;clear hs;have hs:=q16.rf;repeat' first|refine ak ?_;intros|with_reducible apply cB
       refine dL (Q5 (zs:=zg) (zt:=zf) (PN.mono ajC).sl (wS.mv (hx h16)) (hgz.mv (Mv.sub ajC)) (Es.mv (hx h16))) kQ hs.has λw17 X17 amD=>?_;have q17:=q16.since amD;have h17:=h16.trans amD;clear hs;have hs:=q17.rf;repeat' first|refine ak ?_;intros|with_reducible apply cB
       refine cd (Fa (n:=n9) q17.h.1 q17.x (by rw[ecl];exact ad Bb.ok.cl Bb.ok.mM) λb hb=>by rw[eC];exact ad (Bb.parts b (by rw[<-ecl];exact hb)) dQ) kQ hs.has ?_;rintro vc2 as4 w18 X18 ⟨zc2,aqT,amE⟩ asi ajD amF;have q18:=q17.since amF;have h18:=h17.trans amF;clear hs;have hs:=q18.rf;repeat' first|refine ak ?_;intros|with_reducible apply cB
       refine dL (aaU (zs:=zc2) (zt:=zc) (aqT.mono ajD).sl (Ap.mv (hx h18)) (by rw[amE.1,ni.1,ecl,eC]) (λz hz=>(amE.2 z hz).mono ajD) λz hz=>(ni.2 z hz).mv (hx h18)) kQ hs.has λw19 X19 amG=>?_;have q19:=q18.since amG;have h19:=h18.trans amG;clear hs;have hs:=q19.rf;repeat' first|refine ak ?_;intros|with_reducible apply cB
       refine cd (HR (n:=n9) q19.h.1 q19.x (by rw[eds];exact amz)) kQ hs.has ?_;rintro vg2 as5 w20 X20 amH asj aoF amI;rw[eds] at amH;have q20:=q19.since amI;have h20:=h19.trans amI;clear hs;have hs:=q20.rf;repeat' first|refine ak ?_;intros|with_reducible apply cB
       refine dL (Pa (xs:=MT n8.ds) (ys:=MT n8.ds) (amH.mono aoF).sl (oO.mv (hx h20))) kQ hs.has λw21 X21 amJ=>?_;rw[decide_eq_true rfl];have q21:=q20.since amJ;have h21:=h20.trans amJ;clear hs;have hs:=q21.rf;repeat' first|refine ak ?_;intros|with_reducible apply cB
       refine cd (FY (n:=n9) q21.h.1 q21.x (by rw[eal];omega)) kQ hs.has ?_;rintro vt2 as6 w22 X22 ⟨ts2,amK,aqU,aqV⟩ asl aoG amL;have q22:=q21.since amL;have h22:=h21.trans amL;rw[eal] at amK;obtain rfl:ts2=ts:=afQ (amK.trans wP.symm) aqU hpw;clear hs;have hs:=q22.rf;repeat' first|refine ak ?_;intros|with_reducible apply cB
       refine dL (SB (xs:=ts2) (ys:=ts2) (aqV.mono aoG).sl (FU.mv (hx h22))) kQ hs.has λw23 X23 aqW=>?_;rw[decide_eq_true rfl];have q23:=q22.since aqW;clear hs;have hs:=q23.rf;repeat' refine ak ?_;intros
       exact q23.t.fin λwa nD=>rfl
 intro w0 hk;refine(key w0 hk).mono λe w' ⟨v,he,hf,hv⟩=>⟨v,he,hf.mono λk hk=>?_,hv⟩;by_cases hl:k<w0.heap.size
 ·exact(hk.2 (if_pos hl)).elim
 ·exact(hk.1 (if_neg hl)).elim
end
open Go.ChangeShapes Go.WideShapes Go.ChangeAt Go.RowKit
namespace coordPassed
theorem ah6 (H:Type) (enc:TypeId×Value->H) (W:World) (base:Nat) (args:Array Value) (ds gs:List (DataW H)) (before:List MemPlace)
  (SD: ∀(j:Nat) t v,Tryz.f8.params[j]? =some t->args[j]? =some v->Value.okWide pg W .any base t v)
  (hW:DataW.Whole enc pg Tryz.f8.params.toList Rows.coordPassedSpec.vars false W args.toList ds gs before) (hk:Rows.uptoSmall H (ds++gs)=true):
  Calls pg 8 args W λe W'=> ∃v,e= .returned v/\Rows.coordPassedSpec.post enc pg Tryz.f8 false true false false W args v W':=by
 have hW':=hW;obtain⟨p,q,hA0,hV,rfl,hfz,tR⟩:=hW;have hA:DataW.TrodAll enc pg W 0 (λ_=>true) true Tryz.f8.params.toList args.toList ds p:=hA0;rw[Tryz.params8] at hA SD;obtain⟨v0,vs0,d0,ds0,p0,q0,aji,rfl,rfl,h0,r0⟩:=trodAll_cons hA;obtain⟨v1,vs1,d1,ds1,p1,q1,rfl,rfl,rfl,h1,r1⟩:=trodAll_cons r0;obtain⟨rfl,rfl,rfl⟩:=trodAll_nil r1;obtain rfl:args= #[v0,v1]:=by cases args;simp_all
 obtain⟨rfl,rfl⟩:=trodVars_none hV;obtain⟨b0,n0,c0,rfl⟩:=okWide_slice Tryz.underlying22 (SD 0 22 v0 rfl rfl);obtain⟨NC,rfl,as7⟩:=okWide_struct Tryz.underlying54 (SD 1 54 v1 rfl rfl);obtain⟨f0,hf0⟩:=h0;obtain⟨x0,⟨u0,hu0,r0'⟩,wt0⟩:=ah0 H enc W f0 _ _ hf0;obtain rfl:u0= .slice b0 n0 c0:=by grind [Value.cells]
 obtain⟨f1,wS⟩:=h1;obtain⟨x1,⟨vk,vs,vw,vp,vr,vc,vh,vd,hu1,r1'⟩,wt1⟩:=afI H enc W f1 _ _ wS;obtain rfl:NC=(x1.l vk vs vw vp vr vc vh vd).toArray:=by
  have aqX:NC.toList=x1.l vk vs vw vp vr vc vh vd:=hu1;rw[<-aqX]
 have hbk:=bound hk;have ht0:Wt.wt x0<=Rows.uptoBulk d0:=wt0;have ht1:Wt.wt x1<=Rows.uptoBulk d1:=wt1;have hw:Wt.wt x0+Wt.wt x1<=1048576:=by
  simp only[gJ,Rows.uptoBulkAll] at hbk ht0 ht1;omega
 obtain⟨k1,k2⟩:=afM (l:=x0) (B:=1048576) zQ (au _);have k5:=(afM (l:=x0) (B:=Wt.wt x0) (au _) zQ).2;obtain⟨k3,k4⟩:=afL (m:=x1) (B:=1048576) zQ (au _);have k6:x1.seen.length<=Wt.wt x1:=by
  have h1:=sZ (l:=x1.seen) (au _);have h2:Wt.wt x1.seen<=Wt.wt x1:=by simp only[Wt.wt];omega
  omega
 refine(Ni (X:=bI W) (mm:=x1) r0' r1' k1 k3 k4 zQ W (Kp.refl _ _)).mono λe W' ⟨v,he,wX,hq⟩=>?_;subst he;subst hq;exact⟨_,rfl,ah7 YQ Tryz.underlying4 rfl rfl kQ ⟨rfl,rfl,rfl⟩ hW' (by have h9:=hA0;simp only[gJ] at h9⊢;exact h9) wX⟩
theorem lifted (os:Os) (started:os.Started) (H:Type) (enc:TypeId×Value->H) (F:Stop.Interp):
  ReturnsInHanded {} Tryz.checked os 8 .any ((Rows.OpenSpec.upto Rows.coordPassedSpec).pre6 enc pg Tryz.f8 Rows.coordPassedUptoRow.domain false) (((Rows.OpenSpec.upto Rows.coordPassedSpec).at F).post enc pg Tryz.f8 false true false false):=by
 refine returnsInHanded_of_cond (C:=Tryz.checked) (s:=Rows.OpenSpec.upto Rows.coordPassedSpec) (k:=Rows.uptoSmall) rfl ah8 started kQ Tryz.func8
  (OpenSpec.witness (enc:=enc) (C:=Tryz.checked) (s:=Rows.OpenSpec.upto Rows.coordPassedSpec) (k:=Rows.uptoSmall) rfl false ⟨#[],#[.slice none 0 0,.agg #[I 0,I 0,I 0,I 0,I 0,I 0,I 0,I 0,I 0,I 0,I 0,I 0,I 0,I 0,I 0,B false,I 0,I 0,.slice none 0 0,.slice none 0 0,.slice none 0 0,.slice none 0 0,.slice none 0 0,.slice none 0 0,I 0,I 0,.float .f64 0,.float .f64 0,I 0,I 0,I 0,I 0,I 0,I 0,.slice none 0 0,.slice none 0 0]],[]⟩ 8 kQ kQ kQ
   (x:=([.nil,.agg [.lit (.int .i64 0),.lit (.int .i64 0),.lit (.int .i64 0),.agg [.lit (.int .i64 0),.lit (.int .i64 0),.lit (.int .i64 0)],.lit (.int .i64 0),.lit (.int .i64 0),.lit (.int .i64 0),.agg [.lit (.int .i64 0),.lit (.int .i64 0),.lit (.int .i64 0)],.agg [.lit (.int .i64 0),.lit (.int .i64 0),.lit (.int .i64 0)],.lit (.bool false),.lit (.int .i64 0),.lit (.int .i64 0),.nil,.nil,.nil,.nil,.nil,.nil,.agg [.agg [.lit (.int .i64 0),.lit (.int .i64 0),.lit (.float .f64 0),.lit (.float .f64 0)],.agg [.lit (.int .i64 0),.lit (.int .i64 0),.lit (.int .i64 0)],.agg [.lit (.int .i64 0),.lit (.int .i64 0),.lit (.int .i64 0)],.nil,.nil]]],[],[])) kQ rfl kQ) ?_
 intro W base args ds gs before SD hW _ hk _;exact ah6 H enc W base args ds gs before SD hW hk
theorem aoH:((Rows.coordPassedUptoRow).unfollowed==pg.unfollowed 8)=true:=by kernel_rfl
theorem aoI:((Rows.coordPassedUptoRow).recurses==pg.recurses 8)=true:=by kernel_rfl
theorem afR:((Rows.coordPassedUptoRow).inPlace==pg.inPlace 8)=true:=by kernel_rfl
theorem akD:((Rows.coordPassedUptoRow).named==pg.varsNamed 8)=true:=by kernel_rfl
theorem aaV:mapsRowed pg=true:=by kernel_rfl
theorem akE:(pg.stops==[])=true:=by kernel_rfl
theorem akF:(pg.stopKnobs==[])=true:=by kernel_rfl
theorem akG:pg.stopsHeard=true:=by kernel_rfl
theorem aoJ:pg.mayEnter=true:=by kernel_rfl
theorem amM:((Rows.coordPassedUptoRow).plainKeys==pg.plainKeys)=true:=by kernel_rfl
theorem ah9:((Rows.coordPassedUptoRow).lifted==pg.liftsFinal)=true:=by kernel_rfl
theorem amN:(pg.make==some (Rows.coordPassedUptoRow).make)=true:=by kernel_rfl
theorem amO:joinedFacts pg 8 Tryz.f8 (Rows.OpenSpec.upto Rows.coordPassedSpec).bare Rows.coordPassedUptoRow=true:=by
 unfold joinedFacts;simp only[aB]
 and_intros<;>first|with_reducible exact YQ|with_reducible exact aoH|with_reducible exact aoI|with_reducible exact afR|with_reducible exact akD|with_reducible exact aaV|with_reducible exact akE|with_reducible exact akF|with_reducible exact akG|with_reducible exact aoJ|with_reducible exact amM|with_reducible exact ah9|with_reducible exact amN|kernel_rfl
theorem proved:Rows.CoordPassedUptoSaid:=
 OpenClaim.holds_of_cond 8 Tryz.f8 rfl rfl rfl rfl rfl rfl rfl ⟨rfl,rfl,rfl,rfl,rfl⟩ rfl rfl rfl rfl rfl kQ Tryz.func8 amO
  (of_decide_eq_true kQ) (by unfold Func.isWrapper;first|(rw[if_pos (by decide+kernel)];kernel_rfl)|(rw[if_neg (by decide+kernel)];exact⟨rfl,rfl⟩))
  (λos started H enc _ F=>lifted os started H enc F)
#print axioms proved
end coordPassed
end Go.Proofs.YtgfijddlkhkopaaGreat