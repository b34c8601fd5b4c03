/- Part 8 of the proof. -/
import Derived.Test.YtgfijddlkhkopaaGreatU7
set_option linter.all false
open List renaming mem_singleton → aw, map_append → aD, replicate → gH, getElem?_append_left → dM, length_append → aa, getElem?_append_right → cT, append_assoc → ao, length_map → ah, getLast?_eq_some_getLast → l8, nil_append → cC, take_of_length_le → az, length_cons → aK, dropLast_concat_getLast → rU, pairwise_singleton → uP, getElem?_eq_getElem → aS, not_mem_nil → dH
open ByteArray renaming size_append → qQ
open Go.Value renaming int → ay
open Option.some renaming inj → bU
open Nat renaming le_trans → ad
namespace Go.Proofs.YtgfijddlkhkopaaGreat
open Go.Proofs.Tryz renaming prog → pg
open Go.aL
set_option maxRecDepth 100000
set_option maxHeartbeats 4000000
attribute [local irreducible] un jn jk iA ld1 su st1 kT kU oY rE pH Jp Ew gR gu aX lR lS eW eV eU eC eF gE mR fin iE bu dG vS NO Jq Jr Js Jt Ju NP NR NS NT FN FO Jv Jw Jx NU NV NW
def pY:Nat->Nat->List Nat
 |0,_=>[]
 |k+1,n=>pY k (n/10)++[48+n % 10]
theorem uW: ∀k n,(pY k n).length=k
 |0,_=>rfl
 |k+1,n=>by rw[pY,aa,uW];rfl
def bP (dir:ByteArray) (n:Nat):ByteArray:=dir++⟨#[46]⟩++B4 (pY 8 n)
theorem A7 (dir:ByteArray) (n:Nat):(bP dir n).size=dir.size+9:=by
 unfold bP;rw[qQ,qQ,UX,uW];rfl
variable {X : XS} {w : World} {b : Nat}
section
variable {P : Program} {N : Value -> Prop} {t : TypeId}
theorem afx {a:Nat} (hb:b≠0) (h:N (I ((a % b:Nat):Int))):aX P X w (binOp .rem t (I (a:Int)) (I (b:Int))) N:=by
 refine bF (λwa=>?_) h;simp[binOp,Op.intDiv,hb];exact(Int.ofNat_tmod a b).symm
theorem aoi {a:Nat} (hb:b≠0) (ha:a<2^63) (h:N (I ((a/b:Nat):Int))):aX P X w (binOp .quo t (I (a:Int)) (I (b:Int))) N:=by
 refine bF (λwa=>?_) h;have h1:(a:Int).tdiv b=((a/b:Nat):Int):=(Int.ofNat_tdiv a b).symm;have h2:a/b<=a:=Nat.div_le_self a b;have h3:IntKind.i64.wrap ((a/b:Nat):Int)=((a/b:Nat):Int):=by
  generalize a/b=q at h2;simp[IntKind.wrap,IntKind.bits,IntKind.signed];omega
 have dT: ¬(b:Int)=0:=by omega
 simp only[binOp,Op.intDiv,dT,if_false,h1,h3];simp
end
theorem apN (a:Int):Instr.fill (λi=>some (i*1,1)) ((Array.range (8*1)).map ((ay .u8 0).cells[· % (ay .u8 0).cells.size]!)) [(0,.int .u8 a),(1,.int .u8 a),(2,.int .u8 a),(3,.int .u8 a),(4,.int .u8 a),(5,.int .u8 a),(6,.int .u8 a),(7,.int .u8 a)]=some #[.int .u8 a,.int .u8 a,.int .u8 a,.int .u8 a,.int .u8 a,.int .u8 a,.int .u8 a,.int .u8 a]:=by kernel_rfl
abbrev U8 (x:Nat):Value:=.int .u8 x
variable {dir : ByteArray}
theorem ym {n:Nat} (hd:dir.size<=2^40) (hn:n<2^63):Ct pg 178 #[.string dir,I n] w X nX λv wa w'=>v= .string (bP dir n):=by
 intro w0 hk;refine abg.1 λ_=>?_;have hT:Ft w0 nX w0 (bK w0) nX:=Ft.init λ_ h=>h.elim;refine Wn (e:=5) (k:=1) (bytes:=1) (rows:=(gH 8 48).map U1) #[.int .u8 48,.int .u8 48,.int .u8 48,.int .u8 48,.int .u8 48,.int .u8 48,.int .u8 48,.int .u8 48] (.int .u8 0) hT.s.has kQ kQ dQ dQ (apN 48) sQ rfl rfl λs w1 X1 ax ho=>?_;rcases ho.row with⟨_,he⟩|⟨g,cap,cs,rfl,gA,bw,pL,iC,pG,uG⟩
 ·cases he
 have h8:cs.take 8=(gH 8 48).map U8:=uG;have hl8:8<=cs.length:=by have:((gH 8 48).map U1).length<=cap:=pL;simp at this;omega
 refine ak9 bw kQ kQ ax.has λw2 X2 hc hF=>?_;have dW:Ft w0 nX w1 X1 (λk=>k=g):=(hT.since ax).more λk af=>by subst af;exact .inr ⟨bw.1,gA⟩
 have cY:Ft w0 nX w2 X2 (λk=>k=g):=dW.dX hc (λk af=>af) λk af=>.inl af;refine gz (λn' a b w X=> ∃(k m:Nat) (tail:List Nat) (cs:List Value),a=I ((k:Int)-1)/\b=I (m:Int)/\n'=k/\k<=8/\m<2^63/\pY 8 n=pY k m++tail/\IL w X g cs 5/\cs.take 8=(gH k 48++tail).map U8/\8<=cs.length/\Ft w0 nX w X (λk=>k=g)) 8 ⟨8,n,[],cs,rfl,rfl,rfl,Nat.le_refl _,hn,by simp,hF,by simpa using h8,hl8,cY⟩ ?_;clear h8 hl8 hF cY hc;rintro k a b w X ⟨_,m,tail,cs,rfl,rfl,rfl,hk8,hm,Zl,hF,M7,hl8,cY⟩;have cB:(pY k m).length+tail.length=8:=by have:=congrArg List.length Zl;rw[uW,aa] at this;exact this.symm
 rw[uW] at cB;cases k with
 |succ k=>
  have AT:cs[k]? =some (U8 48):=by
   have h1:(cs.take 8)[k]? =cs[k]? :=by rw[List.getElem?_take,if_pos zQ]
   rw[<-h1,M7,aD,dM sQ];simp
  have BF:=hF.cells.Wp AT;rw[Nat.zero_add] at BF;have hz:((k+1:Nat):Int)-1=(k:Nat):=by omega
  have h49:IntKind.u8.wrap (((48:Nat):Int)+IntKind.u8.wrap ((m % 10:Nat):Int))=((48+m % 10:Nat):Int):=by rw[MM,MM];omega
  rw[hz];repeat' refine aJ ?_;intros
  refine ajZ rfl oQ kQ kQ ?_;rw[Nat.mul_one];refine aeu BF (Mv.refl _ _) kQ rfl ?_;refine afx (a:=m) (b:=10) zQ ?_;refine aev kQ kQ ?_;refine nI ?_;rw[h49];refine ajZ rfl oQ kQ kQ ?_;rw[Nat.mul_one];refine apj hF kQ zQ rfl cY.s.has λw3 X3 c hF3=>?_;have dU:Ft w0 nX w3 X3 (λk=>k=g):=cY.dX c (λk af=>af) λk af=>.inl af;refine aoi (a:=m) (b:=10) zQ hm ?_;repeat' refine ak ?_;intros
  refine fB k zQ ⟨k,m/10,(48+m % 10)::tail,_,rfl,rfl,rfl,by omega,by omega,?_,hF3,?_,by rw[List.length_set];exact hl8,dU⟩
  ·rw[Zl,pY,ao];rfl
  ·rw[List.take_set,M7];have e:(gH (k+1) 48++tail)=gH k 48++48::tail:=by rw[List.replicate_succ',ao];rfl
   rw[e,aD,aD,List.set_append_right _ _ sQ,ah,List.length_replicate,Nat.sub_self];rfl
 |zero=>
  have htl:tail=pY 8 n:=by rw[Zl];rfl
  have ar2:cs.take 8=(pY 8 n).map U8:=by rw[M7,<-htl];rfl
  have BF:Cells w X g 0 ((pY 8 n).map λx:Nat=>ay .u8 x):=by
   have h1:=hF.cells.part 0 8;rw[List.drop_zero,ar2] at h1;exact h1
  have h2:ai (bK w0) w0 X w:=cY.C8;repeat' refine aJ ?_;intros
  refine Zh (by show dir.size+1<=_;omega) ?_;refine Sy (e:=5) (by simp[uW]) BF kQ kQ kQ cY.s.has λw4 X4 fX=>?_;replace h2:=h2.trans fX;refine Zh (by rw[qQ,UX,uW];show dir.size+1+8<=_;omega) ?_;exact bS h2 λwa aI=>rfl
theorem adw {n:Nat} (h1:1<=dir.size) (h2:dir.size<=11) (h3:1<=n) (h4:n<=99999999):Ct pg 124 #[.string dir,I n] w X nX λv wa w'=>v= .tuple #[.string (bP dir n),I 0]:=by
 intro w0 hk;refine abf.1 λhs=>?_;repeat' first|refine aJ ?_;intros|refine cQ ?_ ?_<;>intros|(refine cu (ym zQ zQ) kQ hs.has ?_;rintro _ wa w X rfl hle gv ax;replace hs:=hs.trans ax)|(refine qr ?_;intro wa hk;rfl)
 rename_i he;subst he;exact absurd h1 dQ
structure dN where
 first:Nat
 bh:List (List Nat)
 size:Nat
structure LM where
 dir:ByteArray
 room:Nat
 bC:List dN
 safe:Int
def LM.last (L:LM):dN:=L.bC.getLast?.getD ⟨0,[],0⟩
def LM.next (L:LM):Nat:=L.last.first+L.last.bh.length
def LM.fc (L:LM):ByteArray:=bP L.dir L.last.first
structure LD where
 L:LM
 m:DM
def LD.sync (x:LD):LD×Nat:=let r:=x.m.sync x.L.fc;(⟨if r.2=0 then { x.L with safe:=(x.L.next:Int)-1 } else x.L,r.1⟩,r.2)
def LD.iF (x:LD) (n:Nat):LD×Nat:=let r:=x.m.create (bP x.L.dir n);(⟨if r.2=0 then { x.L with bC:=x.L.bC++[⟨n,[],0⟩] } else x.L,r.1⟩,r.2)
def LD.room (x:LD):LD×Nat:=if x.L.room<=x.L.last.size then(let r:=x.sync;if r.2≠0 then r else r.1.iF x.L.next)else(x,0)
def LM.add (L:LM) (p:List Nat):LM:= { L with bC:=L.bC.dropLast++[⟨L.last.first,L.last.bh++[p],L.last.size+(dm p).length⟩] }
def LD.lay (x:LD) (p:List Nat):LD×Nat:=let r:=x.m.append x.L.fc (dm p);(⟨if r.2=0 then x.L.add p else x.L,r.1⟩,r.2)
def LD.append (x:LD) (p:List Nat):LD×Nat×Nat:=
 if 262144<p.length then(x,0,2)else if 99999999<x.L.next then(x,0,1)else
  let r:=x.room
  if r.2≠0 then(r.1,0,r.2)else
   let q:=r.1.lay p
   if q.2≠0 then(q.1,0,q.2)else(q.1,x.L.next,0)
structure mC where
 b:Nat
 first:Nat
 rv:Value
 rs:List (Value×List Nat)
 size:Nat
def mC.er (s:mC):dN:=⟨s.first,s.rs.map (·.2),s.size⟩
def aau (x y:mC):Prop:=x.b≠y.b/\ ∀g,x.rv.ownBlock=some g->y.rv.ownBlock≠some g
def wQ (l:List Nat):Prop:= ∀x∈l,x<256
structure zj (w:World) (F:XS) (lb db:Nat) (sv:Value) (bl:List mC) (L:LM):Prop where
 bC:L.bC=bl.map mC.er
 box:aH w F lb [ptr db 0,.string L.dir,I L.room,sv,I L.safe] 231
 so:Ow w F 239 1 sv (bl.map λs=>[ptr s.b 0])
 row: ∀s∈bl,aH w F s.b [I s.first,s.rv,I s.size] 238
 As: ∀s∈bl,Ow w F 151 1 s.rv (s.rs.map λr=>[r.1])
 HF: ∀s∈bl,∀r∈s.rs,Ow w F 5 1 r.1 (r.2.map U1)
 ap:bl.Pairwise aau
variable {L : LM} {sv : Value} {db lb : Nat} {F F' : XS} {w' : World}
def zj.mv {bl:List mC} (h:zj w F lb db sv bl L) (v:Mv F w F' w'):zj w' F' lb db sv bl L:=
 ⟨h.bC,h.box.mv v,h.so.mv v,λs hs=>(h.row s hs).mv v,λs hs=>(h.As s hs).mv v,λs hs r hr=>(h.HF s hs r hr).mv v,h.ap⟩
def Lg (w:World) (F:XS) (lb db:Nat) (L:LM) (m:DM):Prop:=
 ∃FL FD sv bl,Dj FL FD/\(∀k,FL k->F k)/\(∀k,FD k->F k)/\zj w FL lb db sv bl L/\Dk w FD db m
variable {m : DM}
theorem Lg.mv (h:Lg w F lb db L m) (v:Mv F w F w'):Lg w' F lb db L m:=by
 obtain⟨FL,FD,sv,bl,hd,h1,h2,h3,h4⟩:=h;exact⟨FL,FD,sv,bl,hd,h1,h2,h3.mv λk hk hl=>⟨hk,(v k (h1 k hk) hl).2⟩,h4.mv λk hk hl=>⟨hk,(v k (h2 k hk) hl).2⟩⟩
theorem Lg.mono (h:Lg w F lb db L m) (hs: ∀k,F k->F' k):Lg w F' lb db L m:=by
 obtain⟨FL,FD,sv,bl,hd,h1,h2,h3,h4⟩:=h;exact⟨FL,FD,sv,bl,hd,λk hk=>hs k (h1 k hk),λk hk=>hs k (h2 k hk),h3,h4⟩
structure pf (L:LM):Prop where
 ne:L.bC≠[]
 d1:1<=L.dir.size
 d2:L.dir.size<=11
 yI: ∀s∈L.bC,s.first+s.bh.length<=2^40/\s.size<=2^40
 room:L.room<=2^40
theorem LM.xJ (h:L.bC≠[]):L.last∈L.bC:=by
 unfold LM.last;rw[l8 h]
 grind
theorem LM.SQ (h:L.bC≠[]):L.bC=L.bC.dropLast++[L.last]:=by
 unfold LM.last;rw[l8 h];exact(rU h).symm
theorem pf.next (h:pf L):L.next<=2^40:=(h.yI _ (LM.xJ h.ne)).1
theorem pf.first (h:pf L):L.last.first<=2^40:=by have:=h.next;unfold LM.next at this;omega
theorem zj.last {bl:List mC} (h:zj w F lb db sv bl L) (hL:pf L): ∃qX s,bl=qX++[s]/\s.er=L.last/\L.bC.dropLast=qX.map mC.er:=by
 have ct:bl≠[]:=λe=>hL.ne (by rw[h.bC,e];rfl);refine⟨bl.dropLast,bl.getLast ct,(rU ct).symm,?_,?_⟩
 ·unfold LM.last;rw[h.bC,List.getLast?_map,l8 ct];rfl
 ·rw[h.bC,List.map_dropLast]
variable {s : mC} {qX : List mC}
section
variable {bl : List mC}
theorem yn (h:zj w F lb db sv (qX++[s]) L) (hF:FX F X w):Ct pg 130 #[ptr lb 0] w X nX λv wa w'=>v=ptr s.b 0:=by
 intro w0 hk;replace h:=h.mv (hF.mv hk);have hX:=λk af=>(hF.kp hk k af).1;have hb:=h.box.mv (Mv.sub hX);have F9:=h.so.sl.mono hX;have hlen:=F9.gO;have xt:(qX++[s]).length=qX.length+1:=by simp
 have Df:(qX++[s])[qX.length]? =some s:=by simp
 refine RC.1 λhs=>?_;repeat' first|refine ak ?_;intros|(refine qr ?_;intro wa hk;rfl)
theorem DX (h:zj w F lb db sv bl L) (hL:pf L) (hF:FX F X w):Ct pg 77 #[ptr lb 0] w X nX λv wa w'=>v=I L.next:=by
 intro w0 hk;obtain⟨qX,s,rfl,he,_⟩:=h.last hL;replace h:=h.mv (hF.mv hk);have hX:=λk af=>(hF.kp hk k af).1;have lT:s∈qX++[s]:=by simp
 have hb:=(h.row s lT).mv (Mv.sub hX);have hr:=(h.As s lT).sl.mono hX;have hn:=hL.next
 have nf:L.next=s.first+s.rs.length:=by unfold LM.next;rw[<-he];simp[mC.er]
 have nL:FX F (bK w0) w0:=hF.kp hk;refine Rx.1 λhs=>?_;refine cu (yn h nL) kQ hs.has ?_;rintro _ wa w1 X1 rfl hle gv ax;replace hs:=hs.trans ax;have lK:=hb.since hs;repeat' refine ak ?_;intros
 refine cu (yn (h.mv (hs.gV hX)) λk af=>⟨hs.sub k (hX k af),hs.has k (hs.sub k (hX k af))⟩) kQ hs.has ?_;rintro _ xu w2 X2 rfl lu ka bB;replace hs:=hs.trans bB;have wJ:=hb.since hs;have jD:=hr.since hs;clear lK;repeat' first|refine ak ?_;intros|(refine qr ?_;intro wa hk;(rw[nf];simp))
theorem Oj (h:zj w F lb db sv bl L) {s:dN} {r:List dN} (hL:L.bC=s::r) (hF:FX F X w):Ct pg 76 #[ptr lb 0] w X nX λv wa w'=>v=I s.first:=by
 intro w0 hk;have Ld:=h.bC;rw[hL] at Ld;cases bl with
 |nil=>cases Ld
 |cons s' qX=>
  simp only[List.map_cons,List.cons.injEq] at Ld;replace h:=h.mv (hF.mv hk);have hX:=λk af=>(hF.kp hk k af).1;have hb:=h.box.mv (Mv.sub hX);have wJ:=(h.row s' sQ).mv (Mv.sub hX);refine Py.1 λhs=>?_;repeat' refine ak ?_;intros
  refine ajY (i:=0) (h.so.sl.mono hX) rfl rfl kQ kQ λb o hc=>?_;repeat' first|refine ak ?_;intros|(refine qr ?_;intro wa hk;(rw[Ld.1];rfl))
end
structure LW (w:World) (F:XS) (lb db:Nat) (L:LM) (m:DM) (FL FD:XS) (sv:Value) (bl:List mC):Prop where
 dj:Dj FL FD
 hL: ∀k,FL k->F k
 hD: ∀k,FD k->F k
 l:zj w FL lb db sv bl L
 d:Dk w FD db m
def Lg.lw (h:Lg w F lb db L m): ∃FL FD sv bl,LW w F lb db L m FL FD sv bl:=let⟨FL,FD,sv,bl,a,b,c,d,e⟩:=h;⟨FL,FD,sv,bl,a,b,c,d,e⟩
variable {FD FL : XS}
def LW.lg {bl:List mC} (h:LW w F lb db L m FL FD sv bl):Lg w F lb db L m:=⟨FL,FD,sv,bl,h.dj,h.hL,h.hD,h.l,h.d⟩
variable {wa : World} {Oi X' : XS} {m' : DM}
section
variable {bl : List mC}
def LW.mv (h:LW w F lb db L m FL FD sv bl) (v:Mv F w F w'):LW w' F lb db L m FL FD sv bl:=
 ⟨h.dj,h.hL,h.hD,h.l.mv λk hk hl=>⟨hk,(v k (h.hL k hk) hl).2⟩,h.d.mv λk hk hl=>⟨hk,(v k (h.hD k hk) hl).2⟩⟩
def LW.mono (h:LW w F lb db L m FL FD sv bl) (hs: ∀k,F k->F' k):LW w F' lb db L m FL FD sv bl:=⟨h.dj,λk hk=>hs k (h.hL k hk),λk hk=>hs k (h.hD k hk),h.l,h.d⟩
theorem LW.O8 (h:LW w F lb db L m FL FD sv bl) (hF:FX F X w) (hle:w.heap.size<=wa.heap.size) (c:dY FD X w X' w') (CU: ∀k,Oi k->FD k\/made wa w' k) (hd:Dk w' Oi db m'):LW w' (λk=>F k\/made wa w' k) lb db L m' FL Oi sv bl:=
 ⟨λk a b=>(CU k b).elim (h.dj k a) λhm=>by have:=(hF k (h.hL k a)).2;have:=hm.1;omega,λk hk=>.inl (h.hL k hk),λk hk=>(CU k hk).imp (h.hD k) id,
  h.l.mv (c.jd λk hk=>⟨(hF k (h.hL k hk)).1,λhf=>h.dj k hk hf⟩),hd⟩
theorem zj.alv {z:Int} (h:zj w FL lb db sv bl L) (hX: ∀k,FL k->X k) (c:dY (· =lb) X w X' w') (hr:aH w' X' lb [ptr db 0,.string L.dir,I L.room,sv,I z] 231):zj w' FL lb db sv bl { L with safe:=z } :=by
 have mv: ∀{A:XS},(∀k,A k->FL k/\k≠lb)->Mv A w FL w':=λhA k hk _=>⟨(hA k hk).1,c.block k (hX k (hA k hk).1) (hA k hk).2⟩;refine⟨h.bC,⟨h.box.1,hr.2⟩,?_,λs hs=>?_,λs hs=>?_,λs hs r hr=>?_,h.ap⟩
 ·exact h.so.tight.mv (mv λk hk=>⟨(h.so.bA hk).1,λe=>h.so.eH h.box kQ (e▸hk)⟩)
 ·exact(h.row s hs).own.mv (mv λk hk=>by subst hk;exact⟨(h.row s hs).1,(h.row s hs).eH h.box kQ⟩)
 ·exact(h.As s hs).tight.mv (mv λk hk=>⟨((h.As s hs).bA hk).1,λe=>(h.As s hs).eH h.box kQ (e▸hk)⟩)
 ·exact(h.HF s hs r hr).tight.mv (mv λk hk=>⟨((h.HF s hs r hr).bA hk).1,λe=>(h.HF s hs r hr).eH h.box kQ (e▸hk)⟩)
end
theorem Iu (h:Lg w F lb db L m) (hL:pf L) (hF:FX F X w):
  Ct pg 139 #[ptr lb 0] w X F λv wa w'=>v=I (LD.sync ⟨L,m⟩).2/\ ∃F',(∀k,F' k->F k\/made wa w' k)/\Lg w' F' lb db (LD.sync ⟨L,m⟩).1.L (LD.sync ⟨L,m⟩).1.m:=by
 intro w0 hk;obtain⟨FL,FD,sv,bl,h⟩:=(h.mv (hF.mv hk)).lw;have hT:=hF.ft hk;have nL:FX F (bK w0) w0:=hF.kp hk;obtain⟨qX,s,Jm,he,_⟩:=h.l.last hL;have hFL:FX FL (bK w0) w0:=λk af=>nL k (h.hL k af);have hX:=λk af=>(hFL k af).1;have hb:=h.l.box.mv (Mv.sub hX);have lT:s∈bl:=by rw[Jm];simp
 have wN:=(h.l.row s lT).mv (Mv.sub hX);have EN:s.first=L.last.first:=by rw[<-he];rfl
 have hfb:=hL.first
 refine RD.1 λhs=>?_;repeat' refine ak ?_;intros
 refine cu (yn (Jm▸h.l) hFL) kQ hs.has ?_;rintro _ wa w1 X1 rfl hle gv ax;replace hs:=hs.trans ax;have XR:=wN.since hs;repeat' refine ak ?_;intros
 rw[EN];refine cu (ym (by have:=hL.d2;omega) zQ) kQ hs.has ?_;rintro _ xu w2 X2 rfl lu ka bB;replace hs:=hs.trans bB;have cY:=hT.since hs;have h2:=h.mv (hs.gV hT.bA);refine cY.call (abx h2.d (cY.fx h2.hD)) kQ h2.hD λv ze w3 X3 hq qB mz dU uD=>?_;obtain⟨rfl,Oi,O7,hD⟩:=hq;have h3:=h2.O8 (cY.fx λ_ h=>h) qB uD O7 hD;have eS:LD.sync ⟨L,m⟩=(⟨if(m.sync L.fc).2=0 then { L with safe:=(L.next:Int)-1 } else L,(m.sync L.fc).1⟩,(m.sync L.fc).2):=rfl;have eN:L.fc=bP L.dir L.last.first:=rfl
 rw[eS];dsimp only;rw[eN];generalize JC:m.sync (bP L.dir L.last.first)=ms at h3⊢;have nf:=hL.next
 repeat' first|refine ak ?_;intros|refine cQ ?_ ?_<;>intros|with_reducible apply cD
 ·rename_i hz;have hz:ms.2=0:=by have:(ms.2:Int)=0:=(by assumption);omega
  refine cu (DX h3.l hL (dU.fx h3.hL)) kQ dU.s.has ?_;rintro _ zf w4 X4 rfl tq oF fX;have fQ:=dU.since fX;have h4:=h3.mv (fX.gV dU.bA);have hX4: ∀k,FL k->X4 k:=λk af=>fQ.bA k (h4.hL k af);repeat' refine ak ?_;intros
  refine pM (o:=4) (h4.l.box.mv (Mv.sub hX4)) zQ kQ sQ rfl fQ.s.has λw5 X5 c5 CP=>?_;have iL:=fQ.dX (F':=λk=>F k\/made ze w3 k) c5 (λk af=>by subst af;exact h4.hL _ h4.l.box.1) λk af=>.inl af;refine iL.fin λwa aI=>⟨rfl,_,iL.ju aI λ_ h=>h,?_⟩;rw[if_pos hz];refine Lg.mv ⟨FL,Oi,sv,bl,h4.dj,h4.hL,h4.hD,(h4.l.alv hX4 c5 CP),h4.d.mv (c5.jd λk af=>⟨fQ.bA k (h4.hD k af),λe=>h4.dj k (by rw[e];exact h4.l.box.1) af⟩)⟩ (aI.jd iL.bA)
 ·have hz: ¬ms.2=0:=by have: ¬(ms.2:Int)=0:=(by assumption);omega
  refine dU.fin λwa aI=>⟨rfl,_,dU.ju aI λ_ h=>h,?_⟩;rw[if_neg hz];exact(h3.mv (aI.jd dU.bA)).lg
variable {G : XS} {p : List Nat}
section
variable {BI : XS} {EM : Value} {bl : List mC}
theorem zj.abV (h:zj w FL lb db sv bl L) (hX:FX FL X w) (c:dY G X w X' w') (hG: ∀k,G k->k=lb\/sv.ownBlock=some k) (Z5: ∀k,FL k->BI k)
  (hr:aH w' BI lb [ptr db 0,.string L.dir,I L.room,EM,I L.safe] 231) (ho:Ow w' BI 239 1 EM (qX.map λs=>[ptr s.b 0]))
  (hn: ∀s∈qX,s∈bl\/(aH w' BI s.b [I s.first,s.rv,I s.size] 238/\Ow w' BI 151 1 s.rv (s.rs.map λr=>[r.1])/\ ∀r∈s.rs,Ow w' BI 5 1 r.1 (r.2.map U1)))
  (Ko:qX.Pairwise aau):zj w' BI lb db EM qX { L with bC:=qX.map mC.er } :=by
 have mv: ∀{A:XS},(∀k,A k->FL k/\k≠lb/\sv.ownBlock≠some k)->Mv A w BI w':=λhA k hk _=>by
  obtain⟨a1,a2,a3⟩:=hA k hk;exact⟨Z5 k a1,c.block k (hX k a1).1 λhg=>(hG k hg).elim a2 a3⟩
 refine⟨rfl,hr,ho,λs hs=>?_,λs hs=>?_,λs hs r hr=>?_,Ko⟩
 ·rcases hn s hs with hs|hs
  ·exact(h.row s hs).own.mv (mv λk hk=>by subst hk;exact⟨(h.row s hs).1,(h.row s hs).eH h.box kQ,h.so.eH (h.row s hs) kQ⟩)
  ·exact hs.1
 ·rcases hn s hs with hs|hs
  ·refine(h.As s hs).tight.mv (mv λk hk=>⟨((h.As s hs).bA hk).1,λe=>(h.As s hs).eH h.box kQ (e▸hk),λe=>?_⟩);obtain⟨c1,h1⟩:=(h.As s hs).tag hk;obtain⟨c2,h2⟩:=h.so.tag e;rw[h1] at h2;simp at h2
  ·exact hs.2.1
 ·rcases hn s hs with hs|hs
  ·refine(h.HF s hs r hr).tight.mv (mv λk hk=>⟨((h.HF s hs r hr).bA hk).1,λe=>(h.HF s hs r hr).eH h.box kQ (e▸hk),λe=>?_⟩);obtain⟨c1,h1⟩:=(h.HF s hs r hr).tag hk;obtain⟨c2,h2⟩:=h.so.tag e;rw[h1] at h2;simp at h2
  ·exact hs.2.2 r hr
abbrev mC.more (s:mC) (BT pv:Value) (p:List Nat) (z:Nat):mC:=⟨s.b,s.first,BT,s.rs++[(pv,p)],z⟩
theorem zj.alw {BT pv:Value} {z:Nat} (h:zj w FL lb db sv (bl++[s]) L) (hX:FX FL X w) (c:dY G X w X' w') (hG: ∀k,G k->k=s.b\/s.rv.ownBlock=some k) (Z5: ∀k,FL k->BI k)
  (hr:aH w' BI s.b [I s.first,BT,I z] 238) (ho:Ow w' BI 151 1 BT ((s.rs++[(pv,p)]).map λr=>[r.1])) (hp:Ow w' BI 5 1 pv (p.map U1))
  (dh:BT.ownBlock=s.rv.ownBlock\/ ∃g,BT.ownBlock=some g/\w.heap.size<=g):
  zj w' BI lb db sv (bl++[s.more BT pv p z]) { L with bC:=(bl++[s.more BT pv p z]).map mC.er } :=by
 have mK:s∈bl++[s]:=by simp
 have mv: ∀{A:XS},(∀k,A k->FL k/\k≠s.b/\s.rv.ownBlock≠some k)->Mv A w BI w':=λhA k hk _=>by
  obtain⟨a1,a2,a3⟩:=hA k hk;exact⟨Z5 k a1,c.block k (hX k a1).1 λhg=>(hG k hg).elim a2 a3⟩
 have rs:=h.row s mK;have os:=h.As s mK;have hold: ∀x∈bl,x∈bl++[s]:=λx hx=>List.mem_append_left _ hx;have Zb:=List.pairwise_append.1 h.ap;have Og: ∀x∈bl,aau x s:=λx hx=>Zb.2.2 x hx s sQ;have aoj: ∀x∈bl++[s],∀r∈x.rs,Ow w' BI 5 1 r.1 (r.2.map U1):=λx hx r hr=>by
  refine(h.HF x hx r hr).tight.mv (mv λk hk=>⟨((h.HF x hx r hr).bA hk).1,λe=>(h.HF x hx r hr).eH rs kQ (e▸hk),λe=>?_⟩);obtain⟨c1,h1⟩:=(h.HF x hx r hr).tag hk;obtain⟨c2,h2⟩:=os.tag e;rw[h1] at h2;simp at h2
 refine⟨rfl,?_,?_,λx hx=>?_,λx hx=>?_,λx hx r hr=>?_,?_⟩
 ·exact h.box.own.mv (mv λk hk=>by subst hk;exact⟨h.box.1,(rs.eH h.box kQ).symm,os.eH h.box kQ⟩)
 ·have:(bl++[s.more BT pv p z]).map (λs=>[ptr s.b 0])=(bl++[s]).map (λs=>[ptr s.b 0]):=by simp
  rw[this];refine h.so.tight.mv (mv λk hk=>⟨(h.so.bA hk).1,λe=>h.so.eH rs kQ (e▸hk),λe=>?_⟩);obtain⟨c1,h1⟩:=h.so.tag hk;obtain⟨c2,h2⟩:=os.tag e;rw[h1] at h2;simp at h2
 ·rcases List.mem_append.1 hx with hx|hx
  ·have ha:=Og x hx;have rx:=h.row x (hold x hx);exact rx.own.mv (mv λk hk=>by subst hk;exact⟨rx.1,ha.1,os.eH rx kQ⟩)
  ·simp only[aw] at hx;subst hx;exact hr
 ·rcases List.mem_append.1 hx with hx|hx
  ·have ha:=Og x hx;have ox:=h.As x (hold x hx);exact ox.tight.mv (mv λk hk=>⟨(ox.bA hk).1,λe=>ox.eH rs kQ (e▸hk),λe=>ha.2 k hk e⟩)
  ·simp only[aw] at hx;subst hx;exact ho
 ·rcases List.mem_append.1 hx with hx|hx
  ·exact aoj x (hold x hx) r hr
  ·simp only[aw] at hx;subst hx;rcases List.mem_append.1 hr with hr|hr
   ·exact aoj s mK r hr
   ·simp only[aw] at hr;subst hr;exact hp
 ·refine List.pairwise_append.2 ⟨Zb.1,uP _ _,λx hx y hy=>?_⟩;simp only[aw] at hy;subst hy;have ha:=Og x hx;refine⟨ha.1,λg hg rz=>?_⟩;rcases dh with e|⟨g',e,dB⟩
  ·exact ha.2 g hg (e▸rz)
  ·have:=(hX g ((h.As x (hold x hx)).bA hg).1).2;have e2:BT.ownBlock=some g:=rz;rw[e] at e2;have:g'=g:=bU e2;omega
end
theorem QL {n:Nat} (h:Lg w F lb db L m) (sk:L.dir.size<=11) (hn:n<=2^40) (oA:L.bC.length<=2^30) (hF:FX F X w):
  Ct pg 128 #[ptr lb 0,I n] w X F λv wa w'=>v=I (LD.iF ⟨L,m⟩ n).2/\ ∃F',(∀k,F' k->F k\/made wa w' k)/\Lg w' F' lb db (LD.iF ⟨L,m⟩ n).1.L (LD.iF ⟨L,m⟩ n).1.m:=by
 intro w0 hk;obtain⟨FL,FD,sv,bl,h⟩:=(h.mv (hF.mv hk)).lw;have hT:=hF.ft hk;have nL:FX F (bK w0) w0:=hF.kp hk;have hX:=λk af=>(nL k (h.hL k af)).1;have hb:=h.l.box.mv (Mv.sub hX);refine RA.1 λhs=>?_;repeat' refine ak ?_;intros
 refine cu (ym zQ zQ) kQ hs.has ?_;rintro _ xu w2 X2 rfl lu ka bB;replace hs:=hs.trans bB;have cY:=hT.since hs;have h2:=h.mv (hs.gV hT.bA);refine cY.call (V1 h2.d (cY.fx h2.hD)) kQ h2.hD λv ze w3 X3 hq qB mz dU uD=>?_;obtain⟨rfl,Oi,O7,hD⟩:=hq;have h3:=h2.O8 (cY.fx λ_ h=>h) qB uD O7 hD;have eS:LD.iF ⟨L,m⟩ n=(⟨if(m.create (bP L.dir n)).2=0 then { L with bC:=L.bC++[⟨n,[],0⟩] } else L,(m.create (bP L.dir n)).1⟩,(m.create (bP L.dir n)).2):=rfl;rw[eS];dsimp only;generalize JC:m.create (bP L.dir n)=ms at h3⊢;have hX3: ∀k,FL k->X3 k:=λk af=>dU.bA k (h3.hL k af);have rC:=h3.l.box.mv (Mv.sub hX3);have adr:=h3.l.so.mono hX3;have Jm:bl.length=L.bC.length:=by rw[h3.l.bC,ah]
 clear hs;repeat' first|refine ak ?_;intros|refine cQ ?_ ?_<;>intros|with_reducible apply cD
 ·have hz:ms.2=0:=by have:(ms.2:Int)=0:=(by assumption);omega
  refine A6 dU.s.has λbx w4 X4 gr fX bw=>?_;have O4:=adr.mv fX.mv;refine XP (bytes:=8) (row:=[ptr bx 0]) O4 fX.has kQ rfl rfl rfl oQ oQ λEM w5 X5 c5 tY vY=>?_;have yC:=rC.since fX;have ct: ∀q,eT sv q->q≠lb:=λq hq e=>O4.eH yC kQ (by rw[<-e];exact hq);have BB:aH w5 X5 lb [ptr db 0,.string L.dir,I L.room,sv,I L.safe] 231:=⟨c5.sub _ yC.1,by rw[c5.block _ yC.1 λhq=>ct _ hq rfl];exact yC.2⟩;repeat' refine ak ?_;intros
  refine pM (o:=3) BB zQ kQ sQ tY.one c5.has λw6 X6 c6 A4=>?_;have O5: ∀q,eT sv q->FL q:=λq hq=>(h3.l.so.bA hq).1;have cc:dY (λk=>k=lb\/sv.ownBlock=some k) X3 w3 X6 w6:=((dY.nz fX _).trans (c5.mono λk _ af=>.inr af)).trans (c6.mono λk _ af=>.inl af);have kf:Ft w0 F w6 X6 (λk=>(F k\/made ze w3 k)\/(X6 k/\w3.heap.size<=k)):=dU.dX cc (λk af=>by
   rcases af with rfl|af
   ·exact h3.hL _ h3.l.box.1
   ·exact h3.hL _ (O5 _ af)) λk af=>af
  have Lb: ∀g,EM.ownBlock=some g->FL g\/(X6 g/\w3.heap.size<=g):=λg hg=>by
   rcases vY with e|⟨g',e,dB⟩
   ·exact .inl (O5 _ (e.symm.trans hg))
   ·rw[hg] at e;have:g=g':=bU e;subst this;exact .inr ⟨c6.sub _ (tY.bA hg).1,ad fX.kp.size dB⟩
  have ahM:EM.ownBlock≠some lb:=tY.eH BB kQ;have ads:bx≠lb:=bw.eH yC kQ;have adt: ¬eT sv bx:=λhq=>O4.eH bw kQ hq;have hL6:=h3.l.abV (BI:=λk=>FL k\/(X6 k/\w3.heap.size<=k)) (EM:=EM) (qX:=bl++[⟨bx,n,.slice none 0 0,[],0⟩]) (dU.fx h3.hL) cc (λk af=>af) (λk af=>.inl af) ⟨.inl h3.l.box.1,A4.2⟩ ?_ ?_ ?_
  ·refine kf.fin λwa aI=>⟨rfl,_,kf.ju aI λ_ h=>h,?_⟩;rw[if_pos hz];have e:({ L with bC:=(bl++[(⟨bx,n,.slice none 0 0,[],0⟩:mC)]).map mC.er } :LM)= { L with bC:=L.bC++[⟨n,[],0⟩] } :=by
    rw[aD,<-h3.l.bC];rfl
   rw[<-e];refine Lg.mv ⟨_,Oi,EM,_,?_,?_,?_,hL6,h3.d.mv (cc.jd λk af=>⟨dU.bA k (h3.hD k af),λhg=>?_⟩)⟩ (aI.jd kf.bA)
   ·intro k ha dT;rcases ha with ha|ha
    ·exact h3.dj k ha dT
    ·have:=(dU.fx h3.hD k dT).2;omega
   ·exact λk af=>af.imp (h3.hL k) id
   ·exact λk af=>.inl (h3.hD k af)
   ·rcases hg with rfl|hg
    ·exact h3.dj _ h3.l.box.1 af
    ·exact h3.dj _ (O5 _ hg) af
  ·rw[aD];refine tY.tight.mv λk af hl=>⟨Lb k af,c6.block k (tY.bA af).1 λe=>ahM (by rw[<-(show k=lb from e)];exact af)⟩
  ·intro s sP;rcases List.mem_append.1 sP with sP|sP
   ·exact .inl sP
   ·simp only[aw] at sP;subst sP;have hb6:w6.heap[bx]? =w4.heap[bx]? :=by
     rw[c6.block bx (c5.sub _ bw.1) ads,c5.block bx bw.1 adt]
    exact .inr ⟨⟨.inr ⟨c6.sub _ (c5.sub _ bw.1),gr⟩,by rw[hb6];exact bw.2⟩,Ow.nil _ _ _ _,λr hr=>by cases hr⟩
  ·refine List.pairwise_append.2 ⟨h3.l.ap,uP _ _,λx hx y hy=>?_⟩;simp only[aw] at hy;subst hy;refine⟨λe=>?_,λg hg rz=>by cases rz⟩;have:=(dU.fx h3.hL _ (h3.l.row x hx).1).2;have e':x.b=bx:=e;omega
 ·have hz: ¬ms.2=0:=by have: ¬(ms.2:Int)=0:=(by assumption);omega
  refine dU.fin λwa aI=>⟨rfl,_,dU.ju aI λ_ h=>h,?_⟩;rw[if_neg hz];exact(h3.mv (aI.jd dU.bA)).lg
theorem pf.safe (h:pf L) (z:Int):pf { L with safe:=z } :=⟨h.ne,h.d1,h.d2,h.yI,h.room⟩
theorem pf.sync (h:pf L):pf (LD.sync ⟨L,m⟩).1.L:=by
 unfold LD.sync;dsimp only;split
 ·exact h.safe _
 ·exact h
theorem pf.iF {n:Nat} (h:pf L) (hn:n<=2^40):pf (LD.iF ⟨L,m⟩ n).1.L:=by
 unfold LD.iF;dsimp only;split
 ·refine⟨by simp,h.d1,h.d2,λs hs=>?_,h.room⟩;rcases List.mem_append.1 hs with hs|hs
  ·exact h.yI s hs
  ·simp only[aw] at hs;subst hs;exact⟨by simpa using hn,by simp⟩
 ·exact h
theorem LD.UC (x:LD):x.sync.1.L.bC=x.L.bC:=by unfold LD.sync;dsimp only;split<;>rfl
theorem LD.ajl (x:LD):x.sync.1.L.dir=x.L.dir:=by unfold LD.sync;dsimp only;split<;>rfl
variable {vp : Value}
theorem Yg {S:XS} (h:Lg w F lb db L m) (hL:pf L) (oA:L.bC.length<=2^30) (hF:FX F X w) (hp:Sl w S 1 vp (p.map U1)) (hS: ∀k,S k->X k/\ ¬F k):
  Ct pg 138 #[ptr lb 0,vp] w X F λv wa w'=>v= .tuple #[I (LD.append ⟨L,m⟩ p).2.1,I (LD.append ⟨L,m⟩ p).2.2]/\
   ∃F',(∀k,F' k->F k\/made wa w' k)/\Lg w' F' lb db (LD.append ⟨L,m⟩ p).1.L (LD.append ⟨L,m⟩ p).1.m:=by
 intro w0 hk;obtain⟨FL,FD,sv,bl,h⟩:=(h.mv (hF.mv hk)).lw;have hT:=hF.ft hk;have hp0:Sl w0 (out F w0) 1 vp (p.map U1):=hp.mv λk af hl=>⟨⟨Nat.lt_of_lt_of_le hl hk.size,(hS k af).2⟩,hk.block k (hS k af).1⟩;have vJ:=hp0.gO;have nf:=hL.next
 generalize hr:LD.append ⟨L,m⟩ p=r;unfold LD.append at hr;dsimp only at hr;refine Nr.1 λ_=>?_;refine cu (DX h.l hL (hT.fx h.hL)) kQ hT.s.has ?_;rintro _ wa w1 X1 rfl hle gv ax;have dW:=hT.since ax;have h1:=h.mv (ax.gV hT.bA);have hpA: ∀{w X F'},Ft w0 F w X F'->Sl w X 1 vp (p.map U1):=λhT=>hp0.mv hT.s.mv;have hp1:=hpA dW;have stay:r.1=⟨L,m⟩-> ∀wa,Kp X1 w1 wa-> ∃F',(∀k,F' k->F k\/made w0 wa k)/\Lg wa F' lb db r.1.L r.1.m:=λe wa aI=>⟨F,dW.ju aI λ_ h=>h,by rw[e];exact(h1.mv (aI.jd dW.bA)).lg⟩;repeat' first|refine ak ?_;intros|refine cQ ?_ ?_<;>intros
 ·rw[if_pos zQ] at hr;subst hr;exact dW.fin λwa aI=>⟨rfl,stay rfl wa aI⟩
 ·rw[if_neg zQ,if_pos zQ] at hr;subst hr;exact dW.fin λwa aI=>⟨rfl,stay rfl wa aI⟩
 ·rw[if_neg zQ,if_neg zQ] at hr;clear stay;refine ij (λk=> ∀(w:World) (X F1 FL FD:XS) (sv:Value) (bl:List mC) (x:LD),LD.room ⟨L,m⟩=(x,0)->pf x.L->x.L.bC.length<=2^30+1->Ft w0 F w X F1->LW w F1 lb db x.L x.m FL FD sv bl->k w X) ?_ ?_
  ·intro w X F1 FL FD sv bl x KQ hxL JL cY h2;rw[KQ] at hr;dsimp only at hr;rw[if_neg sQ] at hr;obtain⟨qX,s,rfl,he,EI⟩:=h2.l.last hxL;refine cu (yn h2.l (cY.fx h2.hL)) kQ cY.s.has ?_;rintro _ ze w3 X3 rfl qB mz dp;have dU:=cY.since dp;have h3:=h2.mv (dp.gV cY.bA);refine cu (V9 (hpA dU)) kQ dU.s.has ?_;rintro vq zf w4 X4 hq tq oF fX;rw[if_neg zQ] at hq;obtain⟨vb,rfl,yE⟩:=hq;have fQ:=dU.since fX;have h4:=h3.mv (fX.gV dU.bA);have hX4: ∀k,FL k->X4 k:=λk af=>fQ.bA k (h4.hL k af);have yC:=h4.l.box.mv (Mv.sub hX4);have lT:s∈qX++[s]:=by simp
   have atx:=(h4.l.row s lT).mv (Mv.sub hX4);have EN:s.first=x.L.last.first:=by rw[<-he];rfl
   have gd:s.size=x.L.last.size:=by rw[<-he];rfl
   have hrs:x.L.last.bh=s.rs.map (·.2):=by rw[<-he];rfl
   have hfb:=hxL.first
   have nf:=hxL.next
   have XQ:=hxL.yI _ (LM.xJ hxL.ne);have qh:s.rs.length=x.L.last.bh.length:=by rw[hrs,ah]
   have iP:=qG p;have ovb:=yE.one;repeat' refine ak ?_;intros
   rw[EN];refine cu (ym (by have:=hxL.d2;omega) zQ) kQ fQ.s.has ?_;rintro _ Oc w5 X5 rfl Il ED sS;have iL:=fQ.since sS;have h5:=h4.mv (sS.gV fQ.bA);have hz4:=fX.kp.size;have ar3:Sl w5 (made zf w4) 1 vb ((dm p).map U1):=yE.sl.mv λk af hl=>⟨af,sS.kp.block k (oF k af)⟩;refine iL.call (VZ h5.d (iL.fx h5.hD) ar3 (λk af=>⟨sS.sub k (oF k af),λhf=>?_⟩) zQ) kQ h5.hD λv wa6 w6 X6 hq XU Lb kf hc6=>?_
   ·have:=(dU.fx h3.hD k hf).2;have:=af.1;omega
   obtain⟨rfl,Oi,O7,hD⟩:=hq;have h6:=h5.O8 (iL.fx λ_ h=>h) XU hc6 O7 hD;have eL:x.lay p=(⟨if(x.m.append x.L.fc (dm p)).2=0 then x.L.add p else x.L,(x.m.append x.L.fc (dm p)).1⟩,(x.m.append x.L.fc (dm p)).2):=rfl;rw[eL] at hr;dsimp only at hr;have eN:x.L.fc=bP x.L.dir x.L.last.first:=rfl
   rw[eN] at hr;generalize JC:x.m.append (bP x.L.dir x.L.last.first) (dm p)=ms at hr h6⊢;have hX6: ∀k,FL k->X6 k:=λk af=>kf.bA k (h6.hL k af);have ar4:=(h6.l.row s lT).mv (Mv.sub hX6);repeat' first|refine ak ?_;intros|refine cQ ?_ ?_<;>intros
   ·have hz: ¬ms.2=0:=by have: ¬(ms.2:Int)=0:=(by assumption);omega
    rw[if_pos hz,if_neg hz] at hr;subst hr;exact kf.fin λwa aI=>⟨rfl,_,kf.ju aI λ_ h=>h,(h6.mv (aI.jd kf.bA)).lg⟩
   ·have hz:ms.2=0:=by have:(ms.2:Int)=0:=(by assumption);omega
    rw[if_neg (by simpa using hz),if_pos hz] at hr;subst hr;refine apk kf.s.has kQ (hpA kf) (by intro r hr u hu;obtain⟨x,_,rfl⟩:=List.mem_map.1 hr;simp only[U1,aw] at hu;subst hu;rfl) oQ oQ λpv w7 X7 oO wG=>?_;have ajm:=((h6.l.As s lT).mono hX6).mv oO.mv;have aav:=ar4.since oO;refine XP (bytes:=24) (row:=[pv]) ajm oO.has kQ (by have:=sL wG.one;rw[this]) rfl (by simp[wG.one]) oQ oQ λBT w8 X8 c8 A5 XG=>?_;have ar5: ∀q,eT s.rv q->q≠s.b:=λq hq e=>ajm.eH aav kQ (by rw[<-e];exact hq);have aok:aH w8 X8 s.b [I s.first,s.rv,I s.size] 238:=⟨c8.sub _ aav.1,by rw[c8.block _ aav.1 λhq=>ar5 _ hq rfl];exact aav.2⟩;repeat' refine ak ?_;intros
    refine pM (o:=1) aok zQ kQ sQ A5.one c8.has λw9 X9 c9 ajn=>?_;replace ajn:aH w9 X9 s.b [I s.first,BT,I s.size] 238:=ajn;repeat' refine ak ?_;intros
    refine pM (o:=2) ajn zQ kQ sQ rfl c9.has λJG LA Q6 ae7=>?_;have tG:(s.size:Int)+((dm p).length:Int)=((s.size+(dm p).length:Nat):Int):=by omega
    replace ae7:aH JG LA s.b [I s.first,BT,I ((s.size+(dm p).length:Nat):Int)] 238:=by rw[<-tG];exact ae7
    have cc:dY (λk=>k=s.b\/s.rv.ownBlock=some k) X6 w6 LA JG:=(((dY.nz oO _).trans (c8.mono λk _ af=>.inr af)).trans (c9.mono λk _ af=>.inl af)).trans (Q6.mono λk _ af=>.inl af);have ajo: ∀q,eT s.rv q->FL q:=λq hq=>((h6.l.As s lT).bA hq).1;have GQ:=kf.dX (F':=λk=>(F1 k\/made wa6 w6 k)\/(LA k/\w6.heap.size<=k)) cc (λk af=>by
     rcases af with rfl|af
     ·exact h6.hL _ (h6.l.row s lT).1
     ·exact h6.hL _ (ajo _ af)) λk af=>af
    have Q7: ∀g,BT.ownBlock=some g->FL g\/(LA g/\w6.heap.size<=g):=λg hg=>by
     rcases XG with e|⟨g',e,dB⟩
     ·exact .inl (ajo _ (e.symm.trans hg))
     ·rw[hg] at e;have:g=g':=bU e;subst this;exact .inr ⟨Q6.sub _ (c9.sub _ (A5.bA hg).1),ad oO.kp.size dB⟩
    have aol: ∀q,eT BT q->q≠s.b:=λq hq e=>A5.eH aok kQ (by rw[<-e];exact hq);have Gb: ∀q,eT pv q->X7 q/\w6.heap.size<=q/\JG.heap[q]? =w7.heap[q]? :=λq hq=>by
     have h1:=(wG.bA hq).1;have XK:q≠s.b:=λe=>wG.eH aav kQ (by rw[<-e];exact hq);have hnr: ¬eT s.rv q:=λzc=>by
      obtain⟨c1,e1⟩:=wG.tag hq;obtain⟨c2,e2⟩:=ajm.tag zc;rw[e1] at e2;simp at e2
     exact⟨h1.1,h1.2,by rw[Q6.block q (c9.sub _ (c8.sub _ h1.1)) XK,c9.block q (c8.sub _ h1.1) XK,c8.block q h1.1 hnr]⟩
    have ar6:=h6.l.alw (BI:=λk=>FL k\/(LA k/\w6.heap.size<=k)) (BT:=BT) (pv:=pv) (p:=p) (z:=s.size+(dm p).length) (kf.fx h6.hL) cc (λk af=>af) (λk af=>.inl af) ⟨.inl (h6.l.row s lT).1,ae7.2⟩ ?_ ?_ ?_
    ·refine GQ.fin λwa aI=>⟨rfl,_,GQ.ju aI λ_ h=>h,?_⟩;have e:({ x.L with bC:=(qX++[s.more BT pv p (s.size+(dm p).length)]).map mC.er } :LM)=x.L.add p:=by
      unfold LM.add;rw[EI,aD,<-he];simp[mC.er]
     rw[<-e];refine Lg.mv ⟨_,Oi,sv,_,?_,?_,?_,ar6,h6.d.mv (cc.jd λk af=>⟨kf.bA k (h6.hD k af),λhg=>?_⟩)⟩ (aI.jd GQ.bA)
     ·intro k ha dT;rcases ha with ha|ha
      ·exact h6.dj k ha dT
      ·have:=(kf.fx h6.hD k dT).2;omega
     ·exact λk af=>af.imp (h6.hL k) id
     ·exact λk af=>.inl (h6.hD k af)
     ·rcases hg with rfl|hg
      ·exact h6.dj _ (h6.l.row s lT).1 af
      ·exact h6.dj _ (ajo _ hg) af
    ·rw[aD];exact A5.tight.mv λk af hl=>⟨Q7 k af,by rw[Q6.block k (c9.sub _ (A5.bA af).1) (aol k af),c9.block k (A5.bA af).1 (aol k af)]⟩
    ·exact wG.tight.mv λk af hl=>⟨.inr ⟨Q6.sub _ (c9.sub _ (c8.sub _ (Gb k af).1)),(Gb k af).2.1⟩,(Gb k af).2.2⟩
    ·rcases XG with e|⟨g,e,dB⟩
     ·exact .inl e
     ·exact .inr ⟨g,e,ad oO.kp.size dB⟩
  ·intro K hK;obtain⟨qX,s,rfl,he,EI⟩:=h1.l.last hL;have KA: ∀k,FL k->X1 k:=λk af=>dW.bA k (h1.hL k af);have lK:=h1.l.box.mv (Mv.sub KA);have lT:s∈qX++[s]:=by simp
   have XR:=(h1.l.row s lT).mv (Mv.sub KA);have gd:s.size=L.last.size:=by rw[<-he];rfl
   have eR:LD.room ⟨L,m⟩=if L.room<=L.last.size then(if(LD.sync ⟨L,m⟩).2≠0 then LD.sync ⟨L,m⟩else(LD.sync ⟨L,m⟩).1.iF L.next)else(⟨L,m⟩,0):=rfl
   repeat' refine ak ?_;intros
   refine cu (yn h1.l (dW.fx h1.hL)) kQ dW.s.has ?_;rintro _ xu w2 X2 rfl lu ka bB;have cY:=dW.since bB;have h2:=h1.mv (bB.gV dW.bA);have O6:=XR.since bB;repeat' first|refine ak ?_;intros|refine cQ ?_ ?_<;>intros
   ·have dB:L.room<=L.last.size:=by omega
    rw[if_pos dB] at eR;refine cY.call (Iu h2.lg hL (cY.fx λ_ h=>h)) kQ (λ_ h=>h) λv ze w3 X3 hq qB mz dU uD=>?_;obtain⟨rfl,F3,hF3,h3⟩:=hq;have hL3:pf (LD.sync ⟨L,m⟩).1.L:=hL.sync;have ae8:=LD.UC ⟨L,m⟩;have aom:=LD.ajl ⟨L,m⟩;generalize hsy:LD.sync ⟨L,m⟩=y at eR h3 hL3 ae8 aom⊢;have EP:=dU.less hF3;repeat' first|refine ak ?_;intros|refine cQ ?_ ?_<;>intros
    ·have hz:y.2≠0:=by have: ¬(y.2:Int)=0:=(by assumption);omega
     rw[if_pos hz] at eR;rw[eR,if_pos hz] at hr;subst hr;exact EP.fin λwa aI=>⟨rfl,F3,EP.ju aI λ_ h=>h,h3.mv (aI.jd EP.bA)⟩
    ·have hz: ¬y.2≠0:=by have:(y.2:Int)=0:=(by assumption);omega
     rw[if_neg hz] at eR;have hy:y.1=⟨y.1.L,y.1.m⟩:=rfl;refine EP.call (QL (n:=L.next) h3 (by rw[aom];exact hL.d2) nf (by rw[ae8];exact oA) (EP.fx λ_ h=>h)) kQ (λ_ h=>h) λv zf w4 X4 hq tq oF fQ EO=>?_;obtain⟨rfl,F4,hF4,h4⟩:=hq;have Xd:(LD.iF ⟨y.1.L,y.1.m⟩ L.next).2=0->pf (LD.iF ⟨y.1.L,y.1.m⟩ L.next).1.L:=λ_=>hL3.iF nf;have Qg:(LD.iF ⟨y.1.L,y.1.m⟩ L.next).1.L.bC.length<=2^30+1:=by
      unfold LD.iF;dsimp only;split
      ·simp only[aa,List.length_singleton,ae8];show L.bC.length+1<=_;omega
      ·rw[ae8];show L.bC.length<=_;omega
     rw[hy] at eR;generalize hro:LD.iF ⟨y.1.L,y.1.m⟩ L.next=q at eR h4 Xd Qg⊢
     have zW:=fQ.less hF4;repeat' first|refine ak ?_;intros|refine cQ ?_ ?_<;>intros
     ·have hz:q.2≠0:=by have: ¬(q.2:Int)=0:=(by assumption);omega
      rw[eR,if_pos hz] at hr;subst hr;exact zW.fin λwa aI=>⟨rfl,F4,zW.ju aI λ_ h=>h,h4.mv (aI.jd zW.bA)⟩
     ·have hz:q.2=0:=by have:(q.2:Int)=0:=(by assumption);omega
      obtain⟨FL4,FD4,sv4,bl4,h4⟩:=h4.lw;exact hK _ _ _ _ _ _ _ q.1 (by rw[eR,<-hz]) (Xd hz) Qg zW h4
   ·have dB: ¬L.room<=L.last.size:=by omega
    rw[if_neg dB] at eR;exact hK _ _ _ _ _ _ _ ⟨L,m⟩ eR hL (by show L.bC.length<=_;omega) cY h2
def LD.iD (x:LD) (e:Nat) (bs:List Nat):LD×Nat×Nat:=
 if e≠0 then(x,0,e)else
  let r:=x.append bs
  if r.2.2≠0 then r else(r.1.sync.1,r.2.1,r.1.sync.2)
abbrev aP:Value:=.slice none 0 0
structure CoV where
 id:Int
 aR:Int
 gg:Int
 lb:Nat
 ac3:Nat
 cb:Nat
 ab:Nat
 cm:Value
 bb:Nat
abbrev GG (c:CoV) (DF vm va:Value):List Value:=[I c.id,I c.aR,I c.gg,ptr c.lb 0,B false,ptr c.ac3 0,DF,.map (some c.ab),c.cm,.map (some c.bb),vm,va]
abbrev coL (c:CoV) (vm va:Value):List Value:=GG c (ptr c.cb 0) vm va
abbrev nT:Nat:=108
structure AcV where
 aM:bE
 vp:Value
 st:cn
 wK:Int
 vs:Value
 pre:Bool
 vq:Value
 mn:cn
abbrev Jy (x:AcV) (vw:Value):List Value:=[I x.aM.ep,I x.aM.aR,I x.aM.sq,x.vp,I x.st.wall,I x.st.dy,I x.st.node,I x.wK,x.vs,B x.pre,vw,x.vq,I x.mn.wall,I x.mn.dy,I x.mn.node]
abbrev aT:Nat:=120
abbrev mT:Nat:=54
abbrev anT:Nat:=64
def xw:World->XS->Value->Nat->Prop:=λ_ _ v b=>v=ptr b 0
def Ey:qs xw:=λ_ _ _ _ _ _ h _=>h
def fT (w:World) (K:XS) (rows:List (List Value)) (ms:List cJ):Prop:=rows.length=ms.length/\ ∀(i:Nat) (l:List Value) (x:cJ),rows[i]? =some l->ms[i]? =some x->cJ.rd w K l x
variable {ms : List cJ} {rows : List (List Value)} {K K' : XS}
def fT.mv (h:fT w K rows ms) (m:Mv K w K' w'):fT w' K' rows ms:=⟨h.1,λi l x h1 h2=>cJ.mv (h.2 i l x h1 h2) m⟩
theorem fT.nil (w:World) (K:XS):fT w K [] []:=⟨rfl,λi l x h=>by simp at h⟩
variable {l : List Value}
theorem fT.add {x:cJ} (h:fT w K rows ms) (h1:cJ.rd w K l x):fT w K (rows++[l]) (ms++[x]):=by
 refine⟨by simp[h.1],λi l' x' hl hx=>?_⟩;rcases Nat.lt_trichotomy i rows.length with hi|hi|hi
 ·rw[dM hi] at hl;rw[dM (by rw[<-h.1];exact hi)] at hx;exact h.2 i l' x' hl hx
 ·subst hi;rw[cT (Nat.le_refl _)] at hl;rw[cT (by rw[h.1];omega)] at hx;rw[h.1] at hx
  grind
 ·rw[List.getElem?_eq_none oQ] at hl;cases hl
variable {a : Value}
theorem KM {xs:List fb} (ha:Sl w X 7 a (xs.map fb.l)) (hb:xs.length<=2^40):
  Ct pg 88 #[a] w X nX λv wa w'=>Own w' (made wa w') wa.heap.size 175 7 v (xs.map fb.l):=by
  intro w0 hk;replace ha:=ha.mv hk.cr;refine yb.1 λhs=>?_;repeat' first|refine ak ?_;intros|refine cQ ?_ ?_<;>intros|(refine QG hs ?_;intro acc w X hs ho)|(refine qr ?_;intro wa hk;(first|(rename_i h1 h2;(first|(rw[h2])|skip);exact Own.nil _ _ _ _ _)|exact(ho.kp hk).tight))|((with_reducible apply qj);(case own=>assumption);(case hs=>assumption);(case h0=>exact λ_ h=>h);(case he=>kernel_rfl);(case src=>exact Sl.mv ha (ai.mv hs));(case h1=>simp[aL.one]);(case hb=>simp;omega);(case hl=>simp;omega);intro acc w X ax ho hc dh;replace hs:=ax;rw[cC] at ho)
theorem EX {xs:List Int} (ha:Sl w X 1 a (xs.map I1)) (hb:xs.length<=2^40):
  Ct pg 48 #[a] w X nX λv wa w'=>Own w' (made wa w') wa.heap.size 3 1 v (xs.map I1):=by
  intro w0 hk;replace ha:=ha.mv hk.cr;refine Du.1 λhs=>?_;repeat' first|refine ak ?_;intros|refine cQ ?_ ?_<;>intros|(refine QG hs ?_;intro acc w X hs ho)|(refine qr ?_;intro wa hk;(first|(rename_i h1 h2;(first|(rw[h2])|skip);exact Own.nil _ _ _ _ _)|exact(ho.kp hk).tight))|((with_reducible apply qj);(case own=>assumption);(case hs=>assumption);(case h0=>exact λ_ h=>h);(case he=>kernel_rfl);(case src=>exact Sl.mv ha (ai.mv hs));(case h1=>simp[aL.one]);(case hb=>simp;omega);(case hl=>simp;omega);intro acc w X ax ho hc dh;replace hs:=ax;rw[cC] at ho)
theorem aaQ {xs:List jE} (ha:Sl w X 5 a (xs.map jE.l)) (hb:xs.length<=2^40):
  Ct pg 60 #[a] w X nX λv wa w'=>Own w' (made wa w') wa.heap.size 99 5 v (xs.map jE.l):=by
  intro w0 hk;replace ha:=ha.mv hk.cr;refine Ab.1 λhs=>?_;repeat' first|refine ak ?_;intros|refine cQ ?_ ?_<;>intros|(refine QG hs ?_;intro acc w X hs ho)|(refine qr ?_;intro wa hk;(first|(rename_i h1 h2;(first|(rw[h2])|skip);exact Own.nil _ _ _ _ _)|exact(ho.kp hk).tight))|((with_reducible apply qj);(case own=>assumption);(case hs=>assumption);(case h0=>exact λ_ h=>h);(case he=>kernel_rfl);(case src=>exact Sl.mv ha (ai.mv hs));(case h1=>simp[aL.one]);(case hb=>simp;omega);(case hl=>simp;omega);intro acc w X ax ho hc dh;replace hs:=ax;rw[cC] at ho)
abbrev snT:Nat:=175
abbrev Yi:Nat:=124
abbrev cmT:Nat:=126
abbrev Xl:Nat:=3
structure pa where
 x:AcV
 vw:Value
 rw:List (List Value)
 ws:List cJ
 sn:List fb
 p:List jE
 ids:List Int
 pq:Bool:=false
structure B6 where
 r:Rec
 vp:Value
 v2:Value
 waits:List Int
 ended:Bool
structure bo where
 nb:Nat
 db:Nat
 mb:Nat
 c:CoV
 ck:cn
 ds:tr
 L:LM
 m:DM
 al:List (bE×Nat)
 bl:List (bE×Nat)
 vm:Value
 va:Value
 rm:List (List Value)
 ra:List (List Value)
 ms:List cJ
 cl:List Nat
 A:Nat->pa
 C:Nat->B6
 ex:List Nat:=[]
 pre:Bool:=false
def bo.gy (n:bo) (b:Nat):Prop:=(∃t,getM t n.al=some b)\/b∈n.ex
abbrev bo.DF (n:bo):Value:=if n.pre then .pointer none else ptr n.c.cb 0
theorem ajJ (h:Lg w F lb db L m) (v:Mv F w F' w'):Lg w' F' lb db L m:=by
 obtain⟨FL,FD,sv,bl,hd,h1,h2,h3,h4⟩:=h;exact⟨λk=>FL k/\k<w.heap.size,λk=>FD k/\k<w.heap.size,sv,bl,λk a b=>hd k a.1 b.1,λk hk=>(v k (h1 k hk.1) hk.2).1,λk hk=>(v k (h2 k hk.1) hk.2).1,h3.mv λk hk hl=>⟨⟨hk,hl⟩,(v k (h1 k hk) hl).2⟩,h4.mv λk hk hl=>⟨⟨hk,hl⟩,(v k (h2 k hk) hl).2⟩⟩
def mpR (b:Nat) (l:List (bE×Nat)):pN:=⟨λw _ A=>dK w A nX b (λk:bE=>k.v) xw l,λh _ m=>h.mv Ey m λ_ h=>h.elim⟩
def Yh (n:bo):Nat->pN
 |1=>Yf n.nb (GG n.c n.DF n.vm n.va) nT
 |2=>⟨λw _ A=>mc w A n.c.ac3 n.mb n.ds,λh _ m=>h.mv m⟩
 |3=>⟨λw _ A=>Lg w A n.c.lb n.db n.L n.m,λh _ m=>ajJ h m⟩
 |5=>mpR n.c.ab n.al
 |6=>mpR n.c.bb n.bl
 |7=>⟨λw _ A=>n.pre=false->aH w A n.c.cb (GI n.ck) Ik/\n.ck.may=true,λh _ m e=>⟨(h e).1.mv m,(h e).2⟩⟩
 |8=>Zn mT 36 n.vm n.rm
 |9=>Zn anT 9 n.va n.ra
 |10=>Zn Yi 1 n.c.cm (n.cl.map λb=>[ptr b 0])
 |11=>⟨λw K _=>fT w K n.rm n.ms,λh m _=>h.mv m⟩
 |12=>puR (∀t b,getM t n.al=some b->(n.A b).x.aM=t)
 |_=>QT
def JS (b:Nat) (d:pa):Nat->pN
 |0=>Yf b (Jy d.x d.vw) aT
 |1=>Zn mT 36 d.vw d.rw
 |2=>Zn snT 7 d.x.vs (d.sn.map fb.l)
 |3=>⟨λw K _=>fT w K d.rw d.ws/\Sl w K 5 d.x.vp (d.p.map jE.l)/\(d.pq=false->Sl w K 1 d.x.vq (d.ids.map I1)),λ⟨h1,h2,h3⟩ m _=>⟨h1.mv m,h2.mv m,λe=>(h3 e).mv m⟩⟩
 |7=>CW (d.pq=true) (Zn Xl 1 d.x.vq (d.ids.map I1))
 |_=>QT
def JE (b:Nat) (d:B6):Nat->pN
 |4=>Yf b (d.r.l aP aP d.vp aP aP aP++[d.v2,B d.ended]) cmT
 |5=>Zn Xl 1 d.v2 (d.waits.map I1)
 |6=>⟨λw K _=>Sl w K 1 d.vp (d.r.parts.map I1),λh m _=>h.mv m⟩
 |_=>QT
def zg (n:bo) (b:Nat):Nat->pN
 |0=>CW (n.gy b) (JS b (n.A b) 0)
 |1=>CW (n.gy b) (JS b (n.A b) 1)
 |2=>CW (n.gy b) (JS b (n.A b) 2)
 |3=>CW (n.gy b) (JS b (n.A b) 3)
 |4=>CW (b∈n.cl) (JE b (n.C b) 4)
 |5=>CW (b∈n.cl) (JE b (n.C b) 5)
 |6=>CW (b∈n.cl) (JE b (n.C b) 6)
 |7=>CW (n.gy b) (JS b (n.A b) 7)
 |_=>QT
def tx (b i:Nat):Nat:=16+8*b+i
def dR (n:bo) (c:Nat):pN:=if c<16 then Yh n c else zg n (c/8-2) (c % 8)
theorem vI (n:bo) (b i:Nat) (hi:i<8):dR n (tx b i)=zg n b i:=by
 unfold dR tx;rw[if_neg zQ,show(16+8*b+i)/8-2=b by omega,show(16+8*b+i) % 8=i by omega]
abbrev jy (w:World) (own:Nat->Nat) (n:bo):Prop:=Hs (dR n) w own
variable {A : XS} {n n' : bo}
theorem Xp {c:Nat} (h1:c<16->(Yh n c).p w K A->(Yh n' c).p w K A) (h2: ∀b i,i<8->c=tx b i->(zg n b i).p w K A->(zg n' b i).p w K A) (h:(dR n c).p w K A):(dR n' c).p w K A:=by
 by_cases hc:c<16
 ·unfold dR at h⊢;rw[if_pos hc] at h⊢;exact h1 hc h
 ·obtain⟨b,i,hi,rfl⟩: ∃b i,i<8/\c=tx b i:=⟨c/8-2,c % 8,by omega,by unfold tx;omega⟩;rw[vI _ _ _ hi] at h⊢;exact h2 b i hi rfl h
variable {Q : Nat -> Prop}
theorem ny (h2: ∀b i,i<8->Q (tx b i)-> ∀w K A,(zg n b i).p w K A->(zg n' b i).p w K A:=by intro b i hi hq w K A h;rcases i with _|_|_|_|_|_|_|_|i<;>exact h)
  (h1: ∀i,i<16->Q i-> ∀w K A,(Yh n i).p w K A->(Yh n' i).p w K A:=by intro i hi hq w K A h;rcases i with _|_|_|_|_|_|_|_|_|_|_|_|_|i<;>first|exact h|(exfalso;omega)): ∀c,Q c-> ∀w K A,(dR n c).p w K A->(dR n' c).p w K A:=λc hq w K A=>Xp (λhc=>h1 c hc hq w K A) λb i hi e=>h2 b i hi (e▸hq) w K A
variable {d : pa} {b0 : Nat}
theorem ar7 (h: ∀i,Q (tx b0 i)-> ∀w K A,(JS b0 (n.A b0) i).p w K A->(JS b0 d i).p w K A:=by intro i hq w K A h;rcases i with _|_|_|_|_|_|_|_|i<;>first|exact h|(exfalso;unfold tx at hq;omega))
  (hA:n'.A=λb=>if b=b0 then d else n.A b:=by rfl) (hs:n'.al=n.al/\n'.ex=n.ex/\n'.C=n.C/\n'.cl=n.cl:=by exact⟨rfl,rfl,rfl,rfl⟩): ∀b i,i<8->Q (tx b i)-> ∀w K A,(zg n b i).p w K A->(zg n' b i).p w K A:=λb i hi hq w K A p=>by
 have e:n'.gy b↔n.gy b:=by unfold bo.gy;rw[hs.1,hs.2.1]
 by_cases hb:b=b0
 ·subst hb;have eA:n'.A b=d:=by rw[hA];exact if_pos rfl
  rcases i with _|_|_|_|_|_|_|_|i<;>simp only[zg,CW,eA,e,hs.2.2.1,hs.2.2.2] at p⊢ <;>first|exact λha=>h _ hq w K A (p ha)|exact p
 ·have eA:n'.A b=n.A b:=by rw[hA];exact if_neg hb
  rcases i with _|_|_|_|_|_|_|_|i<;>simp only[zg,CW,eA,e,hs.2.2.1,hs.2.2.2] at p⊢ <;>exact p
theorem aqy {d:B6} (h: ∀i,Q (tx b0 i)-> ∀w K A,(JE b0 (n.C b0) i).p w K A->(JE b0 d i).p w K A:=by intro i hq w K A h;rcases i with _|_|_|_|_|_|_|_|i<;>first|exact h|(exfalso;unfold tx at hq;omega))
  (hC:n'.C=λb=>if b=b0 then d else n.C b:=by rfl) (hs:n'.al=n.al/\n'.ex=n.ex/\n'.A=n.A/\n'.cl=n.cl:=by exact⟨rfl,rfl,rfl,rfl⟩): ∀b i,i<8->Q (tx b i)-> ∀w K A,(zg n b i).p w K A->(zg n' b i).p w K A:=λb i hi hq w K A p=>by
 have e:n'.gy b↔n.gy b:=by unfold bo.gy;rw[hs.1,hs.2.1]
 by_cases hb:b=b0
 ·subst hb;have eC:n'.C b=d:=by rw[hC];exact if_pos rfl
  rcases i with _|_|_|_|_|_|_|_|i<;>simp only[zg,CW,eC,e,hs.2.2.1,hs.2.2.2] at p⊢ <;>first|exact λha=>h _ hq w K A (p ha)|exact p
 ·have eC:n'.C b=n.C b:=by rw[hC];exact if_neg hb
  rcases i with _|_|_|_|_|_|_|_|i<;>simp only[zg,CW,eC,e,hs.2.2.1,hs.2.2.2] at p⊢ <;>exact p
variable {w0 : World} {own aG bN : Nat -> Nat} {i : Nat}
theorem Cp (h:jy w own n) (b i:Nat) (hi:i<8):(zg n b i).p w (bQ own 4) (bQ own (tx b i)):=by
 have:=h.gI (tx b i) (by unfold tx;omega) (by unfold tx;omega)
 rwa [vI _ _ _ hi] at this
def _root_.Go.aL.Hs.act (h:jy w own n) (hb:n.gy b):aH w (bQ own (tx b 0)) b (Jy (n.A b).x (n.A b).vw) aT/\Own w (bQ own (tx b 1)) 0 mT 36 (n.A b).vw (n.A b).rw/\Own w (bQ own (tx b 2)) 0 snT 7 (n.A b).x.vs ((n.A b).sn.map fb.l)/\
  fT w (bQ own 4) (n.A b).rw (n.A b).ws/\Sl w (bQ own 4) 5 (n.A b).x.vp ((n.A b).p.map jE.l)/\((n.A b).pq=false->Sl w (bQ own 4) 1 (n.A b).x.vq ((n.A b).ids.map I1)):=⟨Cp h b 0 dQ hb,Cp h b 1 dQ hb,Cp h b 2 dQ hb,Cp h b 3 dQ hb⟩
def _root_.Go.aL.Hs.BJ (h:jy w own n) (hb:b∈n.cl):aH w (bQ own (tx b 4)) b ((n.C b).r.l aP aP (n.C b).vp aP aP aP++[(n.C b).v2,B (n.C b).ended]) cmT/\Own w (bQ own (tx b 5)) 0 Xl 1 (n.C b).v2 ((n.C b).waits.map I1)/\Sl w (bQ own 4) 1 (n.C b).vp ((n.C b).r.parts.map I1):=⟨Cp h b 4 dQ hb,Cp h b 5 dQ hb,Cp h b 6 dQ hb⟩
theorem ir:tx b i≠0/\tx b i≠4:=by unfold tx;omega
abbrev Sn (w0:World) (bN:Nat->Nat) (w:World) (X:XS) (own:Nat->Nat) (n:bo):Prop:=St w0 bN w X own (dR n)
theorem _root_.Go.aL.St.v (s:Sn w0 bN w X own n):aH w X n.nb (GG n.c n.DF n.vm n.va) nT/\aL.one n.vm=true/\aL.one n.va=true/\aL.one n.c.cm=true/\aL.one n.DF=true:=
 ⟨s.zP 1,(show Own w (bQ own 8) 0 mT 36 n.vm n.rm from s.get 8).sl.one,(show Own w (bQ own 9) 0 anT 9 n.va n.ra from s.get 9).sl.one,(show Own w (bQ own 10) 0 Yi 1 n.c.cm _ from s.get 10).sl.one,by unfold bo.DF;split<;>rfl⟩
theorem _root_.Go.aL.St.va (s:Sn w0 bN w X own n) (hb:n.gy b):aH w X b (Jy (n.A b).x (n.A b).vw) aT/\aL.one (n.A b).vw=true/\aL.one (n.A b).x.vs=true/\aL.one (n.A b).x.vp=true/\aL.one (n.A b).x.vq=true:=
 have⟨h1,h2,h3,_,h5,h6⟩:=s.h.act hb
 ⟨h1.mono (s.sub _ ir.1),h2.sl.one,h3.sl.one,h5.one,by
  cases e:(n.A b).pq
  ·exact(h6 e).one
  ·exact(Cp s.h b 7 dQ hb e).sl.one⟩
def _root_.Go.aL.St.vc (s:Sn w0 bN w X own n) (hb:b∈n.cl):aH w X b ((n.C b).r.l aP aP (n.C b).vp aP aP aP++[(n.C b).v2,B (n.C b).ended]) cmT/\aL.one (n.C b).v2=true/\aL.one (n.C b).vp=true/\Sl w X 1 (n.C b).v2 ((n.C b).waits.map I1):=
 have⟨h1,h2,h3⟩:=s.h.BJ hb
 ⟨h1.mono (s.sub _ ir.1),h2.sl.one,h3.one,h2.sl.mono (s.sub _ ir.1)⟩
variable {vd vh vk vr vw : Value}
section
variable {Y : XS} {nb xb : Nat} {c : CoV} {vm va : Value}
theorem Ba {DF:Value} (h:aH w Y nb (GG c DF vm va) nT) (hY: ∀k,Y k->X k) (hi:1<=c.id/\c.id<=2):Ct pg 54 #[ptr nb 0] w X nX λv _ _=>v=I (20+c.id):=by
 intro w0 hk;have bw:=(h.mono hY).mv hk.cr;have hs:=ai.init w0;refine Ma.1 λ_=>?_;repeat' first|refine ak ?_;intros|(refine qr ?_;intro wa hk;rfl)
structure cJ.CC (m:cJ):Prop where
 keys:m.keys.length<=2^40
 seen:m.seen.length<=2^40
 writes:m.writes.length<=2^40
 parts:m.parts.length<=2^40
theorem HH {m:cJ} {vs vc:Value} (h:m.at w X vk vs vw vp vr vc vh vd) (hf:m.CC):Ct pg 45 #[m.v vk vs vw vp vr vc vh vd] w X nX λv wa w'=> ∃Hu CG lC JF,v=m.v Hu CG lC JF vr vc vh vd/\
  Sl w' (made wa w') 1 Hu (m.keys.map S1)/\Sl w' (made wa w') 7 CG (m.seen.map fb.l)/\Sl w' (made wa w') 4 lC (m.writes.map KV.l)/\Sl w' (made wa w') 1 JF (m.parts.map I1):=by
 intro w0 hk;replace h:=h.mv hk.cr;have hs:=ai.init w0;have o1:=h.ranges.one;have o2:=h.bh.one;have o3:=h.iu.one;have o4:=h.gY.one;refine Rw.1 λ_=>?_;refine cu (JO h.keys hf.keys) kQ hs.has ?_;rintro v1 DE w1 X1 q1 pU nq ax;have h1:=h.mv ax.mv;refine cu (KM h1.seen hf.seen) kQ ax.has ?_;rintro v2 xu w2 X2 q2 lu ka bB;have h2:=h1.mv bB.mv;refine cu (HX h2.writes hf.writes) kQ bB.has ?_;rintro v3 ze w3 X3 q3 qB mz dp;refine cu (EX (h2.mv dp.mv).parts hf.parts) kQ dp.has ?_;rintro v4 zf w4 X4 q4 tq oF fX;have z1:=ax.kp.size;have z2:=bB.kp.size;have z3:=dp.kp.size;have u1:Own w1 X1 w0.heap.size _ _ v1 _:=q1.up nq pU;have u2:Own w2 X2 w0.heap.size _ _ v2 _:=q2.up ka zQ;have u3:Own w3 X3 w0.heap.size _ _ v3 _:=q3.up mz zQ;have u4:Own w4 X4 w0.heap.size _ _ v4 _:=q4.up oF zQ;replace u1:=((u1.since bB).since dp).since fX;replace u2:=(u2.since dp).since fX;replace u3:=u3.since fX;have p1:=u1.sl.one;have p2:=u2.sl.one;have p3:=u3.sl.one;have p4:=u4.sl.one;replace hs:=((hs.trans ax).trans (bB.trans dp)).trans fX;clear ax bB dp fX;obtain⟨a1,a2,a3,rfl⟩:=u1.sl.form;obtain⟨b1,b2,b3,rfl⟩:=u2.sl.form;obtain⟨c1,c2,c3,rfl⟩:=u3.sl.form;obtain⟨e1,e2,e3,rfl⟩:=u4.sl.form;repeat' refine ak ?_;intros
 exact bS hs λwa aI=>⟨_,_,_,_,rfl,(u1.kp aI).tight.sl,(u2.kp aI).tight.sl,(u3.kp aI).tight.sl,(u4.kp aI).tight.sl⟩
def cJ.o9 (m:cJ) (no:Int):cJ:= { m with fr:=no,to:=m.range }
def cJ.asked (m:cJ) (x:AcV):cJ:= { m with aM:=x.aM,aV:=x.st }
abbrev EA (code:Int) (t:bE) (st:cn) (on:Bool) (vs:Value):List Value:=[I code,I t.ep,I t.aR,I t.sq,I st.wall,I st.dy,I st.node,B on,vs]
theorem fT.Xx (h:fT w K rows ms): ∀r∈rows,∀u∈r,aL.one u=true:=λr hr=>by
 obtain⟨i,hi,rfl⟩:=List.getElem_of_mem hr;obtain⟨vk,vs,vw,vp,vr,vc,vh,vd,e,q⟩:=h.2 i _ (ms[i]'(by rw[<-h.1];exact hi)) (aS hi) (aS _);rw[e];have q1:=q.keys.one;have q2:=q.seen.one;have q3:=q.writes.one;have q4:=q.parts.one;have q5:=q.ranges.one;have q6:=q.bh.one;have q7:=q.iu.one;have q8:=q.gY.one;intro u hu;simp only[List.mem_cons,dH,or_false] at hu;rcases hu with rfl|rfl|rfl|rfl|rfl|rfl|rfl|rfl|rfl|rfl|rfl|rfl|rfl|rfl|rfl|rfl|rfl|rfl|rfl|rfl|rfl|rfl|rfl|rfl|rfl|rfl|rfl|rfl|rfl|rfl|rfl|rfl|rfl|rfl|rfl|rfl<;>first|rfl|assumption
end
def cJ.at.fm {m:cJ} {vs vc:Value} (h:m.at w X vk vs vw vp vr vc vh vd):(∃b n c,vk= .slice b n c)/\(∃b n c,vs= .slice b n c)/\(∃b n c,vw= .slice b n c)/\(∃b n c,vp= .slice b n c)/\
  aL.one vr=true/\aL.one vc=true/\aL.one vh=true/\aL.one vd=true:=⟨h.keys.form,h.seen.form,h.writes.form,h.parts.form,h.ranges.one,h.bh.one,h.iu.one,h.gY.one⟩
theorem fT.ahU {m:cJ} (h:cJ.rd w K l m):fT w K [l] [m]:=by simpa using (fT.nil w K).add h
theorem fT.app {r1 r2:List (List Value)} {m1 m2:List cJ} (h1:fT w K r1 m1) (h2:fT w K r2 m2):fT w K (r1++r2) (m1++m2):=by
 refine⟨by simp[h1.1,h2.1],λi l x hl hx=>?_⟩;by_cases hi:i<r1.length
 ·rw[dM hi] at hl;rw[dM (by rw[<-h1.1];exact hi)] at hx;exact h1.2 i l x hl hx
 ·rw[cT zQ] at hl;rw[cT (by rw[<-h1.1];omega),<-h1.1] at hx;exact h2.2 _ l x hl hx
theorem cJ.at.as {m m':cJ} {vs vc:Value} (h:m.at w X vk vs vw vp vr vc vh vd) (e:m'.keys=m.keys/\m'.seen=m.seen/\m'.writes=m.writes/\m'.parts=m.parts/\m'.ranges=m.ranges/\m'.bh=m.bh/\m'.state=m.state:=by exact⟨rfl,rfl,rfl,rfl,rfl,rfl,rfl⟩):
  m'.at w X vk vs vw vp vr vc vh vd:=by
 obtain⟨e1,e2,e3,e4,e5,e6,e7⟩:=e;exact⟨by rw[e1];exact h.keys,by rw[e2];exact h.seen,by rw[e3];exact h.writes,by rw[e4];exact h.parts,by rw[e5];exact h.ranges,by rw[e6];exact h.bh,by rw[e7];exact h.iu,by rw[e7];exact h.gY⟩
abbrev qV (own:Nat->Nat) (X:XS):Prop:= ∀k,own k≠0->X k
variable {t : bE} {code : Int} {n1 : bo} {e : pa}
def yF (hX:qV own X) (hk:Kp X w wa):Mv (bQ own 4) w (bQ own 4) wa:=hk.jd λk (e:own k=4)=>hX k zQ
theorem Bb {m:cJ} {vs vc:Value} (h:jy w own n) (hX:qV own X) (hm:m.at w (bQ own 4) vk vs vw vp vr vc vh vd) (hi:1<=n.c.id/\n.c.id<=2) (hl:n.rm.length<=2^20):
  Ct pg 44 #[ptr n.nb 0,m.v vk vs vw vp vr vc vh vd] w X (gF own) λ_ wa w'=>NQ dR own wa w' λ_ n'=> ∃Av xO,n'= { n with vm:=Av,rm:=xO,ms:=n.ms++[m.o9 (20+n.c.id)] } /\xO.length=n.rm.length+1:=by
 intro w0 hk;have s:=St.init h hX hk;replace hm:=hm.mv (yF hX hk);obtain⟨⟨a1,a2,a3,rfl⟩,⟨b1,b2,b3,rfl⟩,⟨c1,c2,c3,rfl⟩,⟨e1,e2,e3,rfl⟩,q5,q6,q7,q8⟩:=hm.fm;refine L8.1 λ_=>?_;refine dS (Ba s.v.1 (λ_ h=>h) hi) kQ s.has λw1 X1 ax=>?_;replace hm:=hm.mv (ax.gV (s.sub 4));replace s:=s.since ax;have hr:=s.v.1;have hs:=s.rf;repeat' first|refine ak ?_;intros|(refine q1e hs ?_;intro _ _ _ w X hs ho)
 replace hm:=hm.mv (hs.gV (s.sub 4));replace s:=s.since hs;have jw:=fT.ahU ⟨_,_,_,_,_,_,_,_,rfl,hm.as (m':=m.o9 (20+n.c.id))⟩;refine s.ap2 1 8 11 (s.get 1) (s.get 8) ho.sl jw.Xx oQ (λv=>dR { n with vm:=v,rm:=_,ms:=_ }) (λ_ _ _ _ h=>h) (λ_ _ _ _ h=>h) (λ_ _ _ _ mv h=>fT.app h (jw.mv mv)) (λv'=>ny) λv' w' X' aG s' m'=>?_;clear hs hr
 skip
 exact s'.fin λwa hk=>⟨_,_,rfl,by simp⟩
theorem nN {κ α:Type} [DecidableEq κ] {k t:κ} {l:List (κ×α)} {v:α} (h:getM t (kc k l)=some v):getM t l=some v/\t≠k:=by grind [Tv,Lv]
theorem alx (hb:n.gy b): ∀c,c≠5-> ∀w K A,(dR n c).p w K A->(dR { n with al:=kc t n.al,ex:=b::n.ex } c).p w K A:=
 ny (λb' i hi _ w K A h=>by
  have e:({ n with al:=kc t n.al,ex:=b::n.ex } :bo).gy b'->n.gy b':=λh=>h.elim (λ⟨t,e⟩=>.inl ⟨t,(nN e).1⟩) λe=>(List.mem_cons.1 e).elim (λe=>e▸hb) .inr;rcases i with _|_|_|_|_|_|_|_|i<;>first|exact λha=>h (e ha)|exact h) λi hi hq w K A h=>by
   rcases i with _|_|_|_|_|_|_|_|_|_|_|_|_|i<;>first|exact absurd rfl hq|exact λt b e=>h t b (nN e).1|exact h
theorem Co {st:cn} {on:Bool} {vs:Value} (h:jy w own n) (hX:qV own X) (hb:n.gy b) (ovs:aL.one vs=true) (hl:n.ra.length<=2^20):
  Ct pg 62 #[ptr n.nb 0,ptr b 0,.agg (EA code t st on vs).toArray] w X (gF own) λ_ wa w'=>NQ dR own wa w' λ_ n'=> ∃ou,n'= { n with al:=kc (n.A b).x.aM n.al,ex:=b::n.ex,va:=ou,ra:=n.ra++[EA code (n.A b).x.aM st on vs] } :=by
 intro w0 hk;have s:=St.init h hX hk;have hr:=s.v.1;have ha:=(s.va hb).1;have hs:=s.rf;refine Nn.1 λ_=>?_;repeat' refine ak ?_;intros
 refine aiH (kv:=λk:bE=>k.v) (k:=(n.A b).x.aM) (kt:=34) (et:=116) (s.zP 5:) Ey (λ_ h=>h.elim) sK kQ s.has λw1 X1 c1 qo=>?_;obtain⟨ia,s1,m1⟩:=s.Dh (F':=dR { n with al:=kc (n.A b).x.aM n.al,ex:=b::n.ex }) 5 c1 (λk e=>by rw[show k=n.c.ab from e];exact(s.get 5:dK _ _ _ _ _ _ _).x.1) (· =n.c.ab) (λk e=>.inl (by rw[show k=n.c.ab from e];exact(s.get 5:dK _ _ _ _ _ _ _).x.1))
  (λK m=>lv qo rfl) (alx hb)
 clear hr ha hs;have hr:=s1.v.1;have ha:=(s1.va (b:=b) (.inr sQ)).1;have hs:=s1.rf;repeat' first|refine ak ?_;intros|(refine q1e hs ?_;intro _ _ _ w X hs ho)
 have s2:=s1.since hs;refine s2.ap2 1 9 0 (s2.get 1) (s2.get 9) ho.sl (λr hr u hu=>?_) oQ (λv=>dR { n with al:=kc (n.A b).x.aM n.al,ex:=b::n.ex,va:=v,ra:=_ }) (λ_ _ _ _ h=>h) (λ_ _ _ _ h=>h) (λ_ _ _ _ _ h=>h) (λv'=>ny) λv' w' X' aG s' m'=>?_
 ·rw[aw] at hr;subst hr;simp only[List.mem_cons,dH,or_false] at hu;rcases hu with rfl|rfl|rfl|rfl|rfl|rfl|rfl|rfl|rfl<;>first|rfl|assumption
 clear hs hr ha
 skip
 exact s'.fin λwa hk=>⟨_,rfl⟩
def Told (n:bo) (ms:List cJ) (n':bo):Prop:= ∃Av xO,n'= { n with vm:=Av,rm:=xO,ms:=n.ms++ms } /\xO.length=n.rm.length+ms.length
theorem Told.nil (n:bo):Told n [] n:=⟨n.vm,n.rm,by rw[List.append_nil],rfl⟩
theorem Told.add {a b:List cJ} {n2:bo} :Told n a n1->Told n1 b n2->Told n (a++b) n2:=by
 rintro⟨v,r,rfl,h⟩ ⟨v',r',rfl,h'⟩;exact⟨v',r',by simp[ao],by simp at h'⊢;omega⟩
theorem SJ {m:cJ} (h:m.keys=[]/\m.seen=[]/\m.writes=[]/\m.parts=[]/\m.ranges=[]/\m.bh=[]/\m.state= .zero:=by exact⟨rfl,rfl,rfl,rfl,rfl,rfl,rfl⟩):m.at w K aP aP aP aP aP aP aP aP:=by
 obtain⟨e1,e2,e3,e4,e5,e6,e7⟩:=h;exact⟨by rw[e1];exact Sl.nil _ _ _,by rw[e2];exact Sl.nil _ _ _,by rw[e3];exact Sl.nil _ _ _,by rw[e4];exact Sl.nil _ _ _,by rw[e5];exact Sl.nil _ _ _,by rw[e6];exact fg.nil _ _ _,by rw[e7];exact fg.nil _ _ _,by rw[e7];exact fg.nil _ _ _⟩
def BZ:cJ:=⟨0,0,0,.zero,0,0,0,.zero,.zero,false,0,0,[],[],[],[],[],[],.zero⟩
def SH (t:bE) (id:Int):cJ:= { BZ with kind:=5,aM:=t,range:=id }
def SI (r:Rec) (id:Int):cJ:= { BZ with kind:=5,aM:=r.aM,range:=id,jG:=true,aV:=r.aV }
theorem CE {α β:Type} {l:List α} {x:α} {f:α->β} (h:l[i]? =some x):(l.take (i+1)).map f=(l.take i).map f++[f x]:=by
 rw[List.take_add_one,h];simp
theorem zF (h:jy w own n) (hX:qV own X) (hb:n.gy b) (hpq:(n.A b).pq=false) (hl:n.ra.length<=2^20) (hi:1<=n.c.id/\n.c.id<=2) (xt:n.rm.length+(n.A b).ids.length<=2^20):
  Ct pg 43 #[ptr n.nb 0,ptr b 0,I code] w X (gF own) λ_ wa w'=>NQ dR own wa w' λ_ n'=> ∃ou,Told { n with al:=kc (n.A b).x.aM n.al,ex:=b::n.ex,va:=ou,ra:=n.ra++[EA code (n.A b).x.aM .zero false aP] }
   (if(n.A b).x.pre then(n.A b).ids.map λid=>(SH (n.A b).x.aM id).o9 (20+n.c.id)else []) n':=by
 intro w0 hk;have s:=St.init h hX hk;have hs:=s.rf;refine Ka.1 λ_=>?_;repeat' refine ak ?_;intros
 refine s.call (Co (code:=code) (t:=.zero) (st:=.zero) (on:=false) (vs:=aP) s.h s.x hb rfl hl) kQ λv w1 X1 ia n1 s1 q m1=>?_;obtain⟨ou,rfl⟩:=q;clear hs h s m1;have hs:=s1.rf;obtain⟨ha,-⟩:=s1.va (b:=b) (.inr sQ);have EC:=((s1.h.act (b:=b) (.inr sQ)).2.2.2.2.2 hpq).mono (s1.sub 4);have kG:=EC.gO;dsimp only at ha EC;cases hp:(n.A b).x.pre
 ·dsimp only [Jy] at ha;rw[hp] at ha;repeat' refine ak ?_;intros
  exact s1.fin λwa hk=>⟨ou,Told.nil _⟩
 dsimp only [Jy] at ha;rw[hp] at ha;repeat' refine ak ?_;intros
 generalize hN:({ n with al:=kc (n.A b).x.aM n.al,ex:=b::n.ex,va:=ou,ra:=n.ra++[EA code (n.A b).x.aM .zero false aP] } :bo)=N at s1;refine fp (λn' a w X=> ∃(i:Nat) (aG:Nat->Nat) (n1:bo),a=I (i:Nat)/\n'=(n.A b).ids.length-i/\i<=(n.A b).ids.length/\Sn w0 own w X aG n1/\Told N (((n.A b).ids.take i).map λid=>(SH (n.A b).x.aM id).o9 (20+n.c.id)) n1) (n.A b).ids.length ⟨0,ia,N,rfl,rfl,Nat.zero_le _,s1,Told.nil _⟩ ?_;clear hs s1 ha EC;rintro n' _ w1 X1 ⟨i,ia,n1,rfl,rfl,Qy,s,ht⟩;obtain⟨Xn,Qo,wE,qh⟩:=id ht;have e:n1.A=n.A/\n1.nb=n.nb/\n1.c=n.c/\n1.rm=Qo/\N.rm=n.rm:=by rw[wE,<-hN];exact⟨rfl,rfl,rfl,rfl,rfl⟩
 have TW:n1.gy b:=.inr (by rw[wE,<-hN];simp);obtain⟨ha,o1,o2,o3,o4⟩:=s.va TW;have EC:=((s.h.act TW).2.2.2.2.2 (by rw[e.1];exact hpq)).mono (s.sub 4);rw[e.1] at ha EC o1 o2 o3 o4;have hs:=s.rf;rcases dA ((n.A b).ids) i with⟨cB,id,hx,hd⟩|⟨dB,hd⟩
 ·repeat' refine aJ ?_;intros
  rw[<-e.2.1];refine s.call (Bb (m:=SH (n.A b).x.aM id) s.h s.x SJ (by rw[e.2.2.1];exact hi) (by rw[e.2.2.2.1,qh,e.2.2.2.2];simp;omega)) kQ λv w2 X2 lE n2 s2 q m2=>?_;clear hs;repeat' refine ak ?_;intros
  refine eP ((n.A b).ids.length-(i+1)) zQ ⟨i+1,lE,n2,by simp,rfl,by omega,s2,?_⟩;rw[CE hx];refine ht.add ?_;obtain⟨v,r,e1,e2⟩:=q;exact⟨v,r,by rw[e1,e.2.2.1],e2⟩
 ·repeat' refine aJ ?_;intros
  rw[az zQ] at ht;exact s.fin λwa hk=>⟨ou,by rw[hN,if_pos rfl];exact ht⟩
def ey (n:bo) (b:Nat) (d:pa):bo:= { n with A:=λb'=>if b'=b then d else n.A b' }
theorem js:(ey n b d).A b=d:=if_pos rfl
theorem Ij (h: ∀i,Q (tx b i)-> ∀w K A,(JS b (n.A b) i).p w K A->(JS b d i).p w K A:=by intro i hq w K A h;rcases i with _|_|_|_|_|_|_|_|i<;>first|exact h|exact absurd rfl hq.1|exact absurd rfl hq.2.1|exact absurd rfl hq.2.2|exact absurd rfl hq) (ht:d.x.aM=(n.A b).x.aM:=by rfl):
  ∀c,Q c-> ∀w K A,(dR n c).p w K A->(dR (ey n b d) c).p w K A:=
 ny (ar7 h) λi hi hq w K A p=>by
  by_cases aon:i=12
  ·subst aon;intro t b' e
   show(if b'=b then d else n.A b').x.aM=t
   by_cases hb:b'=b
   ·subst hb;rw[if_pos rfl,ht];exact p t b' e
   ·rw[if_neg hb];exact p t b' e
  ·rcases i with _|_|_|_|_|_|_|_|_|_|_|_|_|i<;>first|exact p|exact absurd rfl aon
theorem An:ey (ey n b d) b e=ey n b e:=by
 unfold ey
 congr 1
 funext b'
 by_cases h:b'=b<;>simp[h]
theorem Qn {d':pa} (h: ∀i,Q (tx b i)-> ∀w K A,(JS b d i).p w K A->(JS b d' i).p w K A:=by intro i hq w K A h;rcases i with _|_|_|_|_|_|_|_|i<;>first|exact h|exact absurd rfl hq.1|exact absurd rfl hq.2.1|exact absurd rfl hq.2.2|exact absurd rfl hq|exact⟨h.1,h.2.1,λe=>Bool.noConfusion e⟩) (ht:d'.x.aM=d.x.aM:=by rfl):
  ∀c,Q c-> ∀w K A,(dR (ey n b d) c).p w K A->(dR (ey n b d') c).p w K A:=λc hq w K A p=>by
 have:=Ij (n:=ey n b d) (d:=d') (by rw[js];exact h) (by rw[js];exact ht) c hq w K A p
 rwa [An] at this
theorem _root_.Go.aL.St.vs (s:Sn w0 bN w X own (ey n b d)) (hb:n.gy b):aH w X b (Jy d.x d.vw) aT/\aL.one d.vw=true/\aL.one d.x.vs=true/\aL.one d.x.vp=true/\aL.one d.x.vq=true:=by
 have:=s.va (b:=b) hb
 rwa [js] at this
theorem Told.set {N:bo} {l:List cJ} :Told N l n1->Told (ey N b e) l (ey n1 b e):=by
 rintro⟨v,r,rfl,h⟩;exact⟨v,r,rfl,h⟩
theorem qD (hi:i<4\/i=7) (h:(JS b d i).p w K A):(dR (ey n b d) (tx b i)).p w K A:=by
 rw[vI _ _ _ zQ];rcases i with _|_|_|_|_|_|_|_|i<;>first|(simp only[zg,CW,js];exact λ_=>h)|omega
theorem N9 {m:cJ} {vs vc:Value} (h:jy w own n) (hX:qV own X) (hb:n.gy b) (hm:m.at w (bQ own 4) vk vs vw vp vr vc vh vd) (hf:m.CC) (hi:1<=n.c.id/\n.c.id<=2) (hl:n.rm.length<=2^20) (xt:(n.A b).rw.length<=2^20):
  Ct pg 63 #[ptr n.nb 0,ptr b 0,m.v vk vs vw vp vr vc vh vd] w X (gF own) λ_ wa w'=>NQ dR own wa w' λ_ n'=> ∃lC pJ,pJ.length=(n.A b).rw.length+1/\
   Told (ey n b { n.A b with vw:=lC,rw:=pJ,ws:=(n.A b).ws++[m.asked (n.A b).x] }) [(m.asked (n.A b).x).o9 (20+n.c.id)] n':=by
 intro w0 hk;have s:=St.init h hX hk;replace hm:=hm.mv (yF hX hk);obtain⟨⟨a1,a2,a3,rfl⟩,⟨b1,b2,b3,rfl⟩,⟨c1,c2,c3,rfl⟩,⟨e1,e2,e3,rfl⟩,q5,q6,q7,q8⟩:=hm.fm;have ha:=(s.va hb).1;have hs:=s.rf;refine No.1 λ_=>?_;repeat' first|refine ak ?_;intros|(refine q1e hs ?_;intro _ _ _ w X hs ho)
 replace hm:=hm.mv (hs.gV (s.sub 4));replace s:=s.since hs;have jw:=fT.ahU ⟨_,_,_,_,_,_,_,_,rfl,hm.as (m':=m.asked (n.A b).x)⟩;have nu:=s.h.act hb;refine s.ap1 (tx b 0) (tx b 1) (tx b 3) nu.1 nu.2.1 ho.sl jw.Xx oQ (λv=>dR (ey n b { n.A b with vw:=v,rw:=_,ws:=(n.A b).ws++[m.asked (n.A b).x] })) (λ_ _ _ _ h=>qD dQ h) (λ_ _ _ _ h=>qD dQ h)
  (λ_ _ K A mv h=>qD dQ (by rw[vI _ _ _ dQ] at h;exact⟨fT.app (h hb).1 (jw.mv mv),(h hb).2⟩)) (λv'=>Ij) (λv' w' X' aG s' m'=>?_) (yD:=by unfold tx;omega)
 replace hm:=hm.mv m';clear hs ha nu;have hs:=s'.rf;repeat' refine ak ?_;intros
 refine cu (HH (m:=m.asked (n.A b).x) ((hm.mv (Mv.sub (s'.sub 4))).as) ⟨hf.keys,hf.seen,hf.writes,hf.parts⟩) kQ s'.has ?_;rintro _ Qp w7 X7 ⟨Hu,CG,vw2,JF,rfl,u1,u2,u3,u4⟩ Ss GH oO;replace hm:=hm.mv (oO.gV (s'.sub 4));have s7:=s'.since oO;obtain⟨Su,s8,m8,e8,n8⟩:=s7.uR (N:=made Qp w7) λk hk=>⟨GH k hk,by have:=hk.1;have:=s'.nw (k:=k) zQ;exact this⟩;have k8:Mv (made Qp w7) w7 (bQ Su 4) w7:=Mv.sub n8;replace hm:=(hm.mv m8).as (m':=m.asked (n.A b).x);refine s8.call (Bb (n:=ey n b _) (m:=m.asked (n.A b).x) s8.h s8.x ⟨u1.mv k8,u2.mv k8,u3.mv k8,u4.mv k8,hm.ranges,hm.bh,hm.iu,hm.gY⟩ hi hl) kQ λv w9 X9 nv n9 s9 q m9=>?_;obtain⟨v9,r9,rfl,Qr⟩:=q
 skip
 exact s9.fin λwa hk=>⟨_,_,by rw[aa];rfl,v9,r9,rfl,Qr⟩
def dV (n:bo):bo:= { n with vm:=aP,va:=aP,rm:=[],ra:=[],ms:=[] }
structure zU (w:World) (own:Nat->Nat) (n:bo):Prop where
 om:Sl w (bQ own 4) 36 n.vm n.rm
 hm:fT w (bQ own 4) n.rm n.ms
 oa:Sl w (bQ own 4) 9 n.va n.ra
def zU.mv (h:zU w own n) (m:Mv (bQ own 4) w (bQ aG 4) w'):zU w' aG n:=⟨h.om.mv m,h.hm.mv m,h.oa.mv m⟩
def Sw (own:Nat->Nat) (wa w':World) (P:bo->Prop) (Q:bo->Prop):Prop:=NQ dR own wa w' λaG n'=> ∃n1,P n1/\Q n1/\n'=dV n1/\zU w' aG n1
theorem EE (h:jy w own n) (hX:qV own X):Ct pg 47 #[ptr n.nb 0] w X (gF own) λv wa w'=>NQ dR own wa w' λaG n'=>v= .agg #[n.vm,n.va]/\n'=dV n/\zU w' aG n:=by
 intro w0 hk;have s:=St.init h hX hk;obtain⟨hr,o2,o3,-⟩:=s.v;have hs:=s.rf;have hO:zU w0 own n->True:=λ_=>trivial;have q8:Own w0 (bQ own 8) 0 mT 36 n.vm n.rm:=s.get 8;have q9:Own w0 (bQ own 9) 0 anT 9 n.va n.ra:=s.get 9;have Rm:fT w0 (bQ own 4) n.rm n.ms:=s.get 11;obtain⟨ia,s1,m1,e1,e2⟩:=s.Xm (F':=λc=>if c=8\/c=9\/c=11 then QT else dR n c) (λc=>c=8\/c=9) dQ (λc hc w K=>by rw[if_pos zQ];trivial) λc hc K A _ h=>by
  by_cases e:c=11
  ·rw[if_pos zQ];trivial
  ·rw[if_neg zQ];exact h
 have hO:zU w0 ia n:=⟨q8.sl.mono λk e=>e1 k (.inl e),Rm.mv m1,q9.sl.mono λk e=>e1 k (.inr e)⟩;refine L9.1 λ_=>?_;repeat' refine ak ?_;intros
 refine s1.stN (o:=10) 1 (s1.get 1) (dR (dV n)) zQ kQ (Nat.le_of_ble_eq_true rfl) rfl rfl (λ_ _ _ h=>h) (λc hc w K A h=>?_) λw2 X2 lE s2 m2=>?_
 ·by_cases e:c=8\/c=9\/c=11
  ·rcases e with rfl|rfl|rfl
   ·exact Own.nil _ _ _ _ _
   ·exact Own.nil _ _ _ _ _
   ·exact fT.nil _ _
  ·rw[if_neg e] at h;exact(ny: ∀c,(c≠1/\c≠8/\c≠9/\c≠11)-> ∀w K A,(dR n c).p w K A->(dR (dV n) c).p w K A) c zQ w K A h
 clear hs;repeat' refine ak ?_;intros
 exact s2.fin λwa hk=>⟨rfl,rfl,(hO.mv m2).mv (yF s2.x hk)⟩
def _root_.Go.aL.St.alT {v:Value} {P:bo->Prop} {Q:Value->bo->Prop} (s:Sn w0 bN w X own (dV n1)) (q:zU w own n1) (hp:P n1) (hq:Q v n1):aL.fin (uF (gF bN) w0 λv w'=>Sw bN w0 w' P (Q v)) X w v:=
 St.fin (Q:=λv w' aG n'=> ∃n1,P n1/\Q v n1/\n'=dV n1/\zU w' aG n1) s λwa hk=>⟨n1,hp,hq,rfl,q.mv (yF s.x hk)⟩
theorem HG (h:jy w own n) (hX:qV own X) (hb:b∈n.cl) (hi:1<=n.c.id/\n.c.id<=2) (hl:n.rm.length+(n.C b).waits.length<=2^20):
  Ct pg 46 #[ptr n.nb 0,ptr b 0] w X (gF own) λ_ wa w'=>NQ dR own wa w' λ_ n'=>Told n ((n.C b).waits.map λid=>(SI (n.C b).r id).o9 (20+n.c.id)) n':=by
 intro w0 hk;have s:=St.init h hX hk;obtain⟨hc,o1,o2,hw⟩:=s.vc hb;have kG:(n.C b).waits.length<=2^20:=by omega
 have hs:=s.rf;refine IM.1 λ_=>?_;repeat' refine ak ?_;intros
 refine fp (λn' a w X=> ∃(i:Nat) (aG:Nat->Nat) (n1:bo),a=I (i:Nat)/\n'=(n.C b).waits.length-i/\i<=(n.C b).waits.length/\Sn w0 own w X aG n1/\Told n (((n.C b).waits.take i).map λid=>(SI (n.C b).r id).o9 (20+n.c.id)) n1) (n.C b).waits.length ⟨0,own,n,rfl,rfl,Nat.zero_le _,s,Told.nil _⟩ ?_;clear hs s hc hw;rintro n' _ w1 X1 ⟨i,ia,n1,rfl,rfl,Qy,s,ht⟩;obtain⟨Xn,Qo,rfl,qh⟩:=id ht;obtain⟨hc,o1,o2,hw⟩:=s.vc (b:=b) hb;have hs:=s.rf;dsimp only at hc hw;rcases dA ((n.C b).waits) i with⟨cB,id,hx,hd⟩|⟨dB,hd⟩
 ·repeat' refine aJ ?_;intros
  refine s.call (Bb (n:= { n with vm:=Xn,rm:=Qo,ms:=_ }) (m:=SI (n.C b).r id) s.h s.x SJ hi (by simp at qh;simp;omega)) kQ λv w2 X2 lE n2 s2 q m2=>?_;clear hs;repeat' refine ak ?_;intros
  exact eP ((n.C b).waits.length-(i+1)) zQ ⟨i+1,lE,n2,by simp,rfl,by omega,s2,by rw[CE hx];exact ht.add q⟩
 ·repeat' refine aJ ?_;intros
  rw[az zQ] at ht;exact s.fin λwa hk=>by rw[az zQ];exact ht
abbrev Gj:=List (BA×gL)
def uB (o:jE) (s:List gL) (wr:Gj):Except Int (List gL×Gj):=
 if o.code=2 then .ok (s.tail,cK o.key (s.headD .zero) wr)
 else if o.code=3 then .ok (s,cK o.key .zero wr)
 else if o.code=4 then .ok (o.val::s,wr)
 else if o.code=13 then(if RX (s.headD .zero)then .ok (s.tail,wr)else .error 22)
 else if o.code=14 then .ok (s.headD .zero::s,wr)
 else match yZ o.code (s.tail.headD .zero) (s.headD .zero)with
  | .ok l=>.ok (l++s.tail.tail,wr)
  | .error e=>.error e
section
variable {N N' : XS} {rb sb wb : Nat} {xh nY : Value} {s s' : List gL} {wr oE : Gj}
theorem iq.put (h:iq w N rb sb wb xh s wr) (hX: ∀k,N k->X k) (c:dY (· =wb) X w X' w') (hm:dK w' X' nX wb Value.string mW oE):iq w' N rb sb wb xh s oE:=
 ⟨⟨h.row.1,(c.block _ (hX _ h.row.1) λe=>h.ne e.symm).trans h.row.2⟩,Nc h.own λg hg=>⟨h.own.2.2 g hg,c.block g (hX _ (h.own.2.2 g hg)) λe=>h.ns.2 (by rw[<-e];exact hg)⟩,lv hm h.map.x.1⟩
theorem apO {b c:Value} {o':Nat} {C:Value->Prop} (h:aH w X rb [a,b,c] runT) (ho:o'=0+2) (n:C c):aX pg X w (ld1 287 (ptr rb o')) C:=by
 have hc:Cells w X rb (0+2) [c]:=h.cells.Wp (fo:=2) rfl;rw[ho];exact aeu hc (Mv.refl _ _) kQ rfl n
theorem ajp {o:jE} (h:iq w N rb sb wb xh s wr) (hN:FX N X w) (hl:s.length<=2^20) (hg:o.code≠1) (hc:1<=o.code/\o.code<=15) (ht:tD o.code<=s.length):
  EU pg 168 #[ptr rb 0,.agg o.l.toArray] w X N (λ_ wa w'=> ∃s' oE N' nY,uB o s wr= .ok (s',oE)/\(∀k,N' k->N k\/made wa w' k)/\iq w' N' rb sb wb nY s' oE) (λch _ _=> ∃e,uB o s wr= .error e/\ch=vE e):=by
 intro w0 hk;have hT:=hN.ft hk;replace h:=h.mv (hN.mv hk);have JQ:=hN.kp hk;have bw:=h.row.mono λk af=>(JQ k af).1;have Ed: ∀{w3:World} {X3:XS} {N3:XS} {s3:List gL} {Vn:Gj} {v:gL} {Af:Value} {K:Value->World->XS->Prop},Ft w0 N w3 X3 N3->iq w3 N3 rb sb wb Af s3 Vn->s3.length<=2^30->
   (∀x w4 X4 N4 Hf,Ft w0 N w4 X4 N4->iq w4 N4 rb sb wb Hf (v::s3) Vn->K x w4 X4)->eC pg (EV N w0 (λ_ w'=> ∃s' oE N' nY,uB o s wr= .ok (s',oE)/\(∀k,N' k->N k\/made w0 w' k)/\iq w' N' rb sb wb nY s' oE) (λch _=> ∃e,uB o s wr= .error e/\ch=vE e)) X3 w3 true 234 #[ptr rb 0,v.v] K:=λq1 q2 q3 k=>by
  refine q1.call (Jh q2 (λk af=>⟨q1.bA k af,q1.s.has k (q1.bA k af)⟩) q3) kQ (λ_ h=>h) λv zf w4 X4 hq tq oF fQ c4=>?_;obtain⟨N4,Hf,UR,h4⟩:=hq;exact k _ _ _ _ _ (fQ.less UR) h4
 have ajq: ∀{w3:World} {X3:XS} {N3:XS} {s3:List gL} {Vn:Gj} {v:gL} {Af:Value} {K:Value->World->XS->Prop},Ft w0 N w3 X3 N3->iq w3 N3 rb sb wb Af (v::s3) Vn->
   (∀w4 X4 Hf,Ft w0 N w4 X4 N3->iq w4 N3 rb sb wb Hf s3 Vn->aH w4 X4 rb [Hf,.map (some sb),.map (some wb)] runT->K v.v w4 X4)->eC pg (EV N w0 (λ_ w'=> ∃s' oE N' nY,uB o s wr= .ok (s',oE)/\(∀k,N' k->N k\/made w0 w' k)/\iq w' N' rb sb wb nY s' oE) (λch _=> ∃e,uB o s wr= .error e/\ch=vE e)) X3 w3 true 236 #[ptr rb 0] K:=λq1 q2 k=>by
  refine q1.call (Mz q2 (λk af=>⟨q1.bA k af,q1.s.has k (q1.bA k af)⟩)) kQ (λ_ h=>h) λv zf w4 X4 hq tq oF fQ c4=>?_;obtain⟨rfl,Hf,h4⟩:=hq;have zW:=fQ.less (F':=_) λk af=>.inl af;exact k _ _ _ zW h4 (h4.row.mono λk af=>zW.bA k af)
 have Mw: ∀{w3:World} {X3:XS} {N3:XS} {s3:List gL} {v:gL} {Af:Value} {K:Value->World->XS->Prop},Ft w0 N w3 X3 N3->iq w3 N3 rb sb wb Af s3 wr->
   (∀w4 X4,Ft w0 N w4 X4 N3->iq w4 N3 rb sb wb Af s3 (cK o.key v wr)->K undef w4 X4)->eU pg (EV N w0 (λ_ w'=> ∃s' oE N' nY,uB o s wr= .ok (s',oE)/\(∀k,N' k->N k\/made w0 w' k)/\iq w' N' rb sb wb nY s' oE) (λch _=> ∃e,uB o s wr= .error e/\ch=vE e)) X3 w3 true (Instr.mapUpdate 287 (.map (some wb)) (.string o.key) v.v) K:=λ{w3} {X3} {N3} {s3} {v} {Af} {K} q1 q2 k=>by
  refine uU (kv:=Value.string) (k:=o.key) (a:=v) (kt:=9) (et:=97) (q2.mv (Mv.sub q1.bA)).map kC rfl (λ_ h=>h.elim) yc kQ q1.s.has λw4 X4 c4 Ao=>?_;exact k _ _ (q1.dX (F':=N3) c4 (λk af=>by subst af;exact q2.map.x.1) λk af=>.inl af) (q2.put q1.bA c4 Ao)
 have tQ: ∀{w3:World} {X3:XS} {N3:XS} {s3:List gL} {Vn:Gj} {Af:Value} {x:Value},Ft w0 N w3 X3 N3->iq w3 N3 rb sb wb Af s3 Vn->uB o s wr= .ok (s3,Vn)->
   fin (EV N w0 (λ_ w'=> ∃s' oE N' nY,uB o s wr= .ok (s',oE)/\(∀k,N' k->N k\/made w0 w' k)/\iq w' N' rb sb wb nY s' oE) (λch _=> ∃e,uB o s wr= .error e/\ch=vE e)) X3 w3 x:=λq1 q2 q3=>
  q1.xN λwa aI=>⟨_,_,_,_,q3,q1.ju aI λ_ h=>h,q2.mv (aI.jd q1.bA)⟩
 have hs:=ai.init w0;have h1:tD o.code=if o.code=3\/o.code=4 then 0 else if o.code=2\/o.code=13\/o.code=14 then 1 else 2:=by
  unfold tD;rw[if_neg zQ];by_cases q:o.code=3\/o.code=4
  ·rw[if_pos zQ,if_pos q]
  ·rw[if_neg zQ,if_neg q]
 by_cases e2:o.code=2
 ·rw[if_neg zQ,if_pos zQ] at h1;cases s with
  |nil=>simp at ht;omega
  |cons v s=>
   refine oM.1 λ_=>?_;repeat' first|refine aJ ?_;intros|with_reducible apply cD|(refine ajq hT h λw1 X1 ajg dW h1 DZ=>?_)|(refine And.intro ?_ ?_)|(refine Mw aQ aQ λw2 X2 cY h2=>?_)|(exact tQ aQ aQ (by unfold uB;rw[if_pos e2];rfl))|(refine apO aQ aQ ?_)
 by_cases e3:o.code=3
 ·refine oM.1 λ_=>?_;repeat' first|refine aJ ?_;intros|with_reducible apply cD|(refine Mw (v:=.zero) hT h λw2 X2 cY h2=>?_)|(exact tQ aQ aQ (by unfold uB;rw[if_neg e2,if_pos e3]))
 by_cases e4:o.code=4
 ·refine oM.1 λ_=>?_;repeat' first|refine aJ ?_;intros|with_reducible apply cD|(refine Ed (v:=o.val) hT h zQ λx w2 X2 N2 aoe cY h2=>?_)|(exact tQ aQ aQ (by unfold uB;rw[if_neg e2,if_neg e3,if_pos e4]))
 by_cases e13:o.code=13
 ·rw[if_neg zQ,if_pos zQ] at h1;cases s with
  |nil=>simp at ht;omega
  |cons v s=>
   refine oM.1 λ_=>?_;repeat' first|refine aJ ?_;intros|with_reducible apply cD|(refine ajq hT h λw1 X1 ajg dW h1 DZ=>?_)
   refine rL (aag v) kQ dW.s.has λw2 X2 bB=>?_;have cY:=dW.since bB;have h2:=h1.mv (bB.gV λk af=>dW.bA k af);by_cases hh:RX v=true
   ·rw[hh];repeat' first|refine ak ?_;intros|(exact tQ cY h2 (by unfold uB;rw[if_neg e2,if_neg e3,if_neg e4,if_pos e13];simp only[List.headD_cons,hh,if_true,List.tail_cons]))
   ·rw[Bool.eq_false_iff.2 hh];repeat' first|refine ak ?_;intros|(with_reducible refine SE ?_ ?_);(· kernel_rfl)
    exact SF cY.s.has λwa nM=>cY.jc nM ⟨22,by unfold uB;rw[if_neg e2,if_neg e3,if_neg e4,if_pos e13];exact if_neg hh,rfl⟩
 by_cases e14:o.code=14
 ·rw[if_neg zQ,if_pos zQ] at h1;cases s with
  |nil=>simp at ht;omega
  |cons v s=>
   refine oM.1 λ_=>?_;repeat' first|refine aJ ?_;intros|with_reducible apply cD|(refine ajq hT h λw1 X1 ajg dW h1 DZ=>?_)
   refine Ed (v:=v) dW h1 (by simp only[aK] at hl;omega) λx w2 X2 N2 aoe cY h2=>?_;repeat' refine ak ?_;intros
   refine Ed (v:=v) cY h2 (by simp only[aK] at hl⊢;omega) λx w3 X3 N3 Af dU h3=>?_;repeat' first|(exact tQ aQ aQ (by unfold uB;rw[if_neg e2,if_neg e3,if_neg e4,if_neg e13,if_pos e14];rfl))
 ·rw[if_neg zQ,if_neg zQ] at h1;obtain⟨b,a,s,rfl⟩: ∃b a s',s=b::a::s':=by
   match s,ht with
   |[],ht=>simp at ht;omega
   |[_],ht=>simp at ht;omega
   |b::a::s,_=>exact⟨b,a,s,rfl⟩
  have hd:uB o (b::a::s) wr=match yZ o.code a b with| .ok l=>.ok (l++s,wr)| .error e=>.error e:=by
   unfold uB;rw[if_neg e2,if_neg e3,if_neg e4,if_neg e13,if_neg e14];rfl
  refine oM.1 λ_=>?_;repeat' first|refine aJ ?_;intros|with_reducible apply cD
  refine hT.Gc (agK h JQ (by simp only[aK] at hl;omega)) kQ (λ_ h=>h) (λv ze w3 X3 hq qB mz dU c3=>?_) λch ze w3 X3 hq qB mz dU c3 wb pe=>?_
  ·obtain⟨l,N3,Af,hl3,hN3,h3⟩:=hq;repeat' first|(exact tQ (dU.less hN3) h3 (by rw[hd,hl3]))
  ·obtain⟨e,he,hch⟩:=hq;exact dU.jc pe ⟨e,by rw[hd,he],hch⟩
end
end Go.Proofs.YtgfijddlkhkopaaGreat