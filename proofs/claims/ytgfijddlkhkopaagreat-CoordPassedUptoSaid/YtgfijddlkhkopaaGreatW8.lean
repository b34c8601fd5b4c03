/- Part 8 of the proof. -/
import Derived.Test.YtgfijddlkhkopaaGreatW7
set_option linter.all false
open List renaming mem_singleton → av, map_append → aC, replicate → gF, getElem?_append_left → dT, length_append → aa, getElem?_append_right → cZ, append_assoc → ao, length_map → af, getLast?_eq_some_getLast → mc, nil_append → cI, take_of_length_le → aA, length_cons → aL, dropLast_concat_getLast → rT, pairwise_singleton → uR, getElem?_eq_getElem → aZ, not_mem_nil → dq
open ByteArray renaming size_append → qS
open Go.Value renaming int → az
open Option.some renaming inj → cn
open Nat renaming le_trans → ad
namespace Go.Proofs.YtgfijddlkhkopaaGreat
open Go.Proofs.Tryz renaming prog → pg
open Go.aK
set_option maxRecDepth 100000
set_option maxHeartbeats 4000000
attribute [local irreducible] un jn jc iE ld1 iw st1 kY kZ oP rF o9 Hg Dz gO ga aV lK lB eW eV eU eC eF gE me fin iu bu eB vS Kz Hh Hi Hj Hk Hl KA KB KC KD Et Eu Hm Hn Ho KE KF KG
def pZ:Nat->Nat->List Nat
 |0,_=>[]
 |k+1,n=>pZ k (n/10)++[48+n % 10]
theorem vi: ∀k n,(pZ k n).length=k
 |0,_=>rfl
 |k+1,n=>by rw[pZ,aa,vi];rfl
def bS (dir:ByteArray) (n:Nat):ByteArray:=dir++⟨#[46]⟩++zV (pZ 8 n)
theorem A1 (dir:ByteArray) (n:Nat):(bS dir n).size=dir.size+9:=by
 unfold bS;rw[qS,qS,UC,vi];rfl
variable {X : XS} {w : World} {b : Nat}
section
variable {P : Program} {N : Value -> Prop} {t : TypeId}
theorem aff {a:Nat} (hb:b≠0) (h:N (I ((a % b:Nat):Int))):aV P X w (binOp .rem t (I (a:Int)) (I (b:Int))) N:=by
 refine bF (λwa=>?_) h;simp[binOp,Op.intDiv,hb];exact(Int.ofNat_tmod a b).symm
theorem an1 {a:Nat} (hb:b≠0) (ha:a<2^63) (h:N (I ((a/b:Nat):Int))):aV P X w (binOp .quo t (I (a:Int)) (I (b:Int))) N:=by
 refine bF (λwa=>?_) h;have h1:(a:Int).tdiv b=((a/b:Nat):Int):=(Int.ofNat_tdiv a b).symm;have h2:a/b<=a:=Nat.div_le_self a b;have h3:IntKind.i64.wrap ((a/b:Nat):Int)=((a/b:Nat):Int):=by
  generalize a/b=q at h2;simp[IntKind.wrap,IntKind.bits,IntKind.signed];omega
 have dZ: ¬(b:Int)=0:=by omega
 simp only[binOp,Op.intDiv,dZ,if_false,h1,h3];simp
end
theorem apy (a:Int):Instr.fill (λi=>some (i*1,1)) ((Array.range (8*1)).map ((az .u8 0).cells[· % (az .u8 0).cells.size]!)) [(0,.int .u8 a),(1,.int .u8 a),(2,.int .u8 a),(3,.int .u8 a),(4,.int .u8 a),(5,.int .u8 a),(6,.int .u8 a),(7,.int .u8 a)]=some #[.int .u8 a,.int .u8 a,.int .u8 a,.int .u8 a,.int .u8 a,.int .u8 a,.int .u8 a,.int .u8 a]:=by kernel_rfl
abbrev U8 (x:Nat):Value:=.int .u8 x
variable {dir : ByteArray}
theorem yl {n:Nat} (hd:dir.size<=2^40) (hn:n<2^63):Ct pg 178 #[.string dir,I n] w X nX λv wa w'=>v= .string (bS dir n):=by
 intro w0 hk;refine aa0.1 λ_=>?_;have hT:Ft w0 nX w0 (bI w0) nX:=Ft.init λ_ h=>h.elim;refine V7 (e:=5) (k:=1) (bytes:=1) (rows:=(gF 8 48).map U1) #[.int .u8 48,.int .u8 48,.int .u8 48,.int .u8 48,.int .u8 48,.int .u8 48,.int .u8 48,.int .u8 48] (.int .u8 0) hT.s.has kQ kQ dQ dQ (apy 48) sQ rfl rfl λs w1 X1 ax ho=>?_;rcases ho.row with⟨_,he⟩|⟨g,cap,cs,rfl,gw,bo,pL,iF,qi,uG⟩
 ·cases he
 have h8:cs.take 8=(gF 8 48).map U8:=uG;have hl8:8<=cs.length:=by have:((gF 8 48).map U1).length<=cap:=pL;simp at this;omega
 refine akS bo kQ kQ ax.has λw2 X2 hc hF=>?_;have ea:Ft w0 nX w1 X1 (λk=>k=g):=(hT.since ax).more λk ah=>by subst ah;exact .inr ⟨bo.1,gw⟩
 have dh:Ft w0 nX w2 X2 (λk=>k=g):=ea.dY hc (λk ah=>ah) λk ah=>.inl ah;refine gv (λn' a b w X=> ∃(k m:Nat) (tail:List Nat) (cs:List Value),a=I ((k:Int)-1)/\b=I (m:Int)/\n'=k/\k<=8/\m<2^63/\pZ 8 n=pZ k m++tail/\IN w X g cs 5/\cs.take 8=(gF k 48++tail).map U8/\8<=cs.length/\Ft w0 nX w X (λk=>k=g)) 8 ⟨8,n,[],cs,rfl,rfl,rfl,Nat.le_refl _,hn,by simp,hF,by simpa using h8,hl8,dh⟩ ?_;clear h8 hl8 hF dh hc;rintro k a b w X ⟨_,m,tail,cs,rfl,rfl,rfl,hk8,hm,Y5,hF,M1,hl8,dh⟩;have cD:(pZ k m).length+tail.length=8:=by have:=congrArg List.length Y5;rw[vi,aa] at this;exact this.symm
 rw[vi] at cD;cases k with
 |succ k=>
  have AQ:cs[k]? =some (U8 48):=by
   have h1:(cs.take 8)[k]? =cs[k]? :=by rw[List.getElem?_take,if_pos zQ]
   rw[<-h1,M1,aC,dT sQ];simp
  have Bw:=hF.cells.V9 AQ;rw[Nat.zero_add] at Bw;have hz:((k+1:Nat):Int)-1=(k:Nat):=by omega
  have h49:IntKind.u8.wrap (((48:Nat):Int)+IntKind.u8.wrap ((m % 10:Nat):Int))=((48+m % 10:Nat):Int):=by rw[MF,MF];omega
  rw[hz];repeat' refine aJ ?_;intros
  refine ajH rfl oQ kQ kQ ?_;rw[Nat.mul_one];refine aef Bw (Mv.refl _ _) kQ rfl ?_;refine aff (a:=m) (b:=10) zQ ?_;refine aeg kQ kQ ?_;refine nK ?_;rw[h49];refine ajH rfl oQ kQ kQ ?_;rw[Nat.mul_one];refine ao4 hF kQ zQ rfl dh.s.has λw3 X3 c hF3=>?_;have dU:Ft w0 nX w3 X3 (λk=>k=g):=dh.dY c (λk ah=>ah) λk ah=>.inl ah;refine an1 (a:=m) (b:=10) zQ hm ?_;repeat' refine ak ?_;intros
  refine fw k zQ ⟨k,m/10,(48+m % 10)::tail,_,rfl,rfl,rfl,by omega,by omega,?_,hF3,?_,by rw[List.length_set];exact hl8,dU⟩
  ·rw[Y5,pZ,ao];rfl
  ·rw[List.take_set,M1];have e:(gF (k+1) 48++tail)=gF k 48++48::tail:=by rw[List.replicate_succ',ao];rfl
   rw[e,aC,aC,List.set_append_right _ _ sQ,af,List.length_replicate,Nat.sub_self];rfl
 |zero=>
  have htl:tail=pZ 8 n:=by rw[Y5];rfl
  have arR:cs.take 8=(pZ 8 n).map U8:=by rw[M1,<-htl];rfl
  have Bw:Cells w X g 0 ((pZ 8 n).map λx:Nat=>az .u8 x):=by
   have h1:=hF.cells.part 0 8;rw[List.drop_zero,arR] at h1;exact h1
  have h2:ai (bI w0) w0 X w:=dh.C4;repeat' refine aJ ?_;intros
  refine Y1 (by show dir.size+1<=_;omega) ?_;refine MG (e:=5) (by simp[vi]) Bw kQ kQ kQ dh.s.has λw4 X4 fV=>?_;replace h2:=h2.trans fV;refine Y1 (by rw[qS,UC,vi];show dir.size+1+8<=_;omega) ?_;exact bM h2 λwa aH=>rfl
theorem ade {n:Nat} (h1:1<=dir.size) (h2:dir.size<=11) (h3:1<=n) (h4:n<=99999999):Ct pg 124 #[.string dir,I n] w X nX λv wa w'=>v= .tuple #[.string (bS dir n),I 0]:=by
 intro w0 hk;refine aaZ.1 λhs=>?_;repeat' first|refine aJ ?_;intros|refine cM ?_ ?_<;>intros|(refine cd (yl zQ zQ) kQ hs.has ?_;rintro _ wa w X rfl hle gn ax;replace hs:=hs.trans ax)|(refine qr ?_;intro wa hk;rfl)
 rename_i he;subst he;exact absurd h1 dQ
structure dV where
 first:Nat
 bt:List (List Nat)
 size:Nat
structure LM where
 dir:ByteArray
 room:Nat
 bC:List dV
 safe:Int
def LM.last (L:LM):dV:=L.bC.getLast?.getD ⟨0,[],0⟩
def LM.next (L:LM):Nat:=L.last.first+L.last.bt.length
def LM.ff (L:LM):ByteArray:=bS L.dir L.last.first
structure LD where
 L:LM
 m:DM
def LD.sync (x:LD):LD×Nat:=let r:=x.m.sync x.L.ff;(⟨if r.2=0 then { x.L with safe:=(x.L.next:Int)-1 } else x.L,r.1⟩,r.2)
def LD.iJ (x:LD) (n:Nat):LD×Nat:=let r:=x.m.create (bS x.L.dir n);(⟨if r.2=0 then { x.L with bC:=x.L.bC++[⟨n,[],0⟩] } else x.L,r.1⟩,r.2)
def LD.room (x:LD):LD×Nat:=if x.L.room<=x.L.last.size then(let r:=x.sync;if r.2≠0 then r else r.1.iJ x.L.next)else(x,0)
def LM.add (L:LM) (p:List Nat):LM:= { L with bC:=L.bC.dropLast++[⟨L.last.first,L.last.bt++[p],L.last.size+(dt p).length⟩] }
def LD.lay (x:LD) (p:List Nat):LD×Nat:=let r:=x.m.append x.L.ff (dt p);(⟨if r.2=0 then x.L.add p else x.L,r.1⟩,r.2)
def LD.append (x:LD) (p:List Nat):LD×Nat×Nat:=
 if 262144<p.length then(x,0,2)else if 99999999<x.L.next then(x,0,1)else
  let r:=x.room
  if r.2≠0 then(r.1,0,r.2)else
   let q:=r.1.lay p
   if q.2≠0 then(q.1,0,q.2)else(q.1,x.L.next,0)
structure mG where
 b:Nat
 first:Nat
 rv:Value
 rs:List (Value×List Nat)
 size:Nat
def mG.er (s:mG):dV:=⟨s.first,s.rs.map (·.2),s.size⟩
def aaf (x y:mG):Prop:=x.b≠y.b/\ ∀g,x.rv.ownBlock=some g->y.rv.ownBlock≠some g
def wU (l:List Nat):Prop:= ∀x∈l,x<256
structure zn (w:World) (F:XS) (lb db:Nat) (sv:Value) (bl:List mG) (L:LM):Prop where
 bC:L.bC=bl.map mG.er
 box:aG w F lb [ptr db 0,.string L.dir,I L.room,sv,I L.safe] 231
 so:Ow w F 239 1 sv (bl.map λs=>[ptr s.b 0])
 row: ∀s∈bl,aG w F s.b [I s.first,s.rv,I s.size] 238
 Av: ∀s∈bl,Ow w F 151 1 s.rv (s.rs.map λr=>[r.1])
 HE: ∀s∈bl,∀r∈s.rs,Ow w F 5 1 r.1 (r.2.map U1)
 ap:bl.Pairwise aaf
variable {L : LM} {sv : Value} {db lb : Nat} {F F' : XS} {w' : World}
def zn.mv {bl:List mG} (h:zn w F lb db sv bl L) (v:Mv F w F' w'):zn w' F' lb db sv bl L:=
 ⟨h.bC,h.box.mv v,h.so.mv v,λs hs=>(h.row s hs).mv v,λs hs=>(h.Av s hs).mv v,λs hs r hr=>(h.HE s hs r hr).mv v,h.ap⟩
def Lg (w:World) (F:XS) (lb db:Nat) (L:LM) (m:DM):Prop:=
 ∃FL FD sv bl,Dj FL FD/\(∀k,FL k->F k)/\(∀k,FD k->F k)/\zn w FL lb db sv bl L/\Dk w FD db m
variable {m : DM}
theorem Lg.mv (h:Lg w F lb db L m) (v:Mv F w F w'):Lg w' F lb db L m:=by
 obtain⟨FL,FD,sv,bl,hd,h1,h2,h3,h4⟩:=h;exact⟨FL,FD,sv,bl,hd,h1,h2,h3.mv λk hk hl=>⟨hk,(v k (h1 k hk) hl).2⟩,h4.mv λk hk hl=>⟨hk,(v k (h2 k hk) hl).2⟩⟩
theorem Lg.mono (h:Lg w F lb db L m) (hs: ∀k,F k->F' k):Lg w F' lb db L m:=by
 obtain⟨FL,FD,sv,bl,hd,h1,h2,h3,h4⟩:=h;exact⟨FL,FD,sv,bl,hd,λk hk=>hs k (h1 k hk),λk hk=>hs k (h2 k hk),h3,h4⟩
structure pt (L:LM):Prop where
 ne:L.bC≠[]
 d1:1<=L.dir.size
 d2:L.dir.size<=11
 yK: ∀s∈L.bC,s.first+s.bt.length<=2^40/\s.size<=2^40
 room:L.room<=2^40
theorem LM.xL (h:L.bC≠[]):L.last∈L.bC:=by
 unfold LM.last;rw[mc h]
 grind
theorem LM.Su (h:L.bC≠[]):L.bC=L.bC.dropLast++[L.last]:=by
 unfold LM.last;rw[mc h];exact(rT h).symm
theorem pt.next (h:pt L):L.next<=2^40:=(h.yK _ (LM.xL h.ne)).1
theorem pt.first (h:pt L):L.last.first<=2^40:=by have:=h.next;unfold LM.next at this;omega
theorem zn.last {bl:List mG} (h:zn w F lb db sv bl L) (hL:pt L): ∃qZ s,bl=qZ++[s]/\s.er=L.last/\L.bC.dropLast=qZ.map mG.er:=by
 have cA:bl≠[]:=λe=>hL.ne (by rw[h.bC,e];rfl);refine⟨bl.dropLast,bl.getLast cA,(rT cA).symm,?_,?_⟩
 ·unfold LM.last;rw[h.bC,List.getLast?_map,mc cA];rfl
 ·rw[h.bC,List.map_dropLast]
variable {s : mG} {qZ : List mG}
section
variable {bl : List mG}
theorem ym (h:zn w F lb db sv (qZ++[s]) L) (hF:FX F X w):Ct pg 130 #[ptr lb 0] w X nX λv wa w'=>v=ptr s.b 0:=by
 intro w0 hk;replace h:=h.mv (hF.mv hk);have hX:=λk ah=>(hF.kp hk k ah).1;have hb:=h.box.mv (Mv.sub hX);have FN:=h.so.sl.mono hX;have hlen:=FN.gR;have xx:(qZ++[s]).length=qZ.length+1:=by simp
 have Db:(qZ++[s])[qZ.length]? =some s:=by simp
 refine Rk.1 λhs=>?_;repeat' first|refine ak ?_;intros|(refine qr ?_;intro wa hk;rfl)
theorem DU (h:zn w F lb db sv bl L) (hL:pt L) (hF:FX F X w):Ct pg 77 #[ptr lb 0] w X nX λv wa w'=>v=I L.next:=by
 intro w0 hk;obtain⟨qZ,s,rfl,he,_⟩:=h.last hL;replace h:=h.mv (hF.mv hk);have hX:=λk ah=>(hF.kp hk k ah).1;have lS:s∈qZ++[s]:=by simp
 have hb:=(h.row s lS).mv (Mv.sub hX);have hr:=(h.Av s lS).sl.mono hX;have hn:=hL.next
 have nj:L.next=s.first+s.rs.length:=by unfold LM.next;rw[<-he];simp[mG.er]
 have nN:FX F (bI w0) w0:=hF.kp hk;refine Rg.1 λhs=>?_;refine cd (ym h nN) kQ hs.has ?_;rintro _ wa w1 X1 rfl hle gn ax;replace hs:=hs.trans ax;have lL:=hb.since hs;repeat' refine ak ?_;intros
 refine cd (ym (h.mv (hs.gU hX)) λk ah=>⟨hs.sub k (hX k ah),hs.has k (hs.sub k (hX k ah))⟩) kQ hs.has ?_;rintro _ vM w2 X2 rfl kF jt bp;replace hs:=hs.trans bp;have wN:=hb.since hs;have jC:=hr.since hs;clear lL;repeat' first|refine ak ?_;intros|(refine qr ?_;intro wa hk;(rw[nj];simp))
theorem N7 (h:zn w F lb db sv bl L) {s:dV} {r:List dV} (hL:L.bC=s::r) (hF:FX F X w):Ct pg 76 #[ptr lb 0] w X nX λv wa w'=>v=I s.first:=by
 intro w0 hk;have La:=h.bC;rw[hL] at La;cases bl with
 |nil=>cases La
 |cons s' qZ=>
  simp only[List.map_cons,List.cons.injEq] at La;replace h:=h.mv (hF.mv hk);have hX:=λk ah=>(hF.kp hk k ah).1;have hb:=h.box.mv (Mv.sub hX);have wN:=(h.row s' sQ).mv (Mv.sub hX);refine Pk.1 λhs=>?_;repeat' refine ak ?_;intros
  refine ajG (i:=0) (h.so.sl.mono hX) rfl rfl kQ kQ λb o hc=>?_;repeat' first|refine ak ?_;intros|(refine qr ?_;intro wa hk;(rw[La.1];rfl))
end
structure LW (w:World) (F:XS) (lb db:Nat) (L:LM) (m:DM) (FL FD:XS) (sv:Value) (bl:List mG):Prop where
 dj:Dj FL FD
 hL: ∀k,FL k->F k
 hD: ∀k,FD k->F k
 l:zn w FL lb db sv bl L
 d:Dk w FD db m
def Lg.lw (h:Lg w F lb db L m): ∃FL FD sv bl,LW w F lb db L m FL FD sv bl:=let⟨FL,FD,sv,bl,a,b,c,d,e⟩:=h;⟨FL,FD,sv,bl,a,b,c,d,e⟩
variable {FD FL : XS}
def LW.lg {bl:List mG} (h:LW w F lb db L m FL FD sv bl):Lg w F lb db L m:=⟨FL,FD,sv,bl,h.dj,h.hL,h.hD,h.l,h.d⟩
variable {wa : World} {N1 X' : XS} {m' : DM}
section
variable {bl : List mG}
def LW.mv (h:LW w F lb db L m FL FD sv bl) (v:Mv F w F w'):LW w' F lb db L m FL FD sv bl:=
 ⟨h.dj,h.hL,h.hD,h.l.mv λk hk hl=>⟨hk,(v k (h.hL k hk) hl).2⟩,h.d.mv λk hk hl=>⟨hk,(v k (h.hD k hk) hl).2⟩⟩
def LW.mono (h:LW w F lb db L m FL FD sv bl) (hs: ∀k,F k->F' k):LW w F' lb db L m FL FD sv bl:=⟨h.dj,λk hk=>hs k (h.hL k hk),λk hk=>hs k (h.hD k hk),h.l,h.d⟩
theorem LW.OW (h:LW w F lb db L m FL FD sv bl) (hF:FX F X w) (hle:w.heap.size<=wa.heap.size) (c:ee FD X w X' w') (CN: ∀k,N1 k->FD k\/made wa w' k) (hd:Dk w' N1 db m'):LW w' (λk=>F k\/made wa w' k) lb db L m' FL N1 sv bl:=
 ⟨λk a b=>(CN k b).elim (h.dj k a) λhm=>by have:=(hF k (h.hL k a)).2;have:=hm.1;omega,λk hk=>.inl (h.hL k hk),λk hk=>(CN k hk).imp (h.hD k) id,
  h.l.mv (c.iZ λk hk=>⟨(hF k (h.hL k hk)).1,λhf=>h.dj k hk hf⟩),hd⟩
theorem zn.alb {z:Int} (h:zn w FL lb db sv bl L) (hX: ∀k,FL k->X k) (c:ee (· =lb) X w X' w') (hr:aG w' X' lb [ptr db 0,.string L.dir,I L.room,sv,I z] 231):zn w' FL lb db sv bl { L with safe:=z } :=by
 have mv: ∀{A:XS},(∀k,A k->FL k/\k≠lb)->Mv A w FL w':=λhA k hk _=>⟨(hA k hk).1,c.block k (hX k (hA k hk).1) (hA k hk).2⟩;refine⟨h.bC,⟨h.box.1,hr.2⟩,?_,λs hs=>?_,λs hs=>?_,λs hs r hr=>?_,h.ap⟩
 ·exact h.so.tight.mv (mv λk hk=>⟨(h.so.bw hk).1,λe=>h.so.eT h.box kQ (e▸hk)⟩)
 ·exact(h.row s hs).own.mv (mv λk hk=>by subst hk;exact⟨(h.row s hs).1,(h.row s hs).eT h.box kQ⟩)
 ·exact(h.Av s hs).tight.mv (mv λk hk=>⟨((h.Av s hs).bw hk).1,λe=>(h.Av s hs).eT h.box kQ (e▸hk)⟩)
 ·exact(h.HE s hs r hr).tight.mv (mv λk hk=>⟨((h.HE s hs r hr).bw hk).1,λe=>(h.HE s hs r hr).eT h.box kQ (e▸hk)⟩)
end
theorem Iv (h:Lg w F lb db L m) (hL:pt L) (hF:FX F X w):
  Ct pg 139 #[ptr lb 0] w X F λv wa w'=>v=I (LD.sync ⟨L,m⟩).2/\ ∃F',(∀k,F' k->F k\/made wa w' k)/\Lg w' F' lb db (LD.sync ⟨L,m⟩).1.L (LD.sync ⟨L,m⟩).1.m:=by
 intro w0 hk;obtain⟨FL,FD,sv,bl,h⟩:=(h.mv (hF.mv hk)).lw;have hT:=hF.ft hk;have nN:FX F (bI w0) w0:=hF.kp hk;obtain⟨qZ,s,Jn,he,_⟩:=h.l.last hL;have hFL:FX FL (bI w0) w0:=λk ah=>nN k (h.hL k ah);have hX:=λk ah=>(hFL k ah).1;have hb:=h.l.box.mv (Mv.sub hX);have lS:s∈bl:=by rw[Jn];simp
 have uJ:=(h.l.row s lS).mv (Mv.sub hX);have EK:s.first=L.last.first:=by rw[<-he];rfl
 have hfb:=hL.first
 refine Rl.1 λhs=>?_;repeat' refine ak ?_;intros
 refine cd (ym (Jn▸h.l) hFL) kQ hs.has ?_;rintro _ wa w1 X1 rfl hle gn ax;replace hs:=hs.trans ax;have Xy:=uJ.since hs;repeat' refine ak ?_;intros
 rw[EK];refine cd (yl (by have:=hL.d2;omega) zQ) kQ hs.has ?_;rintro _ vM w2 X2 rfl kF jt bp;replace hs:=hs.trans bp;have dh:=hT.since hs;have h2:=h.mv (hs.gU hT.bw);refine dh.call (abg h2.d (dh.fx h2.hD)) kQ h2.hD λv yD w3 X3 hq pV lT dU uE=>?_;obtain⟨rfl,N1,OV,hD⟩:=hq;have h3:=h2.OW (dh.fx λ_ h=>h) pV uE OV hD;have eS:LD.sync ⟨L,m⟩=(⟨if(m.sync L.ff).2=0 then { L with safe:=(L.next:Int)-1 } else L,(m.sync L.ff).1⟩,(m.sync L.ff).2):=rfl;have eN:L.ff=bS L.dir L.last.first:=rfl
 rw[eS];dsimp only;rw[eN];generalize TZ:m.sync (bS L.dir L.last.first)=ms at h3⊢;have nj:=hL.next
 repeat' first|refine ak ?_;intros|refine cM ?_ ?_<;>intros|with_reducible apply cB
 ·rename_i hz;have hz:ms.2=0:=by have:(ms.2:Int)=0:=(by assumption);omega
  refine cd (DU h3.l hL (dU.fx h3.hL)) kQ dU.s.has ?_;rintro _ zk w4 X4 rfl tr oH fV;have fO:=dU.since fV;have h4:=h3.mv (fV.gU dU.bw);have hX4: ∀k,FL k->X4 k:=λk ah=>fO.bw k (h4.hL k ah);repeat' refine ak ?_;intros
  refine pM (o:=4) (h4.l.box.mv (Mv.sub hX4)) zQ kQ sQ rfl fO.s.has λw5 X5 c5 CK=>?_;have iN:=fO.dY (F':=λk=>F k\/made yD w3 k) c5 (λk ah=>by subst ah;exact h4.hL _ h4.l.box.1) λk ah=>.inl ah;refine iN.fin λwa aH=>⟨rfl,_,iN.js aH λ_ h=>h,?_⟩;rw[if_pos hz];refine Lg.mv ⟨FL,N1,sv,bl,h4.dj,h4.hL,h4.hD,(h4.l.alb hX4 c5 CK),h4.d.mv (c5.iZ λk ah=>⟨fO.bw k (h4.hD k ah),λe=>h4.dj k (by rw[e];exact h4.l.box.1) ah⟩)⟩ (aH.iZ iN.bw)
 ·have hz: ¬ms.2=0:=by have: ¬(ms.2:Int)=0:=(by assumption);omega
  refine dU.fin λwa aH=>⟨rfl,_,dU.js aH λ_ h=>h,?_⟩;rw[if_neg hz];exact(h3.mv (aH.iZ dU.bw)).lg
variable {G : XS} {p : List Nat}
section
variable {By : XS} {EJ : Value} {bl : List mG}
theorem zn.abF (h:zn w FL lb db sv bl L) (hX:FX FL X w) (c:ee G X w X' w') (hG: ∀k,G k->k=lb\/sv.ownBlock=some k) (ZN: ∀k,FL k->By k)
  (hr:aG w' By lb [ptr db 0,.string L.dir,I L.room,EJ,I L.safe] 231) (ho:Ow w' By 239 1 EJ (qZ.map λs=>[ptr s.b 0]))
  (hn: ∀s∈qZ,s∈bl\/(aG w' By s.b [I s.first,s.rv,I s.size] 238/\Ow w' By 151 1 s.rv (s.rs.map λr=>[r.1])/\ ∀r∈s.rs,Ow w' By 5 1 r.1 (r.2.map U1)))
  (Kb:qZ.Pairwise aaf):zn w' By lb db EJ qZ { L with bC:=qZ.map mG.er } :=by
 have mv: ∀{A:XS},(∀k,A k->FL k/\k≠lb/\sv.ownBlock≠some k)->Mv A w By w':=λhA k hk _=>by
  obtain⟨a1,a2,a3⟩:=hA k hk;exact⟨ZN k a1,c.block k (hX k a1).1 λhg=>(hG k hg).elim a2 a3⟩
 refine⟨rfl,hr,ho,λs hs=>?_,λs hs=>?_,λs hs r hr=>?_,Kb⟩
 ·rcases hn s hs with hs|hs
  ·exact(h.row s hs).own.mv (mv λk hk=>by subst hk;exact⟨(h.row s hs).1,(h.row s hs).eT h.box kQ,h.so.eT (h.row s hs) kQ⟩)
  ·exact hs.1
 ·rcases hn s hs with hs|hs
  ·refine(h.Av s hs).tight.mv (mv λk hk=>⟨((h.Av s hs).bw hk).1,λe=>(h.Av s hs).eT h.box kQ (e▸hk),λe=>?_⟩);obtain⟨c1,h1⟩:=(h.Av s hs).tag hk;obtain⟨c2,h2⟩:=h.so.tag e;rw[h1] at h2;simp at h2
  ·exact hs.2.1
 ·rcases hn s hs with hs|hs
  ·refine(h.HE s hs r hr).tight.mv (mv λk hk=>⟨((h.HE s hs r hr).bw hk).1,λe=>(h.HE s hs r hr).eT h.box kQ (e▸hk),λe=>?_⟩);obtain⟨c1,h1⟩:=(h.HE s hs r hr).tag hk;obtain⟨c2,h2⟩:=h.so.tag e;rw[h1] at h2;simp at h2
  ·exact hs.2.2 r hr
abbrev mG.more (s:mG) (BL pv:Value) (p:List Nat) (z:Nat):mG:=⟨s.b,s.first,BL,s.rs++[(pv,p)],z⟩
theorem zn.alc {BL pv:Value} {z:Nat} (h:zn w FL lb db sv (bl++[s]) L) (hX:FX FL X w) (c:ee G X w X' w') (hG: ∀k,G k->k=s.b\/s.rv.ownBlock=some k) (ZN: ∀k,FL k->By k)
  (hr:aG w' By s.b [I s.first,BL,I z] 238) (ho:Ow w' By 151 1 BL ((s.rs++[(pv,p)]).map λr=>[r.1])) (hp:Ow w' By 5 1 pv (p.map U1))
  (dF:BL.ownBlock=s.rv.ownBlock\/ ∃g,BL.ownBlock=some g/\w.heap.size<=g):
  zn w' By lb db sv (bl++[s.more BL pv p z]) { L with bC:=(bl++[s.more BL pv p z]).map mG.er } :=by
 have lX:s∈bl++[s]:=by simp
 have mv: ∀{A:XS},(∀k,A k->FL k/\k≠s.b/\s.rv.ownBlock≠some k)->Mv A w By w':=λhA k hk _=>by
  obtain⟨a1,a2,a3⟩:=hA k hk;exact⟨ZN k a1,c.block k (hX k a1).1 λhg=>(hG k hg).elim a2 a3⟩
 have rs:=h.row s lX;have os:=h.Av s lX;have hold: ∀x∈bl,x∈bl++[s]:=λx hx=>List.mem_append_left _ hx;have YT:=List.pairwise_append.1 h.ap;have NZ: ∀x∈bl,aaf x s:=λx hx=>YT.2.2 x hx s sQ;have an2: ∀x∈bl++[s],∀r∈x.rs,Ow w' By 5 1 r.1 (r.2.map U1):=λx hx r hr=>by
  refine(h.HE x hx r hr).tight.mv (mv λk hk=>⟨((h.HE x hx r hr).bw hk).1,λe=>(h.HE x hx r hr).eT rs kQ (e▸hk),λe=>?_⟩);obtain⟨c1,h1⟩:=(h.HE x hx r hr).tag hk;obtain⟨c2,h2⟩:=os.tag e;rw[h1] at h2;simp at h2
 refine⟨rfl,?_,?_,λx hx=>?_,λx hx=>?_,λx hx r hr=>?_,?_⟩
 ·exact h.box.own.mv (mv λk hk=>by subst hk;exact⟨h.box.1,(rs.eT h.box kQ).symm,os.eT h.box kQ⟩)
 ·have:(bl++[s.more BL pv p z]).map (λs=>[ptr s.b 0])=(bl++[s]).map (λs=>[ptr s.b 0]):=by simp
  rw[this];refine h.so.tight.mv (mv λk hk=>⟨(h.so.bw hk).1,λe=>h.so.eT rs kQ (e▸hk),λe=>?_⟩);obtain⟨c1,h1⟩:=h.so.tag hk;obtain⟨c2,h2⟩:=os.tag e;rw[h1] at h2;simp at h2
 ·rcases List.mem_append.1 hx with hx|hx
  ·have ha:=NZ x hx;have rx:=h.row x (hold x hx);exact rx.own.mv (mv λk hk=>by subst hk;exact⟨rx.1,ha.1,os.eT rx kQ⟩)
  ·simp only[av] at hx;subst hx;exact hr
 ·rcases List.mem_append.1 hx with hx|hx
  ·have ha:=NZ x hx;have ox:=h.Av x (hold x hx);exact ox.tight.mv (mv λk hk=>⟨(ox.bw hk).1,λe=>ox.eT rs kQ (e▸hk),λe=>ha.2 k hk e⟩)
  ·simp only[av] at hx;subst hx;exact ho
 ·rcases List.mem_append.1 hx with hx|hx
  ·exact an2 x (hold x hx) r hr
  ·simp only[av] at hx;subst hx;rcases List.mem_append.1 hr with hr|hr
   ·exact an2 s lX r hr
   ·simp only[av] at hr;subst hr;exact hp
 ·refine List.pairwise_append.2 ⟨YT.1,uR _ _,λx hx y hy=>?_⟩;simp only[av] at hy;subst hy;have ha:=NZ x hx;refine⟨ha.1,λg hg rA=>?_⟩;rcases dF with e|⟨g',e,dD⟩
  ·exact ha.2 g hg (e▸rA)
  ·have:=(hX g ((h.Av x (hold x hx)).bw hg).1).2;have e2:BL.ownBlock=some g:=rA;rw[e] at e2;have:g'=g:=cn e2;omega
end
theorem Qz {n:Nat} (h:Lg w F lb db L m) (tD:L.dir.size<=11) (hn:n<=2^40) (oC:L.bC.length<=2^30) (hF:FX F X w):
  Ct pg 128 #[ptr lb 0,I n] w X F λv wa w'=>v=I (LD.iJ ⟨L,m⟩ n).2/\ ∃F',(∀k,F' k->F k\/made wa w' k)/\Lg w' F' lb db (LD.iJ ⟨L,m⟩ n).1.L (LD.iJ ⟨L,m⟩ n).1.m:=by
 intro w0 hk;obtain⟨FL,FD,sv,bl,h⟩:=(h.mv (hF.mv hk)).lw;have hT:=hF.ft hk;have nN:FX F (bI w0) w0:=hF.kp hk;have hX:=λk ah=>(nN k (h.hL k ah)).1;have hb:=h.l.box.mv (Mv.sub hX);refine Rj.1 λhs=>?_;repeat' refine ak ?_;intros
 refine cd (yl zQ zQ) kQ hs.has ?_;rintro _ vM w2 X2 rfl kF jt bp;replace hs:=hs.trans bp;have dh:=hT.since hs;have h2:=h.mv (hs.gU hT.bw);refine dh.call (VI h2.d (dh.fx h2.hD)) kQ h2.hD λv yD w3 X3 hq pV lT dU uE=>?_;obtain⟨rfl,N1,OV,hD⟩:=hq;have h3:=h2.OW (dh.fx λ_ h=>h) pV uE OV hD;have eS:LD.iJ ⟨L,m⟩ n=(⟨if(m.create (bS L.dir n)).2=0 then { L with bC:=L.bC++[⟨n,[],0⟩] } else L,(m.create (bS L.dir n)).1⟩,(m.create (bS L.dir n)).2):=rfl;rw[eS];dsimp only;generalize TZ:m.create (bS L.dir n)=ms at h3⊢;have hX3: ∀k,FL k->X3 k:=λk ah=>dU.bw k (h3.hL k ah);have rD:=h3.l.box.mv (Mv.sub hX3);have ac7:=h3.l.so.mono hX3;have Jn:bl.length=L.bC.length:=by rw[h3.l.bC,af]
 clear hs;repeat' first|refine ak ?_;intros|refine cM ?_ ?_<;>intros|with_reducible apply cB
 ·have hz:ms.2=0:=by have:(ms.2:Int)=0:=(by assumption);omega
  refine AZ dU.s.has λbx w4 X4 fY fV bo=>?_;have OS:=ac7.mv fV.mv;refine Xw (bytes:=8) (row:=[ptr bx 0]) OS fV.has kQ rfl rfl rfl oQ oQ λEJ w5 X5 c5 sW ua=>?_;have yC:=rD.since fV;have cA: ∀q,fc sv q->q≠lb:=λq hq e=>OS.eT yC kQ (by rw[<-e];exact hq);have Bu:aG w5 X5 lb [ptr db 0,.string L.dir,I L.room,sv,I L.safe] 231:=⟨c5.sub _ yC.1,by rw[c5.block _ yC.1 λhq=>cA _ hq rfl];exact yC.2⟩;repeat' refine ak ?_;intros
  refine pM (o:=3) Bu zQ kQ sQ sW.one c5.has λw6 X6 c6 AY=>?_;have OT: ∀q,fc sv q->FL q:=λq hq=>(h3.l.so.bw hq).1;have cc:ee (λk=>k=lb\/sv.ownBlock=some k) X3 w3 X6 w6:=((ee.nA fV _).trans (c5.mono λk _ ah=>.inr ah)).trans (c6.mono λk _ ah=>.inl ah);have kc:Ft w0 F w6 X6 (λk=>(F k\/made yD w3 k)\/(X6 k/\w3.heap.size<=k)):=dU.dY cc (λk ah=>by
   rcases ah with rfl|ah
   ·exact h3.hL _ h3.l.box.1
   ·exact h3.hL _ (OT _ ah)) λk ah=>ah
  have K8: ∀g,EJ.ownBlock=some g->FL g\/(X6 g/\w3.heap.size<=g):=λg hg=>by
   rcases ua with e|⟨g',e,dD⟩
   ·exact .inl (OT _ (e.symm.trans hg))
   ·rw[hg] at e;have:g=g':=cn e;subst this;exact .inr ⟨c6.sub _ (sW.bw hg).1,ad fV.kp.size dD⟩
  have ahz:EJ.ownBlock≠some lb:=sW.eT Bu kQ;have ac8:bx≠lb:=bo.eT yC kQ;have ac9: ¬fc sv bx:=λhq=>OS.eT bo kQ hq;have hL6:=h3.l.abF (By:=λk=>FL k\/(X6 k/\w3.heap.size<=k)) (EJ:=EJ) (qZ:=bl++[⟨bx,n,.slice none 0 0,[],0⟩]) (dU.fx h3.hL) cc (λk ah=>ah) (λk ah=>.inl ah) ⟨.inl h3.l.box.1,AY.2⟩ ?_ ?_ ?_
  ·refine kc.fin λwa aH=>⟨rfl,_,kc.js aH λ_ h=>h,?_⟩;rw[if_pos hz];have e:({ L with bC:=(bl++[(⟨bx,n,.slice none 0 0,[],0⟩:mG)]).map mG.er } :LM)= { L with bC:=L.bC++[⟨n,[],0⟩] } :=by
    rw[aC,<-h3.l.bC];rfl
   rw[<-e];refine Lg.mv ⟨_,N1,EJ,_,?_,?_,?_,hL6,h3.d.mv (cc.iZ λk ah=>⟨dU.bw k (h3.hD k ah),λhg=>?_⟩)⟩ (aH.iZ kc.bw)
   ·intro k ha dZ;rcases ha with ha|ha
    ·exact h3.dj k ha dZ
    ·have:=(dU.fx h3.hD k dZ).2;omega
   ·exact λk ah=>ah.imp (h3.hL k) id
   ·exact λk ah=>.inl (h3.hD k ah)
   ·rcases hg with rfl|hg
    ·exact h3.dj _ h3.l.box.1 ah
    ·exact h3.dj _ (OT _ hg) ah
  ·rw[aC];refine sW.tight.mv λk ah hl=>⟨K8 k ah,c6.block k (sW.bw ah).1 λe=>ahz (by rw[<-(show k=lb from e)];exact ah)⟩
  ·intro s sS;rcases List.mem_append.1 sS with sS|sS
   ·exact .inl sS
   ·simp only[av] at sS;subst sS;have hb6:w6.heap[bx]? =w4.heap[bx]? :=by
     rw[c6.block bx (c5.sub _ bo.1) ac8,c5.block bx bo.1 ac9]
    exact .inr ⟨⟨.inr ⟨c6.sub _ (c5.sub _ bo.1),fY⟩,by rw[hb6];exact bo.2⟩,Ow.nil _ _ _ _,λr hr=>by cases hr⟩
  ·refine List.pairwise_append.2 ⟨h3.l.ap,uR _ _,λx hx y hy=>?_⟩;simp only[av] at hy;subst hy;refine⟨λe=>?_,λg hg rA=>by cases rA⟩;have:=(dU.fx h3.hL _ (h3.l.row x hx).1).2;have e':x.b=bx:=e;omega
 ·have hz: ¬ms.2=0:=by have: ¬(ms.2:Int)=0:=(by assumption);omega
  refine dU.fin λwa aH=>⟨rfl,_,dU.js aH λ_ h=>h,?_⟩;rw[if_neg hz];exact(h3.mv (aH.iZ dU.bw)).lg
theorem pt.safe (h:pt L) (z:Int):pt { L with safe:=z } :=⟨h.ne,h.d1,h.d2,h.yK,h.room⟩
theorem pt.sync (h:pt L):pt (LD.sync ⟨L,m⟩).1.L:=by
 unfold LD.sync;dsimp only;split
 ·exact h.safe _
 ·exact h
theorem pt.iJ {n:Nat} (h:pt L) (hn:n<=2^40):pt (LD.iJ ⟨L,m⟩ n).1.L:=by
 unfold LD.iJ;dsimp only;split
 ·refine⟨by simp,h.d1,h.d2,λs hs=>?_,h.room⟩;rcases List.mem_append.1 hs with hs|hs
  ·exact h.yK s hs
  ·simp only[av] at hs;subst hs;exact⟨by simpa using hn,by simp⟩
 ·exact h
theorem LD.Ul (x:LD):x.sync.1.L.bC=x.L.bC:=by unfold LD.sync;dsimp only;split<;>rfl
theorem LD.ai6 (x:LD):x.sync.1.L.dir=x.L.dir:=by unfold LD.sync;dsimp only;split<;>rfl
variable {vp : Value}
theorem XN {S:XS} (h:Lg w F lb db L m) (hL:pt L) (oC:L.bC.length<=2^30) (hF:FX F X w) (hp:Sl w S 1 vp (p.map U1)) (hS: ∀k,S k->X k/\ ¬F k):
  Ct pg 138 #[ptr lb 0,vp] w X F λv wa w'=>v= .tuple #[I (LD.append ⟨L,m⟩ p).2.1,I (LD.append ⟨L,m⟩ p).2.2]/\
   ∃F',(∀k,F' k->F k\/made wa w' k)/\Lg w' F' lb db (LD.append ⟨L,m⟩ p).1.L (LD.append ⟨L,m⟩ p).1.m:=by
 intro w0 hk;obtain⟨FL,FD,sv,bl,h⟩:=(h.mv (hF.mv hk)).lw;have hT:=hF.ft hk;have hp0:Sl w0 (out F w0) 1 vp (p.map U1):=hp.mv λk ah hl=>⟨⟨Nat.lt_of_lt_of_le hl hk.size,(hS k ah).2⟩,hk.block k (hS k ah).1⟩;have vO:=hp0.gR;have nj:=hL.next
 generalize hr:LD.append ⟨L,m⟩ p=r;unfold LD.append at hr;dsimp only at hr;refine No.1 λ_=>?_;refine cd (DU h.l hL (hT.fx h.hL)) kQ hT.s.has ?_;rintro _ wa w1 X1 rfl hle gn ax;have ea:=hT.since ax;have h1:=h.mv (ax.gU hT.bw);have hpA: ∀{w X F'},Ft w0 F w X F'->Sl w X 1 vp (p.map U1):=λhT=>hp0.mv hT.s.mv;have hp1:=hpA ea;have stay:r.1=⟨L,m⟩-> ∀wa,Kp X1 w1 wa-> ∃F',(∀k,F' k->F k\/made w0 wa k)/\Lg wa F' lb db r.1.L r.1.m:=λe wa aH=>⟨F,ea.js aH λ_ h=>h,by rw[e];exact(h1.mv (aH.iZ ea.bw)).lg⟩;repeat' first|refine ak ?_;intros|refine cM ?_ ?_<;>intros
 ·rw[if_pos zQ] at hr;subst hr;exact ea.fin λwa aH=>⟨rfl,stay rfl wa aH⟩
 ·rw[if_neg zQ,if_pos zQ] at hr;subst hr;exact ea.fin λwa aH=>⟨rfl,stay rfl wa aH⟩
 ·rw[if_neg zQ,if_neg zQ] at hr;clear stay;refine ij (λk=> ∀(w:World) (X F1 FL FD:XS) (sv:Value) (bl:List mG) (x:LD),LD.room ⟨L,m⟩=(x,0)->pt x.L->x.L.bC.length<=2^30+1->Ft w0 F w X F1->LW w F1 lb db x.L x.m FL FD sv bl->k w X) ?_ ?_
  ·intro w X F1 FL FD sv bl x KM hxL Jy dh h2;rw[KM] at hr;dsimp only at hr;rw[if_neg sQ] at hr;obtain⟨qZ,s,rfl,he,EG⟩:=h2.l.last hxL;refine cd (ym h2.l (dh.fx h2.hL)) kQ dh.s.has ?_;rintro _ yD w3 X3 rfl pV lT cY;have dU:=dh.since cY;have h3:=h2.mv (cY.gU dh.bw);refine cd (VQ (hpA dU)) kQ dU.s.has ?_;rintro vq zk w4 X4 hq tr oH fV;rw[if_neg zQ] at hq;obtain⟨vb,rfl,yF⟩:=hq;have fO:=dU.since fV;have h4:=h3.mv (fV.gU dU.bw);have hX4: ∀k,FL k->X4 k:=λk ah=>fO.bw k (h4.hL k ah);have yC:=h4.l.box.mv (Mv.sub hX4);have lS:s∈qZ++[s]:=by simp
   have atl:=(h4.l.row s lS).mv (Mv.sub hX4);have EK:s.first=x.L.last.first:=by rw[<-he];rfl
   have gh:s.size=x.L.last.size:=by rw[<-he];rfl
   have hrs:x.L.last.bt=s.rs.map (·.2):=by rw[<-he];rfl
   have hfb:=hxL.first
   have nj:=hxL.next
   have Xx:=hxL.yK _ (LM.xL hxL.ne);have qV:s.rs.length=x.L.last.bt.length:=by rw[hrs,af]
   have iQ:=qG p;have ovb:=yF.one;repeat' refine ak ?_;intros
   rw[EK];refine cd (yl (by have:=hxL.d2;omega) zQ) kQ fO.s.has ?_;rintro _ NU w5 X5 rfl Im EC sU;have iN:=fO.since sU;have h5:=h4.mv (sU.gU fO.bw);have hz4:=fV.kp.size;have arS:Sl w5 (made zk w4) 1 vb ((dt p).map U1):=yF.sl.mv λk ah hl=>⟨ah,sU.kp.block k (oH k ah)⟩;refine iN.call (VH h5.d (iN.fx h5.hD) arS (λk ah=>⟨sU.sub k (oH k ah),λhf=>?_⟩) zQ) kQ h5.hD λv wa6 w6 X6 hq XA K8 kc hc6=>?_
   ·have:=(dU.fx h3.hD k hf).2;have:=ah.1;omega
   obtain⟨rfl,N1,OV,hD⟩:=hq;have h6:=h5.OW (iN.fx λ_ h=>h) XA hc6 OV hD;have eL:x.lay p=(⟨if(x.m.append x.L.ff (dt p)).2=0 then x.L.add p else x.L,(x.m.append x.L.ff (dt p)).1⟩,(x.m.append x.L.ff (dt p)).2):=rfl;rw[eL] at hr;dsimp only at hr;have eN:x.L.ff=bS x.L.dir x.L.last.first:=rfl
   rw[eN] at hr;generalize TZ:x.m.append (bS x.L.dir x.L.last.first) (dt p)=ms at hr h6⊢;have hX6: ∀k,FL k->X6 k:=λk ah=>kc.bw k (h6.hL k ah);have arT:=(h6.l.row s lS).mv (Mv.sub hX6);repeat' first|refine ak ?_;intros|refine cM ?_ ?_<;>intros
   ·have hz: ¬ms.2=0:=by have: ¬(ms.2:Int)=0:=(by assumption);omega
    rw[if_pos hz,if_neg hz] at hr;subst hr;exact kc.fin λwa aH=>⟨rfl,_,kc.js aH λ_ h=>h,(h6.mv (aH.iZ kc.bw)).lg⟩
   ·have hz:ms.2=0:=by have:(ms.2:Int)=0:=(by assumption);omega
    rw[if_neg (by simpa using hz),if_pos hz] at hr;subst hr;refine ajA kc.s.has kQ (hpA kc) (by intro r hr u hu;obtain⟨x,_,rfl⟩:=List.mem_map.1 hr;simp only[U1,av] at hu;subst hu;rfl) oQ oQ λpv w7 X7 oS wK=>?_;have ai7:=((h6.l.Av s lS).mono hX6).mv oS.mv;have aag:=arT.since oS;refine Xw (bytes:=24) (row:=[pv]) ai7 oS.has kQ (by have:=sL wK.one;rw[this]) rfl (by simp[wK.one]) oQ oQ λBL w8 X8 c8 yJ Xn=>?_;have arU: ∀q,fc s.rv q->q≠s.b:=λq hq e=>ai7.eT aag kQ (by rw[<-e];exact hq);have an3:aG w8 X8 s.b [I s.first,s.rv,I s.size] 238:=⟨c8.sub _ aag.1,by rw[c8.block _ aag.1 λhq=>arU _ hq rfl];exact aag.2⟩;repeat' refine ak ?_;intros
    refine pM (o:=1) an3 zQ kQ sQ yJ.one c8.has λw9 X9 c9 ai8=>?_;replace ai8:aG w9 X9 s.b [I s.first,BL,I s.size] 238:=ai8;repeat' refine ak ?_;intros
    refine pM (o:=2) ai8 zQ kQ sQ rfl c9.has λJv Lu QQ aeR=>?_;have tG:(s.size:Int)+((dt p).length:Int)=((s.size+(dt p).length:Nat):Int):=by omega
    replace aeR:aG Jv Lu s.b [I s.first,BL,I ((s.size+(dt p).length:Nat):Int)] 238:=by rw[<-tG];exact aeR
    have cc:ee (λk=>k=s.b\/s.rv.ownBlock=some k) X6 w6 Lu Jv:=(((ee.nA oS _).trans (c8.mono λk _ ah=>.inr ah)).trans (c9.mono λk _ ah=>.inl ah)).trans (QQ.mono λk _ ah=>.inl ah);have ai9: ∀q,fc s.rv q->FL q:=λq hq=>((h6.l.Av s lS).bw hq).1;have GF:=kc.dY (F':=λk=>(F1 k\/made wa6 w6 k)\/(Lu k/\w6.heap.size<=k)) cc (λk ah=>by
     rcases ah with rfl|ah
     ·exact h6.hL _ (h6.l.row s lS).1
     ·exact h6.hL _ (ai9 _ ah)) λk ah=>ah
    have adD: ∀g,BL.ownBlock=some g->FL g\/(Lu g/\w6.heap.size<=g):=λg hg=>by
     rcases Xn with e|⟨g',e,dD⟩
     ·exact .inl (ai9 _ (e.symm.trans hg))
     ·rw[hg] at e;have:g=g':=cn e;subst this;exact .inr ⟨QQ.sub _ (c9.sub _ (yJ.bw hg).1),ad oS.kp.size dD⟩
    have an4: ∀q,fc BL q->q≠s.b:=λq hq e=>yJ.eT an3 kQ (by rw[<-e];exact hq);have HF: ∀q,fc pv q->X7 q/\w6.heap.size<=q/\Jv.heap[q]? =w7.heap[q]? :=λq hq=>by
     have h1:=(wK.bw hq).1;have Xq:q≠s.b:=λe=>wK.eT aag kQ (by rw[<-e];exact hq);have hnr: ¬fc s.rv q:=λzh=>by
      obtain⟨c1,e1⟩:=wK.tag hq;obtain⟨c2,e2⟩:=ai7.tag zh;rw[e1] at e2;simp at e2
     exact⟨h1.1,h1.2,by rw[QQ.block q (c9.sub _ (c8.sub _ h1.1)) Xq,c9.block q (c8.sub _ h1.1) Xq,c8.block q h1.1 hnr]⟩
    have arX:=h6.l.alc (By:=λk=>FL k\/(Lu k/\w6.heap.size<=k)) (BL:=BL) (pv:=pv) (p:=p) (z:=s.size+(dt p).length) (kc.fx h6.hL) cc (λk ah=>ah) (λk ah=>.inl ah) ⟨.inl (h6.l.row s lS).1,aeR.2⟩ ?_ ?_ ?_
    ·refine GF.fin λwa aH=>⟨rfl,_,GF.js aH λ_ h=>h,?_⟩;have e:({ x.L with bC:=(qZ++[s.more BL pv p (s.size+(dt p).length)]).map mG.er } :LM)=x.L.add p:=by
      unfold LM.add;rw[EG,aC,<-he];simp[mG.er]
     rw[<-e];refine Lg.mv ⟨_,N1,sv,_,?_,?_,?_,arX,h6.d.mv (cc.iZ λk ah=>⟨kc.bw k (h6.hD k ah),λhg=>?_⟩)⟩ (aH.iZ GF.bw)
     ·intro k ha dZ;rcases ha with ha|ha
      ·exact h6.dj k ha dZ
      ·have:=(kc.fx h6.hD k dZ).2;omega
     ·exact λk ah=>ah.imp (h6.hL k) id
     ·exact λk ah=>.inl (h6.hD k ah)
     ·rcases hg with rfl|hg
      ·exact h6.dj _ (h6.l.row s lS).1 ah
      ·exact h6.dj _ (ai9 _ hg) ah
    ·rw[aC];exact yJ.tight.mv λk ah hl=>⟨adD k ah,by rw[QQ.block k (c9.sub _ (yJ.bw ah).1) (an4 k ah),c9.block k (yJ.bw ah).1 (an4 k ah)]⟩
    ·exact wK.tight.mv λk ah hl=>⟨.inr ⟨QQ.sub _ (c9.sub _ (c8.sub _ (HF k ah).1)),(HF k ah).2.1⟩,(HF k ah).2.2⟩
    ·rcases Xn with e|⟨g,e,dD⟩
     ·exact .inl e
     ·exact .inr ⟨g,e,ad oS.kp.size dD⟩
  ·intro K hK;obtain⟨qZ,s,rfl,he,EG⟩:=h1.l.last hL;have Kl: ∀k,FL k->X1 k:=λk ah=>ea.bw k (h1.hL k ah);have lL:=h1.l.box.mv (Mv.sub Kl);have lS:s∈qZ++[s]:=by simp
   have Xy:=(h1.l.row s lS).mv (Mv.sub Kl);have gh:s.size=L.last.size:=by rw[<-he];rfl
   have eR:LD.room ⟨L,m⟩=if L.room<=L.last.size then(if(LD.sync ⟨L,m⟩).2≠0 then LD.sync ⟨L,m⟩else(LD.sync ⟨L,m⟩).1.iJ L.next)else(⟨L,m⟩,0):=rfl
   repeat' refine ak ?_;intros
   refine cd (ym h1.l (ea.fx h1.hL)) kQ ea.s.has ?_;rintro _ vM w2 X2 rfl kF jt bp;have dh:=ea.since bp;have h2:=h1.mv (bp.gU ea.bw);have OU:=Xy.since bp;repeat' first|refine ak ?_;intros|refine cM ?_ ?_<;>intros
   ·have dD:L.room<=L.last.size:=by omega
    rw[if_pos dD] at eR;refine dh.call (Iv h2.lg hL (dh.fx λ_ h=>h)) kQ (λ_ h=>h) λv yD w3 X3 hq pV lT dU uE=>?_;obtain⟨rfl,F3,hF3,h3⟩:=hq;have hL3:pt (LD.sync ⟨L,m⟩).1.L:=hL.sync;have aeS:=LD.Ul ⟨L,m⟩;have an5:=LD.ai6 ⟨L,m⟩;generalize hsy:LD.sync ⟨L,m⟩=y at eR h3 hL3 aeS an5⊢;have EM:=dU.less hF3;repeat' first|refine ak ?_;intros|refine cM ?_ ?_<;>intros
    ·have hz:y.2≠0:=by have: ¬(y.2:Int)=0:=(by assumption);omega
     rw[if_pos hz] at eR;rw[eR,if_pos hz] at hr;subst hr;exact EM.fin λwa aH=>⟨rfl,F3,EM.js aH λ_ h=>h,h3.mv (aH.iZ EM.bw)⟩
    ·have hz: ¬y.2≠0:=by have:(y.2:Int)=0:=(by assumption);omega
     rw[if_neg hz] at eR;have hy:y.1=⟨y.1.L,y.1.m⟩:=rfl;refine EM.call (Qz (n:=L.next) h3 (by rw[an5];exact hL.d2) nj (by rw[aeS];exact oC) (EM.fx λ_ h=>h)) kQ (λ_ h=>h) λv zk w4 X4 hq tr oH fO EL=>?_;obtain⟨rfl,F4,hF4,h4⟩:=hq;have WO:(LD.iJ ⟨y.1.L,y.1.m⟩ L.next).2=0->pt (LD.iJ ⟨y.1.L,y.1.m⟩ L.next).1.L:=λ_=>hL3.iJ nj;have P3:(LD.iJ ⟨y.1.L,y.1.m⟩ L.next).1.L.bC.length<=2^30+1:=by
      unfold LD.iJ;dsimp only;split
      ·simp only[aa,List.length_singleton,aeS];show L.bC.length+1<=_;omega
      ·rw[aeS];show L.bC.length<=_;omega
     rw[hy] at eR;generalize hro:LD.iJ ⟨y.1.L,y.1.m⟩ L.next=q at eR h4 WO P3⊢
     have zT:=fO.less hF4;repeat' first|refine ak ?_;intros|refine cM ?_ ?_<;>intros
     ·have hz:q.2≠0:=by have: ¬(q.2:Int)=0:=(by assumption);omega
      rw[eR,if_pos hz] at hr;subst hr;exact zT.fin λwa aH=>⟨rfl,F4,zT.js aH λ_ h=>h,h4.mv (aH.iZ zT.bw)⟩
     ·have hz:q.2=0:=by have:(q.2:Int)=0:=(by assumption);omega
      obtain⟨FL4,FD4,sv4,bl4,h4⟩:=h4.lw;exact hK _ _ _ _ _ _ _ q.1 (by rw[eR,<-hz]) (WO hz) P3 zT h4
   ·have dD: ¬L.room<=L.last.size:=by omega
    rw[if_neg dD] at eR;exact hK _ _ _ _ _ _ _ ⟨L,m⟩ eR hL (by show L.bC.length<=_;omega) dh h2
def LD.iG (x:LD) (e:Nat) (bs:List Nat):LD×Nat×Nat:=
 if e≠0 then(x,0,e)else
  let r:=x.append bs
  if r.2.2≠0 then r else(r.1.sync.1,r.2.1,r.1.sync.2)
abbrev aP:Value:=.slice none 0 0
structure CoV where
 id:Int
 aW:Int
 gG:Int
 lb:Nat
 R9:Nat
 cb:Nat
 ab:Nat
 cm:Value
 bb:Nat
abbrev Gt (c:CoV) (DA vm va:Value):List Value:=[I c.id,I c.aW,I c.gG,ptr c.lb 0,B false,ptr c.R9 0,DA,.map (some c.ab),c.cm,.map (some c.bb),vm,va]
abbrev coL (c:CoV) (vm va:Value):List Value:=Gt c (ptr c.cb 0) vm va
abbrev nT:Nat:=108
structure AcV where
 aO:bL
 vp:Value
 st:cx
 wO:Int
 vs:Value
 pre:Bool
 vq:Value
 mw:cx
abbrev Jq (x:AcV) (vw:Value):List Value:=[I x.aO.eh,I x.aO.aW,I x.aO.sq,x.vp,I x.st.wall,I x.st.dC,I x.st.node,I x.wO,x.vs,B x.pre,vw,x.vq,I x.mw.wall,I x.mw.dC,I x.mw.node]
abbrev aT:Nat:=120
abbrev mT:Nat:=54
abbrev anT:Nat:=64
def xz:World->XS->Value->Nat->Prop:=λ_ _ v b=>v=ptr b 0
def Ev:qt xz:=λ_ _ _ _ _ _ h _=>h
def fQ (w:World) (K:XS) (rows:List (List Value)) (ms:List cO):Prop:=rows.length=ms.length/\ ∀(i:Nat) (l:List Value) (x:cO),rows[i]? =some l->ms[i]? =some x->cO.rd w K l x
variable {ms : List cO} {rows : List (List Value)} {K K' : XS}
def fQ.mv (h:fQ w K rows ms) (m:Mv K w K' w'):fQ w' K' rows ms:=⟨h.1,λi l x h1 h2=>cO.mv (h.2 i l x h1 h2) m⟩
theorem fQ.nil (w:World) (K:XS):fQ w K [] []:=⟨rfl,λi l x h=>by simp at h⟩
variable {l : List Value}
theorem fQ.add {x:cO} (h:fQ w K rows ms) (h1:cO.rd w K l x):fQ w K (rows++[l]) (ms++[x]):=by
 refine⟨by simp[h.1],λi l' x' hl hx=>?_⟩;rcases Nat.lt_trichotomy i rows.length with hi|hi|hi
 ·rw[dT hi] at hl;rw[dT (by rw[<-h.1];exact hi)] at hx;exact h.2 i l' x' hl hx
 ·subst hi;rw[cZ (Nat.le_refl _)] at hl;rw[cZ (by rw[h.1];omega)] at hx;rw[h.1] at hx
  grind
 ·rw[List.getElem?_eq_none oQ] at hl;cases hl
variable {a : Value}
theorem KH {xs:List fe} (ha:Sl w X 7 a (xs.map fe.l)) (hb:xs.length<=2^40):
  Ct pg 88 #[a] w X nX λv wa w'=>Own w' (made wa w') wa.heap.size 175 7 v (xs.map fe.l):=by
  intro w0 hk;replace ha:=ha.mv hk.bY;refine ya.1 λhs=>?_;repeat' first|refine ak ?_;intros|refine cM ?_ ?_<;>intros|(refine Qu hs ?_;intro acc w X hs ho)|(refine qr ?_;intro wa hk;(first|(rename_i h1 h2;(first|(rw[h2])|skip);exact Own.nil _ _ _ _ _)|exact(ho.kp hk).tight))|((with_reducible apply qj);(case own=>assumption);(case hs=>assumption);(case h0=>exact λ_ h=>h);(case he=>kernel_rfl);(case src=>exact Sl.mv ha (ai.mv hs));(case h1=>simp[aK.one]);(case hb=>simp;omega);(case hl=>simp;omega);intro acc w X ax ho hc dF;replace hs:=ax;rw[cI] at ho)
theorem EU {xs:List Int} (ha:Sl w X 1 a (xs.map I1)) (hb:xs.length<=2^40):
  Ct pg 48 #[a] w X nX λv wa w'=>Own w' (made wa w') wa.heap.size 3 1 v (xs.map I1):=by
  intro w0 hk;replace ha:=ha.mv hk.bY;refine Dp.1 λhs=>?_;repeat' first|refine ak ?_;intros|refine cM ?_ ?_<;>intros|(refine Qu hs ?_;intro acc w X hs ho)|(refine qr ?_;intro wa hk;(first|(rename_i h1 h2;(first|(rw[h2])|skip);exact Own.nil _ _ _ _ _)|exact(ho.kp hk).tight))|((with_reducible apply qj);(case own=>assumption);(case hs=>assumption);(case h0=>exact λ_ h=>h);(case he=>kernel_rfl);(case src=>exact Sl.mv ha (ai.mv hs));(case h1=>simp[aK.one]);(case hb=>simp;omega);(case hl=>simp;omega);intro acc w X ax ho hc dF;replace hs:=ax;rw[cI] at ho)
theorem aaB {xs:List jD} (ha:Sl w X 5 a (xs.map jD.l)) (hb:xs.length<=2^40):
  Ct pg 60 #[a] w X nX λv wa w'=>Own w' (made wa w') wa.heap.size 99 5 v (xs.map jD.l):=by
  intro w0 hk;replace ha:=ha.mv hk.bY;refine Aa.1 λhs=>?_;repeat' first|refine ak ?_;intros|refine cM ?_ ?_<;>intros|(refine Qu hs ?_;intro acc w X hs ho)|(refine qr ?_;intro wa hk;(first|(rename_i h1 h2;(first|(rw[h2])|skip);exact Own.nil _ _ _ _ _)|exact(ho.kp hk).tight))|((with_reducible apply qj);(case own=>assumption);(case hs=>assumption);(case h0=>exact λ_ h=>h);(case he=>kernel_rfl);(case src=>exact Sl.mv ha (ai.mv hs));(case h1=>simp[aK.one]);(case hb=>simp;omega);(case hl=>simp;omega);intro acc w X ax ho hc dF;replace hs:=ax;rw[cI] at ho)
abbrev snT:Nat:=175
abbrev pcT:Nat:=124
abbrev cmT:Nat:=126
abbrev WY:Nat:=3
structure pe where
 x:AcV
 vw:Value
 rw:List (List Value)
 ws:List cO
 sn:List fe
 p:List jD
 ids:List Int
 pq:Bool:=false
structure BV where
 r:Rec
 vp:Value
 v2:Value
 waits:List Int
 ended:Bool
structure bE where
 nb:Nat
 db:Nat
 mb:Nat
 c:CoV
 ck:cx
 ds:pc
 L:LM
 m:DM
 al:List (bL×Nat)
 bl:List (bL×Nat)
 vm:Value
 va:Value
 rm:List (List Value)
 ra:List (List Value)
 ms:List cO
 cl:List Nat
 A:Nat->pe
 C:Nat->BV
 ex:List Nat:=[]
 pre:Bool:=false
def bE.dI (n:bE) (b:Nat):Prop:=(∃t,getM t n.al=some b)\/b∈n.ex
abbrev bE.DA (n:bE):Value:=if n.pre then .pointer none else ptr n.c.cb 0
theorem aju (h:Lg w F lb db L m) (v:Mv F w F' w'):Lg w' F' lb db L m:=by
 obtain⟨FL,FD,sv,bl,hd,h1,h2,h3,h4⟩:=h;exact⟨λk=>FL k/\k<w.heap.size,λk=>FD k/\k<w.heap.size,sv,bl,λk a b=>hd k a.1 b.1,λk hk=>(v k (h1 k hk.1) hk.2).1,λk hk=>(v k (h2 k hk.1) hk.2).1,h3.mv λk hk hl=>⟨⟨hk,hl⟩,(v k (h1 k hk) hl).2⟩,h4.mv λk hk hl=>⟨⟨hk,hl⟩,(v k (h2 k hk) hl).2⟩⟩
def mpR (b:Nat) (l:List (bL×Nat)):pN:=⟨λw _ A=>dM w A nX b (λk:bL=>k.v) xz l,λh _ m=>h.mv Ev m λ_ h=>h.elim⟩
def XO (n:bE):Nat->pN
 |1=>XM n.nb (Gt n.c n.DA n.vm n.va) nT
 |2=>⟨λw _ A=>kJ w A n.c.R9 n.mb n.ds,λh _ m=>h.mv m⟩
 |3=>⟨λw _ A=>Lg w A n.c.lb n.db n.L n.m,λh _ m=>aju h m⟩
 |5=>mpR n.c.ab n.al
 |6=>mpR n.c.bb n.bl
 |7=>⟨λw _ A=>n.pre=false->aG w A n.c.cb (Gv n.ck) Il/\n.ck.may=true,λh _ m e=>⟨(h e).1.mv m,(h e).2⟩⟩
 |8=>Y7 mT 36 n.vm n.rm
 |9=>Y7 anT 9 n.va n.ra
 |10=>Y7 pcT 1 n.c.cm (n.cl.map λb=>[ptr b 0])
 |11=>⟨λw K _=>fQ w K n.rm n.ms,λh m _=>h.mv m⟩
 |12=>puR (∀t b,getM t n.al=some b->(n.A b).x.aO=t)
 |_=>QF
def JF (b:Nat) (d:pe):Nat->pN
 |0=>XM b (Jq d.x d.vw) aT
 |1=>Y7 mT 36 d.vw d.rw
 |2=>Y7 snT 7 d.x.vs (d.sn.map fe.l)
 |3=>⟨λw K _=>fQ w K d.rw d.ws/\Sl w K 5 d.x.vp (d.p.map jD.l)/\(d.pq=false->Sl w K 1 d.x.vq (d.ids.map I1)),λ⟨h1,h2,h3⟩ m _=>⟨h1.mv m,h2.mv m,λe=>(h3 e).mv m⟩⟩
 |7=>CP (d.pq=true) (Y7 WY 1 d.x.vq (d.ids.map I1))
 |_=>QF
def Jt (b:Nat) (d:BV):Nat->pN
 |4=>XM b (d.r.l aP aP d.vp aP aP aP++[d.v2,B d.ended]) cmT
 |5=>Y7 WY 1 d.v2 (d.waits.map I1)
 |6=>⟨λw K _=>Sl w K 1 d.vp (d.r.parts.map I1),λh m _=>h.mv m⟩
 |_=>QF
def zl (n:bE) (b:Nat):Nat->pN
 |0=>CP (n.dI b) (JF b (n.A b) 0)
 |1=>CP (n.dI b) (JF b (n.A b) 1)
 |2=>CP (n.dI b) (JF b (n.A b) 2)
 |3=>CP (n.dI b) (JF b (n.A b) 3)
 |4=>CP (b∈n.cl) (Jt b (n.C b) 4)
 |5=>CP (b∈n.cl) (Jt b (n.C b) 5)
 |6=>CP (b∈n.cl) (Jt b (n.C b) 6)
 |7=>CP (n.dI b) (JF b (n.A b) 7)
 |_=>QF
def tx (b i:Nat):Nat:=16+8*b+i
def dX (n:bE) (c:Nat):pN:=if c<16 then XO n c else zl n (c/8-2) (c % 8)
theorem vN (n:bE) (b i:Nat) (hi:i<8):dX n (tx b i)=zl n b i:=by
 unfold dX tx;rw[if_neg zQ,show(16+8*b+i)/8-2=b by omega,show(16+8*b+i) % 8=i by omega]
abbrev jd (w:World) (own:Nat->Nat) (n:bE):Prop:=Hs (dX n) w own
variable {A : XS} {n n' : bE}
theorem W6 {c:Nat} (h1:c<16->(XO n c).p w K A->(XO n' c).p w K A) (h2: ∀b i,i<8->c=tx b i->(zl n b i).p w K A->(zl n' b i).p w K A) (h:(dX n c).p w K A):(dX n' c).p w K A:=by
 by_cases hc:c<16
 ·unfold dX at h⊢;rw[if_pos hc] at h⊢;exact h1 hc h
 ·obtain⟨b,i,hi,rfl⟩: ∃b i,i<8/\c=tx b i:=⟨c/8-2,c % 8,by omega,by unfold tx;omega⟩;rw[vN _ _ _ hi] at h⊢;exact h2 b i hi rfl h
variable {Q : Nat -> Prop}
theorem nz (h2: ∀b i,i<8->Q (tx b i)-> ∀w K A,(zl n b i).p w K A->(zl n' b i).p w K A:=by intro b i hi hq w K A h;rcases i with _|_|_|_|_|_|_|_|i<;>exact h)
  (h1: ∀i,i<16->Q i-> ∀w K A,(XO n i).p w K A->(XO n' i).p w K A:=by intro i hi hq w K A h;rcases i with _|_|_|_|_|_|_|_|_|_|_|_|_|i<;>first|exact h|(exfalso;omega)): ∀c,Q c-> ∀w K A,(dX n c).p w K A->(dX n' c).p w K A:=λc hq w K A=>W6 (λhc=>h1 c hc hq w K A) λb i hi e=>h2 b i hi (e▸hq) w K A
variable {d : pe} {b0 : Nat}
theorem arY (h: ∀i,Q (tx b0 i)-> ∀w K A,(JF b0 (n.A b0) i).p w K A->(JF b0 d i).p w K A:=by intro i hq w K A h;rcases i with _|_|_|_|_|_|_|_|i<;>first|exact h|(exfalso;unfold tx at hq;omega))
  (hA:n'.A=λb=>if b=b0 then d else n.A b:=by rfl) (hs:n'.al=n.al/\n'.ex=n.ex/\n'.C=n.C/\n'.cl=n.cl:=by exact⟨rfl,rfl,rfl,rfl⟩): ∀b i,i<8->Q (tx b i)-> ∀w K A,(zl n b i).p w K A->(zl n' b i).p w K A:=λb i hi hq w K A p=>by
 have e:n'.dI b↔n.dI b:=by unfold bE.dI;rw[hs.1,hs.2.1]
 by_cases hb:b=b0
 ·subst hb;have eA:n'.A b=d:=by rw[hA];exact if_pos rfl
  rcases i with _|_|_|_|_|_|_|_|i<;>simp only[zl,CP,eA,e,hs.2.2.1,hs.2.2.2] at p⊢ <;>first|exact λha=>h _ hq w K A (p ha)|exact p
 ·have eA:n'.A b=n.A b:=by rw[hA];exact if_neg hb
  rcases i with _|_|_|_|_|_|_|_|i<;>simp only[zl,CP,eA,e,hs.2.2.1,hs.2.2.2] at p⊢ <;>exact p
theorem aqj {d:BV} (h: ∀i,Q (tx b0 i)-> ∀w K A,(Jt b0 (n.C b0) i).p w K A->(Jt b0 d i).p w K A:=by intro i hq w K A h;rcases i with _|_|_|_|_|_|_|_|i<;>first|exact h|(exfalso;unfold tx at hq;omega))
  (hC:n'.C=λb=>if b=b0 then d else n.C b:=by rfl) (hs:n'.al=n.al/\n'.ex=n.ex/\n'.A=n.A/\n'.cl=n.cl:=by exact⟨rfl,rfl,rfl,rfl⟩): ∀b i,i<8->Q (tx b i)-> ∀w K A,(zl n b i).p w K A->(zl n' b i).p w K A:=λb i hi hq w K A p=>by
 have e:n'.dI b↔n.dI b:=by unfold bE.dI;rw[hs.1,hs.2.1]
 by_cases hb:b=b0
 ·subst hb;have eC:n'.C b=d:=by rw[hC];exact if_pos rfl
  rcases i with _|_|_|_|_|_|_|_|i<;>simp only[zl,CP,eC,e,hs.2.2.1,hs.2.2.2] at p⊢ <;>first|exact λha=>h _ hq w K A (p ha)|exact p
 ·have eC:n'.C b=n.C b:=by rw[hC];exact if_neg hb
  rcases i with _|_|_|_|_|_|_|_|i<;>simp only[zl,CP,eC,e,hs.2.2.1,hs.2.2.2] at p⊢ <;>exact p
variable {w0 : World} {own aI bZ : Nat -> Nat} {i : Nat}
theorem Ch (h:jd w own n) (b i:Nat) (hi:i<8):(zl n b i).p w (bN own 4) (bN own (tx b i)):=by
 have:=h.gK (tx b i) (by unfold tx;omega) (by unfold tx;omega)
 rwa [vN _ _ _ hi] at this
def _root_.Go.aK.Hs.act (h:jd w own n) (hb:n.dI b):aG w (bN own (tx b 0)) b (Jq (n.A b).x (n.A b).vw) aT/\Own w (bN own (tx b 1)) 0 mT 36 (n.A b).vw (n.A b).rw/\Own w (bN own (tx b 2)) 0 snT 7 (n.A b).x.vs ((n.A b).sn.map fe.l)/\
  fQ w (bN own 4) (n.A b).rw (n.A b).ws/\Sl w (bN own 4) 5 (n.A b).x.vp ((n.A b).p.map jD.l)/\((n.A b).pq=false->Sl w (bN own 4) 1 (n.A b).x.vq ((n.A b).ids.map I1)):=⟨Ch h b 0 dQ hb,Ch h b 1 dQ hb,Ch h b 2 dQ hb,Ch h b 3 dQ hb⟩
def _root_.Go.aK.Hs.Bz (h:jd w own n) (hb:b∈n.cl):aG w (bN own (tx b 4)) b ((n.C b).r.l aP aP (n.C b).vp aP aP aP++[(n.C b).v2,B (n.C b).ended]) cmT/\Own w (bN own (tx b 5)) 0 WY 1 (n.C b).v2 ((n.C b).waits.map I1)/\Sl w (bN own 4) 1 (n.C b).vp ((n.C b).r.parts.map I1):=⟨Ch h b 4 dQ hb,Ch h b 5 dQ hb,Ch h b 6 dQ hb⟩
theorem iy:tx b i≠0/\tx b i≠4:=by unfold tx;omega
abbrev Sn (w0:World) (bZ:Nat->Nat) (w:World) (X:XS) (own:Nat->Nat) (n:bE):Prop:=St w0 bZ w X own (dX n)
theorem _root_.Go.aK.St.v (s:Sn w0 bZ w X own n):aG w X n.nb (Gt n.c n.DA n.vm n.va) nT/\aK.one n.vm=true/\aK.one n.va=true/\aK.one n.c.cm=true/\aK.one n.DA=true:=
 ⟨s.zO 1,(show Own w (bN own 8) 0 mT 36 n.vm n.rm from s.get 8).sl.one,(show Own w (bN own 9) 0 anT 9 n.va n.ra from s.get 9).sl.one,(show Own w (bN own 10) 0 pcT 1 n.c.cm _ from s.get 10).sl.one,by unfold bE.DA;split<;>rfl⟩
theorem _root_.Go.aK.St.va (s:Sn w0 bZ w X own n) (hb:n.dI b):aG w X b (Jq (n.A b).x (n.A b).vw) aT/\aK.one (n.A b).vw=true/\aK.one (n.A b).x.vs=true/\aK.one (n.A b).x.vp=true/\aK.one (n.A b).x.vq=true:=
 have⟨h1,h2,h3,_,h5,h6⟩:=s.h.act hb
 ⟨h1.mono (s.sub _ iy.1),h2.sl.one,h3.sl.one,h5.one,by
  cases e:(n.A b).pq
  ·exact(h6 e).one
  ·exact(Ch s.h b 7 dQ hb e).sl.one⟩
def _root_.Go.aK.St.vc (s:Sn w0 bZ w X own n) (hb:b∈n.cl):aG w X b ((n.C b).r.l aP aP (n.C b).vp aP aP aP++[(n.C b).v2,B (n.C b).ended]) cmT/\aK.one (n.C b).v2=true/\aK.one (n.C b).vp=true/\Sl w X 1 (n.C b).v2 ((n.C b).waits.map I1):=
 have⟨h1,h2,h3⟩:=s.h.Bz hb
 ⟨h1.mono (s.sub _ iy.1),h2.sl.one,h3.one,h2.sl.mono (s.sub _ iy.1)⟩
variable {vd vh vk vr vw : Value}
section
variable {Y : XS} {nb xb : Nat} {c : CoV} {vm va : Value}
theorem A5 {DA:Value} (h:aG w Y nb (Gt c DA vm va) nT) (hY: ∀k,Y k->X k) (hi:1<=c.id/\c.id<=2):Ct pg 54 #[ptr nb 0] w X nX λv _ _=>v=I (20+c.id):=by
 intro w0 hk;have bo:=(h.mono hY).mv hk.bY;have hs:=ai.init w0;refine L4.1 λ_=>?_;repeat' first|refine ak ?_;intros|(refine qr ?_;intro wa hk;rfl)
structure cO.Cx (m:cO):Prop where
 keys:m.keys.length<=2^40
 seen:m.seen.length<=2^40
 writes:m.writes.length<=2^40
 parts:m.parts.length<=2^40
theorem HH {m:cO} {vs vc:Value} (h:m.at w X vk vs vw vp vr vc vh vd) (hf:m.Cx):Ct pg 45 #[m.v vk vs vw vp vr vc vh vd] w X nX λv wa w'=> ∃Hq CA lz Ju,v=m.v Hq CA lz Ju vr vc vh vd/\
  Sl w' (made wa w') 1 Hq (m.keys.map S1)/\Sl w' (made wa w') 7 CA (m.seen.map fe.l)/\Sl w' (made wa w') 4 lz (m.writes.map KV.l)/\Sl w' (made wa w') 1 Ju (m.parts.map I1):=by
 intro w0 hk;replace h:=h.mv hk.bY;have hs:=ai.init w0;have o1:=h.ranges.one;have o2:=h.bt.one;have o3:=h.iz.one;have o4:=h.gX.one;refine Rf.1 λ_=>?_;refine cd (JB h.keys hf.keys) kQ hs.has ?_;rintro v1 Cv w1 X1 q1 pa mB ax;have h1:=h.mv ax.mv;refine cd (KH h1.seen hf.seen) kQ ax.has ?_;rintro v2 vM w2 X2 q2 kF jt bp;have h2:=h1.mv bp.mv;refine cd (HX h2.writes hf.writes) kQ bp.has ?_;rintro v3 yD w3 X3 q3 pV lT cY;refine cd (EU (h2.mv cY.mv).parts hf.parts) kQ cY.has ?_;rintro v4 zk w4 X4 q4 tr oH fV;have z1:=ax.kp.size;have z2:=bp.kp.size;have z3:=cY.kp.size;have u1:Own w1 X1 w0.heap.size _ _ v1 _:=q1.up mB pa;have u2:Own w2 X2 w0.heap.size _ _ v2 _:=q2.up jt zQ;have u3:Own w3 X3 w0.heap.size _ _ v3 _:=q3.up lT zQ;have u4:Own w4 X4 w0.heap.size _ _ v4 _:=q4.up oH zQ;replace u1:=((u1.since bp).since cY).since fV;replace u2:=(u2.since cY).since fV;replace u3:=u3.since fV;have p1:=u1.sl.one;have p2:=u2.sl.one;have p3:=u3.sl.one;have p4:=u4.sl.one;replace hs:=((hs.trans ax).trans (bp.trans cY)).trans fV;clear ax bp cY fV;obtain⟨a1,a2,a3,rfl⟩:=u1.sl.form;obtain⟨b1,b2,b3,rfl⟩:=u2.sl.form;obtain⟨c1,c2,c3,rfl⟩:=u3.sl.form;obtain⟨e1,e2,e3,rfl⟩:=u4.sl.form;repeat' refine ak ?_;intros
 exact bM hs λwa aH=>⟨_,_,_,_,rfl,(u1.kp aH).tight.sl,(u2.kp aH).tight.sl,(u3.kp aH).tight.sl,(u4.kp aH).tight.sl⟩
def cO.pU (m:cO) (no:Int):cO:= { m with fr:=no,to:=m.range }
def cO.asked (m:cO) (x:AcV):cO:= { m with aO:=x.aO,aS:=x.st }
abbrev Ey (code:Int) (t:bL) (st:cx) (on:Bool) (vs:Value):List Value:=[I code,I t.eh,I t.aW,I t.sq,I st.wall,I st.dC,I st.node,B on,vs]
theorem fQ.Xe (h:fQ w K rows ms): ∀r∈rows,∀u∈r,aK.one u=true:=λr hr=>by
 obtain⟨i,hi,rfl⟩:=List.getElem_of_mem hr;obtain⟨vk,vs,vw,vp,vr,vc,vh,vd,e,q⟩:=h.2 i _ (ms[i]'(by rw[<-h.1];exact hi)) (aZ hi) (aZ _);rw[e];have q1:=q.keys.one;have q2:=q.seen.one;have q3:=q.writes.one;have q4:=q.parts.one;have q5:=q.ranges.one;have q6:=q.bt.one;have q7:=q.iz.one;have q8:=q.gX.one;intro u hu;simp only[List.mem_cons,dq,or_false] at hu;rcases hu with rfl|rfl|rfl|rfl|rfl|rfl|rfl|rfl|rfl|rfl|rfl|rfl|rfl|rfl|rfl|rfl|rfl|rfl|rfl|rfl|rfl|rfl|rfl|rfl|rfl|rfl|rfl|rfl|rfl|rfl|rfl|rfl|rfl|rfl|rfl|rfl<;>first|rfl|assumption
end
def cO.at.fm {m:cO} {vs vc:Value} (h:m.at w X vk vs vw vp vr vc vh vd):(∃b n c,vk= .slice b n c)/\(∃b n c,vs= .slice b n c)/\(∃b n c,vw= .slice b n c)/\(∃b n c,vp= .slice b n c)/\
  aK.one vr=true/\aK.one vc=true/\aK.one vh=true/\aK.one vd=true:=⟨h.keys.form,h.seen.form,h.writes.form,h.parts.form,h.ranges.one,h.bt.one,h.iz.one,h.gX.one⟩
theorem fQ.ahH {m:cO} (h:cO.rd w K l m):fQ w K [l] [m]:=by simpa using (fQ.nil w K).add h
theorem fQ.app {r1 r2:List (List Value)} {m1 m2:List cO} (h1:fQ w K r1 m1) (h2:fQ w K r2 m2):fQ w K (r1++r2) (m1++m2):=by
 refine⟨by simp[h1.1,h2.1],λi l x hl hx=>?_⟩;by_cases hi:i<r1.length
 ·rw[dT hi] at hl;rw[dT (by rw[<-h1.1];exact hi)] at hx;exact h1.2 i l x hl hx
 ·rw[cZ zQ] at hl;rw[cZ (by rw[<-h1.1];omega),<-h1.1] at hx;exact h2.2 _ l x hl hx
theorem cO.at.as {m m':cO} {vs vc:Value} (h:m.at w X vk vs vw vp vr vc vh vd) (e:m'.keys=m.keys/\m'.seen=m.seen/\m'.writes=m.writes/\m'.parts=m.parts/\m'.ranges=m.ranges/\m'.bt=m.bt/\m'.state=m.state:=by exact⟨rfl,rfl,rfl,rfl,rfl,rfl,rfl⟩):
  m'.at w X vk vs vw vp vr vc vh vd:=by
 obtain⟨e1,e2,e3,e4,e5,e6,e7⟩:=e;exact⟨by rw[e1];exact h.keys,by rw[e2];exact h.seen,by rw[e3];exact h.writes,by rw[e4];exact h.parts,by rw[e5];exact h.ranges,by rw[e6];exact h.bt,by rw[e7];exact h.iz,by rw[e7];exact h.gX⟩
abbrev qW (own:Nat->Nat) (X:XS):Prop:= ∀k,own k≠0->X k
variable {t : bL} {code : Int} {n1 : bE} {e : pe}
def yG (hX:qW own X) (hk:Kp X w wa):Mv (bN own 4) w (bN own 4) wa:=hk.iZ λk (e:own k=4)=>hX k zQ
theorem A6 {m:cO} {vs vc:Value} (h:jd w own n) (hX:qW own X) (hm:m.at w (bN own 4) vk vs vw vp vr vc vh vd) (hi:1<=n.c.id/\n.c.id<=2) (hl:n.rm.length<=2^20):
  Ct pg 44 #[ptr n.nb 0,m.v vk vs vw vp vr vc vh vd] w X (gy own) λ_ wa w'=>NQ dX own wa w' λ_ n'=> ∃A3 yL,n'= { n with vm:=A3,rm:=yL,ms:=n.ms++[m.pU (20+n.c.id)] } /\yL.length=n.rm.length+1:=by
 intro w0 hk;have s:=St.init h hX hk;replace hm:=hm.mv (yG hX hk);obtain⟨⟨a1,a2,a3,rfl⟩,⟨b1,b2,b3,rfl⟩,⟨c1,c2,c3,rfl⟩,⟨e1,e2,e3,rfl⟩,q5,q6,q7,q8⟩:=hm.fm;refine L2.1 λ_=>?_;refine dL (A5 s.v.1 (λ_ h=>h) hi) kQ s.has λw1 X1 ax=>?_;replace hm:=hm.mv (ax.gU (s.sub 4));replace s:=s.since ax;have hr:=s.v.1;have hs:=s.rf;repeat' first|refine ak ?_;intros|(refine q1e hs ?_;intro _ _ _ w X hs ho)
 replace hm:=hm.mv (hs.gU (s.sub 4));replace s:=s.since hs;have jv:=fQ.ahH ⟨_,_,_,_,_,_,_,_,rfl,hm.as (m':=m.pU (20+n.c.id))⟩;refine s.ap2 1 8 11 (s.get 1) (s.get 8) ho.sl jv.Xe oQ (λv=>dX { n with vm:=v,rm:=_,ms:=_ }) (λ_ _ _ _ h=>h) (λ_ _ _ _ h=>h) (λ_ _ _ _ mv h=>fQ.app h (jv.mv mv)) (λv'=>nz) λv' w' X' aI s' m'=>?_;clear hs hr
 skip
 exact s'.fin λwa hk=>⟨_,_,rfl,by simp⟩
theorem nO {κ α:Type} [DecidableEq κ] {k t:κ} {l:List (κ×α)} {v:α} (h:getM t (j9 k l)=some v):getM t l=some v/\t≠k:=by grind [Tb,Lq]
theorem ald (hb:n.dI b): ∀c,c≠5-> ∀w K A,(dX n c).p w K A->(dX { n with al:=j9 t n.al,ex:=b::n.ex } c).p w K A:=
 nz (λb' i hi _ w K A h=>by
  have e:({ n with al:=j9 t n.al,ex:=b::n.ex } :bE).dI b'->n.dI b':=λh=>h.elim (λ⟨t,e⟩=>.inl ⟨t,(nO e).1⟩) λe=>(List.mem_cons.1 e).elim (λe=>e▸hb) .inr;rcases i with _|_|_|_|_|_|_|_|i<;>first|exact λha=>h (e ha)|exact h) λi hi hq w K A h=>by
   rcases i with _|_|_|_|_|_|_|_|_|_|_|_|_|i<;>first|exact absurd rfl hq|exact λt b e=>h t b (nO e).1|exact h
theorem Cg {st:cx} {on:Bool} {vs:Value} (h:jd w own n) (hX:qW own X) (hb:n.dI b) (ovs:aK.one vs=true) (hl:n.ra.length<=2^20):
  Ct pg 62 #[ptr n.nb 0,ptr b 0,.agg (Ey code t st on vs).toArray] w X (gy own) λ_ wa w'=>NQ dX own wa w' λ_ n'=> ∃oB,n'= { n with al:=j9 (n.A b).x.aO n.al,ex:=b::n.ex,va:=oB,ra:=n.ra++[Ey code (n.A b).x.aO st on vs] } :=by
 intro w0 hk;have s:=St.init h hX hk;have hr:=s.v.1;have ha:=(s.va hb).1;have hs:=s.rf;refine Nj.1 λ_=>?_;repeat' refine ak ?_;intros
 refine ais (kv:=λk:bL=>k.v) (k:=(n.A b).x.aO) (kt:=34) (et:=116) (s.zO 5:) Ev (λ_ h=>h.elim) sJ kQ s.has λw1 X1 c1 qp=>?_;obtain⟨il,s1,m1⟩:=s.De (F':=dX { n with al:=j9 (n.A b).x.aO n.al,ex:=b::n.ex }) 5 c1 (λk e=>by rw[show k=n.c.ab from e];exact(s.get 5:dM _ _ _ _ _ _ _).x.1) (· =n.c.ab) (λk e=>.inl (by rw[show k=n.c.ab from e];exact(s.get 5:dM _ _ _ _ _ _ _).x.1))
  (λK m=>lp qp rfl) (ald hb)
 clear hr ha hs;have hr:=s1.v.1;have ha:=(s1.va (b:=b) (.inr sQ)).1;have hs:=s1.rf;repeat' first|refine ak ?_;intros|(refine q1e hs ?_;intro _ _ _ w X hs ho)
 have s2:=s1.since hs;refine s2.ap2 1 9 0 (s2.get 1) (s2.get 9) ho.sl (λr hr u hu=>?_) oQ (λv=>dX { n with al:=j9 (n.A b).x.aO n.al,ex:=b::n.ex,va:=v,ra:=_ }) (λ_ _ _ _ h=>h) (λ_ _ _ _ h=>h) (λ_ _ _ _ _ h=>h) (λv'=>nz) λv' w' X' aI s' m'=>?_
 ·rw[av] at hr;subst hr;simp only[List.mem_cons,dq,or_false] at hu;rcases hu with rfl|rfl|rfl|rfl|rfl|rfl|rfl|rfl|rfl<;>first|rfl|assumption
 clear hs hr ha
 skip
 exact s'.fin λwa hk=>⟨_,rfl⟩
def Told (n:bE) (ms:List cO) (n':bE):Prop:= ∃A3 yL,n'= { n with vm:=A3,rm:=yL,ms:=n.ms++ms } /\yL.length=n.rm.length+ms.length
theorem Told.nil (n:bE):Told n [] n:=⟨n.vm,n.rm,by rw[List.append_nil],rfl⟩
theorem Told.add {a b:List cO} {n2:bE} :Told n a n1->Told n1 b n2->Told n (a++b) n2:=by
 rintro⟨v,r,rfl,h⟩ ⟨v',r',rfl,h'⟩;exact⟨v',r',by simp[ao],by simp at h'⊢;omega⟩
theorem Sk {m:cO} (h:m.keys=[]/\m.seen=[]/\m.writes=[]/\m.parts=[]/\m.ranges=[]/\m.bt=[]/\m.state= .zero:=by exact⟨rfl,rfl,rfl,rfl,rfl,rfl,rfl⟩):m.at w K aP aP aP aP aP aP aP aP:=by
 obtain⟨e1,e2,e3,e4,e5,e6,e7⟩:=h;exact⟨by rw[e1];exact Sl.nil _ _ _,by rw[e2];exact Sl.nil _ _ _,by rw[e3];exact Sl.nil _ _ _,by rw[e4];exact Sl.nil _ _ _,by rw[e5];exact Sl.nil _ _ _,by rw[e6];exact fp.nil _ _ _,by rw[e7];exact fp.nil _ _ _,by rw[e7];exact fp.nil _ _ _⟩
def BR:cO:=⟨0,0,0,.zero,0,0,0,.zero,.zero,false,0,0,[],[],[],[],[],[],.zero⟩
def Sj (t:bL) (id:Int):cO:= { BR with kind:=5,aO:=t,range:=id }
def XQ (r:Rec) (id:Int):cO:= { BR with kind:=5,aO:=r.aO,range:=id,jF:=true,aS:=r.aS }
theorem Cy {α β:Type} {l:List α} {x:α} {f:α->β} (h:l[i]? =some x):(l.take (i+1)).map f=(l.take i).map f++[f x]:=by
 rw[List.take_add_one,h];simp
theorem zF (h:jd w own n) (hX:qW own X) (hb:n.dI b) (hpq:(n.A b).pq=false) (hl:n.ra.length<=2^20) (hi:1<=n.c.id/\n.c.id<=2) (xx:n.rm.length+(n.A b).ids.length<=2^20):
  Ct pg 43 #[ptr n.nb 0,ptr b 0,I code] w X (gy own) λ_ wa w'=>NQ dX own wa w' λ_ n'=> ∃oB,Told { n with al:=j9 (n.A b).x.aO n.al,ex:=b::n.ex,va:=oB,ra:=n.ra++[Ey code (n.A b).x.aO .zero false aP] }
   (if(n.A b).x.pre then(n.A b).ids.map λid=>(Sj (n.A b).x.aO id).pU (20+n.c.id)else []) n':=by
 intro w0 hk;have s:=St.init h hX hk;have hs:=s.rf;refine JR.1 λ_=>?_;repeat' refine ak ?_;intros
 refine s.call (Cg (code:=code) (t:=.zero) (st:=.zero) (on:=false) (vs:=aP) s.h s.x hb rfl hl) kQ λv w1 X1 il n1 s1 q m1=>?_;obtain⟨oB,rfl⟩:=q;clear hs h s m1;have hs:=s1.rf;obtain⟨ha,-⟩:=s1.va (b:=b) (.inr sQ);have EB:=((s1.h.act (b:=b) (.inr sQ)).2.2.2.2.2 hpq).mono (s1.sub 4);have kn:=EB.gR;dsimp only at ha EB;cases hp:(n.A b).x.pre
 ·dsimp only [Jq] at ha;rw[hp] at ha;repeat' refine ak ?_;intros
  exact s1.fin λwa hk=>⟨oB,Told.nil _⟩
 dsimp only [Jq] at ha;rw[hp] at ha;repeat' refine ak ?_;intros
 generalize hN:({ n with al:=j9 (n.A b).x.aO n.al,ex:=b::n.ex,va:=oB,ra:=n.ra++[Ey code (n.A b).x.aO .zero false aP] } :bE)=N at s1;refine eY (λn' a w X=> ∃(i:Nat) (aI:Nat->Nat) (n1:bE),a=I (i:Nat)/\n'=(n.A b).ids.length-i/\i<=(n.A b).ids.length/\Sn w0 own w X aI n1/\Told N (((n.A b).ids.take i).map λid=>(Sj (n.A b).x.aO id).pU (20+n.c.id)) n1) (n.A b).ids.length ⟨0,il,N,rfl,rfl,Nat.zero_le _,s1,Told.nil _⟩ ?_;clear hs s1 ha EB;rintro n' _ w1 X1 ⟨i,il,n1,rfl,rfl,Ql,s,ht⟩;obtain⟨WZ,Qb,wI,qV⟩:=id ht;have e:n1.A=n.A/\n1.nb=n.nb/\n1.c=n.c/\n1.rm=Qb/\N.rm=n.rm:=by rw[wI,<-hN];exact⟨rfl,rfl,rfl,rfl,rfl⟩
 have TA:n1.dI b:=.inr (by rw[wI,<-hN];simp);obtain⟨ha,o1,o2,o3,o4⟩:=s.va TA;have EB:=((s.h.act TA).2.2.2.2.2 (by rw[e.1];exact hpq)).mono (s.sub 4);rw[e.1] at ha EB o1 o2 o3 o4;have hs:=s.rf;rcases dE ((n.A b).ids) i with⟨cD,id,hx,hd⟩|⟨dD,hd⟩
 ·repeat' refine aJ ?_;intros
  rw[<-e.2.1];refine s.call (A6 (m:=Sj (n.A b).x.aO id) s.h s.x Sk (by rw[e.2.2.1];exact hi) (by rw[e.2.2.2.1,qV,e.2.2.2.2];simp;omega)) kQ λv w2 X2 lC n2 s2 q m2=>?_;clear hs;repeat' refine ak ?_;intros
  refine ep ((n.A b).ids.length-(i+1)) zQ ⟨i+1,lC,n2,by simp,rfl,by omega,s2,?_⟩;rw[Cy hx];refine ht.add ?_;obtain⟨v,r,e1,e2⟩:=q;exact⟨v,r,by rw[e1,e.2.2.1],e2⟩
 ·repeat' refine aJ ?_;intros
  rw[aA zQ] at ht;exact s.fin λwa hk=>⟨oB,by rw[hN,if_pos rfl];exact ht⟩
def eI (n:bE) (b:Nat) (d:pe):bE:= { n with A:=λb'=>if b'=b then d else n.A b' }
theorem jq:(eI n b d).A b=d:=if_pos rfl
theorem Ik (h: ∀i,Q (tx b i)-> ∀w K A,(JF b (n.A b) i).p w K A->(JF b d i).p w K A:=by intro i hq w K A h;rcases i with _|_|_|_|_|_|_|_|i<;>first|exact h|exact absurd rfl hq.1|exact absurd rfl hq.2.1|exact absurd rfl hq.2.2|exact absurd rfl hq) (ht:d.x.aO=(n.A b).x.aO:=by rfl):
  ∀c,Q c-> ∀w K A,(dX n c).p w K A->(dX (eI n b d) c).p w K A:=
 nz (arY h) λi hi hq w K A p=>by
  by_cases an7:i=12
  ·subst an7;intro t b' e
   show(if b'=b then d else n.A b').x.aO=t
   by_cases hb:b'=b
   ·subst hb;rw[if_pos rfl,ht];exact p t b' e
   ·rw[if_neg hb];exact p t b' e
  ·rcases i with _|_|_|_|_|_|_|_|_|_|_|_|_|i<;>first|exact p|exact absurd rfl an7
theorem An:eI (eI n b d) b e=eI n b e:=by
 unfold eI
 congr 1
 funext b'
 by_cases h:b'=b<;>simp[h]
theorem Qa {d':pe} (h: ∀i,Q (tx b i)-> ∀w K A,(JF b d i).p w K A->(JF b d' i).p w K A:=by intro i hq w K A h;rcases i with _|_|_|_|_|_|_|_|i<;>first|exact h|exact absurd rfl hq.1|exact absurd rfl hq.2.1|exact absurd rfl hq.2.2|exact absurd rfl hq|exact⟨h.1,h.2.1,λe=>Bool.noConfusion e⟩) (ht:d'.x.aO=d.x.aO:=by rfl):
  ∀c,Q c-> ∀w K A,(dX (eI n b d) c).p w K A->(dX (eI n b d') c).p w K A:=λc hq w K A p=>by
 have:=Ik (n:=eI n b d) (d:=d') (by rw[jq];exact h) (by rw[jq];exact ht) c hq w K A p
 rwa [An] at this
theorem _root_.Go.aK.St.vs (s:Sn w0 bZ w X own (eI n b d)) (hb:n.dI b):aG w X b (Jq d.x d.vw) aT/\aK.one d.vw=true/\aK.one d.x.vs=true/\aK.one d.x.vp=true/\aK.one d.x.vq=true:=by
 have:=s.va (b:=b) hb
 rwa [jq] at this
theorem Told.set {N:bE} {l:List cO} :Told N l n1->Told (eI N b e) l (eI n1 b e):=by
 rintro⟨v,r,rfl,h⟩;exact⟨v,r,rfl,h⟩
theorem qD (hi:i<4\/i=7) (h:(JF b d i).p w K A):(dX (eI n b d) (tx b i)).p w K A:=by
 rw[vN _ _ _ zQ];rcases i with _|_|_|_|_|_|_|_|i<;>first|(simp only[zl,CP,jq];exact λ_=>h)|omega
theorem NR {m:cO} {vs vc:Value} (h:jd w own n) (hX:qW own X) (hb:n.dI b) (hm:m.at w (bN own 4) vk vs vw vp vr vc vh vd) (hf:m.Cx) (hi:1<=n.c.id/\n.c.id<=2) (hl:n.rm.length<=2^20) (xx:(n.A b).rw.length<=2^20):
  Ct pg 63 #[ptr n.nb 0,ptr b 0,m.v vk vs vw vp vr vc vh vd] w X (gy own) λ_ wa w'=>NQ dX own wa w' λ_ n'=> ∃lz pJ,pJ.length=(n.A b).rw.length+1/\
   Told (eI n b { n.A b with vw:=lz,rw:=pJ,ws:=(n.A b).ws++[m.asked (n.A b).x] }) [(m.asked (n.A b).x).pU (20+n.c.id)] n':=by
 intro w0 hk;have s:=St.init h hX hk;replace hm:=hm.mv (yG hX hk);obtain⟨⟨a1,a2,a3,rfl⟩,⟨b1,b2,b3,rfl⟩,⟨c1,c2,c3,rfl⟩,⟨e1,e2,e3,rfl⟩,q5,q6,q7,q8⟩:=hm.fm;have ha:=(s.va hb).1;have hs:=s.rf;refine Nk.1 λ_=>?_;repeat' first|refine ak ?_;intros|(refine q1e hs ?_;intro _ _ _ w X hs ho)
 replace hm:=hm.mv (hs.gU (s.sub 4));replace s:=s.since hs;have jv:=fQ.ahH ⟨_,_,_,_,_,_,_,_,rfl,hm.as (m':=m.asked (n.A b).x)⟩;have ny:=s.h.act hb;refine s.ap1 (tx b 0) (tx b 1) (tx b 3) ny.1 ny.2.1 ho.sl jv.Xe oQ (λv=>dX (eI n b { n.A b with vw:=v,rw:=_,ws:=(n.A b).ws++[m.asked (n.A b).x] })) (λ_ _ _ _ h=>qD dQ h) (λ_ _ _ _ h=>qD dQ h)
  (λ_ _ K A mv h=>qD dQ (by rw[vN _ _ _ dQ] at h;exact⟨fQ.app (h hb).1 (jv.mv mv),(h hb).2⟩)) (λv'=>Ik) (λv' w' X' aI s' m'=>?_) (yE:=by unfold tx;omega)
 replace hm:=hm.mv m';clear hs ha ny;have hs:=s'.rf;repeat' refine ak ?_;intros
 refine cd (HH (m:=m.asked (n.A b).x) ((hm.mv (Mv.sub (s'.sub 4))).as) ⟨hf.keys,hf.seen,hf.writes,hf.parts⟩) kQ s'.has ?_;rintro _ Qc w7 X7 ⟨Hq,CA,vw2,Ju,rfl,u1,u2,u3,u4⟩ R8 Gu oS;replace hm:=hm.mv (oS.gU (s'.sub 4));have s7:=s'.since oS;obtain⟨OK,s8,m8,e8,n8⟩:=s7.uW (N:=made Qc w7) λk hk=>⟨Gu k hk,by have:=hk.1;have:=s'.nw (k:=k) zQ;exact this⟩;have k8:Mv (made Qc w7) w7 (bN OK 4) w7:=Mv.sub n8;replace hm:=(hm.mv m8).as (m':=m.asked (n.A b).x);refine s8.call (A6 (n:=eI n b _) (m:=m.asked (n.A b).x) s8.h s8.x ⟨u1.mv k8,u2.mv k8,u3.mv k8,u4.mv k8,hm.ranges,hm.bt,hm.iz,hm.gX⟩ hi hl) kQ λv w9 X9 lU n9 s9 q m9=>?_;obtain⟨v9,r9,rfl,Qe⟩:=q
 skip
 exact s9.fin λwa hk=>⟨_,_,by rw[aa];rfl,v9,r9,rfl,Qe⟩
def fb (n:bE):bE:= { n with vm:=aP,va:=aP,rm:=[],ra:=[],ms:=[] }
structure AR (w:World) (own:Nat->Nat) (n:bE):Prop where
 om:Sl w (bN own 4) 36 n.vm n.rm
 hm:fQ w (bN own 4) n.rm n.ms
 oa:Sl w (bN own 4) 9 n.va n.ra
def AR.mv (h:AR w own n) (m:Mv (bN own 4) w (bN aI 4) w'):AR w' aI n:=⟨h.om.mv m,h.hm.mv m,h.oa.mv m⟩
def Sb (own:Nat->Nat) (wa w':World) (P:bE->Prop) (Q:bE->Prop):Prop:=NQ dX own wa w' λaI n'=> ∃n1,P n1/\Q n1/\n'=fb n1/\AR w' aI n1
theorem ED (h:jd w own n) (hX:qW own X):Ct pg 47 #[ptr n.nb 0] w X (gy own) λv wa w'=>NQ dX own wa w' λaI n'=>v= .agg #[n.vm,n.va]/\n'=fb n/\AR w' aI n:=by
 intro w0 hk;have s:=St.init h hX hk;obtain⟨hr,o2,o3,-⟩:=s.v;have hs:=s.rf;have hO:AR w0 own n->True:=λ_=>trivial;have q8:Own w0 (bN own 8) 0 mT 36 n.vm n.rm:=s.get 8;have q9:Own w0 (bN own 9) 0 anT 9 n.va n.ra:=s.get 9;have q11:fQ w0 (bN own 4) n.rm n.ms:=s.get 11;obtain⟨il,s1,m1,e1,e2⟩:=s.KJ (F':=λc=>if c=8\/c=9\/c=11 then QF else dX n c) (λc=>c=8\/c=9) dQ (λc hc w K=>by rw[if_pos zQ];trivial) λc hc K A _ h=>by
  by_cases e:c=11
  ·rw[if_pos zQ];trivial
  ·rw[if_neg zQ];exact h
 have hO:AR w0 il n:=⟨q8.sl.mono λk e=>e1 k (.inl e),q11.mv m1,q9.sl.mono λk e=>e1 k (.inr e)⟩;refine L3.1 λ_=>?_;repeat' refine ak ?_;intros
 refine s1.stN (o:=10) 1 (s1.get 1) (dX (fb n)) zQ kQ (Nat.le_of_ble_eq_true rfl) rfl rfl (λ_ _ _ h=>h) (λc hc w K A h=>?_) λw2 X2 lC s2 m2=>?_
 ·by_cases e:c=8\/c=9\/c=11
  ·rcases e with rfl|rfl|rfl
   ·exact Own.nil _ _ _ _ _
   ·exact Own.nil _ _ _ _ _
   ·exact fQ.nil _ _
  ·rw[if_neg e] at h;exact(nz: ∀c,(c≠1/\c≠8/\c≠9/\c≠11)-> ∀w K A,(dX n c).p w K A->(dX (fb n) c).p w K A) c zQ w K A h
 clear hs;repeat' refine ak ?_;intros
 exact s2.fin λwa hk=>⟨rfl,rfl,(hO.mv m2).mv (yG s2.x hk)⟩
def _root_.Go.aK.St.alC {v:Value} {P:bE->Prop} {Q:Value->bE->Prop} (s:Sn w0 bZ w X own (fb n1)) (q:AR w own n1) (hp:P n1) (hq:Q v n1):aK.fin (uF (gy bZ) w0 λv w'=>Sb bZ w0 w' P (Q v)) X w v:=
 St.fin (Q:=λv w' aI n'=> ∃n1,P n1/\Q v n1/\n'=fb n1/\AR w' aI n1) s λwa hk=>⟨n1,hp,hq,rfl,q.mv (yG s.x hk)⟩
theorem HG (h:jd w own n) (hX:qW own X) (hb:b∈n.cl) (hi:1<=n.c.id/\n.c.id<=2) (hl:n.rm.length+(n.C b).waits.length<=2^20):
  Ct pg 46 #[ptr n.nb 0,ptr b 0] w X (gy own) λ_ wa w'=>NQ dX own wa w' λ_ n'=>Told n ((n.C b).waits.map λid=>(XQ (n.C b).r id).pU (20+n.c.id)) n':=by
 intro w0 hk;have s:=St.init h hX hk;obtain⟨hc,o1,o2,hw⟩:=s.vc hb;have kn:(n.C b).waits.length<=2^20:=by omega
 have hs:=s.rf;refine IP.1 λ_=>?_;repeat' refine ak ?_;intros
 refine eY (λn' a w X=> ∃(i:Nat) (aI:Nat->Nat) (n1:bE),a=I (i:Nat)/\n'=(n.C b).waits.length-i/\i<=(n.C b).waits.length/\Sn w0 own w X aI n1/\Told n (((n.C b).waits.take i).map λid=>(XQ (n.C b).r id).pU (20+n.c.id)) n1) (n.C b).waits.length ⟨0,own,n,rfl,rfl,Nat.zero_le _,s,Told.nil _⟩ ?_;clear hs s hc hw;rintro n' _ w1 X1 ⟨i,il,n1,rfl,rfl,Ql,s,ht⟩;obtain⟨WZ,Qb,rfl,qV⟩:=id ht;obtain⟨hc,o1,o2,hw⟩:=s.vc (b:=b) hb;have hs:=s.rf;dsimp only at hc hw;rcases dE ((n.C b).waits) i with⟨cD,id,hx,hd⟩|⟨dD,hd⟩
 ·repeat' refine aJ ?_;intros
  refine s.call (A6 (n:= { n with vm:=WZ,rm:=Qb,ms:=_ }) (m:=XQ (n.C b).r id) s.h s.x Sk hi (by simp at qV;simp;omega)) kQ λv w2 X2 lC n2 s2 q m2=>?_;clear hs;repeat' refine ak ?_;intros
  exact ep ((n.C b).waits.length-(i+1)) zQ ⟨i+1,lC,n2,by simp,rfl,by omega,s2,by rw[Cy hx];exact ht.add q⟩
 ·repeat' refine aJ ?_;intros
  rw[aA zQ] at ht;exact s.fin λwa hk=>by rw[aA zQ];exact ht
abbrev F5:=List (BA×gL)
def uD (o:jD) (s:List gL) (wr:F5):Except Int (List gL×F5):=
 if o.code=2 then .ok (s.tail,cL o.key (s.headD .zero) wr)
 else if o.code=3 then .ok (s,cL o.key .zero wr)
 else if o.code=4 then .ok (o.val::s,wr)
 else if o.code=13 then(if RD (s.headD .zero)then .ok (s.tail,wr)else .error 22)
 else if o.code=14 then .ok (s.headD .zero::s,wr)
 else match za o.code (s.tail.headD .zero) (s.headD .zero)with
  | .ok l=>.ok (l++s.tail.tail,wr)
  | .error e=>.error e
section
variable {N N' : XS} {rb sb wb : Nat} {xl od : Value} {s s' : List gL} {wr oG : F5}
theorem iv.put (h:iv w N rb sb wb xl s wr) (hX: ∀k,N k->X k) (c:ee (· =wb) X w X' w') (hm:dM w' X' nX wb Value.string mZ oG):iv w' N rb sb wb xl s oG:=
 ⟨⟨h.row.1,(c.block _ (hX _ h.row.1) λe=>h.ne e.symm).trans h.row.2⟩,M7 h.own λg hg=>⟨h.own.2.2 g hg,c.block g (hX _ (h.own.2.2 g hg)) λe=>h.ns.2 (by rw[<-e];exact hg)⟩,lp hm h.map.x.1⟩
theorem apz {b c:Value} {o':Nat} {C:Value->Prop} (h:aG w X rb [a,b,c] runT) (ho:o'=0+2) (n:C c):aV pg X w (ld1 287 (ptr rb o')) C:=by
 have hc:Cells w X rb (0+2) [c]:=h.cells.V9 (fo:=2) rfl;rw[ho];exact aef hc (Mv.refl _ _) kQ rfl n
theorem aja {o:jD} (h:iv w N rb sb wb xl s wr) (hN:FX N X w) (hl:s.length<=2^20) (hg:o.code≠1) (hc:1<=o.code/\o.code<=15) (ht:tC o.code<=s.length):
  ER pg 168 #[ptr rb 0,.agg o.l.toArray] w X N (λ_ wa w'=> ∃s' oG N' od,uD o s wr= .ok (s',oG)/\(∀k,N' k->N k\/made wa w' k)/\iv w' N' rb sb wb od s' oG) (λch _ _=> ∃e,uD o s wr= .error e/\ch=vJ e):=by
 intro w0 hk;have hT:=hN.ft hk;replace h:=h.mv (hN.mv hk);have JD:=hN.kp hk;have bo:=h.row.mono λk ah=>(JD k ah).1;have D8: ∀{w3:World} {X3:XS} {N3:XS} {s3:List gL} {UZ:F5} {v:gL} {Ae:Value} {K:Value->World->XS->Prop},Ft w0 N w3 X3 N3->iv w3 N3 rb sb wb Ae s3 UZ->s3.length<=2^30->
   (∀x w4 X4 N4 G1,Ft w0 N w4 X4 N4->iv w4 N4 rb sb wb G1 (v::s3) UZ->K x w4 X4)->eC pg (ES N w0 (λ_ w'=> ∃s' oG N' od,uD o s wr= .ok (s',oG)/\(∀k,N' k->N k\/made w0 w' k)/\iv w' N' rb sb wb od s' oG) (λch _=> ∃e,uD o s wr= .error e/\ch=vJ e)) X3 w3 true 234 #[ptr rb 0,v.v] K:=λq1 q2 q3 k=>by
  refine q1.call (Ji q2 (λk ah=>⟨q1.bw k ah,q1.s.has k (q1.bw k ah)⟩) q3) kQ (λ_ h=>h) λv zk w4 X4 hq tr oH fO c4=>?_;obtain⟨N4,G1,Uy,h4⟩:=hq;exact k _ _ _ _ _ (fO.less Uy) h4
 have ajb: ∀{w3:World} {X3:XS} {N3:XS} {s3:List gL} {UZ:F5} {v:gL} {Ae:Value} {K:Value->World->XS->Prop},Ft w0 N w3 X3 N3->iv w3 N3 rb sb wb Ae (v::s3) UZ->
   (∀w4 X4 G1,Ft w0 N w4 X4 N3->iv w4 N3 rb sb wb G1 s3 UZ->aG w4 X4 rb [G1,.map (some sb),.map (some wb)] runT->K v.v w4 X4)->eC pg (ES N w0 (λ_ w'=> ∃s' oG N' od,uD o s wr= .ok (s',oG)/\(∀k,N' k->N k\/made w0 w' k)/\iv w' N' rb sb wb od s' oG) (λch _=> ∃e,uD o s wr= .error e/\ch=vJ e)) X3 w3 true 236 #[ptr rb 0] K:=λq1 q2 k=>by
  refine q1.call (Ms q2 (λk ah=>⟨q1.bw k ah,q1.s.has k (q1.bw k ah)⟩)) kQ (λ_ h=>h) λv zk w4 X4 hq tr oH fO c4=>?_;obtain⟨rfl,G1,h4⟩:=hq;have zT:=fO.less (F':=_) λk ah=>.inl ah;exact k _ _ _ zT h4 (h4.row.mono λk ah=>zT.bw k ah)
 have Mp: ∀{w3:World} {X3:XS} {N3:XS} {s3:List gL} {v:gL} {Ae:Value} {K:Value->World->XS->Prop},Ft w0 N w3 X3 N3->iv w3 N3 rb sb wb Ae s3 wr->
   (∀w4 X4,Ft w0 N w4 X4 N3->iv w4 N3 rb sb wb Ae s3 (cL o.key v wr)->K undef w4 X4)->eU pg (ES N w0 (λ_ w'=> ∃s' oG N' od,uD o s wr= .ok (s',oG)/\(∀k,N' k->N k\/made w0 w' k)/\iv w' N' rb sb wb od s' oG) (λch _=> ∃e,uD o s wr= .error e/\ch=vJ e)) X3 w3 true (Instr.mapUpdate 287 (.map (some wb)) (.string o.key) v.v) K:=λ{w3} {X3} {N3} {s3} {v} {Ae} {K} q1 q2 k=>by
  refine uY (kv:=Value.string) (k:=o.key) (a:=v) (kt:=9) (et:=97) (q2.mv (Mv.sub q1.bw)).map kA rfl (λ_ h=>h.elim) yb kQ q1.s.has λw4 X4 c4 Ao=>?_;exact k _ _ (q1.dY (F':=N3) c4 (λk ah=>by subst ah;exact q2.map.x.1) λk ah=>.inl ah) (q2.put q1.bw c4 Ao)
 have tS: ∀{w3:World} {X3:XS} {N3:XS} {s3:List gL} {UZ:F5} {Ae:Value} {x:Value},Ft w0 N w3 X3 N3->iv w3 N3 rb sb wb Ae s3 UZ->uD o s wr= .ok (s3,UZ)->
   fin (ES N w0 (λ_ w'=> ∃s' oG N' od,uD o s wr= .ok (s',oG)/\(∀k,N' k->N k\/made w0 w' k)/\iv w' N' rb sb wb od s' oG) (λch _=> ∃e,uD o s wr= .error e/\ch=vJ e)) X3 w3 x:=λq1 q2 q3=>
  q1.xO λwa aH=>⟨_,_,_,_,q3,q1.js aH λ_ h=>h,q2.mv (aH.iZ q1.bw)⟩
 have hs:=ai.init w0;have h1:tC o.code=if o.code=3\/o.code=4 then 0 else if o.code=2\/o.code=13\/o.code=14 then 1 else 2:=by
  unfold tC;rw[if_neg zQ];by_cases q:o.code=3\/o.code=4
  ·rw[if_pos zQ,if_pos q]
  ·rw[if_neg zQ,if_neg q]
 by_cases e2:o.code=2
 ·rw[if_neg zQ,if_pos zQ] at h1;cases s with
  |nil=>simp at ht;omega
  |cons v s=>
   refine oN.1 λ_=>?_;repeat' first|refine aJ ?_;intros|with_reducible apply cB|(refine ajb hT h λw1 X1 ai1 ea h1 DX=>?_)|(refine And.intro ?_ ?_)|(refine Mp aQ aQ λw2 X2 dh h2=>?_)|(exact tS aQ aQ (by unfold uD;rw[if_pos e2];rfl))|(refine apz aQ aQ ?_)
 by_cases e3:o.code=3
 ·refine oN.1 λ_=>?_;repeat' first|refine aJ ?_;intros|with_reducible apply cB|(refine Mp (v:=.zero) hT h λw2 X2 dh h2=>?_)|(exact tS aQ aQ (by unfold uD;rw[if_neg e2,if_pos e3]))
 by_cases e4:o.code=4
 ·refine oN.1 λ_=>?_;repeat' first|refine aJ ?_;intros|with_reducible apply cB|(refine D8 (v:=o.val) hT h zQ λx w2 X2 N2 anX dh h2=>?_)|(exact tS aQ aQ (by unfold uD;rw[if_neg e2,if_neg e3,if_pos e4]))
 by_cases e13:o.code=13
 ·rw[if_neg zQ,if_pos zQ] at h1;cases s with
  |nil=>simp at ht;omega
  |cons v s=>
   refine oN.1 λ_=>?_;repeat' first|refine aJ ?_;intros|with_reducible apply cB|(refine ajb hT h λw1 X1 ai1 ea h1 DX=>?_)
   refine rL (ZY v) kQ ea.s.has λw2 X2 bp=>?_;have dh:=ea.since bp;have h2:=h1.mv (bp.gU λk ah=>ea.bw k ah);by_cases hh:RD v=true
   ·rw[hh];repeat' first|refine ak ?_;intros|(exact tS dh h2 (by unfold uD;rw[if_neg e2,if_neg e3,if_neg e4,if_pos e13];simp only[List.headD_cons,hh,if_true,List.tail_cons]))
   ·rw[Bool.eq_false_iff.2 hh];repeat' first|refine ak ?_;intros|(with_reducible refine Sg ?_ ?_);(· kernel_rfl)
    exact Sh dh.s.has λwa nD=>dh.iY nD ⟨22,by unfold uD;rw[if_neg e2,if_neg e3,if_neg e4,if_pos e13];exact if_neg hh,rfl⟩
 by_cases e14:o.code=14
 ·rw[if_neg zQ,if_pos zQ] at h1;cases s with
  |nil=>simp at ht;omega
  |cons v s=>
   refine oN.1 λ_=>?_;repeat' first|refine aJ ?_;intros|with_reducible apply cB|(refine ajb hT h λw1 X1 ai1 ea h1 DX=>?_)
   refine D8 (v:=v) ea h1 (by simp only[aL] at hl;omega) λx w2 X2 N2 anX dh h2=>?_;repeat' refine ak ?_;intros
   refine D8 (v:=v) dh h2 (by simp only[aL] at hl⊢;omega) λx w3 X3 N3 Ae dU h3=>?_;repeat' first|(exact tS aQ aQ (by unfold uD;rw[if_neg e2,if_neg e3,if_neg e4,if_neg e13,if_pos e14];rfl))
 ·rw[if_neg zQ,if_neg zQ] at h1;obtain⟨b,a,s,rfl⟩: ∃b a s',s=b::a::s':=by
   match s,ht with
   |[],ht=>simp at ht;omega
   |[_],ht=>simp at ht;omega
   |b::a::s,_=>exact⟨b,a,s,rfl⟩
  have hd:uD o (b::a::s) wr=match za o.code a b with| .ok l=>.ok (l++s,wr)| .error e=>.error e:=by
   unfold uD;rw[if_neg e2,if_neg e3,if_neg e4,if_neg e13,if_neg e14];rfl
  refine oN.1 λ_=>?_;repeat' first|refine aJ ?_;intros|with_reducible apply cB
  refine hT.FP (agx h JD (by simp only[aL] at hl;omega)) kQ (λ_ h=>h) (λv yD w3 X3 hq pV lT dU c3=>?_) λch yD w3 X3 hq pV lT dU c3 wb pj=>?_
  ·obtain⟨l,N3,Ae,hl3,hN3,h3⟩:=hq;repeat' first|(exact tS (dU.less hN3) h3 (by rw[hd,hl3]))
  ·obtain⟨e,he,hch⟩:=hq;exact dU.iY pj ⟨e,by rw[hd,he],hch⟩
end
end Go.Proofs.YtgfijddlkhkopaaGreat