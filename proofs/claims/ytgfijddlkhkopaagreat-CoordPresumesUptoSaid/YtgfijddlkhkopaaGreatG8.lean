/- Part 8 of the proof. -/
import Derived.Test.YtgfijddlkhkopaaGreatG7
set_option linter.all false
open List renaming mem_singleton → av, map_append → az, replicate → gF, getElem?_append_left → dM, length_append → aa, getElem?_append_right → cQ, append_assoc → ak, length_map → af, getLast?_eq_some_getLast → mw, nil_append → cB, take_of_length_le → aB, length_cons → aM, dropLast_concat_getLast → sj, pairwise_singleton → vG, getElem?_eq_getElem → aS, not_mem_nil → dI
open ByteArray renaming size_append → rj
open Go.Value renaming int → aA
open Option.some renaming inj → bV
open Nat renaming le_trans → ad
namespace Go.Proofs.YtgfijddlkhkopaaGreat
open Go.Proofs.Tryz renaming prog → pg
open Go.aJ
set_option maxRecDepth 100000
set_option maxHeartbeats 4000000
attribute [local irreducible] un jn jg iN ld1 tW st1 mG lN pB sH pT J6 Fc gR ru aX lW lP eW eV eU eC eF gE np fin ix cj eP vS OA J7 J9 Ka Kb Kc OB OC Kd OD Gz GA Ke Kf Kg OE OF Kh
def qk:Nat->Nat->List Nat
 |0,_=>[]
 |k+1,n=>qk k (n/10)++[48+n % 10]
theorem vM: ∀k n,(qk k n).length=k
 |0,_=>rfl
 |k+1,n=>by rw[qk,aa,vM];rfl
def bP (dir:ByteArray) (n:Nat):ByteArray:=dir++⟨#[46]⟩++CE (qk 8 n)
theorem BM (dir:ByteArray) (n:Nat):(bP dir n).size=dir.size+9:=by
 unfold bP;rw[rj,rj,VB,vM];rfl
variable {X : XS} {w : World} {b : Nat}
section
variable {P : Program} {N : Value -> Prop} {t : TypeId}
theorem af9 {a:Nat} (hb:b≠0) (h:N (I ((a % b:Nat):Int))):aX P X w (binOp .rem t (I (a:Int)) (I (b:Int))) N:=by
 refine bB (λwa=>?_) h;simp[binOp,Op.intDiv,hb];exact(Int.ofNat_tmod a b).symm
theorem ao2 {a:Nat} (hb:b≠0) (ha:a<2^63) (h:N (I ((a/b:Nat):Int))):aX P X w (binOp .quo t (I (a:Int)) (I (b:Int))) N:=by
 refine bB (λwa=>?_) h;have h1:(a:Int).tdiv b=((a/b:Nat):Int):=(Int.ofNat_tdiv a b).symm;have h2:a/b<=a:=Nat.div_le_self a b;have h3:IntKind.i64.wrap ((a/b:Nat):Int)=((a/b:Nat):Int):=by
  generalize a/b=q at h2;simp[IntKind.wrap,IntKind.bits,IntKind.signed];omega
 have dW: ¬(b:Int)=0:=by omega
 simp only[binOp,Op.intDiv,dW,if_false,h1,h3];simp
end
theorem aqv (a:Int):Instr.fill (λi=>some (i*1,1)) ((Array.range (8*1)).map ((aA .u8 0).cells[· % (aA .u8 0).cells.size]!)) [(0,.int .u8 a),(1,.int .u8 a),(2,.int .u8 a),(3,.int .u8 a),(4,.int .u8 a),(5,.int .u8 a),(6,.int .u8 a),(7,.int .u8 a)]=some #[.int .u8 a,.int .u8 a,.int .u8 a,.int .u8 a,.int .u8 a,.int .u8 a,.int .u8 a,.int .u8 a]:=by kernel_rfl
abbrev U8 (x:Nat):Value:=.int .u8 x
variable {dir : ByteArray}
theorem yP {n:Nat} (hd:dir.size<=2^40) (hn:n<2^63):Ct pg 178 #[.string dir,I n] w X nX λv wa w'=>v= .string (bP dir n):=by
 intro w0 hk;refine abT.1 λ_=>?_;have hT:Ft w0 nX w0 (bN w0) nX:=Ft.init λ_ h=>h.elim;refine Xb (e:=5) (k:=1) (bytes:=1) (rows:=(gF 8 48).map U1) #[.int .u8 48,.int .u8 48,.int .u8 48,.int .u8 48,.int .u8 48,.int .u8 48,.int .u8 48,.int .u8 48] (.int .u8 0) hT.s.has kQ kQ dQ dQ (aqv 48) sQ rfl rfl λs w1 X1 ay ho=>?_;rcases ho.row with⟨_,he⟩|⟨g,cap,cs,rfl,gy,br,pV,iH,pz,vj⟩
 ·cases he
 have h8:cs.take 8=(gF 8 48).map U8:=vj;have hl8:8<=cs.length:=by have:((gF 8 48).map U1).length<=cap:=pV;simp at this;omega
 refine alT br kQ kQ ay.has λw2 X2 hc hF=>?_;have eh:Ft w0 nX w1 X1 (λk=>k=g):=(hT.since ay).more λk ah=>by subst ah;exact .inr ⟨br.1,gy⟩
 have cX:Ft w0 nX w2 X2 (λk=>k=g):=eh.ea hc (λk ah=>ah) λk ah=>.inl ah;refine gO (λn' a b w X=> ∃(k m:Nat) (tail:List Nat) (cs:List Value),a=I ((k:Int)-1)/\b=I (m:Int)/\n'=k/\k<=8/\m<2^63/\qk 8 n=qk k m++tail/\Jo w X g cs 5/\cs.take 8=(gF k 48++tail).map U8/\8<=cs.length/\Ft w0 nX w X (λk=>k=g)) 8 ⟨8,n,[],cs,rfl,rfl,rfl,Nat.le_refl _,hn,by simp,hF,by simpa using h8,hl8,cX⟩ ?_;clear h8 hl8 hF cX hc;rintro k a b w X ⟨_,m,tail,cs,rfl,rfl,rfl,hk8,hm,Z6,hF,NM,hl8,cX⟩;have cx:(qk k m).length+tail.length=8:=by have:=congrArg List.length Z6;rw[vM,aa] at this;exact this.symm
 rw[vM] at cx;cases k with
 |succ k=>
  have BB:cs[k]? =some (U8 48):=by
   have h1:(cs.take 8)[k]? =cs[k]? :=by rw[List.getElem?_take,if_pos zQ]
   rw[<-h1,NM,az,dM sQ];simp
  have Cf:=hF.cells.Xf BB;rw[Nat.zero_add] at Cf;have hz:((k+1:Nat):Int)-1=(k:Nat):=by omega
  have h49:IntKind.u8.wrap (((48:Nat):Int)+IntKind.u8.wrap ((m % 10:Nat):Int))=((48+m % 10:Nat):Int):=by rw[No,No];omega
  rw[hz];repeat' refine aL ?_;intros
  refine akI rfl oQ kQ kQ ?_;rw[Nat.mul_one];refine ae6 Cf (Mv.refl _ _) kQ rfl ?_;refine af9 (a:=m) (b:=10) zQ ?_;refine ae7 kQ kQ ?_;refine od ?_;rw[h49];refine akI rfl oQ kQ kQ ?_;rw[Nat.mul_one];refine ap0 hF kQ zQ rfl cX.s.has λw3 X3 c hF3=>?_;have dX:Ft w0 nX w3 X3 (λk=>k=g):=cX.ea c (λk ah=>ah) λk ah=>.inl ah;refine ao2 (a:=m) (b:=10) zQ hm ?_;repeat' refine ao ?_;intros
  refine fZ k zQ ⟨k,m/10,(48+m % 10)::tail,_,rfl,rfl,rfl,by omega,by omega,?_,hF3,?_,by rw[List.length_set];exact hl8,dX⟩
  ·rw[Z6,qk,ak];rfl
  ·rw[List.take_set,NM];have e:(gF (k+1) 48++tail)=gF k 48++48::tail:=by rw[List.replicate_succ',ak];rfl
   rw[e,az,az,List.set_append_right _ _ sQ,af,List.length_replicate,Nat.sub_self];rfl
 |zero=>
  have htl:tail=qk 8 n:=by rw[Z6];rfl
  have asQ:cs.take 8=(qk 8 n).map U8:=by rw[NM,<-htl];rfl
  have Cf:Cells w X g 0 ((qk 8 n).map λx:Nat=>aA .u8 x):=by
   have h1:=hF.cells.part 0 8;rw[List.drop_zero,asQ] at h1;exact h1
  have h2:ai (bN w0) w0 X w:=cX.DO;repeat' refine aL ?_;intros
  refine Z2 (by show dir.size+1<=_;omega) ?_;refine Td (e:=5) (by simp[vM]) Cf kQ kQ kQ cX.s.has λw4 X4 fV=>?_;replace h2:=h2.trans fV;refine Z2 (by rw[rj,VB,vM];show dir.size+1+8<=_;omega) ?_;exact bQ h2 λwa aK=>rfl
theorem ad9 {n:Nat} (h1:1<=dir.size) (h2:dir.size<=11) (h3:1<=n) (h4:n<=99999999):Ct pg 124 #[.string dir,I n] w X nX λv wa w'=>v= .tuple #[.string (bP dir n),I 0]:=by
 intro w0 hk;refine abS.1 λhs=>?_;repeat' first|refine aL ?_;intros|refine cP ?_ ?_<;>intros|(refine cA (yP zQ zQ) kQ hs.has ?_;rintro _ wa w X rfl hle gu ay;replace hs:=hs.trans ay)|(refine qr ?_;intro wa hk;rfl)
 rename_i he;subst he;exact absurd h1 dQ
structure dN where
 first:Nat
 aY:List (List Nat)
 size:Nat
structure LM where
 dir:ByteArray
 room:Nat
 bC:List dN
 safe:Int
def LM.last (L:LM):dN:=L.bC.getLast?.getD ⟨0,[],0⟩
def LM.next (L:LM):Nat:=L.last.first+L.last.aY.length
def LM.fe (L:LM):ByteArray:=bP L.dir L.last.first
structure LD where
 L:LM
 m:DM
def LD.sync (x:LD):LD×Nat:=let r:=x.m.sync x.L.fe;(⟨if r.2=0 then { x.L with safe:=(x.L.next:Int)-1 } else x.L,r.1⟩,r.2)
def LD.iJ (x:LD) (n:Nat):LD×Nat:=let r:=x.m.create (bP x.L.dir n);(⟨if r.2=0 then { x.L with bC:=x.L.bC++[⟨n,[],0⟩] } else x.L,r.1⟩,r.2)
def LD.room (x:LD):LD×Nat:=if x.L.room<=x.L.last.size then(let r:=x.sync;if r.2≠0 then r else r.1.iJ x.L.next)else(x,0)
def LM.add (L:LM) (p:List Nat):LM:= { L with bC:=L.bC.dropLast++[⟨L.last.first,L.last.aY++[p],L.last.size+(di p).length⟩] }
def LD.lay (x:LD) (p:List Nat):LD×Nat:=let r:=x.m.append x.L.fe (di p);(⟨if r.2=0 then x.L.add p else x.L,r.1⟩,r.2)
def LD.append (x:LD) (p:List Nat):LD×Nat×Nat:=
 if 262144<p.length then(x,0,2)else if 99999999<x.L.next then(x,0,1)else
  let r:=x.room
  if r.2≠0 then(r.1,0,r.2)else
   let q:=r.1.lay p
   if q.2≠0 then(q.1,0,q.2)else(q.1,x.L.next,0)
structure mQ where
 b:Nat
 first:Nat
 rv:Value
 rs:List (Value×List Nat)
 size:Nat
def mQ.er (s:mQ):dN:=⟨s.first,s.rs.map (·.2),s.size⟩
def aa5 (x y:mQ):Prop:=x.b≠y.b/\ ∀g,x.rv.ownBlock=some g->y.rv.ownBlock≠some g
def xt (l:List Nat):Prop:= ∀x∈l,x<256
structure zV (w:World) (F:XS) (lb db:Nat) (sv:Value) (bl:List mQ) (L:LM):Prop where
 bC:L.bC=bl.map mQ.er
 box:aI w F lb [ptr db 0,.string L.dir,I L.room,sv,I L.safe] 231
 so:Ow w F 239 1 sv (bl.map λs=>[ptr s.b 0])
 row: ∀s∈bl,aI w F s.b [I s.first,s.rv,I s.size] 238
 A8: ∀s∈bl,Ow w F 151 1 s.rv (s.rs.map λr=>[r.1])
 Ik: ∀s∈bl,∀r∈s.rs,Ow w F 5 1 r.1 (r.2.map U1)
 ap:bl.Pairwise aa5
variable {L : LM} {sv : Value} {db lb : Nat} {F F' : XS} {w' : World}
def zV.mv {bl:List mQ} (h:zV w F lb db sv bl L) (v:Mv F w F' w'):zV w' F' lb db sv bl L:=
 ⟨h.bC,h.box.mv v,h.so.mv v,λs hs=>(h.row s hs).mv v,λs hs=>(h.A8 s hs).mv v,λs hs r hr=>(h.Ik s hs r hr).mv v,h.ap⟩
def Lg (w:World) (F:XS) (lb db:Nat) (L:LM) (m:DM):Prop:=
 ∃FL FD sv bl,Dj FL FD/\(∀k,FL k->F k)/\(∀k,FD k->F k)/\zV w FL lb db sv bl L/\Dk w FD db m
variable {m : DM}
theorem Lg.mv (h:Lg w F lb db L m) (v:Mv F w F w'):Lg w' F lb db L m:=by
 obtain⟨FL,FD,sv,bl,hd,h1,h2,h3,h4⟩:=h;exact⟨FL,FD,sv,bl,hd,h1,h2,h3.mv λk hk hl=>⟨hk,(v k (h1 k hk) hl).2⟩,h4.mv λk hk hl=>⟨hk,(v k (h2 k hk) hl).2⟩⟩
theorem Lg.mono (h:Lg w F lb db L m) (hs: ∀k,F k->F' k):Lg w F' lb db L m:=by
 obtain⟨FL,FD,sv,bl,hd,h1,h2,h3,h4⟩:=h;exact⟨FL,FD,sv,bl,hd,λk hk=>hs k (h1 k hk),λk hk=>hs k (h2 k hk),h3,h4⟩
structure pG (L:LM):Prop where
 ne:L.bC≠[]
 d1:1<=L.dir.size
 d2:L.dir.size<=11
 zj: ∀s∈L.bC,s.first+s.aY.length<=2^40/\s.size<=2^40
 room:L.room<=2^40
theorem LM.yd (h:L.bC≠[]):L.last∈L.bC:=by
 unfold LM.last;rw[mw h]
 grind
theorem LM.Ts (h:L.bC≠[]):L.bC=L.bC.dropLast++[L.last]:=by
 unfold LM.last;rw[mw h];exact(sj h).symm
theorem pG.next (h:pG L):L.next<=2^40:=(h.zj _ (LM.yd h.ne)).1
theorem pG.first (h:pG L):L.last.first<=2^40:=by have:=h.next;unfold LM.next at this;omega
theorem zV.last {bl:List mQ} (h:zV w F lb db sv bl L) (hL:pG L): ∃rz s,bl=rz++[s]/\s.er=L.last/\L.bC.dropLast=rz.map mQ.er:=by
 have bU:bl≠[]:=λe=>hL.ne (by rw[h.bC,e];rfl);refine⟨bl.dropLast,bl.getLast bU,(sj bU).symm,?_,?_⟩
 ·unfold LM.last;rw[h.bC,List.getLast?_map,mw bU];rfl
 ·rw[h.bC,List.map_dropLast]
variable {s : mQ} {rz : List mQ}
section
variable {bl : List mQ}
theorem yQ (h:zV w F lb db sv (rz++[s]) L) (hF:FX F X w):Ct pg 130 #[ptr lb 0] w X nX λv wa w'=>v=ptr s.b 0:=by
 intro w0 hk;replace h:=h.mv (hF.mv hk);have hX:=λk ah=>(hF.kp hk k ah).1;have hb:=h.box.mv (Mv.sub hX);have GN:=h.so.sl.mono hX;have hlen:=GN.gN;have xP:(rz++[s]).length=rz.length+1:=by simp
 have DW:(rz++[s])[rz.length]? =some s:=by simp
 refine Sg.1 λhs=>?_;repeat' first|refine ao ?_;intros|(refine qr ?_;intro wa hk;rfl)
theorem EC (h:zV w F lb db sv bl L) (hL:pG L) (hF:FX F X w):Ct pg 77 #[ptr lb 0] w X nX λv wa w'=>v=I L.next:=by
 intro w0 hk;obtain⟨rz,s,rfl,he,_⟩:=h.last hL;replace h:=h.mv (hF.mv hk);have hX:=λk ah=>(hF.kp hk k ah).1;have mf:s∈rz++[s]:=by simp
 have hb:=(h.row s mf).mv (Mv.sub hX);have hr:=(h.A8 s mf).sl.mono hX;have hn:=hL.next
 have nD:L.next=s.first+s.rs.length:=by unfold LM.next;rw[<-he];simp[mQ.er]
 have ot:FX F (bN w0) w0:=hF.kp hk;refine Sc.1 λhs=>?_;refine cA (yQ h ot) kQ hs.has ?_;rintro _ wa w1 X1 rfl hle gu ay;replace hs:=hs.trans ay;have lM:=hb.since hs;repeat' refine ao ?_;intros
 refine cA (yQ (h.mv (hs.gW hX)) λk ah=>⟨hs.sub k (hX k ah),hs.has k (hs.sub k (hX k ah))⟩) kQ hs.has ?_;rintro _ xQ w2 X2 rfl lD kh bA;replace hs:=hs.trans bA;have uY:=hb.since hs;have jI:=hr.since hs;clear lM;repeat' first|refine ao ?_;intros|(refine qr ?_;intro wa hk;(rw[nD];simp))
theorem OW (h:zV w F lb db sv bl L) {s:dN} {r:List dN} (hL:L.bC=s::r) (hF:FX F X w):Ct pg 76 #[ptr lb 0] w X nX λv wa w'=>v=I s.first:=by
 intro w0 hk;have LX:=h.bC;rw[hL] at LX;cases bl with
 |nil=>cases LX
 |cons s' rz=>
  simp only[List.map_cons,List.cons.injEq] at LX;replace h:=h.mv (hF.mv hk);have hX:=λk ah=>(hF.kp hk k ah).1;have hb:=h.box.mv (Mv.sub hX);have uY:=(h.row s' sQ).mv (Mv.sub hX);refine Qc.1 λhs=>?_;repeat' refine ao ?_;intros
  refine akH (i:=0) (h.so.sl.mono hX) rfl rfl kQ kQ λb o hc=>?_;repeat' first|refine ao ?_;intros|(refine qr ?_;intro wa hk;(rw[LX.1];rfl))
end
structure LW (w:World) (F:XS) (lb db:Nat) (L:LM) (m:DM) (FL FD:XS) (sv:Value) (bl:List mQ):Prop where
 dj:Dj FL FD
 hL: ∀k,FL k->F k
 hD: ∀k,FD k->F k
 l:zV w FL lb db sv bl L
 d:Dk w FD db m
def Lg.lw (h:Lg w F lb db L m): ∃FL FD sv bl,LW w F lb db L m FL FD sv bl:=let⟨FL,FD,sv,bl,a,b,c,d,e⟩:=h;⟨FL,FD,sv,bl,a,b,c,d,e⟩
variable {FD FL : XS}
def LW.lg {bl:List mQ} (h:LW w F lb db L m FL FD sv bl):Lg w F lb db L m:=⟨FL,FD,sv,bl,h.dj,h.hL,h.hD,h.l,h.d⟩
variable {wa : World} {OV X' : XS} {m' : DM}
section
variable {bl : List mQ}
def LW.mv (h:LW w F lb db L m FL FD sv bl) (v:Mv F w F w'):LW w' F lb db L m FL FD sv bl:=
 ⟨h.dj,h.hL,h.hD,h.l.mv λk hk hl=>⟨hk,(v k (h.hL k hk) hl).2⟩,h.d.mv λk hk hl=>⟨hk,(v k (h.hD k hk) hl).2⟩⟩
def LW.mono (h:LW w F lb db L m FL FD sv bl) (hs: ∀k,F k->F' k):LW w F' lb db L m FL FD sv bl:=⟨h.dj,λk hk=>hs k (h.hL k hk),λk hk=>hs k (h.hD k hk),h.l,h.d⟩
theorem LW.PI (h:LW w F lb db L m FL FD sv bl) (hF:FX F X w) (hle:w.heap.size<=wa.heap.size) (c:ee FD X w X' w') (DB: ∀k,OV k->FD k\/made wa w' k) (hd:Dk w' OV db m'):LW w' (λk=>F k\/made wa w' k) lb db L m' FL OV sv bl:=
 ⟨λk a b=>(DB k b).elim (h.dj k a) λhm=>by have:=(hF k (h.hL k a)).2;have:=hm.1;omega,λk hk=>.inl (h.hL k hk),λk hk=>(DB k hk).imp (h.hD k) id,
  h.l.mv (c.je λk hk=>⟨(hF k (h.hL k hk)).1,λhf=>h.dj k hk hf⟩),hd⟩
theorem zV.amc {z:Int} (h:zV w FL lb db sv bl L) (hX: ∀k,FL k->X k) (c:ee (· =lb) X w X' w') (hr:aI w' X' lb [ptr db 0,.string L.dir,I L.room,sv,I z] 231):zV w' FL lb db sv bl { L with safe:=z } :=by
 have mv: ∀{A:XS},(∀k,A k->FL k/\k≠lb)->Mv A w FL w':=λhA k hk _=>⟨(hA k hk).1,c.block k (hX k (hA k hk).1) (hA k hk).2⟩;refine⟨h.bC,⟨h.box.1,hr.2⟩,?_,λs hs=>?_,λs hs=>?_,λs hs r hr=>?_,h.ap⟩
 ·exact h.so.tight.mv (mv λk hk=>⟨(h.so.bo hk).1,λe=>h.so.eT h.box kQ (e▸hk)⟩)
 ·exact(h.row s hs).own.mv (mv λk hk=>by subst hk;exact⟨(h.row s hs).1,(h.row s hs).eT h.box kQ⟩)
 ·exact(h.A8 s hs).tight.mv (mv λk hk=>⟨((h.A8 s hs).bo hk).1,λe=>(h.A8 s hs).eT h.box kQ (e▸hk)⟩)
 ·exact(h.Ik s hs r hr).tight.mv (mv λk hk=>⟨((h.Ik s hs r hr).bo hk).1,λe=>(h.Ik s hs r hr).eT h.box kQ (e▸hk)⟩)
end
theorem I8 (h:Lg w F lb db L m) (hL:pG L) (hF:FX F X w):
  Ct pg 139 #[ptr lb 0] w X F λv wa w'=>v=I (LD.sync ⟨L,m⟩).2/\ ∃F',(∀k,F' k->F k\/made wa w' k)/\Lg w' F' lb db (LD.sync ⟨L,m⟩).1.L (LD.sync ⟨L,m⟩).1.m:=by
 intro w0 hk;obtain⟨FL,FD,sv,bl,h⟩:=(h.mv (hF.mv hk)).lw;have hT:=hF.ft hk;have ot:FX F (bN w0) w0:=hF.kp hk;obtain⟨rz,s,JX,he,_⟩:=h.l.last hL;have hFL:FX FL (bN w0) w0:=λk ah=>ot k (h.hL k ah);have hX:=λk ah=>(hFL k ah).1;have hb:=h.l.box.mv (Mv.sub hX);have mf:s∈bl:=by rw[JX];simp
 have xn:=(h.l.row s mf).mv (Mv.sub hX);have Fv:s.first=L.last.first:=by rw[<-he];rfl
 have hfb:=hL.first
 refine Sh.1 λhs=>?_;repeat' refine ao ?_;intros
 refine cA (yQ (JX▸h.l) hFL) kQ hs.has ?_;rintro _ wa w1 X1 rfl hle gu ay;replace hs:=hs.trans ay;have YK:=xn.since hs;repeat' refine ao ?_;intros
 rw[Fv];refine cA (yP (by have:=hL.d2;omega) zQ) kQ hs.has ?_;rintro _ xQ w2 X2 rfl lD kh bA;replace hs:=hs.trans bA;have cX:=hT.since hs;have h2:=h.mv (hs.gW hT.bo);refine cX.call (aca h2.d (cX.fx h2.hD)) kQ h2.hD λv zR w3 X3 hq qS mN dX uZ=>?_;obtain⟨rfl,OV,PH,hD⟩:=hq;have h3:=h2.PI (cX.fx λ_ h=>h) qS uZ PH hD;have eS:LD.sync ⟨L,m⟩=(⟨if(m.sync L.fe).2=0 then { L with safe:=(L.next:Int)-1 } else L,(m.sync L.fe).1⟩,(m.sync L.fe).2):=rfl;have eN:L.fe=bP L.dir L.last.first:=rfl
 rw[eS];dsimp only;rw[eN];generalize UP:m.sync (bP L.dir L.last.first)=ms at h3⊢;have nD:=hL.next
 repeat' first|refine ao ?_;intros|refine cP ?_ ?_<;>intros|with_reducible apply cJ
 ·rename_i hz;have hz:ms.2=0:=by have:(ms.2:Int)=0:=(by assumption);omega
  refine cA (EC h3.l hL (dX.fx h3.hL)) kQ dX.s.has ?_;rintro _ zS w4 X4 rfl tK oV fV;have fP:=dX.since fV;have h4:=h3.mv (fV.gW dX.bo);have hX4: ∀k,FL k->X4 k:=λk ah=>fP.bo k (h4.hL k ah);repeat' refine ao ?_;intros
  refine pW (o:=4) (h4.l.box.mv (Mv.sub hX4)) zQ kQ sQ rfl fP.s.has λw5 X5 c5 Dz=>?_;have iO:=fP.ea (F':=λk=>F k\/made zR w3 k) c5 (λk ah=>by subst ah;exact h4.hL _ h4.l.box.1) λk ah=>.inl ah;refine iO.fin λwa aK=>⟨rfl,_,iO.jz aK λ_ h=>h,?_⟩;rw[if_pos hz];refine Lg.mv ⟨FL,OV,sv,bl,h4.dj,h4.hL,h4.hD,(h4.l.amc hX4 c5 Dz),h4.d.mv (c5.je λk ah=>⟨fP.bo k (h4.hD k ah),λe=>h4.dj k (by rw[e];exact h4.l.box.1) ah⟩)⟩ (aK.je iO.bo)
 ·have hz: ¬ms.2=0:=by have: ¬(ms.2:Int)=0:=(by assumption);omega
  refine dX.fin λwa aK=>⟨rfl,_,dX.jz aK λ_ h=>h,?_⟩;rw[if_neg hz];exact(h3.mv (aK.je dX.bo)).lg
variable {G : XS} {p : List Nat}
section
variable {Ci : XS} {Fu : Value} {bl : List mQ}
theorem zV.acC (h:zV w FL lb db sv bl L) (hX:FX FL X w) (c:ee G X w X' w') (hG: ∀k,G k->k=lb\/sv.ownBlock=some k) (hFF: ∀k,FL k->Ci k)
  (hr:aI w' Ci lb [ptr db 0,.string L.dir,I L.room,Fu,I L.safe] 231) (ho:Ow w' Ci 239 1 Fu (rz.map λs=>[ptr s.b 0]))
  (hn: ∀s∈rz,s∈bl\/(aI w' Ci s.b [I s.first,s.rv,I s.size] 238/\Ow w' Ci 151 1 s.rv (s.rs.map λr=>[r.1])/\ ∀r∈s.rs,Ow w' Ci 5 1 r.1 (r.2.map U1)))
  (K7:rz.Pairwise aa5):zV w' Ci lb db Fu rz { L with bC:=rz.map mQ.er } :=by
 have mv: ∀{A:XS},(∀k,A k->FL k/\k≠lb/\sv.ownBlock≠some k)->Mv A w Ci w':=λhA k hk _=>by
  obtain⟨a1,a2,a3⟩:=hA k hk;exact⟨hFF k a1,c.block k (hX k a1).1 λhg=>(hG k hg).elim a2 a3⟩
 refine⟨rfl,hr,ho,λs hs=>?_,λs hs=>?_,λs hs r hr=>?_,K7⟩
 ·rcases hn s hs with hs|hs
  ·exact(h.row s hs).own.mv (mv λk hk=>by subst hk;exact⟨(h.row s hs).1,(h.row s hs).eT h.box kQ,h.so.eT (h.row s hs) kQ⟩)
  ·exact hs.1
 ·rcases hn s hs with hs|hs
  ·refine(h.A8 s hs).tight.mv (mv λk hk=>⟨((h.A8 s hs).bo hk).1,λe=>(h.A8 s hs).eT h.box kQ (e▸hk),λe=>?_⟩);obtain⟨c1,h1⟩:=(h.A8 s hs).tag hk;obtain⟨c2,h2⟩:=h.so.tag e;rw[h1] at h2;simp at h2
  ·exact hs.2.1
 ·rcases hn s hs with hs|hs
  ·refine(h.Ik s hs r hr).tight.mv (mv λk hk=>⟨((h.Ik s hs r hr).bo hk).1,λe=>(h.Ik s hs r hr).eT h.box kQ (e▸hk),λe=>?_⟩);obtain⟨c1,h1⟩:=(h.Ik s hs r hr).tag hk;obtain⟨c2,h2⟩:=h.so.tag e;rw[h1] at h2;simp at h2
  ·exact hs.2.2 r hr
abbrev mQ.more (s:mQ) (Cu pv:Value) (p:List Nat) (z:Nat):mQ:=⟨s.b,s.first,Cu,s.rs++[(pv,p)],z⟩
theorem zV.amd {Cu pv:Value} {z:Nat} (h:zV w FL lb db sv (bl++[s]) L) (hX:FX FL X w) (c:ee G X w X' w') (hG: ∀k,G k->k=s.b\/s.rv.ownBlock=some k) (hFF: ∀k,FL k->Ci k)
  (hr:aI w' Ci s.b [I s.first,Cu,I z] 238) (ho:Ow w' Ci 151 1 Cu ((s.rs++[(pv,p)]).map λr=>[r.1])) (hp:Ow w' Ci 5 1 pv (p.map U1))
  (dg:Cu.ownBlock=s.rv.ownBlock\/ ∃g,Cu.ownBlock=some g/\w.heap.size<=g):
  zV w' Ci lb db sv (bl++[s.more Cu pv p z]) { L with bC:=(bl++[s.more Cu pv p z]).map mQ.er } :=by
 have ml:s∈bl++[s]:=by simp
 have mv: ∀{A:XS},(∀k,A k->FL k/\k≠s.b/\s.rv.ownBlock≠some k)->Mv A w Ci w':=λhA k hk _=>by
  obtain⟨a1,a2,a3⟩:=hA k hk;exact⟨hFF k a1,c.block k (hX k a1).1 λhg=>(hG k hg).elim a2 a3⟩
 have rs:=h.row s ml;have os:=h.A8 s ml;have hold: ∀x∈bl,x∈bl++[s]:=λx hx=>List.mem_append_left _ hx;have ZU:=List.pairwise_append.1 h.ap;have OT: ∀x∈bl,aa5 x s:=λx hx=>ZU.2.2 x hx s sQ;have ao3: ∀x∈bl++[s],∀r∈x.rs,Ow w' Ci 5 1 r.1 (r.2.map U1):=λx hx r hr=>by
  refine(h.Ik x hx r hr).tight.mv (mv λk hk=>⟨((h.Ik x hx r hr).bo hk).1,λe=>(h.Ik x hx r hr).eT rs kQ (e▸hk),λe=>?_⟩);obtain⟨c1,h1⟩:=(h.Ik x hx r hr).tag hk;obtain⟨c2,h2⟩:=os.tag e;rw[h1] at h2;simp at h2
 refine⟨rfl,?_,?_,λx hx=>?_,λx hx=>?_,λx hx r hr=>?_,?_⟩
 ·exact h.box.own.mv (mv λk hk=>by subst hk;exact⟨h.box.1,(rs.eT h.box kQ).symm,os.eT h.box kQ⟩)
 ·have:(bl++[s.more Cu pv p z]).map (λs=>[ptr s.b 0])=(bl++[s]).map (λs=>[ptr s.b 0]):=by simp
  rw[this];refine h.so.tight.mv (mv λk hk=>⟨(h.so.bo hk).1,λe=>h.so.eT rs kQ (e▸hk),λe=>?_⟩);obtain⟨c1,h1⟩:=h.so.tag hk;obtain⟨c2,h2⟩:=os.tag e;rw[h1] at h2;simp at h2
 ·rcases List.mem_append.1 hx with hx|hx
  ·have ha:=OT x hx;have rx:=h.row x (hold x hx);exact rx.own.mv (mv λk hk=>by subst hk;exact⟨rx.1,ha.1,os.eT rx kQ⟩)
  ·simp only[av] at hx;subst hx;exact hr
 ·rcases List.mem_append.1 hx with hx|hx
  ·have ha:=OT x hx;have ox:=h.A8 x (hold x hx);exact ox.tight.mv (mv λk hk=>⟨(ox.bo hk).1,λe=>ox.eT rs kQ (e▸hk),λe=>ha.2 k hk e⟩)
  ·simp only[av] at hx;subst hx;exact ho
 ·rcases List.mem_append.1 hx with hx|hx
  ·exact ao3 x (hold x hx) r hr
  ·simp only[av] at hx;subst hx;rcases List.mem_append.1 hr with hr|hr
   ·exact ao3 s ml r hr
   ·simp only[av] at hr;subst hr;exact hp
 ·refine List.pairwise_append.2 ⟨ZU.1,vG _ _,λx hx y hy=>?_⟩;simp only[av] at hy;subst hy;have ha:=OT x hx;refine⟨ha.1,λg hg rJ=>?_⟩;rcases dg with e|⟨g',e,dA⟩
  ·exact ha.2 g hg (e▸rJ)
  ·have:=(hX g ((h.A8 x (hold x hx)).bo hg).1).2;have e2:Cu.ownBlock=some g:=rJ;rw[e] at e2;have:g'=g:=bV e2;omega
end
theorem Rt {n:Nat} (h:Lg w F lb db L m) (sG:L.dir.size<=11) (hn:n<=2^40) (mX:L.bC.length<=2^30) (hF:FX F X w):
  Ct pg 128 #[ptr lb 0,I n] w X F λv wa w'=>v=I (LD.iJ ⟨L,m⟩ n).2/\ ∃F',(∀k,F' k->F k\/made wa w' k)/\Lg w' F' lb db (LD.iJ ⟨L,m⟩ n).1.L (LD.iJ ⟨L,m⟩ n).1.m:=by
 intro w0 hk;obtain⟨FL,FD,sv,bl,h⟩:=(h.mv (hF.mv hk)).lw;have hT:=hF.ft hk;have ot:FX F (bN w0) w0:=hF.kp hk;have hX:=λk ah=>(ot k (h.hL k ah)).1;have hb:=h.l.box.mv (Mv.sub hX);refine Sf.1 λhs=>?_;repeat' refine ao ?_;intros
 refine cA (yP zQ zQ) kQ hs.has ?_;rintro _ xQ w2 X2 rfl lD kh bA;replace hs:=hs.trans bA;have cX:=hT.since hs;have h2:=h.mv (hs.gW hT.bo);refine cX.call (WI h2.d (cX.fx h2.hD)) kQ h2.hD λv zR w3 X3 hq qS mN dX uZ=>?_;obtain⟨rfl,OV,PH,hD⟩:=hq;have h3:=h2.PI (cX.fx λ_ h=>h) qS uZ PH hD;have eS:LD.iJ ⟨L,m⟩ n=(⟨if(m.create (bP L.dir n)).2=0 then { L with bC:=L.bC++[⟨n,[],0⟩] } else L,(m.create (bP L.dir n)).1⟩,(m.create (bP L.dir n)).2):=rfl;rw[eS];dsimp only;generalize UP:m.create (bP L.dir n)=ms at h3⊢;have hX3: ∀k,FL k->X3 k:=λk ah=>dX.bo k (h3.hL k ah);have rM:=h3.l.box.mv (Mv.sub hX3);have ad4:=h3.l.so.mono hX3;have JX:bl.length=L.bC.length:=by rw[h3.l.bC,af]
 clear hs;repeat' first|refine ao ?_;intros|refine cP ?_ ?_<;>intros|with_reducible apply cJ
 ·have hz:ms.2=0:=by have:(ms.2:Int)=0:=(by assumption);omega
  refine BL dX.s.has λbx w4 X4 fY fV br=>?_;have PE:=ad4.mv fV.mv;refine YI (bytes:=8) (row:=[ptr bx 0]) PE fV.has kQ rfl rfl rfl oQ oQ λFu w5 X5 c5 uC wN=>?_;have zc:=rM.since fV;have bU: ∀q,cU sv q->q≠lb:=λq hq e=>PE.eT zc kQ (by rw[<-e];exact hq);have Cd:aI w5 X5 lb [ptr db 0,.string L.dir,I L.room,sv,I L.safe] 231:=⟨c5.sub _ zc.1,by rw[c5.block _ zc.1 λhq=>bU _ hq rfl];exact zc.2⟩;repeat' refine ao ?_;intros
  refine pW (o:=3) Cd zQ kQ sQ uC.one c5.has λw6 X6 c6 BJ=>?_;have PF: ∀q,cU sv q->FL q:=λq hq=>(h3.l.so.bo hq).1;have cc:ee (λk=>k=lb\/sv.ownBlock=some k) X3 w3 X6 w6:=((ee.nQ fV _).trans (c5.mono λk _ ah=>.inr ah)).trans (c6.mono λk _ ah=>.inl ah);have kj:Ft w0 F w6 X6 (λk=>(F k\/made zR w3 k)\/(X6 k/\w3.heap.size<=k)):=dX.ea cc (λk ah=>by
   rcases ah with rfl|ah
   ·exact h3.hL _ h3.l.box.1
   ·exact h3.hL _ (PF _ ah)) λk ah=>ah
  have LU: ∀g,Fu.ownBlock=some g->FL g\/(X6 g/\w3.heap.size<=g):=λg hg=>by
   rcases wN with e|⟨g',e,dA⟩
   ·exact .inl (PF _ (e.symm.trans hg))
   ·rw[hg] at e;have:g=g':=bV e;subst this;exact .inr ⟨c6.sub _ (uC.bo hg).1,ad fV.kp.size dA⟩
  have ais:Fu.ownBlock≠some lb:=uC.eT Cd kQ;have ad5:bx≠lb:=br.eT zc kQ;have ad6: ¬cU sv bx:=λhq=>PE.eT br kQ hq;have hL6:=h3.l.acC (Ci:=λk=>FL k\/(X6 k/\w3.heap.size<=k)) (Fu:=Fu) (rz:=bl++[⟨bx,n,.slice none 0 0,[],0⟩]) (dX.fx h3.hL) cc (λk ah=>ah) (λk ah=>.inl ah) ⟨.inl h3.l.box.1,BJ.2⟩ ?_ ?_ ?_
  ·refine kj.fin λwa aK=>⟨rfl,_,kj.jz aK λ_ h=>h,?_⟩;rw[if_pos hz];have e:({ L with bC:=(bl++[(⟨bx,n,.slice none 0 0,[],0⟩:mQ)]).map mQ.er } :LM)= { L with bC:=L.bC++[⟨n,[],0⟩] } :=by
    rw[az,<-h3.l.bC];rfl
   rw[<-e];refine Lg.mv ⟨_,OV,Fu,_,?_,?_,?_,hL6,h3.d.mv (cc.je λk ah=>⟨dX.bo k (h3.hD k ah),λhg=>?_⟩)⟩ (aK.je kj.bo)
   ·intro k ha dW;rcases ha with ha|ha
    ·exact h3.dj k ha dW
    ·have:=(dX.fx h3.hD k dW).2;omega
   ·exact λk ah=>ah.imp (h3.hL k) id
   ·exact λk ah=>.inl (h3.hD k ah)
   ·rcases hg with rfl|hg
    ·exact h3.dj _ h3.l.box.1 ah
    ·exact h3.dj _ (PF _ hg) ah
  ·rw[az];refine uC.tight.mv λk ah hl=>⟨LU k ah,c6.block k (uC.bo ah).1 λe=>ais (by rw[<-(show k=lb from e)];exact ah)⟩
  ·intro s tn;rcases List.mem_append.1 tn with tn|tn
   ·exact .inl tn
   ·simp only[av] at tn;subst tn;have hb6:w6.heap[bx]? =w4.heap[bx]? :=by
     rw[c6.block bx (c5.sub _ br.1) ad5,c5.block bx br.1 ad6]
    exact .inr ⟨⟨.inr ⟨c6.sub _ (c5.sub _ br.1),fY⟩,by rw[hb6];exact br.2⟩,Ow.nil _ _ _ _,λr hr=>by cases hr⟩
  ·refine List.pairwise_append.2 ⟨h3.l.ap,vG _ _,λx hx y hy=>?_⟩;simp only[av] at hy;subst hy;refine⟨λe=>?_,λg hg rJ=>by cases rJ⟩;have:=(dX.fx h3.hL _ (h3.l.row x hx).1).2;have e':x.b=bx:=e;omega
 ·have hz: ¬ms.2=0:=by have: ¬(ms.2:Int)=0:=(by assumption);omega
  refine dX.fin λwa aK=>⟨rfl,_,dX.jz aK λ_ h=>h,?_⟩;rw[if_neg hz];exact(h3.mv (aK.je dX.bo)).lg
theorem pG.safe (h:pG L) (z:Int):pG { L with safe:=z } :=⟨h.ne,h.d1,h.d2,h.zj,h.room⟩
theorem pG.sync (h:pG L):pG (LD.sync ⟨L,m⟩).1.L:=by
 unfold LD.sync;dsimp only;split
 ·exact h.safe _
 ·exact h
theorem pG.iJ {n:Nat} (h:pG L) (hn:n<=2^40):pG (LD.iJ ⟨L,m⟩ n).1.L:=by
 unfold LD.iJ;dsimp only;split
 ·refine⟨by simp,h.d1,h.d2,λs hs=>?_,h.room⟩;rcases List.mem_append.1 hs with hs|hs
  ·exact h.zj s hs
  ·simp only[av] at hs;subst hs;exact⟨by simpa using hn,by simp⟩
 ·exact h
theorem LD.Ve (x:LD):x.sync.1.L.bC=x.L.bC:=by unfold LD.sync;dsimp only;split<;>rfl
theorem LD.aj8 (x:LD):x.sync.1.L.dir=x.L.dir:=by unfold LD.sync;dsimp only;split<;>rfl
variable {vp : Value}
theorem Y1 {S:XS} (h:Lg w F lb db L m) (hL:pG L) (mX:L.bC.length<=2^30) (hF:FX F X w) (hp:Sl w S 1 vp (p.map U1)) (hS: ∀k,S k->X k/\ ¬F k):
  Ct pg 138 #[ptr lb 0,vp] w X F λv wa w'=>v= .tuple #[I (LD.append ⟨L,m⟩ p).2.1,I (LD.append ⟨L,m⟩ p).2.2]/\
   ∃F',(∀k,F' k->F k\/made wa w' k)/\Lg w' F' lb db (LD.append ⟨L,m⟩ p).1.L (LD.append ⟨L,m⟩ p).1.m:=by
 intro w0 hk;obtain⟨FL,FD,sv,bl,h⟩:=(h.mv (hF.mv hk)).lw;have hT:=hF.ft hk;have hp0:Sl w0 (out F w0) 1 vp (p.map U1):=hp.mv λk ah hl=>⟨⟨Nat.lt_of_lt_of_le hl hk.size,(hS k ah).2⟩,hk.block k (hS k ah).1⟩;have wu:=hp0.gN;have nD:=hL.next
 generalize hr:LD.append ⟨L,m⟩ p=r;unfold LD.append at hr;dsimp only at hr;refine Oc.1 λ_=>?_;refine cA (EC h.l hL (hT.fx h.hL)) kQ hT.s.has ?_;rintro _ wa w1 X1 rfl hle gu ay;have eh:=hT.since ay;have h1:=h.mv (ay.gW hT.bo);have hpA: ∀{w X F'},Ft w0 F w X F'->Sl w X 1 vp (p.map U1):=λhT=>hp0.mv hT.s.mv;have hp1:=hpA eh;have stay:r.1=⟨L,m⟩-> ∀wa,Kp X1 w1 wa-> ∃F',(∀k,F' k->F k\/made w0 wa k)/\Lg wa F' lb db r.1.L r.1.m:=λe wa aK=>⟨F,eh.jz aK λ_ h=>h,by rw[e];exact(h1.mv (aK.je eh.bo)).lg⟩;repeat' first|refine ao ?_;intros|refine cP ?_ ?_<;>intros
 ·rw[if_pos zQ] at hr;subst hr;exact eh.fin λwa aK=>⟨rfl,stay rfl wa aK⟩
 ·rw[if_neg zQ,if_pos zQ] at hr;subst hr;exact eh.fin λwa aK=>⟨rfl,stay rfl wa aK⟩
 ·rw[if_neg zQ,if_neg zQ] at hr;clear stay;refine gZ (λk=> ∀(w:World) (X F1 FL FD:XS) (sv:Value) (bl:List mQ) (x:LD),LD.room ⟨L,m⟩=(x,0)->pG x.L->x.L.bC.length<=2^30+1->Ft w0 F w X F1->LW w F1 lb db x.L x.m FL FD sv bl->k w X) ?_ ?_
  ·intro w X F1 FL FD sv bl x Kl hxL Kw cX h2;rw[Kl] at hr;dsimp only at hr;rw[if_neg sQ] at hr;obtain⟨rz,s,rfl,he,Fp⟩:=h2.l.last hxL;refine cA (yQ h2.l (cX.fx h2.hL)) kQ cX.s.has ?_;rintro _ zR w3 X3 rfl qS mN dm;have dX:=cX.since dm;have h3:=h2.mv (dm.gW cX.bo);refine cA (WR (hpA dX)) kQ dX.s.has ?_;rintro vq zS w4 X4 hq tK oV fV;rw[if_neg zQ] at hq;obtain⟨vb,rfl,ze⟩:=hq;have fP:=dX.since fV;have h4:=h3.mv (fV.gW dX.bo);have hX4: ∀k,FL k->X4 k:=λk ah=>fP.bo k (h4.hL k ah);have zc:=h4.l.box.mv (Mv.sub hX4);have mf:s∈rz++[s]:=by simp
   have auk:=(h4.l.row s mf).mv (Mv.sub hX4);have Fv:s.first=x.L.last.first:=by rw[<-he];rfl
   have gf:s.size=x.L.last.size:=by rw[<-he];rfl
   have hrs:x.L.last.aY=s.rs.map (·.2):=by rw[<-he];rfl
   have hfb:=hxL.first
   have nD:=hxL.next
   have YJ:=hxL.zj _ (LM.yd hxL.ne);have rq:s.rs.length=x.L.last.aY.length:=by rw[hrs,af]
   have iT:=qU p;have ovb:=ze.one;repeat' refine ao ?_;intros
   rw[Fv];refine cA (yP (by have:=hxL.d2;omega) zQ) kQ fP.s.has ?_;rintro _ OP w5 X5 rfl IZ Fj tq;have iO:=fP.since tq;have h5:=h4.mv (tq.gW fP.bo);have hz4:=fV.kp.size;have asR:Sl w5 (made zS w4) 1 vb ((di p).map U1):=ze.sl.mv λk ah hl=>⟨ah,tq.kp.block k (oV k ah)⟩;refine iO.call (WH h5.d (iO.fx h5.hD) asR (λk ah=>⟨tq.sub k (oV k ah),λhf=>?_⟩) zQ) kQ h5.hD λv wa6 w6 X6 hq YN LU kj hc6=>?_
   ·have:=(dX.fx h3.hD k hf).2;have:=ah.1;omega
   obtain⟨rfl,OV,PH,hD⟩:=hq;have h6:=h5.PI (iO.fx λ_ h=>h) YN hc6 PH hD;have eL:x.lay p=(⟨if(x.m.append x.L.fe (di p)).2=0 then x.L.add p else x.L,(x.m.append x.L.fe (di p)).1⟩,(x.m.append x.L.fe (di p)).2):=rfl;rw[eL] at hr;dsimp only at hr;have eN:x.L.fe=bP x.L.dir x.L.last.first:=rfl
   rw[eN] at hr;generalize UP:x.m.append (bP x.L.dir x.L.last.first) (di p)=ms at hr h6⊢;have hX6: ∀k,FL k->X6 k:=λk ah=>kj.bo k (h6.hL k ah);have asS:=(h6.l.row s mf).mv (Mv.sub hX6);repeat' first|refine ao ?_;intros|refine cP ?_ ?_<;>intros
   ·have hz: ¬ms.2=0:=by have: ¬(ms.2:Int)=0:=(by assumption);omega
    rw[if_pos hz,if_neg hz] at hr;subst hr;exact kj.fin λwa aK=>⟨rfl,_,kj.jz aK λ_ h=>h,(h6.mv (aK.je kj.bo)).lg⟩
   ·have hz:ms.2=0:=by have:(ms.2:Int)=0:=(by assumption);omega
    rw[if_neg (by simpa using hz),if_pos hz] at hr;subst hr;refine ap3 kj.s.has kQ (hpA kj) (by intro r hr u hu;obtain⟨x,_,rfl⟩:=List.mem_map.1 hr;simp only[U1,av] at hu;subst hu;rfl) oQ oQ λpv w7 X7 pc xf=>?_;have aj9:=((h6.l.A8 s mf).mono hX6).mv pc.mv;have aa6:=asS.since pc;refine YI (bytes:=24) (row:=[pv]) aj9 pc.has kQ (by have:=tg xf.one;rw[this]) rfl (by simp[xf.one]) oQ oQ λCu w8 X8 c8 BK YA=>?_;have asT: ∀q,cU s.rv q->q≠s.b:=λq hq e=>aj9.eT aa6 kQ (by rw[<-e];exact hq);have ao4:aI w8 X8 s.b [I s.first,s.rv,I s.size] 238:=⟨c8.sub _ aa6.1,by rw[c8.block _ aa6.1 λhq=>asT _ hq rfl];exact aa6.2⟩;repeat' refine ao ?_;intros
    refine pW (o:=1) ao4 zQ kQ sQ BK.one c8.has λw9 X9 c9 aka=>?_;replace aka:aI w9 X9 s.b [I s.first,Cu,I s.size] 238:=aka;repeat' refine ao ?_;intros
    refine pW (o:=2) aka zQ kQ sQ rfl c9.has λwC Cm RK afK=>?_;have tZ:(s.size:Int)+((di p).length:Int)=((s.size+(di p).length:Nat):Int):=by omega
    replace afK:aI wC Cm s.b [I s.first,Cu,I ((s.size+(di p).length:Nat):Int)] 238:=by rw[<-tZ];exact afK
    have cc:ee (λk=>k=s.b\/s.rv.ownBlock=some k) X6 w6 Cm wC:=(((ee.nQ pc _).trans (c8.mono λk _ ah=>.inr ah)).trans (c9.mono λk _ ah=>.inl ah)).trans (RK.mono λk _ ah=>.inl ah);have akb: ∀q,cU s.rv q->FL q:=λq hq=>((h6.l.A8 s mf).bo hq).1;have Hw:=kj.ea (F':=λk=>(F1 k\/made wa6 w6 k)\/(Cm k/\w6.heap.size<=k)) cc (λk ah=>by
     rcases ah with rfl|ah
     ·exact h6.hL _ (h6.l.row s mf).1
     ·exact h6.hL _ (akb _ ah)) λk ah=>ah
    have W8: ∀g,Cu.ownBlock=some g->FL g\/(Cm g/\w6.heap.size<=g):=λg hg=>by
     rcases YA with e|⟨g',e,dA⟩
     ·exact .inl (akb _ (e.symm.trans hg))
     ·rw[hg] at e;have:g=g':=bV e;subst this;exact .inr ⟨RK.sub _ (c9.sub _ (BK.bo hg).1),ad pc.kp.size dA⟩
    have ao5: ∀q,cU Cu q->q≠s.b:=λq hq e=>BK.eT ao4 kQ (by rw[<-e];exact hq);have Il: ∀q,cU pv q->X7 q/\w6.heap.size<=q/\wC.heap[q]? =w7.heap[q]? :=λq hq=>by
     have h1:=(xf.bo hq).1;have YD:q≠s.b:=λe=>xf.eT aa6 kQ (by rw[<-e];exact hq);have hnr: ¬cU s.rv q:=λzN=>by
      obtain⟨c1,e1⟩:=xf.tag hq;obtain⟨c2,e2⟩:=aj9.tag zN;rw[e1] at e2;simp at e2
     exact⟨h1.1,h1.2,by rw[RK.block q (c9.sub _ (c8.sub _ h1.1)) YD,c9.block q (c8.sub _ h1.1) YD,c8.block q h1.1 hnr]⟩
    have asU:=h6.l.amd (Ci:=λk=>FL k\/(Cm k/\w6.heap.size<=k)) (Cu:=Cu) (pv:=pv) (p:=p) (z:=s.size+(di p).length) (kj.fx h6.hL) cc (λk ah=>ah) (λk ah=>.inl ah) ⟨.inl (h6.l.row s mf).1,afK.2⟩ ?_ ?_ ?_
    ·refine Hw.fin λwa aK=>⟨rfl,_,Hw.jz aK λ_ h=>h,?_⟩;have e:({ x.L with bC:=(rz++[s.more Cu pv p (s.size+(di p).length)]).map mQ.er } :LM)=x.L.add p:=by
      unfold LM.add;rw[Fp,az,<-he];simp[mQ.er]
     rw[<-e];refine Lg.mv ⟨_,OV,sv,_,?_,?_,?_,asU,h6.d.mv (cc.je λk ah=>⟨kj.bo k (h6.hD k ah),λhg=>?_⟩)⟩ (aK.je Hw.bo)
     ·intro k ha dW;rcases ha with ha|ha
      ·exact h6.dj k ha dW
      ·have:=(kj.fx h6.hD k dW).2;omega
     ·exact λk ah=>ah.imp (h6.hL k) id
     ·exact λk ah=>.inl (h6.hD k ah)
     ·rcases hg with rfl|hg
      ·exact h6.dj _ (h6.l.row s mf).1 ah
      ·exact h6.dj _ (akb _ hg) ah
    ·rw[az];exact BK.tight.mv λk ah hl=>⟨W8 k ah,by rw[RK.block k (c9.sub _ (BK.bo ah).1) (ao5 k ah),c9.block k (BK.bo ah).1 (ao5 k ah)]⟩
    ·exact xf.tight.mv λk ah hl=>⟨.inr ⟨RK.sub _ (c9.sub _ (c8.sub _ (Il k ah).1)),(Il k ah).2.1⟩,(Il k ah).2.2⟩
    ·rcases YA with e|⟨g,e,dA⟩
     ·exact .inl e
     ·exact .inr ⟨g,e,ad pc.kp.size dA⟩
  ·intro K hK;obtain⟨rz,s,rfl,he,Fp⟩:=h1.l.last hL;have Li: ∀k,FL k->X1 k:=λk ah=>eh.bo k (h1.hL k ah);have lM:=h1.l.box.mv (Mv.sub Li);have mf:s∈rz++[s]:=by simp
   have YK:=(h1.l.row s mf).mv (Mv.sub Li);have gf:s.size=L.last.size:=by rw[<-he];rfl
   have eR:LD.room ⟨L,m⟩=if L.room<=L.last.size then(if(LD.sync ⟨L,m⟩).2≠0 then LD.sync ⟨L,m⟩else(LD.sync ⟨L,m⟩).1.iJ L.next)else(⟨L,m⟩,0):=rfl
   repeat' refine ao ?_;intros
   refine cA (yQ h1.l (eh.fx h1.hL)) kQ eh.s.has ?_;rintro _ xQ w2 X2 rfl lD kh bA;have cX:=eh.since bA;have h2:=h1.mv (bA.gW eh.bo);have PG:=YK.since bA;repeat' first|refine ao ?_;intros|refine cP ?_ ?_<;>intros
   ·have dA:L.room<=L.last.size:=by omega
    rw[if_pos dA] at eR;refine cX.call (I8 h2.lg hL (cX.fx λ_ h=>h)) kQ (λ_ h=>h) λv zR w3 X3 hq qS mN dX uZ=>?_;obtain⟨rfl,F3,hF3,h3⟩:=hq;have hL3:pG (LD.sync ⟨L,m⟩).1.L:=hL.sync;have afL:=LD.Ve ⟨L,m⟩;have ao6:=LD.aj8 ⟨L,m⟩;generalize hsy:LD.sync ⟨L,m⟩=y at eR h3 hL3 afL ao6⊢;have Fx:=dX.less hF3;repeat' first|refine ao ?_;intros|refine cP ?_ ?_<;>intros
    ·have hz:y.2≠0:=by have: ¬(y.2:Int)=0:=(by assumption);omega
     rw[if_pos hz] at eR;rw[eR,if_pos hz] at hr;subst hr;exact Fx.fin λwa aK=>⟨rfl,F3,Fx.jz aK λ_ h=>h,h3.mv (aK.je Fx.bo)⟩
    ·have hz: ¬y.2≠0:=by have:(y.2:Int)=0:=(by assumption);omega
     rw[if_neg hz] at eR;have hy:y.1=⟨y.1.L,y.1.m⟩:=rfl;refine Fx.call (Rt (n:=L.next) h3 (by rw[ao6];exact hL.d2) nD (by rw[afL];exact mX) (Fx.fx λ_ h=>h)) kQ (λ_ h=>h) λv zS w4 X4 hq tK oV fP Fw=>?_;obtain⟨rfl,F4,hF4,h4⟩:=hq;have XW:(LD.iJ ⟨y.1.L,y.1.m⟩ L.next).2=0->pG (LD.iJ ⟨y.1.L,y.1.m⟩ L.next).1.L:=λ_=>hL3.iJ nD;have QU:(LD.iJ ⟨y.1.L,y.1.m⟩ L.next).1.L.bC.length<=2^30+1:=by
      unfold LD.iJ;dsimp only;split
      ·simp only[aa,List.length_singleton,afL];show L.bC.length+1<=_;omega
      ·rw[afL];show L.bC.length<=_;omega
     rw[hy] at eR;generalize hro:LD.iJ ⟨y.1.L,y.1.m⟩ L.next=q at eR h4 XW QU⊢
     have AD:=fP.less hF4;repeat' first|refine ao ?_;intros|refine cP ?_ ?_<;>intros
     ·have hz:q.2≠0:=by have: ¬(q.2:Int)=0:=(by assumption);omega
      rw[eR,if_pos hz] at hr;subst hr;exact AD.fin λwa aK=>⟨rfl,F4,AD.jz aK λ_ h=>h,h4.mv (aK.je AD.bo)⟩
     ·have hz:q.2=0:=by have:(q.2:Int)=0:=(by assumption);omega
      obtain⟨FL4,FD4,sv4,bl4,h4⟩:=h4.lw;exact hK _ _ _ _ _ _ _ q.1 (by rw[eR,<-hz]) (XW hz) QU AD h4
   ·have dA: ¬L.room<=L.last.size:=by omega
    rw[if_neg dA] at eR;exact hK _ _ _ _ _ _ _ ⟨L,m⟩ eR hL (by show L.bC.length<=_;omega) cX h2
def LD.iI (x:LD) (e:Nat) (bs:List Nat):LD×Nat×Nat:=
 if e≠0 then(x,0,e)else
  let r:=x.append bs
  if r.2.2≠0 then r else(r.1.sync.1,r.2.1,r.1.sync.2)
abbrev aR:Value:=.slice none 0 0
structure CoV where
 id:Int
 aN:Int
 ey:Int
 lb:Nat
 adK:Nat
 cb:Nat
 ab:Nat
 cm:Value
 bb:Nat
abbrev Hm (c:CoV) (Ek vm va:Value):List Value:=[I c.id,I c.aN,I c.ey,ptr c.lb 0,B false,ptr c.adK 0,Ek,.map (some c.ab),c.cm,.map (some c.bb),vm,va]
abbrev coL (c:CoV) (vm va:Value):List Value:=Hm c (ptr c.cb 0) vm va
abbrev nT:Nat:=108
structure AcV where
 aH:bu
 vp:Value
 st:bX
 lp:Int
 vs:Value
 pre:Bool
 vq:Value
 mg:bX
abbrev Ki (x:AcV) (vw:Value):List Value:=[I x.aH.dU,I x.aH.aN,I x.aH.sq,x.vp,I x.st.wall,I x.st.dx,I x.st.node,I x.lp,x.vs,B x.pre,vw,x.vq,I x.mg.wall,I x.mg.dx,I x.mg.node]
abbrev aT:Nat:=120
abbrev mT:Nat:=54
abbrev Vp:Nat:=64
def zP:World->XS->Value->Nat->Prop:=λ_ _ v b=>v=ptr b 0
def Fe:qG zP:=λ_ _ _ _ _ _ h _=>h
def fA (w:World) (K:XS) (rows:List (List Value)) (ms:List cD):Prop:=rows.length=ms.length/\ ∀(i:Nat) (l:List Value) (x:cD),rows[i]? =some l->ms[i]? =some x->cD.rd w K l x
variable {ms : List cD} {rows : List (List Value)} {K K' : XS}
def fA.mv (h:fA w K rows ms) (m:Mv K w K' w'):fA w' K' rows ms:=⟨h.1,λi l x h1 h2=>cD.mv (h.2 i l x h1 h2) m⟩
theorem fA.nil (w:World) (K:XS):fA w K [] []:=⟨rfl,λi l x h=>by simp at h⟩
variable {l : List Value}
theorem fA.add {x:cD} (h:fA w K rows ms) (h1:cD.rd w K l x):fA w K (rows++[l]) (ms++[x]):=by
 refine⟨by simp[h.1],λi l' x' hl hx=>?_⟩;rcases Nat.lt_trichotomy i rows.length with hi|hi|hi
 ·rw[dM hi] at hl;rw[dM (by rw[<-h.1];exact hi)] at hx;exact h.2 i l' x' hl hx
 ·subst hi;rw[cQ (Nat.le_refl _)] at hl;rw[cQ (by rw[h.1];omega)] at hx;rw[h.1] at hx
  grind
 ·rw[List.getElem?_eq_none oQ] at hl;cases hl
variable {a : Value}
theorem Lt {xs:List fc} (ha:Sl w X 7 a (xs.map fc.l)) (hb:xs.length<=2^40):
  Ct pg 88 #[a] w X nX λv wa w'=>Own w' (made wa w') wa.heap.size 175 7 v (xs.map fc.l):=by
  intro w0 hk;replace ha:=ha.mv hk.cd;refine yE.1 λhs=>?_;repeat' first|refine ao ?_;intros|refine cP ?_ ?_<;>intros|(refine Ro hs ?_;intro acc w X hs ho)|(refine qr ?_;intro wa hk;(first|(rename_i h1 h2;(first|(rw[h2])|skip);exact Own.nil _ _ _ _ _)|exact(ho.kp hk).tight))|((with_reducible apply qu);(case own=>assumption);(case hs=>assumption);(case h0=>exact λ_ h=>h);(case he=>kernel_rfl);(case src=>exact Sl.mv ha (ai.mv hs));(case h1=>simp[aJ.one]);(case hb=>simp;omega);(case hl=>simp;omega);intro acc w X ay ho hc dg;replace hs:=ay;rw[cB] at ho)
theorem FF {xs:List Int} (ha:Sl w X 1 a (xs.map I1)) (hb:xs.length<=2^40):
  Ct pg 48 #[a] w X nX λv wa w'=>Own w' (made wa w') wa.heap.size 3 1 v (xs.map I1):=by
  intro w0 hk;replace ha:=ha.mv hk.cd;refine D9.1 λhs=>?_;repeat' first|refine ao ?_;intros|refine cP ?_ ?_<;>intros|(refine Ro hs ?_;intro acc w X hs ho)|(refine qr ?_;intro wa hk;(first|(rename_i h1 h2;(first|(rw[h2])|skip);exact Own.nil _ _ _ _ _)|exact(ho.kp hk).tight))|((with_reducible apply qu);(case own=>assumption);(case hs=>assumption);(case h0=>exact λ_ h=>h);(case he=>kernel_rfl);(case src=>exact Sl.mv ha (ai.mv hs));(case h1=>simp[aJ.one]);(case hb=>simp;omega);(case hl=>simp;omega);intro acc w X ay ho hc dg;replace hs:=ay;rw[cB] at ho)
theorem abt {xs:List ju} (ha:Sl w X 5 a (xs.map ju.l)) (hb:xs.length<=2^40):
  Ct pg 60 #[a] w X nX λv wa w'=>Own w' (made wa w') wa.heap.size 99 5 v (xs.map ju.l):=by
  intro w0 hk;replace ha:=ha.mv hk.cd;refine AO.1 λhs=>?_;repeat' first|refine ao ?_;intros|refine cP ?_ ?_<;>intros|(refine Ro hs ?_;intro acc w X hs ho)|(refine qr ?_;intro wa hk;(first|(rename_i h1 h2;(first|(rw[h2])|skip);exact Own.nil _ _ _ _ _)|exact(ho.kp hk).tight))|((with_reducible apply qu);(case own=>assumption);(case hs=>assumption);(case h0=>exact λ_ h=>h);(case he=>kernel_rfl);(case src=>exact Sl.mv ha (ai.mv hs));(case h1=>simp[aJ.one]);(case hb=>simp;omega);(case hl=>simp;omega);intro acc w X ay ho hc dg;replace hs:=ay;rw[cB] at ho)
abbrev snT:Nat:=175
abbrev pcT:Nat:=124
abbrev cmT:Nat:=126
abbrev Ye:Nat:=3
structure pD where
 x:AcV
 vw:Value
 rw:List (List Value)
 ws:List cD
 sn:List fc
 p:List ju
 ids:List Int
 pq:Bool:=false
structure yh where
 r:Rec
 vp:Value
 v2:Value
 waits:List Int
 ended:Bool
structure bh where
 nb:Nat
 db:Nat
 mb:Nat
 c:CoV
 ck:bX
 ds:tL
 L:LM
 m:DM
 al:List (bu×Nat)
 bl:List (bu×Nat)
 vm:Value
 va:Value
 rm:List (List Value)
 ra:List (List Value)
 ms:List cD
 cl:List Nat
 A:Nat->pD
 C:Nat->yh
 ex:List Nat:=[]
 pre:Bool:=false
def bh.gx (n:bh) (b:Nat):Prop:=(∃t,getM t n.al=some b)\/b∈n.ex
abbrev bh.Ek (n:bh):Value:=if n.pre then .pointer none else ptr n.c.cb 0
theorem akw (h:Lg w F lb db L m) (v:Mv F w F' w'):Lg w' F' lb db L m:=by
 obtain⟨FL,FD,sv,bl,hd,h1,h2,h3,h4⟩:=h;exact⟨λk=>FL k/\k<w.heap.size,λk=>FD k/\k<w.heap.size,sv,bl,λk a b=>hd k a.1 b.1,λk hk=>(v k (h1 k hk.1) hk.2).1,λk hk=>(v k (h2 k hk.1) hk.2).1,h3.mv λk hk hl=>⟨⟨hk,hl⟩,(v k (h1 k hk) hl).2⟩,h4.mv λk hk hl=>⟨⟨hk,hl⟩,(v k (h2 k hk) hl).2⟩⟩
def mpR (b:Nat) (l:List (bu×Nat)):pX:=⟨λw _ A=>dL w A nX b (λk:bu=>k.v) zP l,λh _ m=>h.mv Fe m λ_ h=>h.elim⟩
def Y2 (n:bh):Nat->pX
 |1=>YZ n.nb (Hm n.c n.Ek n.vm n.va) nT
 |2=>⟨λw _ A=>mz w A n.c.adK n.mb n.ds,λh _ m=>h.mv m⟩
 |3=>⟨λw _ A=>Lg w A n.c.lb n.db n.L n.m,λh _ m=>akw h m⟩
 |5=>mpR n.c.ab n.al
 |6=>mpR n.c.bb n.bl
 |7=>⟨λw _ A=>n.pre=false->aI w A n.c.cb (Ho n.ck) IY/\n.ck.may=true,λh _ m e=>⟨(h e).1.mv m,(h e).2⟩⟩
 |8=>Z8 mT 36 n.vm n.rm
 |9=>Z8 Vp 9 n.va n.ra
 |10=>Z8 pcT 1 n.c.cm (n.cl.map λb=>[ptr b 0])
 |11=>⟨λw K _=>fA w K n.rm n.ms,λh m _=>h.mv m⟩
 |12=>puR (∀t b,getM t n.al=some b->(n.A b).x.aH=t)
 |_=>RA
def KE (b:Nat) (d:pD):Nat->pX
 |0=>YZ b (Ki d.x d.vw) aT
 |1=>Z8 mT 36 d.vw d.rw
 |2=>Z8 snT 7 d.x.vs (d.sn.map fc.l)
 |3=>⟨λw K _=>fA w K d.rw d.ws/\Sl w K 5 d.x.vp (d.p.map ju.l)/\(d.pq=false->Sl w K 1 d.x.vq (d.ids.map I1)),λ⟨h1,h2,h3⟩ m _=>⟨h1.mv m,h2.mv m,λe=>(h3 e).mv m⟩⟩
 |7=>DD (d.pq=true) (Z8 Ye 1 d.x.vq (d.ids.map I1))
 |_=>RA
def Kq (b:Nat) (d:yh):Nat->pX
 |4=>YZ b (d.r.l aR aR d.vp aR aR aR++[d.v2,B d.ended]) cmT
 |5=>Z8 Ye 1 d.v2 (d.waits.map I1)
 |6=>⟨λw K _=>Sl w K 1 d.vp (d.r.parts.map I1),λh m _=>h.mv m⟩
 |_=>RA
def zT (n:bh) (b:Nat):Nat->pX
 |0=>DD (n.gx b) (KE b (n.A b) 0)
 |1=>DD (n.gx b) (KE b (n.A b) 1)
 |2=>DD (n.gx b) (KE b (n.A b) 2)
 |3=>DD (n.gx b) (KE b (n.A b) 3)
 |4=>DD (b∈n.cl) (Kq b (n.C b) 4)
 |5=>DD (b∈n.cl) (Kq b (n.C b) 5)
 |6=>DD (b∈n.cl) (Kq b (n.C b) 6)
 |7=>DD (n.gx b) (KE b (n.A b) 7)
 |_=>RA
def tx (b i:Nat):Nat:=16+8*b+i
def dV (n:bh) (c:Nat):pX:=if c<16 then Y2 n c else zT n (c/8-2) (c % 8)
theorem wq (n:bh) (b i:Nat) (hi:i<8):dV n (tx b i)=zT n b i:=by
 unfold dV tx;rw[if_neg zQ,show(16+8*b+i)/8-2=b by omega,show(16+8*b+i) % 8=i by omega]
abbrev jD (w:World) (own:Nat->Nat) (n:bh):Prop:=Hs (dV n) w own
variable {A : XS} {n n' : bh}
theorem Yj {c:Nat} (h1:c<16->(Y2 n c).p w K A->(Y2 n' c).p w K A) (h2: ∀b i,i<8->c=tx b i->(zT n b i).p w K A->(zT n' b i).p w K A) (h:(dV n c).p w K A):(dV n' c).p w K A:=by
 by_cases hc:c<16
 ·unfold dV at h⊢;rw[if_pos hc] at h⊢;exact h1 hc h
 ·obtain⟨b,i,hi,rfl⟩: ∃b i,i<8/\c=tx b i:=⟨c/8-2,c % 8,by omega,by unfold tx;omega⟩;rw[wq _ _ _ hi] at h⊢;exact h2 b i hi rfl h
variable {Q : Nat -> Prop}
theorem nO (h2: ∀b i,i<8->Q (tx b i)-> ∀w K A,(zT n b i).p w K A->(zT n' b i).p w K A:=by intro b i hi hq w K A h;rcases i with _|_|_|_|_|_|_|_|i<;>exact h)
  (h1: ∀i,i<16->Q i-> ∀w K A,(Y2 n i).p w K A->(Y2 n' i).p w K A:=by intro i hi hq w K A h;rcases i with _|_|_|_|_|_|_|_|_|_|_|_|_|i<;>first|exact h|(exfalso;omega)): ∀c,Q c-> ∀w K A,(dV n c).p w K A->(dV n' c).p w K A:=λc hq w K A=>Yj (λhc=>h1 c hc hq w K A) λb i hi e=>h2 b i hi (e▸hq) w K A
variable {d : pD} {b0 : Nat}
theorem asV (h: ∀i,Q (tx b0 i)-> ∀w K A,(KE b0 (n.A b0) i).p w K A->(KE b0 d i).p w K A:=by intro i hq w K A h;rcases i with _|_|_|_|_|_|_|_|i<;>first|exact h|(exfalso;unfold tx at hq;omega))
  (hA:n'.A=λb=>if b=b0 then d else n.A b:=by rfl) (hs:n'.al=n.al/\n'.ex=n.ex/\n'.C=n.C/\n'.cl=n.cl:=by exact⟨rfl,rfl,rfl,rfl⟩): ∀b i,i<8->Q (tx b i)-> ∀w K A,(zT n b i).p w K A->(zT n' b i).p w K A:=λb i hi hq w K A p=>by
 have e:n'.gx b↔n.gx b:=by unfold bh.gx;rw[hs.1,hs.2.1]
 by_cases hb:b=b0
 ·subst hb;have eA:n'.A b=d:=by rw[hA];exact if_pos rfl
  rcases i with _|_|_|_|_|_|_|_|i<;>simp only[zT,DD,eA,e,hs.2.2.1,hs.2.2.2] at p⊢ <;>first|exact λha=>h _ hq w K A (p ha)|exact p
 ·have eA:n'.A b=n.A b:=by rw[hA];exact if_neg hb
  rcases i with _|_|_|_|_|_|_|_|i<;>simp only[zT,DD,eA,e,hs.2.2.1,hs.2.2.2] at p⊢ <;>exact p
theorem ard {d:yh} (h: ∀i,Q (tx b0 i)-> ∀w K A,(Kq b0 (n.C b0) i).p w K A->(Kq b0 d i).p w K A:=by intro i hq w K A h;rcases i with _|_|_|_|_|_|_|_|i<;>first|exact h|(exfalso;unfold tx at hq;omega))
  (hC:n'.C=λb=>if b=b0 then d else n.C b:=by rfl) (hs:n'.al=n.al/\n'.ex=n.ex/\n'.A=n.A/\n'.cl=n.cl:=by exact⟨rfl,rfl,rfl,rfl⟩): ∀b i,i<8->Q (tx b i)-> ∀w K A,(zT n b i).p w K A->(zT n' b i).p w K A:=λb i hi hq w K A p=>by
 have e:n'.gx b↔n.gx b:=by unfold bh.gx;rw[hs.1,hs.2.1]
 by_cases hb:b=b0
 ·subst hb;have eC:n'.C b=d:=by rw[hC];exact if_pos rfl
  rcases i with _|_|_|_|_|_|_|_|i<;>simp only[zT,DD,eC,e,hs.2.2.1,hs.2.2.2] at p⊢ <;>first|exact λha=>h _ hq w K A (p ha)|exact p
 ·have eC:n'.C b=n.C b:=by rw[hC];exact if_neg hb
  rcases i with _|_|_|_|_|_|_|_|i<;>simp only[zT,DD,eC,e,hs.2.2.1,hs.2.2.2] at p⊢ <;>exact p
variable {w0 : World} {own aG bK : Nat -> Nat} {i : Nat}
theorem C8 (h:jD w own n) (b i:Nat) (hi:i<8):(zT n b i).p w (bI own 4) (bI own (tx b i)):=by
 have:=h.gJ (tx b i) (by unfold tx;omega) (by unfold tx;omega)
 rwa [wq _ _ _ hi] at this
def _root_.Go.aJ.Hs.act (h:jD w own n) (hb:n.gx b):aI w (bI own (tx b 0)) b (Ki (n.A b).x (n.A b).vw) aT/\Own w (bI own (tx b 1)) 0 mT 36 (n.A b).vw (n.A b).rw/\Own w (bI own (tx b 2)) 0 snT 7 (n.A b).x.vs ((n.A b).sn.map fc.l)/\
  fA w (bI own 4) (n.A b).rw (n.A b).ws/\Sl w (bI own 4) 5 (n.A b).x.vp ((n.A b).p.map ju.l)/\((n.A b).pq=false->Sl w (bI own 4) 1 (n.A b).x.vq ((n.A b).ids.map I1)):=⟨C8 h b 0 dQ hb,C8 h b 1 dQ hb,C8 h b 2 dQ hb,C8 h b 3 dQ hb⟩
def _root_.Go.aJ.Hs.BP (h:jD w own n) (hb:b∈n.cl):aI w (bI own (tx b 4)) b ((n.C b).r.l aR aR (n.C b).vp aR aR aR++[(n.C b).v2,B (n.C b).ended]) cmT/\Own w (bI own (tx b 5)) 0 Ye 1 (n.C b).v2 ((n.C b).waits.map I1)/\Sl w (bI own 4) 1 (n.C b).vp ((n.C b).r.parts.map I1):=⟨C8 h b 4 dQ hb,C8 h b 5 dQ hb,C8 h b 6 dQ hb⟩
theorem iy:tx b i≠0/\tx b i≠4:=by unfold tx;omega
abbrev Sn (w0:World) (bK:Nat->Nat) (w:World) (X:XS) (own:Nat->Nat) (n:bh):Prop:=St w0 bK w X own (dV n)
theorem _root_.Go.aJ.St.v (s:Sn w0 bK w X own n):aI w X n.nb (Hm n.c n.Ek n.vm n.va) nT/\aJ.one n.vm=true/\aJ.one n.va=true/\aJ.one n.c.cm=true/\aJ.one n.Ek=true:=
 ⟨s.Ay 1,(show Own w (bI own 8) 0 mT 36 n.vm n.rm from s.get 8).sl.one,(show Own w (bI own 9) 0 Vp 9 n.va n.ra from s.get 9).sl.one,(show Own w (bI own 10) 0 pcT 1 n.c.cm _ from s.get 10).sl.one,by unfold bh.Ek;split<;>rfl⟩
theorem _root_.Go.aJ.St.va (s:Sn w0 bK w X own n) (hb:n.gx b):aI w X b (Ki (n.A b).x (n.A b).vw) aT/\aJ.one (n.A b).vw=true/\aJ.one (n.A b).x.vs=true/\aJ.one (n.A b).x.vp=true/\aJ.one (n.A b).x.vq=true:=
 have⟨h1,h2,h3,_,h5,h6⟩:=s.h.act hb
 ⟨h1.mono (s.sub _ iy.1),h2.sl.one,h3.sl.one,h5.one,by
  cases e:(n.A b).pq
  ·exact(h6 e).one
  ·exact(C8 s.h b 7 dQ hb e).sl.one⟩
def _root_.Go.aJ.St.vc (s:Sn w0 bK w X own n) (hb:b∈n.cl):aI w X b ((n.C b).r.l aR aR (n.C b).vp aR aR aR++[(n.C b).v2,B (n.C b).ended]) cmT/\aJ.one (n.C b).v2=true/\aJ.one (n.C b).vp=true/\Sl w X 1 (n.C b).v2 ((n.C b).waits.map I1):=
 have⟨h1,h2,h3⟩:=s.h.BP hb
 ⟨h1.mono (s.sub _ iy.1),h2.sl.one,h3.one,h2.sl.mono (s.sub _ iy.1)⟩
variable {vd vh vk vr vw : Value}
section
variable {Y : XS} {nb xb : Nat} {c : CoV} {vm va : Value}
theorem BQ {Ek:Value} (h:aI w Y nb (Hm c Ek vm va) nT) (hY: ∀k,Y k->X k) (hi:1<=c.id/\c.id<=2):Ct pg 54 #[ptr nb 0] w X nX λv _ _=>v=I (20+c.id):=by
 intro w0 hk;have br:=(h.mono hY).mv hk.cd;have hs:=ai.init w0;refine ML.1 λ_=>?_;repeat' first|refine ao ?_;intros|(refine qr ?_;intro wa hk;rfl)
structure cD.Dp (m:cD):Prop where
 keys:m.keys.length<=2^40
 seen:m.seen.length<=2^40
 writes:m.writes.length<=2^40
 parts:m.parts.length<=2^40
theorem Io {m:cD} {vs vc:Value} (h:m.at w X vk vs vw vp vr vc vh vd) (hf:m.Dp):Ct pg 45 #[m.v vk vs vw vp vr vc vh vd] w X nX λv wa w'=> ∃H5 xk iR Kr,v=m.v H5 xk iR Kr vr vc vh vd/\
  Sl w' (made wa w') 1 H5 (m.keys.map S1)/\Sl w' (made wa w') 7 xk (m.seen.map fc.l)/\Sl w' (made wa w') 4 iR (m.writes.map KV.l)/\Sl w' (made wa w') 1 Kr (m.parts.map I1):=by
 intro w0 hk;replace h:=h.mv hk.cd;have hs:=ai.init w0;have o1:=h.ranges.one;have o2:=h.aY.one;have o3:=h.iG.one;have o4:=h.ib.one;refine Sb.1 λ_=>?_;refine cA (KA h.keys hf.keys) kQ hs.has ?_;rintro v1 Ej w1 X1 q1 qf nJ ay;have h1:=h.mv ay.mv;refine cA (Lt h1.seen hf.seen) kQ ay.has ?_;rintro v2 xQ w2 X2 q2 lD kh bA;have h2:=h1.mv bA.mv;refine cA (ID h2.writes hf.writes) kQ bA.has ?_;rintro v3 zR w3 X3 q3 qS mN dm;refine cA (FF (h2.mv dm.mv).parts hf.parts) kQ dm.has ?_;rintro v4 zS w4 X4 q4 tK oV fV;have z1:=ay.kp.size;have z2:=bA.kp.size;have z3:=dm.kp.size;have u1:Own w1 X1 w0.heap.size _ _ v1 _:=q1.up nJ qf;have u2:Own w2 X2 w0.heap.size _ _ v2 _:=q2.up kh zQ;have u3:Own w3 X3 w0.heap.size _ _ v3 _:=q3.up mN zQ;have u4:Own w4 X4 w0.heap.size _ _ v4 _:=q4.up oV zQ;replace u1:=((u1.since bA).since dm).since fV;replace u2:=(u2.since dm).since fV;replace u3:=u3.since fV;have p1:=u1.sl.one;have p2:=u2.sl.one;have p3:=u3.sl.one;have p4:=u4.sl.one;replace hs:=((hs.trans ay).trans (bA.trans dm)).trans fV;clear ay bA dm fV;obtain⟨a1,a2,a3,rfl⟩:=u1.sl.form;obtain⟨b1,b2,b3,rfl⟩:=u2.sl.form;obtain⟨c1,c2,c3,rfl⟩:=u3.sl.form;obtain⟨e1,e2,e3,rfl⟩:=u4.sl.form;repeat' refine ao ?_;intros
 exact bQ hs λwa aK=>⟨_,_,_,_,rfl,(u1.kp aK).tight.sl,(u2.kp aK).tight.sl,(u3.kp aK).tight.sl,(u4.kp aK).tight.sl⟩
def cD.qg (m:cD) (no:Int):cD:= { m with fr:=no,to:=m.range }
def cD.asked (m:cD) (x:AcV):cD:= { m with aH:=x.aH,aV:=x.st }
abbrev El (code:Int) (t:bu) (st:bX) (on:Bool) (vs:Value):List Value:=[I code,I t.dU,I t.aN,I t.sq,I st.wall,I st.dx,I st.node,B on,vs]
theorem fA.Yq (h:fA w K rows ms): ∀r∈rows,∀u∈r,aJ.one u=true:=λr hr=>by
 obtain⟨i,hi,rfl⟩:=List.getElem_of_mem hr;obtain⟨vk,vs,vw,vp,vr,vc,vh,vd,e,q⟩:=h.2 i _ (ms[i]'(by rw[<-h.1];exact hi)) (aS hi) (aS _);rw[e];have q1:=q.keys.one;have q2:=q.seen.one;have q3:=q.writes.one;have q4:=q.parts.one;have q5:=q.ranges.one;have q6:=q.aY.one;have q7:=q.iG.one;have q8:=q.ib.one;intro u hu;simp only[List.mem_cons,dI,or_false] at hu;rcases hu with rfl|rfl|rfl|rfl|rfl|rfl|rfl|rfl|rfl|rfl|rfl|rfl|rfl|rfl|rfl|rfl|rfl|rfl|rfl|rfl|rfl|rfl|rfl|rfl|rfl|rfl|rfl|rfl|rfl|rfl|rfl|rfl|rfl|rfl|rfl|rfl<;>first|rfl|assumption
end
def cD.at.fm {m:cD} {vs vc:Value} (h:m.at w X vk vs vw vp vr vc vh vd):(∃b n c,vk= .slice b n c)/\(∃b n c,vs= .slice b n c)/\(∃b n c,vw= .slice b n c)/\(∃b n c,vp= .slice b n c)/\
  aJ.one vr=true/\aJ.one vc=true/\aJ.one vh=true/\aJ.one vd=true:=⟨h.keys.form,h.seen.form,h.writes.form,h.parts.form,h.ranges.one,h.aY.one,h.iG.one,h.ib.one⟩
theorem fA.aiA {m:cD} (h:cD.rd w K l m):fA w K [l] [m]:=by simpa using (fA.nil w K).add h
theorem fA.app {r1 r2:List (List Value)} {m1 m2:List cD} (h1:fA w K r1 m1) (h2:fA w K r2 m2):fA w K (r1++r2) (m1++m2):=by
 refine⟨by simp[h1.1,h2.1],λi l x hl hx=>?_⟩;by_cases hi:i<r1.length
 ·rw[dM hi] at hl;rw[dM (by rw[<-h1.1];exact hi)] at hx;exact h1.2 i l x hl hx
 ·rw[cQ zQ] at hl;rw[cQ (by rw[<-h1.1];omega),<-h1.1] at hx;exact h2.2 _ l x hl hx
theorem cD.at.as {m m':cD} {vs vc:Value} (h:m.at w X vk vs vw vp vr vc vh vd) (e:m'.keys=m.keys/\m'.seen=m.seen/\m'.writes=m.writes/\m'.parts=m.parts/\m'.ranges=m.ranges/\m'.aY=m.aY/\m'.state=m.state:=by exact⟨rfl,rfl,rfl,rfl,rfl,rfl,rfl⟩):
  m'.at w X vk vs vw vp vr vc vh vd:=by
 obtain⟨e1,e2,e3,e4,e5,e6,e7⟩:=e;exact⟨by rw[e1];exact h.keys,by rw[e2];exact h.seen,by rw[e3];exact h.writes,by rw[e4];exact h.parts,by rw[e5];exact h.ranges,by rw[e6];exact h.aY,by rw[e7];exact h.iG,by rw[e7];exact h.ib⟩
abbrev rO (own:Nat->Nat) (X:XS):Prop:= ∀k,own k≠0->X k
variable {t : bu} {code : Int} {n1 : bh} {e : pD}
def zf (hX:rO own X) (hk:Kp X w wa):Mv (bI own 4) w (bI own 4) wa:=hk.je λk (e:own k=4)=>hX k zQ
theorem BR {m:cD} {vs vc:Value} (h:jD w own n) (hX:rO own X) (hm:m.at w (bI own 4) vk vs vw vp vr vc vh vd) (hi:1<=n.c.id/\n.c.id<=2) (hl:n.rm.length<=2^20):
  Ct pg 44 #[ptr n.nb 0,m.v vk vs vw vp vr vc vh vd] w X (gC own) λ_ wa w'=>NQ dV own wa w' λ_ n'=> ∃lZ lr,n'= { n with vm:=lZ,rm:=lr,ms:=n.ms++[m.qg (20+n.c.id)] } /\lr.length=n.rm.length+1:=by
 intro w0 hk;have s:=St.init h hX hk;replace hm:=hm.mv (zf hX hk);obtain⟨⟨a1,a2,a3,rfl⟩,⟨b1,b2,b3,rfl⟩,⟨c1,c2,c3,rfl⟩,⟨e1,e2,e3,rfl⟩,q5,q6,q7,q8⟩:=hm.fm;refine MJ.1 λ_=>?_;refine dZ (BQ s.v.1 (λ_ h=>h) hi) kQ s.has λw1 X1 ay=>?_;replace hm:=hm.mv (ay.gW (s.sub 4));replace s:=s.since ay;have hr:=s.v.1;have hs:=s.rf;repeat' first|refine ao ?_;intros|(refine Y6 hs ?_;intro _ _ _ w X hs ho)
 replace hm:=hm.mv (hs.gW (s.sub 4));replace s:=s.since hs;have jB:=fA.aiA ⟨_,_,_,_,_,_,_,_,rfl,hm.as (m':=m.qg (20+n.c.id))⟩;refine s.ap2 1 8 11 (s.get 1) (s.get 8) ho.sl jB.Yq oQ (λv=>dV { n with vm:=v,rm:=_,ms:=_ }) (λ_ _ _ _ h=>h) (λ_ _ _ _ h=>h) (λ_ _ _ _ mv h=>fA.app h (jB.mv mv)) (λv'=>nO) λv' w' X' aG s' m'=>?_;clear hs hr
 skip
 exact s'.fin λwa hk=>⟨_,_,rfl,by simp⟩
theorem na {κ α:Type} [DecidableEq κ] {k t:κ} {l:List (κ×α)} {v:α} (h:getM t (ji k l)=some v):getM t l=some v/\t≠k:=by grind [uG,FJ]
theorem ame (hb:n.gx b): ∀c,c≠5-> ∀w K A,(dV n c).p w K A->(dV { n with al:=ji t n.al,ex:=b::n.ex } c).p w K A:=
 nO (λb' i hi _ w K A h=>by
  have e:({ n with al:=ji t n.al,ex:=b::n.ex } :bh).gx b'->n.gx b':=λh=>h.elim (λ⟨t,e⟩=>.inl ⟨t,(na e).1⟩) λe=>(List.mem_cons.1 e).elim (λe=>e▸hb) .inr;rcases i with _|_|_|_|_|_|_|_|i<;>first|exact λha=>h (e ha)|exact h) λi hi hq w K A h=>by
   rcases i with _|_|_|_|_|_|_|_|_|_|_|_|_|i<;>first|exact absurd rfl hq|exact λt b e=>h t b (na e).1|exact h
theorem C7 {st:bX} {on:Bool} {vs:Value} (h:jD w own n) (hX:rO own X) (hb:n.gx b) (ovs:aJ.one vs=true) (hl:n.ra.length<=2^20):
  Ct pg 62 #[ptr n.nb 0,ptr b 0,.agg (El code t st on vs).toArray] w X (gC own) λ_ wa w'=>NQ dV own wa w' λ_ n'=> ∃jh,n'= { n with al:=ji (n.A b).x.aH n.al,ex:=b::n.ex,va:=jh,ra:=n.ra++[El code (n.A b).x.aH st on vs] } :=by
 intro w0 hk;have s:=St.init h hX hk;have hr:=s.v.1;have ha:=(s.va hb).1;have hs:=s.rf;refine N8.1 λ_=>?_;repeat' refine ao ?_;intros
 refine ajv (kv:=λk:bu=>k.v) (k:=(n.A b).x.aH) (kt:=34) (et:=116) (s.Ay 5:) Fe (λ_ h=>h.elim) td kQ s.has λw1 X1 c1 qy=>?_;obtain⟨ic,s1,m1⟩:=s.DY (F':=dV { n with al:=ji (n.A b).x.aH n.al,ex:=b::n.ex }) 5 c1 (λk e=>by rw[show k=n.c.ab from e];exact(s.get 5:dL _ _ _ _ _ _ _).x.1) (· =n.c.ab) (λk e=>.inl (by rw[show k=n.c.ab from e];exact(s.get 5:dL _ _ _ _ _ _ _).x.1))
  (λK m=>me qy rfl) (ame hb)
 clear hr ha hs;have hr:=s1.v.1;have ha:=(s1.va (b:=b) (.inr sQ)).1;have hs:=s1.rf;repeat' first|refine ao ?_;intros|(refine Y6 hs ?_;intro _ _ _ w X hs ho)
 have s2:=s1.since hs;refine s2.ap2 1 9 0 (s2.get 1) (s2.get 9) ho.sl (λr hr u hu=>?_) oQ (λv=>dV { n with al:=ji (n.A b).x.aH n.al,ex:=b::n.ex,va:=v,ra:=_ }) (λ_ _ _ _ h=>h) (λ_ _ _ _ h=>h) (λ_ _ _ _ _ h=>h) (λv'=>nO) λv' w' X' aG s' m'=>?_
 ·rw[av] at hr;subst hr;simp only[List.mem_cons,dI,or_false] at hu;rcases hu with rfl|rfl|rfl|rfl|rfl|rfl|rfl|rfl|rfl<;>first|rfl|assumption
 clear hs hr ha
 skip
 exact s'.fin λwa hk=>⟨_,rfl⟩
def Told (n:bh) (ms:List cD) (n':bh):Prop:= ∃lZ lr,n'= { n with vm:=lZ,rm:=lr,ms:=n.ms++ms } /\lr.length=n.rm.length+ms.length
theorem Told.nil (n:bh):Told n [] n:=⟨n.vm,n.rm,by rw[List.append_nil],rfl⟩
theorem Told.add {a b:List cD} {n2:bh} :Told n a n1->Told n1 b n2->Told n (a++b) n2:=by
 rintro⟨v,r,rfl,h⟩ ⟨v',r',rfl,h'⟩;exact⟨v',r',by simp[ak],by simp at h'⊢;omega⟩
theorem Tn {m:cD} (h:m.keys=[]/\m.seen=[]/\m.writes=[]/\m.parts=[]/\m.ranges=[]/\m.aY=[]/\m.state= .zero:=by exact⟨rfl,rfl,rfl,rfl,rfl,rfl,rfl⟩):m.at w K aR aR aR aR aR aR aR aR:=by
 obtain⟨e1,e2,e3,e4,e5,e6,e7⟩:=h;exact⟨by rw[e1];exact Sl.nil _ _ _,by rw[e2];exact Sl.nil _ _ _,by rw[e3];exact Sl.nil _ _ _,by rw[e4];exact Sl.nil _ _ _,by rw[e5];exact Sl.nil _ _ _,by rw[e6];exact fh.nil _ _ _,by rw[e7];exact fh.nil _ _ _,by rw[e7];exact fh.nil _ _ _⟩
def CA:cD:=⟨0,0,0,.zero,0,0,0,.zero,.zero,false,0,0,[],[],[],[],[],[],.zero⟩
def Tm (t:bu) (id:Int):cD:= { CA with kind:=5,aH:=t,range:=id }
def Y3 (r:Rec) (id:Int):cD:= { CA with kind:=5,aH:=r.aH,range:=id,jK:=true,aV:=r.aV }
theorem Dq {α β:Type} {l:List α} {x:α} {f:α->β} (h:l[i]? =some x):(l.take (i+1)).map f=(l.take i).map f++[f x]:=by
 rw[List.take_add_one,h];simp
theorem Ak (h:jD w own n) (hX:rO own X) (hb:n.gx b) (hpq:(n.A b).pq=false) (hl:n.ra.length<=2^20) (hi:1<=n.c.id/\n.c.id<=2) (xP:n.rm.length+(n.A b).ids.length<=2^20):
  Ct pg 43 #[ptr n.nb 0,ptr b 0,I code] w X (gC own) λ_ wa w'=>NQ dV own wa w' λ_ n'=> ∃jh,Told { n with al:=ji (n.A b).x.aH n.al,ex:=b::n.ex,va:=jh,ra:=n.ra++[El code (n.A b).x.aH .zero false aR] }
   (if(n.A b).x.pre then(n.A b).ids.map λid=>(Tm (n.A b).x.aH id).qg (20+n.c.id)else []) n':=by
 intro w0 hk;have s:=St.init h hX hk;have hs:=s.rf;refine KR.1 λ_=>?_;repeat' refine ao ?_;intros
 refine s.call (C7 (code:=code) (t:=.zero) (st:=.zero) (on:=false) (vs:=aR) s.h s.x hb rfl hl) kQ λv w1 X1 ic n1 s1 q m1=>?_;obtain⟨jh,rfl⟩:=q;clear hs h s m1;have hs:=s1.rf;obtain⟨ha,-⟩:=s1.va (b:=b) (.inr sQ);have Fi:=((s1.h.act (b:=b) (.inr sQ)).2.2.2.2.2 hpq).mono (s1.sub 4);have kV:=Fi.gN;dsimp only at ha Fi;cases hp:(n.A b).x.pre
 ·dsimp only [Ki] at ha;rw[hp] at ha;repeat' refine ao ?_;intros
  exact s1.fin λwa hk=>⟨jh,Told.nil _⟩
 dsimp only [Ki] at ha;rw[hp] at ha;repeat' refine ao ?_;intros
 generalize hN:({ n with al:=ji (n.A b).x.aH n.al,ex:=b::n.ex,va:=jh,ra:=n.ra++[El code (n.A b).x.aH .zero false aR] } :bh)=N at s1;refine eI (λn' a w X=> ∃(i:Nat) (aG:Nat->Nat) (n1:bh),a=I (i:Nat)/\n'=(n.A b).ids.length-i/\i<=(n.A b).ids.length/\Sn w0 own w X aG n1/\Told N (((n.A b).ids.take i).map λid=>(Tm (n.A b).x.aH id).qg (20+n.c.id)) n1) (n.A b).ids.length ⟨0,ic,N,rfl,rfl,Nat.zero_le _,s1,Told.nil _⟩ ?_;clear hs s1 ha Fi;rintro n' _ w1 X1 ⟨i,ic,n1,rfl,rfl,Rg,s,ht⟩;obtain⟨Yg,Q5,xd,rq⟩:=id ht;have e:n1.A=n.A/\n1.nb=n.nb/\n1.c=n.c/\n1.rm=Q5/\N.rm=n.rm:=by rw[xd,<-hN];exact⟨rfl,rfl,rfl,rfl,rfl⟩
 have Ut:n1.gx b:=.inr (by rw[xd,<-hN];simp);obtain⟨ha,o1,o2,o3,o4⟩:=s.va Ut;have Fi:=((s.h.act Ut).2.2.2.2.2 (by rw[e.1];exact hpq)).mono (s.sub 4);rw[e.1] at ha Fi o1 o2 o3 o4;have hs:=s.rf;rcases dD ((n.A b).ids) i with⟨cx,id,hx,hd⟩|⟨dA,hd⟩
 ·repeat' refine aL ?_;intros
  rw[<-e.2.1];refine s.call (BR (m:=Tm (n.A b).x.aH id) s.h s.x Tn (by rw[e.2.2.1];exact hi) (by rw[e.2.2.2.1,rq,e.2.2.2.2];simp;omega)) kQ λv w2 X2 lQ n2 s2 q m2=>?_;clear hs;repeat' refine ao ?_;intros
  refine dS ((n.A b).ids.length-(i+1)) zQ ⟨i+1,lQ,n2,by simp,rfl,by omega,s2,?_⟩;rw[Dq hx];refine ht.add ?_;obtain⟨v,r,e1,e2⟩:=q;exact⟨v,r,by rw[e1,e.2.2.1],e2⟩
 ·repeat' refine aL ?_;intros
  rw[aB zQ] at ht;exact s.fin λwa hk=>⟨jh,by rw[hN,if_pos rfl];exact ht⟩
def dH (n:bh) (b:Nat) (d:pD):bh:= { n with A:=λb'=>if b'=b then d else n.A b' }
theorem jj:(dH n b d).A b=d:=if_pos rfl
theorem IX (h: ∀i,Q (tx b i)-> ∀w K A,(KE b (n.A b) i).p w K A->(KE b d i).p w K A:=by intro i hq w K A h;rcases i with _|_|_|_|_|_|_|_|i<;>first|exact h|exact absurd rfl hq.1|exact absurd rfl hq.2.1|exact absurd rfl hq.2.2|exact absurd rfl hq) (ht:d.x.aH=(n.A b).x.aH:=by rfl):
  ∀c,Q c-> ∀w K A,(dV n c).p w K A->(dV (dH n b d) c).p w K A:=
 nO (asV h) λi hi hq w K A p=>by
  by_cases ao7:i=12
  ·subst ao7;intro t b' e
   show(if b'=b then d else n.A b').x.aH=t
   by_cases hb:b'=b
   ·subst hb;rw[if_pos rfl,ht];exact p t b' e
   ·rw[if_neg hb];exact p t b' e
  ·rcases i with _|_|_|_|_|_|_|_|_|_|_|_|_|i<;>first|exact p|exact absurd rfl ao7
theorem A4:dH (dH n b d) b e=dH n b e:=by
 unfold dH
 congr 1
 funext b'
 by_cases h:b'=b<;>simp[h]
theorem Q4 {d':pD} (h: ∀i,Q (tx b i)-> ∀w K A,(KE b d i).p w K A->(KE b d' i).p w K A:=by intro i hq w K A h;rcases i with _|_|_|_|_|_|_|_|i<;>first|exact h|exact absurd rfl hq.1|exact absurd rfl hq.2.1|exact absurd rfl hq.2.2|exact absurd rfl hq|exact⟨h.1,h.2.1,λe=>Bool.noConfusion e⟩) (ht:d'.x.aH=d.x.aH:=by rfl):
  ∀c,Q c-> ∀w K A,(dV (dH n b d) c).p w K A->(dV (dH n b d') c).p w K A:=λc hq w K A p=>by
 have:=IX (n:=dH n b d) (d:=d') (by rw[jj];exact h) (by rw[jj];exact ht) c hq w K A p
 rwa [A4] at this
theorem _root_.Go.aJ.St.vs (s:Sn w0 bK w X own (dH n b d)) (hb:n.gx b):aI w X b (Ki d.x d.vw) aT/\aJ.one d.vw=true/\aJ.one d.x.vs=true/\aJ.one d.x.vp=true/\aJ.one d.x.vq=true:=by
 have:=s.va (b:=b) hb
 rwa [jj] at this
theorem Told.set {N:bh} {l:List cD} :Told N l n1->Told (dH N b e) l (dH n1 b e):=by
 rintro⟨v,r,rfl,h⟩;exact⟨v,r,rfl,h⟩
theorem qT (hi:i<4\/i=7) (h:(KE b d i).p w K A):(dV (dH n b d) (tx b i)).p w K A:=by
 rw[wq _ _ _ zQ];rcases i with _|_|_|_|_|_|_|_|i<;>first|(simp only[zT,DD,jj];exact λ_=>h)|omega
theorem OM {m:cD} {vs vc:Value} (h:jD w own n) (hX:rO own X) (hb:n.gx b) (hm:m.at w (bI own 4) vk vs vw vp vr vc vh vd) (hf:m.Dp) (hi:1<=n.c.id/\n.c.id<=2) (hl:n.rm.length<=2^20) (xP:(n.A b).rw.length<=2^20):
  Ct pg 63 #[ptr n.nb 0,ptr b 0,m.v vk vs vw vp vr vc vh vd] w X (gC own) λ_ wa w'=>NQ dV own wa w' λ_ n'=> ∃iR kM,kM.length=(n.A b).rw.length+1/\
   Told (dH n b { n.A b with vw:=iR,rw:=kM,ws:=(n.A b).ws++[m.asked (n.A b).x] }) [(m.asked (n.A b).x).qg (20+n.c.id)] n':=by
 intro w0 hk;have s:=St.init h hX hk;replace hm:=hm.mv (zf hX hk);obtain⟨⟨a1,a2,a3,rfl⟩,⟨b1,b2,b3,rfl⟩,⟨c1,c2,c3,rfl⟩,⟨e1,e2,e3,rfl⟩,q5,q6,q7,q8⟩:=hm.fm;have ha:=(s.va hb).1;have hs:=s.rf;refine N9.1 λ_=>?_;repeat' first|refine ao ?_;intros|(refine Y6 hs ?_;intro _ _ _ w X hs ho)
 replace hm:=hm.mv (hs.gW (s.sub 4));replace s:=s.since hs;have jB:=fA.aiA ⟨_,_,_,_,_,_,_,_,rfl,hm.as (m':=m.asked (n.A b).x)⟩;have nM:=s.h.act hb;refine s.ap1 (tx b 0) (tx b 1) (tx b 3) nM.1 nM.2.1 ho.sl jB.Yq oQ (λv=>dV (dH n b { n.A b with vw:=v,rw:=_,ws:=(n.A b).ws++[m.asked (n.A b).x] })) (λ_ _ _ _ h=>qT dQ h) (λ_ _ _ _ h=>qT dQ h)
  (λ_ _ K A mv h=>qT dQ (by rw[wq _ _ _ dQ] at h;exact⟨fA.app (h hb).1 (jB.mv mv),(h hb).2⟩)) (λv'=>IX) (λv' w' X' aG s' m'=>?_) (zd:=by unfold tx;omega)
 replace hm:=hm.mv m';clear hs ha nM;have hs:=s'.rf;repeat' refine ao ?_;intros
 refine cA (Io (m:=m.asked (n.A b).x) ((hm.mv (Mv.sub (s'.sub 4))).as) ⟨hf.keys,hf.seen,hf.writes,hf.parts⟩) kQ s'.has ?_;rintro _ Q6 w7 X7 ⟨H5,xk,vw2,Kr,rfl,u1,u2,u3,u4⟩ S8 Hn pc;replace hm:=hm.mv (pc.gW (s'.sub 4));have s7:=s'.since pc;obtain⟨S9,s8,m8,e8,n8⟩:=s7.vI (N:=made Q6 w7) λk hk=>⟨Hn k hk,by have:=hk.1;have:=s'.nw (k:=k) zQ;exact this⟩;have k8:Mv (made Q6 w7) w7 (bI S9 4) w7:=Mv.sub n8;replace hm:=(hm.mv m8).as (m':=m.asked (n.A b).x);refine s8.call (BR (n:=dH n b _) (m:=m.asked (n.A b).x) s8.h s8.x ⟨u1.mv k8,u2.mv k8,u3.mv k8,u4.mv k8,hm.ranges,hm.aY,hm.iG,hm.ib⟩ hi hl) kQ λv w9 X9 pC n9 s9 q m9=>?_;obtain⟨v9,r9,rfl,Q8⟩:=q
 skip
 exact s9.fin λwa hk=>⟨_,_,by rw[aa];rfl,v9,r9,rfl,Q8⟩
def eQ (n:bh):bh:= { n with vm:=aR,va:=aR,rm:=[],ra:=[],ms:=[] }
structure BC (w:World) (own:Nat->Nat) (n:bh):Prop where
 om:Sl w (bI own 4) 36 n.vm n.rm
 hm:fA w (bI own 4) n.rm n.ms
 oa:Sl w (bI own 4) 9 n.va n.ra
def BC.mv (h:BC w own n) (m:Mv (bI own 4) w (bI aG 4) w'):BC w' aG n:=⟨h.om.mv m,h.hm.mv m,h.oa.mv m⟩
def Tb (own:Nat->Nat) (wa w':World) (P:bh->Prop) (Q:bh->Prop):Prop:=NQ dV own wa w' λaG n'=> ∃n1,P n1/\Q n1/\n'=eQ n1/\BC w' aG n1
theorem Fl (h:jD w own n) (hX:rO own X):Ct pg 47 #[ptr n.nb 0] w X (gC own) λv wa w'=>NQ dV own wa w' λaG n'=>v= .agg #[n.vm,n.va]/\n'=eQ n/\BC w' aG n:=by
 intro w0 hk;have s:=St.init h hX hk;obtain⟨hr,o2,o3,-⟩:=s.v;have hs:=s.rf;have hO:BC w0 own n->True:=λ_=>trivial;have q8:Own w0 (bI own 8) 0 mT 36 n.vm n.rm:=s.get 8;have q9:Own w0 (bI own 9) 0 Vp 9 n.va n.ra:=s.get 9;have q11:fA w0 (bI own 4) n.rm n.ms:=s.get 11;obtain⟨ic,s1,m1,e1,e2⟩:=s.Yf (F':=λc=>if c=8\/c=9\/c=11 then RA else dV n c) (λc=>c=8\/c=9) dQ (λc hc w K=>by rw[if_pos zQ];trivial) λc hc K A _ h=>by
  by_cases e:c=11
  ·rw[if_pos zQ];trivial
  ·rw[if_neg zQ];exact h
 have hO:BC w0 ic n:=⟨q8.sl.mono λk e=>e1 k (.inl e),q11.mv m1,q9.sl.mono λk e=>e1 k (.inr e)⟩;refine MK.1 λ_=>?_;repeat' refine ao ?_;intros
 refine s1.stN (o:=10) 1 (s1.get 1) (dV (eQ n)) zQ kQ (Nat.le_of_ble_eq_true rfl) rfl rfl (λ_ _ _ h=>h) (λc hc w K A h=>?_) λw2 X2 lQ s2 m2=>?_
 ·by_cases e:c=8\/c=9\/c=11
  ·rcases e with rfl|rfl|rfl
   ·exact Own.nil _ _ _ _ _
   ·exact Own.nil _ _ _ _ _
   ·exact fA.nil _ _
  ·rw[if_neg e] at h;exact(nO: ∀c,(c≠1/\c≠8/\c≠9/\c≠11)-> ∀w K A,(dV n c).p w K A->(dV (eQ n) c).p w K A) c zQ w K A h
 clear hs;repeat' refine ao ?_;intros
 exact s2.fin λwa hk=>⟨rfl,rfl,(hO.mv m2).mv (zf s2.x hk)⟩
def _root_.Go.aJ.St.amA {v:Value} {P:bh->Prop} {Q:Value->bh->Prop} (s:Sn w0 bK w X own (eQ n1)) (q:BC w own n1) (hp:P n1) (hq:Q v n1):aJ.fin (vi (gC bK) w0 λv w'=>Tb bK w0 w' P (Q v)) X w v:=
 St.fin (Q:=λv w' aG n'=> ∃n1,P n1/\Q v n1/\n'=eQ n1/\BC w' aG n1) s λwa hk=>⟨n1,hp,hq,rfl,q.mv (zf s.x hk)⟩
theorem Im (h:jD w own n) (hX:rO own X) (hb:b∈n.cl) (hi:1<=n.c.id/\n.c.id<=2) (hl:n.rm.length+(n.C b).waits.length<=2^20):
  Ct pg 46 #[ptr n.nb 0,ptr b 0] w X (gC own) λ_ wa w'=>NQ dV own wa w' λ_ n'=>Told n ((n.C b).waits.map λid=>(Y3 (n.C b).r id).qg (20+n.c.id)) n':=by
 intro w0 hk;have s:=St.init h hX hk;obtain⟨hc,o1,o2,hw⟩:=s.vc hb;have kV:(n.C b).waits.length<=2^20:=by omega
 have hs:=s.rf;refine Jp.1 λ_=>?_;repeat' refine ao ?_;intros
 refine eI (λn' a w X=> ∃(i:Nat) (aG:Nat->Nat) (n1:bh),a=I (i:Nat)/\n'=(n.C b).waits.length-i/\i<=(n.C b).waits.length/\Sn w0 own w X aG n1/\Told n (((n.C b).waits.take i).map λid=>(Y3 (n.C b).r id).qg (20+n.c.id)) n1) (n.C b).waits.length ⟨0,own,n,rfl,rfl,Nat.zero_le _,s,Told.nil _⟩ ?_;clear hs s hc hw;rintro n' _ w1 X1 ⟨i,ic,n1,rfl,rfl,Rg,s,ht⟩;obtain⟨Yg,Q5,rfl,rq⟩:=id ht;obtain⟨hc,o1,o2,hw⟩:=s.vc (b:=b) hb;have hs:=s.rf;dsimp only at hc hw;rcases dD ((n.C b).waits) i with⟨cx,id,hx,hd⟩|⟨dA,hd⟩
 ·repeat' refine aL ?_;intros
  refine s.call (BR (n:= { n with vm:=Yg,rm:=Q5,ms:=_ }) (m:=Y3 (n.C b).r id) s.h s.x Tn hi (by simp at rq;simp;omega)) kQ λv w2 X2 lQ n2 s2 q m2=>?_;clear hs;repeat' refine ao ?_;intros
  exact dS ((n.C b).waits.length-(i+1)) zQ ⟨i+1,lQ,n2,by simp,rfl,by omega,s2,by rw[Dq hx];exact ht.add q⟩
 ·repeat' refine aL ?_;intros
  rw[aB zQ] at ht;exact s.fin λwa hk=>by rw[aB zQ];exact ht
abbrev GW:=List (BA×gK)
def uW (o:ju) (s:List gK) (wr:GW):Except Int (List gK×GW):=
 if o.code=2 then .ok (s.tail,cI o.key (s.headD .zero) wr)
 else if o.code=3 then .ok (s,cI o.key .zero wr)
 else if o.code=4 then .ok (o.val::s,wr)
 else if o.code=13 then(if SC (s.headD .zero)then .ok (s.tail,wr)else .error 22)
 else if o.code=14 then .ok (s.headD .zero::s,wr)
 else match zJ o.code (s.tail.headD .zero) (s.headD .zero)with
  | .ok l=>.ok (l++s.tail.tail,wr)
  | .error e=>.error e
section
variable {N N' : XS} {rb sb wb : Nat} {xG oG : Value} {s s' : List gK} {wr oU : GW}
theorem iw.put (h:iw w N rb sb wb xG s wr) (hX: ∀k,N k->X k) (c:ee (· =wb) X w X' w') (hm:dL w' X' nX wb Value.string nv oU):iw w' N rb sb wb xG s oU:=
 ⟨⟨h.row.1,(c.block _ (hX _ h.row.1) λe=>h.ne e.symm).trans h.row.2⟩,Iy h.own λg hg=>⟨h.own.2.2 g hg,c.block g (hX _ (h.own.2.2 g hg)) λe=>h.ns.2 (by rw[<-e];exact hg)⟩,me hm h.map.x.1⟩
theorem aqw {b c:Value} {o':Nat} {C:Value->Prop} (h:aI w X rb [a,b,c] runT) (ho:o'=0+2) (n:C c):aX pg X w (ld1 287 (ptr rb o')) C:=by
 have hc:Cells w X rb (0+2) [c]:=h.cells.Xf (fo:=2) rfl;rw[ho];exact ae6 hc (Mv.refl _ _) kQ rfl n
theorem akc {o:ju} (h:iw w N rb sb wb xG s wr) (hN:FX N X w) (hl:s.length<=2^20) (hg:o.code≠1) (hc:1<=o.code/\o.code<=15) (ht:tV o.code<=s.length):
  FB pg 168 #[ptr rb 0,.agg o.l.toArray] w X N (λ_ wa w'=> ∃s' oU N' oG,uW o s wr= .ok (s',oU)/\(∀k,N' k->N k\/made wa w' k)/\iw w' N' rb sb wb oG s' oU) (λch _ _=> ∃e,uW o s wr= .error e/\ch=wh e):=by
 intro w0 hk;have hT:=hN.ft hk;replace h:=h.mv (hN.mv hk);have KC:=hN.kp hk;have br:=h.row.mono λk ah=>(KC k ah).1;have ER: ∀{w3:World} {X3:XS} {N3:XS} {s3:List gK} {VX:GW} {v:gK} {AS:Value} {K:Value->World->XS->Prop},Ft w0 N w3 X3 N3->iw w3 N3 rb sb wb AS s3 VX->s3.length<=2^30->
   (∀x w4 X4 N4 HP,Ft w0 N w4 X4 N4->iw w4 N4 rb sb wb HP (v::s3) VX->K x w4 X4)->eC pg (FC N w0 (λ_ w'=> ∃s' oU N' oG,uW o s wr= .ok (s',oU)/\(∀k,N' k->N k\/made w0 w' k)/\iw w' N' rb sb wb oG s' oU) (λch _=> ∃e,uW o s wr= .error e/\ch=wh e)) X3 w3 true 234 #[ptr rb 0,v.v] K:=λq1 q2 q3 k=>by
  refine q1.call (JR q2 (λk ah=>⟨q1.bo k ah,q1.s.has k (q1.bo k ah)⟩) q3) kQ (λ_ h=>h) λv zS w4 X4 hq tK oV fP c4=>?_;obtain⟨N4,HP,Vw,h4⟩:=hq;exact k _ _ _ _ _ (fP.less Vw) h4
 have akd: ∀{w3:World} {X3:XS} {N3:XS} {s3:List gK} {VX:GW} {v:gK} {AS:Value} {K:Value->World->XS->Prop},Ft w0 N w3 X3 N3->iw w3 N3 rb sb wb AS (v::s3) VX->
   (∀w4 X4 HP,Ft w0 N w4 X4 N3->iw w4 N3 rb sb wb HP s3 VX->aI w4 X4 rb [HP,.map (some sb),.map (some wb)] runT->K v.v w4 X4)->eC pg (FC N w0 (λ_ w'=> ∃s' oU N' oG,uW o s wr= .ok (s',oU)/\(∀k,N' k->N k\/made w0 w' k)/\iw w' N' rb sb wb oG s' oU) (λch _=> ∃e,uW o s wr= .error e/\ch=wh e)) X3 w3 true 236 #[ptr rb 0] K:=λq1 q2 k=>by
  refine q1.call (Nb q2 (λk ah=>⟨q1.bo k ah,q1.s.has k (q1.bo k ah)⟩)) kQ (λ_ h=>h) λv zS w4 X4 hq tK oV fP c4=>?_;obtain⟨rfl,HP,h4⟩:=hq;have AD:=fP.less (F':=_) λk ah=>.inl ah;exact k _ _ _ AD h4 (h4.row.mono λk ah=>AD.bo k ah)
 have M8: ∀{w3:World} {X3:XS} {N3:XS} {s3:List gK} {v:gK} {AS:Value} {K:Value->World->XS->Prop},Ft w0 N w3 X3 N3->iw w3 N3 rb sb wb AS s3 wr->
   (∀w4 X4,Ft w0 N w4 X4 N3->iw w4 N3 rb sb wb AS s3 (cI o.key v wr)->K undef w4 X4)->eU pg (FC N w0 (λ_ w'=> ∃s' oU N' oG,uW o s wr= .ok (s',oU)/\(∀k,N' k->N k\/made w0 w' k)/\iw w' N' rb sb wb oG s' oU) (λch _=> ∃e,uW o s wr= .error e/\ch=wh e)) X3 w3 true (Instr.mapUpdate 287 (.map (some wb)) (.string o.key) v.v) K:=λ{w3} {X3} {N3} {s3} {v} {AS} {K} q1 q2 k=>by
  refine vK (kv:=Value.string) (k:=o.key) (a:=v) (kt:=9) (et:=97) (q2.mv (Mv.sub q1.bo)).map kI rfl (λ_ h=>h.elim) yF kQ q1.s.has λw4 X4 c4 A6=>?_;exact k _ _ (q1.ea (F':=N3) c4 (λk ah=>by subst ah;exact q2.map.x.1) λk ah=>.inl ah) (q2.put q1.bo c4 A6)
 have uu: ∀{w3:World} {X3:XS} {N3:XS} {s3:List gK} {VX:GW} {AS:Value} {x:Value},Ft w0 N w3 X3 N3->iw w3 N3 rb sb wb AS s3 VX->uW o s wr= .ok (s3,VX)->
   fin (FC N w0 (λ_ w'=> ∃s' oU N' oG,uW o s wr= .ok (s',oU)/\(∀k,N' k->N k\/made w0 w' k)/\iw w' N' rb sb wb oG s' oU) (λch _=> ∃e,uW o s wr= .error e/\ch=wh e)) X3 w3 x:=λq1 q2 q3=>
  q1.yi λwa aK=>⟨_,_,_,_,q3,q1.jz aK λ_ h=>h,q2.mv (aK.je q1.bo)⟩
 have hs:=ai.init w0;have h1:tV o.code=if o.code=3\/o.code=4 then 0 else if o.code=2\/o.code=13\/o.code=14 then 1 else 2:=by
  unfold tV;rw[if_neg zQ];by_cases q:o.code=3\/o.code=4
  ·rw[if_pos zQ,if_pos q]
  ·rw[if_neg zQ,if_neg q]
 by_cases e2:o.code=2
 ·rw[if_neg zQ,if_pos zQ] at h1;cases s with
  |nil=>simp at ht;omega
  |cons v s=>
   refine o9.1 λ_=>?_;repeat' first|refine aL ?_;intros|with_reducible apply cJ|(refine akd hT h λw1 X1 aj3 eh h1 EE=>?_)|(refine And.intro ?_ ?_)|(refine M8 aQ aQ λw2 X2 cX h2=>?_)|(exact uu aQ aQ (by unfold uW;rw[if_pos e2];rfl))|(refine aqw aQ aQ ?_)
 by_cases e3:o.code=3
 ·refine o9.1 λ_=>?_;repeat' first|refine aL ?_;intros|with_reducible apply cJ|(refine M8 (v:=.zero) hT h λw2 X2 cX h2=>?_)|(exact uu aQ aQ (by unfold uW;rw[if_neg e2,if_pos e3]))
 by_cases e4:o.code=4
 ·refine o9.1 λ_=>?_;repeat' first|refine aL ?_;intros|with_reducible apply cJ|(refine ER (v:=o.val) hT h zQ λx w2 X2 N2 aoY cX h2=>?_)|(exact uu aQ aQ (by unfold uW;rw[if_neg e2,if_neg e3,if_pos e4]))
 by_cases e13:o.code=13
 ·rw[if_neg zQ,if_pos zQ] at h1;cases s with
  |nil=>simp at ht;omega
  |cons v s=>
   refine o9.1 λ_=>?_;repeat' first|refine aL ?_;intros|with_reducible apply cJ|(refine akd hT h λw1 X1 aj3 eh h1 EE=>?_)
   refine rV (aaR v) kQ eh.s.has λw2 X2 bA=>?_;have cX:=eh.since bA;have h2:=h1.mv (bA.gW λk ah=>eh.bo k ah);by_cases hh:SC v=true
   ·rw[hh];repeat' first|refine ao ?_;intros|(exact uu cX h2 (by unfold uW;rw[if_neg e2,if_neg e3,if_neg e4,if_pos e13];simp only[List.headD_cons,hh,if_true,List.tail_cons]))
   ·rw[Bool.eq_false_iff.2 hh];repeat' first|refine ao ?_;intros|(with_reducible refine Tj ?_ ?_);(· kernel_rfl)
    exact Tk cX.s.has λwa ou=>cX.jd ou ⟨22,by unfold uW;rw[if_neg e2,if_neg e3,if_neg e4,if_pos e13];exact if_neg hh,rfl⟩
 by_cases e14:o.code=14
 ·rw[if_neg zQ,if_pos zQ] at h1;cases s with
  |nil=>simp at ht;omega
  |cons v s=>
   refine o9.1 λ_=>?_;repeat' first|refine aL ?_;intros|with_reducible apply cJ|(refine akd hT h λw1 X1 aj3 eh h1 EE=>?_)
   refine ER (v:=v) eh h1 (by simp only[aM] at hl;omega) λx w2 X2 N2 aoY cX h2=>?_;repeat' refine ao ?_;intros
   refine ER (v:=v) cX h2 (by simp only[aM] at hl⊢;omega) λx w3 X3 N3 AS dX h3=>?_;repeat' first|(exact uu aQ aQ (by unfold uW;rw[if_neg e2,if_neg e3,if_neg e4,if_neg e13,if_pos e14];rfl))
 ·rw[if_neg zQ,if_neg zQ] at h1;obtain⟨b,a,s,rfl⟩: ∃b a s',s=b::a::s':=by
   match s,ht with
   |[],ht=>simp at ht;omega
   |[_],ht=>simp at ht;omega
   |b::a::s,_=>exact⟨b,a,s,rfl⟩
  have hd:uW o (b::a::s) wr=match zJ o.code a b with| .ok l=>.ok (l++s,wr)| .error e=>.error e:=by
   unfold uW;rw[if_neg e2,if_neg e3,if_neg e4,if_neg e13,if_neg e14];rfl
  refine o9.1 λ_=>?_;repeat' first|refine aL ?_;intros|with_reducible apply cJ
  refine hT.GP (ahp h KC (by simp only[aM] at hl;omega)) kQ (λ_ h=>h) (λv zR w3 X3 hq qS mN dX c3=>?_) λch zR w3 X3 hq qS mN dX c3 wb pF=>?_
  ·obtain⟨l,N3,AS,hl3,hN3,h3⟩:=hq;repeat' first|(exact uu (dX.less hN3) h3 (by rw[hd,hl3]))
  ·obtain⟨e,he,hch⟩:=hq;exact dX.jd pF ⟨e,by rw[hd,he],hch⟩
end
end Go.Proofs.YtgfijddlkhkopaaGreat