/- Part 8 of the proof. -/
import Derived.Test.YtgfijddlkhkopaaGreatH7
set_option linter.all false
open List renaming mem_singleton → ax, map_append → aC, replicate → gG, getElem?_append_left → cV, length_append → aa, getElem?_append_right → bQ, append_assoc → ao, length_map → af, getLast?_eq_some_getLast → mB, nil_append → bp, take_of_length_le → az, length_cons → aJ, dropLast_concat_getLast → sF, pairwise_singleton → vG, getElem?_eq_getElem → aS, not_mem_nil → dJ
open ByteArray renaming size_append → rD
open Go.Value renaming int → ay
open Option.some renaming inj → cA
open Nat renaming le_trans → ad
namespace Go.Proofs.YtgfijddlkhkopaaGreat
open Go.Proofs.Tryz renaming prog → pg
open Go.aK
set_option maxRecDepth 100000
set_option maxHeartbeats 4000000
attribute [local irreducible] un jn jh ji ld1 jt st1 nW mP pN sR qj JG ET gT rY aY nU nV eW eV eU eC eF gE nB fin jl bC dF vS N9 JH JI HP JJ JK Oa Ob JL Oc Gi Gj JM JN JO Od Oe JP
def qB:Nat->Nat->List Nat
 |0,_=>[]
 |k+1,n=>qB k (n/10)++[48+n % 10]
theorem vL: ∀k n,(qB k n).length=k
 |0,_=>rfl
 |k+1,n=>by rw[qB,aa,vL];rfl
def bV (dir:ByteArray) (n:Nat):ByteArray:=dir++⟨#[46]⟩++Cl (qB 8 n)
theorem Bl (dir:ByteArray) (n:Nat):(bV dir n).size=dir.size+9:=by
 unfold bV;rw[rD,rD,US,vL];rfl
variable {X : XS} {w : World} {b : Nat}
section
variable {P : Program} {N : Value -> Prop} {t : TypeId}
theorem afA {a:Nat} (hb:b≠0) (h:N (I ((a % b:Nat):Int))):aY P X w (binOp .rem t (I (a:Int)) (I (b:Int))) N:=by
 refine bK (λwa=>?_) h;simp[binOp,Op.intDiv,hb];exact(Int.ofNat_tmod a b).symm
theorem an7 {a:Nat} (hb:b≠0) (ha:a<2^63) (h:N (I ((a/b:Nat):Int))):aY P X w (binOp .quo t (I (a:Int)) (I (b:Int))) N:=by
 refine bK (λwa=>?_) h;have h1:(a:Int).tdiv b=((a/b:Nat):Int):=(Int.ofNat_tdiv a b).symm;have h2:a/b<=a:=Nat.div_le_self a b;have h3:IntKind.i64.wrap ((a/b:Nat):Int)=((a/b:Nat):Int):=by
  generalize a/b=q at h2;simp[IntKind.wrap,IntKind.bits,IntKind.signed];omega
 have dO: ¬(b:Int)=0:=by omega
 simp only[binOp,Op.intDiv,dO,if_false,h1,h3];simp
end
theorem apx (a:Int):Instr.fill (λi=>some (i*1,1)) ((Array.range (8*1)).map ((ay .u8 0).cells[· % (ay .u8 0).cells.size]!)) [(0,.int .u8 a),(1,.int .u8 a),(2,.int .u8 a),(3,.int .u8 a),(4,.int .u8 a),(5,.int .u8 a),(6,.int .u8 a),(7,.int .u8 a)]=some #[.int .u8 a,.int .u8 a,.int .u8 a,.int .u8 a,.int .u8 a,.int .u8 a,.int .u8 a,.int .u8 a]:=by kernel_rfl
abbrev U8 (x:Nat):Value:=.int .u8 x
variable {dir : ByteArray}
theorem yF {n:Nat} (hd:dir.size<=2^40) (hn:n<2^63):Ct pg 178 #[.string dir,I n] w X nX λv wa w'=>v= .string (bV dir n):=by
 intro w0 hk;refine abi.1 λ_=>?_;have hT:Ft w0 nX w0 (bP w0) nX:=Ft.init λ_ h=>h.elim;refine Wn (e:=5) (k:=1) (bytes:=1) (rows:=(gG 8 48).map U1) #[.int .u8 48,.int .u8 48,.int .u8 48,.int .u8 48,.int .u8 48,.int .u8 48,.int .u8 48,.int .u8 48] (.int .u8 0) hT.s.has kQ kQ dQ dQ (apx 48) sQ rfl rfl λs w1 X1 aB ho=>?_;rcases ho.row with⟨_,he⟩|⟨g,cap,cs,rfl,gr,bt,ql,iq,qI,tW⟩
 ·cases he
 have h8:cs.take 8=(gG 8 48).map U8:=tW;have hl8:8<=cs.length:=by have:((gG 8 48).map U1).length<=cap:=ql;simp at this;omega
 refine ak3 bt kQ kQ aB.has λw2 X2 hc hF=>?_;have eo:Ft w0 nX w1 X1 (λk=>k=g):=(hT.since aB).more λk ah=>by subst ah;exact .inr ⟨bt.1,gr⟩
 have da:Ft w0 nX w2 X2 (λk=>k=g):=eo.dT hc (λk ah=>ah) λk ah=>.inl ah;refine gM (λn' a b w X=> ∃(k m:Nat) (tail:List Nat) (cs:List Value),a=I ((k:Int)-1)/\b=I (m:Int)/\n'=k/\k<=8/\m<2^63/\qB 8 n=qB k m++tail/\I7 w X g cs 5/\cs.take 8=(gG k 48++tail).map U8/\8<=cs.length/\Ft w0 nX w X (λk=>k=g)) 8 ⟨8,n,[],cs,rfl,rfl,rfl,Nat.le_refl _,hn,by simp,hF,by simpa using h8,hl8,da⟩ ?_;clear h8 hl8 hF da hc;rintro k a b w X ⟨_,m,tail,cs,rfl,rfl,rfl,hk8,hm,Zp,hF,Np,hl8,da⟩;have cI:(qB k m).length+tail.length=8:=by have:=congrArg List.length Zp;rw[vL,aa] at this;exact this.symm
 rw[vL] at cI;cases k with
 |succ k=>
  have A9:cs[k]? =some (U8 48):=by
   have h1:(cs.take 8)[k]? =cs[k]? :=by rw[List.getElem?_take,if_pos zQ]
   rw[<-h1,Np,aC,cV sQ];simp
  have BU:=hF.cells.Wq A9;rw[Nat.zero_add] at BU;have hz:((k+1:Nat):Int)-1=(k:Nat):=by omega
  have h49:IntKind.u8.wrap (((48:Nat):Int)+IntKind.u8.wrap ((m % 10:Nat):Int))=((48+m % 10:Nat):Int):=by rw[M4,M4];omega
  rw[hz];repeat' refine aI ?_;intros
  refine ael rfl oQ kQ kQ ?_;rw[Nat.mul_one];refine aex BU (Mv.refl _ _) kQ rfl ?_;refine afA (a:=m) (b:=10) zQ ?_;refine aey kQ kQ ?_;refine oG ?_;rw[h49];refine ael rfl oQ kQ kQ ?_;rw[Nat.mul_one];refine ao2 hF kQ zQ rfl da.s.has λw3 X3 c hF3=>?_;have dU:Ft w0 nX w3 X3 (λk=>k=g):=da.dT c (λk ah=>ah) λk ah=>.inl ah;refine an7 (a:=m) (b:=10) zQ hm ?_;repeat' refine aq ?_;intros
  refine fG k zQ ⟨k,m/10,(48+m % 10)::tail,_,rfl,rfl,rfl,by omega,by omega,?_,hF3,?_,by rw[List.length_set];exact hl8,dU⟩
  ·rw[Zp,qB,ao];rfl
  ·rw[List.take_set,Np];have e:(gG (k+1) 48++tail)=gG k 48++48::tail:=by rw[List.replicate_succ',ao];rfl
   rw[e,aC,aC,List.set_append_right _ _ sQ,af,List.length_replicate,Nat.sub_self];rfl
 |zero=>
  have htl:tail=qB 8 n:=by rw[Zp];rfl
  have arN:cs.take 8=(qB 8 n).map U8:=by rw[Np,<-htl];rfl
  have BU:Cells w X g 0 ((qB 8 n).map λx:Nat=>ay .u8 x):=by
   have h1:=hF.cells.part 0 8;rw[List.drop_zero,arN] at h1;exact h1
  have h2:ai (bP w0) w0 X w:=da.Du;repeat' refine aI ?_;intros
  refine Zl (by show dir.size+1<=_;omega) ?_;refine Sy (e:=5) (by simp[vL]) BU kQ kQ kQ da.s.has λw4 X4 gd=>?_;replace h2:=h2.trans gd;refine Zl (by rw[rD,US,vL];show dir.size+1+8<=_;omega) ?_;exact cH h2 λwa aL=>rfl
theorem adA {n:Nat} (h1:1<=dir.size) (h2:dir.size<=11) (h3:1<=n) (h4:n<=99999999):Ct pg 124 #[.string dir,I n] w X nX λv wa w'=>v= .tuple #[.string (bV dir n),I 0]:=by
 intro w0 hk;refine abh.1 λhs=>?_;repeat' first|refine aI ?_;intros|refine dg ?_ ?_<;>intros|(refine cM (yF zQ zQ) kQ hs.has ?_;rintro _ wa w X rfl hle gC aB;replace hs:=hs.trans aB)|(refine qr ?_;intro wa hk;rfl)
 rename_i he;subst he;exact absurd h1 dQ
structure dV where
 first:Nat
 bw:List (List Nat)
 size:Nat
structure LM where
 dir:ByteArray
 room:Nat
 bJ:List dV
 safe:Int
def LM.last (L:LM):dV:=L.bJ.getLast?.getD ⟨0,[],0⟩
def LM.next (L:LM):Nat:=L.last.first+L.last.bw.length
def LM.fh (L:LM):ByteArray:=bV L.dir L.last.first
structure LD where
 L:LM
 m:DM
def LD.sync (x:LD):LD×Nat:=let r:=x.m.sync x.L.fh;(⟨if r.2=0 then { x.L with safe:=(x.L.next:Int)-1 } else x.L,r.1⟩,r.2)
def LD.iI (x:LD) (n:Nat):LD×Nat:=let r:=x.m.create (bV x.L.dir n);(⟨if r.2=0 then { x.L with bJ:=x.L.bJ++[⟨n,[],0⟩] } else x.L,r.1⟩,r.2)
def LD.room (x:LD):LD×Nat:=if x.L.room<=x.L.last.size then(let r:=x.sync;if r.2≠0 then r else r.1.iI x.L.next)else(x,0)
def LM.add (L:LM) (p:List Nat):LM:= { L with bJ:=L.bJ.dropLast++[⟨L.last.first,L.last.bw++[p],L.last.size+(dr p).length⟩] }
def LD.lay (x:LD) (p:List Nat):LD×Nat:=let r:=x.m.append x.L.fh (dr p);(⟨if r.2=0 then x.L.add p else x.L,r.1⟩,r.2)
def LD.append (x:LD) (p:List Nat):LD×Nat×Nat:=
 if 262144<p.length then(x,0,2)else if 99999999<x.L.next then(x,0,1)else
  let r:=x.room
  if r.2≠0 then(r.1,0,r.2)else
   let q:=r.1.lay p
   if q.2≠0 then(q.1,0,q.2)else(q.1,x.L.next,0)
structure nf where
 b:Nat
 first:Nat
 rv:Value
 rs:List (Value×List Nat)
 size:Nat
def nf.er (s:nf):dV:=⟨s.first,s.rs.map (·.2),s.size⟩
def aav (x y:nf):Prop:=x.b≠y.b/\ ∀g,x.rv.ownBlock=some g->y.rv.ownBlock≠some g
def xm (l:List Nat):Prop:= ∀x∈l,x<256
structure zG (w:World) (F:XS) (lb db:Nat) (sv:Value) (bl:List nf) (L:LM):Prop where
 bJ:L.bJ=bl.map nf.er
 box:aH w F lb [ptr db 0,.string L.dir,I L.room,sv,I L.safe] 231
 so:Ow w F 239 1 sv (bl.map λs=>[ptr s.b 0])
 row: ∀s∈bl,aH w F s.b [I s.first,s.rv,I s.size] 238
 AD: ∀s∈bl,Ow w F 151 1 s.rv (s.rs.map λr=>[r.1])
 H4: ∀s∈bl,∀r∈s.rs,Ow w F 5 1 r.1 (r.2.map U1)
 ap:bl.Pairwise aav
variable {L : LM} {sv : Value} {db lb : Nat} {F F' : XS} {w' : World}
def zG.mv {bl:List nf} (h:zG w F lb db sv bl L) (v:Mv F w F' w'):zG w' F' lb db sv bl L:=
 ⟨h.bJ,h.box.mv v,h.so.mv v,λs hs=>(h.row s hs).mv v,λs hs=>(h.AD s hs).mv v,λs hs r hr=>(h.H4 s hs r hr).mv v,h.ap⟩
def Lg (w:World) (F:XS) (lb db:Nat) (L:LM) (m:DM):Prop:=
 ∃FL FD sv bl,Dj FL FD/\(∀k,FL k->F k)/\(∀k,FD k->F k)/\zG w FL lb db sv bl L/\Dk w FD db m
variable {m : DM}
theorem Lg.mv (h:Lg w F lb db L m) (v:Mv F w F w'):Lg w' F lb db L m:=by
 obtain⟨FL,FD,sv,bl,hd,h1,h2,h3,h4⟩:=h;exact⟨FL,FD,sv,bl,hd,h1,h2,h3.mv λk hk hl=>⟨hk,(v k (h1 k hk) hl).2⟩,h4.mv λk hk hl=>⟨hk,(v k (h2 k hk) hl).2⟩⟩
theorem Lg.mono (h:Lg w F lb db L m) (hs: ∀k,F k->F' k):Lg w F' lb db L m:=by
 obtain⟨FL,FD,sv,bl,hd,h1,h2,h3,h4⟩:=h;exact⟨FL,FD,sv,bl,hd,λk hk=>hs k (h1 k hk),λk hk=>hs k (h2 k hk),h3,h4⟩
structure pT (L:LM):Prop where
 ne:L.bJ≠[]
 d1:1<=L.dir.size
 d2:L.dir.size<=11
 yY: ∀s∈L.bJ,s.first+s.bw.length<=2^40/\s.size<=2^40
 room:L.room<=2^40
theorem LM.yb (h:L.bJ≠[]):L.last∈L.bJ:=by
 unfold LM.last;rw[mB h]
 grind
theorem LM.SN (h:L.bJ≠[]):L.bJ=L.bJ.dropLast++[L.last]:=by
 unfold LM.last;rw[mB h];exact(sF h).symm
theorem pT.next (h:pT L):L.next<=2^40:=(h.yY _ (LM.yb h.ne)).1
theorem pT.first (h:pT L):L.last.first<=2^40:=by have:=h.next;unfold LM.next at this;omega
theorem zG.last {bl:List nf} (h:zG w F lb db sv bl L) (hL:pT L): ∃rK s,bl=rK++[s]/\s.er=L.last/\L.bJ.dropLast=rK.map nf.er:=by
 have cu:bl≠[]:=λe=>hL.ne (by rw[h.bJ,e];rfl);refine⟨bl.dropLast,bl.getLast cu,(sF cu).symm,?_,?_⟩
 ·unfold LM.last;rw[h.bJ,List.getLast?_map,mB cu];rfl
 ·rw[h.bJ,List.map_dropLast]
variable {s : nf} {rK : List nf}
section
variable {bl : List nf}
theorem yG (h:zG w F lb db sv (rK++[s]) L) (hF:FX F X w):Ct pg 130 #[ptr lb 0] w X nX λv wa w'=>v=ptr s.b 0:=by
 intro w0 hk;replace h:=h.mv (hF.mv hk);have hX:=λk ah=>(hF.kp hk k ah).1;have hb:=h.box.mv (Mv.sub hX);have zF:=h.so.sl.mono hX;have hlen:=zF.gV;have wo:(rK++[s]).length=rK.length+1:=by simp
 have DB:(rK++[s])[rK.length]? =some s:=by simp
 refine RD.1 λhs=>?_;repeat' first|refine aq ?_;intros|(refine qr ?_;intro wa hk;rfl)
theorem Ei (h:zG w F lb db sv bl L) (hL:pT L) (hF:FX F X w):Ct pg 77 #[ptr lb 0] w X nX λv wa w'=>v=I L.next:=by
 intro w0 hk;obtain⟨rK,s,rfl,he,_⟩:=h.last hL;replace h:=h.mv (hF.mv hk);have hX:=λk ah=>(hF.kp hk k ah).1;have lJ:s∈rK++[s]:=by simp
 have hb:=(h.row s lJ).mv (Mv.sub hX);have hr:=(h.AD s lJ).sl.mono hX;have hn:=hL.next
 have nL:L.next=s.first+s.rs.length:=by unfold LM.next;rw[<-he];simp[nf.er]
 have oK:FX F (bP w0) w0:=hF.kp hk;refine Rz.1 λhs=>?_;refine cM (yG h oK) kQ hs.has ?_;rintro _ wa w1 X1 rfl hle gC aB;replace hs:=hs.trans aB;have mc:=hb.since hs;repeat' refine aq ?_;intros
 refine cM (yG (h.mv (hs.gY hX)) λk ah=>⟨hs.sub k (hX k ah),hs.has k (hs.sub k (hX k ah))⟩) kQ hs.has ?_;rintro _ xN w2 X2 rfl lK ko bH;replace hs:=hs.trans bH;have xh:=hb.since hs;have jJ:=hr.since hs;clear mc;repeat' first|refine aq ?_;intros|(refine qr ?_;intro wa hk;(rw[nL];simp))
theorem Oz (h:zG w F lb db sv bl L) {s:dV} {r:List dV} (hL:L.bJ=s::r) (hF:FX F X w):Ct pg 76 #[ptr lb 0] w X nX λv wa w'=>v=I s.first:=by
 intro w0 hk;have Lv:=h.bJ;rw[hL] at Lv;cases bl with
 |nil=>cases Lv
 |cons s' rK=>
  simp only[List.map_cons,List.cons.injEq] at Lv;replace h:=h.mv (hF.mv hk);have hX:=λk ah=>(hF.kp hk k ah).1;have hb:=h.box.mv (Mv.sub hX);have xh:=(h.row s' sQ).mv (Mv.sub hX);refine PH.1 λhs=>?_;repeat' refine aq ?_;intros
  refine aeh (i:=0) (h.so.sl.mono hX) rfl rfl kQ kQ λb o hc=>?_;repeat' first|refine aq ?_;intros|(refine qr ?_;intro wa hk;(rw[Lv.1];rfl))
end
structure LW (w:World) (F:XS) (lb db:Nat) (L:LM) (m:DM) (FL FD:XS) (sv:Value) (bl:List nf):Prop where
 dj:Dj FL FD
 hL: ∀k,FL k->F k
 hD: ∀k,FD k->F k
 l:zG w FL lb db sv bl L
 d:Dk w FD db m
def Lg.lw (h:Lg w F lb db L m): ∃FL FD sv bl,LW w F lb db L m FL FD sv bl:=let⟨FL,FD,sv,bl,a,b,c,d,e⟩:=h;⟨FL,FD,sv,bl,a,b,c,d,e⟩
variable {FD FL : XS}
def LW.lg {bl:List nf} (h:LW w F lb db L m FL FD sv bl):Lg w F lb db L m:=⟨FL,FD,sv,bl,h.dj,h.hL,h.hD,h.l,h.d⟩
variable {wa : World} {Oy X' : XS} {m' : DM}
section
variable {bl : List nf}
def LW.mv (h:LW w F lb db L m FL FD sv bl) (v:Mv F w F w'):LW w' F lb db L m FL FD sv bl:=
 ⟨h.dj,h.hL,h.hD,h.l.mv λk hk hl=>⟨hk,(v k (h.hL k hk) hl).2⟩,h.d.mv λk hk hl=>⟨hk,(v k (h.hD k hk) hl).2⟩⟩
def LW.mono (h:LW w F lb db L m FL FD sv bl) (hs: ∀k,F k->F' k):LW w F' lb db L m FL FD sv bl:=⟨h.dj,λk hk=>hs k (h.hL k hk),λk hk=>hs k (h.hD k hk),h.l,h.d⟩
theorem LW.Pm (h:LW w F lb db L m FL FD sv bl) (hF:FX F X w) (hle:w.heap.size<=wa.heap.size) (c:dY FD X w X' w') (Dg: ∀k,Oy k->FD k\/made wa w' k) (hd:Dk w' Oy db m'):LW w' (λk=>F k\/made wa w' k) lb db L m' FL Oy sv bl:=
 ⟨λk a b=>(Dg k b).elim (h.dj k a) λhm=>by have:=(hF k (h.hL k a)).2;have:=hm.1;omega,λk hk=>.inl (h.hL k hk),λk hk=>(Dg k hk).imp (h.hD k) id,
  h.l.mv (c.jj λk hk=>⟨(hF k (h.hL k hk)).1,λhf=>h.dj k hk hf⟩),hd⟩
theorem zG.alo {z:Int} (h:zG w FL lb db sv bl L) (hX: ∀k,FL k->X k) (c:dY (· =lb) X w X' w') (hr:aH w' X' lb [ptr db 0,.string L.dir,I L.room,sv,I z] 231):zG w' FL lb db sv bl { L with safe:=z } :=by
 have mv: ∀{A:XS},(∀k,A k->FL k/\k≠lb)->Mv A w FL w':=λhA k hk _=>⟨(hA k hk).1,c.block k (hX k (hA k hk).1) (hA k hk).2⟩;refine⟨h.bJ,⟨h.box.1,hr.2⟩,?_,λs hs=>?_,λs hs=>?_,λs hs r hr=>?_,h.ap⟩
 ·exact h.so.tight.mv (mv λk hk=>⟨(h.so.bg hk).1,λe=>h.so.eT h.box kQ (e▸hk)⟩)
 ·exact(h.row s hs).own.mv (mv λk hk=>by subst hk;exact⟨(h.row s hs).1,(h.row s hs).eT h.box kQ⟩)
 ·exact(h.AD s hs).tight.mv (mv λk hk=>⟨((h.AD s hs).bg hk).1,λe=>(h.AD s hs).eT h.box kQ (e▸hk)⟩)
 ·exact(h.H4 s hs r hr).tight.mv (mv λk hk=>⟨((h.H4 s hs r hr).bg hk).1,λe=>(h.H4 s hs r hr).eT h.box kQ (e▸hk)⟩)
end
theorem IN (h:Lg w F lb db L m) (hL:pT L) (hF:FX F X w):
  Ct pg 139 #[ptr lb 0] w X F λv wa w'=>v=I (LD.sync ⟨L,m⟩).2/\ ∃F',(∀k,F' k->F k\/made wa w' k)/\Lg w' F' lb db (LD.sync ⟨L,m⟩).1.L (LD.sync ⟨L,m⟩).1.m:=by
 intro w0 hk;obtain⟨FL,FD,sv,bl,h⟩:=(h.mv (hF.mv hk)).lw;have hT:=hF.ft hk;have oK:FX F (bP w0) w0:=hF.kp hk;obtain⟨rK,s,Gf,he,_⟩:=h.l.last hL;have hFL:FX FL (bP w0) w0:=λk ah=>oK k (h.hL k ah);have hX:=λk ah=>(hFL k ah).1;have hb:=h.l.box.mv (Mv.sub hX);have lJ:s∈bl:=by rw[Gf];simp
 have wA:=(h.l.row s lJ).mv (Mv.sub hX);have Fc:s.first=L.last.first:=by rw[<-he];rfl
 have hfb:=hL.first
 refine RE.1 λhs=>?_;repeat' refine aq ?_;intros
 refine cM (yG (Gf▸h.l) hFL) kQ hs.has ?_;rintro _ wa w1 X1 rfl hle gC aB;replace hs:=hs.trans aB;have XR:=wA.since hs;repeat' refine aq ?_;intros
 rw[Fc];refine cM (yF (by have:=hL.d2;omega) zQ) kQ hs.has ?_;rintro _ xN w2 X2 rfl lK ko bH;replace hs:=hs.trans bH;have da:=hT.since hs;have h2:=h.mv (hs.gY hT.bg);refine da.call (abz h2.d (da.fx h2.hD)) kQ h2.hD λv zA w3 X3 hq rn mX dU vu=>?_;obtain⟨rfl,Oy,Pk,hD⟩:=hq;have h3:=h2.Pm (da.fx λ_ h=>h) rn vu Pk hD;have eS:LD.sync ⟨L,m⟩=(⟨if(m.sync L.fh).2=0 then { L with safe:=(L.next:Int)-1 } else L,(m.sync L.fh).1⟩,(m.sync L.fh).2):=rfl;have eN:L.fh=bV L.dir L.last.first:=rfl
 rw[eS];dsimp only;rw[eN];generalize D3:m.sync (bV L.dir L.last.first)=ms at h3⊢;have nL:=hL.next
 repeat' first|refine aq ?_;intros|refine dg ?_ ?_<;>intros|with_reducible apply cK
 ·rename_i hz;have hz:ms.2=0:=by have:(ms.2:Int)=0:=(by assumption);omega
  refine cM (Ei h3.l hL (dU.fx h3.hL)) kQ dU.s.has ?_;rintro _ zB w4 X4 rfl tJ py gd;have fR:=dU.since gd;have h4:=h3.mv (gd.gY dU.bg);have hX4: ∀k,FL k->X4 k:=λk ah=>fR.bg k (h4.hL k ah);repeat' refine aq ?_;intros
  refine qo (o:=4) (h4.l.box.mv (Mv.sub hX4)) zQ kQ sQ rfl fR.s.has λw5 X5 c5 De=>?_;have iQ:=fR.dT (F':=λk=>F k\/made zA w3 k) c5 (λk ah=>by subst ah;exact h4.hL _ h4.l.box.1) λk ah=>.inl ah;refine iQ.fin λwa aL=>⟨rfl,_,iQ.jv aL λ_ h=>h,?_⟩;rw[if_pos hz];refine Lg.mv ⟨FL,Oy,sv,bl,h4.dj,h4.hL,h4.hD,(h4.l.alo hX4 c5 De),h4.d.mv (c5.jj λk ah=>⟨fR.bg k (h4.hD k ah),λe=>h4.dj k (by rw[e];exact h4.l.box.1) ah⟩)⟩ (aL.jj iQ.bg)
 ·have hz: ¬ms.2=0:=by have: ¬(ms.2:Int)=0:=(by assumption);omega
  refine dU.fin λwa aL=>⟨rfl,_,dU.jv aL λ_ h=>h,?_⟩;rw[if_neg hz];exact(h3.mv (aL.jj dU.bg)).lg
variable {G : XS} {p : List Nat}
section
variable {BX : XS} {Fb : Value} {bl : List nf}
theorem zG.ab0 (h:zG w FL lb db sv bl L) (hX:FX FL X w) (c:dY G X w X' w') (hG: ∀k,G k->k=lb\/sv.ownBlock=some k) (Z9: ∀k,FL k->BX k)
  (hr:aH w' BX lb [ptr db 0,.string L.dir,I L.room,Fb,I L.safe] 231) (ho:Ow w' BX 239 1 Fb (rK.map λs=>[ptr s.b 0]))
  (hn: ∀s∈rK,s∈bl\/(aH w' BX s.b [I s.first,s.rv,I s.size] 238/\Ow w' BX 151 1 s.rv (s.rs.map λr=>[r.1])/\ ∀r∈s.rs,Ow w' BX 5 1 r.1 (r.2.map U1)))
  (KH:rK.Pairwise aav):zG w' BX lb db Fb rK { L with bJ:=rK.map nf.er } :=by
 have mv: ∀{A:XS},(∀k,A k->FL k/\k≠lb/\sv.ownBlock≠some k)->Mv A w BX w':=λhA k hk _=>by
  obtain⟨a1,a2,a3⟩:=hA k hk;exact⟨Z9 k a1,c.block k (hX k a1).1 λhg=>(hG k hg).elim a2 a3⟩
 refine⟨rfl,hr,ho,λs hs=>?_,λs hs=>?_,λs hs r hr=>?_,KH⟩
 ·rcases hn s hs with hs|hs
  ·exact(h.row s hs).own.mv (mv λk hk=>by subst hk;exact⟨(h.row s hs).1,(h.row s hs).eT h.box kQ,h.so.eT (h.row s hs) kQ⟩)
  ·exact hs.1
 ·rcases hn s hs with hs|hs
  ·refine(h.AD s hs).tight.mv (mv λk hk=>⟨((h.AD s hs).bg hk).1,λe=>(h.AD s hs).eT h.box kQ (e▸hk),λe=>?_⟩);obtain⟨c1,h1⟩:=(h.AD s hs).tag hk;obtain⟨c2,h2⟩:=h.so.tag e;rw[h1] at h2;simp at h2
  ·exact hs.2.1
 ·rcases hn s hs with hs|hs
  ·refine(h.H4 s hs r hr).tight.mv (mv λk hk=>⟨((h.H4 s hs r hr).bg hk).1,λe=>(h.H4 s hs r hr).eT h.box kQ (e▸hk),λe=>?_⟩);obtain⟨c1,h1⟩:=(h.H4 s hs r hr).tag hk;obtain⟨c2,h2⟩:=h.so.tag e;rw[h1] at h2;simp at h2
  ·exact hs.2.2 r hr
abbrev nf.more (s:nf) (Ca pv:Value) (p:List Nat) (z:Nat):nf:=⟨s.b,s.first,Ca,s.rs++[(pv,p)],z⟩
theorem zG.alp {Ca pv:Value} {z:Nat} (h:zG w FL lb db sv (bl++[s]) L) (hX:FX FL X w) (c:dY G X w X' w') (hG: ∀k,G k->k=s.b\/s.rv.ownBlock=some k) (Z9: ∀k,FL k->BX k)
  (hr:aH w' BX s.b [I s.first,Ca,I z] 238) (ho:Ow w' BX 151 1 Ca ((s.rs++[(pv,p)]).map λr=>[r.1])) (hp:Ow w' BX 5 1 pv (p.map U1))
  (dc:Ca.ownBlock=s.rv.ownBlock\/ ∃g,Ca.ownBlock=some g/\w.heap.size<=g):
  zG w' BX lb db sv (bl++[s.more Ca pv p z]) { L with bJ:=(bl++[s.more Ca pv p z]).map nf.er } :=by
 have lW:s∈bl++[s]:=by simp
 have mv: ∀{A:XS},(∀k,A k->FL k/\k≠s.b/\s.rv.ownBlock≠some k)->Mv A w BX w':=λhA k hk _=>by
  obtain⟨a1,a2,a3⟩:=hA k hk;exact⟨Z9 k a1,c.block k (hX k a1).1 λhg=>(hG k hg).elim a2 a3⟩
 have rs:=h.row s lW;have os:=h.AD s lW;have hold: ∀x∈bl,x∈bl++[s]:=λx hx=>List.mem_append_left _ hx;have Zg:=List.pairwise_append.1 h.ap;have Ov: ∀x∈bl,aav x s:=λx hx=>Zg.2.2 x hx s sQ;have an8: ∀x∈bl++[s],∀r∈x.rs,Ow w' BX 5 1 r.1 (r.2.map U1):=λx hx r hr=>by
  refine(h.H4 x hx r hr).tight.mv (mv λk hk=>⟨((h.H4 x hx r hr).bg hk).1,λe=>(h.H4 x hx r hr).eT rs kQ (e▸hk),λe=>?_⟩);obtain⟨c1,h1⟩:=(h.H4 x hx r hr).tag hk;obtain⟨c2,h2⟩:=os.tag e;rw[h1] at h2;simp at h2
 refine⟨rfl,?_,?_,λx hx=>?_,λx hx=>?_,λx hx r hr=>?_,?_⟩
 ·exact h.box.own.mv (mv λk hk=>by subst hk;exact⟨h.box.1,(rs.eT h.box kQ).symm,os.eT h.box kQ⟩)
 ·have:(bl++[s.more Ca pv p z]).map (λs=>[ptr s.b 0])=(bl++[s]).map (λs=>[ptr s.b 0]):=by simp
  rw[this];refine h.so.tight.mv (mv λk hk=>⟨(h.so.bg hk).1,λe=>h.so.eT rs kQ (e▸hk),λe=>?_⟩);obtain⟨c1,h1⟩:=h.so.tag hk;obtain⟨c2,h2⟩:=os.tag e;rw[h1] at h2;simp at h2
 ·rcases List.mem_append.1 hx with hx|hx
  ·have ha:=Ov x hx;have rx:=h.row x (hold x hx);exact rx.own.mv (mv λk hk=>by subst hk;exact⟨rx.1,ha.1,os.eT rx kQ⟩)
  ·simp only[ax] at hx;subst hx;exact hr
 ·rcases List.mem_append.1 hx with hx|hx
  ·have ha:=Ov x hx;have ox:=h.AD x (hold x hx);exact ox.tight.mv (mv λk hk=>⟨(ox.bg hk).1,λe=>ox.eT rs kQ (e▸hk),λe=>ha.2 k hk e⟩)
  ·simp only[ax] at hx;subst hx;exact ho
 ·rcases List.mem_append.1 hx with hx|hx
  ·exact an8 x (hold x hx) r hr
  ·simp only[ax] at hx;subst hx;rcases List.mem_append.1 hr with hr|hr
   ·exact an8 s lW r hr
   ·simp only[ax] at hr;subst hr;exact hp
 ·refine List.pairwise_append.2 ⟨Zg.1,vG _ _,λx hx y hy=>?_⟩;simp only[ax] at hy;subst hy;have ha:=Ov x hx;refine⟨ha.1,λg hg mN=>?_⟩;rcases dc with e|⟨g',e,dC⟩
  ·exact ha.2 g hg (e▸mN)
  ·have:=(hX g ((h.AD x (hold x hx)).bg hg).1).2;have e2:Ca.ownBlock=some g:=mN;rw[e] at e2;have:g'=g:=cA e2;omega
end
theorem QW {n:Nat} (h:Lg w F lb db L m) (rH:L.dir.size<=11) (hn:n<=2^40) (pf:L.bJ.length<=2^30) (hF:FX F X w):
  Ct pg 128 #[ptr lb 0,I n] w X F λv wa w'=>v=I (LD.iI ⟨L,m⟩ n).2/\ ∃F',(∀k,F' k->F k\/made wa w' k)/\Lg w' F' lb db (LD.iI ⟨L,m⟩ n).1.L (LD.iI ⟨L,m⟩ n).1.m:=by
 intro w0 hk;obtain⟨FL,FD,sv,bl,h⟩:=(h.mv (hF.mv hk)).lw;have hT:=hF.ft hk;have oK:FX F (bP w0) w0:=hF.kp hk;have hX:=λk ah=>(oK k (h.hL k ah)).1;have hb:=h.l.box.mv (Mv.sub hX);refine RC.1 λhs=>?_;repeat' refine aq ?_;intros
 refine cM (yF zQ zQ) kQ hs.has ?_;rintro _ xN w2 X2 rfl lK ko bH;replace hs:=hs.trans bH;have da:=hT.since hs;have h2:=h.mv (hs.gY hT.bg);refine da.call (VX h2.d (da.fx h2.hD)) kQ h2.hD λv zA w3 X3 hq rn mX dU vu=>?_;obtain⟨rfl,Oy,Pk,hD⟩:=hq;have h3:=h2.Pm (da.fx λ_ h=>h) rn vu Pk hD;have eS:LD.iI ⟨L,m⟩ n=(⟨if(m.create (bV L.dir n)).2=0 then { L with bJ:=L.bJ++[⟨n,[],0⟩] } else L,(m.create (bV L.dir n)).1⟩,(m.create (bV L.dir n)).2):=rfl;rw[eS];dsimp only;generalize D3:m.create (bV L.dir n)=ms at h3⊢;have hX3: ∀k,FL k->X3 k:=λk ah=>dU.bg k (h3.hL k ah);have rW:=h3.l.box.mv (Mv.sub hX3);have adv:=h3.l.so.mono hX3;have Gf:bl.length=L.bJ.length:=by rw[h3.l.bJ,af]
 clear hs;repeat' first|refine aq ?_;intros|refine dg ?_ ?_<;>intros|with_reducible apply cK
 ·have hz:ms.2=0:=by have:(ms.2:Int)=0:=(by assumption);omega
  refine Bj dU.s.has λbx w4 X4 gn gd bt=>?_;have Pg:=adv.mv gd.mv;refine XP (bytes:=8) (row:=[ptr bx 0]) Pg gd.has kQ rfl rfl rfl oQ oQ λFb w5 X5 c5 uG wP=>?_;have yS:=rW.since gd;have cu: ∀q,fv sv q->q≠lb:=λq hq e=>Pg.eT yS kQ (by rw[<-e];exact hq);have BS:aH w5 X5 lb [ptr db 0,.string L.dir,I L.room,sv,I L.safe] 231:=⟨c5.sub _ yS.1,by rw[c5.block _ yS.1 λhq=>cu _ hq rfl];exact yS.2⟩;repeat' refine aq ?_;intros
  refine qo (o:=3) BS zQ kQ sQ uG.one c5.has λw6 X6 c6 Bh=>?_;have Ph: ∀q,fv sv q->FL q:=λq hq=>(h3.l.so.bg hq).1;have cc:dY (λk=>k=lb\/sv.ownBlock=some k) X3 w3 X6 w6:=((dY.oh gd _).trans (c5.mono λk _ ah=>.inr ah)).trans (c6.mono λk _ ah=>.inl ah);have ku:Ft w0 F w6 X6 (λk=>(F k\/made zA w3 k)\/(X6 k/\w3.heap.size<=k)):=dU.dT cc (λk ah=>by
   rcases ah with rfl|ah
   ·exact h3.hL _ h3.l.box.1
   ·exact h3.hL _ (Ph _ ah)) λk ah=>ah
  have Lt: ∀g,Fb.ownBlock=some g->FL g\/(X6 g/\w3.heap.size<=g):=λg hg=>by
   rcases wP with e|⟨g',e,dC⟩
   ·exact .inl (Ph _ (e.symm.trans hg))
   ·rw[hg] at e;have:g=g':=cA e;subst this;exact .inr ⟨c6.sub _ (uG.bg hg).1,ad gd.kp.size dC⟩
  have ahR:Fb.ownBlock≠some lb:=uG.eT BS kQ;have adw:bx≠lb:=bt.eT yS kQ;have adx: ¬fv sv bx:=λhq=>Pg.eT bt kQ hq;have hL6:=h3.l.ab0 (BX:=λk=>FL k\/(X6 k/\w3.heap.size<=k)) (Fb:=Fb) (rK:=bl++[⟨bx,n,.slice none 0 0,[],0⟩]) (dU.fx h3.hL) cc (λk ah=>ah) (λk ah=>.inl ah) ⟨.inl h3.l.box.1,Bh.2⟩ ?_ ?_ ?_
  ·refine ku.fin λwa aL=>⟨rfl,_,ku.jv aL λ_ h=>h,?_⟩;rw[if_pos hz];have e:({ L with bJ:=(bl++[(⟨bx,n,.slice none 0 0,[],0⟩:nf)]).map nf.er } :LM)= { L with bJ:=L.bJ++[⟨n,[],0⟩] } :=by
    rw[aC,<-h3.l.bJ];rfl
   rw[<-e];refine Lg.mv ⟨_,Oy,Fb,_,?_,?_,?_,hL6,h3.d.mv (cc.jj λk ah=>⟨dU.bg k (h3.hD k ah),λhg=>?_⟩)⟩ (aL.jj ku.bg)
   ·intro k ha dO;rcases ha with ha|ha
    ·exact h3.dj k ha dO
    ·have:=(dU.fx h3.hD k dO).2;omega
   ·exact λk ah=>ah.imp (h3.hL k) id
   ·exact λk ah=>.inl (h3.hD k ah)
   ·rcases hg with rfl|hg
    ·exact h3.dj _ h3.l.box.1 ah
    ·exact h3.dj _ (Ph _ hg) ah
  ·rw[aC];refine uG.tight.mv λk ah hl=>⟨Lt k ah,c6.block k (uG.bg ah).1 λe=>ahR (by rw[<-(show k=lb from e)];exact ah)⟩
  ·intro s tp;rcases List.mem_append.1 tp with tp|tp
   ·exact .inl tp
   ·simp only[ax] at tp;subst tp;have hb6:w6.heap[bx]? =w4.heap[bx]? :=by
     rw[c6.block bx (c5.sub _ bt.1) adw,c5.block bx bt.1 adx]
    exact .inr ⟨⟨.inr ⟨c6.sub _ (c5.sub _ bt.1),gn⟩,by rw[hb6];exact bt.2⟩,Ow.nil _ _ _ _,λr hr=>by cases hr⟩
  ·refine List.pairwise_append.2 ⟨h3.l.ap,vG _ _,λx hx y hy=>?_⟩;simp only[ax] at hy;subst hy;refine⟨λe=>?_,λg hg mN=>by cases mN⟩;have:=(dU.fx h3.hL _ (h3.l.row x hx).1).2;have e':x.b=bx:=e;omega
 ·have hz: ¬ms.2=0:=by have: ¬(ms.2:Int)=0:=(by assumption);omega
  refine dU.fin λwa aL=>⟨rfl,_,dU.jv aL λ_ h=>h,?_⟩;rw[if_neg hz];exact(h3.mv (aL.jj dU.bg)).lg
theorem pT.safe (h:pT L) (z:Int):pT { L with safe:=z } :=⟨h.ne,h.d1,h.d2,h.yY,h.room⟩
theorem pT.sync (h:pT L):pT (LD.sync ⟨L,m⟩).1.L:=by
 unfold LD.sync;dsimp only;split
 ·exact h.safe _
 ·exact h
theorem pT.iI {n:Nat} (h:pT L) (hn:n<=2^40):pT (LD.iI ⟨L,m⟩ n).1.L:=by
 unfold LD.iI;dsimp only;split
 ·refine⟨by simp,h.d1,h.d2,λs hs=>?_,h.room⟩;rcases List.mem_append.1 hs with hs|hs
  ·exact h.yY s hs
  ·simp only[ax] at hs;subst hs;exact⟨by simpa using hn,by simp⟩
 ·exact h
theorem LD.UC (x:LD):x.sync.1.L.bJ=x.L.bJ:=by unfold LD.sync;dsimp only;split<;>rfl
theorem LD.ajp (x:LD):x.sync.1.L.dir=x.L.dir:=by unfold LD.sync;dsimp only;split<;>rfl
variable {vp : Value}
theorem Yg {S:XS} (h:Lg w F lb db L m) (hL:pT L) (pf:L.bJ.length<=2^30) (hF:FX F X w) (hp:Sl w S 1 vp (p.map U1)) (hS: ∀k,S k->X k/\ ¬F k):
  Ct pg 138 #[ptr lb 0,vp] w X F λv wa w'=>v= .tuple #[I (LD.append ⟨L,m⟩ p).2.1,I (LD.append ⟨L,m⟩ p).2.2]/\
   ∃F',(∀k,F' k->F k\/made wa w' k)/\Lg w' F' lb db (LD.append ⟨L,m⟩ p).1.L (LD.append ⟨L,m⟩ p).1.m:=by
 intro w0 hk;obtain⟨FL,FD,sv,bl,h⟩:=(h.mv (hF.mv hk)).lw;have hT:=hF.ft hk;have hp0:Sl w0 (out F w0) 1 vp (p.map U1):=hp.mv λk ah hl=>⟨⟨Nat.lt_of_lt_of_le hl hk.size,(hS k ah).2⟩,hk.block k (hS k ah).1⟩;have wy:=hp0.gV;have nL:=hL.next
 generalize hr:LD.append ⟨L,m⟩ p=r;unfold LD.append at hr;dsimp only at hr;refine NI.1 λ_=>?_;refine cM (Ei h.l hL (hT.fx h.hL)) kQ hT.s.has ?_;rintro _ wa w1 X1 rfl hle gC aB;have eo:=hT.since aB;have h1:=h.mv (aB.gY hT.bg);have hpA: ∀{w X F'},Ft w0 F w X F'->Sl w X 1 vp (p.map U1):=λhT=>hp0.mv hT.s.mv;have hp1:=hpA eo;have stay:r.1=⟨L,m⟩-> ∀wa,Kp X1 w1 wa-> ∃F',(∀k,F' k->F k\/made w0 wa k)/\Lg wa F' lb db r.1.L r.1.m:=λe wa aL=>⟨F,eo.jv aL λ_ h=>h,by rw[e];exact(h1.mv (aL.jj eo.bg)).lg⟩;repeat' first|refine aq ?_;intros|refine dg ?_ ?_<;>intros
 ·rw[if_pos zQ] at hr;subst hr;exact eo.fin λwa aL=>⟨rfl,stay rfl wa aL⟩
 ·rw[if_neg zQ,if_pos zQ] at hr;subst hr;exact eo.fin λwa aL=>⟨rfl,stay rfl wa aL⟩
 ·rw[if_neg zQ,if_neg zQ] at hr;clear stay;refine ib (λk=> ∀(w:World) (X F1 FL FD:XS) (sv:Value) (bl:List nf) (x:LD),LD.room ⟨L,m⟩=(x,0)->pT x.L->x.L.bJ.length<=2^30+1->Ft w0 F w X F1->LW w F1 lb db x.L x.m FL FD sv bl->k w X) ?_ ?_
  ·intro w X F1 FL FD sv bl x Gm hxL J7 da h2;rw[Gm] at hr;dsimp only at hr;rw[if_neg sQ] at hr;obtain⟨rK,s,rfl,he,E8⟩:=h2.l.last hxL;refine cM (yG h2.l (da.fx h2.hL)) kQ da.s.has ?_;rintro _ zA w3 X3 rfl rn mX dt;have dU:=da.since dt;have h3:=h2.mv (dt.gY da.bg);refine cM (V8 (hpA dU)) kQ dU.s.has ?_;rintro vq zB w4 X4 hq tJ py gd;rw[if_neg zQ] at hq;obtain⟨vb,rfl,yT⟩:=hq;have fR:=dU.since gd;have h4:=h3.mv (gd.gY dU.bg);have hX4: ∀k,FL k->X4 k:=λk ah=>fR.bg k (h4.hL k ah);have yS:=h4.l.box.mv (Mv.sub hX4);have lJ:s∈rK++[s]:=by simp
   have as8:=(h4.l.row s lJ).mv (Mv.sub hX4);have Fc:s.first=x.L.last.first:=by rw[<-he];rfl
   have gh:s.size=x.L.last.size:=by rw[<-he];rfl
   have hrs:x.L.last.bw=s.rs.map (·.2):=by rw[<-he];rfl
   have hfb:=hxL.first
   have nL:=hxL.next
   have XQ:=hxL.yY _ (LM.yb hxL.ne);have pM:s.rs.length=x.L.last.bw.length:=by rw[hrs,af]
   have iP:=ru p;have ovb:=yT.one;repeat' refine aq ?_;intros
   rw[Fc];refine cM (yF (by have:=hxL.d2;omega) zQ) kQ fR.s.has ?_;rintro _ Oo w5 X5 rfl IG E4 tr;have iQ:=fR.since tr;have h5:=h4.mv (tr.gY fR.bg);have hz4:=gd.kp.size;have arO:Sl w5 (made zB w4) 1 vb ((dr p).map U1):=yT.sl.mv λk ah hl=>⟨ah,tr.kp.block k (py k ah)⟩;refine iQ.call (VW h5.d (iQ.fx h5.hD) arO (λk ah=>⟨tr.sub k (py k ah),λhf=>?_⟩) zQ) kQ h5.hD λv wa6 w6 X6 hq XU Lt ku hc6=>?_
   ·have:=(dU.fx h3.hD k hf).2;have:=ah.1;omega
   obtain⟨rfl,Oy,Pk,hD⟩:=hq;have h6:=h5.Pm (iQ.fx λ_ h=>h) XU hc6 Pk hD;have eL:x.lay p=(⟨if(x.m.append x.L.fh (dr p)).2=0 then x.L.add p else x.L,(x.m.append x.L.fh (dr p)).1⟩,(x.m.append x.L.fh (dr p)).2):=rfl;rw[eL] at hr;dsimp only at hr;have eN:x.L.fh=bV x.L.dir x.L.last.first:=rfl
   rw[eN] at hr;generalize D3:x.m.append (bV x.L.dir x.L.last.first) (dr p)=ms at hr h6⊢;have hX6: ∀k,FL k->X6 k:=λk ah=>ku.bg k (h6.hL k ah);have arP:=(h6.l.row s lJ).mv (Mv.sub hX6);repeat' first|refine aq ?_;intros|refine dg ?_ ?_<;>intros
   ·have hz: ¬ms.2=0:=by have: ¬(ms.2:Int)=0:=(by assumption);omega
    rw[if_pos hz,if_neg hz] at hr;subst hr;exact ku.fin λwa aL=>⟨rfl,_,ku.jv aL λ_ h=>h,(h6.mv (aL.jj ku.bg)).lg⟩
   ·have hz:ms.2=0:=by have:(ms.2:Int)=0:=(by assumption);omega
    rw[if_neg (by simpa using hz),if_pos hz] at hr;subst hr;refine ao3 ku.s.has kQ (hpA ku) (by intro r hr u hu;obtain⟨x,_,rfl⟩:=List.mem_map.1 hr;simp only[U1,ax] at hu;subst hu;rfl) oQ oQ λpv w7 X7 np xe=>?_;have ajq:=((h6.l.AD s lJ).mono hX6).mv np.mv;have aaw:=arP.since np;refine XP (bytes:=24) (row:=[pv]) ajq np.has kQ (by have:=rG xe.one;rw[this]) rfl (by simp[xe.one]) oQ oQ λCa w8 X8 c8 Bi XH=>?_;have arQ: ∀q,fv s.rv q->q≠s.b:=λq hq e=>ajq.eT aaw kQ (by rw[<-e];exact hq);have an9:aH w8 X8 s.b [I s.first,s.rv,I s.size] 238:=⟨c8.sub _ aaw.1,by rw[c8.block _ aaw.1 λhq=>arQ _ hq rfl];exact aaw.2⟩;repeat' refine aq ?_;intros
    refine qo (o:=1) an9 zQ kQ sQ Bi.one c8.has λw9 X9 c9 ajr=>?_;replace ajr:aH w9 X9 s.b [I s.first,Ca,I s.size] 238:=ajr;repeat' refine aq ?_;intros
    refine qo (o:=2) ajr zQ kQ sQ rfl c9.has λGA GB H9 afa=>?_;have ua:(s.size:Int)+((dr p).length:Int)=((s.size+(dr p).length:Nat):Int):=by omega
    replace afa:aH GA GB s.b [I s.first,Ca,I ((s.size+(dr p).length:Nat):Int)] 238:=by rw[<-ua];exact afa
    have cc:dY (λk=>k=s.b\/s.rv.ownBlock=some k) X6 w6 GB GA:=(((dY.oh np _).trans (c8.mono λk _ ah=>.inr ah)).trans (c9.mono λk _ ah=>.inl ah)).trans (H9.mono λk _ ah=>.inl ah);have ajs: ∀q,fv s.rv q->FL q:=λq hq=>((h6.l.AD s lJ).bg hq).1;have Hh:=ku.dT (F':=λk=>(F1 k\/made wa6 w6 k)\/(GB k/\w6.heap.size<=k)) cc (λk ah=>by
     rcases ah with rfl|ah
     ·exact h6.hL _ (h6.l.row s lJ).1
     ·exact h6.hL _ (ajs _ ah)) λk ah=>ah
    have Nc: ∀g,Ca.ownBlock=some g->FL g\/(GB g/\w6.heap.size<=g):=λg hg=>by
     rcases XH with e|⟨g',e,dC⟩
     ·exact .inl (ajs _ (e.symm.trans hg))
     ·rw[hg] at e;have:g=g':=cA e;subst this;exact .inr ⟨H9.sub _ (c9.sub _ (Bi.bg hg).1),ad np.kp.size dC⟩
    have aoa: ∀q,fv Ca q->q≠s.b:=λq hq e=>Bi.eT an9 kQ (by rw[<-e];exact hq);have H5: ∀q,fv pv q->X7 q/\w6.heap.size<=q/\GA.heap[q]? =w7.heap[q]? :=λq hq=>by
     have h1:=(xe.bg hq).1;have XK:q≠s.b:=λe=>xe.eT aaw kQ (by rw[<-e];exact hq);have hnr: ¬fv s.rv q:=λzx=>by
      obtain⟨c1,e1⟩:=xe.tag hq;obtain⟨c2,e2⟩:=ajq.tag zx;rw[e1] at e2;simp at e2
     exact⟨h1.1,h1.2,by rw[H9.block q (c9.sub _ (c8.sub _ h1.1)) XK,c9.block q (c8.sub _ h1.1) XK,c8.block q h1.1 hnr]⟩
    have arR:=h6.l.alp (BX:=λk=>FL k\/(GB k/\w6.heap.size<=k)) (Ca:=Ca) (pv:=pv) (p:=p) (z:=s.size+(dr p).length) (ku.fx h6.hL) cc (λk ah=>ah) (λk ah=>.inl ah) ⟨.inl (h6.l.row s lJ).1,afa.2⟩ ?_ ?_ ?_
    ·refine Hh.fin λwa aL=>⟨rfl,_,Hh.jv aL λ_ h=>h,?_⟩;have e:({ x.L with bJ:=(rK++[s.more Ca pv p (s.size+(dr p).length)]).map nf.er } :LM)=x.L.add p:=by
      unfold LM.add;rw[E8,aC,<-he];simp[nf.er]
     rw[<-e];refine Lg.mv ⟨_,Oy,sv,_,?_,?_,?_,arR,h6.d.mv (cc.jj λk ah=>⟨ku.bg k (h6.hD k ah),λhg=>?_⟩)⟩ (aL.jj Hh.bg)
     ·intro k ha dO;rcases ha with ha|ha
      ·exact h6.dj k ha dO
      ·have:=(ku.fx h6.hD k dO).2;omega
     ·exact λk ah=>ah.imp (h6.hL k) id
     ·exact λk ah=>.inl (h6.hD k ah)
     ·rcases hg with rfl|hg
      ·exact h6.dj _ (h6.l.row s lJ).1 ah
      ·exact h6.dj _ (ajs _ hg) ah
    ·rw[aC];exact Bi.tight.mv λk ah hl=>⟨Nc k ah,by rw[H9.block k (c9.sub _ (Bi.bg ah).1) (aoa k ah),c9.block k (Bi.bg ah).1 (aoa k ah)]⟩
    ·exact xe.tight.mv λk ah hl=>⟨.inr ⟨H9.sub _ (c9.sub _ (c8.sub _ (H5 k ah).1)),(H5 k ah).2.1⟩,(H5 k ah).2.2⟩
    ·rcases XH with e|⟨g,e,dC⟩
     ·exact .inl e
     ·exact .inr ⟨g,e,ad np.kp.size dC⟩
  ·intro K hK;obtain⟨rK,s,rfl,he,E8⟩:=h1.l.last hL;have KQ: ∀k,FL k->X1 k:=λk ah=>eo.bg k (h1.hL k ah);have mc:=h1.l.box.mv (Mv.sub KQ);have lJ:s∈rK++[s]:=by simp
   have XR:=(h1.l.row s lJ).mv (Mv.sub KQ);have gh:s.size=L.last.size:=by rw[<-he];rfl
   have eR:LD.room ⟨L,m⟩=if L.room<=L.last.size then(if(LD.sync ⟨L,m⟩).2≠0 then LD.sync ⟨L,m⟩else(LD.sync ⟨L,m⟩).1.iI L.next)else(⟨L,m⟩,0):=rfl
   repeat' refine aq ?_;intros
   refine cM (yG h1.l (eo.fx h1.hL)) kQ eo.s.has ?_;rintro _ xN w2 X2 rfl lK ko bH;have da:=eo.since bH;have h2:=h1.mv (bH.gY eo.bg);have Pj:=XR.since bH;repeat' first|refine aq ?_;intros|refine dg ?_ ?_<;>intros
   ·have dC:L.room<=L.last.size:=by omega
    rw[if_pos dC] at eR;refine da.call (IN h2.lg hL (da.fx λ_ h=>h)) kQ (λ_ h=>h) λv zA w3 X3 hq rn mX dU vu=>?_;obtain⟨rfl,F3,hF3,h3⟩:=hq;have hL3:pT (LD.sync ⟨L,m⟩).1.L:=hL.sync;have afb:=LD.UC ⟨L,m⟩;have aob:=LD.ajp ⟨L,m⟩;generalize hsy:LD.sync ⟨L,m⟩=y at eR h3 hL3 afb aob⊢;have Ff:=dU.less hF3;repeat' first|refine aq ?_;intros|refine dg ?_ ?_<;>intros
    ·have hz:y.2≠0:=by have: ¬(y.2:Int)=0:=(by assumption);omega
     rw[if_pos hz] at eR;rw[eR,if_pos hz] at hr;subst hr;exact Ff.fin λwa aL=>⟨rfl,F3,Ff.jv aL λ_ h=>h,h3.mv (aL.jj Ff.bg)⟩
    ·have hz: ¬y.2≠0:=by have:(y.2:Int)=0:=(by assumption);omega
     rw[if_neg hz] at eR;have hy:y.1=⟨y.1.L,y.1.m⟩:=rfl;refine Ff.call (QW (n:=L.next) h3 (by rw[aob];exact hL.d2) nL (by rw[afb];exact pf) (Ff.fx λ_ h=>h)) kQ (λ_ h=>h) λv zB w4 X4 hq tJ py fR Fe=>?_;obtain⟨rfl,F4,hF4,h4⟩:=hq;have Xf:(LD.iI ⟨y.1.L,y.1.m⟩ L.next).2=0->pT (LD.iI ⟨y.1.L,y.1.m⟩ L.next).1.L:=λ_=>hL3.iI nL;have Qo:(LD.iI ⟨y.1.L,y.1.m⟩ L.next).1.L.bJ.length<=2^30+1:=by
      unfold LD.iI;dsimp only;split
      ·simp only[aa,List.length_singleton,afb];show L.bJ.length+1<=_;omega
      ·rw[afb];show L.bJ.length<=_;omega
     rw[hy] at eR;generalize hro:LD.iI ⟨y.1.L,y.1.m⟩ L.next=q at eR h4 Xf Qo⊢
     have Ad:=fR.less hF4;repeat' first|refine aq ?_;intros|refine dg ?_ ?_<;>intros
     ·have hz:q.2≠0:=by have: ¬(q.2:Int)=0:=(by assumption);omega
      rw[eR,if_pos hz] at hr;subst hr;exact Ad.fin λwa aL=>⟨rfl,F4,Ad.jv aL λ_ h=>h,h4.mv (aL.jj Ad.bg)⟩
     ·have hz:q.2=0:=by have:(q.2:Int)=0:=(by assumption);omega
      obtain⟨FL4,FD4,sv4,bl4,h4⟩:=h4.lw;exact hK _ _ _ _ _ _ _ q.1 (by rw[eR,<-hz]) (Xf hz) Qo Ad h4
   ·have dC: ¬L.room<=L.last.size:=by omega
    rw[if_neg dC] at eR;exact hK _ _ _ _ _ _ _ ⟨L,m⟩ eR hL (by show L.bJ.length<=_;omega) da h2
def LD.iF (x:LD) (e:Nat) (bs:List Nat):LD×Nat×Nat:=
 if e≠0 then(x,0,e)else
  let r:=x.append bs
  if r.2.2≠0 then r else(r.1.sync.1,r.2.1,r.1.sync.2)
abbrev aX:Value:=.slice none 0 0
structure CoV where
 id:Int
 aR:Int
 fZ:Int
 lb:Nat
 ac8:Nat
 cb:Nat
 ab:Nat
 cm:Value
 bb:Nat
abbrev G9 (c:CoV) (DY vm va:Value):List Value:=[I c.id,I c.aR,I c.fZ,ptr c.lb 0,B false,ptr c.ac8 0,DY,.map (some c.ab),c.cm,.map (some c.bb),vm,va]
abbrev coL (c:CoV) (vm va:Value):List Value:=G9 c (ptr c.cb 0) vm va
abbrev nT:Nat:=108
structure AcV where
 aG:bX
 vp:Value
 st:cn
 xi:Int
 vs:Value
 pre:Bool
 vq:Value
 ml:cn
abbrev JQ (x:AcV) (vw:Value):List Value:=[I x.aG.dW,I x.aG.aR,I x.aG.sq,x.vp,I x.st.wall,I x.st.dA,I x.st.node,I x.xi,x.vs,B x.pre,vw,x.vq,I x.ml.wall,I x.ml.dA,I x.ml.node]
abbrev aT:Nat:=120
abbrev mT:Nat:=54
abbrev anT:Nat:=64
def zz:World->XS->Value->Nat->Prop:=λ_ _ v b=>v=ptr b 0
def EU:qV zz:=λ_ _ _ _ _ _ h _=>h
def fu (w:World) (K:XS) (rows:List (List Value)) (ms:List cJ):Prop:=rows.length=ms.length/\ ∀(i:Nat) (l:List Value) (x:cJ),rows[i]? =some l->ms[i]? =some x->cJ.rd w K l x
variable {ms : List cJ} {rows : List (List Value)} {K K' : XS}
def fu.mv (h:fu w K rows ms) (m:Mv K w K' w'):fu w' K' rows ms:=⟨h.1,λi l x h1 h2=>cJ.mv (h.2 i l x h1 h2) m⟩
theorem fu.nil (w:World) (K:XS):fu w K [] []:=⟨rfl,λi l x h=>by simp at h⟩
variable {l : List Value}
theorem fu.add {x:cJ} (h:fu w K rows ms) (h1:cJ.rd w K l x):fu w K (rows++[l]) (ms++[x]):=by
 refine⟨by simp[h.1],λi l' x' hl hx=>?_⟩;rcases Nat.lt_trichotomy i rows.length with hi|hi|hi
 ·rw[cV hi] at hl;rw[cV (by rw[<-h.1];exact hi)] at hx;exact h.2 i l' x' hl hx
 ·subst hi;rw[bQ (Nat.le_refl _)] at hl;rw[bQ (by rw[h.1];omega)] at hx;rw[h.1] at hx
  grind
 ·rw[List.getElem?_eq_none oQ] at hl;cases hl
variable {Y : XS}
theorem af5 {lo lo' e e' k k' g:Nat} {v v':Value} {GP:List (List Value)} (h:Own w X lo e k v rows) (h':Own w Y lo' e' k' v' GP) (he:decide (e≠e')=true) (hg:v.ownBlock=some g):v'.ownBlock≠some g:=λmN=>by
 obtain⟨c,h1⟩:=Nt h hg;obtain⟨c',h2⟩:=Nt h' mN
 grind
variable {a : Value}
theorem K5 {xs:List fg} (ha:Sl w X 7 a (xs.map fg.l)) (hb:xs.length<=2^40):
  Ct pg 88 #[a] w X nX λv wa w'=>Own w' (made wa w') wa.heap.size 175 7 v (xs.map fg.l):=by
  intro w0 hk;replace ha:=ha.mv hk.cE;refine yr.1 λhs=>?_;repeat' first|refine aq ?_;intros|refine dg ?_ ?_<;>intros|(refine QR hs ?_;intro acc w X hs ho)|(refine qr ?_;intro wa hk;(first|(rename_i h1 h2;(first|(rw[h2])|skip);exact Own.nil _ _ _ _ _)|exact(ho.kp hk).tight))|((with_reducible apply qK);(case own=>assumption);(case hs=>assumption);(case h0=>exact λ_ h=>h);(case he=>kernel_rfl);(case src=>exact Sl.mv ha (ai.mv hs));(case h1=>simp[aK.one]);(case hb=>simp;omega);(case hl=>simp;omega);intro acc w X aB ho hc dc;replace hs:=aB;rw[bp] at ho)
theorem Fm {xs:List Int} (ha:Sl w X 1 a (xs.map I1)) (hb:xs.length<=2^40):
  Ct pg 48 #[a] w X nX λv wa w'=>Own w' (made wa w') wa.heap.size 3 1 v (xs.map I1):=by
  intro w0 hk;replace ha:=ha.mv hk.cE;refine DL.1 λhs=>?_;repeat' first|refine aq ?_;intros|refine dg ?_ ?_<;>intros|(refine QR hs ?_;intro acc w X hs ho)|(refine qr ?_;intro wa hk;(first|(rename_i h1 h2;(first|(rw[h2])|skip);exact Own.nil _ _ _ _ _)|exact(ho.kp hk).tight))|((with_reducible apply qK);(case own=>assumption);(case hs=>assumption);(case h0=>exact λ_ h=>h);(case he=>kernel_rfl);(case src=>exact Sl.mv ha (ai.mv hs));(case h1=>simp[aK.one]);(case hb=>simp;omega);(case hl=>simp;omega);intro acc w X aB ho hc dc;replace hs:=aB;rw[bp] at ho)
theorem aaS {xs:List jz} (ha:Sl w X 5 a (xs.map jz.l)) (hb:xs.length<=2^40):
  Ct pg 60 #[a] w X nX λv wa w'=>Own w' (made wa w') wa.heap.size 99 5 v (xs.map jz.l):=by
  intro w0 hk;replace ha:=ha.mv hk.cE;refine Al.1 λhs=>?_;repeat' first|refine aq ?_;intros|refine dg ?_ ?_<;>intros|(refine QR hs ?_;intro acc w X hs ho)|(refine qr ?_;intro wa hk;(first|(rename_i h1 h2;(first|(rw[h2])|skip);exact Own.nil _ _ _ _ _)|exact(ho.kp hk).tight))|((with_reducible apply qK);(case own=>assumption);(case hs=>assumption);(case h0=>exact λ_ h=>h);(case he=>kernel_rfl);(case src=>exact Sl.mv ha (ai.mv hs));(case h1=>simp[aK.one]);(case hb=>simp;omega);(case hl=>simp;omega);intro acc w X aB ho hc dc;replace hs:=aB;rw[bp] at ho)
abbrev snT:Nat:=175
abbrev pcT:Nat:=124
abbrev cmT:Nat:=126
abbrev Qx:Nat:=3
structure oP where
 x:AcV
 vw:Value
 rw:List (List Value)
 ws:List cJ
 sn:List fg
 p:List jz
 ids:List Int
 pq:Bool:=false
structure zh where
 r:Rec
 vp:Value
 v2:Value
 waits:List Int
 ended:Bool
structure br where
 nb:Nat
 db:Nat
 mb:Nat
 c:CoV
 ck:cn
 ds:tK
 L:LM
 m:DM
 al:List (bX×Nat)
 bl:List (bX×Nat)
 vm:Value
 va:Value
 rm:List (List Value)
 ra:List (List Value)
 ms:List cJ
 cl:List Nat
 A:Nat->oP
 C:Nat->zh
 ex:List Nat:=[]
 pre:Bool:=false
def br.dE (n:br) (b:Nat):Prop:=(∃t,getM t n.al=some b)\/b∈n.ex
abbrev br.DY (n:br):Value:=if n.pre then .pointer none else ptr n.c.cb 0
theorem ajL (h:Lg w F lb db L m) (v:Mv F w F' w'):Lg w' F' lb db L m:=by
 obtain⟨FL,FD,sv,bl,hd,h1,h2,h3,h4⟩:=h;exact⟨λk=>FL k/\k<w.heap.size,λk=>FD k/\k<w.heap.size,sv,bl,λk a b=>hd k a.1 b.1,λk hk=>(v k (h1 k hk.1) hk.2).1,λk hk=>(v k (h2 k hk.1) hk.2).1,h3.mv λk hk hl=>⟨⟨hk,hl⟩,(v k (h1 k hk) hl).2⟩,h4.mv λk hk hl=>⟨⟨hk,hl⟩,(v k (h2 k hk) hl).2⟩⟩
def mpR (b:Nat) (l:List (bX×Nat)):qp:=⟨λw _ A=>dS w A nX b (λk:bX=>k.v) zz l,λh _ m=>h.mv EU m λ_ h=>h.elim⟩
def Yh (n:br):Nat->qp
 |1=>Yf n.nb (G9 n.c n.DY n.vm n.va) nT
 |2=>⟨λw _ A=>mD w A n.c.ac8 n.mb n.ds,λh _ m=>h.mv m⟩
 |3=>⟨λw _ A=>Lg w A n.c.lb n.db n.L n.m,λh _ m=>ajL h m⟩
 |5=>mpR n.c.ab n.al
 |6=>mpR n.c.bb n.bl
 |7=>⟨λw _ A=>n.pre=false->aH w A n.c.cb (Hb n.ck) IF/\n.ck.may=true,λh _ m e=>⟨(h e).1.mv m,(h e).2⟩⟩
 |8=>Zr mT 36 n.vm n.rm
 |9=>Zr anT 9 n.va n.ra
 |10=>Zr pcT 1 n.c.cm (n.cl.map λb=>[ptr b 0])
 |11=>⟨λw K _=>fu w K n.rm n.ms,λh m _=>h.mv m⟩
 |12=>puR (∀t b,getM t n.al=some b->(n.A b).x.aG=t)
 |_=>Q5
def Kf (b:Nat) (d:oP):Nat->qp
 |0=>Yf b (JQ d.x d.vw) aT
 |1=>Zr mT 36 d.vw d.rw
 |2=>Zr snT 7 d.x.vs (d.sn.map fg.l)
 |3=>⟨λw K _=>fu w K d.rw d.ws/\Sl w K 5 d.x.vp (d.p.map jz.l)/\(d.pq=false->Sl w K 1 d.x.vq (d.ids.map I1)),λ⟨h1,h2,h3⟩ m _=>⟨h1.mv m,h2.mv m,λe=>(h3 e).mv m⟩⟩
 |7=>Di (d.pq=true) (Zr Qx 1 d.x.vq (d.ids.map I1))
 |_=>Q5
def JY (b:Nat) (d:zh):Nat->qp
 |4=>Yf b (d.r.l aX aX d.vp aX aX aX++[d.v2,B d.ended]) cmT
 |5=>Zr Qx 1 d.v2 (d.waits.map I1)
 |6=>⟨λw K _=>Sl w K 1 d.vp (d.r.parts.map I1),λh m _=>h.mv m⟩
 |_=>Q5
def zC (n:br) (b:Nat):Nat->qp
 |0=>Di (n.dE b) (Kf b (n.A b) 0)
 |1=>Di (n.dE b) (Kf b (n.A b) 1)
 |2=>Di (n.dE b) (Kf b (n.A b) 2)
 |3=>Di (n.dE b) (Kf b (n.A b) 3)
 |4=>Di (b∈n.cl) (JY b (n.C b) 4)
 |5=>Di (b∈n.cl) (JY b (n.C b) 5)
 |6=>Di (b∈n.cl) (JY b (n.C b) 6)
 |7=>Di (n.dE b) (Kf b (n.A b) 7)
 |_=>Q5
def tx (b i:Nat):Nat:=16+8*b+i
def ea (n:br) (c:Nat):qp:=if c<16 then Yh n c else zC n (c/8-2) (c % 8)
theorem wu (n:br) (b i:Nat) (hi:i<8):ea n (tx b i)=zC n b i:=by
 unfold ea tx;rw[if_neg zQ,show(16+8*b+i)/8-2=b by omega,show(16+8*b+i) % 8=i by omega]
abbrev j9 (w:World) (own:Nat->Nat) (n:br):Prop:=Hs (ea n) w own
variable {A : XS} {n n' : br}
theorem Xr {c:Nat} (h1:c<16->(Yh n c).p w K A->(Yh n' c).p w K A) (h2: ∀b i,i<8->c=tx b i->(zC n b i).p w K A->(zC n' b i).p w K A) (h:(ea n c).p w K A):(ea n' c).p w K A:=by
 by_cases hc:c<16
 ·unfold ea at h⊢;rw[if_pos hc] at h⊢;exact h1 hc h
 ·obtain⟨b,i,hi,rfl⟩: ∃b i,i<8/\c=tx b i:=⟨c/8-2,c % 8,by omega,by unfold tx;omega⟩;rw[wu _ _ _ hi] at h⊢;exact h2 b i hi rfl h
variable {Q : Nat -> Prop}
theorem oe (h2: ∀b i,i<8->Q (tx b i)-> ∀w K A,(zC n b i).p w K A->(zC n' b i).p w K A:=by intro b i hi hq w K A h;rcases i with _|_|_|_|_|_|_|_|i<;>exact h)
  (h1: ∀i,i<16->Q i-> ∀w K A,(Yh n i).p w K A->(Yh n' i).p w K A:=by intro i hi hq w K A h;rcases i with _|_|_|_|_|_|_|_|_|_|_|_|_|i<;>first|exact h|(exfalso;omega)): ∀c,Q c-> ∀w K A,(ea n c).p w K A->(ea n' c).p w K A:=λc hq w K A=>Xr (λhc=>h1 c hc hq w K A) λb i hi e=>h2 b i hi (e▸hq) w K A
variable {d : oP} {b0 : Nat}
theorem arS (h: ∀i,Q (tx b0 i)-> ∀w K A,(Kf b0 (n.A b0) i).p w K A->(Kf b0 d i).p w K A:=by intro i hq w K A h;rcases i with _|_|_|_|_|_|_|_|i<;>first|exact h|(exfalso;unfold tx at hq;omega))
  (hA:n'.A=λb=>if b=b0 then d else n.A b:=by rfl) (hs:n'.al=n.al/\n'.ex=n.ex/\n'.C=n.C/\n'.cl=n.cl:=by exact⟨rfl,rfl,rfl,rfl⟩): ∀b i,i<8->Q (tx b i)-> ∀w K A,(zC n b i).p w K A->(zC n' b i).p w K A:=λb i hi hq w K A p=>by
 have e:n'.dE b↔n.dE b:=by unfold br.dE;rw[hs.1,hs.2.1]
 by_cases hb:b=b0
 ·subst hb;have eA:n'.A b=d:=by rw[hA];exact if_pos rfl
  rcases i with _|_|_|_|_|_|_|_|i<;>simp only[zC,Di,eA,e,hs.2.2.1,hs.2.2.2] at p⊢ <;>first|exact λha=>h _ hq w K A (p ha)|exact p
 ·have eA:n'.A b=n.A b:=by rw[hA];exact if_neg hb
  rcases i with _|_|_|_|_|_|_|_|i<;>simp only[zC,Di,eA,e,hs.2.2.1,hs.2.2.2] at p⊢ <;>exact p
theorem aqj {d:zh} (h: ∀i,Q (tx b0 i)-> ∀w K A,(JY b0 (n.C b0) i).p w K A->(JY b0 d i).p w K A:=by intro i hq w K A h;rcases i with _|_|_|_|_|_|_|_|i<;>first|exact h|(exfalso;unfold tx at hq;omega))
  (hC:n'.C=λb=>if b=b0 then d else n.C b:=by rfl) (hs:n'.al=n.al/\n'.ex=n.ex/\n'.A=n.A/\n'.cl=n.cl:=by exact⟨rfl,rfl,rfl,rfl⟩): ∀b i,i<8->Q (tx b i)-> ∀w K A,(zC n b i).p w K A->(zC n' b i).p w K A:=λb i hi hq w K A p=>by
 have e:n'.dE b↔n.dE b:=by unfold br.dE;rw[hs.1,hs.2.1]
 by_cases hb:b=b0
 ·subst hb;have eC:n'.C b=d:=by rw[hC];exact if_pos rfl
  rcases i with _|_|_|_|_|_|_|_|i<;>simp only[zC,Di,eC,e,hs.2.2.1,hs.2.2.2] at p⊢ <;>first|exact λha=>h _ hq w K A (p ha)|exact p
 ·have eC:n'.C b=n.C b:=by rw[hC];exact if_neg hb
  rcases i with _|_|_|_|_|_|_|_|i<;>simp only[zC,Di,eC,e,hs.2.2.1,hs.2.2.2] at p⊢ <;>exact p
variable {w0 : World} {own aM bY : Nat -> Nat} {i : Nat}
theorem CK (h:j9 w own n) (b i:Nat) (hi:i<8):(zC n b i).p w (bZ own 4) (bZ own (tx b i)):=by
 have:=h.gL (tx b i) (by unfold tx;omega) (by unfold tx;omega)
 rwa [wu _ _ _ hi] at this
def _root_.Go.aK.Hs.act (h:j9 w own n) (hb:n.dE b):aH w (bZ own (tx b 0)) b (JQ (n.A b).x (n.A b).vw) aT/\Own w (bZ own (tx b 1)) 0 mT 36 (n.A b).vw (n.A b).rw/\Own w (bZ own (tx b 2)) 0 snT 7 (n.A b).x.vs ((n.A b).sn.map fg.l)/\
  fu w (bZ own 4) (n.A b).rw (n.A b).ws/\Sl w (bZ own 4) 5 (n.A b).x.vp ((n.A b).p.map jz.l)/\((n.A b).pq=false->Sl w (bZ own 4) 1 (n.A b).x.vq ((n.A b).ids.map I1)):=⟨CK h b 0 dQ hb,CK h b 1 dQ hb,CK h b 2 dQ hb,CK h b 3 dQ hb⟩
def _root_.Go.aK.Hs.BZ (h:j9 w own n) (hb:b∈n.cl):aH w (bZ own (tx b 4)) b ((n.C b).r.l aX aX (n.C b).vp aX aX aX++[(n.C b).v2,B (n.C b).ended]) cmT/\Own w (bZ own (tx b 5)) 0 Qx 1 (n.C b).v2 ((n.C b).waits.map I1)/\Sl w (bZ own 4) 1 (n.C b).vp ((n.C b).r.parts.map I1):=⟨CK h b 4 dQ hb,CK h b 5 dQ hb,CK h b 6 dQ hb⟩
theorem iz:tx b i≠0/\tx b i≠4:=by unfold tx;omega
abbrev Sn (w0:World) (bY:Nat->Nat) (w:World) (X:XS) (own:Nat->Nat) (n:br):Prop:=St w0 bY w X own (ea n)
theorem _root_.Go.aK.St.v (s:Sn w0 bY w X own n):aH w X n.nb (G9 n.c n.DY n.vm n.va) nT/\aK.one n.vm=true/\aK.one n.va=true/\aK.one n.c.cm=true/\aK.one n.DY=true:=
 ⟨s.Aa 1,(show Own w (bZ own 8) 0 mT 36 n.vm n.rm from s.get 8).sl.one,(show Own w (bZ own 9) 0 anT 9 n.va n.ra from s.get 9).sl.one,(show Own w (bZ own 10) 0 pcT 1 n.c.cm _ from s.get 10).sl.one,by unfold br.DY;split<;>rfl⟩
theorem _root_.Go.aK.St.va (s:Sn w0 bY w X own n) (hb:n.dE b):aH w X b (JQ (n.A b).x (n.A b).vw) aT/\aK.one (n.A b).vw=true/\aK.one (n.A b).x.vs=true/\aK.one (n.A b).x.vp=true/\aK.one (n.A b).x.vq=true:=
 have⟨h1,h2,h3,_,h5,h6⟩:=s.h.act hb
 ⟨h1.mono (s.sub _ iz.1),h2.sl.one,h3.sl.one,h5.one,by
  cases e:(n.A b).pq
  ·exact(h6 e).one
  ·exact(CK s.h b 7 dQ hb e).sl.one⟩
def _root_.Go.aK.St.vc (s:Sn w0 bY w X own n) (hb:b∈n.cl):aH w X b ((n.C b).r.l aX aX (n.C b).vp aX aX aX++[(n.C b).v2,B (n.C b).ended]) cmT/\aK.one (n.C b).v2=true/\aK.one (n.C b).vp=true/\Sl w X 1 (n.C b).v2 ((n.C b).waits.map I1):=
 have⟨h1,h2,h3⟩:=s.h.BZ hb
 ⟨h1.mono (s.sub _ iz.1),h2.sl.one,h3.one,h2.sl.mono (s.sub _ iz.1)⟩
variable {vd vh vk vr vw : Value}
section
variable {nb xb : Nat} {c : CoV} {vm va : Value}
theorem Bo {DY:Value} (h:aH w Y nb (G9 c DY vm va) nT) (hY: ∀k,Y k->X k) (hi:1<=c.id/\c.id<=2):Ct pg 54 #[ptr nb 0] w X nX λv _ _=>v=I (20+c.id):=by
 intro w0 hk;have bt:=(h.mono hY).mv hk.cE;have hs:=ai.init w0;refine Mr.1 λ_=>?_;repeat' first|refine aq ?_;intros|(refine qr ?_;intro wa hk;rfl)
structure cJ.C5 (m:cJ):Prop where
 keys:m.keys.length<=2^40
 seen:m.seen.length<=2^40
 writes:m.writes.length<=2^40
 parts:m.parts.length<=2^40
theorem H7 {m:cJ} {vs vc:Value} (h:m.at w X vk vs vw vp vr vc vh vd) (hf:m.C5):Ct pg 45 #[m.v vk vs vw vp vr vc vh vd] w X nX λv wa w'=> ∃HR qP gX JZ,v=m.v HR qP gX JZ vr vc vh vd/\
  Sl w' (made wa w') 1 HR (m.keys.map S1)/\Sl w' (made wa w') 7 qP (m.seen.map fg.l)/\Sl w' (made wa w') 4 gX (m.writes.map KV.l)/\Sl w' (made wa w') 1 JZ (m.parts.map I1):=by
 intro w0 hk;replace h:=h.mv hk.cE;have hs:=ai.init w0;have o1:=h.ranges.one;have o2:=h.bw.one;have o3:=h.iA.one;have o4:=h.ia.one;refine Ry.1 λ_=>?_;refine cM (Kb h.keys hf.keys) kQ hs.has ?_;rintro v1 DX w1 X1 q1 qw nY aB;have h1:=h.mv aB.mv;refine cM (K5 h1.seen hf.seen) kQ aB.has ?_;rintro v2 xN w2 X2 q2 lK ko bH;have h2:=h1.mv bH.mv;refine cM (Il h2.writes hf.writes) kQ bH.has ?_;rintro v3 zA w3 X3 q3 rn mX dt;refine cM (Fm (h2.mv dt.mv).parts hf.parts) kQ dt.has ?_;rintro v4 zB w4 X4 q4 tJ py gd;have z1:=aB.kp.size;have z2:=bH.kp.size;have z3:=dt.kp.size;have u1:Own w1 X1 w0.heap.size _ _ v1 _:=q1.up nY qw;have u2:Own w2 X2 w0.heap.size _ _ v2 _:=q2.up ko zQ;have u3:Own w3 X3 w0.heap.size _ _ v3 _:=q3.up mX zQ;have u4:Own w4 X4 w0.heap.size _ _ v4 _:=q4.up py zQ;replace u1:=((u1.since bH).since dt).since gd;replace u2:=(u2.since dt).since gd;replace u3:=u3.since gd;have p1:=u1.sl.one;have p2:=u2.sl.one;have p3:=u3.sl.one;have p4:=u4.sl.one;replace hs:=((hs.trans aB).trans (bH.trans dt)).trans gd;clear aB bH dt gd;obtain⟨a1,a2,a3,rfl⟩:=u1.sl.form;obtain⟨b1,b2,b3,rfl⟩:=u2.sl.form;obtain⟨c1,c2,c3,rfl⟩:=u3.sl.form;obtain⟨e1,e2,e3,rfl⟩:=u4.sl.form;repeat' refine aq ?_;intros
 exact cH hs λwa aL=>⟨_,_,_,_,rfl,(u1.kp aL).tight.sl,(u2.kp aL).tight.sl,(u3.kp aL).tight.sl,(u4.kp aL).tight.sl⟩
def cJ.pP (m:cJ) (no:Int):cJ:= { m with fr:=no,to:=m.range }
def cJ.asked (m:cJ) (x:AcV):cJ:= { m with aG:=x.aG,aU:=x.st }
abbrev EW (code:Int) (t:bX) (st:cn) (on:Bool) (vs:Value):List Value:=[I code,I t.dW,I t.aR,I t.sq,I st.wall,I st.dA,I st.node,B on,vs]
theorem fu.Xz (h:fu w K rows ms): ∀r∈rows,∀u∈r,aK.one u=true:=λr hr=>by
 obtain⟨i,hi,rfl⟩:=List.getElem_of_mem hr;obtain⟨vk,vs,vw,vp,vr,vc,vh,vd,e,q⟩:=h.2 i _ (ms[i]'(by rw[<-h.1];exact hi)) (aS hi) (aS _);rw[e];have q1:=q.keys.one;have q2:=q.seen.one;have q3:=q.writes.one;have q4:=q.parts.one;have q5:=q.ranges.one;have q6:=q.bw.one;have q7:=q.iA.one;have q8:=q.ia.one;intro u hu;simp only[List.mem_cons,dJ,or_false] at hu;rcases hu with rfl|rfl|rfl|rfl|rfl|rfl|rfl|rfl|rfl|rfl|rfl|rfl|rfl|rfl|rfl|rfl|rfl|rfl|rfl|rfl|rfl|rfl|rfl|rfl|rfl|rfl|rfl|rfl|rfl|rfl|rfl|rfl|rfl|rfl|rfl|rfl<;>first|rfl|assumption
end
def cJ.at.fm {m:cJ} {vs vc:Value} (h:m.at w X vk vs vw vp vr vc vh vd):(∃b n c,vk= .slice b n c)/\(∃b n c,vs= .slice b n c)/\(∃b n c,vw= .slice b n c)/\(∃b n c,vp= .slice b n c)/\
  aK.one vr=true/\aK.one vc=true/\aK.one vh=true/\aK.one vd=true:=⟨h.keys.form,h.seen.form,h.writes.form,h.parts.form,h.ranges.one,h.bw.one,h.iA.one,h.ia.one⟩
theorem fu.ahZ {m:cJ} (h:cJ.rd w K l m):fu w K [l] [m]:=by simpa using (fu.nil w K).add h
theorem fu.app {r1 r2:List (List Value)} {m1 m2:List cJ} (h1:fu w K r1 m1) (h2:fu w K r2 m2):fu w K (r1++r2) (m1++m2):=by
 refine⟨by simp[h1.1,h2.1],λi l x hl hx=>?_⟩;by_cases hi:i<r1.length
 ·rw[cV hi] at hl;rw[cV (by rw[<-h1.1];exact hi)] at hx;exact h1.2 i l x hl hx
 ·rw[bQ zQ] at hl;rw[bQ (by rw[<-h1.1];omega),<-h1.1] at hx;exact h2.2 _ l x hl hx
theorem cJ.at.as {m m':cJ} {vs vc:Value} (h:m.at w X vk vs vw vp vr vc vh vd) (e:m'.keys=m.keys/\m'.seen=m.seen/\m'.writes=m.writes/\m'.parts=m.parts/\m'.ranges=m.ranges/\m'.bw=m.bw/\m'.state=m.state:=by exact⟨rfl,rfl,rfl,rfl,rfl,rfl,rfl⟩):
  m'.at w X vk vs vw vp vr vc vh vd:=by
 obtain⟨e1,e2,e3,e4,e5,e6,e7⟩:=e;exact⟨by rw[e1];exact h.keys,by rw[e2];exact h.seen,by rw[e3];exact h.writes,by rw[e4];exact h.parts,by rw[e5];exact h.ranges,by rw[e6];exact h.bw,by rw[e7];exact h.iA,by rw[e7];exact h.ia⟩
abbrev tn (own:Nat->Nat) (X:XS):Prop:= ∀k,own k≠0->X k
variable {t : bX} {code : Int} {n1 : br} {e : oP}
def yU (hX:tn own X) (hk:Kp X w wa):Mv (bZ own 4) w (bZ own 4) wa:=hk.jj λk (e:own k=4)=>hX k zQ
theorem Bp {m:cJ} {vs vc:Value} (h:j9 w own n) (hX:tn own X) (hm:m.at w (bZ own 4) vk vs vw vp vr vc vh vd) (hi:1<=n.c.id/\n.c.id<=2) (hl:n.rm.length<=2^20):
  Ct pg 44 #[ptr n.nb 0,m.v vk vs vw vp vr vc vh vd] w X (gH own) λ_ wa w'=>NQ ea own wa w' λ_ n'=> ∃mR lX,n'= { n with vm:=mR,rm:=lX,ms:=n.ms++[m.pP (20+n.c.id)] } /\lX.length=n.rm.length+1:=by
 intro w0 hk;have s:=St.init h hX hk;replace hm:=hm.mv (yU hX hk);obtain⟨⟨a1,a2,a3,rfl⟩,⟨b1,b2,b3,rfl⟩,⟨c1,c2,c3,rfl⟩,⟨e1,e2,e3,rfl⟩,q5,q6,q7,q8⟩:=hm.fm;refine Mp.1 λ_=>?_;refine ff (Bo s.v.1 (λ_ h=>h) hi) kQ s.has λw1 X1 aB=>?_;replace hm:=hm.mv (aB.gY (s.sub 4));replace s:=s.since aB;have hr:=s.v.1;have hs:=s.rf;repeat' first|refine aq ?_;intros|(refine q1e hs ?_;intro _ _ _ w X hs ho)
 replace hm:=hm.mv (hs.gY (s.sub 4));replace s:=s.since hs;have jE:=fu.ahZ ⟨_,_,_,_,_,_,_,_,rfl,hm.as (m':=m.pP (20+n.c.id))⟩;refine s.ap2 1 8 11 (s.get 1) (s.get 8) ho.sl jE.Xz oQ (λv=>ea { n with vm:=v,rm:=_,ms:=_ }) (λ_ _ _ _ h=>h) (λ_ _ _ _ h=>h) (λ_ _ _ _ mv h=>fu.app h (jE.mv mv)) (λv'=>oe) λv' w' X' aM s' m'=>?_;clear hs hr
 skip
 exact s'.fin λwa hk=>⟨_,_,rfl,by simp⟩
theorem jF {κ α:Type} [DecidableEq κ] {k t:κ} {l:List (κ×α)} {v:α} (h:getM t (kq k l)=some v):getM t l=some v/\t≠k:=by grind [Tr,LP]
theorem alq (hb:n.dE b): ∀c,c≠5-> ∀w K A,(ea n c).p w K A->(ea { n with al:=kq t n.al,ex:=b::n.ex } c).p w K A:=
 oe (λb' i hi _ w K A h=>by
  have e:({ n with al:=kq t n.al,ex:=b::n.ex } :br).dE b'->n.dE b':=λh=>h.elim (λ⟨t,e⟩=>.inl ⟨t,(jF e).1⟩) λe=>(List.mem_cons.1 e).elim (λe=>e▸hb) .inr;rcases i with _|_|_|_|_|_|_|_|i<;>first|exact λha=>h (e ha)|exact h) λi hi hq w K A h=>by
   rcases i with _|_|_|_|_|_|_|_|_|_|_|_|_|i<;>first|exact absurd rfl hq|exact λt b e=>h t b (jF e).1|exact h
theorem CJ {st:cn} {on:Bool} {vs:Value} (h:j9 w own n) (hX:tn own X) (hb:n.dE b) (ovs:aK.one vs=true) (hl:n.ra.length<=2^20):
  Ct pg 62 #[ptr n.nb 0,ptr b 0,.agg (EW code t st on vs).toArray] w X (gH own) λ_ wa w'=>NQ ea own wa w' λ_ n'=> ∃ki,n'= { n with al:=kq (n.A b).x.aG n.al,ex:=b::n.ex,va:=ki,ra:=n.ra++[EW code (n.A b).x.aG st on vs] } :=by
 intro w0 hk;have s:=St.init h hX hk;have hr:=s.v.1;have ha:=(s.va hb).1;have hs:=s.rf;refine NC.1 λ_=>?_;repeat' refine aq ?_;intros
 refine aiL (kv:=λk:bX=>k.v) (k:=(n.A b).x.aG) (kt:=34) (et:=116) (s.Aa 5:) EU (λ_ h=>h.elim) tf kQ s.has λw1 X1 c1 pV=>?_;obtain⟨ir,s1,m1⟩:=s.DD (F':=ea { n with al:=kq (n.A b).x.aG n.al,ex:=b::n.ex }) 5 c1 (λk e=>by rw[show k=n.c.ab from e];exact(s.get 5:dS _ _ _ _ _ _ _).x.1) (· =n.c.ab) (λk e=>.inl (by rw[show k=n.c.ab from e];exact(s.get 5:dS _ _ _ _ _ _ _).x.1))
  (λK m=>mi pV rfl) (alq hb)
 clear hr ha hs;have hr:=s1.v.1;have ha:=(s1.va (b:=b) (.inr sQ)).1;have hs:=s1.rf;repeat' first|refine aq ?_;intros|(refine q1e hs ?_;intro _ _ _ w X hs ho)
 have s2:=s1.since hs;refine s2.ap2 1 9 0 (s2.get 1) (s2.get 9) ho.sl (λr hr u hu=>?_) oQ (λv=>ea { n with al:=kq (n.A b).x.aG n.al,ex:=b::n.ex,va:=v,ra:=_ }) (λ_ _ _ _ h=>h) (λ_ _ _ _ h=>h) (λ_ _ _ _ _ h=>h) (λv'=>oe) λv' w' X' aM s' m'=>?_
 ·rw[ax] at hr;subst hr;simp only[List.mem_cons,dJ,or_false] at hu;rcases hu with rfl|rfl|rfl|rfl|rfl|rfl|rfl|rfl|rfl<;>first|rfl|assumption
 clear hs hr ha
 skip
 exact s'.fin λwa hk=>⟨_,rfl⟩
def Told (n:br) (ms:List cJ) (n':br):Prop:= ∃mR lX,n'= { n with vm:=mR,rm:=lX,ms:=n.ms++ms } /\lX.length=n.rm.length+ms.length
theorem Told.nil (n:br):Told n [] n:=⟨n.vm,n.rm,by rw[List.append_nil],rfl⟩
theorem Told.add {a b:List cJ} {n2:br} :Told n a n1->Told n1 b n2->Told n (a++b) n2:=by
 rintro⟨v,r,rfl,h⟩ ⟨v',r',rfl,h'⟩;exact⟨v',r',by simp[ao],by simp at h'⊢;omega⟩
theorem SH {m:cJ} (h:m.keys=[]/\m.seen=[]/\m.writes=[]/\m.parts=[]/\m.ranges=[]/\m.bw=[]/\m.state= .zero:=by exact⟨rfl,rfl,rfl,rfl,rfl,rfl,rfl⟩):m.at w K aX aX aX aX aX aX aX aX:=by
 obtain⟨e1,e2,e3,e4,e5,e6,e7⟩:=h;exact⟨by rw[e1];exact Sl.nil _ _ _,by rw[e2];exact Sl.nil _ _ _,by rw[e3];exact Sl.nil _ _ _,by rw[e4];exact Sl.nil _ _ _,by rw[e5];exact Sl.nil _ _ _,by rw[e6];exact eY.nil _ _ _,by rw[e7];exact eY.nil _ _ _,by rw[e7];exact eY.nil _ _ _⟩
def Cg:cJ:=⟨0,0,0,.zero,0,0,0,.zero,.zero,false,0,0,[],[],[],[],[],[],.zero⟩
def SG (t:bX) (id:Int):cJ:= { Cg with kind:=5,aG:=t,range:=id }
def Yi (r:Rec) (id:Int):cJ:= { Cg with kind:=5,aG:=r.aG,range:=id,jM:=true,aU:=r.aU }
theorem C6 {α β:Type} {l:List α} {x:α} {f:α->β} (h:l[i]? =some x):(l.take (i+1)).map f=(l.take i).map f++[f x]:=by
 rw[List.take_add_one,h];simp
theorem zU (h:j9 w own n) (hX:tn own X) (hb:n.dE b) (hpq:(n.A b).pq=false) (hl:n.ra.length<=2^20) (hi:1<=n.c.id/\n.c.id<=2) (wo:n.rm.length+(n.A b).ids.length<=2^20):
  Ct pg 43 #[ptr n.nb 0,ptr b 0,I code] w X (gH own) λ_ wa w'=>NQ ea own wa w' λ_ n'=> ∃ki,Told { n with al:=kq (n.A b).x.aG n.al,ex:=b::n.ex,va:=ki,ra:=n.ra++[EW code (n.A b).x.aG .zero false aX] }
   (if(n.A b).x.pre then(n.A b).ids.map λid=>(SG (n.A b).x.aG id).pP (20+n.c.id)else []) n':=by
 intro w0 hk;have s:=St.init h hX hk;have hs:=s.rf;refine Kt.1 λ_=>?_;repeat' refine aq ?_;intros
 refine s.call (CJ (code:=code) (t:=.zero) (st:=.zero) (on:=false) (vs:=aX) s.h s.x hb rfl hl) kQ λv w1 X1 ir n1 s1 q m1=>?_;obtain⟨ki,rfl⟩:=q;clear hs h s m1;have hs:=s1.rf;obtain⟨ha,-⟩:=s1.va (b:=b) (.inr sQ);have A5:=((s1.h.act (b:=b) (.inr sQ)).2.2.2.2.2 hpq).mono (s1.sub 4);have lh:=A5.gV;dsimp only at ha A5;cases hp:(n.A b).x.pre
 ·dsimp only [JQ] at ha;rw[hp] at ha;repeat' refine aq ?_;intros
  exact s1.fin λwa hk=>⟨ki,Told.nil _⟩
 dsimp only [JQ] at ha;rw[hp] at ha;repeat' refine aq ?_;intros
 generalize hN:({ n with al:=kq (n.A b).x.aG n.al,ex:=b::n.ex,va:=ki,ra:=n.ra++[EW code (n.A b).x.aG .zero false aX] } :br)=N at s1;refine fY (λn' a w X=> ∃(i:Nat) (aM:Nat->Nat) (n1:br),a=I (i:Nat)/\n'=(n.A b).ids.length-i/\i<=(n.A b).ids.length/\Sn w0 own w X aM n1/\Told N (((n.A b).ids.take i).map λid=>(SG (n.A b).x.aG id).pP (20+n.c.id)) n1) (n.A b).ids.length ⟨0,ir,N,rfl,rfl,Nat.zero_le _,s1,Told.nil _⟩ ?_;clear hs s1 ha A5;rintro n' _ w1 X1 ⟨i,ir,n1,rfl,rfl,QJ,s,ht⟩;obtain⟨Xo,Qz,xc,pM⟩:=id ht;have e:n1.A=n.A/\n1.nb=n.nb/\n1.c=n.c/\n1.rm=Qz/\N.rm=n.rm:=by rw[xc,<-hN];exact⟨rfl,rfl,rfl,rfl,rfl⟩
 have TU:n1.dE b:=.inr (by rw[xc,<-hN];simp);obtain⟨ha,o1,o2,o3,o4⟩:=s.va TU;have A5:=((s.h.act TU).2.2.2.2.2 (by rw[e.1];exact hpq)).mono (s.sub 4);rw[e.1] at ha A5 o1 o2 o3 o4;have hs:=s.rf;rcases dB ((n.A b).ids) i with⟨cI,id,hx,hd⟩|⟨dC,hd⟩
 ·repeat' refine aI ?_;intros
  rw[<-e.2.1];refine s.call (Bp (m:=SG (n.A b).x.aG id) s.h s.x SH (by rw[e.2.2.1];exact hi) (by rw[e.2.2.2.1,pM,e.2.2.2.2];simp;omega)) kQ λv w2 X2 lZ n2 s2 q m2=>?_;clear hs;repeat' refine aq ?_;intros
  refine ey ((n.A b).ids.length-(i+1)) zQ ⟨i+1,lZ,n2,by simp,rfl,by omega,s2,?_⟩;rw[C6 hx];refine ht.add ?_;obtain⟨v,r,e1,e2⟩:=q;exact⟨v,r,by rw[e1,e.2.2.1],e2⟩
 ·repeat' refine aI ?_;intros
  rw[az zQ] at ht;exact s.fin λwa hk=>⟨ki,by rw[hN,if_pos rfl];exact ht⟩
def dN (n:br) (b:Nat) (d:oP):br:= { n with A:=λb'=>if b'=b then d else n.A b' }
theorem jA:(dN n b d).A b=d:=if_pos rfl
theorem IE (h: ∀i,Q (tx b i)-> ∀w K A,(Kf b (n.A b) i).p w K A->(Kf b d i).p w K A:=by intro i hq w K A h;rcases i with _|_|_|_|_|_|_|_|i<;>first|exact h|exact absurd rfl hq.1|exact absurd rfl hq.2.1|exact absurd rfl hq.2.2|exact absurd rfl hq) (ht:d.x.aG=(n.A b).x.aG:=by rfl):
  ∀c,Q c-> ∀w K A,(ea n c).p w K A->(ea (dN n b d) c).p w K A:=
 oe (arS h) λi hi hq w K A p=>by
  by_cases aoc:i=12
  ·subst aoc;intro t b' e
   show(if b'=b then d else n.A b').x.aG=t
   by_cases hb:b'=b
   ·subst hb;rw[if_pos rfl,ht];exact p t b' e
   ·rw[if_neg hb];exact p t b' e
  ·rcases i with _|_|_|_|_|_|_|_|_|_|_|_|_|i<;>first|exact p|exact absurd rfl aoc
theorem Ax:dN (dN n b d) b e=dN n b e:=by
 unfold dN
 congr 1
 funext b'
 by_cases h:b'=b<;>simp[h]
theorem Qy {d':oP} (h: ∀i,Q (tx b i)-> ∀w K A,(Kf b d i).p w K A->(Kf b d' i).p w K A:=by intro i hq w K A h;rcases i with _|_|_|_|_|_|_|_|i<;>first|exact h|exact absurd rfl hq.1|exact absurd rfl hq.2.1|exact absurd rfl hq.2.2|exact absurd rfl hq|exact⟨h.1,h.2.1,λe=>Bool.noConfusion e⟩) (ht:d'.x.aG=d.x.aG:=by rfl):
  ∀c,Q c-> ∀w K A,(ea (dN n b d) c).p w K A->(ea (dN n b d') c).p w K A:=λc hq w K A p=>by
 have:=IE (n:=dN n b d) (d:=d') (by rw[jA];exact h) (by rw[jA];exact ht) c hq w K A p
 rwa [Ax] at this
theorem _root_.Go.aK.St.vs (s:Sn w0 bY w X own (dN n b d)) (hb:n.dE b):aH w X b (JQ d.x d.vw) aT/\aK.one d.vw=true/\aK.one d.x.vs=true/\aK.one d.x.vp=true/\aK.one d.x.vq=true:=by
 have:=s.va (b:=b) hb
 rwa [jA] at this
theorem Told.set {N:br} {l:List cJ} :Told N l n1->Told (dN N b e) l (dN n1 b e):=by
 rintro⟨v,r,rfl,h⟩;exact⟨v,r,rfl,h⟩
theorem rq (hi:i<4\/i=7) (h:(Kf b d i).p w K A):(ea (dN n b d) (tx b i)).p w K A:=by
 rw[wu _ _ _ zQ];rcases i with _|_|_|_|_|_|_|_|i<;>first|(simp only[zC,Di,jA];exact λ_=>h)|omega
theorem Ol {m:cJ} {vs vc:Value} (h:j9 w own n) (hX:tn own X) (hb:n.dE b) (hm:m.at w (bZ own 4) vk vs vw vp vr vc vh vd) (hf:m.C5) (hi:1<=n.c.id/\n.c.id<=2) (hl:n.rm.length<=2^20) (wo:(n.A b).rw.length<=2^20):
  Ct pg 63 #[ptr n.nb 0,ptr b 0,m.v vk vs vw vp vr vc vh vd] w X (gH own) λ_ wa w'=>NQ ea own wa w' λ_ n'=> ∃gX iK,iK.length=(n.A b).rw.length+1/\
   Told (dN n b { n.A b with vw:=gX,rw:=iK,ws:=(n.A b).ws++[m.asked (n.A b).x] }) [(m.asked (n.A b).x).pP (20+n.c.id)] n':=by
 intro w0 hk;have s:=St.init h hX hk;replace hm:=hm.mv (yU hX hk);obtain⟨⟨a1,a2,a3,rfl⟩,⟨b1,b2,b3,rfl⟩,⟨c1,c2,c3,rfl⟩,⟨e1,e2,e3,rfl⟩,q5,q6,q7,q8⟩:=hm.fm;have ha:=(s.va hb).1;have hs:=s.rf;refine ND.1 λ_=>?_;repeat' first|refine aq ?_;intros|(refine q1e hs ?_;intro _ _ _ w X hs ho)
 replace hm:=hm.mv (hs.gY (s.sub 4));replace s:=s.since hs;have jE:=fu.ahZ ⟨_,_,_,_,_,_,_,_,rfl,hm.as (m':=m.asked (n.A b).x)⟩;have od:=s.h.act hb;refine s.ap1 (tx b 0) (tx b 1) (tx b 3) od.1 od.2.1 ho.sl jE.Xz oQ (λv=>ea (dN n b { n.A b with vw:=v,rw:=_,ws:=(n.A b).ws++[m.asked (n.A b).x] })) (λ_ _ _ _ h=>rq dQ h) (λ_ _ _ _ h=>rq dQ h)
  (λ_ _ K A mv h=>rq dQ (by rw[wu _ _ _ dQ] at h;exact⟨fu.app (h hb).1 (jE.mv mv),(h hb).2⟩)) (λv'=>IE) (λv' w' X' aM s' m'=>?_) (wq:=by unfold tx;omega)
 replace hm:=hm.mv m';clear hs ha od;have hs:=s'.rf;repeat' refine aq ?_;intros
 refine cM (H7 (m:=m.asked (n.A b).x) ((hm.mv (Mv.sub (s'.sub 4))).as) ⟨hf.keys,hf.seen,hf.writes,hf.parts⟩) kQ s'.has ?_;rintro _ QA w7 X7 ⟨HR,qP,vw2,JZ,rfl,u1,u2,u3,u4⟩ Ss Ha np;replace hm:=hm.mv (np.gY (s'.sub 4));have s7:=s'.since np;obtain⟨Su,s8,m8,e8,n8⟩:=s7.yD (N:=made QA w7) λk hk=>⟨Ha k hk,by have:=hk.1;have:=s'.nw (k:=k) zQ;exact this⟩;have k8:Mv (made QA w7) w7 (bZ Su 4) w7:=Mv.sub n8;replace hm:=(hm.mv m8).as (m':=m.asked (n.A b).x);refine s8.call (Bp (n:=dN n b _) (m:=m.asked (n.A b).x) s8.h s8.x ⟨u1.mv k8,u2.mv k8,u3.mv k8,u4.mv k8,hm.ranges,hm.bw,hm.iA,hm.ia⟩ hi hl) kQ λv w9 X9 pQ n9 s9 q m9=>?_;obtain⟨v9,r9,rfl,QC⟩:=q
 skip
 exact s9.fin λwa hk=>⟨_,_,by rw[aa];rfl,v9,r9,rfl,QC⟩
def eQ (n:br):br:= { n with vm:=aX,va:=aX,rm:=[],ra:=[],ms:=[] }
structure Ba (w:World) (own:Nat->Nat) (n:br):Prop where
 om:Sl w (bZ own 4) 36 n.vm n.rm
 hm:fu w (bZ own 4) n.rm n.ms
 oa:Sl w (bZ own 4) 9 n.va n.ra
def Ba.mv (h:Ba w own n) (m:Mv (bZ own 4) w (bZ aM 4) w'):Ba w' aM n:=⟨h.om.mv m,h.hm.mv m,h.oa.mv m⟩
def Sw (own:Nat->Nat) (wa w':World) (P:br->Prop) (Q:br->Prop):Prop:=NQ ea own wa w' λaM n'=> ∃n1,P n1/\Q n1/\n'=eQ n1/\Ba w' aM n1
theorem E5 (h:j9 w own n) (hX:tn own X):Ct pg 47 #[ptr n.nb 0] w X (gH own) λv wa w'=>NQ ea own wa w' λaM n'=>v= .agg #[n.vm,n.va]/\n'=eQ n/\Ba w' aM n:=by
 intro w0 hk;have s:=St.init h hX hk;obtain⟨hr,o2,o3,-⟩:=s.v;have hs:=s.rf;have hO:Ba w0 own n->True:=λ_=>trivial;have q8:Own w0 (bZ own 8) 0 mT 36 n.vm n.rm:=s.get 8;have q9:Own w0 (bZ own 9) 0 anT 9 n.va n.ra:=s.get 9;have q11:fu w0 (bZ own 4) n.rm n.ms:=s.get 11;obtain⟨ir,s1,m1,e1,e2⟩:=s.EZ (F':=λc=>if c=8\/c=9\/c=11 then Q5 else ea n c) (λc=>c=8\/c=9) dQ (λc hc w K=>by rw[if_pos zQ];trivial) λc hc K A _ h=>by
  by_cases e:c=11
  ·rw[if_pos zQ];trivial
  ·rw[if_neg zQ];exact h
 have hO:Ba w0 ir n:=⟨q8.sl.mono λk e=>e1 k (.inl e),q11.mv m1,q9.sl.mono λk e=>e1 k (.inr e)⟩;refine Mq.1 λ_=>?_;repeat' refine aq ?_;intros
 refine s1.stN (o:=10) 1 (s1.get 1) (ea (eQ n)) zQ kQ (Nat.le_of_ble_eq_true rfl) rfl rfl (λ_ _ _ h=>h) (λc hc w K A h=>?_) λw2 X2 lZ s2 m2=>?_
 ·by_cases e:c=8\/c=9\/c=11
  ·rcases e with rfl|rfl|rfl
   ·exact Own.nil _ _ _ _ _
   ·exact Own.nil _ _ _ _ _
   ·exact fu.nil _ _
  ·rw[if_neg e] at h;exact(oe: ∀c,(c≠1/\c≠8/\c≠9/\c≠11)-> ∀w K A,(ea n c).p w K A->(ea (eQ n) c).p w K A) c zQ w K A h
 clear hs;repeat' refine aq ?_;intros
 exact s2.fin λwa hk=>⟨rfl,rfl,(hO.mv m2).mv (yU s2.x hk)⟩
def _root_.Go.aK.St.alJ {v:Value} {P:br->Prop} {Q:Value->br->Prop} (s:Sn w0 bY w X own (eQ n1)) (q:Ba w own n1) (hp:P n1) (hq:Q v n1):aK.fin (vy (gH bY) w0 λv w'=>Sw bY w0 w' P (Q v)) X w v:=
 St.fin (Q:=λv w' aM n'=> ∃n1,P n1/\Q v n1/\n'=eQ n1/\Ba w' aM n1) s λwa hk=>⟨n1,hp,hq,rfl,q.mv (yU s.x hk)⟩
theorem H6 (h:j9 w own n) (hX:tn own X) (hb:b∈n.cl) (hi:1<=n.c.id/\n.c.id<=2) (hl:n.rm.length+(n.C b).waits.length<=2^20):
  Ct pg 46 #[ptr n.nb 0,ptr b 0] w X (gH own) λ_ wa w'=>NQ ea own wa w' λ_ n'=>Told n ((n.C b).waits.map λid=>(Yi (n.C b).r id).pP (20+n.c.id)) n':=by
 intro w0 hk;have s:=St.init h hX hk;obtain⟨hc,o1,o2,hw⟩:=s.vc hb;have lh:(n.C b).waits.length<=2^20:=by omega
 have hs:=s.rf;refine I8.1 λ_=>?_;repeat' refine aq ?_;intros
 refine fY (λn' a w X=> ∃(i:Nat) (aM:Nat->Nat) (n1:br),a=I (i:Nat)/\n'=(n.C b).waits.length-i/\i<=(n.C b).waits.length/\Sn w0 own w X aM n1/\Told n (((n.C b).waits.take i).map λid=>(Yi (n.C b).r id).pP (20+n.c.id)) n1) (n.C b).waits.length ⟨0,own,n,rfl,rfl,Nat.zero_le _,s,Told.nil _⟩ ?_;clear hs s hc hw;rintro n' _ w1 X1 ⟨i,ir,n1,rfl,rfl,QJ,s,ht⟩;obtain⟨Xo,Qz,rfl,pM⟩:=id ht;obtain⟨hc,o1,o2,hw⟩:=s.vc (b:=b) hb;have hs:=s.rf;dsimp only at hc hw;rcases dB ((n.C b).waits) i with⟨cI,id,hx,hd⟩|⟨dC,hd⟩
 ·repeat' refine aI ?_;intros
  refine s.call (Bp (n:= { n with vm:=Xo,rm:=Qz,ms:=_ }) (m:=Yi (n.C b).r id) s.h s.x SH hi (by simp at pM;simp;omega)) kQ λv w2 X2 lZ n2 s2 q m2=>?_;clear hs;repeat' refine aq ?_;intros
  exact ey ((n.C b).waits.length-(i+1)) zQ ⟨i+1,lZ,n2,by simp,rfl,by omega,s2,by rw[C6 hx];exact ht.add q⟩
 ·repeat' refine aI ?_;intros
  rw[az zQ] at ht;exact s.fin λwa hk=>by rw[az zQ];exact ht
abbrev GG:=List (BA×gO)
def uZ (o:jz) (s:List gO) (wr:GG):Except Int (List gO×GG):=
 if o.code=2 then .ok (s.tail,cU o.key (s.headD .zero) wr)
 else if o.code=3 then .ok (s,cU o.key .zero wr)
 else if o.code=4 then .ok (o.val::s,wr)
 else if o.code=13 then(if RY (s.headD .zero)then .ok (s.tail,wr)else .error 22)
 else if o.code=14 then .ok (s.headD .zero::s,wr)
 else match zt o.code (s.tail.headD .zero) (s.headD .zero)with
  | .ok l=>.ok (l++s.tail.tail,wr)
  | .error e=>.error e
section
variable {N N' : XS} {rb sb wb : Nat} {xD oU : Value} {s s' : List gO} {wr px : GG}
theorem ix.put (h:ix w N rb sb wb xD s wr) (hX: ∀k,N k->X k) (c:dY (· =wb) X w X' w') (hm:dS w' X' nX wb Value.string nF px):ix w' N rb sb wb xD s px:=
 ⟨⟨h.row.1,(c.block _ (hX _ h.row.1) λe=>h.ne e.symm).trans h.row.2⟩,EC h.own λg hg=>⟨h.own.2.2 g hg,c.block g (hX _ (h.own.2.2 g hg)) λe=>h.ns.2 (by rw[<-e];exact hg)⟩,mi hm h.map.x.1⟩
theorem apy {b c:Value} {o':Nat} {C:Value->Prop} (h:aH w X rb [a,b,c] runT) (ho:o'=0+2) (n:C c):aY pg X w (ld1 287 (ptr rb o')) C:=by
 have hc:Cells w X rb (0+2) [c]:=h.cells.Wq (fo:=2) rfl;rw[ho];exact aex hc (Mv.refl _ _) kQ rfl n
theorem ajt {o:jz} (h:ix w N rb sb wb xD s wr) (hN:FX N X w) (hl:s.length<=2^20) (hg:o.code≠1) (hc:1<=o.code/\o.code<=15) (ht:tV o.code<=s.length):
  Fj pg 168 #[ptr rb 0,.agg o.l.toArray] w X N (λ_ wa w'=> ∃s' px N' oU,uZ o s wr= .ok (s',px)/\(∀k,N' k->N k\/made wa w' k)/\ix w' N' rb sb wb oU s' px) (λch _ _=> ∃e,uZ o s wr= .error e/\ch=wg e):=by
 intro w0 hk;have hT:=hN.ft hk;replace h:=h.mv (hN.mv hk);have Kd:=hN.kp hk;have bt:=h.row.mono λk ah=>(Kd k ah).1;have Ew: ∀{w3:World} {X3:XS} {N3:XS} {s3:List gO} {Vj:GG} {v:gO} {Ao:Value} {K:Value->World->XS->Prop},Ft w0 N w3 X3 N3->ix w3 N3 rb sb wb Ao s3 Vj->s3.length<=2^30->
   (∀x w4 X4 N4 HB,Ft w0 N w4 X4 N4->ix w4 N4 rb sb wb HB (v::s3) Vj->K x w4 X4)->eC pg (Fk N w0 (λ_ w'=> ∃s' px N' oU,uZ o s wr= .ok (s',px)/\(∀k,N' k->N k\/made w0 w' k)/\ix w' N' rb sb wb oU s' px) (λch _=> ∃e,uZ o s wr= .error e/\ch=wg e)) X3 w3 true 234 #[ptr rb 0,v.v] K:=λq1 q2 q3 k=>by
  refine q1.call (JA q2 (λk ah=>⟨q1.bg k ah,q1.s.has k (q1.bg k ah)⟩) q3) kQ (λ_ h=>h) λv zB w4 X4 hq tJ py fR c4=>?_;obtain⟨N4,HB,UN,h4⟩:=hq;exact k _ _ _ _ _ (fR.less UN) h4
 have aju: ∀{w3:World} {X3:XS} {N3:XS} {s3:List gO} {Vj:GG} {v:gO} {Ao:Value} {K:Value->World->XS->Prop},Ft w0 N w3 X3 N3->ix w3 N3 rb sb wb Ao (v::s3) Vj->
   (∀w4 X4 HB,Ft w0 N w4 X4 N3->ix w4 N3 rb sb wb HB s3 Vj->aH w4 X4 rb [HB,.map (some sb),.map (some wb)] runT->K v.v w4 X4)->eC pg (Fk N w0 (λ_ w'=> ∃s' px N' oU,uZ o s wr= .ok (s',px)/\(∀k,N' k->N k\/made w0 w' k)/\ix w' N' rb sb wb oU s' px) (λch _=> ∃e,uZ o s wr= .error e/\ch=wg e)) X3 w3 true 236 #[ptr rb 0] K:=λq1 q2 k=>by
  refine q1.call (MP q2 (λk ah=>⟨q1.bg k ah,q1.s.has k (q1.bg k ah)⟩)) kQ (λ_ h=>h) λv zB w4 X4 hq tJ py fR c4=>?_;obtain⟨rfl,HB,h4⟩:=hq;have Ad:=fR.less (F':=_) λk ah=>.inl ah;exact k _ _ _ Ad h4 (h4.row.mono λk ah=>Ad.bg k ah)
 have MM: ∀{w3:World} {X3:XS} {N3:XS} {s3:List gO} {v:gO} {Ao:Value} {K:Value->World->XS->Prop},Ft w0 N w3 X3 N3->ix w3 N3 rb sb wb Ao s3 wr->
   (∀w4 X4,Ft w0 N w4 X4 N3->ix w4 N3 rb sb wb Ao s3 (cU o.key v wr)->K undef w4 X4)->eU pg (Fk N w0 (λ_ w'=> ∃s' px N' oU,uZ o s wr= .ok (s',px)/\(∀k,N' k->N k\/made w0 w' k)/\ix w' N' rb sb wb oU s' px) (λch _=> ∃e,uZ o s wr= .error e/\ch=wg e)) X3 w3 true (Instr.mapUpdate 287 (.map (some wb)) (.string o.key) v.v) K:=λ{w3} {X3} {N3} {s3} {v} {Ao} {K} q1 q2 k=>by
  refine vJ (kv:=Value.string) (k:=o.key) (a:=v) (kt:=9) (et:=97) (q2.mv (Mv.sub q1.bg)).map kP rfl (λ_ h=>h.elim) yt kQ q1.s.has λw4 X4 c4 Az=>?_;exact k _ _ (q1.dT (F':=N3) c4 (λk ah=>by subst ah;exact q2.map.x.1) λk ah=>.inl ah) (q2.put q1.bg c4 Az)
 have ux: ∀{w3:World} {X3:XS} {N3:XS} {s3:List gO} {Vj:GG} {Ao:Value} {x:Value},Ft w0 N w3 X3 N3->ix w3 N3 rb sb wb Ao s3 Vj->uZ o s wr= .ok (s3,Vj)->
   fin (Fk N w0 (λ_ w'=> ∃s' px N' oU,uZ o s wr= .ok (s',px)/\(∀k,N' k->N k\/made w0 w' k)/\ix w' N' rb sb wb oU s' px) (λch _=> ∃e,uZ o s wr= .error e/\ch=wg e)) X3 w3 x:=λq1 q2 q3=>
  q1.yf λwa aL=>⟨_,_,_,_,q3,q1.jv aL λ_ h=>h,q2.mv (aL.jj q1.bg)⟩
 have hs:=ai.init w0;have h1:tV o.code=if o.code=3\/o.code=4 then 0 else if o.code=2\/o.code=13\/o.code=14 then 1 else 2:=by
  unfold tV;rw[if_neg zQ];by_cases q:o.code=3\/o.code=4
  ·rw[if_pos zQ,if_pos q]
  ·rw[if_neg zQ,if_neg q]
 by_cases e2:o.code=2
 ·rw[if_neg zQ,if_pos zQ] at h1;cases s with
  |nil=>simp at ht;omega
  |cons v s=>
   refine pE.1 λ_=>?_;repeat' first|refine aI ?_;intros|with_reducible apply cK|(refine aju hT h λw1 X1 ajk eo h1 Ek=>?_)|(refine And.intro ?_ ?_)|(refine MM aQ aQ λw2 X2 da h2=>?_)|(exact ux aQ aQ (by unfold uZ;rw[if_pos e2];rfl))|(refine apy aQ aQ ?_)
 by_cases e3:o.code=3
 ·refine pE.1 λ_=>?_;repeat' first|refine aI ?_;intros|with_reducible apply cK|(refine MM (v:=.zero) hT h λw2 X2 da h2=>?_)|(exact ux aQ aQ (by unfold uZ;rw[if_neg e2,if_pos e3]))
 by_cases e4:o.code=4
 ·refine pE.1 λ_=>?_;repeat' first|refine aI ?_;intros|with_reducible apply cK|(refine Ew (v:=o.val) hT h zQ λx w2 X2 N2 an2 da h2=>?_)|(exact ux aQ aQ (by unfold uZ;rw[if_neg e2,if_neg e3,if_pos e4]))
 by_cases e13:o.code=13
 ·rw[if_neg zQ,if_pos zQ] at h1;cases s with
  |nil=>simp at ht;omega
  |cons v s=>
   refine pE.1 λ_=>?_;repeat' first|refine aI ?_;intros|with_reducible apply cK|(refine aju hT h λw1 X1 ajk eo h1 Ek=>?_)
   refine sk (aah v) kQ eo.s.has λw2 X2 bH=>?_;have da:=eo.since bH;have h2:=h1.mv (bH.gY λk ah=>eo.bg k ah);by_cases hh:RY v=true
   ·rw[hh];repeat' first|refine aq ?_;intros|(exact ux da h2 (by unfold uZ;rw[if_neg e2,if_neg e3,if_neg e4,if_pos e13];simp only[List.headD_cons,hh,if_true,List.tail_cons]))
   ·rw[Bool.eq_false_iff.2 hh];repeat' first|refine aq ?_;intros|(with_reducible refine SD ?_ ?_);(· kernel_rfl)
    exact SE da.s.has λwa ou=>da.jg ou ⟨22,by unfold uZ;rw[if_neg e2,if_neg e3,if_neg e4,if_pos e13];exact if_neg hh,rfl⟩
 by_cases e14:o.code=14
 ·rw[if_neg zQ,if_pos zQ] at h1;cases s with
  |nil=>simp at ht;omega
  |cons v s=>
   refine pE.1 λ_=>?_;repeat' first|refine aI ?_;intros|with_reducible apply cK|(refine aju hT h λw1 X1 ajk eo h1 Ek=>?_)
   refine Ew (v:=v) eo h1 (by simp only[aJ] at hl;omega) λx w2 X2 N2 an2 da h2=>?_;repeat' refine aq ?_;intros
   refine Ew (v:=v) da h2 (by simp only[aJ] at hl⊢;omega) λx w3 X3 N3 Ao dU h3=>?_;repeat' first|(exact ux aQ aQ (by unfold uZ;rw[if_neg e2,if_neg e3,if_neg e4,if_neg e13,if_pos e14];rfl))
 ·rw[if_neg zQ,if_neg zQ] at h1;obtain⟨b,a,s,rfl⟩: ∃b a s',s=b::a::s':=by
   match s,ht with
   |[],ht=>simp at ht;omega
   |[_],ht=>simp at ht;omega
   |b::a::s,_=>exact⟨b,a,s,rfl⟩
  have hd:uZ o (b::a::s) wr=match zt o.code a b with| .ok l=>.ok (l++s,wr)| .error e=>.error e:=by
   unfold uZ;rw[if_neg e2,if_neg e3,if_neg e4,if_neg e13,if_neg e14];rfl
  refine pE.1 λ_=>?_;repeat' first|refine aI ?_;intros|with_reducible apply cK
  refine hT.Gw (agP h Kd (by simp only[aJ] at hl;omega)) kQ (λ_ h=>h) (λv zA w3 X3 hq rn mX dU c3=>?_) λch zA w3 X3 hq rn mX dU c3 wb pS=>?_
  ·obtain⟨l,N3,Ao,hl3,hN3,h3⟩:=hq;repeat' first|(exact ux (dU.less hN3) h3 (by rw[hd,hl3]))
  ·obtain⟨e,he,hch⟩:=hq;exact dU.jg pS ⟨e,by rw[hd,he],hch⟩
end
end Go.Proofs.YtgfijddlkhkopaaGreat