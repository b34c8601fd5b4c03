/-
 Part 9 of the proof: what the last text leans on.
-/
import Derived.Test.YtgfijddlkhkopaaGreatH8
open List renaming mem_singleton → aw, map_append → aJ, replicate → gG, getElem?_append_left → dT, length_append → aa, getElem?_append_right → cP, append_assoc → ak, length_map → ai, getLast?_eq_some_getLast → mD, nil_append → cx, take_of_length_le → ax, length_cons → aM, dropLast_concat_getLast → sx, pairwise_singleton → vi, getElem?_eq_getElem → aU, not_mem_nil → dC
open ByteArray renaming size_append → rB
open Go.Value renaming int → ay
open Option.some renaming inj → bW
open Nat renaming le_trans → ad
namespace Go.Proofs.YtgfijddlkhkopaaGreat
open Go.Proofs.Tryz renaming prog → pg
open Go.aG
set_option maxRecDepth 100000
set_option maxHeartbeats 4000000
set_option linter.unusedVariables false
set_option linter.unusedSimpArgs false
attribute [local irreducible] un jn jq ji ld1 je st1 oS mO pj me pH HR D4 gT pI aZ nO nQ eW eV eU eC eF gE mE fin iM bq de vS KZ HS HT HU HV HW K0 K3 K4 K5 EW EX HX HY HZ K6 K7 K8
def qH:Nat->Nat->List Nat
 |0,_=>[]
 |k+1,n=>qH k (n/10)++[48+n % 10]
theorem vE: ∀k n,(qH k n).length=k
 |0,_=>rfl
 |k+1,n=>by rw[qH,aa,vE];rfl
def bL (dir:ByteArray) (n:Nat):ByteArray:=dir++⟨#[46]⟩++Co (qH 8 n)
theorem A2 (dir:ByteArray) (n:Nat):(bL dir n).size=dir.size+9:=by
 unfold bL;rw[rB,rB,UL,vE];rfl
variable {X : XS} {w : World} {b : Nat}
section
variable {P : Program} {N : Value -> Prop} {t : TypeId}
theorem afu {a:Nat} (hb:b≠0) (h:N (I ((a % b:Nat):Int))):aZ P X w (binOp .rem t (I (a:Int)) (I (b:Int))) N:=by
 refine bA (λwa=>?_) h;simp[binOp,Op.intDiv,hb];exact(Int.ofNat_tmod a b).symm
theorem anI {a:Nat} (hb:b≠0) (ha:a<2^63) (h:N (I ((a/b:Nat):Int))):aZ P X w (binOp .quo t (I (a:Int)) (I (b:Int))) N:=by
 refine bA (λwa=>?_) h;have h1:(a:Int).tdiv b=((a/b:Nat):Int):=(Int.ofNat_tdiv a b).symm;have h2:a/b<=a:=Nat.div_le_self a b;have h3:IntKind.i64.wrap ((a/b:Nat):Int)=((a/b:Nat):Int):=by
  generalize a/b=q at h2;simp[IntKind.wrap,IntKind.bits,IntKind.signed];omega
 have dU: ¬(b:Int)=0:=by omega
 simp only[binOp,Op.intDiv,dU,if_false,h1,h3];simp
end
theorem ao8 (a:Int):Instr.fill (λi=>some (i*1,1)) ((Array.range (8*1)).map ((ay .u8 0).cells[· % (ay .u8 0).cells.size]!)) [(0,.int .u8 a),(1,.int .u8 a),(2,.int .u8 a),(3,.int .u8 a),(4,.int .u8 a),(5,.int .u8 a),(6,.int .u8 a),(7,.int .u8 a)]=some #[.int .u8 a,.int .u8 a,.int .u8 a,.int .u8 a,.int .u8 a,.int .u8 a,.int .u8 a,.int .u8 a]:=by kernel_rfl
abbrev U8 (x:Nat):Value:=.int .u8 x
variable {dir : ByteArray}
theorem yr {n:Nat} (hd:dir.size<=2^40) (hn:n<2^63):Ct pg 178 #[.string dir,I n] w X nX λv wa w'=>v= .string (bL dir n):=by
 intro w0 hk;refine aa5.1 λ_=>?_;have hT:Ft w0 nX w0 (bV w0) nX:=Ft.init λ_ h=>h.elim;refine Wg (e:=5) (k:=1) (bytes:=1) (rows:=(gG 8 48).map U1) #[.int .u8 48,.int .u8 48,.int .u8 48,.int .u8 48,.int .u8 48,.int .u8 48,.int .u8 48,.int .u8 48] (.int .u8 0) hT.s.has kQ kQ dQ dQ (ao8 48) sQ rfl rfl λs w1 X1 aC ho=>?_;rcases ho.row with⟨_,he⟩|⟨g,cap,cs,rfl,gv,bo,ql,iF,qi,px⟩
 ·cases he
 have h8:cs.take 8=(gG 8 48).map U8:=px;have hl8:8<=cs.length:=by have:((gG 8 48).map U1).length<=cap:=ql;simp at this;omega
 refine akJ bo kQ kQ aC.has λw2 X2 hc hF=>?_;have ej:Ft w0 nX w1 X1 (λk=>k=g):=(hT.since aC).more λk af=>by subst af;exact .inr ⟨bo.1,gv⟩
 have da:Ft w0 nX w2 X2 (λk=>k=g):=ej.eo hc (λk af=>af) λk af=>.inl af;refine gM (λn' a b w X=> ∃(k m:Nat) (tail:List Nat) (cs:List Value),a=I ((k:Int)-1)/\b=I (m:Int)/\n'=k/\k<=8/\m<2^63/\qH 8 n=qH k m++tail/\Jl w X g cs 5/\cs.take 8=(gG k 48++tail).map U8/\8<=cs.length/\Ft w0 nX w X (λk=>k=g)) 8 ⟨8,n,[],cs,rfl,rfl,rfl,Nat.le_refl _,hn,by simp,hF,by simpa using h8,hl8,da⟩ ?_;clear h8 hl8 hF da hc;rintro k a b w X ⟨_,m,tail,cs,rfl,rfl,rfl,hk8,hm,RA,hF,NB,hl8,da⟩;have cC:(qH k m).length+tail.length=8:=by have:=congrArg List.length RA;rw[vE,aa] at this;exact this.symm
 rw[vE] at cC;cases k with
 |succ k=>
  have AH:cs[k]? =some (U8 48):=by
   have h1:(cs.take 8)[k]? =cs[k]? :=by rw[List.getElem?_take,if_pos zQ]
   rw[<-h1,NB,aJ,dT sQ];simp
  have uP:=hF.cells.Wj AH;rw[Nat.zero_add] at uP;have hz:((k+1:Nat):Int)-1=(k:Nat):=by omega
  have h49:IntKind.u8.wrap (((48:Nat):Int)+IntKind.u8.wrap ((m % 10:Nat):Int))=((48+m % 10:Nat):Int):=by rw[Nj,Nj];omega
  rw[hz];repeat' refine aN ?_;intros
  refine aju rfl oQ kQ kQ ?_;rw[Nat.mul_one];refine aee uP (Mv.refl _ _) kQ rfl ?_;refine afu (a:=m) (b:=10) zQ ?_;refine aef kQ kQ ?_;refine oD ?_;rw[h49];refine aju rfl oQ kQ kQ ?_;rw[Nat.mul_one];refine aoI hF kQ zQ rfl da.s.has λw3 X3 c hF3=>?_;have dS:Ft w0 nX w3 X3 (λk=>k=g):=da.eo c (λk af=>af) λk af=>.inl af;refine anI (a:=m) (b:=10) zQ hm ?_;repeat' refine ao ?_;intros
  refine fK k zQ ⟨k,m/10,(48+m % 10)::tail,_,rfl,rfl,rfl,by omega,by omega,?_,hF3,?_,by rw[List.length_set];exact hl8,dS⟩
  ·rw[RA,qH,ak];rfl
  ·rw[List.take_set,NB];have e:(gG (k+1) 48++tail)=gG k 48++48::tail:=by rw[List.replicate_succ',ak];rfl
   rw[e,aJ,aJ,List.set_append_right _ _ sQ,ai,List.length_replicate,Nat.sub_self];rfl
 |zero=>
  have htl:tail=qH 8 n:=by rw[RA];rfl
  have arp:cs.take 8=(qH 8 n).map U8:=by rw[NB,<-htl];rfl
  have uP:Cells w X g 0 ((qH 8 n).map λx:Nat=>ay .u8 x):=by
   have h1:=hF.cells.part 0 8;rw[List.drop_zero,arp] at h1;exact h1
  have h2:aj (bV w0) w0 X w:=da.CX;repeat' refine aN ?_;intros
  refine Zk (by show dir.size+1<=_;omega) ?_;refine SA (e:=5) (by simp[vE]) uP kQ kQ kQ da.s.has λw4 X4 fR=>?_;replace h2:=h2.trans fR;refine Zk (by rw[rB,UL,vE];show dir.size+1+8<=_;omega) ?_;exact cG h2 λwa aL=>rfl
theorem adl {n:Nat} (h1:1<=dir.size) (h2:dir.size<=11) (h3:1<=n) (h4:n<=99999999):Ct pg 124 #[.string dir,I n] w X nX λv wa w'=>v= .tuple #[.string (bL dir n),I 0]:=by
 intro w0 hk;refine aa4.1 λhs=>?_;repeat' first|refine aN ?_;intros|refine dq ?_ ?_<;>intros|(refine cA (yr zQ zQ) kQ hs.has ?_;rintro _ wa w X rfl hle gy aC;replace hs:=hs.trans aC)|(refine qr ?_;intro wa hk;rfl)
 rename_i he;subst he;exact absurd h1 dQ
structure dO where
 first:Nat
 bp:List (List Nat)
 size:Nat
structure LM where
 dir:ByteArray
 room:Nat
 bu:List dO
 safe:Int
def LM.last (L:LM):dO:=L.bu.getLast?.getD ⟨0,[],0⟩
def LM.next (L:LM):Nat:=L.last.first+L.last.bp.length
def LM.ff (L:LM):ByteArray:=bL L.dir L.last.first
structure LD where
 L:LM
 m:DM
def LD.sync (x:LD):LD×Nat:=let r:=x.m.sync x.L.ff;(⟨if r.2=0 then { x.L with safe:=(x.L.next:Int)-1 } else x.L,r.1⟩,r.2)
def LD.iI (x:LD) (n:Nat):LD×Nat:=let r:=x.m.create (bL x.L.dir n);(⟨if r.2=0 then { x.L with bu:=x.L.bu++[⟨n,[],0⟩] } else x.L,r.1⟩,r.2)
def LD.room (x:LD):LD×Nat:=if x.L.room<=x.L.last.size then(let r:=x.sync;if r.2≠0 then r else r.1.iI x.L.next)else(x,0)
def LM.add (L:LM) (p:List Nat):LM:= { L with bu:=L.bu.dropLast++[⟨L.last.first,L.last.bp++[p],L.last.size+(dt p).length⟩] }
def LD.lay (x:LD) (p:List Nat):LD×Nat:=let r:=x.m.append x.L.ff (dt p);(⟨if r.2=0 then x.L.add p else x.L,r.1⟩,r.2)
def LD.append (x:LD) (p:List Nat):LD×Nat×Nat:=
 if 262144<p.length then(x,0,2)else if 99999999<x.L.next then(x,0,1)else
  let r:=x.room
  if r.2≠0 then(r.1,0,r.2)else
   let q:=r.1.lay p
   if q.2≠0 then(q.1,0,q.2)else(q.1,x.L.next,0)
structure mY where
 b:Nat
 first:Nat
 rv:Value
 rs:List (Value×List Nat)
 size:Nat
def mY.er (s:mY):dO:=⟨s.first,s.rs.map (·.2),s.size⟩
def aaq (x y:mY):Prop:=x.b≠y.b/\ ∀g,x.rv.ownBlock=some g->y.rv.ownBlock≠some g
def xc (l:List Nat):Prop:= ∀x∈l,x<256
structure zo (w:World) (F:XS) (lb db:Nat) (sv:Value) (bl:List mY) (L:LM):Prop where
 bu:L.bu=bl.map mY.er
 box:aK w F lb [ptr db 0,.string L.dir,I L.room,sv,I L.safe] 231
 so:Ow w F 239 1 sv (bl.map λs=>[ptr s.b 0])
 row: ∀s∈bl,aK w F s.b [I s.first,s.rv,I s.size] 238
 Ap: ∀s∈bl,Ow w F 151 1 s.rv (s.rs.map λr=>[r.1])
 Ik: ∀s∈bl,∀r∈s.rs,Ow w F 5 1 r.1 (r.2.map U1)
 ap:bl.Pairwise aaq
variable {L : LM} {sv : Value} {db lb : Nat} {F F' : XS} {w' : World}
theorem zo.mv {bl:List mY} (h:zo w F lb db sv bl L) (v:Mv F w F' w'):zo w' F' lb db sv bl L:=
 ⟨h.bu,h.box.mv v,h.so.mv v,λs hs=>(h.row s hs).mv v,λs hs=>(h.Ap s hs).mv v,λs hs r hr=>(h.Ik s hs r hr).mv v,h.ap⟩
def Lg (w:World) (F:XS) (lb db:Nat) (L:LM) (m:DM):Prop:=
 ∃FL FD sv bl,Dj FL FD/\(∀k,FL k->F k)/\(∀k,FD k->F k)/\zo w FL lb db sv bl L/\Dk w FD db m
theorem Lg.mv {m:DM} (h:Lg w F lb db L m) (v:Mv F w F w'):Lg w' F lb db L m:=by
 obtain⟨FL,FD,sv,bl,hd,h1,h2,h3,h4⟩:=h;exact⟨FL,FD,sv,bl,hd,h1,h2,h3.mv λk hk hl=>⟨hk,(v k (h1 k hk) hl).2⟩,h4.mv λk hk hl=>⟨hk,(v k (h2 k hk) hl).2⟩⟩
theorem Lg.mono {m:DM} (h:Lg w F lb db L m) (hs: ∀k,F k->F' k):Lg w F' lb db L m:=by
 obtain⟨FL,FD,sv,bl,hd,h1,h2,h3,h4⟩:=h;exact⟨FL,FD,sv,bl,hd,λk hk=>hs k (h1 k hk),λk hk=>hs k (h2 k hk),h3,h4⟩
structure pM (L:LM):Prop where
 ne:L.bu≠[]
 d1:1<=L.dir.size
 d2:L.dir.size<=11
 yM: ∀s∈L.bu,s.first+s.bp.length<=2^40/\s.size<=2^40
 room:L.room<=2^40
theorem LM.xL (h:L.bu≠[]):L.last∈L.bu:=by
 unfold LM.last;rw[mD h]
 grind
theorem LM.SN (h:L.bu≠[]):L.bu=L.bu.dropLast++[L.last]:=by
 unfold LM.last;rw[mD h];exact(sx h).symm
theorem pM.next (h:pM L):L.next<=2^40:=(h.yM _ (LM.xL h.ne)).1
theorem pM.first (h:pM L):L.last.first<=2^40:=by have:=h.next;unfold LM.next at this;omega
theorem zo.last {bl:List mY} (h:zo w F lb db sv bl L) (hL:pM L): ∃rI s,bl=rI++[s]/\s.er=L.last/\L.bu.dropLast=rI.map mY.er:=by
 have cj:bl≠[]:=λe=>hL.ne (by rw[h.bu,e];rfl);refine⟨bl.dropLast,bl.getLast cj,(sx cj).symm,?_,?_⟩
 ·unfold LM.last;rw[h.bu,List.getLast?_map,mD cj];rfl
 ·rw[h.bu,List.map_dropLast]
variable {s : mY} {rI : List mY}
section
variable {bl : List mY}
theorem yt (h:zo w F lb db sv (rI++[s]) L) (hF:FX F X w):Ct pg 130 #[ptr lb 0] w X nX λv wa w'=>v=ptr s.b 0:=by
 intro w0 hk;replace h:=h.mv (hF.mv hk);have hX:=λk af=>(hF.kp hk k af).1;have hb:=h.box.mv (Mv.sub hX);have GC:=h.so.sl.mono hX;have hlen:=GC.ib;have wS:(rI++[s]).length=rI.length+1:=by simp
 have DD:(rI++[s])[rI.length]? =some s:=by simp
 refine RH.1 λhs=>?_;repeat' first|refine ao ?_;intros|(refine qr ?_;intro wa hk;rfl)
theorem Er (h:zo w F lb db sv bl L) (hL:pM L) (hF:FX F X w):Ct pg 77 #[ptr lb 0] w X nX λv wa w'=>v=I L.next:=by
 intro w0 hk;obtain⟨rI,s,rfl,he,_⟩:=h.last hL;replace h:=h.mv (hF.mv hk);have hX:=λk af=>(hF.kp hk k af).1;have mu:s∈rI++[s]:=by simp
 have hb:=(h.row s mu).mv (Mv.sub hX);have hr:=(h.Ap s mu).sl.mono hX;have hn:=hL.next
 have nJ:L.next=s.first+s.rs.length:=by unfold LM.next;rw[<-he];simp[mY.er]
 have oG:FX F (bV w0) w0:=hF.kp hk;refine RF.1 λhs=>?_;refine cA (yt h oG) kQ hs.has ?_;rintro _ wa w1 X1 rfl hle gy aC;replace hs:=hs.trans aC;have lD:=hb.since hs;repeat' refine ao ?_;intros
 refine cA (yt (h.mv (hs.gU hX)) λk af=>⟨hs.sub k (hX k af),hs.has k (hs.sub k (hX k af))⟩) kQ hs.has ?_;rintro _ yE w2 X2 rfl mq kW bm;replace hs:=hs.trans bm;have tU:=hb.since hs;have jI:=hr.since hs;clear lD;repeat' first|refine ao ?_;intros|(refine qr ?_;intro wa hk;(rw[nJ];simp))
theorem OG (h:zo w F lb db sv bl L) {s:dO} {r:List dO} (hL:L.bu=s::r) (hF:FX F X w):Ct pg 76 #[ptr lb 0] w X nX λv wa w'=>v=I s.first:=by
 intro w0 hk;have LL:=h.bu;rw[hL] at LL;cases bl with
 |nil=>cases LL
 |cons s' rI=>
  simp only[List.map_cons,List.cons.injEq] at LL;replace h:=h.mv (hF.mv hk);have hX:=λk af=>(hF.kp hk k af).1;have hb:=h.box.mv (Mv.sub hX);have tU:=(h.row s' sQ).mv (Mv.sub hX);refine PH.1 λhs=>?_;repeat' refine ao ?_;intros
  refine ajt (i:=0) (h.so.sl.mono hX) rfl rfl kQ kQ λb o hc=>?_;repeat' first|refine ao ?_;intros|(refine qr ?_;intro wa hk;(rw[LL.1];rfl))
end
structure LW (w:World) (F:XS) (lb db:Nat) (L:LM) (m:DM) (FL FD:XS) (sv:Value) (bl:List mY):Prop where
 dj:Dj FL FD
 hL: ∀k,FL k->F k
 hD: ∀k,FD k->F k
 l:zo w FL lb db sv bl L
 d:Dk w FD db m
theorem Lg.lw {m:DM} (h:Lg w F lb db L m): ∃FL FD sv bl,LW w F lb db L m FL FD sv bl:=let⟨FL,FD,sv,bl,a,b,c,d,e⟩:=h;⟨FL,FD,sv,bl,a,b,c,d,e⟩
variable {FD FL : XS}
theorem LW.lg {m:DM} {bl:List mY} (h:LW w F lb db L m FL FD sv bl):Lg w F lb db L m:=⟨FL,FD,sv,bl,h.dj,h.hL,h.hD,h.l,h.d⟩
variable {wa : World} {OF X' : XS} {m' : DM}
section
variable {m : DM} {bl : List mY}
theorem LW.mv (h:LW w F lb db L m FL FD sv bl) (v:Mv F w F w'):LW w' F lb db L m FL FD sv bl:=
 ⟨h.dj,h.hL,h.hD,h.l.mv λk hk hl=>⟨hk,(v k (h.hL k hk) hl).2⟩,h.d.mv λk hk hl=>⟨hk,(v k (h.hD k hk) hl).2⟩⟩
theorem LW.mono (h:LW w F lb db L m FL FD sv bl) (hs: ∀k,F k->F' k):LW w F' lb db L m FL FD sv bl:=⟨h.dj,λk hk=>hs k (h.hL k hk),λk hk=>hs k (h.hD k hk),h.l,h.d⟩
theorem LW.Pp (h:LW w F lb db L m FL FD sv bl) (hF:FX F X w) (hle:w.heap.size<=wa.heap.size) (c:eh FD X w X' w') (Di: ∀k,OF k->FD k\/made wa w' k) (hd:Dk w' OF db m'):LW w' (λk=>F k\/made wa w' k) lb db L m' FL OF sv bl:=
 ⟨λk a b=>(Di k b).elim (h.dj k a) λhm=>by have:=(hF k (h.hL k a)).2;have:=hm.1;omega,λk hk=>.inl (h.hL k hk),λk hk=>(Di k hk).imp (h.hD k) id,
  h.l.mv (c.jf λk hk=>⟨(hF k (h.hL k hk)).1,λhf=>h.dj k hk hf⟩),hd⟩
theorem zo.ak1 {z:Int} (h:zo w FL lb db sv bl L) (hX: ∀k,FL k->X k) (c:eh (· =lb) X w X' w') (hr:aK w' X' lb [ptr db 0,.string L.dir,I L.room,sv,I z] 231):zo w' FL lb db sv bl { L with safe:=z } :=by
 have mv: ∀{A:XS},(∀k,A k->FL k/\k≠lb)->Mv A w FL w':=λhA k hk _=>⟨(hA k hk).1,c.block k (hX k (hA k hk).1) (hA k hk).2⟩;refine⟨h.bu,⟨h.box.1,hr.2⟩,?_,λs hs=>?_,λs hs=>?_,λs hs r hr=>?_,h.ap⟩
 ·exact h.so.tight.mv (mv λk hk=>⟨(h.so.br hk).1,λe=>h.so.eP h.box kQ (e▸hk)⟩)
 ·exact(h.row s hs).own.mv (mv λk hk=>by subst hk;exact⟨(h.row s hs).1,(h.row s hs).eP h.box kQ⟩)
 ·exact(h.Ap s hs).tight.mv (mv λk hk=>⟨((h.Ap s hs).br hk).1,λe=>(h.Ap s hs).eP h.box kQ (e▸hk)⟩)
 ·exact(h.Ik s hs r hr).tight.mv (mv λk hk=>⟨((h.Ik s hs r hr).br hk).1,λe=>(h.Ik s hs r hr).eP h.box kQ (e▸hk)⟩)
end
theorem I4 {m:DM} (h:Lg w F lb db L m) (hL:pM L) (hF:FX F X w):
  Ct pg 139 #[ptr lb 0] w X F λv wa w'=>v=I (LD.sync ⟨L,m⟩).2/\ ∃F',(∀k,F' k->F k\/made wa w' k)/\Lg w' F' lb db (LD.sync ⟨L,m⟩).1.L (LD.sync ⟨L,m⟩).1.m:=by
 intro w0 hk;obtain⟨FL,FD,sv,bl,h⟩:=(h.mv (hF.mv hk)).lw;have hT:=hF.ft hk;have oG:FX F (bV w0) w0:=hF.kp hk;obtain⟨rI,s,JR,he,_⟩:=h.l.last hL;have hFL:FX FL (bV w0) w0:=λk af=>oG k (h.hL k af);have hX:=λk af=>(hFL k af).1;have hb:=h.l.box.mv (Mv.sub hX);have mu:s∈bl:=by rw[JR];simp
 have wR:=(h.l.row s mu).mv (Mv.sub hX);have Fp:s.first=L.last.first:=by rw[<-he];rfl
 have hfb:=hL.first
 refine RI.1 λhs=>?_;repeat' refine ao ?_;intros
 refine cA (yt (JR▸h.l) hFL) kQ hs.has ?_;rintro _ wa w1 X1 rfl hle gy aC;replace hs:=hs.trans aC;have XY:=wR.since hs;repeat' refine ao ?_;intros
 rw[Fp];refine cA (yr (by have:=hL.d2;omega) zQ) kQ hs.has ?_;rintro _ yE w2 X2 rfl mq kW bm;replace hs:=hs.trans bm;have da:=hT.since hs;have h2:=h.mv (hs.gU hT.br);refine da.call (abl h2.d (da.fx h2.hD)) kQ h2.hD λv yF w3 X3 hq qy mr dS uQ=>?_;obtain⟨rfl,OF,Po,hD⟩:=hq;have h3:=h2.Pp (da.fx λ_ h=>h) qy uQ Po hD;have eS:LD.sync ⟨L,m⟩=(⟨if(m.sync L.ff).2=0 then { L with safe:=(L.next:Int)-1 } else L,(m.sync L.ff).1⟩,(m.sync L.ff).2):=rfl;have eN:L.ff=bL L.dir L.last.first:=rfl
 rw[eS];dsimp only;rw[eN];generalize Ue:m.sync (bL L.dir L.last.first)=ms at h3⊢;have nJ:=hL.next
 repeat' first|refine ao ?_;intros|refine dq ?_ ?_<;>intros|with_reducible apply cK
 ·rename_i hz;have hz:ms.2=0:=by have:(ms.2:Int)=0:=(by assumption);omega
  refine cA (Er h3.l hL (dS.fx h3.hL)) kQ dS.s.has ?_;rintro _ zj w4 X4 rfl tL pa fR;have fJ:=dS.since fR;have h4:=h3.mv (fR.gU dS.br);have hX4: ∀k,FL k->X4 k:=λk af=>fJ.br k (h4.hL k af);repeat' refine ao ?_;intros
  refine qj (o:=4) (h4.l.box.mv (Mv.sub hX4)) zQ kQ sQ rfl fJ.s.has λw5 X5 c5 Dg=>?_;have iN:=fJ.eo (F':=λk=>F k\/made yF w3 k) c5 (λk af=>by subst af;exact h4.hL _ h4.l.box.1) λk af=>.inl af;refine iN.fin λwa aL=>⟨rfl,_,iN.jC aL λ_ h=>h,?_⟩;rw[if_pos hz];refine Lg.mv ⟨FL,OF,sv,bl,h4.dj,h4.hL,h4.hD,(h4.l.ak1 hX4 c5 Dg),h4.d.mv (c5.jf λk af=>⟨fJ.br k (h4.hD k af),λe=>h4.dj k (by rw[e];exact h4.l.box.1) af⟩)⟩ (aL.jf iN.br)
 ·have hz: ¬ms.2=0:=by have: ¬(ms.2:Int)=0:=(by assumption);omega
  refine dS.fin λwa aL=>⟨rfl,_,dS.jC aL λ_ h=>h,?_⟩;rw[if_neg hz];exact(h3.mv (aL.jf dS.br)).lg
variable {G : XS} {p : List Nat}
section
variable {B2 : XS} {m : DM} {Fo : Value} {bl : List mY}
theorem zo.abH (h:zo w FL lb db sv bl L) (hX:FX FL X w) (c:eh G X w X' w') (hG: ∀k,G k->k=lb\/sv.ownBlock=some k) (Z3: ∀k,FL k->B2 k)
  (hr:aK w' B2 lb [ptr db 0,.string L.dir,I L.room,Fo,I L.safe] 231) (ho:Ow w' B2 239 1 Fo (rI.map λs=>[ptr s.b 0]))
  (hn: ∀s∈rI,s∈bl\/(aK w' B2 s.b [I s.first,s.rv,I s.size] 238/\Ow w' B2 151 1 s.rv (s.rs.map λr=>[r.1])/\ ∀r∈s.rs,Ow w' B2 5 1 r.1 (r.2.map U1)))
  (KG:rI.Pairwise aaq):zo w' B2 lb db Fo rI { L with bu:=rI.map mY.er } :=by
 have mv: ∀{A:XS},(∀k,A k->FL k/\k≠lb/\sv.ownBlock≠some k)->Mv A w B2 w':=λhA k hk _=>by
  obtain⟨a1,a2,a3⟩:=hA k hk;exact⟨Z3 k a1,c.block k (hX k a1).1 λhg=>(hG k hg).elim a2 a3⟩
 refine⟨rfl,hr,ho,λs hs=>?_,λs hs=>?_,λs hs r hr=>?_,KG⟩
 ·rcases hn s hs with hs|hs
  ·exact(h.row s hs).own.mv (mv λk hk=>by subst hk;exact⟨(h.row s hs).1,(h.row s hs).eP h.box kQ,h.so.eP (h.row s hs) kQ⟩)
  ·exact hs.1
 ·rcases hn s hs with hs|hs
  ·refine(h.Ap s hs).tight.mv (mv λk hk=>⟨((h.Ap s hs).br hk).1,λe=>(h.Ap s hs).eP h.box kQ (e▸hk),λe=>?_⟩);obtain⟨c1,h1⟩:=(h.Ap s hs).tag hk;obtain⟨c2,h2⟩:=h.so.tag e;rw[h1] at h2;simp at h2
  ·exact hs.2.1
 ·rcases hn s hs with hs|hs
  ·refine(h.Ik s hs r hr).tight.mv (mv λk hk=>⟨((h.Ik s hs r hr).br hk).1,λe=>(h.Ik s hs r hr).eP h.box kQ (e▸hk),λe=>?_⟩);obtain⟨c1,h1⟩:=(h.Ik s hs r hr).tag hk;obtain⟨c2,h2⟩:=h.so.tag e;rw[h1] at h2;simp at h2
  ·exact hs.2.2 r hr
abbrev mY.more (s:mY) (Cc pv:Value) (p:List Nat) (z:Nat):mY:=⟨s.b,s.first,Cc,s.rs++[(pv,p)],z⟩
theorem zo.ak2 {Cc pv:Value} {z:Nat} (h:zo w FL lb db sv (bl++[s]) L) (hX:FX FL X w) (c:eh G X w X' w') (hG: ∀k,G k->k=s.b\/s.rv.ownBlock=some k) (Z3: ∀k,FL k->B2 k)
  (hr:aK w' B2 s.b [I s.first,Cc,I z] 238) (ho:Ow w' B2 151 1 Cc ((s.rs++[(pv,p)]).map λr=>[r.1])) (hp:Ow w' B2 5 1 pv (p.map U1))
  (dB:Cc.ownBlock=s.rv.ownBlock\/ ∃g,Cc.ownBlock=some g/\w.heap.size<=g):
  zo w' B2 lb db sv (bl++[s.more Cc pv p z]) { L with bu:=(bl++[s.more Cc pv p z]).map mY.er } :=by
 have ni:s∈bl++[s]:=by simp
 have mv: ∀{A:XS},(∀k,A k->FL k/\k≠s.b/\s.rv.ownBlock≠some k)->Mv A w B2 w':=λhA k hk _=>by
  obtain⟨a1,a2,a3⟩:=hA k hk;exact⟨Z3 k a1,c.block k (hX k a1).1 λhg=>(hG k hg).elim a2 a3⟩
 have rs:=h.row s ni;have os:=h.Ap s ni;have hold: ∀x∈bl,x∈bl++[s]:=λx hx=>List.mem_append_left _ hx;have Zd:=List.pairwise_append.1 h.ap;have OD: ∀x∈bl,aaq x s:=λx hx=>Zd.2.2 x hx s sQ;have anJ: ∀x∈bl++[s],∀r∈x.rs,Ow w' B2 5 1 r.1 (r.2.map U1):=λx hx r hr=>by
  refine(h.Ik x hx r hr).tight.mv (mv λk hk=>⟨((h.Ik x hx r hr).br hk).1,λe=>(h.Ik x hx r hr).eP rs kQ (e▸hk),λe=>?_⟩);obtain⟨c1,h1⟩:=(h.Ik x hx r hr).tag hk;obtain⟨c2,h2⟩:=os.tag e;rw[h1] at h2;simp at h2
 refine⟨rfl,?_,?_,λx hx=>?_,λx hx=>?_,λx hx r hr=>?_,?_⟩
 ·exact h.box.own.mv (mv λk hk=>by subst hk;exact⟨h.box.1,(rs.eP h.box kQ).symm,os.eP h.box kQ⟩)
 ·have:(bl++[s.more Cc pv p z]).map (λs=>[ptr s.b 0])=(bl++[s]).map (λs=>[ptr s.b 0]):=by simp
  rw[this];refine h.so.tight.mv (mv λk hk=>⟨(h.so.br hk).1,λe=>h.so.eP rs kQ (e▸hk),λe=>?_⟩);obtain⟨c1,h1⟩:=h.so.tag hk;obtain⟨c2,h2⟩:=os.tag e;rw[h1] at h2;simp at h2
 ·rcases List.mem_append.1 hx with hx|hx
  ·have ha:=OD x hx;have rx:=h.row x (hold x hx);exact rx.own.mv (mv λk hk=>by subst hk;exact⟨rx.1,ha.1,os.eP rx kQ⟩)
  ·simp only[aw] at hx;subst hx;exact hr
 ·rcases List.mem_append.1 hx with hx|hx
  ·have ha:=OD x hx;have ox:=h.Ap x (hold x hx);exact ox.tight.mv (mv λk hk=>⟨(ox.br hk).1,λe=>ox.eP rs kQ (e▸hk),λe=>ha.2 k hk e⟩)
  ·simp only[aw] at hx;subst hx;exact ho
 ·rcases List.mem_append.1 hx with hx|hx
  ·exact anJ x (hold x hx) r hr
  ·simp only[aw] at hx;subst hx;rcases List.mem_append.1 hr with hr|hr
   ·exact anJ s ni r hr
   ·simp only[aw] at hr;subst hr;exact hp
 ·refine List.pairwise_append.2 ⟨Zd.1,vi _ _,λx hx y hy=>?_⟩;simp only[aw] at hy;subst hy;have ha:=OD x hx;refine⟨ha.1,λg hg rQ=>?_⟩;rcases dB with e|⟨g',e,dH⟩
  ·exact ha.2 g hg (e▸rQ)
  ·have:=(hX g ((h.Ap x (hold x hx)).br hg).1).2;have e2:Cc.ownBlock=some g:=rQ;rw[e] at e2;have:g'=g:=bW e2;omega
end
theorem Q2 {n:Nat} {m:DM} (h:Lg w F lb db L m) (qh:L.dir.size<=11) (hn:n<=2^40) (nV:L.bu.length<=2^30) (hF:FX F X w):
  Ct pg 128 #[ptr lb 0,I n] w X F λv wa w'=>v=I (LD.iI ⟨L,m⟩ n).2/\ ∃F',(∀k,F' k->F k\/made wa w' k)/\Lg w' F' lb db (LD.iI ⟨L,m⟩ n).1.L (LD.iI ⟨L,m⟩ n).1.m:=by
 intro w0 hk;obtain⟨FL,FD,sv,bl,h⟩:=(h.mv (hF.mv hk)).lw;have hT:=hF.ft hk;have oG:FX F (bV w0) w0:=hF.kp hk;have hX:=λk af=>(oG k (h.hL k af)).1;have hb:=h.l.box.mv (Mv.sub hX);refine RG.1 λhs=>?_;repeat' refine ao ?_;intros
 refine cA (yr zQ zQ) kQ hs.has ?_;rintro _ yE w2 X2 rfl mq kW bm;replace hs:=hs.trans bm;have da:=hT.since hs;have h2:=h.mv (hs.gU hT.br);refine da.call (VS h2.d (da.fx h2.hD)) kQ h2.hD λv yF w3 X3 hq qy mr dS uQ=>?_;obtain⟨rfl,OF,Po,hD⟩:=hq;have h3:=h2.Pp (da.fx λ_ h=>h) qy uQ Po hD;have eS:LD.iI ⟨L,m⟩ n=(⟨if(m.create (bL L.dir n)).2=0 then { L with bu:=L.bu++[⟨n,[],0⟩] } else L,(m.create (bL L.dir n)).1⟩,(m.create (bL L.dir n)).2):=rfl;rw[eS];dsimp only;generalize Ue:m.create (bL L.dir n)=ms at h3⊢;have hX3: ∀k,FL k->X3 k:=λk af=>dS.br k (h3.hL k af);have rV:=h3.l.box.mv (Mv.sub hX3);have adg:=h3.l.so.mono hX3;have JR:bl.length=L.bu.length:=by rw[h3.l.bu,ai]
 clear hs;repeat' first|refine ao ?_;intros|refine dq ?_ ?_<;>intros|with_reducible apply cK
 ·have hz:ms.2=0:=by have:(ms.2:Int)=0:=(by assumption);omega
  refine AJ dS.s.has λbx w4 X4 gq fR bo=>?_;have Pm:=adg.mv fR.mv;refine XX (bytes:=8) (row:=[ptr bx 0]) Pm fR.has kQ rfl rfl rfl oQ oQ λFo w5 X5 c5 vX yX=>?_;have yH:=rV.since fR;have cj: ∀q,ga sv q->q≠lb:=λq hq e=>Pm.eP yH kQ (by rw[<-e];exact hq);have BY:aK w5 X5 lb [ptr db 0,.string L.dir,I L.room,sv,I L.safe] 231:=⟨c5.sub _ yH.1,by rw[c5.block _ yH.1 λhq=>cj _ hq rfl];exact yH.2⟩;repeat' refine ao ?_;intros
  refine qj (o:=3) BY zQ kQ sQ vX.one c5.has λw6 X6 c6 A1=>?_;have Pn: ∀q,ga sv q->FL q:=λq hq=>(h3.l.so.br hq).1;have cc:eh (λk=>k=lb\/sv.ownBlock=some k) X3 w3 X6 w6:=((eh.oh fR _).trans (c5.mono λk _ af=>.inr af)).trans (c6.mono λk _ af=>.inl af);have kj:Ft w0 F w6 X6 (λk=>(F k\/made yF w3 k)\/(X6 k/\w3.heap.size<=k)):=dS.eo cc (λk af=>by
   rcases af with rfl|af
   ·exact h3.hL _ h3.l.box.1
   ·exact h3.hL _ (Pn _ af)) λk af=>af
  have LJ: ∀g,Fo.ownBlock=some g->FL g\/(X6 g/\w3.heap.size<=g):=λg hg=>by
   rcases yX with e|⟨g',e,dH⟩
   ·exact .inl (Pn _ (e.symm.trans hg))
   ·rw[hg] at e;have:g=g':=bW e;subst this;exact .inr ⟨c6.sub _ (vX.br hg).1,ad fR.kp.size dH⟩
  have ahz:Fo.ownBlock≠some lb:=vX.eP BY kQ;have adh:bx≠lb:=bo.eP yH kQ;have adi: ¬ga sv bx:=λhq=>Pm.eP bo kQ hq;have hL6:=h3.l.abH (B2:=λk=>FL k\/(X6 k/\w3.heap.size<=k)) (Fo:=Fo) (rI:=bl++[⟨bx,n,.slice none 0 0,[],0⟩]) (dS.fx h3.hL) cc (λk af=>af) (λk af=>.inl af) ⟨.inl h3.l.box.1,A1.2⟩ ?_ ?_ ?_
  ·refine kj.fin λwa aL=>⟨rfl,_,kj.jC aL λ_ h=>h,?_⟩;rw[if_pos hz];have e:({ L with bu:=(bl++[(⟨bx,n,.slice none 0 0,[],0⟩:mY)]).map mY.er } :LM)= { L with bu:=L.bu++[⟨n,[],0⟩] } :=by
    rw[aJ,<-h3.l.bu];rfl
   rw[<-e];refine Lg.mv ⟨_,OF,Fo,_,?_,?_,?_,hL6,h3.d.mv (cc.jf λk af=>⟨dS.br k (h3.hD k af),λhg=>?_⟩)⟩ (aL.jf kj.br)
   ·intro k ha dU;rcases ha with ha|ha
    ·exact h3.dj k ha dU
    ·have:=(dS.fx h3.hD k dU).2;omega
   ·exact λk af=>af.imp (h3.hL k) id
   ·exact λk af=>.inl (h3.hD k af)
   ·rcases hg with rfl|hg
    ·exact h3.dj _ h3.l.box.1 af
    ·exact h3.dj _ (Pn _ hg) af
  ·rw[aJ];refine vX.tight.mv λk af hl=>⟨LJ k af,c6.block k (vX.br af).1 λe=>ahz (by rw[<-(show k=lb from e)];exact af)⟩
  ·intro s tj;rcases List.mem_append.1 tj with tj|tj
   ·exact .inl tj
   ·simp only[aw] at tj;subst tj;have hb6:w6.heap[bx]? =w4.heap[bx]? :=by
     rw[c6.block bx (c5.sub _ bo.1) adh,c5.block bx bo.1 adi]
    exact .inr ⟨⟨.inr ⟨c6.sub _ (c5.sub _ bo.1),gq⟩,by rw[hb6];exact bo.2⟩,Ow.nil _ _ _ _,λr hr=>by cases hr⟩
  ·refine List.pairwise_append.2 ⟨h3.l.ap,vi _ _,λx hx y hy=>?_⟩;simp only[aw] at hy;subst hy;refine⟨λe=>?_,λg hg rQ=>by cases rQ⟩;have:=(dS.fx h3.hL _ (h3.l.row x hx).1).2;have e':x.b=bx:=e;omega
 ·have hz: ¬ms.2=0:=by have: ¬(ms.2:Int)=0:=(by assumption);omega
  refine dS.fin λwa aL=>⟨rfl,_,dS.jC aL λ_ h=>h,?_⟩;rw[if_neg hz];exact(h3.mv (aL.jf dS.br)).lg
theorem pM.safe (h:pM L) (z:Int):pM { L with safe:=z } :=⟨h.ne,h.d1,h.d2,h.yM,h.room⟩
theorem pM.sync {m:DM} (h:pM L):pM (LD.sync ⟨L,m⟩).1.L:=by
 unfold LD.sync;dsimp only;split
 ·exact h.safe _
 ·exact h
theorem pM.iI {m:DM} {n:Nat} (h:pM L) (hn:n<=2^40):pM (LD.iI ⟨L,m⟩ n).1.L:=by
 unfold LD.iI;dsimp only;split
 ·refine⟨by simp,h.d1,h.d2,λs hs=>?_,h.room⟩;rcases List.mem_append.1 hs with hs|hs
  ·exact h.yM s hs
  ·simp only[aw] at hs;subst hs;exact⟨by simpa using hn,by simp⟩
 ·exact h
theorem LD.Uw (x:LD):x.sync.1.L.bu=x.L.bu:=by unfold LD.sync;dsimp only;split<;>rfl
theorem LD.ai0 (x:LD):x.sync.1.L.dir=x.L.dir:=by unfold LD.sync;dsimp only;split<;>rfl
variable {vp : Value}
theorem Ym {S:XS} {m:DM} (h:Lg w F lb db L m) (hL:pM L) (nV:L.bu.length<=2^30) (hF:FX F X w) (hp:Sl w S 1 vp (p.map U1)) (hS: ∀k,S k->X k/\ ¬F k):
  Ct pg 138 #[ptr lb 0,vp] w X F λv wa w'=>v= .tuple #[I (LD.append ⟨L,m⟩ p).2.1,I (LD.append ⟨L,m⟩ p).2.2]/\
   ∃F',(∀k,F' k->F k\/made wa w' k)/\Lg w' F' lb db (LD.append ⟨L,m⟩ p).1.L (LD.append ⟨L,m⟩ p).1.m:=by
 intro w0 hk;obtain⟨FL,FD,sv,bl,h⟩:=(h.mv (hF.mv hk)).lw;have hT:=hF.ft hk;have hp0:Sl w0 (out F w0) 1 vp (p.map U1):=hp.mv λk af hl=>⟨⟨Nat.lt_of_lt_of_le hl hk.size,(hS k af).2⟩,hk.block k (hS k af).1⟩;have xD:=hp0.ib;have nJ:=hL.next
 generalize hr:LD.append ⟨L,m⟩ p=r;unfold LD.append at hr;dsimp only at hr;refine NR.1 λ_=>?_;refine cA (Er h.l hL (hT.fx h.hL)) kQ hT.s.has ?_;rintro _ wa w1 X1 rfl hle gy aC;have ej:=hT.since aC;have h1:=h.mv (aC.gU hT.br);have hpA: ∀{w X F'},Ft w0 F w X F'->Sl w X 1 vp (p.map U1):=λhT=>hp0.mv hT.s.mv;have hp1:=hpA ej;have stay:r.1=⟨L,m⟩-> ∀wa,Kp X1 w1 wa-> ∃F',(∀k,F' k->F k\/made w0 wa k)/\Lg wa F' lb db r.1.L r.1.m:=λe wa aL=>⟨F,ej.jC aL λ_ h=>h,by rw[e];exact(h1.mv (aL.jf ej.br)).lg⟩;repeat' first|refine ao ?_;intros|refine dq ?_ ?_<;>intros
 ·rw[if_pos zQ] at hr;subst hr;exact ej.fin λwa aL=>⟨rfl,stay rfl wa aL⟩
 ·rw[if_neg zQ,if_pos zQ] at hr;subst hr;exact ej.fin λwa aL=>⟨rfl,stay rfl wa aL⟩
 ·rw[if_neg zQ,if_neg zQ] at hr;clear stay;refine gY (λk=> ∀(w:World) (X F1 FL FD:XS) (sv:Value) (bl:List mY) (x:LD),LD.room ⟨L,m⟩=(x,0)->pM x.L->x.L.bu.length<=2^30+1->Ft w0 F w X F1->LW w F1 lb db x.L x.m FL FD sv bl->k w X) ?_ ?_
  ·intro w X F1 FL FD sv bl x Lh hxL J6 da h2;rw[Lh] at hr;dsimp only at hr;rw[if_neg sQ] at hr;obtain⟨rI,s,rfl,he,Fi⟩:=h2.l.last hxL;refine cA (yt h2.l (da.fx h2.hL)) kQ da.s.has ?_;rintro _ yF w3 X3 rfl qy mr cV;have dS:=da.since cV;have h3:=h2.mv (cV.gU da.br);refine cA (VZ (hpA dS)) kQ dS.s.has ?_;rintro vq zj w4 X4 hq tL pa fR;rw[if_neg zQ] at hq;obtain⟨vb,rfl,yJ⟩:=hq;have fJ:=dS.since fR;have h4:=h3.mv (fR.gU dS.br);have hX4: ∀k,FL k->X4 k:=λk af=>fJ.br k (h4.hL k af);have yH:=h4.l.box.mv (Mv.sub hX4);have mu:s∈rI++[s]:=by simp
   have asy:=(h4.l.row s mu).mv (Mv.sub hX4);have Fp:s.first=x.L.last.first:=by rw[<-he];rfl
   have gd:s.size=x.L.last.size:=by rw[<-he];rfl
   have hrs:x.L.last.bp=s.rs.map (·.2):=by rw[<-he];rfl
   have hfb:=hxL.first
   have nJ:=hxL.next
   have Xl:=hxL.yM _ (LM.xL hxL.ne);have rG:s.rs.length=x.L.last.bp.length:=by rw[hrs,ai]
   have iR:=rn p;have ovb:=yJ.one;repeat' refine ao ?_;intros
   rw[Fp];refine cA (yr (by have:=hxL.d2;omega) zQ) kQ fJ.s.has ?_;rintro _ Ox w5 X5 rfl IX Fe tg;have iN:=fJ.since tg;have h5:=h4.mv (tg.gU fJ.br);have hz4:=fR.kp.size;have arq:Sl w5 (made zj w4) 1 vb ((dt p).map U1):=yJ.sl.mv λk af hl=>⟨af,tg.kp.block k (pa k af)⟩;refine iN.call (VR h5.d (iN.fx h5.hD) arq (λk af=>⟨tg.sub k (pa k af),λhf=>?_⟩) zQ) kQ h5.hD λv wa6 w6 X6 hq Ya LJ kj hc6=>?_
   ·have:=(dS.fx h3.hD k hf).2;have:=af.1;omega
   obtain⟨rfl,OF,Po,hD⟩:=hq;have h6:=h5.Pp (iN.fx λ_ h=>h) Ya hc6 Po hD;have eL:x.lay p=(⟨if(x.m.append x.L.ff (dt p)).2=0 then x.L.add p else x.L,(x.m.append x.L.ff (dt p)).1⟩,(x.m.append x.L.ff (dt p)).2):=rfl;rw[eL] at hr;dsimp only at hr;have eN:x.L.ff=bL x.L.dir x.L.last.first:=rfl
   rw[eN] at hr;generalize Ue:x.m.append (bL x.L.dir x.L.last.first) (dt p)=ms at hr h6⊢;have hX6: ∀k,FL k->X6 k:=λk af=>kj.br k (h6.hL k af);have ars:=(h6.l.row s mu).mv (Mv.sub hX6);repeat' first|refine ao ?_;intros|refine dq ?_ ?_<;>intros
   ·have hz: ¬ms.2=0:=by have: ¬(ms.2:Int)=0:=(by assumption);omega
    rw[if_pos hz,if_neg hz] at hr;subst hr;exact kj.fin λwa aL=>⟨rfl,_,kj.jC aL λ_ h=>h,(h6.mv (aL.jf kj.br)).lg⟩
   ·have hz:ms.2=0:=by have:(ms.2:Int)=0:=(by assumption);omega
    rw[if_neg (by simpa using hz),if_pos hz] at hr;subst hr;refine aoJ kj.s.has kQ (hpA kj) (by intro r hr u hu;obtain⟨x,_,rfl⟩:=List.mem_map.1 hr;simp only[U1,aw] at hu;subst hu;rfl) oQ oQ λpv w7 X7 py wQ=>?_;have ai1:=((h6.l.Ap s mu).mono hX6).mv py.mv;have aar:=ars.since py;refine XX (bytes:=24) (row:=[pv]) ai1 py.has kQ (by have:=td wQ.one;rw[this]) rfl (by simp[wQ.one]) oQ oQ λCc w8 X8 c8 AK XP=>?_;have art: ∀q,ga s.rv q->q≠s.b:=λq hq e=>ai1.eP aar kQ (by rw[<-e];exact hq);have anK:aK w8 X8 s.b [I s.first,s.rv,I s.size] 238:=⟨c8.sub _ aar.1,by rw[c8.block _ aar.1 λhq=>art _ hq rfl];exact aar.2⟩;repeat' refine ao ?_;intros
    refine qj (o:=1) anK zQ kQ sQ AK.one c8.has λw9 X9 c9 ai2=>?_;replace ai2:aK w9 X9 s.b [I s.first,Cc,I s.size] 238:=ai2;repeat' refine ao ?_;intros
    refine qj (o:=2) ai2 zQ kQ sQ rfl c9.has λOM ON Rh aeR=>?_;have tW:(s.size:Int)+((dt p).length:Int)=((s.size+(dt p).length:Nat):Int):=by omega
    replace aeR:aK OM ON s.b [I s.first,Cc,I ((s.size+(dt p).length:Nat):Int)] 238:=by rw[<-tW];exact aeR
    have cc:eh (λk=>k=s.b\/s.rv.ownBlock=some k) X6 w6 ON OM:=(((eh.oh py _).trans (c8.mono λk _ af=>.inr af)).trans (c9.mono λk _ af=>.inl af)).trans (Rh.mono λk _ af=>.inl af);have ai3: ∀q,ga s.rv q->FL q:=λq hq=>((h6.l.Ap s mu).br hq).1;have Hl:=kj.eo (F':=λk=>(F1 k\/made wa6 w6 k)\/(ON k/\w6.heap.size<=k)) cc (λk af=>by
     rcases af with rfl|af
     ·exact h6.hL _ (h6.l.row s mu).1
     ·exact h6.hL _ (ai3 _ af)) λk af=>af
    have adJ: ∀g,Cc.ownBlock=some g->FL g\/(ON g/\w6.heap.size<=g):=λg hg=>by
     rcases XP with e|⟨g',e,dH⟩
     ·exact .inl (ai3 _ (e.symm.trans hg))
     ·rw[hg] at e;have:g=g':=bW e;subst this;exact .inr ⟨Rh.sub _ (c9.sub _ (AK.br hg).1),ad py.kp.size dH⟩
    have anM: ∀q,ga Cc q->q≠s.b:=λq hq e=>AK.eP anK kQ (by rw[<-e];exact hq);have Il: ∀q,ga pv q->X7 q/\w6.heap.size<=q/\OM.heap[q]? =w7.heap[q]? :=λq hq=>by
     have h1:=(wQ.br hq).1;have XT:q≠s.b:=λe=>wQ.eP aar kQ (by rw[<-e];exact hq);have hnr: ¬ga s.rv q:=λCV=>by
      obtain⟨c1,e1⟩:=wQ.tag hq;obtain⟨c2,e2⟩:=ai1.tag CV;rw[e1] at e2;simp at e2
     exact⟨h1.1,h1.2,by rw[Rh.block q (c9.sub _ (c8.sub _ h1.1)) XT,c9.block q (c8.sub _ h1.1) XT,c8.block q h1.1 hnr]⟩
    have aru:=h6.l.ak2 (B2:=λk=>FL k\/(ON k/\w6.heap.size<=k)) (Cc:=Cc) (pv:=pv) (p:=p) (z:=s.size+(dt p).length) (kj.fx h6.hL) cc (λk af=>af) (λk af=>.inl af) ⟨.inl (h6.l.row s mu).1,aeR.2⟩ ?_ ?_ ?_
    ·refine Hl.fin λwa aL=>⟨rfl,_,Hl.jC aL λ_ h=>h,?_⟩;have e:({ x.L with bu:=(rI++[s.more Cc pv p (s.size+(dt p).length)]).map mY.er } :LM)=x.L.add p:=by
      unfold LM.add;rw[Fi,aJ,<-he];simp[mY.er]
     rw[<-e];refine Lg.mv ⟨_,OF,sv,_,?_,?_,?_,aru,h6.d.mv (cc.jf λk af=>⟨kj.br k (h6.hD k af),λhg=>?_⟩)⟩ (aL.jf Hl.br)
     ·intro k ha dU;rcases ha with ha|ha
      ·exact h6.dj k ha dU
      ·have:=(kj.fx h6.hD k dU).2;omega
     ·exact λk af=>af.imp (h6.hL k) id
     ·exact λk af=>.inl (h6.hD k af)
     ·rcases hg with rfl|hg
      ·exact h6.dj _ (h6.l.row s mu).1 af
      ·exact h6.dj _ (ai3 _ hg) af
    ·rw[aJ];exact AK.tight.mv λk af hl=>⟨adJ k af,by rw[Rh.block k (c9.sub _ (AK.br af).1) (anM k af),c9.block k (AK.br af).1 (anM k af)]⟩
    ·exact wQ.tight.mv λk af hl=>⟨.inr ⟨Rh.sub _ (c9.sub _ (c8.sub _ (Il k af).1)),(Il k af).2.1⟩,(Il k af).2.2⟩
    ·rcases XP with e|⟨g,e,dH⟩
     ·exact .inl e
     ·exact .inr ⟨g,e,ad py.kp.size dH⟩
  ·intro K hK;obtain⟨rI,s,rfl,he,Fi⟩:=h1.l.last hL;have KS: ∀k,FL k->X1 k:=λk af=>ej.br k (h1.hL k af);have lD:=h1.l.box.mv (Mv.sub KS);have mu:s∈rI++[s]:=by simp
   have XY:=(h1.l.row s mu).mv (Mv.sub KS);have gd:s.size=L.last.size:=by rw[<-he];rfl
   have eR:LD.room ⟨L,m⟩=if L.room<=L.last.size then(if(LD.sync ⟨L,m⟩).2≠0 then LD.sync ⟨L,m⟩else(LD.sync ⟨L,m⟩).1.iI L.next)else(⟨L,m⟩,0):=rfl
   repeat' refine ao ?_;intros
   refine cA (yt h1.l (ej.fx h1.hL)) kQ ej.s.has ?_;rintro _ yE w2 X2 rfl mq kW bm;have da:=ej.since bm;have h2:=h1.mv (bm.gU ej.br);have O5:=XY.since bm;repeat' first|refine ao ?_;intros|refine dq ?_ ?_<;>intros
   ·have dH:L.room<=L.last.size:=by omega
    rw[if_pos dH] at eR;refine da.call (I4 h2.lg hL (da.fx λ_ h=>h)) kQ (λ_ h=>h) λv yF w3 X3 hq qy mr dS uQ=>?_;obtain⟨rfl,F3,hF3,h3⟩:=hq;have hL3:pM (LD.sync ⟨L,m⟩).1.L:=hL.sync;have aeS:=LD.Uw ⟨L,m⟩;have anN:=LD.ai0 ⟨L,m⟩;generalize hsy:LD.sync ⟨L,m⟩=y at eR h3 hL3 aeS anN⊢;have Fs:=dS.less hF3;repeat' first|refine ao ?_;intros|refine dq ?_ ?_<;>intros
    ·have hz:y.2≠0:=by have: ¬(y.2:Int)=0:=(by assumption);omega
     rw[if_pos hz] at eR;rw[eR,if_pos hz] at hr;subst hr;exact Fs.fin λwa aL=>⟨rfl,F3,Fs.jC aL λ_ h=>h,h3.mv (aL.jf Fs.br)⟩
    ·have hz: ¬y.2≠0:=by have:(y.2:Int)=0:=(by assumption);omega
     rw[if_neg hz] at eR;have hy:y.1=⟨y.1.L,y.1.m⟩:=rfl;refine Fs.call (Q2 (n:=L.next) h3 (by rw[anN];exact hL.d2) nJ (by rw[aeS];exact nV) (Fs.fx λ_ h=>h)) kQ (λ_ h=>h) λv zj w4 X4 hq tL pa fJ Fq=>?_;obtain⟨rfl,F4,hF4,h4⟩:=hq;have Xq:(LD.iI ⟨y.1.L,y.1.m⟩ L.next).2=0->pM (LD.iI ⟨y.1.L,y.1.m⟩ L.next).1.L:=λ_=>hL3.iI nJ;have Qx:(LD.iI ⟨y.1.L,y.1.m⟩ L.next).1.L.bu.length<=2^30+1:=by
      unfold LD.iI;dsimp only;split
      ·simp only[aa,List.length_singleton,aeS];show L.bu.length+1<=_;omega
      ·rw[aeS];show L.bu.length<=_;omega
     rw[hy] at eR;generalize hro:LD.iI ⟨y.1.L,y.1.m⟩ L.next=q at eR h4 Xq Qx⊢
     have zP:=fJ.less hF4;repeat' first|refine ao ?_;intros|refine dq ?_ ?_<;>intros
     ·have hz:q.2≠0:=by have: ¬(q.2:Int)=0:=(by assumption);omega
      rw[eR,if_pos hz] at hr;subst hr;exact zP.fin λwa aL=>⟨rfl,F4,zP.jC aL λ_ h=>h,h4.mv (aL.jf zP.br)⟩
     ·have hz:q.2=0:=by have:(q.2:Int)=0:=(by assumption);omega
      obtain⟨FL4,FD4,sv4,bl4,h4⟩:=h4.lw;exact hK _ _ _ _ _ _ _ q.1 (by rw[eR,<-hz]) (Xq hz) Qx zP h4
   ·have dH: ¬L.room<=L.last.size:=by omega
    rw[if_neg dH] at eR;exact hK _ _ _ _ _ _ _ ⟨L,m⟩ eR hL (by show L.bu.length<=_;omega) da h2
def LD.iG (x:LD) (e:Nat) (bs:List Nat):LD×Nat×Nat:=
 if e≠0 then(x,0,e)else
  let r:=x.append bs
  if r.2.2≠0 then r else(r.1.sync.1,r.2.1,r.1.sync.2)
abbrev bf:Value:=.slice none 0 0
structure CoV where
 id:Int
 ba:Int
 fF:Int
 lb:Nat
 acp:Nat
 cb:Nat
 ab:Nat
 cm:Value
 bb:Nat
abbrev Hf (c:CoV) (D5 vm va:Value):List Value:=[I c.id,I c.ba,I c.fF,ptr c.lb 0,B false,ptr c.acp 0,D5,.map (some c.ab),c.cm,.map (some c.bb),vm,va]
abbrev coL (c:CoV) (vm va:Value):List Value:=Hf c (ptr c.cb 0) vm va
abbrev nT:Nat:=108
structure AcV where
 aR:bH
 vp:Value
 st:bN
 kn:Int
 vs:Value
 pre:Bool
 vq:Value
 mR:bN
abbrev JQ (x:AcV) (vw:Value):List Value:=[I x.aR.dX,I x.aR.ba,I x.aR.sq,x.vp,I x.st.wall,I x.st.du,I x.st.node,I x.kn,x.vs,B x.pre,vw,x.vq,I x.mR.wall,I x.mR.du,I x.mR.node]
abbrev aT:Nat:=120
abbrev mT:Nat:=54
abbrev Rs:Nat:=64
def wT:World->XS->Value->Nat->Prop:=λ_ _ v b=>v=ptr b 0
theorem E7:qU wT:=λ_ _ _ _ _ _ h _=>h
def fN (w:World) (K:XS) (rows:List (List Value)) (ms:List bZ):Prop:=rows.length=ms.length/\ ∀(i:Nat) (l:List Value) (x:bZ),rows[i]? =some l->ms[i]? =some x->bZ.rd w K l x
variable {rows : List (List Value)} {K K' : XS}
theorem fN.mv {ms:List bZ} (h:fN w K rows ms) (m:Mv K w K' w'):fN w' K' rows ms:=⟨h.1,λi l x h1 h2=>bZ.mv (h.2 i l x h1 h2) m⟩
theorem fN.nil (w:World) (K:XS):fN w K [] []:=⟨rfl,λi l x h=>by simp at h⟩
theorem fN.add {ms:List bZ} {l:List Value} {x:bZ} (h:fN w K rows ms) (h1:bZ.rd w K l x):fN w K (rows++[l]) (ms++[x]):=by
 refine⟨by simp[h.1],λi l' x' hl hx=>?_⟩;rcases Nat.lt_trichotomy i rows.length with hi|hi|hi
 ·rw[dT hi] at hl;rw[dT (by rw[<-h.1];exact hi)] at hx;exact h.2 i l' x' hl hx
 ·subst hi;rw[cP (Nat.le_refl _)] at hl;rw[cP (by rw[h.1];omega)] at hx;rw[h.1] at hx
  grind
 ·rw[List.getElem?_eq_none oQ] at hl;cases hl
variable {a : Value}
theorem Lm {xs:List fe} (ha:Sl w X 7 a (xs.map fe.l)) (hb:xs.length<=2^40):
  Ct pg 88 #[a] w X nX λv wa w'=>Own w' (made wa w') wa.heap.size 175 7 v (xs.map fe.l):=by
  intro w0 hk;replace ha:=ha.mv hk.cu;refine yc.1 λhs=>?_;repeat' first|refine ao ?_;intros|refine dq ?_ ?_<;>intros|(refine QW hs ?_;intro acc w X hs ho)|(refine qr ?_;intro wa hk;(first|(rename_i h1 h2;(first|(rw[h2])|skip);exact Own.nil _ _ _ _ _)|exact(ho.kp hk).tight))|((with_reducible apply qQ);(case own=>assumption);(case hs=>assumption);(case h0=>exact λ_ h=>h);(case he=>kernel_rfl);(case src=>exact Sl.mv ha (aj.mv hs));(case h1=>simp[aG.one]);(case hb=>simp;omega);(case hl=>simp;omega);intro acc w X aC ho hc dB;replace hs:=aC;rw[cx] at ho)
theorem LZ {xs:List Int} (ha:Sl w X 1 a (xs.map I1)) (hb:xs.length<=2^40):
  Ct pg 48 #[a] w X nX λv wa w'=>Own w' (made wa w') wa.heap.size 3 1 v (xs.map I1):=by
  intro w0 hk;replace ha:=ha.mv hk.cu;refine DX.1 λhs=>?_;repeat' first|refine ao ?_;intros|refine dq ?_ ?_<;>intros|(refine QW hs ?_;intro acc w X hs ho)|(refine qr ?_;intro wa hk;(first|(rename_i h1 h2;(first|(rw[h2])|skip);exact Own.nil _ _ _ _ _)|exact(ho.kp hk).tight))|((with_reducible apply qQ);(case own=>assumption);(case hs=>assumption);(case h0=>exact λ_ h=>h);(case he=>kernel_rfl);(case src=>exact Sl.mv ha (aj.mv hs));(case h1=>simp[aG.one]);(case hb=>simp;omega);(case hl=>simp;omega);intro acc w X aC ho hc dB;replace hs:=aC;rw[cx] at ho)
theorem aaK {xs:List jr} (ha:Sl w X 5 a (xs.map jr.l)) (hb:xs.length<=2^40):
  Ct pg 60 #[a] w X nX λv wa w'=>Own w' (made wa w') wa.heap.size 99 5 v (xs.map jr.l):=by
  intro w0 hk;replace ha:=ha.mv hk.cu;refine Ab.1 λhs=>?_;repeat' first|refine ao ?_;intros|refine dq ?_ ?_<;>intros|(refine QW hs ?_;intro acc w X hs ho)|(refine qr ?_;intro wa hk;(first|(rename_i h1 h2;(first|(rw[h2])|skip);exact Own.nil _ _ _ _ _)|exact(ho.kp hk).tight))|((with_reducible apply qQ);(case own=>assumption);(case hs=>assumption);(case h0=>exact λ_ h=>h);(case he=>kernel_rfl);(case src=>exact Sl.mv ha (aj.mv hs));(case h1=>simp[aG.one]);(case hb=>simp;omega);(case hl=>simp;omega);intro acc w X aC ho hc dB;replace hs:=aC;rw[cx] at ho)
abbrev snT:Nat:=175
abbrev pcT:Nat:=124
abbrev cmT:Nat:=126
abbrev inT:Nat:=3
structure rl where
 x:AcV
 vw:Value
 rw:List (List Value)
 ws:List bZ
 sn:List fe
 p:List jr
 ids:List Int
 pq:Bool:=false
structure DS where
 r:Rec
 vp:Value
 v2:Value
 waits:List Int
 ended:Bool
structure bt where
 nb:Nat
 db:Nat
 mb:Nat
 c:CoV
 ck:bN
 ds:tM
 L:LM
 m:DM
 al:List (bH×Nat)
 bl:List (bH×Nat)
 vm:Value
 va:Value
 rm:List (List Value)
 ra:List (List Value)
 ms:List bZ
 cl:List Nat
 A:Nat->rl
 C:Nat->DS
 ex:List Nat:=[]
 pre:Bool:=false
def bt.cU (n:bt) (b:Nat):Prop:=(∃t,getM t n.al=some b)\/b∈n.ex
abbrev bt.D5 (n:bt):Value:=if n.pre then .pointer none else ptr n.c.cb 0
theorem ajl {m:DM} (h:Lg w F lb db L m) (v:Mv F w F' w'):Lg w' F' lb db L m:=by
 obtain⟨FL,FD,sv,bl,hd,h1,h2,h3,h4⟩:=h;exact⟨λk=>FL k/\k<w.heap.size,λk=>FD k/\k<w.heap.size,sv,bl,λk a b=>hd k a.1 b.1,λk hk=>(v k (h1 k hk.1) hk.2).1,λk hk=>(v k (h2 k hk.1) hk.2).1,h3.mv λk hk hl=>⟨⟨hk,hl⟩,(v k (h1 k hk) hl).2⟩,h4.mv λk hk hl=>⟨⟨hk,hl⟩,(v k (h2 k hk) hl).2⟩⟩
def mpR (b:Nat) (l:List (bH×Nat)):qm:=⟨λw _ A=>dK w A nX b (λk:bH=>k.v) wT l,λh _ m=>h.mv E7 m λ_ h=>h.elim⟩
def Yn (n:bt):Nat->qm
 |1=>Yl n.nb (Hf n.c n.D5 n.vm n.va) nT
 |2=>⟨λw _ A=>mH w A n.c.acp n.mb n.ds,λh _ m=>h.mv m⟩
 |3=>⟨λw _ A=>Lg w A n.c.lb n.db n.L n.m,λh _ m=>ajl h m⟩
 |5=>mpR n.c.ab n.al
 |6=>mpR n.c.bb n.bl
 |7=>⟨λw _ A=>n.pre=false->aK w A n.c.cb (G9 n.ck) IQ/\n.ck.may=true,λh _ m e=>⟨(h e).1.mv m,(h e).2⟩⟩
 |8=>Zs mT 36 n.vm n.rm
 |9=>Zs Rs 9 n.va n.ra
 |10=>Zs pcT 1 n.c.cm (n.cl.map λb=>[ptr b 0])
 |11=>⟨λw K _=>fN w K n.rm n.ms,λh m _=>h.mv m⟩
 |12=>puR (∀t b,getM t n.al=some b->(n.A b).x.aR=t)
 |_=>Q8
def Ke (b:Nat) (d:rl):Nat->qm
 |0=>Yl b (JQ d.x d.vw) aT
 |1=>Zs mT 36 d.vw d.rw
 |2=>Zs snT 7 d.x.vs (d.sn.map fe.l)
 |3=>⟨λw K _=>fN w K d.rw d.ws/\Sl w K 5 d.x.vp (d.p.map jr.l)/\(d.pq=false->Sl w K 1 d.x.vq (d.ids.map I1)),λ⟨h1,h2,h3⟩ m _=>⟨h1.mv m,h2.mv m,λe=>(h3 e).mv m⟩⟩
 |7=>Dm (d.pq=true) (Zs inT 1 d.x.vq (d.ids.map I1))
 |_=>Q8
def JX (b:Nat) (d:DS):Nat->qm
 |4=>Yl b (d.r.l bf bf d.vp bf bf bf++[d.v2,B d.ended]) cmT
 |5=>Zs inT 1 d.v2 (d.waits.map I1)
 |6=>⟨λw K _=>Sl w K 1 d.vp (d.r.parts.map I1),λh m _=>h.mv m⟩
 |_=>Q8
def zm (n:bt) (b:Nat):Nat->qm
 |0=>Dm (n.cU b) (Ke b (n.A b) 0)
 |1=>Dm (n.cU b) (Ke b (n.A b) 1)
 |2=>Dm (n.cU b) (Ke b (n.A b) 2)
 |3=>Dm (n.cU b) (Ke b (n.A b) 3)
 |4=>Dm (b∈n.cl) (JX b (n.C b) 4)
 |5=>Dm (b∈n.cl) (JX b (n.C b) 5)
 |6=>Dm (b∈n.cl) (JX b (n.C b) 6)
 |7=>Dm (n.cU b) (Ke b (n.A b) 7)
 |_=>Q8
def tx (b i:Nat):Nat:=16+8*b+i
def ea (n:bt) (c:Nat):qm:=if c<16 then Yn n c else zm n (c/8-2) (c % 8)
theorem vU (n:bt) (b i:Nat) (hi:i<8):ea n (tx b i)=zm n b i:=by
 unfold ea tx;rw[if_neg zQ,show(16+8*b+i)/8-2=b by omega,show(16+8*b+i) % 8=i by omega]
abbrev jb (w:World) (own:Nat->Nat) (n:bt):Prop:=Hs (ea n) w own
variable {A : XS} {n n' : bt}
theorem XA {c:Nat} (h1:c<16->(Yn n c).p w K A->(Yn n' c).p w K A) (h2: ∀b i,i<8->c=tx b i->(zm n b i).p w K A->(zm n' b i).p w K A) (h:(ea n c).p w K A):(ea n' c).p w K A:=by
 by_cases hc:c<16
 ·unfold ea at h⊢;rw[if_pos hc] at h⊢;exact h1 hc h
 ·obtain⟨b,i,hi,rfl⟩: ∃b i,i<8/\c=tx b i:=⟨c/8-2,c % 8,by omega,by unfold tx;omega⟩;rw[vU _ _ _ hi] at h⊢;exact h2 b i hi rfl h
variable {Q : Nat -> Prop}
theorem nU (h2: ∀b i,i<8->Q (tx b i)-> ∀w K A,(zm n b i).p w K A->(zm n' b i).p w K A:=by intro b i hi hq w K A h;rcases i with _|_|_|_|_|_|_|_|i<;>exact h)
  (h1: ∀i,i<16->Q i-> ∀w K A,(Yn n i).p w K A->(Yn n' i).p w K A:=by intro i hi hq w K A h;rcases i with _|_|_|_|_|_|_|_|_|_|_|_|_|i<;>first|exact h|(exfalso;omega)): ∀c,Q c-> ∀w K A,(ea n c).p w K A->(ea n' c).p w K A:=λc hq w K A=>XA (λhc=>h1 c hc hq w K A) λb i hi e=>h2 b i hi (e▸hq) w K A
variable {d : rl} {b0 : Nat}
theorem arv (h: ∀i,Q (tx b0 i)-> ∀w K A,(Ke b0 (n.A b0) i).p w K A->(Ke b0 d i).p w K A:=by intro i hq w K A h;rcases i with _|_|_|_|_|_|_|_|i<;>first|exact h|(exfalso;unfold tx at hq;omega))
  (hA:n'.A=λb=>if b=b0 then d else n.A b:=by rfl) (hs:n'.al=n.al/\n'.ex=n.ex/\n'.C=n.C/\n'.cl=n.cl:=by exact⟨rfl,rfl,rfl,rfl⟩): ∀b i,i<8->Q (tx b i)-> ∀w K A,(zm n b i).p w K A->(zm n' b i).p w K A:=λb i hi hq w K A p=>by
 have e:n'.cU b↔n.cU b:=by unfold bt.cU;rw[hs.1,hs.2.1]
 by_cases hb:b=b0
 ·subst hb;have eA:n'.A b=d:=by rw[hA];exact if_pos rfl
  rcases i with _|_|_|_|_|_|_|_|i<;>simp only[zm,Dm,eA,e,hs.2.2.1,hs.2.2.2] at p⊢ <;>first|exact λha=>h _ hq w K A (p ha)|exact p
 ·have eA:n'.A b=n.A b:=by rw[hA];exact if_neg hb
  rcases i with _|_|_|_|_|_|_|_|i<;>simp only[zm,Dm,eA,e,hs.2.2.1,hs.2.2.2] at p⊢ <;>exact p
theorem ap0 {d:DS} (h: ∀i,Q (tx b0 i)-> ∀w K A,(JX b0 (n.C b0) i).p w K A->(JX b0 d i).p w K A:=by intro i hq w K A h;rcases i with _|_|_|_|_|_|_|_|i<;>first|exact h|(exfalso;unfold tx at hq;omega))
  (hC:n'.C=λb=>if b=b0 then d else n.C b:=by rfl) (hs:n'.al=n.al/\n'.ex=n.ex/\n'.A=n.A/\n'.cl=n.cl:=by exact⟨rfl,rfl,rfl,rfl⟩): ∀b i,i<8->Q (tx b i)-> ∀w K A,(zm n b i).p w K A->(zm n' b i).p w K A:=λb i hi hq w K A p=>by
 have e:n'.cU b↔n.cU b:=by unfold bt.cU;rw[hs.1,hs.2.1]
 by_cases hb:b=b0
 ·subst hb;have eC:n'.C b=d:=by rw[hC];exact if_pos rfl
  rcases i with _|_|_|_|_|_|_|_|i<;>simp only[zm,Dm,eC,e,hs.2.2.1,hs.2.2.2] at p⊢ <;>first|exact λha=>h _ hq w K A (p ha)|exact p
 ·have eC:n'.C b=n.C b:=by rw[hC];exact if_neg hb
  rcases i with _|_|_|_|_|_|_|_|i<;>simp only[zm,Dm,eC,e,hs.2.2.1,hs.2.2.2] at p⊢ <;>exact p
variable {w0 : World} {aH bM : Nat -> Nat} {i : Nat}
section
variable {own : Nat -> Nat}
theorem CJ (h:jb w own n) (b i:Nat) (hi:i<8):(zm n b i).p w (bR own 4) (bR own (tx b i)):=by
 have:=h.gA (tx b i) (by unfold tx;omega) (by unfold tx;omega)
 rwa [vU _ _ _ hi] at this
theorem _root_.Go.aG.Hs.act (h:jb w own n) (hb:n.cU b):aK w (bR own (tx b 0)) b (JQ (n.A b).x (n.A b).vw) aT/\Own w (bR own (tx b 1)) 0 mT 36 (n.A b).vw (n.A b).rw/\Own w (bR own (tx b 2)) 0 snT 7 (n.A b).x.vs ((n.A b).sn.map fe.l)/\
  fN w (bR own 4) (n.A b).rw (n.A b).ws/\Sl w (bR own 4) 5 (n.A b).x.vp ((n.A b).p.map jr.l)/\((n.A b).pq=false->Sl w (bR own 4) 1 (n.A b).x.vq ((n.A b).ids.map I1)):=⟨CJ h b 0 dQ hb,CJ h b 1 dQ hb,CJ h b 2 dQ hb,CJ h b 3 dQ hb⟩
theorem _root_.Go.aG.Hs.Dl (h:jb w own n) (hb:b∈n.cl):aK w (bR own (tx b 4)) b ((n.C b).r.l bf bf (n.C b).vp bf bf bf++[(n.C b).v2,B (n.C b).ended]) cmT/\Own w (bR own (tx b 5)) 0 inT 1 (n.C b).v2 ((n.C b).waits.map I1)/\Sl w (bR own 4) 1 (n.C b).vp ((n.C b).r.parts.map I1):=⟨CJ h b 4 dQ hb,CJ h b 5 dQ hb,CJ h b 6 dQ hb⟩
theorem ix:tx b i≠0/\tx b i≠4:=by unfold tx;omega
abbrev Sn (w0:World) (bM:Nat->Nat) (w:World) (X:XS) (own:Nat->Nat) (n:bt):Prop:=St w0 bM w X own (ea n)
theorem _root_.Go.aG.St.v (s:Sn w0 bM w X own n):aK w X n.nb (Hf n.c n.D5 n.vm n.va) nT/\aG.one n.vm=true/\aG.one n.va=true/\aG.one n.c.cm=true/\aG.one n.D5=true:=
 ⟨s.zO 1,(show Own w (bR own 8) 0 mT 36 n.vm n.rm from s.get 8).sl.one,(show Own w (bR own 9) 0 Rs 9 n.va n.ra from s.get 9).sl.one,(show Own w (bR own 10) 0 pcT 1 n.c.cm _ from s.get 10).sl.one,by unfold bt.D5;split<;>rfl⟩
theorem _root_.Go.aG.St.va (s:Sn w0 bM w X own n) (hb:n.cU b):aK w X b (JQ (n.A b).x (n.A b).vw) aT/\aG.one (n.A b).vw=true/\aG.one (n.A b).x.vs=true/\aG.one (n.A b).x.vp=true/\aG.one (n.A b).x.vq=true:=
 have⟨h1,h2,h3,_,h5,h6⟩:=s.h.act hb
 ⟨h1.mono (s.sub _ ix.1),h2.sl.one,h3.sl.one,h5.one,by
  cases e:(n.A b).pq
  ·exact(h6 e).one
  ·exact(CJ s.h b 7 dQ hb e).sl.one⟩
theorem _root_.Go.aG.St.vc (s:Sn w0 bM w X own n) (hb:b∈n.cl):aK w X b ((n.C b).r.l bf bf (n.C b).vp bf bf bf++[(n.C b).v2,B (n.C b).ended]) cmT/\aG.one (n.C b).v2=true/\aG.one (n.C b).vp=true/\Sl w X 1 (n.C b).v2 ((n.C b).waits.map I1):=
 have⟨h1,h2,h3⟩:=s.h.Dl hb
 ⟨h1.mono (s.sub _ ix.1),h2.sl.one,h3.one,h2.sl.mono (s.sub _ ix.1)⟩
end
variable {vd vh vk vr vw : Value}
section
variable {Y : XS} {nb xb : Nat} {c : CoV} {vm va : Value}
theorem A4 {D5:Value} (h:aK w Y nb (Hf c D5 vm va) nT) (hY: ∀k,Y k->X k) (hi:1<=c.id/\c.id<=2):Ct pg 54 #[ptr nb 0] w X nX λv _ _=>v=I (20+c.id):=by
 intro w0 hk;have bo:=(h.mono hY).mv hk.cu;have hs:=aj.init w0;refine MM.1 λ_=>?_;repeat' first|refine ao ?_;intros|(refine qr ?_;intro wa hk;rfl)
structure bZ.C3 (m:bZ):Prop where
 keys:m.keys.length<=2^40
 seen:m.seen.length<=2^40
 writes:m.writes.length<=2^40
 parts:m.parts.length<=2^40
theorem Io {m:bZ} {vs vc:Value} (h:m.at w X vk vs vw vp vr vc vh vd) (hf:m.C3):Ct pg 45 #[m.v vk vs vw vp vr vc vh vd] w X nX λv wa w'=> ∃H4 yC jK JP,v=m.v H4 yC jK JP vr vc vh vd/\
  Sl w' (made wa w') 1 H4 (m.keys.map S1)/\Sl w' (made wa w') 7 yC (m.seen.map fe.l)/\Sl w' (made wa w') 4 jK (m.writes.map KV.l)/\Sl w' (made wa w') 1 JP (m.parts.map I1):=by
 intro w0 hk;replace h:=h.mv hk.cu;have hs:=aj.init w0;have o1:=h.ranges.one;have o2:=h.bp.one;have o3:=h.iD.one;have o4:=h.hU.one;refine RE.1 λ_=>?_;refine cA (Ka h.keys hf.keys) kQ hs.has ?_;rintro v1 D8 w1 X1 q1 qz nY aC;have h1:=h.mv aC.mv;refine cA (Lm h1.seen hf.seen) kQ aC.has ?_;rintro v2 yE w2 X2 q2 mq kW bm;have h2:=h1.mv bm.mv;refine cA (IA h2.writes hf.writes) kQ bm.has ?_;rintro v3 yF w3 X3 q3 qy mr cV;refine cA (LZ (h2.mv cV.mv).parts hf.parts) kQ cV.has ?_;rintro v4 zj w4 X4 q4 tL pa fR;have z1:=aC.kp.size;have z2:=bm.kp.size;have z3:=cV.kp.size;have u1:Own w1 X1 w0.heap.size _ _ v1 _:=q1.up nY qz;have u2:Own w2 X2 w0.heap.size _ _ v2 _:=q2.up kW zQ;have u3:Own w3 X3 w0.heap.size _ _ v3 _:=q3.up mr zQ;have u4:Own w4 X4 w0.heap.size _ _ v4 _:=q4.up pa zQ;replace u1:=((u1.since bm).since cV).since fR;replace u2:=(u2.since cV).since fR;replace u3:=u3.since fR;have p1:=u1.sl.one;have p2:=u2.sl.one;have p3:=u3.sl.one;have p4:=u4.sl.one;replace hs:=((hs.trans aC).trans (bm.trans cV)).trans fR;clear aC bm cV fR;obtain⟨a1,a2,a3,rfl⟩:=u1.sl.form;obtain⟨b1,b2,b3,rfl⟩:=u2.sl.form;obtain⟨c1,c2,c3,rfl⟩:=u3.sl.form;obtain⟨e1,e2,e3,rfl⟩:=u4.sl.form;repeat' refine ao ?_;intros
 exact cG hs λwa aL=>⟨_,_,_,_,rfl,(u1.kp aL).tight.sl,(u2.kp aL).tight.sl,(u3.kp aL).tight.sl,(u4.kp aL).tight.sl⟩
def bZ.qx (m:bZ) (no:Int):bZ:= { m with fr:=no,to:=m.range }
def bZ.asked (m:bZ) (x:AcV):bZ:= { m with aR:=x.aR,aV:=x.st }
abbrev D6 (code:Int) (t:bH) (st:bN) (on:Bool) (vs:Value):List Value:=[I code,I t.dX,I t.ba,I t.sq,I st.wall,I st.du,I st.node,B on,vs]
theorem fN.Pf {ms:List bZ} (h:fN w K rows ms): ∀r∈rows,∀u∈r,aG.one u=true:=λr hr=>by
 obtain⟨i,hi,rfl⟩:=List.getElem_of_mem hr;obtain⟨vk,vs,vw,vp,vr,vc,vh,vd,e,q⟩:=h.2 i _ (ms[i]'(by rw[<-h.1];exact hi)) (aU hi) (aU _);rw[e];have q1:=q.keys.one;have q2:=q.seen.one;have q3:=q.writes.one;have q4:=q.parts.one;have q5:=q.ranges.one;have q6:=q.bp.one;have q7:=q.iD.one;have q8:=q.hU.one;intro u hu;simp only[List.mem_cons,dC,or_false] at hu;rcases hu with rfl|rfl|rfl|rfl|rfl|rfl|rfl|rfl|rfl|rfl|rfl|rfl|rfl|rfl|rfl|rfl|rfl|rfl|rfl|rfl|rfl|rfl|rfl|rfl|rfl|rfl|rfl|rfl|rfl|rfl|rfl|rfl|rfl|rfl|rfl|rfl<;>first|rfl|assumption
end
theorem bZ.at.fm {m:bZ} {vs vc:Value} (h:m.at w X vk vs vw vp vr vc vh vd):(∃b n c,vk= .slice b n c)/\(∃b n c,vs= .slice b n c)/\(∃b n c,vw= .slice b n c)/\(∃b n c,vp= .slice b n c)/\
  aG.one vr=true/\aG.one vc=true/\aG.one vh=true/\aG.one vd=true:=⟨h.keys.form,h.seen.form,h.writes.form,h.parts.form,h.ranges.one,h.bp.one,h.iD.one,h.hU.one⟩
theorem fN.ahH {l:List Value} {m:bZ} (h:bZ.rd w K l m):fN w K [l] [m]:=by simpa using (fN.nil w K).add h
theorem fN.app {r1 r2:List (List Value)} {m1 m2:List bZ} (h1:fN w K r1 m1) (h2:fN w K r2 m2):fN w K (r1++r2) (m1++m2):=by
 refine⟨by simp[h1.1,h2.1],λi l x hl hx=>?_⟩;by_cases hi:i<r1.length
 ·rw[dT hi] at hl;rw[dT (by rw[<-h1.1];exact hi)] at hx;exact h1.2 i l x hl hx
 ·rw[cP zQ] at hl;rw[cP (by rw[<-h1.1];omega),<-h1.1] at hx;exact h2.2 _ l x hl hx
theorem bZ.at.as {m m':bZ} {vs vc:Value} (h:m.at w X vk vs vw vp vr vc vh vd) (e:m'.keys=m.keys/\m'.seen=m.seen/\m'.writes=m.writes/\m'.parts=m.parts/\m'.ranges=m.ranges/\m'.bp=m.bp/\m'.state=m.state:=by exact⟨rfl,rfl,rfl,rfl,rfl,rfl,rfl⟩):
  m'.at w X vk vs vw vp vr vc vh vd:=by
 obtain⟨e1,e2,e3,e4,e5,e6,e7⟩:=e;exact⟨by rw[e1];exact h.keys,by rw[e2];exact h.seen,by rw[e3];exact h.writes,by rw[e4];exact h.parts,by rw[e5];exact h.ranges,by rw[e6];exact h.bp,by rw[e7];exact h.iD,by rw[e7];exact h.hU⟩
abbrev sK (own:Nat->Nat) (X:XS):Prop:= ∀k,own k≠0->X k
variable {t : bH} {code : Int} {n1 : bt} {e : rl}
section
variable {own : Nat -> Nat}
theorem yD {own:Nat->Nat} (hX:sK own X) (hk:Kp X w wa):Mv (bR own 4) w (bR own 4) wa:=hk.jf λk (e:own k=4)=>hX k zQ
theorem A5 {m:bZ} {vs vc:Value} (h:jb w own n) (hX:sK own X) (hm:m.at w (bR own 4) vk vs vw vp vr vc vh vd) (hi:1<=n.c.id/\n.c.id<=2) (hl:n.rm.length<=2^20):
  Ct pg 44 #[ptr n.nb 0,m.v vk vs vw vp vr vc vh vd] w X (gB own) λ_ wa w'=>NQ ea own wa w' λ_ n'=> ∃sJ qP,n'= { n with vm:=sJ,rm:=qP,ms:=n.ms++[m.qx (20+n.c.id)] } /\qP.length=n.rm.length+1:=by
 intro w0 hk;have s:=St.init h hX hk;replace hm:=hm.mv (yD hX hk);obtain⟨⟨a1,a2,a3,rfl⟩,⟨b1,b2,b3,rfl⟩,⟨c1,c2,c3,rfl⟩,⟨e1,e2,e3,rfl⟩,q5,q6,q7,q8⟩:=hm.fm;refine MK.1 λ_=>?_;refine eT (A4 s.v.1 (λ_ h=>h) hi) kQ s.has λw1 X1 aC=>?_;replace hm:=hm.mv (aC.gU (s.sub 4));replace s:=s.since aC;have hr:=s.v.1;have hs:=s.rf;repeat' first|refine ao ?_;intros|(refine q1e hs ?_;intro _ _ _ w X hs ho)
 replace hm:=hm.mv (hs.gU (s.sub 4));replace s:=s.since hs;have jE:=fN.ahH ⟨_,_,_,_,_,_,_,_,rfl,hm.as (m':=m.qx (20+n.c.id))⟩;refine s.ap2 1 8 11 (s.get 1) (s.get 8) ho.sl jE.Pf oQ (λv=>ea { n with vm:=v,rm:=_,ms:=_ }) (λ_ _ _ _ h=>h) (λ_ _ _ _ h=>h) (λ_ _ _ _ mv h=>fN.app h (jE.mv mv)) (λv'=>nU) λv' w' X' aH s' m'=>?_;clear hs hr
 skip
 exact s'.fin λwa hk=>⟨_,_,rfl,by simp⟩
theorem oH {κ α:Type} [DecidableEq κ] {k t:κ} {l:List (κ×α)} {v:α} (h:getM t (jL k l)=some v):getM t l=some v/\t≠k:=by grind [Cs,xP]
theorem ak3 (hb:n.cU b): ∀c,c≠5-> ∀w K A,(ea n c).p w K A->(ea { n with al:=jL t n.al,ex:=b::n.ex } c).p w K A:=
 nU (λb' i hi _ w K A h=>by
  have e:({ n with al:=jL t n.al,ex:=b::n.ex } :bt).cU b'->n.cU b':=λh=>h.elim (λ⟨t,e⟩=>.inl ⟨t,(oH e).1⟩) λe=>(List.mem_cons.1 e).elim (λe=>e▸hb) .inr;rcases i with _|_|_|_|_|_|_|_|i<;>first|exact λha=>h (e ha)|exact h) λi hi hq w K A h=>by
   rcases i with _|_|_|_|_|_|_|_|_|_|_|_|_|i<;>first|exact absurd rfl hq|exact λt b e=>h t b (oH e).1|exact h
theorem CI {st:bN} {on:Bool} {vs:Value} (h:jb w own n) (hX:sK own X) (hb:n.cU b) (ovs:aG.one vs=true) (hl:n.ra.length<=2^20):
  Ct pg 62 #[ptr n.nb 0,ptr b 0,.agg (D6 code t st on vs).toArray] w X (gB own) λ_ wa w'=>NQ ea own wa w' λ_ n'=> ∃ki,n'= { n with al:=jL (n.A b).x.aR n.al,ex:=b::n.ex,va:=ki,ra:=n.ra++[D6 code (n.A b).x.aR st on vs] } :=by
 intro w0 hk;have s:=St.init h hX hk;have hr:=s.v.1;have ha:=(s.va hb).1;have hs:=s.rf;refine NM.1 λ_=>?_;repeat' refine ao ?_;intros
 refine air (kv:=λk:bH=>k.v) (k:=(n.A b).x.aR) (kt:=34) (et:=116) (s.zO 5:) E7 (λ_ h=>h.elim) ta kQ s.has λw1 X1 c1 pr=>?_;obtain⟨ij,s1,m1⟩:=s.DI (F':=ea { n with al:=jL (n.A b).x.aR n.al,ex:=b::n.ex }) 5 c1 (λk e=>by rw[show k=n.c.ab from e];exact(s.get 5:dK _ _ _ _ _ _ _).x.1) (· =n.c.ab) (λk e=>.inl (by rw[show k=n.c.ab from e];exact(s.get 5:dK _ _ _ _ _ _ _).x.1))
  (λK m=>lH pr rfl) (ak3 hb)
 clear hr ha hs;have hr:=s1.v.1;have ha:=(s1.va (b:=b) (.inr sQ)).1;have hs:=s1.rf;repeat' first|refine ao ?_;intros|(refine q1e hs ?_;intro _ _ _ w X hs ho)
 have s2:=s1.since hs;refine s2.ap2 1 9 0 (s2.get 1) (s2.get 9) ho.sl (λr hr u hu=>?_) oQ (λv=>ea { n with al:=jL (n.A b).x.aR n.al,ex:=b::n.ex,va:=v,ra:=_ }) (λ_ _ _ _ h=>h) (λ_ _ _ _ h=>h) (λ_ _ _ _ _ h=>h) (λv'=>nU) λv' w' X' aH s' m'=>?_
 ·rw[aw] at hr;subst hr;simp only[List.mem_cons,dC,or_false] at hu;rcases hu with rfl|rfl|rfl|rfl|rfl|rfl|rfl|rfl|rfl<;>first|rfl|assumption
 clear hs hr ha
 skip
 exact s'.fin λwa hk=>⟨_,rfl⟩
def Told (n:bt) (ms:List bZ) (n':bt):Prop:= ∃sJ qP,n'= { n with vm:=sJ,rm:=qP,ms:=n.ms++ms } /\qP.length=n.rm.length+ms.length
theorem Told.nil (n:bt):Told n [] n:=⟨n.vm,n.rm,by rw[List.append_nil],rfl⟩
theorem Told.add {a b:List bZ} {n2:bt} :Told n a n1->Told n1 b n2->Told n (a++b) n2:=by
 rintro⟨v,r,rfl,h⟩ ⟨v',r',rfl,h'⟩;exact⟨v',r',by simp[ak],by simp at h'⊢;omega⟩
theorem SH {m:bZ} (h:m.keys=[]/\m.seen=[]/\m.writes=[]/\m.parts=[]/\m.ranges=[]/\m.bp=[]/\m.state= .zero:=by exact⟨rfl,rfl,rfl,rfl,rfl,rfl,rfl⟩):m.at w K bf bf bf bf bf bf bf bf:=by
 obtain⟨e1,e2,e3,e4,e5,e6,e7⟩:=h;exact⟨by rw[e1];exact Sl.nil _ _ _,by rw[e2];exact Sl.nil _ _ _,by rw[e3];exact Sl.nil _ _ _,by rw[e4];exact Sl.nil _ _ _,by rw[e5];exact Sl.nil _ _ _,by rw[e6];exact eQ.nil _ _ _,by rw[e7];exact eQ.nil _ _ _,by rw[e7];exact eQ.nil _ _ _⟩
def Ck:bZ:=⟨0,0,0,.zero,0,0,0,.zero,.zero,false,0,0,[],[],[],[],[],[],.zero⟩
def Sm (t:bH) (id:Int):bZ:= { Ck with kind:=5,aR:=t,range:=id }
def Yo (r:Rec) (id:Int):bZ:= { Ck with kind:=5,aR:=r.aR,range:=id,jJ:=true,aV:=r.aV }
theorem C5 {α β:Type} {l:List α} {x:α} {f:α->β} (h:l[i]? =some x):(l.take (i+1)).map f=(l.take i).map f++[f x]:=by
 rw[List.take_add_one,h];simp
theorem zF (h:jb w own n) (hX:sK own X) (hb:n.cU b) (hpq:(n.A b).pq=false) (hl:n.ra.length<=2^20) (hi:1<=n.c.id/\n.c.id<=2) (wS:n.rm.length+(n.A b).ids.length<=2^20):
  Ct pg 43 #[ptr n.nb 0,ptr b 0,I code] w X (gB own) λ_ wa w'=>NQ ea own wa w' λ_ n'=> ∃ki,Told { n with al:=jL (n.A b).x.aR n.al,ex:=b::n.ex,va:=ki,ra:=n.ra++[D6 code (n.A b).x.aR .zero false bf] }
   (if(n.A b).x.pre then(n.A b).ids.map λid=>(Sm (n.A b).x.aR id).qx (20+n.c.id)else []) n':=by
 intro w0 hk;have s:=St.init h hX hk;have hs:=s.rf;refine Kr.1 λ_=>?_;repeat' refine ao ?_;intros
 refine s.call (CI (code:=code) (t:=.zero) (st:=.zero) (on:=false) (vs:=bf) s.h s.x hb rfl hl) kQ λv w1 X1 ij n1 s1 q m1=>?_;obtain⟨ki,rfl⟩:=q;clear hs h s m1;have hs:=s1.rf;obtain⟨ha,-⟩:=s1.va (b:=b) (.inr sQ);have Fc:=((s1.h.act (b:=b) (.inr sQ)).2.2.2.2.2 hpq).mono (s1.sub 4);have lN:=Fc.ib;dsimp only at ha Fc;cases hp:(n.A b).x.pre
 ·dsimp only [JQ] at ha;rw[hp] at ha;repeat' refine ao ?_;intros
  exact s1.fin λwa hk=>⟨ki,Told.nil _⟩
 dsimp only [JQ] at ha;rw[hp] at ha;repeat' refine ao ?_;intros
 generalize hN:({ n with al:=jL (n.A b).x.aR n.al,ex:=b::n.ex,va:=ki,ra:=n.ra++[D6 code (n.A b).x.aR .zero false bf] } :bt)=N at s1;refine gh (λn' a w X=> ∃(i:Nat) (aH:Nat->Nat) (n1:bt),a=I (i:Nat)/\n'=(n.A b).ids.length-i/\i<=(n.A b).ids.length/\Sn w0 own w X aH n1/\Told N (((n.A b).ids.take i).map λid=>(Sm (n.A b).x.aR id).qx (20+n.c.id)) n1) (n.A b).ids.length ⟨0,ij,N,rfl,rfl,Nat.zero_le _,s1,Told.nil _⟩ ?_;clear hs s1 ha Fc;rintro n' _ w1 X1 ⟨i,ij,n1,rfl,rfl,Ql,s,ht⟩;obtain⟨Xy,QF,wP,rG⟩:=id ht;have e:n1.A=n.A/\n1.nb=n.nb/\n1.c=n.c/\n1.rm=QF/\N.rm=n.rm:=by rw[wP,<-hN];exact⟨rfl,rfl,rfl,rfl,rfl⟩
 have TR:n1.cU b:=.inr (by rw[wP,<-hN];simp);obtain⟨ha,o1,o2,o3,o4⟩:=s.va TR;have Fc:=((s.h.act TR).2.2.2.2.2 (by rw[e.1];exact hpq)).mono (s.sub 4);rw[e.1] at ha Fc o1 o2 o3 o4;have hs:=s.rf;rcases dG ((n.A b).ids) i with⟨cC,id,hx,hd⟩|⟨dH,hd⟩
 ·repeat' refine aN ?_;intros
  rw[<-e.2.1];refine s.call (A5 (m:=Sm (n.A b).x.aR id) s.h s.x SH (by rw[e.2.2.1];exact hi) (by rw[e.2.2.2.1,rG,e.2.2.2.2];simp;omega)) kQ λv w2 X2 lS n2 s2 q m2=>?_;clear hs;repeat' refine ao ?_;intros
  refine fp ((n.A b).ids.length-(i+1)) zQ ⟨i+1,lS,n2,by simp,rfl,by omega,s2,?_⟩;rw[C5 hx];refine ht.add ?_;obtain⟨v,r,e1,e2⟩:=q;exact⟨v,r,by rw[e1,e.2.2.1],e2⟩
 ·repeat' refine aN ?_;intros
  rw[ax zQ] at ht;exact s.fin λwa hk=>⟨ki,by rw[hN,if_pos rfl];exact ht⟩
def dN (n:bt) (b:Nat) (d:rl):bt:= { n with A:=λb'=>if b'=b then d else n.A b' }
theorem jj:(dN n b d).A b=d:=if_pos rfl
theorem IW (h: ∀i,Q (tx b i)-> ∀w K A,(Ke b (n.A b) i).p w K A->(Ke b d i).p w K A:=by intro i hq w K A h;rcases i with _|_|_|_|_|_|_|_|i<;>first|exact h|exact absurd rfl hq.1|exact absurd rfl hq.2.1|exact absurd rfl hq.2.2|exact absurd rfl hq) (ht:d.x.aR=(n.A b).x.aR:=by rfl):
  ∀c,Q c-> ∀w K A,(ea n c).p w K A->(ea (dN n b d) c).p w K A:=
 nU (arv h) λi hi hq w K A p=>by
  by_cases anO:i=12
  ·subst anO;intro t b' e
   show(if b'=b then d else n.A b').x.aR=t
   by_cases hb:b'=b
   ·subst hb;rw[if_pos rfl,ht];exact p t b' e
   ·rw[if_neg hb];exact p t b' e
  ·rcases i with _|_|_|_|_|_|_|_|_|_|_|_|_|i<;>first|exact p|exact absurd rfl anO
theorem An:dN (dN n b d) b e=dN n b e:=by
 unfold dN
 congr 1
 funext b'
 by_cases h:b'=b<;>simp[h]
theorem QE {d':rl} (h: ∀i,Q (tx b i)-> ∀w K A,(Ke b d i).p w K A->(Ke b d' i).p w K A:=by intro i hq w K A h;rcases i with _|_|_|_|_|_|_|_|i<;>first|exact h|exact absurd rfl hq.1|exact absurd rfl hq.2.1|exact absurd rfl hq.2.2|exact absurd rfl hq|exact⟨h.1,h.2.1,λe=>Bool.noConfusion e⟩) (ht:d'.x.aR=d.x.aR:=by rfl):
  ∀c,Q c-> ∀w K A,(ea (dN n b d) c).p w K A->(ea (dN n b d') c).p w K A:=λc hq w K A p=>by
 have:=IW (n:=dN n b d) (d:=d') (by rw[jj];exact h) (by rw[jj];exact ht) c hq w K A p
 rwa [An] at this
theorem _root_.Go.aG.St.vs (s:Sn w0 bM w X own (dN n b d)) (hb:n.cU b):aK w X b (JQ d.x d.vw) aT/\aG.one d.vw=true/\aG.one d.x.vs=true/\aG.one d.x.vp=true/\aG.one d.x.vq=true:=by
 have:=s.va (b:=b) hb
 rwa [jj] at this
theorem Told.set {N:bt} {l:List bZ} :Told N l n1->Told (dN N b e) l (dN n1 b e):=by
 rintro⟨v,r,rfl,h⟩;exact⟨v,r,rfl,h⟩
theorem rj (hi:i<4\/i=7) (h:(Ke b d i).p w K A):(ea (dN n b d) (tx b i)).p w K A:=by
 rw[vU _ _ _ zQ];rcases i with _|_|_|_|_|_|_|_|i<;>first|(simp only[zm,Dm,jj];exact λ_=>h)|omega
theorem Ot {m:bZ} {vs vc:Value} (h:jb w own n) (hX:sK own X) (hb:n.cU b) (hm:m.at w (bR own 4) vk vs vw vp vr vc vh vd) (hf:m.C3) (hi:1<=n.c.id/\n.c.id<=2) (hl:n.rm.length<=2^20) (wS:(n.A b).rw.length<=2^20):
  Ct pg 63 #[ptr n.nb 0,ptr b 0,m.v vk vs vw vp vr vc vh vd] w X (gB own) λ_ wa w'=>NQ ea own wa w' λ_ n'=> ∃jK mf,mf.length=(n.A b).rw.length+1/\
   Told (dN n b { n.A b with vw:=jK,rw:=mf,ws:=(n.A b).ws++[m.asked (n.A b).x] }) [(m.asked (n.A b).x).qx (20+n.c.id)] n':=by
 intro w0 hk;have s:=St.init h hX hk;replace hm:=hm.mv (yD hX hk);obtain⟨⟨a1,a2,a3,rfl⟩,⟨b1,b2,b3,rfl⟩,⟨c1,c2,c3,rfl⟩,⟨e1,e2,e3,rfl⟩,q5,q6,q7,q8⟩:=hm.fm;have ha:=(s.va hb).1;have hs:=s.rf;refine NN.1 λ_=>?_;repeat' first|refine ao ?_;intros|(refine q1e hs ?_;intro _ _ _ w X hs ho)
 replace hm:=hm.mv (hs.gU (s.sub 4));replace s:=s.since hs;have jE:=fN.ahH ⟨_,_,_,_,_,_,_,_,rfl,hm.as (m':=m.asked (n.A b).x)⟩;have oe:=s.h.act hb;refine s.ap1 (tx b 0) (tx b 1) (tx b 3) oe.1 oe.2.1 ho.sl jE.Pf oQ (λv=>ea (dN n b { n.A b with vw:=v,rw:=_,ws:=(n.A b).ws++[m.asked (n.A b).x] })) (λ_ _ _ _ h=>rj dQ h) (λ_ _ _ _ h=>rj dQ h)
  (λ_ _ K A mv h=>rj dQ (by rw[vU _ _ _ dQ] at h;exact⟨fN.app (h hb).1 (jE.mv mv),(h hb).2⟩)) (λv'=>IW) (λv' w' X' aH s' m'=>?_) (yI:=by unfold tx;omega)
 replace hm:=hm.mv m';clear hs ha oe;have hs:=s'.rf;repeat' refine ao ?_;intros
 refine cA (Io (m:=m.asked (n.A b).x) ((hm.mv (Mv.sub (s'.sub 4))).as) ⟨hf.keys,hf.seen,hf.writes,hf.parts⟩) kQ s'.has ?_;rintro _ Qs w7 X7 ⟨H4,yC,vw2,JP,rfl,u1,u2,u3,u4⟩ Sp Hc py;replace hm:=hm.mv (py.gU (s'.sub 4));have s7:=s'.since py;obtain⟨Lq,s8,m8,e8,n8⟩:=s7.vB (N:=made Qs w7) λk hk=>⟨Hc k hk,by have:=hk.1;have:=s'.nw (k:=k) zQ;exact this⟩;have k8:Mv (made Qs w7) w7 (bR Lq 4) w7:=Mv.sub n8;replace hm:=(hm.mv m8).as (m':=m.asked (n.A b).x);refine s8.call (A5 (n:=dN n b _) (m:=m.asked (n.A b).x) s8.h s8.x ⟨u1.mv k8,u2.mv k8,u3.mv k8,u4.mv k8,hm.ranges,hm.bp,hm.iD,hm.hU⟩ hi hl) kQ λv w9 X9 pK n9 s9 q m9=>?_;obtain⟨v9,r9,rfl,QH⟩:=q
 skip
 exact s9.fin λwa hk=>⟨_,_,by rw[aa];rfl,v9,r9,rfl,QH⟩
def dM (n:bt):bt:= { n with vm:=bf,va:=bf,rm:=[],ra:=[],ms:=[] }
structure yW (w:World) (own:Nat->Nat) (n:bt):Prop where
 om:Sl w (bR own 4) 36 n.vm n.rm
 hm:fN w (bR own 4) n.rm n.ms
 oa:Sl w (bR own 4) 9 n.va n.ra
theorem yW.mv (h:yW w own n) (m:Mv (bR own 4) w (bR aH 4) w'):yW w' aH n:=⟨h.om.mv m,h.hm.mv m,h.oa.mv m⟩
def Sy (own:Nat->Nat) (wa w':World) (P:bt->Prop) (Q:bt->Prop):Prop:=NQ ea own wa w' λaH n'=> ∃n1,P n1/\Q n1/\n'=dM n1/\yW w' aH n1
theorem Ff (h:jb w own n) (hX:sK own X):Ct pg 47 #[ptr n.nb 0] w X (gB own) λv wa w'=>NQ ea own wa w' λaH n'=>v= .agg #[n.vm,n.va]/\n'=dM n/\yW w' aH n:=by
 intro w0 hk;have s:=St.init h hX hk;obtain⟨hr,o2,o3,-⟩:=s.v;have hs:=s.rf;have hO:yW w0 own n->True:=λ_=>trivial;have q8:Own w0 (bR own 8) 0 mT 36 n.vm n.rm:=s.get 8;have q9:Own w0 (bR own 9) 0 Rs 9 n.va n.ra:=s.get 9;have q11:fN w0 (bR own 4) n.rm n.ms:=s.get 11;obtain⟨ij,s1,m1,e1,e2⟩:=s.Xx (F':=λc=>if c=8\/c=9\/c=11 then Q8 else ea n c) (λc=>c=8\/c=9) dQ (λc hc w K=>by rw[if_pos zQ];trivial) λc hc K A _ h=>by
  by_cases e:c=11
  ·rw[if_pos zQ];trivial
  ·rw[if_neg zQ];exact h
 have hO:yW w0 ij n:=⟨q8.sl.mono λk e=>e1 k (.inl e),q11.mv m1,q9.sl.mono λk e=>e1 k (.inr e)⟩;refine ML.1 λ_=>?_;repeat' refine ao ?_;intros
 refine s1.stN (o:=10) 1 (s1.get 1) (ea (dM n)) zQ kQ (Nat.le_of_ble_eq_true rfl) rfl rfl (λ_ _ _ h=>h) (λc hc w K A h=>?_) λw2 X2 lS s2 m2=>?_
 ·by_cases e:c=8\/c=9\/c=11
  ·rcases e with rfl|rfl|rfl
   ·exact Own.nil _ _ _ _ _
   ·exact Own.nil _ _ _ _ _
   ·exact fN.nil _ _
  ·rw[if_neg e] at h;exact(nU: ∀c,(c≠1/\c≠8/\c≠9/\c≠11)-> ∀w K A,(ea n c).p w K A->(ea (dM n) c).p w K A) c zQ w K A h
 clear hs;repeat' refine ao ?_;intros
 exact s2.fin λwa hk=>⟨rfl,rfl,(hO.mv m2).mv (yD s2.x hk)⟩
theorem _root_.Go.aG.St.alm {v:Value} {P:bt->Prop} {Q:Value->bt->Prop} (s:Sn w0 bM w X own (dM n1)) (q:yW w own n1) (hp:P n1) (hq:Q v n1):aG.fin (vR (gB bM) w0 λv w'=>Sy bM w0 w' P (Q v)) X w v:=
 St.fin (Q:=λv w' aH n'=> ∃n1,P n1/\Q v n1/\n'=dM n1/\yW w' aH n1) s λwa hk=>⟨n1,hp,hq,rfl,q.mv (yD s.x hk)⟩
theorem Im (h:jb w own n) (hX:sK own X) (hb:b∈n.cl) (hi:1<=n.c.id/\n.c.id<=2) (hl:n.rm.length+(n.C b).waits.length<=2^20):
  Ct pg 46 #[ptr n.nb 0,ptr b 0] w X (gB own) λ_ wa w'=>NQ ea own wa w' λ_ n'=>Told n ((n.C b).waits.map λid=>(Yo (n.C b).r id).qx (20+n.c.id)) n':=by
 intro w0 hk;have s:=St.init h hX hk;obtain⟨hc,o1,o2,hw⟩:=s.vc hb;have lN:(n.C b).waits.length<=2^20:=by omega
 have hs:=s.rf;refine Jm.1 λ_=>?_;repeat' refine ao ?_;intros
 refine gh (λn' a w X=> ∃(i:Nat) (aH:Nat->Nat) (n1:bt),a=I (i:Nat)/\n'=(n.C b).waits.length-i/\i<=(n.C b).waits.length/\Sn w0 own w X aH n1/\Told n (((n.C b).waits.take i).map λid=>(Yo (n.C b).r id).qx (20+n.c.id)) n1) (n.C b).waits.length ⟨0,own,n,rfl,rfl,Nat.zero_le _,s,Told.nil _⟩ ?_;clear hs s hc hw;rintro n' _ w1 X1 ⟨i,ij,n1,rfl,rfl,Ql,s,ht⟩;obtain⟨Xy,QF,rfl,rG⟩:=id ht;obtain⟨hc,o1,o2,hw⟩:=s.vc (b:=b) hb;have hs:=s.rf;dsimp only at hc hw;rcases dG ((n.C b).waits) i with⟨cC,id,hx,hd⟩|⟨dH,hd⟩
 ·repeat' refine aN ?_;intros
  refine s.call (A5 (n:= { n with vm:=Xy,rm:=QF,ms:=_ }) (m:=Yo (n.C b).r id) s.h s.x SH hi (by simp at rG;simp;omega)) kQ λv w2 X2 lS n2 s2 q m2=>?_;clear hs;repeat' refine ao ?_;intros
  exact fp ((n.C b).waits.length-(i+1)) zQ ⟨i+1,lS,n2,by simp,rfl,by omega,s2,by rw[C5 hx];exact ht.add q⟩
 ·repeat' refine aN ?_;intros
  rw[ax zQ] at ht;exact s.fin λwa hk=>by rw[ax zQ];exact ht
end
abbrev CW:=List (BA×gJ)
def uq (o:jr) (s:List gJ) (wr:CW):Except Int (List gJ×CW):=
 if o.code=2 then .ok (s.tail,cI o.key (s.headD .zero) wr)
 else if o.code=3 then .ok (s,cI o.key .zero wr)
 else if o.code=4 then .ok (o.val::s,wr)
 else if o.code=13 then(if R0 (s.headD .zero)then .ok (s.tail,wr)else .error 22)
 else if o.code=14 then .ok (s.headD .zero::s,wr)
 else match yT o.code (s.tail.headD .zero) (s.headD .zero)with
  | .ok l=>.ok (l++s.tail.tail,wr)
  | .error e=>.error e
section
variable {N N' : XS} {rb sb wb : Nat} {wU oI : Value} {s s' : List gJ} {wr oU : CW}
theorem ir.put (h:ir w N rb sb wb wU s wr) (hX: ∀k,N k->X k) (c:eh (· =wb) X w X' w') (hm:dK w' X' nX wb Value.string nA oU):ir w' N rb sb wb wU s oU:=
 ⟨⟨h.row.1,(c.block _ (hX _ h.row.1) λe=>h.ne e.symm).trans h.row.2⟩,Iv h.own λg hg=>⟨h.own.2.2 g hg,c.block g (hX _ (h.own.2.2 g hg)) λe=>h.ns.2 (by rw[<-e];exact hg)⟩,lH hm h.map.x.1⟩
theorem ao9 {b c:Value} {o':Nat} {C:Value->Prop} (h:aK w X rb [a,b,c] runT) (ho:o'=0+2) (n:C c):aZ pg X w (ld1 287 (ptr rb o')) C:=by
 have hc:Cells w X rb (0+2) [c]:=h.cells.Wj (fo:=2) rfl;rw[ho];exact aee hc (Mv.refl _ _) kQ rfl n
theorem ag6 {o:jr} (h:ir w N rb sb wb wU s wr) (hN:FX N X w) (hl:s.length<=2^20) (hg:o.code≠1) (hc:1<=o.code/\o.code<=15) (ht:tK o.code<=s.length):
  E5 pg 168 #[ptr rb 0,.agg o.l.toArray] w X N (λ_ wa w'=> ∃s' oU N' oI,uq o s wr= .ok (s',oU)/\(∀k,N' k->N k\/made wa w' k)/\ir w' N' rb sb wb oI s' oU) (λch _ _=> ∃e,uq o s wr= .error e/\ch=vy e):=by
 intro w0 hk;have hT:=hN.ft hk;replace h:=h.mv (hN.mv hk);have Kc:=hN.kp hk;have bo:=h.row.mono λk af=>(Kc k af).1;have EG: ∀{w3:World} {X3:XS} {N3:XS} {s3:List gJ} {Ve:CW} {v:gJ} {Ae:Value} {K:Value->World->XS->Prop},Ft w0 N w3 X3 N3->ir w3 N3 rb sb wb Ae s3 Ve->s3.length<=2^30->
   (∀x w4 X4 N4 Ha,Ft w0 N w4 X4 N4->ir w4 N4 rb sb wb Ha (v::s3) Ve->K x w4 X4)->eC pg (Fx N w0 (λ_ w'=> ∃s' oU N' oI,uq o s wr= .ok (s',oU)/\(∀k,N' k->N k\/made w0 w' k)/\ir w' N' rb sb wb oI s' oU) (λch _=> ∃e,uq o s wr= .error e/\ch=vy e)) X3 w3 true 234 #[ptr rb 0,v.v] K:=λq1 q2 q3 k=>by
  refine q1.call (IS q2 (λk af=>⟨q1.br k af,q1.s.has k (q1.br k af)⟩) q3) kQ (λ_ h=>h) λv zj w4 X4 hq tL pa fJ c4=>?_;obtain⟨N4,Ha,TL,h4⟩:=hq;exact k _ _ _ _ _ (fJ.less TL) h4
 have ai4: ∀{w3:World} {X3:XS} {N3:XS} {s3:List gJ} {Ve:CW} {v:gJ} {Ae:Value} {K:Value->World->XS->Prop},Ft w0 N w3 X3 N3->ir w3 N3 rb sb wb Ae (v::s3) Ve->
   (∀w4 X4 Ha,Ft w0 N w4 X4 N3->ir w4 N3 rb sb wb Ha s3 Ve->aK w4 X4 rb [Ha,.map (some sb),.map (some wb)] runT->K v.v w4 X4)->eC pg (Fx N w0 (λ_ w'=> ∃s' oU N' oI,uq o s wr= .ok (s',oU)/\(∀k,N' k->N k\/made w0 w' k)/\ir w' N' rb sb wb oI s' oU) (λch _=> ∃e,uq o s wr= .error e/\ch=vy e)) X3 w3 true 236 #[ptr rb 0] K:=λq1 q2 k=>by
  refine q1.call (M7 q2 (λk af=>⟨q1.br k af,q1.s.has k (q1.br k af)⟩)) kQ (λ_ h=>h) λv zj w4 X4 hq tL pa fJ c4=>?_;obtain⟨rfl,Ha,h4⟩:=hq;have zP:=fJ.less (F':=_) λk af=>.inl af;exact k _ _ _ zP h4 (h4.row.mono λk af=>zP.br k af)
 have La: ∀{w3:World} {X3:XS} {N3:XS} {s3:List gJ} {v:gJ} {Ae:Value} {K:Value->World->XS->Prop},Ft w0 N w3 X3 N3->ir w3 N3 rb sb wb Ae s3 wr->
   (∀w4 X4,Ft w0 N w4 X4 N3->ir w4 N3 rb sb wb Ae s3 (cI o.key v wr)->K undef w4 X4)->eU pg (Fx N w0 (λ_ w'=> ∃s' oU N' oI,uq o s wr= .ok (s',oU)/\(∀k,N' k->N k\/made w0 w' k)/\ir w' N' rb sb wb oI s' oU) (λch _=> ∃e,uq o s wr= .error e/\ch=vy e)) X3 w3 true (Instr.mapUpdate 287 (.map (some wb)) (.string o.key) v.v) K:=λ{w3} {X3} {N3} {s3} {v} {Ae} {K} q1 q2 k=>by
  refine vA (kv:=Value.string) (k:=o.key) (a:=v) (kt:=9) (et:=97) (q2.mv (Mv.sub q1.br)).map kH rfl (λ_ h=>h.elim) xw kQ q1.s.has λw4 X4 c4 Aj=>?_;exact k _ _ (q1.eo (F':=N3) c4 (λk af=>by subst af;exact q2.map.x.1) λk af=>.inl af) (q2.put q1.br c4 Aj)
 have rW: ∀{w3:World} {X3:XS} {N3:XS} {s3:List gJ} {Ve:CW} {Ae:Value} {x:Value},Ft w0 N w3 X3 N3->ir w3 N3 rb sb wb Ae s3 Ve->uq o s wr= .ok (s3,Ve)->
   fin (Fx N w0 (λ_ w'=> ∃s' oU N' oI,uq o s wr= .ok (s',oU)/\(∀k,N' k->N k\/made w0 w' k)/\ir w' N' rb sb wb oI s' oU) (λch _=> ∃e,uq o s wr= .error e/\ch=vy e)) X3 w3 x:=λq1 q2 q3=>
  q1.xy λwa aL=>⟨_,_,_,_,q3,q1.jC aL λ_ h=>h,q2.mv (aL.jf q1.br)⟩
 have hs:=aj.init w0;have h1:tK o.code=if o.code=3\/o.code=4 then 0 else if o.code=2\/o.code=13\/o.code=14 then 1 else 2:=by
  unfold tK;rw[if_neg zQ];by_cases q:o.code=3\/o.code=4
  ·rw[if_pos zQ,if_pos q]
  ·rw[if_neg zQ,if_neg q]
 by_cases e2:o.code=2
 ·rw[if_neg zQ,if_pos zQ] at h1;cases s with
  |nil=>simp at ht;omega
  |cons v s=>
   refine o9.1 λ_=>?_;repeat' first|refine aN ?_;intros|with_reducible apply cK|(refine ai4 hT h λw1 X1 aiV ej h1 Et=>?_)|(refine And.intro ?_ ?_)|(refine La aQ aQ λw2 X2 da h2=>?_)|(exact rW aQ aQ (by unfold uq;rw[if_pos e2];rfl))|(refine ao9 aQ aQ ?_)
 by_cases e3:o.code=3
 ·refine o9.1 λ_=>?_;repeat' first|refine aN ?_;intros|with_reducible apply cK|(refine La (v:=.zero) hT h λw2 X2 da h2=>?_)|(exact rW aQ aQ (by unfold uq;rw[if_neg e2,if_pos e3]))
 by_cases e4:o.code=4
 ·refine o9.1 λ_=>?_;repeat' first|refine aN ?_;intros|with_reducible apply cK|(refine EG (v:=o.val) hT h zQ λx w2 X2 N2 anE da h2=>?_)|(exact rW aQ aQ (by unfold uq;rw[if_neg e2,if_neg e3,if_pos e4]))
 by_cases e13:o.code=13
 ·rw[if_neg zQ,if_pos zQ] at h1;cases s with
  |nil=>simp at ht;omega
  |cons v s=>
   refine o9.1 λ_=>?_;repeat' first|refine aN ?_;intros|with_reducible apply cK|(refine ai4 hT h λw1 X1 aiV ej h1 Et=>?_)
   refine se (aad v) kQ ej.s.has λw2 X2 bm=>?_;have da:=ej.since bm;have h2:=h1.mv (bm.gU λk af=>ej.br k af);by_cases hh:R0 v=true
   ·rw[hh];repeat' first|refine ao ?_;intros|(exact rW da h2 (by unfold uq;rw[if_neg e2,if_neg e3,if_neg e4,if_pos e13];simp only[List.headD_cons,hh,if_true,List.tail_cons]))
   ·rw[Bool.eq_false_iff.2 hh];repeat' first|refine ao ?_;intros|(with_reducible refine SE ?_ ?_);(· kernel_rfl)
    exact SF da.s.has λwa oZ=>da.iE oZ ⟨22,by unfold uq;rw[if_neg e2,if_neg e3,if_neg e4,if_pos e13];exact if_neg hh,rfl⟩
 by_cases e14:o.code=14
 ·rw[if_neg zQ,if_pos zQ] at h1;cases s with
  |nil=>simp at ht;omega
  |cons v s=>
   refine o9.1 λ_=>?_;repeat' first|refine aN ?_;intros|with_reducible apply cK|(refine ai4 hT h λw1 X1 aiV ej h1 Et=>?_)
   refine EG (v:=v) ej h1 (by simp only[aM] at hl;omega) λx w2 X2 N2 anE da h2=>?_;repeat' refine ao ?_;intros
   refine EG (v:=v) da h2 (by simp only[aM] at hl⊢;omega) λx w3 X3 N3 Ae dS h3=>?_;repeat' first|(exact rW aQ aQ (by unfold uq;rw[if_neg e2,if_neg e3,if_neg e4,if_neg e13,if_pos e14];rfl))
 ·rw[if_neg zQ,if_neg zQ] at h1;obtain⟨b,a,s,rfl⟩: ∃b a s',s=b::a::s':=by
   match s,ht with
   |[],ht=>simp at ht;omega
   |[_],ht=>simp at ht;omega
   |b::a::s,_=>exact⟨b,a,s,rfl⟩
  have hd:uq o (b::a::s) wr=match yT o.code a b with| .ok l=>.ok (l++s,wr)| .error e=>.error e:=by
   unfold uq;rw[if_neg e2,if_neg e3,if_neg e4,if_neg e13,if_neg e14];rfl
  refine o9.1 λ_=>?_;repeat' first|refine aN ?_;intros|with_reducible apply cK
  refine hT.Gt (agz h Kc (by simp only[aM] at hl;omega)) kQ (λ_ h=>h) (λv yF w3 X3 hq qy mr dS c3=>?_) λch yF w3 X3 hq qy mr dS c3 wb mP=>?_
  ·obtain⟨l,N3,Ae,hl3,hN3,h3⟩:=hq;repeat' first|(exact rW (dS.less hN3) h3 (by rw[hd,hl3]))
  ·obtain⟨e,he,hch⟩:=hq;exact dS.iE mP ⟨e,by rw[hd,he],hch⟩
end
end Go.Proofs.YtgfijddlkhkopaaGreat