/-
 Part 13 of the proof: what the last text leans on.
-/
import Derived.WalkKit
import Derived.Test.YtbpnemeooenpmaaGreatH12
open Nat renaming le_refl → ba
open Go.Exit renaming inBlock → rJ
open Go.Value renaming string → bB, slice → kO
open List renaming length_cons → bh, reverse_cons → qS, length_reverse → oS, length_singleton → bu, length_map → aH, mem_of_mem_take → tq, length_take → bW
open Option.some renaming injEq → ay
set_option linter.unusedVariables false
set_option linter.unusedSimpArgs false
namespace Go.Proofs.YtbpnemeooenpmaaGreat
open Go.Proofs.Tryz renaming prog → pg
open Go.aV Go.RowKit Go.Sort Ieee
set_option maxRecDepth 100000
set_option maxHeartbeats 1000000
def F9 (t:Nat):Nat:=(t % 2)*2^63+9218868437227405312+1+(t/2) % (2^52-1)
def RI (op:BinOp) (x y:Nat) (w:World):Nat:=match floatBits op .f64 x y with|some r=>r|none=>F9 (w.tape w.drawn (.nanBits .f64 x y))
def RJ (op:BinOp) (x y:Nat) (w:World):World:=match floatBits op .f64 x y with|some _=>w|none=> { w with drawn:=w.drawn+1 }
def Dd (op:BinOp) (x y:Nat):Nat:=match floatBits op .f64 x y with|some r=>canon r|none=>9221120237041090560
theorem afN (f:Format) (n:Nat) (h:f.infRung<n % f.signWeight) (h2:f.binade≤f.infRung): ∃s q,f.read n= .nan s q:=by
 unfold Format.read;refine⟨n/f.signWeight % 2==1,n % f.signWeight-f.infRung,?_⟩;simp only;rw [if_neg zQ,if_neg zQ,if_neg zQ]
theorem ac9 (t:Nat): ∃s q,(FloatKind.f64.format).read (F9 t)= .nan s q:=by
 have e1:FloatKind.f64.format.signWeight=9223372036854775808:=by decide
 have e2:FloatKind.f64.format.binade=4503599627370496:=by decide
 have e3:FloatKind.f64.format.infRung=9218868437227405312:=by decide
 refine afN _ _ ?_ ?_
 ·have e:F9 t=9223372036854775808*(t % 2)+(9218868437227405312+1+t/2 % 4503599627370495):=by
   show t % 2*9223372036854775808+9218868437227405312+1+t/2 % 4503599627370495=_
   omega
  rw [e1,e3,e,Nat.mul_add_mod,Nat.mod_eq_of_lt zQ];omega
 ·rw [e2,e3];omega
theorem abv (t:Nat):canon (F9 t)=9221120237041090560:=by
 have h:jI (F9 t) (F9 t)=false:=by
  obtain⟨s,q,e⟩:=ac9 t;unfold jI Format.order;rw [e];rfl
 unfold canon;rw [h];rfl
theorem De (op:BinOp) (x y:Nat) (w:World):canon (RI op x y w)=Dd op x y:=by
 unfold RI Dd;split
 ·rfl
 ·exact abv _
theorem KM (op:BinOp) (x y:Nat) (w:World):Ext w (RJ op x y w):=by
 unfold RJ;split
 ·exact⟨rfl,rfl,rfl,ba _,fun _ _ _=>rfl⟩
 ·exact⟨rfl,rfl,rfl,ba _,fun _ _ _=>rfl⟩
theorem Df {P:Program} {t:TypeId} {w:World} (op:BinOp) (h:op= .add∨op= .sub∨op= .mul∨op= .quo) (x y:Nat):(binOp op t (.float .f64 x) (.float .f64 y)).run P w= .ok (.float .f64 (RI op x y w)) (RJ op x y w):=by
 unfold RI RJ;cases hf:floatBits op .f64 x y with
 |some r=>exact run_float_arith w op t .f64 x y r hf
 |none=>
  unfold floatBits at hf;rcases h with rfl|rfl|rfl|rfl<;>simp only at hf<;>simp [binOp,Op.floatArith,hf,choose,Sem.run,Question.forced,Question.cut,F9]
@[go_sem] theorem akE {P:Program} {t:TypeId} {w:World} (x y:Nat):(binOp .add t (.float .f64 x) (.float .f64 y)).run P w= .ok (.float .f64 (RI .add x y w)) (RJ .add x y w):=Df _ (by simp) x y
@[go_sem] theorem akF {P:Program} {t:TypeId} {w:World} (x y:Nat):(binOp .sub t (.float .f64 x) (.float .f64 y)).run P w= .ok (.float .f64 (RI .sub x y w)) (RJ .sub x y w):=Df _ (by simp) x y
@[go_sem] theorem akG {P:Program} {t:TypeId} {w:World} (x y:Nat):(binOp .mul t (.float .f64 x) (.float .f64 y)).run P w= .ok (.float .f64 (RI .mul x y w)) (RJ .mul x y w):=Df _ (by simp) x y
@[go_sem] theorem akH {P:Program} {t:TypeId} {w:World} (x y:Nat):(binOp .quo t (.float .f64 x) (.float .f64 y)).run P w= .ok (.float .f64 (RI .quo x y w)) (RJ .quo x y w):=Df _ (by simp) x y
theorem abw (a b:Nat):Pure pg 230 #[.float .f64 a,.float .f64 b] (.float .f64 (Dd .add a b)):=by
 intro W
 go_enter Tryz.func230,Tryz.ntmps230
 go_wp2_with (go_at_call 227;refine(nE _ _).mono ?_;rintro e w1 ⟨rfl,x1⟩)
 all_goals (try simp only [rJ,Exit.then])
 refine bodyPost_ret (v:=.float .f64 (Dd .add a b)) ?_ rfl ⟨rfl,(KM _ _ _ _).trans x1⟩;rw [results_tmp (t:=4) kQ];simp [De]
theorem abx (a b:Nat):Pure pg 231 #[.float .f64 a,.float .f64 b] (.float .f64 (Dd .sub a b)):=by
 intro W
 go_enter Tryz.func231,Tryz.ntmps231
 go_wp2_with (go_at_call 227;refine(nE _ _).mono ?_;rintro e w1 ⟨rfl,x1⟩)
 all_goals (try simp only [rJ,Exit.then])
 refine bodyPost_ret (v:=.float .f64 (Dd .sub a b)) ?_ rfl ⟨rfl,(KM _ _ _ _).trans x1⟩;rw [results_tmp (t:=4) kQ];simp [De]
theorem aby (a b:Nat):Pure pg 232 #[.float .f64 a,.float .f64 b] (.float .f64 (Dd .mul a b)):=by
 intro W
 go_enter Tryz.func232,Tryz.ntmps232
 go_wp2_with (go_at_call 227;refine(nE _ _).mono ?_;rintro e w1 ⟨rfl,x1⟩)
 all_goals (try simp only [rJ,Exit.then])
 refine bodyPost_ret (v:=.float .f64 (Dd .mul a b)) ?_ rfl ⟨rfl,(KM _ _ _ _).trans x1⟩;rw [results_tmp (t:=4) kQ];simp [De]
theorem abz (a b:Nat):Pure pg 233 #[.float .f64 a,.float .f64 b] (.float .f64 (Dd .quo a b)):=by
 intro W
 go_enter Tryz.func233,Tryz.ntmps233
 go_wp2_with (go_at_call 227;refine(nE _ _).mono ?_;rintro e w1 ⟨rfl,x1⟩)
 all_goals (try simp only [rJ,Exit.then])
 refine bodyPost_ret (v:=.float .f64 (Dd .quo a b)) ?_ rfl ⟨rfl,(KM _ _ _ _).trans x1⟩;rw [results_tmp (t:=4) kQ];simp [De]
end Go.Proofs.YtbpnemeooenpmaaGreat
namespace Go.Proofs.YtbpnemeooenpmaaGreat
open Go.Proofs.Tryz renaming prog → pg
open Go.aV
set_option maxRecDepth 100000
set_option maxHeartbeats 1000000
set_option linter.unusedVariables false
set_option linter.unusedSimpArgs false
attribute [local irreducible] un jn aC aS ld1 dY st1 dt cD kK dC lQ uJ sO fH e7 ae aB aK eW eV eU eC eF gE az fin aP aE aD vS xd gO gW ry uK sP xe xf xg gB gR rz uL sQ xh xi
def ior (a b:Int):Int:=IntKind.u64.wrap (BitVec.ofInt IntKind.u64.bits a|||BitVec.ofInt IntKind.u64.bits b).toNat
theorem ajp {P:Program} {X:XS} {w:World} {N:Value→Prop} {t:TypeId} {a b:Int} (h:N (.int .u64 (ior a b))):ae P X w (binOp .or t (.int .u64 a) (.int .u64 b)) N:=abA h
theorem ag9 {P:Program} {X:XS} {w:World} {N:Value→Prop} {a:Int} (h:N (.int .u64 (Ga IntKind.u64.max a))):ae P X w (Op.unary .xor (.int .u64 a)) N:=
 cf (fun wa=>by simp [Op.unary,Op.intBits,Ga,IntKind.signed]) h
def PU (x:Nat):Int:=if land (canon x) 9223372036854775808≠0 then Ga IntKind.u64.max (canon x)else ior (canon x) 9223372036854775808
theorem Zp (x:Nat):Pure pg 290 #[.float .f64 x] (.int .u64 (PU x)):=by
 intro w0;apply Xd;unfold LR;have hs:=aj.init w0;repeat' first|refine aJ ?_;intros|refine dM ?_ ?_<;>intros|((with_reducible refine ee (Bo _) ?_ hs.has ?_);(· kernel_rfl);intro w X ao;replace hs:=hs.trans ao)|(with_reducible refine eD hs ?_);(simp_all [PU])|with_reducible (first|apply abB|apply ajp|apply ag9)
def Up (x y:Nat):Int:=if PU x<PU y then-1 else if PU x>PU y then 1 else 0
theorem Ap (x y:Nat):Pure pg 229 #[.float .f64 x,.float .f64 y] (I (Up x y)):=by
 intro w0;apply PV;unfold EN;have hs:=aj.init w0;repeat' first|refine aJ ?_;intros|refine dM ?_ ?_<;>intros|((with_reducible refine ee (Zp _) ?_ hs.has ?_);(· kernel_rfl);intro w X ao;replace hs:=hs.trans ao)|(with_reducible refine eD hs ?_);(simp_all [Up]<;>omega)
def PW (a b:fS):Int:=
 if !a.may||!b.may then 0 else if a.kind<b.kind then-1 else if a.kind>b.kind then 1 else if a.kind=1 then Up a.num b.num else if uP a.text b.text then-1 else if a.text=b.text then 0 else 1
theorem Dg (a b:fS):Pure pg 168 #[a.v,b.v] (I (PW a b)):=by
 intro w0;apply MQ;unfold Cd;have hs:=aj.init w0;repeat' first|refine aJ ?_;intros|refine dM ?_ ?_<;>intros|with_reducible apply dx|((with_reducible refine dJ (kE _) ?_ hs.has ?_ ?_);(· kernel_rfl);all_goals (intro _ w X ao;replace hs:=hs.trans ao))|((with_reducible refine ee (Ap _ _) ?_ hs.has ?_);(· kernel_rfl);intro w X ao;replace hs:=hs.trans ao)|(with_reducible refine eD hs ?_);(simp_all [PW]<;>omega)
def Uq (a b:Nat):Nat:=if Up a b>0 then canon b else canon a
def Zq (a b:Nat):Nat:=if Up a b<0 then canon b else canon a
theorem Xe (a b:Nat):Pure pg 234 #[.float .f64 a,.float .f64 b] (.float .f64 (Uq a b)):=by
 intro w0;apply Ur;unfold IK;have hs:=aj.init w0;repeat' first|refine aJ ?_;intros|refine dM ?_ ?_<;>intros|((with_reducible refine ee (nE _) ?_ hs.has ?_);(· kernel_rfl);intro w X ao;replace hs:=hs.trans ao)|((with_reducible refine ee (Ap _ _) ?_ hs.has ?_);(· kernel_rfl);intro w X ao;replace hs:=hs.trans ao)|(with_reducible refine eD hs ?_);(simp_all [Uq]<;>omega)
theorem Zr (a b:Nat):Pure pg 235 #[.float .f64 a,.float .f64 b] (.float .f64 (Zq a b)):=by
 intro w0;apply Xf;unfold LS;have hs:=aj.init w0;repeat' first|refine aJ ?_;intros|refine dM ?_ ?_<;>intros|((with_reducible refine ee (nE _) ?_ hs.has ?_);(· kernel_rfl);intro w X ao;replace hs:=hs.trans ao)|((with_reducible refine ee (Ap _ _) ?_ hs.has ?_);(· kernel_rfl);intro w X ao;replace hs:=hs.trans ao)|(with_reducible refine eD hs ?_);(simp_all [Zq]<;>omega)
def Us (x:Nat):fS:=⟨1,canon x,⟨#[]⟩⟩
theorem EO (x:Nat):Pure pg 228 #[.float .f64 x] (Us x).v:=by
 intro w0;apply Oo;unfold Dh;have hs:=aj.init w0;repeat' first|refine aJ ?_;intros|((with_reducible refine ee (nE _) ?_ hs.has ?_);(· kernel_rfl);intro w X ao;replace hs:=hs.trans ao)|(with_reducible refine eD hs ?_);rfl
def Ut (b:Bool):fS:=if b then Us 4607182418800017408 else Us 0
theorem IL (b:Bool):Pure pg 167 #[B b] (Ut b).v:=by
 intro w0;cases b;all_goals
  apply SB;unfold Hs;have hs:=aj.init w0;repeat' first|refine aJ ?_;intros|((with_reducible refine ee (EO _) ?_ hs.has ?_);(· kernel_rfl);intro w X ao;replace hs:=hs.trans ao)|(with_reducible refine eD hs ?_);rfl
def Oq (v:fS):Bool:=if v.kind=1 then decide (cls v.num≠0∧cls v.num≠4∧cls v.num≠5)else if v.kind=2 then decide (v.text≠⟨#[]⟩)else false
theorem Uu (v:fS):Pure pg 104 #[v.v] (B (Oq v)):=by
 intro w0;apply SC;unfold Ht;have hs:=aj.init w0;repeat' first|refine aJ ?_;intros|refine dM ?_ ?_<;>intros|((with_reducible refine ee (D9 _) ?_ hs.has ?_);(· kernel_rfl);intro w X ao;replace hs:=hs.trans ao)|(with_reducible refine eD hs ?_);(simp_all [Oq])
abbrev tY (e:Int):List PanicEntry:=[{ v:=.iface 137 (.agg #[I e]),recovered:=false }]
def PX (c:Int) (a b:Nat):Nat:=if c=5 then Dd .add a b else if c=6 then Dd .sub a b else if c=7 then Dd .mul a b else if c=8 then Dd .quo a b else if c=9 then Uq a b else Zq a b
theorem SD {w:World} {X:XS} (c:Int) (a b:fS):RK pg 169 #[I c,a.v,b.v] w X nX (fun v _ _=> ¬(a.kind=2∨b.kind=2)∧v=(Us (PX c a.num b.num)).v) (fun ch _ _=>(a.kind=2∨b.kind=2)∧ch=tY 23):=by
 intro w0 hk;have hF:FX nX (aR w0) w0:=fun k af=>af.elim;have hT:=hF.ft (Kp.refl _ _);apply PY;unfold EP;have hs:=aj.init w0;by_cases h:a.kind=2∨b.kind=2
 ·repeat' first|refine bD ?_;intros|refine dM ?_ ?_<;>intros|with_reducible apply dx|(with_reducible refine Yn ?_ ?_);(· kernel_rfl)
  all_goals exact Yo hs.has fun wa hka=>(hT.since hs).gg hka ⟨h,rfl⟩
 ·repeat' first|refine bD ?_;intros|refine dM ?_ ?_<;>intros|with_reducible apply dx|((with_reducible refine ee (EO _) ?_ hs.has ?_);(· kernel_rfl);intro w X ao;replace hs:=hs.trans ao)|((with_reducible refine ee (abw _ _) ?_ hs.has ?_);(· kernel_rfl);intro w X ao;replace hs:=hs.trans ao)|((with_reducible refine ee (abx _ _) ?_ hs.has ?_);(· kernel_rfl);intro w X ao;replace hs:=hs.trans ao)|((with_reducible refine ee (aby _ _) ?_ hs.has ?_);(· kernel_rfl);intro w X ao;replace hs:=hs.trans ao)|((with_reducible refine ee (abz _ _) ?_ hs.has ?_);(· kernel_rfl);intro w X ao;replace hs:=hs.trans ao)|((with_reducible refine ee (Xe _ _) ?_ hs.has ?_);(· kernel_rfl);intro w X ao;replace hs:=hs.trans ao)|((with_reducible refine ee (Zr _ _) ?_ hs.has ?_);(· kernel_rfl);intro w X ao;replace hs:=hs.trans ao)|(refine(hT.since hs).ada fun wa bk=>⟨h,?_⟩;simp [PX, *];done)
theorem afO {X Y:XS} {w:World} {t e k lo:Nat} {v:Value} {z:Int} {i:Nat} {rows:List (List Value)} {N:Value→Prop} (h:Own w Y lo e k v rows) (hz:z=i) (hi:i≤rows.length) (ht:pg.underlying t=some (.slice (pg.elem t))) (hs:((pg.info? (pg.elem t)).map (·.size)).isSome=true)
  (n: ∀v',Own w Y lo e k v' (rows.take i)→N v'):ae pg X w (Instr.sliceAt t v none (some (.int .i64 z)) none) N:=by
 rcases h.row with⟨rfl,rfl⟩|⟨g,cap,cs,rfl,fp,bJ,xv,lD,AN,xw⟩
 ·have h0:i=0:=by simpa using hi
  subst h0;exact Oe hz (ba _) ht hs (n _ (Own.nil _ _ _ _ _))
 ·have hr: ∀r∈rows,r.length=k:=h.1;refine Oe hz zQ ht hs (n _ (Own.Uv (n:=i) bJ fp (fun r qp=>hr r (tq qp)) (by rw [bW];omega) zQ lD AN ?_));have h1:=congrArg (List.take (i*k)) xw;rw [List.take_take,Nat.min_eq_left (Nat.mul_le_mul_right k hi)] at h1;rw [h1];have aha:rows.flatten=(rows.take i).flatten++(rows.drop i).flatten:=by rw [←List.flatten_append,List.take_append_drop]
  have hl:((rows.take i).flatten).length=i*k:=by rw [qh (k:=k) fun r qp=>hr r (tq qp),bW,Nat.min_eq_left hi]
  rw [aha,List.take_append_of_le_length zQ,List.take_of_length_le zQ]
theorem KN {w:World} {X:XS} {lo e k:Nat} {v:Value} {rows:List (List Value)} (h:Own w X lo e k v rows) {g:Nat} (hg:v.ownBlock=some g): ∃cs:List Value,w.heap[g]? =some (.cells cs.toArray e (0,0)):=by
 rcases h.row with⟨rfl,_⟩|⟨b,cap,cs,rfl,_,hr,_⟩
 ·cases hg
 ·simp only [Value.ownBlock,ay] at hg;subst hg;exact⟨cs,hr.2⟩
theorem RL {κ α:Type} [DecidableEq κ] {w:World} {X Y A:XS} {lo e k b:Nat} {v:Value} {rows:List (List Value)} {kv:κ→Value} {rd:World→XS→Value→α→Prop} {l:List (κ×α)} (h:Own w X lo e k v rows) (hm:dR w Y A b kv rd l):v.ownBlock≠some b:=fun hg=>by
 obtain⟨cs,h1⟩:=KN h hg;obtain⟨es,c,h2,_⟩:=hm;rw [h2.2.1] at h1;cases h1
theorem kf {w:World} {X Y:XS} {lo e e' k g:Nat} {v:Value} {rows:List (List Value)} {cs:List Value} (h:Own w X lo e k v rows) (hr:a7 w Y g cs e') (he:decide (e≠e')=true):v.ownBlock≠some g:=fun hg=>by
 obtain⟨c,h1⟩:=KN h hg;rw [hr.2] at h1;simp only [ay,Obj.cells.injEq] at h1;exact of_decide_eq_true he h1.2.1.symm
def zw:World→XS→Value→fS→Prop:=fun _ _ v x=>v=x.v
theorem tr:mU zw:=fun _ _ _ _ _ _ h _=>h
abbrev runT:Nat:=141
abbrev ahb:Nat:=62
structure gq (w:World) (N:XS) (rb sb wb:Nat) (wJ:Value) (s:List fS) (wr:List (BA×fS)):Prop where
 row:a7 w N rb [wJ,.map (some sb),.map (some wb)] runT
 own:Own w N 0 ahb 3 wJ (s.reverse.map fS.l)
 map:dR w N nX wb bB zw wr
section
variable {w w' : World} {X X' N N' G : XS} {rb sb wb : Nat} {wJ ob : Value} {s s' : List fS} {wr kP : List (BA × fS)}
theorem gq.mv (h:gq w N rb sb wb wJ s wr) (v:Mv N w N' w'):gq w' N' rb sb wb wJ s wr:=⟨h.row.mv v,h.own.mv v,h.map.mv tr v fun _ h=>h.elim⟩
theorem gq.ne (h:gq w N rb sb wb wJ s wr):wb≠rb:=h.map.eA h.row
theorem gq.ns (h:gq w N rb sb wb wJ s wr):wJ.ownBlock≠some rb∧wJ.ownBlock≠some wb:=⟨kf h.own h.row kQ,RL h.own h.map⟩
theorem pa {κ α:Type} [DecidableEq κ] {w:World} {X Y A:XS} {b:Nat} {kv:κ→Value} {rd:World→XS→Value→α→Prop} {l:List (κ×α)} (h:dR w X A b kv rd l) (hb:Y b):dR w Y A b kv rd l:=by
 obtain⟨es,c,h1,h2⟩:=h;exact⟨es,c,⟨hb,h1.2⟩,h2⟩
theorem IM {v:fS} (h:gq w N rb sb wb wJ (v::s) wr) (hN:FX N X w):Ct pg 103 #[ptr rb 0] w X N fun x wa w'=>x=v.v∧ ∃ob,gq w' N rb sb wb ob s wr:=by
 intro w0 hk;have hT:=hN.ft hk;replace h:=h.mv (hN.mv hk);have Di:=hN.kp hk;have bJ:=h.row.mono fun k af=>(Di k af).1;have wD:=(h.own.mono fun k af=>(Di k af).1).sl;rw [qS] at wD;have hv:(s.reverse++[v])[s.reverse.length]? =some v:=by rw [List.getElem?_append_right (ba _)];simp
 have hlen:=wD.gy;simp only [List.length_append,oS,bu] at hlen;have LU:(s.reverse++[v]).length=s.length+1:=by simp
 have hl3:s.reverse.length=s.length:=by simp
 obtain⟨q1,q2,q3,rfl⟩:=wD.form;have hs:=aj.init w0;apply Ot;unfold Dl;repeat' first|refine aJ ?_;intros
 have ho:=h.own;rw [qS] at ho;refine afO (i:=s.length) ho zQ (by rw [aH];omega) kQ kQ fun v2 nW=>?_;rw [←List.map_take,List.take_left' hl3] at nW;obtain⟨t1,t2,t3,rfl⟩:=nW.sl.form;have ov2:aV.one (.slice t1 t2 t3)=true:=rfl;repeat' first|refine aJ ?_;intros
 refine qu (o:=0) bJ zQ kQ (by simp) rfl hT.s.has fun w1 X1 c1 akI=>?_;have dU:=hT.fM (F':=N) c1 (fun k af=>by subst af;exact h.row.1) fun k af=>.inl af;have du:=kf nW h.row kQ;have h1:gq w1 N rb sb wb (.slice t1 t2 t3) s wr:=⟨⟨h.row.1,akI.2⟩,tX nW fun g hg=>⟨nW.2.2 g hg,c1.block g (Di g (nW.2.2 g hg)).1 fun e=>du (by rw [←e];exact hg)⟩,
  (pa h.map (Y:=(· =wb)) rfl).mv tr (fun g hg _=>by subst hg;exact⟨h.map.x.1,c1.block _ (Di _ h.map.x.1).1 h.ne⟩) fun _ h=>h.elim⟩
 repeat' first|refine aJ ?_;intros
 exact dU.fin fun wa bk=>⟨rfl,_,h1.mv (bk.fi dU.bK)⟩
theorem Ou {v:fS} (h:gq w N rb sb wb wJ s wr) (hN:FX N X w) (hl:s.length≤2^30):Ct pg 101 #[ptr rb 0,v.v] w X N fun _ wa w'=> ∃N' ob,(∀k,N' k→N k∨made wa w' k)∧gq w' N' rb sb wb ob (v::s) wr:=by
 intro w0 hk;have hT:=hN.ft hk;replace h:=h.mv (hN.mv hk);have Di:=hN.kp hk;have bJ:=h.row.mono fun k af=>(Di k af).1;have amL:=h.own.sl.one;have hs:=aj.init w0;apply MR;unfold Ce;repeat' first|refine aJ ?_;intros|(with_reducible apply FY);(case hX=>exact hs.has);(case he=>kernel_rfl);(case hk=>rfl);intro acc w X ao ho;obtain⟨_,_,_,rfl⟩:=ho.sl.form;replace hs:=hs.trans ao
 have dU:=hT.since ao;have akJ:=ao.fZ fun k af=>(Di k af).1;have h1:=h.mv akJ;refine BH (bytes:=32) (h1.own.mono fun k af=>ao.sub k (Di k af).1) ao.has (Nat.zero_le _) kQ ho.sl (fun r hr u hu=>?_) (by simp only [bu,aH,oS];omega) (by simp only [bu,aH,oS];omega) fun v5 w5 X5 rU jU uB=>?_
 ·rw [List.mem_singleton] at hr;subst hr;simp only [List.mem_cons,List.not_mem_nil,or_false] at hu;rcases hu with rfl|rfl|rfl<;>rfl
 obtain⟨t1,t2,t3,rfl⟩:=jU.sl.form;have hns:=h1.ns;have Bp:a7 w5 X5 rb [wJ,.map (some sb),.map (some wb)] runT:=⟨rU.sub _ (ao.sub _ bJ.1),(rU.block rb (ao.sub _ bJ.1) fun e=>hns.1 e).trans h1.row.2⟩;have ahc: ∀k,k=wb→X k:=fun k e=>by subst e;exact ao.sub _ (Di _ h.map.x.1).1
 have ajq:dR w5 (· =wb) nX wb bB zw wr:=(pa h1.map (Y:=(· =wb)) rfl).mv tr (fun g hg _=>⟨hg,rU.block g (ahc g hg) fun e=>by subst hg;exact hns.2 e⟩) fun _ h=>h.elim;have ff:=dU.fM (F':=fun k=>N k∨(kO t1 t2 t3).ownBlock=some k) rU (fun k af=>h1.own.2.2 k af) fun k af=>by
  rcases af with af|af
  ·exact .inl af
  ·rcases uB with e|⟨g,e,dV⟩
   ·exact .inl (h1.own.2.2 k (by rw [←e];exact af))
   ·rw [e] at af;cases af;exact .inr ⟨jU.2.2 _ e,dV⟩
 clear hs ao ho;repeat' first|refine aJ ?_;intros
 refine qu (o:=0) Bp zQ kQ (by simp) rfl ff.s.has fun w6 X6 c6 IN=>?_;have MS:=kf jU Bp kQ;have eX:=ff.fM (F':=fun k=>N k∨(kO t1 t2 t3).ownBlock=some k) c6 (fun k af=>.inl (by subst af;exact h.row.1)) fun k af=>.inl af;have akK:Own w5 X5 0 ahb 3 (.slice t1 t2 t3) ((v::s).reverse.map fS.l):=by rw [qS,List.map_append];exact jU
 have h6:gq w6 (fun k=>N k∨(kO t1 t2 t3).ownBlock=some k) rb sb wb (.slice t1 t2 t3) (v::s) wr:=⟨⟨.inl h.row.1,IN.2⟩,tX akK fun g hg=>⟨.inr hg,c6.block g (jU.2.2 g hg) fun e=>MS (by rw [←e];exact hg)⟩,
  (pa ajq (Y:=(· =wb)) rfl).mv tr (fun g hg _=>by subst hg;exact⟨.inl h.map.x.1,c6.block _ (rU.sub _ (ahc _ rfl)) h1.ne⟩) fun _ h=>h.elim⟩
 skip
 exact eX.fin fun wa bk=>⟨_,_,eX.gU bk fun _ h=>h,h6.mv (bk.fi eX.bK)⟩
def sn (c:Int) (a b:fS):Except Int (List fS):=
 if c=11 then .ok [Ut (decide (PW a b<0))] else if c=12 then .ok [Ut (decide (PW a b=0))] else if c=15 then .ok [a,b]
 else if a.kind=2∨b.kind=2 then .error 23 else .ok [Us (PX c a.num b.num)]
theorem abC {c:Int} {a b:fS} (h:gq w N rb sb wb wJ (b::a::s) wr) (hN:FX N X w) (hl:s.length≤2^20):
  RK pg 105 #[ptr rb 0,I c] w X N (fun _ wa w'=> ∃l N' ob,sn c a b= .ok l∧(∀k,N' k→N k∨made wa w' k)∧gq w' N' rb sb wb ob (l++s) wr) (fun ch _ _=> ∃e,sn c a b= .error e∧ch=tY e):=by
 intro w0 hk;have hT:=hN.ft hk;replace h:=h.mv (hN.mv hk);have Di:=hN.kp hk;apply Ov;unfold Dm;refine hT.call (IM h Di) kQ (fun _ h=>h) fun v qJ w1 X1 hq sj oQ dU c1=>?_;obtain⟨rfl,adb,h1⟩:=hq;have hN1:FX N X1 w1:=fun k af=>⟨dU.bK k (.inl af),c1.has k (dU.bK k (.inl af))⟩;replace dU:=dU.less (F':=N) fun k af=>.inl af;have hs:=aj.ct c1.has;repeat' first|refine aJ ?_;intros
 refine dU.call (IM h1 hN1) kQ (fun _ h=>h) fun v zF w2 X2 hq qI nV cW c2=>?_;obtain⟨rfl,ahd,h2⟩:=hq;have hN2:FX N X2 w2:=fun k af=>⟨cW.bK k (.inl af),c2.has k (cW.bK k (.inl af))⟩;replace cW:=cW.less (F':=N) fun k af=>.inl af;clear hs h1 h;have hs:=aj.ct c2.has;have Bq: ∀{w3:World} {X3:XS} {N3:XS} {s3:List fS} {v:fS} {we:Value} {K:Value→World→XS→Prop},Ft w0 N w3 X3 N3→gq w3 N3 rb sb wb we s3 wr→s3.length≤2^30→
   (∀x w4 X4 N4 Gb,Ft w0 N w4 X4 N4→gq w4 N4 rb sb wb Gb (v::s3) wr→K x w4 X4)→eC pg (Gc N w0 (fun _ w'=> ∃l N' ob,sn c a b= .ok l∧(∀k,N' k→N k∨made w0 w' k)∧gq w' N' rb sb wb ob (l++s) wr) (fun ch _=> ∃e,sn c a b= .error e∧ch=tY e)) X3 w3 true 101 #[ptr rb 0,v.v] K:=fun q1 q2 q3 k=>by
  refine q1.call (Ou q2 (fun k af=>⟨q1.bK k af,q1.s.has k (q1.bK k af)⟩) q3) kQ (fun _ h=>h) fun v mu w4 X4 hq qg lI fm c4=>?_;obtain⟨N4,Gb,hN4,h4⟩:=hq;exact k _ _ _ _ _ (fm.less hN4) h4
 have oc: ∀{w3:World} {X3:XS} {N3:XS} {l:List fS} {we:Value} {x:Value},Ft w0 N w3 X3 N3→gq w3 N3 rb sb wb we (l++s) wr→sn c a b= .ok l→
   fin (Gc N w0 (fun _ w'=> ∃l N' ob,sn c a b= .ok l∧(∀k,N' k→N k∨made w0 w' k)∧gq w' N' rb sb wb ob (l++s) wr) (fun ch _=> ∃e,sn c a b= .error e∧ch=tY e)) X3 w3 x:=fun q1 q2 q3=>
  q1.ada fun wa bk=>⟨_,_,_,q3,q1.gU bk fun _ h=>h,q2.mv (bk.fi q1.bK)⟩
 by_cases e1:c=11
 ·repeat' first|refine bD ?_;intros|with_reducible apply dx
  refine ee (Dg a b) kQ hs.has fun w3 X3 ea=>?_;have dE:=cW.since ea;have h3:=h2.mv (ea.fZ fun k af=>(hN2 k af).1);replace hs:=hs.trans ea;by_cases hq:PW a b<0;all_goals
   repeat' first|refine bD ?_;intros
   refine ee (IL _) kQ hs.has fun w4 X4 fq=>?_;have fm:=dE.since fq;have h4:=h3.mv (fq.fZ fun k af=>ea.sub k (hN2 k af).1);refine Bq fm h4 zQ fun x w5 X5 N5 ade ff h5=>?_;have hz:=ff.s;clear hs;have hs:=aj.ct ff.s.has;repeat' first|(exact oc (l:=[_]) ff h5 (by unfold sn;simp [hq, *]))
 by_cases e2:c=12
 ·repeat' first|refine bD ?_;intros|with_reducible apply dx
  refine ee (Dg a b) kQ hs.has fun w3 X3 ea=>?_;have dE:=cW.since ea;have h3:=h2.mv (ea.fZ fun k af=>(hN2 k af).1);replace hs:=hs.trans ea;by_cases hq:PW a b=0;all_goals
   repeat' first|refine bD ?_;intros
   refine ee (IL _) kQ hs.has fun w4 X4 fq=>?_;have fm:=dE.since fq;have h4:=h3.mv (fq.fZ fun k af=>ea.sub k (hN2 k af).1);refine Bq fm h4 zQ fun x w5 X5 N5 ade ff h5=>?_;have hz:=ff.s;clear hs;have hs:=aj.ct ff.s.has;repeat' first|(exact oc (l:=[_]) ff h5 (by unfold sn;simp [hq, *]))
 by_cases e3:c=15
 ·repeat' first|refine bD ?_;intros|with_reducible apply dx
  refine Bq cW h2 zQ fun x w5 X5 N5 ade ff h5=>?_;clear hs;have hs:=aj.ct ff.s.has;repeat' first|refine aJ ?_;intros
  refine Bq ff h5 (by simp only [bh];omega) fun x w6 X6 N6 amM eX h6=>?_;clear hs;have hs:=aj.ct eX.s.has;repeat' first|(exact oc (l:=[_,_]) eX h6 (by unfold sn;rw [if_neg e1,if_neg e2,if_pos e3]))
 ·repeat' first|refine bD ?_;intros|with_reducible apply dx
  refine cW.Tr (SD c a b) kQ (fun _ h=>h.elim) (fun v uQ w3 X3 hq nZ mz dE c3=>?_) fun ch uQ w3 X3 hq nZ mz dE c3 wb mM=>dE.gg mM ⟨23,by unfold sn;rw [if_neg e1,if_neg e2,if_neg e3,if_pos hq.1],hq.2⟩;obtain⟨hnt,rfl⟩:=hq;have h3:=h2.mv (c3.fi fun k af=>⟨(hN2 k af).1,fun h=>h.elim⟩);replace dE:=dE.less (F':=N) fun k af=>.inl af;clear hs;have hs:=aj.ct dE.s.has
  skip
  refine Bq dE h3 zQ fun x w5 X5 N5 ade ff h5=>?_;clear hs;have hs:=aj.ct ff.s.has;repeat' first|(exact oc (l:=[_]) ff h5 (by unfold sn;rw [if_neg e1,if_neg e2,if_neg e3,if_neg hnt]))
end
abbrev rC:=List (BA×fS)
def qT (o:fw) (s:List fS) (wr:rC):Except Int (List fS×rC):=
 if o.code=2 then .ok (s.tail,dS o.key (s.headD .zero) wr)
 else if o.code=3 then .ok (s,dS o.key .zero wr)
 else if o.code=4 then .ok (o.val::s,wr)
 else if o.code=13 then(if Oq (s.headD .zero)then .ok (s.tail,wr)else .error 22)
 else if o.code=14 then .ok (s.headD .zero::s,wr)
 else match sn o.code (s.tail.headD .zero) (s.headD .zero)with
  | .ok l=>.ok (l++s.tail.tail,wr)
  | .error e=>.error e
section
variable {w w' : World} {X X' N N' G : XS} {rb sb wb : Nat} {wJ ob : Value} {s s' : List fS} {wr kP : rC}
theorem gq.put (h:gq w N rb sb wb wJ s wr) (hX: ∀k,N k→X k) (c:ez (· =wb) X w X' w') (hm:dR w' X' nX wb bB zw kP):gq w' N rb sb wb wJ s kP:=
 ⟨⟨h.row.1,(c.block _ (hX _ h.row.1) fun e=>h.ne e.symm).trans h.row.2⟩,tX h.own fun g hg=>⟨h.own.2.2 g hg,c.block g (hX _ (h.own.2.2 g hg)) fun e=>h.ns.2 (by rw [←e];exact hg)⟩,pa hm h.map.x.1⟩
theorem ajr {a b c:Value} {o':Nat} {C:Value→Prop} (h:a7 w X rb [a,b,c] runT) (ho:o'=0+2) (n:C c):ae pg X w (ld1 133 (ptr rb o')) C:=by
 have hc:Cells w X rb (0+2) [c]:=h.cells.Ts (fo:=2) rfl;rw [ho];exact Zs hc (Mv.refl _ _) kQ rfl n
theorem adf {o:fw} (h:gq w N rb sb wb wJ s wr) (hN:FX N X w) (hl:s.length≤2^20) (hg:o.code≠1) (hc:1≤o.code∧o.code≤15) (ht:sk o.code≤s.length):
  RK pg 46 #[ptr rb 0,.agg o.l.toArray] w X N (fun _ wa w'=> ∃s' kP N' ob,qT o s wr= .ok (s',kP)∧(∀k,N' k→N k∨made wa w' k)∧gq w' N' rb sb wb ob s' kP) (fun ch _ _=> ∃e,qT o s wr= .error e∧ch=tY e):=by
 intro w0 hk;have hT:=hN.ft hk;replace h:=h.mv (hN.mv hk);have Di:=hN.kp hk;have bJ:=h.row.mono fun k af=>(Di k af).1;have Bq: ∀{w3:World} {X3:XS} {N3:XS} {s3:List fS} {RM:rC} {v:fS} {we:Value} {K:Value→World→XS→Prop},Ft w0 N w3 X3 N3→gq w3 N3 rb sb wb we s3 RM→s3.length≤2^30→
   (∀x w4 X4 N4 Gb,Ft w0 N w4 X4 N4→gq w4 N4 rb sb wb Gb (v::s3) RM→K x w4 X4)→eC pg (Gc N w0 (fun _ w'=> ∃s' kP N' ob,qT o s wr= .ok (s',kP)∧(∀k,N' k→N k∨made w0 w' k)∧gq w' N' rb sb wb ob s' kP) (fun ch _=> ∃e,qT o s wr= .error e∧ch=tY e)) X3 w3 true 101 #[ptr rb 0,v.v] K:=fun q1 q2 q3 k=>by
  refine q1.call (Ou q2 (fun k af=>⟨q1.bK k af,q1.s.has k (q1.bK k af)⟩) q3) kQ (fun _ h=>h) fun v mu w4 X4 hq qg lI fm c4=>?_;obtain⟨N4,Gb,hN4,h4⟩:=hq;exact k _ _ _ _ _ (fm.less hN4) h4
 have adg: ∀{w3:World} {X3:XS} {N3:XS} {s3:List fS} {RM:rC} {v:fS} {we:Value} {K:Value→World→XS→Prop},Ft w0 N w3 X3 N3→gq w3 N3 rb sb wb we (v::s3) RM→
   (∀w4 X4 Gb,Ft w0 N w4 X4 N3→gq w4 N3 rb sb wb Gb s3 RM→a7 w4 X4 rb [Gb,.map (some sb),.map (some wb)] runT→K v.v w4 X4)→eC pg (Gc N w0 (fun _ w'=> ∃s' kP N' ob,qT o s wr= .ok (s',kP)∧(∀k,N' k→N k∨made w0 w' k)∧gq w' N' rb sb wb ob s' kP) (fun ch _=> ∃e,qT o s wr= .error e∧ch=tY e)) X3 w3 true 103 #[ptr rb 0] K:=fun q1 q2 k=>by
  refine q1.call (IM q2 (fun k af=>⟨q1.bK k af,q1.s.has k (q1.bK k af)⟩)) kQ (fun _ h=>h) fun v mu w4 X4 hq qg lI fm c4=>?_;obtain⟨rfl,Gb,h4⟩:=hq;have np:=fm.less (F':=_) fun k af=>.inl af;exact k _ _ _ np h4 (h4.row.mono fun k af=>np.bK k af)
 have Ue: ∀{w3:World} {X3:XS} {N3:XS} {s3:List fS} {v:fS} {we:Value} {K:Value→World→XS→Prop},Ft w0 N w3 X3 N3→gq w3 N3 rb sb wb we s3 wr→
   (∀w4 X4,Ft w0 N w4 X4 N3→gq w4 N3 rb sb wb we s3 (dS o.key v wr)→K undef w4 X4)→eU pg (Gc N w0 (fun _ w'=> ∃s' kP N' ob,qT o s wr= .ok (s',kP)∧(∀k,N' k→N k∨made w0 w' k)∧gq w' N' rb sb wb ob s' kP) (fun ch _=> ∃e,qT o s wr= .error e∧ch=tY e)) X3 w3 true (Instr.mapUpdate 133 (.map (some wb)) (.string o.key) v.v) K:=fun {w3} {X3} {N3} {s3} {v} {we} {K} q1 q2 k=>by
  refine te (kv:=bB) (k:=o.key) (a:=v) (kt:=9) (et:=62) (q2.mv (Mv.sub q1.bK)).map tr rfl (fun _ h=>h.elim) zd kQ q1.s.has fun w4 X4 c4 EM=>?_;exact k _ _ (q1.fM (F':=N3) c4 (fun k af=>by subst af;exact q2.map.x.1) fun k af=>.inl af) (q2.put q1.bK c4 EM)
 have oc: ∀{w3:World} {X3:XS} {N3:XS} {s3:List fS} {RM:rC} {we:Value} {x:Value},Ft w0 N w3 X3 N3→gq w3 N3 rb sb wb we s3 RM→qT o s wr= .ok (s3,RM)→
   fin (Gc N w0 (fun _ w'=> ∃s' kP N' ob,qT o s wr= .ok (s',kP)∧(∀k,N' k→N k∨made w0 w' k)∧gq w' N' rb sb wb ob s' kP) (fun ch _=> ∃e,qT o s wr= .error e∧ch=tY e)) X3 w3 x:=fun q1 q2 q3=>
  q1.ada fun wa bk=>⟨_,_,_,_,q3,q1.gU bk fun _ h=>h,q2.mv (bk.fi q1.bK)⟩
 have hs:=aj.init w0;have h1:sk o.code=if o.code=3∨o.code=4 then 0 else if o.code=2∨o.code=13∨o.code=14 then 1 else 2:=by
  unfold sk;rw [if_neg zQ];by_cases q:o.code=3∨o.code=4
  ·rw [if_pos zQ,if_pos q]
  ·rw [if_neg zQ,if_neg q]
 by_cases e2:o.code=2
 ·rw [if_neg zQ,if_pos zQ] at h1;cases s with
  |nil=>simp at ht;omega
  |cons v s=>
   apply nL;unfold l8;repeat' first|refine bD ?_;intros|with_reducible apply dx|(refine adg hT h fun w1 X1 adb dU h1 ml=>?_)|(refine And.intro ?_ ?_)|(refine Ue (by assumption) (by assumption) fun w2 X2 cW h2=>?_)|(exact oc (by assumption) (by assumption) (by unfold qT;rw [if_pos e2];rfl))|(refine ajr (by assumption) (by assumption) ?_)
 by_cases e3:o.code=3
 ·apply nL;unfold l8;repeat' first|refine bD ?_;intros|with_reducible apply dx|(refine Ue (v:=.zero) hT h fun w2 X2 cW h2=>?_)|(exact oc (by assumption) (by assumption) (by unfold qT;rw [if_neg e2,if_pos e3]))
 by_cases e4:o.code=4
 ·apply nL;unfold l8;repeat' first|refine bD ?_;intros|with_reducible apply dx|(refine Bq (v:=o.val) hT h zQ fun x w2 X2 N2 ahd cW h2=>?_)|(exact oc (by assumption) (by assumption) (by unfold qT;rw [if_neg e2,if_neg e3,if_pos e4]))
 by_cases e13:o.code=13
 ·rw [if_neg zQ,if_pos zQ] at h1;cases s with
  |nil=>simp at ht;omega
  |cons v s=>
   apply nL;unfold l8;repeat' first|refine bD ?_;intros|with_reducible apply dx|(refine adg hT h fun w1 X1 adb dU h1 ml=>?_)
   refine ee (Uu v) kQ dU.s.has fun w2 X2 bU=>?_;have cW:=dU.since bU;have h2:=h1.mv (bU.fZ fun k af=>dU.bK k af);by_cases hh:Oq v=true
   ·rw [hh];repeat' first|refine aJ ?_;intros|(exact oc cW h2 (by unfold qT;rw [if_neg e2,if_neg e3,if_neg e4,if_pos e13];simp only [List.headD_cons,hh,if_true,List.tail_cons]))
   ·rw [Bool.eq_false_iff.2 hh];repeat' first|refine aJ ?_;intros|(with_reducible refine Yn ?_ ?_);(· kernel_rfl)
    exact Yo cW.s.has fun wa hka=>cW.gg hka ⟨22,by unfold qT;rw [if_neg e2,if_neg e3,if_neg e4,if_pos e13];exact if_neg hh,rfl⟩
 by_cases e14:o.code=14
 ·rw [if_neg zQ,if_pos zQ] at h1;cases s with
  |nil=>simp at ht;omega
  |cons v s=>
   apply nL;unfold l8;repeat' first|refine bD ?_;intros|with_reducible apply dx|(refine adg hT h fun w1 X1 adb dU h1 ml=>?_)
   refine Bq (v:=v) dU h1 (by simp only [bh] at hl;omega) fun x w2 X2 N2 ahd cW h2=>?_;repeat' first|refine aJ ?_;intros
   refine Bq (v:=v) cW h2 (by simp only [bh] at hl⊢;omega) fun x w3 X3 N3 we dE h3=>?_;repeat' first|(exact oc (by assumption) (by assumption) (by unfold qT;rw [if_neg e2,if_neg e3,if_neg e4,if_neg e13,if_pos e14];rfl))
 ·rw [if_neg zQ,if_neg zQ] at h1;obtain⟨b,a,s,rfl⟩: ∃b a s',s=b::a::s':=by
   match s,ht with
   |[],ht=>simp at ht;omega
   |[_],ht=>simp at ht;omega
   |b::a::s,_=>exact⟨b,a,s,rfl⟩
  have hd:qT o (b::a::s) wr=match sn o.code a b with| .ok l=>.ok (l++s,wr)| .error e=>.error e:=by
   unfold qT;rw [if_neg e2,if_neg e3,if_neg e4,if_neg e13,if_neg e14];rfl
  apply nL;unfold l8;repeat' first|refine bD ?_;intros|with_reducible apply dx
  refine hT.Tr (abC h Di (by simp only [bh] at hl;omega)) kQ (fun _ h=>h) (fun v uQ w3 X3 hq nZ mz dE c3=>?_) fun ch uQ w3 X3 hq nZ mz dE c3 wb mM=>?_
  ·obtain⟨l,N3,we,hl3,hN3,h3⟩:=hq;repeat' first|(exact oc (dE.less hN3) h3 (by rw [hd,hl3]))
  ·obtain⟨e,he,hch⟩:=hq;exact dE.gg mM ⟨e,by rw [hd,he],hch⟩
end
end Go.Proofs.YtbpnemeooenpmaaGreat
