/-
 Part 14 of the proof: what the last text leans on.
-/
import Derived.WalkKit
import Derived.Test.YtbpnemeooenpmaaGreatH13
open Nat renaming le_refl → bg
open Go.Exit renaming inBlock → rK
open Go.Value renaming string → bB, slice → kS
open List renaming length_cons → ba, reverse_cons → qW, length_reverse → oT, length_singleton → bz, length_map → aI, mem_of_mem_take → tr, length_take → bU
open Option.some renaming injEq → az
set_option linter.unusedVariables false
set_option linter.unusedSimpArgs false
namespace Go.Proofs.YtbpnemeooenpmaaGreat
open Go.Proofs.Tryz renaming prog → pg
open Go.aR Go.RowKit Go.Sort Ieee
set_option maxRecDepth 100000
set_option maxHeartbeats 1000000
def Gb (t:Nat):Nat:=(t % 2)*2^63+9218868437227405312+1+(t/2) % (2^52-1)
def RR (op:BinOp) (x y:Nat) (w:World):Nat:=match floatBits op .f64 x y with|some r=>r|none=>Gb (w.tape w.drawn (.nanBits .f64 x y))
def RS (op:BinOp) (x y:Nat) (w:World):World:=match floatBits op .f64 x y with|some _=>w|none=> { w with drawn:=w.drawn+1 }
def De (op:BinOp) (x y:Nat):Nat:=match floatBits op .f64 x y with|some r=>canon r|none=>9221120237041090560
theorem afW (f:Format) (n:Nat) (h:f.infRung<n % f.signWeight) (h2:f.binade≤f.infRung): ∃s q,f.read n= .nan s q:=by
 unfold Format.read;refine⟨n/f.signWeight % 2==1,n % f.signWeight-f.infRung,?_⟩;simp only;rw [if_neg zQ,if_neg zQ,if_neg zQ]
theorem adk (t:Nat): ∃s q,(FloatKind.f64.format).read (Gb t)= .nan s q:=by
 have e1:FloatKind.f64.format.signWeight=9223372036854775808:=by decide
 have e2:FloatKind.f64.format.binade=4503599627370496:=by decide
 have e3:FloatKind.f64.format.infRung=9218868437227405312:=by decide
 refine afW _ _ ?_ ?_
 ·have e:Gb t=9223372036854775808*(t % 2)+(9218868437227405312+1+t/2 % 4503599627370495):=by
   show t % 2*9223372036854775808+9218868437227405312+1+t/2 % 4503599627370495=_
   omega
  rw [e1,e3,e,Nat.mul_add_mod,Nat.mod_eq_of_lt zQ];omega
 ·rw [e2,e3];omega
theorem abH (t:Nat):canon (Gb t)=9221120237041090560:=by
 have h:jK (Gb t) (Gb t)=false:=by
  obtain⟨s,q,e⟩:=adk t;unfold jK Format.order;rw [e];rfl
 unfold canon;rw [h];rfl
theorem Df (op:BinOp) (x y:Nat) (w:World):canon (RR op x y w)=De op x y:=by
 unfold RR De;split
 ·rfl
 ·exact abH _
theorem KS (op:BinOp) (x y:Nat) (w:World):Ext w (RS op x y w):=by
 unfold RS;split
 ·exact⟨rfl,rfl,rfl,bg _,fun _ _ _=>rfl⟩
 ·exact⟨rfl,rfl,rfl,bg _,fun _ _ _=>rfl⟩
theorem Dg {P:Program} {t:TypeId} {w:World} (op:BinOp) (h:op= .add∨op= .sub∨op= .mul∨op= .quo) (x y:Nat):(binOp op t (.float .f64 x) (.float .f64 y)).run P w= .ok (.float .f64 (RR op x y w)) (RS op x y w):=by
 unfold RR RS;cases hf:floatBits op .f64 x y with
 |some r=>exact run_float_arith w op t .f64 x y r hf
 |none=>
  unfold floatBits at hf;rcases h with rfl|rfl|rfl|rfl<;>simp only at hf<;>simp [binOp,Op.floatArith,hf,choose,Sem.run,Question.forced,Question.cut,Gb]
@[go_sem] theorem akF {P:Program} {t:TypeId} {w:World} (x y:Nat):(binOp .add t (.float .f64 x) (.float .f64 y)).run P w= .ok (.float .f64 (RR .add x y w)) (RS .add x y w):=Dg _ (by simp) x y
@[go_sem] theorem akG {P:Program} {t:TypeId} {w:World} (x y:Nat):(binOp .sub t (.float .f64 x) (.float .f64 y)).run P w= .ok (.float .f64 (RR .sub x y w)) (RS .sub x y w):=Dg _ (by simp) x y
@[go_sem] theorem akH {P:Program} {t:TypeId} {w:World} (x y:Nat):(binOp .mul t (.float .f64 x) (.float .f64 y)).run P w= .ok (.float .f64 (RR .mul x y w)) (RS .mul x y w):=Dg _ (by simp) x y
@[go_sem] theorem akI {P:Program} {t:TypeId} {w:World} (x y:Nat):(binOp .quo t (.float .f64 x) (.float .f64 y)).run P w= .ok (.float .f64 (RR .quo x y w)) (RS .quo x y w):=Dg _ (by simp) x y
theorem abI (a b:Nat):Pure pg 230 #[.float .f64 a,.float .f64 b] (.float .f64 (De .add a b)):=by
 intro W
 go_enter Tryz.func230,Tryz.ntmps230
 go_wp2_with (go_at_call 227;refine(nG _ _).mono ?_;rintro e w1 ⟨rfl,x1⟩)
 all_goals (try simp only [rK,Exit.then])
 refine bodyPost_ret (v:=.float .f64 (De .add a b)) ?_ rfl ⟨rfl,(KS _ _ _ _).trans x1⟩;rw [results_tmp (t:=4) kQ];simp [Df]
theorem abJ (a b:Nat):Pure pg 231 #[.float .f64 a,.float .f64 b] (.float .f64 (De .sub a b)):=by
 intro W
 go_enter Tryz.func231,Tryz.ntmps231
 go_wp2_with (go_at_call 227;refine(nG _ _).mono ?_;rintro e w1 ⟨rfl,x1⟩)
 all_goals (try simp only [rK,Exit.then])
 refine bodyPost_ret (v:=.float .f64 (De .sub a b)) ?_ rfl ⟨rfl,(KS _ _ _ _).trans x1⟩;rw [results_tmp (t:=4) kQ];simp [Df]
theorem abK (a b:Nat):Pure pg 232 #[.float .f64 a,.float .f64 b] (.float .f64 (De .mul a b)):=by
 intro W
 go_enter Tryz.func232,Tryz.ntmps232
 go_wp2_with (go_at_call 227;refine(nG _ _).mono ?_;rintro e w1 ⟨rfl,x1⟩)
 all_goals (try simp only [rK,Exit.then])
 refine bodyPost_ret (v:=.float .f64 (De .mul a b)) ?_ rfl ⟨rfl,(KS _ _ _ _).trans x1⟩;rw [results_tmp (t:=4) kQ];simp [Df]
theorem abL (a b:Nat):Pure pg 233 #[.float .f64 a,.float .f64 b] (.float .f64 (De .quo a b)):=by
 intro W
 go_enter Tryz.func233,Tryz.ntmps233
 go_wp2_with (go_at_call 227;refine(nG _ _).mono ?_;rintro e w1 ⟨rfl,x1⟩)
 all_goals (try simp only [rK,Exit.then])
 refine bodyPost_ret (v:=.float .f64 (De .quo a b)) ?_ rfl ⟨rfl,(KS _ _ _ _).trans x1⟩;rw [results_tmp (t:=4) kQ];simp [Df]
end Go.Proofs.YtbpnemeooenpmaaGreat
namespace Go.Proofs.YtbpnemeooenpmaaGreat
open Go.Proofs.Tryz renaming prog → pg
open Go.aR
set_option maxRecDepth 100000
set_option maxHeartbeats 1000000
set_option linter.unusedVariables false
set_option linter.unusedSimpArgs false
attribute [local irreducible] un jn aB aS ld1 dY st1 dr cB kN dw lR uK sP fC e6 ae aC aJ eW eV eU eC eF gE ay fin aQ aF aE vS xh gG gS qK uL sQ xi xj xk gz gP qL uM sR xl xm
def ior (a b:Int):Int:=IntKind.u64.wrap (BitVec.ofInt IntKind.u64.bits a|||BitVec.ofInt IntKind.u64.bits b).toNat
theorem ajs {P:Program} {X:XS} {w:World} {N:Value→Prop} {t:TypeId} {a b:Int} (h:N (.int .u64 (ior a b))):ae P X w (binOp .or t (.int .u64 a) (.int .u64 b)) N:=abM h
theorem ahe {P:Program} {X:XS} {w:World} {N:Value→Prop} {a:Int} (h:N (.int .u64 (Gc IntKind.u64.max a))):ae P X w (Op.unary .xor (.int .u64 a)) N:=
 cd (fun wa=>by simp [Op.unary,Op.intBits,Gc,IntKind.signed]) h
def P1 (x:Nat):Int:=if land (canon x) 9223372036854775808≠0 then Gc IntKind.u64.max (canon x)else ior (canon x) 9223372036854775808
theorem Zx (x:Nat):Pure pg 290 #[.float .f64 x] (.int .u64 (P1 x)):=by
 intro w0;apply Xl;unfold LX;have hs:=ak.init w0;repeat' first|refine aL ?_;intros|refine dM ?_ ?_<;>intros|((with_reducible refine ee (Bp _) ?_ hs.has ?_);(· kernel_rfl);intro w X au;replace hs:=hs.trans au)|(with_reducible refine eD hs ?_);(simp_all [P1])|with_reducible (first|apply abN|apply ajs|apply ahe)
def Uy (x y:Nat):Int:=if P1 x<P1 y then-1 else if P1 x>P1 y then 1 else 0
theorem Aq (x y:Nat):Pure pg 229 #[.float .f64 x,.float .f64 y] (I (Uy x y)):=by
 intro w0;apply P2;unfold EP;have hs:=ak.init w0;repeat' first|refine aL ?_;intros|refine dM ?_ ?_<;>intros|((with_reducible refine ee (Zx _) ?_ hs.has ?_);(· kernel_rfl);intro w X au;replace hs:=hs.trans au)|(with_reducible refine eD hs ?_);(simp_all [Uy]<;>omega)
def P3 (a b:fR):Int:=
 if !a.may||!b.may then 0 else if a.kind<b.kind then-1 else if a.kind>b.kind then 1 else if a.kind=1 then Uy a.num b.num else if uQ a.text b.text then-1 else if a.text=b.text then 0 else 1
theorem Dh (a b:fR):Pure pg 168 #[a.v,b.v] (I (P3 a b)):=by
 intro w0;apply MV;unfold Cd;have hs:=ak.init w0;repeat' first|refine aL ?_;intros|refine dM ?_ ?_<;>intros|with_reducible apply dy|((with_reducible refine dJ (kH _) ?_ hs.has ?_ ?_);(· kernel_rfl);all_goals (intro _ w X au;replace hs:=hs.trans au))|((with_reducible refine ee (Aq _ _) ?_ hs.has ?_);(· kernel_rfl);intro w X au;replace hs:=hs.trans au)|(with_reducible refine eD hs ?_);(simp_all [P3]<;>omega)
def Uz (a b:Nat):Nat:=if Uy a b>0 then canon b else canon a
def Zy (a b:Nat):Nat:=if Uy a b<0 then canon b else canon a
theorem Xm (a b:Nat):Pure pg 234 #[.float .f64 a,.float .f64 b] (.float .f64 (Uz a b)):=by
 intro w0;apply UA;unfold IQ;have hs:=ak.init w0;repeat' first|refine aL ?_;intros|refine dM ?_ ?_<;>intros|((with_reducible refine ee (nG _) ?_ hs.has ?_);(· kernel_rfl);intro w X au;replace hs:=hs.trans au)|((with_reducible refine ee (Aq _ _) ?_ hs.has ?_);(· kernel_rfl);intro w X au;replace hs:=hs.trans au)|(with_reducible refine eD hs ?_);(simp_all [Uz]<;>omega)
theorem Zz (a b:Nat):Pure pg 235 #[.float .f64 a,.float .f64 b] (.float .f64 (Zy a b)):=by
 intro w0;apply Xn;unfold LY;have hs:=ak.init w0;repeat' first|refine aL ?_;intros|refine dM ?_ ?_<;>intros|((with_reducible refine ee (nG _) ?_ hs.has ?_);(· kernel_rfl);intro w X au;replace hs:=hs.trans au)|((with_reducible refine ee (Aq _ _) ?_ hs.has ?_);(· kernel_rfl);intro w X au;replace hs:=hs.trans au)|(with_reducible refine eD hs ?_);(simp_all [Zy]<;>omega)
def UB (x:Nat):fR:=⟨1,canon x,⟨#[]⟩⟩
theorem ER (x:Nat):Pure pg 228 #[.float .f64 x] (UB x).v:=by
 intro w0;apply Oy;unfold Di;have hs:=ak.init w0;repeat' first|refine aL ?_;intros|((with_reducible refine ee (nG _) ?_ hs.has ?_);(· kernel_rfl);intro w X au;replace hs:=hs.trans au)|(with_reducible refine eD hs ?_);rfl
def UC (b:Bool):fR:=if b then UB 4607182418800017408 else UB 0
theorem IS (b:Bool):Pure pg 167 #[B b] (UC b).v:=by
 intro w0;cases b;all_goals
  apply SH;unfold Hu;have hs:=ak.init w0;repeat' first|refine aL ?_;intros|((with_reducible refine ee (ER _) ?_ hs.has ?_);(· kernel_rfl);intro w X au;replace hs:=hs.trans au)|(with_reducible refine eD hs ?_);rfl
def Oz (v:fR):Bool:=if v.kind=1 then decide (cls v.num≠0∧cls v.num≠4∧cls v.num≠5)else if v.kind=2 then decide (v.text≠⟨#[]⟩)else false
theorem UD (v:fR):Pure pg 104 #[v.v] (B (Oz v)):=by
 intro w0;apply SI;unfold Hv;have hs:=ak.init w0;repeat' first|refine aL ?_;intros|refine dM ?_ ?_<;>intros|((with_reducible refine ee (Eb _) ?_ hs.has ?_);(· kernel_rfl);intro w X au;replace hs:=hs.trans au)|(with_reducible refine eD hs ?_);(simp_all [Oz])
abbrev tZ (e:Int):List PanicEntry:=[{ v:=.iface 137 (.agg #[I e]),recovered:=false }]
def P4 (c:Int) (a b:Nat):Nat:=if c=5 then De .add a b else if c=6 then De .sub a b else if c=7 then De .mul a b else if c=8 then De .quo a b else if c=9 then Uz a b else Zy a b
theorem SJ {w:World} {X:XS} (c:Int) (a b:fR):RU pg 169 #[I c,a.v,b.v] w X nX (fun v _ _=> ¬(a.kind=2∨b.kind=2)∧v=(UB (P4 c a.num b.num)).v) (fun ch _ _=>(a.kind=2∨b.kind=2)∧ch=tZ 23):=by
 intro w0 hk;have hF:FX nX (aV w0) w0:=fun k af=>af.elim;have hT:=hF.ft (Kp.refl _ _);apply P5;unfold ES;have hs:=ak.init w0;by_cases h:a.kind=2∨b.kind=2
 ·repeat' first|refine bD ?_;intros|refine dM ?_ ?_<;>intros|with_reducible apply dy|(with_reducible refine Yw ?_ ?_);(· kernel_rfl)
  all_goals exact Yy hs.has fun wa hka=>(hT.since hs).gg hka ⟨h,rfl⟩
 ·repeat' first|refine bD ?_;intros|refine dM ?_ ?_<;>intros|with_reducible apply dy|((with_reducible refine ee (ER _) ?_ hs.has ?_);(· kernel_rfl);intro w X au;replace hs:=hs.trans au)|((with_reducible refine ee (abI _ _) ?_ hs.has ?_);(· kernel_rfl);intro w X au;replace hs:=hs.trans au)|((with_reducible refine ee (abJ _ _) ?_ hs.has ?_);(· kernel_rfl);intro w X au;replace hs:=hs.trans au)|((with_reducible refine ee (abK _ _) ?_ hs.has ?_);(· kernel_rfl);intro w X au;replace hs:=hs.trans au)|((with_reducible refine ee (abL _ _) ?_ hs.has ?_);(· kernel_rfl);intro w X au;replace hs:=hs.trans au)|((with_reducible refine ee (Xm _ _) ?_ hs.has ?_);(· kernel_rfl);intro w X au;replace hs:=hs.trans au)|((with_reducible refine ee (Zz _ _) ?_ hs.has ?_);(· kernel_rfl);intro w X au;replace hs:=hs.trans au)|(refine(hT.since hs).adl fun wa bk=>⟨h,?_⟩;simp [P4, *];done)
theorem afX {X Y:XS} {w:World} {t e k lo:Nat} {v:Value} {z:Int} {i:Nat} {rows:List (List Value)} {N:Value→Prop} (h:Own w Y lo e k v rows) (hz:z=i) (hi:i≤rows.length) (ht:pg.underlying t=some (.slice (pg.elem t))) (hs:((pg.info? (pg.elem t)).map (·.size)).isSome=true)
  (n: ∀v',Own w Y lo e k v' (rows.take i)→N v'):ae pg X w (Instr.sliceAt t v none (some (.int .i64 z)) none) N:=by
 rcases h.row with⟨rfl,rfl⟩|⟨g,cap,cs,rfl,fp,bJ,xx,lG,AO,tt⟩
 ·have h0:i=0:=by simpa using hi
  subst h0;exact Ol hz (bg _) ht hs (n _ (Own.nil _ _ _ _ _))
 ·have hr: ∀r∈rows,r.length=k:=h.1;refine Ol hz zQ ht hs (n _ (Own.UE (n:=i) bJ fp (fun r qq=>hr r (tr qq)) (by rw [bU];omega) zQ lG AO ?_));have h1:=congrArg (List.take (i*k)) tt;rw [List.take_take,Nat.min_eq_left (Nat.mul_le_mul_right k hi)] at h1;rw [h1];have ahf:rows.flatten=(rows.take i).flatten++(rows.drop i).flatten:=by rw [←List.flatten_append,List.take_append_drop]
  have hl:((rows.take i).flatten).length=i*k:=by rw [qi (k:=k) fun r qq=>hr r (tr qq),bU,Nat.min_eq_left hi]
  rw [ahf,List.take_append_of_le_length zQ,List.take_of_length_le zQ]
theorem KT {w:World} {X:XS} {lo e k:Nat} {v:Value} {rows:List (List Value)} (h:Own w X lo e k v rows) {g:Nat} (hg:v.ownBlock=some g): ∃cs:List Value,w.heap[g]? =some (.cells cs.toArray e (0,0)):=by
 rcases h.row with⟨rfl,_⟩|⟨b,cap,cs,rfl,_,hr,_⟩
 ·cases hg
 ·simp only [Value.ownBlock,az] at hg;subst hg;exact⟨cs,hr.2⟩
theorem RV {κ α:Type} [DecidableEq κ] {w:World} {X Y A:XS} {lo e k b:Nat} {v:Value} {rows:List (List Value)} {kv:κ→Value} {rd:World→XS→Value→α→Prop} {l:List (κ×α)} (h:Own w X lo e k v rows) (hm:dS w Y A b kv rd l):v.ownBlock≠some b:=fun hg=>by
 obtain⟨cs,h1⟩:=KT h hg;obtain⟨es,c,h2,_⟩:=hm;rw [h2.2.1] at h1;cases h1
theorem kj {w:World} {X Y:XS} {lo e e' k g:Nat} {v:Value} {rows:List (List Value)} {cs:List Value} (h:Own w X lo e k v rows) (hr:a7 w Y g cs e') (he:decide (e≠e')=true):v.ownBlock≠some g:=fun hg=>by
 obtain⟨c,h1⟩:=KT h hg;rw [hr.2] at h1;simp only [az,Obj.cells.injEq] at h1;exact of_decide_eq_true he h1.2.1.symm
def zy:World→XS→Value→fR→Prop:=fun _ _ v x=>v=x.v
theorem tu:mV zy:=fun _ _ _ _ _ _ h _=>h
abbrev runT:Nat:=141
abbrev ahg:Nat:=62
structure gq (w:World) (N:XS) (rb sb wb:Nat) (wK:Value) (s:List fR) (wr:List (BA×fR)):Prop where
 row:a7 w N rb [wK,.map (some sb),.map (some wb)] runT
 own:Own w N 0 ahg 3 wK (s.reverse.map fR.l)
 map:dS w N nX wb bB zy wr
section
variable {w w' : World} {X X' N N' G : XS} {rb sb wb : Nat} {wK oc : Value} {s s' : List fR} {wr kT : List (BA × fR)}
theorem gq.mv (h:gq w N rb sb wb wK s wr) (v:Mv N w N' w'):gq w' N' rb sb wb wK s wr:=⟨h.row.mv v,h.own.mv v,h.map.mv tu v fun _ h=>h.elim⟩
theorem gq.ne (h:gq w N rb sb wb wK s wr):wb≠rb:=h.map.eA h.row
theorem gq.ns (h:gq w N rb sb wb wK s wr):wK.ownBlock≠some rb∧wK.ownBlock≠some wb:=⟨kj h.own h.row kQ,RV h.own h.map⟩
theorem pd {κ α:Type} [DecidableEq κ] {w:World} {X Y A:XS} {b:Nat} {kv:κ→Value} {rd:World→XS→Value→α→Prop} {l:List (κ×α)} (h:dS w X A b kv rd l) (hb:Y b):dS w Y A b kv rd l:=by
 obtain⟨es,c,h1,h2⟩:=h;exact⟨es,c,⟨hb,h1.2⟩,h2⟩
theorem IT {v:fR} (h:gq w N rb sb wb wK (v::s) wr) (hN:FX N X w):Ct pg 103 #[ptr rb 0] w X N fun x wa w'=>x=v.v∧ ∃oc,gq w' N rb sb wb oc s wr:=by
 intro w0 hk;have hT:=hN.ft hk;replace h:=h.mv (hN.mv hk);have Dl:=hN.kp hk;have bJ:=h.row.mono fun k af=>(Dl k af).1;have wE:=(h.own.mono fun k af=>(Dl k af).1).sl;rw [qW] at wE;have hv:(s.reverse++[v])[s.reverse.length]? =some v:=by rw [List.getElem?_append_right (bg _)];simp
 have hlen:=wE.gy;simp only [List.length_append,oT,bz] at hlen;have LZ:(s.reverse++[v]).length=s.length+1:=by simp
 have hl3:s.reverse.length=s.length:=by simp
 obtain⟨q1,q2,q3,rfl⟩:=wE.form;have hs:=ak.init w0;apply OA;unfold Dm;repeat' first|refine aL ?_;intros
 have ho:=h.own;rw [qW] at ho;refine afX (i:=s.length) ho zQ (by rw [aI];omega) kQ kQ fun v2 nY=>?_;rw [←List.map_take,List.take_left' hl3] at nY;obtain⟨t1,t2,t3,rfl⟩:=nY.sl.form;have ov2:aR.one (.slice t1 t2 t3)=true:=rfl;repeat' first|refine aL ?_;intros
 refine qv (o:=0) bJ zQ kQ (by simp) rfl hT.s.has fun w1 X1 c1 akJ=>?_;have dU:=hT.fL (F':=N) c1 (fun k af=>by subst af;exact h.row.1) fun k af=>.inl af;have du:=kj nY h.row kQ;have h1:gq w1 N rb sb wb (.slice t1 t2 t3) s wr:=⟨⟨h.row.1,akJ.2⟩,tY nY fun g hg=>⟨nY.2.2 g hg,c1.block g (Dl g (nY.2.2 g hg)).1 fun e=>du (by rw [←e];exact hg)⟩,
  (pd h.map (Y:=(· =wb)) rfl).mv tu (fun g hg _=>by subst hg;exact⟨h.map.x.1,c1.block _ (Dl _ h.map.x.1).1 h.ne⟩) fun _ h=>h.elim⟩
 repeat' first|refine aL ?_;intros
 exact dU.fin fun wa bk=>⟨rfl,_,h1.mv (bk.fi dU.bK)⟩
theorem OB {v:fR} (h:gq w N rb sb wb wK s wr) (hN:FX N X w) (hl:s.length≤2^30):Ct pg 101 #[ptr rb 0,v.v] w X N fun _ wa w'=> ∃N' oc,(∀k,N' k→N k∨made wa w' k)∧gq w' N' rb sb wb oc (v::s) wr:=by
 intro w0 hk;have hT:=hN.ft hk;replace h:=h.mv (hN.mv hk);have Dl:=hN.kp hk;have bJ:=h.row.mono fun k af=>(Dl k af).1;have amN:=h.own.sl.one;have hs:=ak.init w0;apply MW;unfold Ce;repeat' first|refine aL ?_;intros|(with_reducible apply F8);(case hX=>exact hs.has);(case he=>kernel_rfl);(case hk=>rfl);intro acc w X au ho;obtain⟨_,_,_,rfl⟩:=ho.sl.form;replace hs:=hs.trans au
 have dU:=hT.since au;have akK:=au.fZ fun k af=>(Dl k af).1;have h1:=h.mv akK;refine BI (bytes:=32) (h1.own.mono fun k af=>au.sub k (Dl k af).1) au.has (Nat.zero_le _) kQ ho.sl (fun r hr u hu=>?_) (by simp only [bz,aI,oT];omega) (by simp only [bz,aI,oT];omega) fun v5 w5 X5 rV jW uD=>?_
 ·rw [List.mem_singleton] at hr;subst hr;simp only [List.mem_cons,List.not_mem_nil,or_false] at hu;rcases hu with rfl|rfl|rfl<;>rfl
 obtain⟨t1,t2,t3,rfl⟩:=jW.sl.form;have hns:=h1.ns;have Bq:a7 w5 X5 rb [wK,.map (some sb),.map (some wb)] runT:=⟨rV.sub _ (au.sub _ bJ.1),(rV.block rb (au.sub _ bJ.1) fun e=>hns.1 e).trans h1.row.2⟩;have ahh: ∀k,k=wb→X k:=fun k e=>by subst e;exact au.sub _ (Dl _ h.map.x.1).1
 have ajt:dS w5 (· =wb) nX wb bB zy wr:=(pd h1.map (Y:=(· =wb)) rfl).mv tu (fun g hg _=>⟨hg,rV.block g (ahh g hg) fun e=>by subst hg;exact hns.2 e⟩) fun _ h=>h.elim;have ff:=dU.fL (F':=fun k=>N k∨(kS t1 t2 t3).ownBlock=some k) rV (fun k af=>h1.own.2.2 k af) fun k af=>by
  rcases af with af|af
  ·exact .inl af
  ·rcases uD with e|⟨g,e,dV⟩
   ·exact .inl (h1.own.2.2 k (by rw [←e];exact af))
   ·rw [e] at af;cases af;exact .inr ⟨jW.2.2 _ e,dV⟩
 clear hs au ho;repeat' first|refine aL ?_;intros
 refine qv (o:=0) Bq zQ kQ (by simp) rfl ff.s.has fun w6 X6 c6 IU=>?_;have MX:=kj jW Bq kQ;have eX:=ff.fL (F':=fun k=>N k∨(kS t1 t2 t3).ownBlock=some k) c6 (fun k af=>.inl (by subst af;exact h.row.1)) fun k af=>.inl af;have akL:Own w5 X5 0 ahg 3 (.slice t1 t2 t3) ((v::s).reverse.map fR.l):=by rw [qW,List.map_append];exact jW
 have h6:gq w6 (fun k=>N k∨(kS t1 t2 t3).ownBlock=some k) rb sb wb (.slice t1 t2 t3) (v::s) wr:=⟨⟨.inl h.row.1,IU.2⟩,tY akL fun g hg=>⟨.inr hg,c6.block g (jW.2.2 g hg) fun e=>MX (by rw [←e];exact hg)⟩,
  (pd ajt (Y:=(· =wb)) rfl).mv tu (fun g hg _=>by subst hg;exact⟨.inl h.map.x.1,c6.block _ (rV.sub _ (ahh _ rfl)) h1.ne⟩) fun _ h=>h.elim⟩
 skip
 exact eX.fin fun wa bk=>⟨_,_,eX.gX bk fun _ h=>h,h6.mv (bk.fi eX.bK)⟩
def su (c:Int) (a b:fR):Except Int (List fR):=
 if c=11 then .ok [UC (decide (P3 a b<0))] else if c=12 then .ok [UC (decide (P3 a b=0))] else if c=15 then .ok [a,b]
 else if a.kind=2∨b.kind=2 then .error 23 else .ok [UB (P4 c a.num b.num)]
theorem abO {c:Int} {a b:fR} (h:gq w N rb sb wb wK (b::a::s) wr) (hN:FX N X w) (hl:s.length≤2^20):
  RU pg 105 #[ptr rb 0,I c] w X N (fun _ wa w'=> ∃l N' oc,su c a b= .ok l∧(∀k,N' k→N k∨made wa w' k)∧gq w' N' rb sb wb oc (l++s) wr) (fun ch _ _=> ∃e,su c a b= .error e∧ch=tZ e):=by
 intro w0 hk;have hT:=hN.ft hk;replace h:=h.mv (hN.mv hk);have Dl:=hN.kp hk;apply OC;unfold Dn;refine hT.call (IT h Dl) kQ (fun _ h=>h) fun v qQ w1 X1 hq sk oR dU c1=>?_;obtain⟨rfl,adm,h1⟩:=hq;have hN1:FX N X1 w1:=fun k af=>⟨dU.bK k (.inl af),c1.has k (dU.bK k (.inl af))⟩;replace dU:=dU.less (F':=N) fun k af=>.inl af;have hs:=ak.ct c1.has;repeat' first|refine aL ?_;intros
 refine dU.call (IT h1 hN1) kQ (fun _ h=>h) fun v zI w2 X2 hq qP nW cX c2=>?_;obtain⟨rfl,ahi,h2⟩:=hq;have hN2:FX N X2 w2:=fun k af=>⟨cX.bK k (.inl af),c2.has k (cX.bK k (.inl af))⟩;replace cX:=cX.less (F':=N) fun k af=>.inl af;clear hs h1 h;have hs:=ak.ct c2.has;have Br: ∀{w3:World} {X3:XS} {N3:XS} {s3:List fR} {v:fR} {wg:Value} {K:Value→World→XS→Prop},Ft w0 N w3 X3 N3→gq w3 N3 rb sb wb wg s3 wr→s3.length≤2^30→
   (∀x w4 X4 N4 Gd,Ft w0 N w4 X4 N4→gq w4 N4 rb sb wb Gd (v::s3) wr→K x w4 X4)→eC pg (Ge N w0 (fun _ w'=> ∃l N' oc,su c a b= .ok l∧(∀k,N' k→N k∨made w0 w' k)∧gq w' N' rb sb wb oc (l++s) wr) (fun ch _=> ∃e,su c a b= .error e∧ch=tZ e)) X3 w3 true 101 #[ptr rb 0,v.v] K:=fun q1 q2 q3 k=>by
  refine q1.call (OB q2 (fun k af=>⟨q1.bK k af,q1.s.has k (q1.bK k af)⟩) q3) kQ (fun _ h=>h) fun v mw w4 X4 hq qh lL fm c4=>?_;obtain⟨N4,Gd,hN4,h4⟩:=hq;exact k _ _ _ _ _ (fm.less hN4) h4
 have od: ∀{w3:World} {X3:XS} {N3:XS} {l:List fR} {wg:Value} {x:Value},Ft w0 N w3 X3 N3→gq w3 N3 rb sb wb wg (l++s) wr→su c a b= .ok l→
   fin (Ge N w0 (fun _ w'=> ∃l N' oc,su c a b= .ok l∧(∀k,N' k→N k∨made w0 w' k)∧gq w' N' rb sb wb oc (l++s) wr) (fun ch _=> ∃e,su c a b= .error e∧ch=tZ e)) X3 w3 x:=fun q1 q2 q3=>
  q1.adl fun wa bk=>⟨_,_,_,q3,q1.gX bk fun _ h=>h,q2.mv (bk.fi q1.bK)⟩
 by_cases e1:c=11
 ·repeat' first|refine bD ?_;intros|with_reducible apply dy
  refine ee (Dh a b) kQ hs.has fun w3 X3 ea=>?_;have dE:=cX.since ea;have h3:=h2.mv (ea.fZ fun k af=>(hN2 k af).1);replace hs:=hs.trans ea;by_cases hq:P3 a b<0;all_goals
   repeat' first|refine bD ?_;intros
   refine ee (IS _) kQ hs.has fun w4 X4 fq=>?_;have fm:=dE.since fq;have h4:=h3.mv (fq.fZ fun k af=>ea.sub k (hN2 k af).1);refine Br fm h4 zQ fun x w5 X5 N5 adn ff h5=>?_;have hz:=ff.s;clear hs;have hs:=ak.ct ff.s.has;repeat' first|(exact od (l:=[_]) ff h5 (by unfold su;simp [hq, *]))
 by_cases e2:c=12
 ·repeat' first|refine bD ?_;intros|with_reducible apply dy
  refine ee (Dh a b) kQ hs.has fun w3 X3 ea=>?_;have dE:=cX.since ea;have h3:=h2.mv (ea.fZ fun k af=>(hN2 k af).1);replace hs:=hs.trans ea;by_cases hq:P3 a b=0;all_goals
   repeat' first|refine bD ?_;intros
   refine ee (IS _) kQ hs.has fun w4 X4 fq=>?_;have fm:=dE.since fq;have h4:=h3.mv (fq.fZ fun k af=>ea.sub k (hN2 k af).1);refine Br fm h4 zQ fun x w5 X5 N5 adn ff h5=>?_;have hz:=ff.s;clear hs;have hs:=ak.ct ff.s.has;repeat' first|(exact od (l:=[_]) ff h5 (by unfold su;simp [hq, *]))
 by_cases e3:c=15
 ·repeat' first|refine bD ?_;intros|with_reducible apply dy
  refine Br cX h2 zQ fun x w5 X5 N5 adn ff h5=>?_;clear hs;have hs:=ak.ct ff.s.has;repeat' first|refine aL ?_;intros
  refine Br ff h5 (by simp only [ba];omega) fun x w6 X6 N6 amO eX h6=>?_;clear hs;have hs:=ak.ct eX.s.has;repeat' first|(exact od (l:=[_,_]) eX h6 (by unfold su;rw [if_neg e1,if_neg e2,if_pos e3]))
 ·repeat' first|refine bD ?_;intros|with_reducible apply dy
  refine cX.Tx (SJ c a b) kQ (fun _ h=>h.elim) (fun v uR w3 X3 hq ob mA dE c3=>?_) fun ch uR w3 X3 hq ob mA dE c3 wb mN=>dE.gg mN ⟨23,by unfold su;rw [if_neg e1,if_neg e2,if_neg e3,if_pos hq.1],hq.2⟩;obtain⟨hnt,rfl⟩:=hq;have h3:=h2.mv (c3.fi fun k af=>⟨(hN2 k af).1,fun h=>h.elim⟩);replace dE:=dE.less (F':=N) fun k af=>.inl af;clear hs;have hs:=ak.ct dE.s.has
  skip
  refine Br dE h3 zQ fun x w5 X5 N5 adn ff h5=>?_;clear hs;have hs:=ak.ct ff.s.has;repeat' first|(exact od (l:=[_]) ff h5 (by unfold su;rw [if_neg e1,if_neg e2,if_neg e3,if_neg hnt]))
end
abbrev rD:=List (BA×fR)
def qX (o:fw) (s:List fR) (wr:rD):Except Int (List fR×rD):=
 if o.code=2 then .ok (s.tail,dR o.key (s.headD .zero) wr)
 else if o.code=3 then .ok (s,dR o.key .zero wr)
 else if o.code=4 then .ok (o.val::s,wr)
 else if o.code=13 then(if Oz (s.headD .zero)then .ok (s.tail,wr)else .error 22)
 else if o.code=14 then .ok (s.headD .zero::s,wr)
 else match su o.code (s.tail.headD .zero) (s.headD .zero)with
  | .ok l=>.ok (l++s.tail.tail,wr)
  | .error e=>.error e
section
variable {w w' : World} {X X' N N' G : XS} {rb sb wb : Nat} {wK oc : Value} {s s' : List fR} {wr kT : rD}
theorem gq.put (h:gq w N rb sb wb wK s wr) (hX: ∀k,N k→X k) (c:ez (· =wb) X w X' w') (hm:dS w' X' nX wb bB zy kT):gq w' N rb sb wb wK s kT:=
 ⟨⟨h.row.1,(c.block _ (hX _ h.row.1) fun e=>h.ne e.symm).trans h.row.2⟩,tY h.own fun g hg=>⟨h.own.2.2 g hg,c.block g (hX _ (h.own.2.2 g hg)) fun e=>h.ns.2 (by rw [←e];exact hg)⟩,pd hm h.map.x.1⟩
theorem aju {a b c:Value} {o':Nat} {C:Value→Prop} (h:a7 w X rb [a,b,c] runT) (ho:o'=0+2) (n:C c):ae pg X w (ld1 133 (ptr rb o')) C:=by
 have hc:Cells w X rb (0+2) [c]:=h.cells.Ty (fo:=2) rfl;rw [ho];exact ZA hc (Mv.refl _ _) kQ rfl n
theorem ado {o:fw} (h:gq w N rb sb wb wK s wr) (hN:FX N X w) (hl:s.length≤2^20) (hg:o.code≠1) (hc:1≤o.code∧o.code≤15) (ht:sm o.code≤s.length):
  RU pg 46 #[ptr rb 0,.agg o.l.toArray] w X N (fun _ wa w'=> ∃s' kT N' oc,qX o s wr= .ok (s',kT)∧(∀k,N' k→N k∨made wa w' k)∧gq w' N' rb sb wb oc s' kT) (fun ch _ _=> ∃e,qX o s wr= .error e∧ch=tZ e):=by
 intro w0 hk;have hT:=hN.ft hk;replace h:=h.mv (hN.mv hk);have Dl:=hN.kp hk;have bJ:=h.row.mono fun k af=>(Dl k af).1;have Br: ∀{w3:World} {X3:XS} {N3:XS} {s3:List fR} {RW:rD} {v:fR} {wg:Value} {K:Value→World→XS→Prop},Ft w0 N w3 X3 N3→gq w3 N3 rb sb wb wg s3 RW→s3.length≤2^30→
   (∀x w4 X4 N4 Gd,Ft w0 N w4 X4 N4→gq w4 N4 rb sb wb Gd (v::s3) RW→K x w4 X4)→eC pg (Ge N w0 (fun _ w'=> ∃s' kT N' oc,qX o s wr= .ok (s',kT)∧(∀k,N' k→N k∨made w0 w' k)∧gq w' N' rb sb wb oc s' kT) (fun ch _=> ∃e,qX o s wr= .error e∧ch=tZ e)) X3 w3 true 101 #[ptr rb 0,v.v] K:=fun q1 q2 q3 k=>by
  refine q1.call (OB q2 (fun k af=>⟨q1.bK k af,q1.s.has k (q1.bK k af)⟩) q3) kQ (fun _ h=>h) fun v mw w4 X4 hq qh lL fm c4=>?_;obtain⟨N4,Gd,hN4,h4⟩:=hq;exact k _ _ _ _ _ (fm.less hN4) h4
 have adp: ∀{w3:World} {X3:XS} {N3:XS} {s3:List fR} {RW:rD} {v:fR} {wg:Value} {K:Value→World→XS→Prop},Ft w0 N w3 X3 N3→gq w3 N3 rb sb wb wg (v::s3) RW→
   (∀w4 X4 Gd,Ft w0 N w4 X4 N3→gq w4 N3 rb sb wb Gd s3 RW→a7 w4 X4 rb [Gd,.map (some sb),.map (some wb)] runT→K v.v w4 X4)→eC pg (Ge N w0 (fun _ w'=> ∃s' kT N' oc,qX o s wr= .ok (s',kT)∧(∀k,N' k→N k∨made w0 w' k)∧gq w' N' rb sb wb oc s' kT) (fun ch _=> ∃e,qX o s wr= .error e∧ch=tZ e)) X3 w3 true 103 #[ptr rb 0] K:=fun q1 q2 k=>by
  refine q1.call (IT q2 (fun k af=>⟨q1.bK k af,q1.s.has k (q1.bK k af)⟩)) kQ (fun _ h=>h) fun v mw w4 X4 hq qh lL fm c4=>?_;obtain⟨rfl,Gd,h4⟩:=hq;have nq:=fm.less (F':=_) fun k af=>.inl af;exact k _ _ _ nq h4 (h4.row.mono fun k af=>nq.bK k af)
 have Un: ∀{w3:World} {X3:XS} {N3:XS} {s3:List fR} {v:fR} {wg:Value} {K:Value→World→XS→Prop},Ft w0 N w3 X3 N3→gq w3 N3 rb sb wb wg s3 wr→
   (∀w4 X4,Ft w0 N w4 X4 N3→gq w4 N3 rb sb wb wg s3 (dR o.key v wr)→K undef w4 X4)→eU pg (Ge N w0 (fun _ w'=> ∃s' kT N' oc,qX o s wr= .ok (s',kT)∧(∀k,N' k→N k∨made w0 w' k)∧gq w' N' rb sb wb oc s' kT) (fun ch _=> ∃e,qX o s wr= .error e∧ch=tZ e)) X3 w3 true (Instr.mapUpdate 133 (.map (some wb)) (.string o.key) v.v) K:=fun {w3} {X3} {N3} {s3} {v} {wg} {K} q1 q2 k=>by
  refine tf (kv:=bB) (k:=o.key) (a:=v) (kt:=9) (et:=62) (q2.mv (Mv.sub q1.bK)).map tu rfl (fun _ h=>h.elim) zf kQ q1.s.has fun w4 X4 c4 EO=>?_;exact k _ _ (q1.fL (F':=N3) c4 (fun k af=>by subst af;exact q2.map.x.1) fun k af=>.inl af) (q2.put q1.bK c4 EO)
 have od: ∀{w3:World} {X3:XS} {N3:XS} {s3:List fR} {RW:rD} {wg:Value} {x:Value},Ft w0 N w3 X3 N3→gq w3 N3 rb sb wb wg s3 RW→qX o s wr= .ok (s3,RW)→
   fin (Ge N w0 (fun _ w'=> ∃s' kT N' oc,qX o s wr= .ok (s',kT)∧(∀k,N' k→N k∨made w0 w' k)∧gq w' N' rb sb wb oc s' kT) (fun ch _=> ∃e,qX o s wr= .error e∧ch=tZ e)) X3 w3 x:=fun q1 q2 q3=>
  q1.adl fun wa bk=>⟨_,_,_,_,q3,q1.gX bk fun _ h=>h,q2.mv (bk.fi q1.bK)⟩
 have hs:=ak.init w0;have h1:sm o.code=if o.code=3∨o.code=4 then 0 else if o.code=2∨o.code=13∨o.code=14 then 1 else 2:=by
  unfold sm;rw [if_neg zQ];by_cases q:o.code=3∨o.code=4
  ·rw [if_pos zQ,if_pos q]
  ·rw [if_neg zQ,if_neg q]
 by_cases e2:o.code=2
 ·rw [if_neg zQ,if_pos zQ] at h1;cases s with
  |nil=>simp at ht;omega
  |cons v s=>
   apply nM;unfold l9;repeat' first|refine bD ?_;intros|with_reducible apply dy|(refine adp hT h fun w1 X1 adm dU h1 mm=>?_)|(refine And.intro ?_ ?_)|(refine Un (by assumption) (by assumption) fun w2 X2 cX h2=>?_)|(exact od (by assumption) (by assumption) (by unfold qX;rw [if_pos e2];rfl))|(refine aju (by assumption) (by assumption) ?_)
 by_cases e3:o.code=3
 ·apply nM;unfold l9;repeat' first|refine bD ?_;intros|with_reducible apply dy|(refine Un (v:=.zero) hT h fun w2 X2 cX h2=>?_)|(exact od (by assumption) (by assumption) (by unfold qX;rw [if_neg e2,if_pos e3]))
 by_cases e4:o.code=4
 ·apply nM;unfold l9;repeat' first|refine bD ?_;intros|with_reducible apply dy|(refine Br (v:=o.val) hT h zQ fun x w2 X2 N2 ahi cX h2=>?_)|(exact od (by assumption) (by assumption) (by unfold qX;rw [if_neg e2,if_neg e3,if_pos e4]))
 by_cases e13:o.code=13
 ·rw [if_neg zQ,if_pos zQ] at h1;cases s with
  |nil=>simp at ht;omega
  |cons v s=>
   apply nM;unfold l9;repeat' first|refine bD ?_;intros|with_reducible apply dy|(refine adp hT h fun w1 X1 adm dU h1 mm=>?_)
   refine ee (UD v) kQ dU.s.has fun w2 X2 bT=>?_;have cX:=dU.since bT;have h2:=h1.mv (bT.fZ fun k af=>dU.bK k af);by_cases hh:Oz v=true
   ·rw [hh];repeat' first|refine aL ?_;intros|(exact od cX h2 (by unfold qX;rw [if_neg e2,if_neg e3,if_neg e4,if_pos e13];simp only [List.headD_cons,hh,if_true,List.tail_cons]))
   ·rw [Bool.eq_false_iff.2 hh];repeat' first|refine aL ?_;intros|(with_reducible refine Yw ?_ ?_);(· kernel_rfl)
    exact Yy cX.s.has fun wa hka=>cX.gg hka ⟨22,by unfold qX;rw [if_neg e2,if_neg e3,if_neg e4,if_pos e13];exact if_neg hh,rfl⟩
 by_cases e14:o.code=14
 ·rw [if_neg zQ,if_pos zQ] at h1;cases s with
  |nil=>simp at ht;omega
  |cons v s=>
   apply nM;unfold l9;repeat' first|refine bD ?_;intros|with_reducible apply dy|(refine adp hT h fun w1 X1 adm dU h1 mm=>?_)
   refine Br (v:=v) dU h1 (by simp only [ba] at hl;omega) fun x w2 X2 N2 ahi cX h2=>?_;repeat' first|refine aL ?_;intros
   refine Br (v:=v) cX h2 (by simp only [ba] at hl⊢;omega) fun x w3 X3 N3 wg dE h3=>?_;repeat' first|(exact od (by assumption) (by assumption) (by unfold qX;rw [if_neg e2,if_neg e3,if_neg e4,if_neg e13,if_pos e14];rfl))
 ·rw [if_neg zQ,if_neg zQ] at h1;obtain⟨b,a,s,rfl⟩: ∃b a s',s=b::a::s':=by
   match s,ht with
   |[],ht=>simp at ht;omega
   |[_],ht=>simp at ht;omega
   |b::a::s,_=>exact⟨b,a,s,rfl⟩
  have hd:qX o (b::a::s) wr=match su o.code a b with| .ok l=>.ok (l++s,wr)| .error e=>.error e:=by
   unfold qX;rw [if_neg e2,if_neg e3,if_neg e4,if_neg e13,if_neg e14];rfl
  apply nM;unfold l9;repeat' first|refine bD ?_;intros|with_reducible apply dy
  refine hT.Tx (abO h Dl (by simp only [ba] at hl;omega)) kQ (fun _ h=>h) (fun v uR w3 X3 hq ob mA dE c3=>?_) fun ch uR w3 X3 hq ob mA dE c3 wb mN=>?_
  ·obtain⟨l,N3,wg,hl3,hN3,h3⟩:=hq;repeat' first|(exact od (dE.less hN3) h3 (by rw [hd,hl3]))
  ·obtain⟨e,he,hch⟩:=hq;exact dE.gg mN ⟨e,by rw [hd,he],hch⟩
end
end Go.Proofs.YtbpnemeooenpmaaGreat
