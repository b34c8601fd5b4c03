/-
 Part 8 of the proof: what the last text leans on.
-/
import Derived.WalkKit
import Derived.Test.YtgfijddlkhkopaaGreatH7
open Nat renaming le_trans → ad, zero_le → au, le_refl → aq, lt_of_lt_of_le → av, zero_add → fg
open List renaming length_append → aa, append_assoc → ak, length_map → ai, take_of_length_le → ax, range → dD, length_take → aI, length_singleton → dm, filter_cons → eB, map_append → aJ, length_cons → aM, take_add_one → dr, replicate → gG, mem_cons_of_mem → bQ, map_map → bB, length → az, foldl_cons → iz, map_cons → bD, mem_singleton → aw, all_cons → iX, length_nil → bz, mem_of_mem_take → dL, reverse_cons → uO, length_reverse → sX, foldl_append → Au, toList_toArray → cL, flatten_cons → cW, mem_of_getElem? → aB, not_mem_nil → dC, getElem?_append_right → cP, flatten_append → dV, take_append_drop → gX, take_left' → ic, take_length → BT
open BitVec renaming ofInt → aF
open Go.Value renaming cells → aW, slice → tI, tuple → dA
open Go.Op renaming unary → bE
open Option.some renaming injEq → ah
open Go.Exit renaming inBlock → vO
open Go.Fence renaming wide → gf
open Go.IntKind renaming signed → j5, bits → mX
open Go.Instr renaming findNow → kF, checkKey → gR, mapUpdate → cE
open Go.WideElems renaming rg → nf, rd → su
open Function renaming comp_def → jS
open Int renaming mul_lt_mul_of_pos_right → sP, toNat_of_nonneg → yR
open Option renaming getD_some → BU, toList_some → zy
open Go.Builtin renaming max_ → lz, max2 → sw
namespace Go.Proofs.YtgfijddlkhkopaaGreat
open Go.Proofs.Tryz renaming prog → pg
open Go.aG Go.RowKit Go.Sort Ieee
set_option maxRecDepth 100000
set_option maxHeartbeats 4000000
set_option linter.unusedVariables false
set_option linter.unusedSimpArgs false
def JH (t:Nat):Nat:=(t % 2)*2^63+9218868437227405312+1+(t/2) % (2^52-1)
def U6 (op:BinOp) (x y:Nat) (w:World):Nat:=match floatBits op .f64 x y with|some r=>r|none=>JH (w.tape w.drawn (.nanBits .f64 x y))
def U7 (op:BinOp) (x y:Nat) (w:World):World:=match floatBits op .f64 x y with|some _=>w|none=> { w with drawn:=w.drawn+1 }
def GR (op:BinOp) (x y:Nat):Nat:=match floatBits op .f64 x y with|some r=>canon r|none=>9221120237041090560
theorem akV (f:Format) (n:Nat) (h:f.infRung<n % f.signWeight) (h2:f.binade<=f.infRung): ∃s q,f.read n= .nan s q:=by
 unfold Format.read;refine⟨n/f.signWeight % 2==1,n % f.signWeight-f.infRung,?_⟩
 grind
theorem aiQ (t:Nat): ∃s q,(FloatKind.f64.format).read (JH t)= .nan s q:=by
 have e1:FloatKind.f64.format.signWeight=9223372036854775808:=by decide
 have e2:FloatKind.f64.format.binade=4503599627370496:=by decide
 have e3:FloatKind.f64.format.infRung=9218868437227405312:=by decide
 refine akV _ _ ?_ ?_
 ·have e:JH t=9223372036854775808*(t % 2)+(9218868437227405312+1+t/2 % 4503599627370495):=by
   show t % 2*9223372036854775808+9218868437227405312+1+t/2 % 4503599627370495=_
   omega
  rw[e1,e3,e,Nat.mul_add_mod,Nat.mod_eq_of_lt zQ];omega
 omega
theorem agp (t:Nat):canon (JH t)=9221120237041090560:=by
 have h:pR (JH t) (JH t)=false:=by
  obtain⟨s,q,e⟩:=aiQ t;unfold pR Format.order;rw[e];rfl
 unfold canon;rw[h];rfl
theorem GS (op:BinOp) (x y:Nat) (w:World):canon (U6 op x y w)=GR op x y:=by grind [U6,GR,agp]
theorem NG (op:BinOp) (x y:Nat) (w:World):Ext w (U7 op x y w):=by
 unfold U7;split
 ·exact⟨rfl,rfl,rfl,aq _,λ_ _ _=>rfl⟩
 ·exact⟨rfl,rfl,rfl,aq _,λ_ _ _=>rfl⟩
variable {w : World} {t : TypeId} {P : Program}
theorem GU (op:BinOp) (h:op= .add\/op= .sub\/op= .mul\/op= .quo) (x y:Nat):(binOp op t (.float .f64 x) (.float .f64 y)).run P w= .ok (.float .f64 (U6 op x y w)) (U7 op x y w):=by
 unfold U6 U7;cases hf:floatBits op .f64 x y with
 |some r=>grind [run_float_arith]
 |none=>
  unfold floatBits at hf;rcases h with rfl|rfl|rfl|rfl<;>simp only at hf<;>simp[binOp,Op.floatArith,hf,choose,Sem.run,Question.forced,Question.cut,JH]
@[go_sem] theorem aq5 (x y:Nat):(binOp .add t (.float .f64 x) (.float .f64 y)).run P w= .ok (.float .f64 (U6 .add x y w)) (U7 .add x y w):=GU _ sQ x y
@[go_sem] theorem aq6 (x y:Nat):(binOp .sub t (.float .f64 x) (.float .f64 y)).run P w= .ok (.float .f64 (U6 .sub x y w)) (U7 .sub x y w):=GU _ sQ x y
@[go_sem] theorem aq7 (x y:Nat):(binOp .mul t (.float .f64 x) (.float .f64 y)).run P w= .ok (.float .f64 (U6 .mul x y w)) (U7 .mul x y w):=GU _ sQ x y
@[go_sem] theorem aq8 (x y:Nat):(binOp .quo t (.float .f64 x) (.float .f64 y)).run P w= .ok (.float .f64 (U6 .quo x y w)) (U7 .quo x y w):=GU _ sQ x y
theorem agq (a b:Nat):Pure pg 350 #[.float .f64 a,.float .f64 b] (.float .f64 (GR .add a b)):=by
 intro W
 go_enter Tryz.func350,Tryz.ntmps350
 go_wp2_with (go_at_call 347;refine(rK _ _).mono ?_;rintro e w1 ⟨rfl,x1⟩)
 all_goals (try simp only[vO,Exit.then])
 refine bodyPost_ret (v:=.float .f64 (GR .add a b)) ?_ rfl ⟨rfl,(NG _ _ _ _).trans x1⟩;rw[results_tmp (t:=4) (by rfl)];simp[GS]
theorem agr (a b:Nat):Pure pg 351 #[.float .f64 a,.float .f64 b] (.float .f64 (GR .sub a b)):=by
 intro W
 go_enter Tryz.func351,Tryz.ntmps351
 go_wp2_with (go_at_call 347;refine(rK _ _).mono ?_;rintro e w1 ⟨rfl,x1⟩)
 all_goals (try simp only[vO,Exit.then])
 refine bodyPost_ret (v:=.float .f64 (GR .sub a b)) ?_ rfl ⟨rfl,(NG _ _ _ _).trans x1⟩;rw[results_tmp (t:=4) (by rfl)];simp[GS]
theorem ags (a b:Nat):Pure pg 352 #[.float .f64 a,.float .f64 b] (.float .f64 (GR .mul a b)):=by
 intro W
 go_enter Tryz.func352,Tryz.ntmps352
 go_wp2_with (go_at_call 347;refine(rK _ _).mono ?_;rintro e w1 ⟨rfl,x1⟩)
 all_goals (try simp only[vO,Exit.then])
 refine bodyPost_ret (v:=.float .f64 (GR .mul a b)) ?_ rfl ⟨rfl,(NG _ _ _ _).trans x1⟩;rw[results_tmp (t:=4) (by rfl)];simp[GS]
theorem agt (a b:Nat):Pure pg 353 #[.float .f64 a,.float .f64 b] (.float .f64 (GR .quo a b)):=by
 intro W
 go_enter Tryz.func353,Tryz.ntmps353
 go_wp2_with (go_at_call 347;refine(rK _ _).mono ?_;rintro e w1 ⟨rfl,x1⟩)
 all_goals (try simp only[vO,Exit.then])
 refine bodyPost_ret (v:=.float .f64 (GR .quo a b)) ?_ rfl ⟨rfl,(NG _ _ _ _).trans x1⟩;rw[results_tmp (t:=4) (by rfl)];simp[GS]
attribute [local irreducible] un jn jq ji ld1 je st1 oS mO pj me pH HR D4 gT pI aZ nO nQ eW eV eU eC eF gE mE fin iM bq de vS KZ HS HT HU HV HW K0 K3 K4 K5 EW EX HX HY HZ K6 K7 K8
def ior (a b:Int):Int:=IntKind.u64.wrap (aF IntKind.u64.bits a|||aF IntKind.u64.bits b).toNat
variable {N : Value -> Prop} {X : XS}
theorem ao0 {a b:Int} (h:N (.int .u64 (ior a b))):aZ P X w (binOp .or t (.int .u64 a) (.int .u64 b)) N:=QO h
theorem anu {a:Int} (h:N (.int .u64 (JC IntKind.u64.max a))):aZ P X w (bE .xor (.int .u64 a)) N:=
 bA (λwa=>by simp[bE,Op.intBits,JC,j5]) h
def Tp (x:Nat):Int:=if land (canon x) 9223372036854775808≠0 then JC IntKind.u64.max (canon x)else ior (canon x) 9223372036854775808
theorem aeE (x:Nat):Pure pg 367 #[.float .f64 x] (.int .u64 (Tp x)):=by
 intro w0;refine abd.1 λhs=>?_;repeat' first|refine ao ?_;intros|refine dq ?_ ?_<;>intros|(refine pN (EC _) hs ?_;intro w X hs)|(with_reducible refine fV hs ?_);(simp_all [Tp])|with_reducible (first|apply agd|apply ao0|apply anu)
def Z9 (x y:Nat):Int:=if Tp x<Tp y then-1 else if Tp x>Tp y then 1 else 0
theorem DZ (x y:Nat):Pure pg 349 #[.float .f64 x,.float .f64 y] (I (Z9 x y)):=by
 intro w0;refine Tg.1 λhs=>?_;repeat' first|refine ao ?_;intros|refine dq ?_ ?_<;>intros|(refine pN (aeE _) hs ?_;intro w X hs)|(with_reducible refine fV hs ?_);(simp_all [Z9]<;>omega)
def Tq (a b:gJ):Int:=
 if !a.may||!b.may then 0 else if a.kind<b.kind then-1 else if a.kind>b.kind then 1 else if a.kind=1 then Z9 a.num b.num else if zr a.text b.text then-1 else if a.text=b.text then 0 else 1
theorem GW (a b:gJ):Pure pg 309 #[a.v,b.v] (I (Tq a b)):=by
 intro w0;refine PO.1 λhs=>?_;repeat' first|refine ao ?_;intros|refine dq ?_ ?_<;>intros|with_reducible apply cK|(refine kR (mn _) hs ?_ ?_<;>intro _ w X hs)|(refine pN (DZ _ _) hs ?_;intro w X hs)|(with_reducible refine fV hs ?_);(simp_all [Tq]<;>omega)
def aaa (a b:Nat):Nat:=if Z9 a b>0 then canon b else canon a
def aeF (a b:Nat):Nat:=if Z9 a b<0 then canon b else canon a
theorem abn (a b:Nat):Pure pg 354 #[.float .f64 a,.float .f64 b] (.float .f64 (aaa a b)):=by
 intro w0;refine ZM.1 λhs=>?_;repeat' first|refine ao ?_;intros|refine dq ?_ ?_<;>intros|(refine pN (rK _) hs ?_;intro w X hs)|(refine pN (DZ _ _) hs ?_;intro w X hs)|(with_reducible refine fV hs ?_);(simp_all [aaa]<;>omega)
theorem aeG (a b:Nat):Pure pg 355 #[.float .f64 a,.float .f64 b] (.float .f64 (aeF a b)):=by
 intro w0;refine abc.1 λhs=>?_;repeat' first|refine ao ?_;intros|refine dq ?_ ?_<;>intros|(refine pN (rK _) hs ?_;intro w X hs)|(refine pN (DZ _ _) hs ?_;intro w X hs)|(with_reducible refine fV hs ?_);(simp_all [aeF]<;>omega)
def aab (x:Nat):gJ:=⟨1,canon x,⟨#[]⟩⟩
theorem ID (x:Nat):Pure pg 348 #[.float .f64 x] (aab x).v:=by
 intro w0;refine RR.1 λhs=>?_;repeat' first|refine ao ?_;intros|(refine pN (rK _) hs ?_;intro w X hs)|(with_reducible refine fV hs ?_);rfl
def aac (b:Bool):gJ:=if b then aab 4607182418800017408 else aab 0
theorem M4 (b:Bool):Pure pg 308 #[B b] (aac b).v:=by
 intro w0;cases b;all_goals
  refine VH.1 λhs=>?_;repeat' first|refine ao ?_;intros|(refine pN (ID _) hs ?_;intro w X hs)|(with_reducible refine fV hs ?_);rfl
def R0 (v:gJ):Bool:=if v.kind=1 then decide (cls v.num≠0/\cls v.num≠4/\cls v.num≠5)else if v.kind=2 then decide (v.text≠⟨#[]⟩)else false
theorem aad (v:gJ):Pure pg 237 #[v.v] (B (R0 v)):=by
 intro w0;refine VD.1 λhs=>?_;repeat' first|refine ao ?_;intros|refine dq ?_ ?_<;>intros|(refine pN (HE _) hs ?_;intro w X hs)|(with_reducible refine fV hs ?_);(simp_all [R0])
abbrev vy (e:Int):List PanicEntry:=[{ v:=.iface 291 (.agg #[I e]),recovered:=false }]
def Tr (c:Int) (a b:Nat):Nat:=if c=5 then GR .add a b else if c=6 then GR .sub a b else if c=7 then GR .mul a b else if c=8 then GR .quo a b else if c=9 then aaa a b else aeF a b
theorem VT (c:Int) (a b:gJ):E5 pg 310 #[I c,a.v,b.v] w X nX (λv _ _=> ¬(a.kind=2\/b.kind=2)/\v=(aab (Tr c a.num b.num)).v) (λch _ _=>(a.kind=2\/b.kind=2)/\ch=vy 23):=by
 intro w0 hk;have hF:FX nX (bV w0) w0:=λk af=>af.elim;have hT:=hF.ft (Kp.refl _ _);refine Ta.1 λhs=>?_;by_cases h:a.kind=2\/b.kind=2
 ·repeat' first|refine aN ?_;intros|refine dq ?_ ?_<;>intros|with_reducible apply cK|(with_reducible refine SE ?_ ?_);(· kernel_rfl)
  all_goals exact SF hs.has λwa oZ=>(hT.since hs).iE oZ ⟨h,rfl⟩
 ·repeat' first|refine aN ?_;intros|refine dq ?_ ?_<;>intros|with_reducible apply cK|(refine pN (ID _) hs ?_;intro w X hs)|(refine pN (agq _ _) hs ?_;intro w X hs)|(refine pN (agr _ _) hs ?_;intro w X hs)|(refine pN (ags _ _) hs ?_;intro w X hs)|(refine pN (agt _ _) hs ?_;intro w X hs)|(refine pN (abn _ _) hs ?_;intro w X hs)|(refine pN (aeG _ _) hs ?_;intro w X hs)|(refine(hT.since hs).xy λwa aL=>⟨h,?_⟩;simp[Tr, *];done)
open Go
def fcl:Datum->Int
 | .infinity true=> -1
 | .infinity false=>1
 |_=>0
def fvl (b:Int):Datum->Int
 | .number s m i=>signed s m (i-b).toNat
 |_=>0
def IE:Datum->Int
 | .number _ _ i=>i
 |_=>0
theorem U9 (s:Bool) (m u k:Nat):signed s m (u+k)=signed s m u*(2^k:Nat):=by
 unfold signed;simp only[Nat.shiftLeft_eq,Nat.pow_add]
 grind
theorem agu (x y:Int) (k:Nat):compare (x*(2^k:Nat)) (y*(2^k:Nat))=compare x y:=by
 have hp:(0:Int)<((2^k:Nat):Int):=by
  have:0<2^k:=Nat.two_pow_pos k;omega
 rcases Int.lt_trichotomy x y with h|h|h
 ·have:=sP h hp;rw[show compare x y= .lt from by simp[compare,compareOfLessAndEq,h],show compare (x*((2^k:Nat):Int)) (y*((2^k:Nat):Int))= .lt from by simp only[compare,compareOfLessAndEq];grind]
 ·grind
 ·have:=sP h hp;rw[show compare x y= .gt from by simp only[compare,compareOfLessAndEq];grind,show compare (x*((2^k:Nat):Int)) (y*((2^k:Nat):Int))= .gt from by simp only[compare,compareOfLessAndEq];grind]
theorem aae (b:Int) (x y:Datum) (hx:x.isNaN=false) (hy:y.isNaN=false) (bx:b<=IE x) (by':b<=IE y):
  x.order y=some (if fcl x<fcl y then .lt else if fcl y<fcl x then .gt else compare (fvl b x) (fvl b y)):=by
 cases x with
 |nan=>simp[Datum.isNaN] at hx
 |infinity s=>cases y with
  |nan=>simp[Datum.isNaN] at hy
  |infinity t=>cases s<;>cases t<;>rfl
  |number t n j=>cases s<;>rfl
 |number s m i=>cases y with
  |nan=>simp[Datum.isNaN] at hy
  |infinity t=>cases t<;>rfl
  |number t n j=>
   have bi:b<=i:=bx;have bj:b<=j:=by';have e1:(i-b).toNat=(i-min i j).toNat+(min i j-b).toNat:=by omega
   have e2:(j-b).toNat=(j-min i j).toNat+(min i j-b).toNat:=by omega
   show some (compare (signed s m (i-min i j).toNat) (signed t n (j-min i j).toNat))=some (compare (signed s m (i-b).toNat) (signed t n (j-b).toNat))
   rw[e1,e2,U9,U9,agu]
def fk (b:Int) (d:Datum):Int×Int:=(fcl d,fvl b d)
def kle (a b:Int×Int):Prop:=a.1<b.1\/a.1=b.1/\a.2<b.2
theorem anv {x y:Int} :compare x y= .lt↔x<y:=by
 simp only[compare,compareOfLessAndEq]
 grind
variable {y : Datum}
theorem yg {b:Int} {x:Datum} (hx:x.isNaN=false) (hy:y.isNaN=false) (bx:b<=IE x) (by':b<=IE y):x.order y=some .lt↔kle (fk b x) (fk b y):=by
 rw[aae b x y hx hy bx by'];unfold kle fk;simp only[ah];split
 ·simp[*]
 ·split
  ·simp;omega
  ·rw[anv];omega
theorem JI {b:Int} {x:Datum} (hx:x.isNaN=false) (hy:y.isNaN=false) (bx:b<=IE x) (by':b<=IE y):x.order y=some .eq↔fk b x=fk b y:=by
 rw[aae b x y hx hy bx by'];unfold fk;simp only[ah,Prod.mk.injEq]
 grind
theorem DA {x:Datum} {o:Ordering} (h:x.order y=some o):x.isNaN=false/\y.isNaN=false:=by
 cases x<;>cases y<;>first|exact⟨rfl,rfl⟩|simp[Datum.order] at h
abbrev fd (a:Nat):Datum:=FloatKind.f64.format.read a
variable {b : Nat}
theorem Wo {a:Nat} :qT a b=true↔(fd a).order (fd b)=some .lt:=by unfold qT Format.order;simp
theorem aeH {a:Nat} :pR a b=true↔(fd a).order (fd b)=some .eq:=by unfold pR Format.order;simp
theorem three (x y z:Datum): ∃b:Int,b<=IE x/\b<=IE y/\b<=IE z:=⟨min (IE x) (min (IE y) (IE z)),by omega,by omega,by omega⟩
variable {c : Nat}
theorem agv {a:Nat} (h:qT a b=true) (k:qT b c=true):qT a c=true:=by
 rw[Wo] at*;obtain⟨p,p1,p2,p3⟩:=three (fd a) (fd b) (fd c);have n1:=DA h;have n2:=DA k;rw[yg n1.1 n1.2 p1 p2] at h;rw[yg n2.1 n2.2 p2 p3] at k;rw[yg n1.1 n2.2 p1 p3];unfold kle at*;omega
theorem akW {a:Nat} (h:qT a b=true) (k:pR b c=true):qT a c=true:=by
 rw[Wo] at*;rw[aeH] at k;obtain⟨p,p1,p2,p3⟩:=three (fd a) (fd b) (fd c);have n1:=DA h;have n2:=DA k;rw[yg n1.1 n1.2 p1 p2] at h;rw[JI n2.1 n2.2 p2 p3] at k;rw[yg n1.1 n2.2 p1 p3,<-k];exact h
theorem akX {a:Nat} (h:pR a b=true) (k:qT b c=true):qT a c=true:=by
 rw[Wo] at*;rw[aeH] at h;obtain⟨p,p1,p2,p3⟩:=three (fd a) (fd b) (fd c);have n1:=DA h;have n2:=DA k;rw[JI n1.1 n1.2 p1 p2] at h;rw[yg n2.1 n2.2 p2 p3] at k;rw[yg n1.1 n2.2 p1 p3,h];exact k
theorem ab4 {a:Nat} (h:pR a b=true):pR b a=true:=by
 rw[aeH] at*;obtain⟨p,p1,p2,_⟩:=three (fd a) (fd b) (fd b);have n1:=DA h;rw[JI n1.1 n1.2 p1 p2] at h;rw[JI n1.2 n1.1 p2 p1];exact h.symm
theorem aeI (a:Nat):qT a a=false:=by
 cases h:qT a a with
 |false=>rfl
 |true=>
  rw[Wo] at h;have n1:=DA h;rw[yg (b:=IE (fd a)) n1.1 n1.2 (Int.le_refl _) (Int.le_refl _)] at h;unfold kle at h;omega
theorem abo {a:Nat} (h:qT a b=true):pR a b=false:=by
 cases k:pR a b with
 |false=>rfl
 |true=>
  have:=akW h (ab4 k)
  grind [aeI]
variable {rows : List (List Value)} {i k : Nat}
theorem aiR {v:Value} {z:Int} (h:Sl w X k v rows) (hz:z=i) (hi:i<=rows.length) (ht:P.underlying t=some (.slice (P.elem t))) (hs:(P.info? (P.elem t)).map (·.size)=some k)
  (n: ∀v',Sl w X k v' (rows.take i)->N v'):aZ P X w (Instr.sliceAt t v none (some (.int .i64 z)) none) N:=by
 obtain⟨h1,h2,base,cap,rfl,hc,hb,hlc,iF⟩:=h;refine aG.Lt hz zQ ht (by cases hq:P.info? (P.elem t)<;>simp[hq] at hs⊢) (n _ ?_);have hl:(rows.take i).length=i:=by rw[aI];omega
 refine⟨λr hr=>h1 r (dL hr),by omega,base,cap,by rw[hl],λcj=>?_,λvT=>?_,by omega,iF⟩
 ·obtain⟨b,o,rfl,jD⟩:=hc (by rintro rfl;simp at cj);refine⟨b,o,rfl,?_⟩;rw[aG.mi i h1];obtain⟨hx,c,ty,fr,dU,uP⟩:=jD;refine⟨hx,c,ty,fr,dU,λq u hu=>?_⟩;have hq:=(List.getElem?_eq_some_iff.1 hu).1;rw[aI] at hq;rw[List.getElem?_take_of_lt zQ] at hu;exact uP _ _ hu
 ·have:=hb vT;omega
def l7 (a:Nat) (s:Nat×Int) (r:eI):Nat×Int:=if pR r.lo a then(r.hi,s.2+1)else s
def IF (l:List eI) (a:Nat):Nat×Int:=l.foldl (l7 a) (0,0)
def IG (l:List eI):Nat->Nat->Int->Int
 |0,_,_=>99
 |n+1,a,u=>if qT a GQ then(if(IF l a).2=1 then IG l n (IF l a).1 (u+1)else 14)else if u=l.length then 0 else 14
def JJ:List eI->List eI->Int
 |_,[]=>0
 |b,r::t=>if r.may then(if b.any (λo=>decide (o.id=r.id))then 9 else JJ (b++[r]) t)else 1
def A6 (l:List eI):Int:=if l.length=0 then 8 else if 12<l.length then 3 else if JJ [] l≠0 then JJ [] l else IG l (l.length+1) 0 0
theorem GX (a:Nat): ∀(l:List eI) (s:Nat×Int),s.2<=(l.foldl (l7 a) s).2/\(l.foldl (l7 a) s).2<=s.2+l.length
 |[],s=>by simp
 |r::l,s=>by
  have h:=GX a l (l7 a s r);have h1:s.2<=(l7 a s r).2/\(l7 a s r).2<=s.2+1:=by unfold l7;split<;>simp<;>omega
  rw[iz,aM];omega
theorem OZ (a:Nat): ∀(l:List eI) (s:Nat×Int),(l.foldl (l7 a) s).2=s.2->l.foldl (l7 a) s=s/\ ∀r∈l,pR r.lo a=false
 |[],s,_=>by simp
 |r::l,s,h=>by
  rw[iz] at h;have hle:=GX a l (l7 a s r);by_cases hr:pR r.lo a=true
  ·have:l7 a s r=(r.hi,s.2+1):=by unfold l7;rw[if_pos hr]
   rw[this] at hle h;simp only at hle;omega
  ·have e:l7 a s r=s:=by unfold l7;rw[if_neg hr]
   rw[e] at h;have:=OZ a l s h;rw[iz,e];exact⟨this.1,λx hx=>by
    rcases List.mem_cons.1 hx with rfl|hx
    ·simpa using hr
    ·exact this.2 x hx⟩
theorem R3 (a:Nat): ∀(l:List eI) (s:Nat×Int),(l.foldl (l7 a) s).2=s.2+1-> ∃r∈l,pR r.lo a=true/\(l.foldl (l7 a) s).1=r.hi
 |[],s,h=>by simp at h;omega
 |r::l,s,h=>by
  rw[iz] at h⊢;by_cases hr:pR r.lo a=true
  ·have e:l7 a s r=(r.hi,s.2+1):=by unfold l7;rw[if_pos hr]
   rw[e] at h⊢;have:=OZ a l (r.hi,s.2+1) h;exact⟨r,by simp,hr,by rw[this.1]⟩
  ·have e:l7 a s r=s:=by unfold l7;rw[if_neg hr]
   rw[e] at h⊢;obtain⟨q,hq,h1,h2⟩:=R3 a l s h;exact⟨q,bQ _ hq,h1,h2⟩
def later (l:List eI) (a:Nat):Nat:=(l.filter λr=>!qT r.lo a).length
theorem filter_lt {α:Type} {p q:α->Bool} : ∀{l:List α},(∀x∈l,q x=true->p x=true)->(∃x∈l,p x=true/\q x=false)->(l.filter q).length<(l.filter p).length
 |[],_,h=>by obtain⟨x,hx,_⟩:=h;cases hx
 |a::l,h,h2=>by
  have hle: ∀{l:List α},(∀x∈l,q x=true->p x=true)->(l.filter q).length<=(l.filter p).length:=λ{l} h=>by
   induction l with
   |nil=>simp
   |cons b l ih=>
    have:=ih λx hx=>h x (bQ _ hx);have hb:=h b sQ;by_cases hq:q b=true
    ·simp[eB,hq,hb hq];exact this
    ·by_cases hp:p b=true
     ·simp[eB,hq,hp];omega
     ·simp[eB,hq,hp];exact this
  have hl: ∀x∈l,q x=true->p x=true:=λx hx=>h x (bQ _ hx);obtain⟨x,hx,h3,h4⟩:=h2;rcases List.mem_cons.1 hx with rfl|hx
  ·have:=hle hl;simp[eB,h3,h4];omega
  ·have ih:=filter_lt hl ⟨x,hx,h3,h4⟩;have hb:=h a sQ;by_cases hq:q a=true
   ·simp[eB,hq,hb hq];exact ih
   ·by_cases hp:p a=true
    ·simp[eB,hq,hp];omega
    ·simp[eB,hq,hp];exact ih
theorem aiS {l:List eI} {a:Nat} (hm: ∀r∈l,r.may=true) (h:(IF l a).2=1):later l (IF l a).1<later l a:=by
 obtain⟨r,hr,h1,h2⟩:=R3 a l (0,0) h;have h2:(IF l a).1=r.hi:=h2;have h3:qT r.lo r.hi=true:=by have:=hm r hr;unfold eI.may at this;simp only[Bool.and_eq_true] at this;exact this.2
 have h4:qT a r.hi=true:=akX (ab4 h1) h3;rw[h2];refine filter_lt (λx hx hq=>?_) ⟨r,hr,?_,by rw[h3];rfl⟩
 ·cases hc:qT x.lo a with
  |false=>rfl
  |true=>rw[agv hc h4] at hq;cases hq
 ·cases hc:qT r.lo a with
  |false=>rfl
  |true=>rw[abo hc] at h1;cases h1
theorem aaf: ∀{l b:List eI},JJ b l=0->(∀r∈l,r.may=true)/\(∀r∈l,∀o∈b,o.id≠r.id)/\l.Pairwise λx y=>x.id≠y.id
 |[],b,_=>by simp
 |r::t,b,h=>by
  unfold JJ at h;by_cases hm:r.may=true
  ·rw[if_pos hm] at h;by_cases ha:(b.any λo=>decide (o.id=r.id))=true
   ·rw[if_pos ha] at h;omega
   ·rw[if_neg ha] at h;have ih:=aaf h;have ha': ∀o∈b,o.id≠r.id:=λo ho e=>ha (List.any_eq_true.2 ⟨o,ho,by simpa using e⟩);refine⟨λx hx=>?_,λx hx o ho=>?_,List.pairwise_cons.2 ⟨λx hx=>ih.2.1 x hx r sQ,ih.2.2⟩⟩
    ·rcases List.mem_cons.1 hx with rfl|hx
     ·exact hm
     ·exact ih.1 x hx
    ·rcases List.mem_cons.1 hx with rfl|hx
     ·exact ha' o ho
     ·exact ih.2.1 x hx o (by simp[ho])
  ·rw[if_neg hm] at h;omega
variable {a : Value}
theorem VU {l:List eI} (ha:Sl w X 4 a (l.map eI.l)):Ct pg 122 #[a] w X nX λv _ _=>v=I (A6 l):=by
 intro w0 hk;replace ha:=ha.mv hk.cu;have lN:=ha.ib;refine S2.1 λhs=>?_;repeat' first|refine ao ?_;intros|refine dq ?_ ?_<;>intros|(refine qr ?_;intro wa hk;(first|(unfold A6;rw[if_pos zQ])|(unfold A6;rw[if_neg zQ,if_pos zQ])))
 refine gM (λn a b w X=> ∃i:Nat,a=I i/\n=l.length-i/\i<=l.length/\aj (bV w0) w0 X w/\JJ [] l=JJ (l.take i) (l.drop i)) l.length ⟨0,rfl,rfl,au _,hs,rfl⟩ ?_;rintro n a b w X ⟨i,rfl,rfl,hi,hs,hw⟩;rcases dG (l) i with⟨cC,x,hx,hd⟩|⟨dH,hd⟩
 ·rw[hd,JJ] at hw;by_cases hm:x.may=true
  ·rw[if_pos hm] at hw;repeat' first|refine aN ?_;intros|(refine kR (wq _) hs ?_ ?_<;>intro _ w X hs)|(exfalso;simp_all;done)
   refine aiR (i:=i) (rows:=l.map eI.l) (ha.since hs) rfl (by rw[ai];omega) kQ kQ λv1 lq=>?_;rw[<-List.map_take] at lq;have B0:(l.take i).length=i:=by rw[aI];omega
   repeat' refine ao ?_;intros
   refine gh (λn a w1 X1=> ∃j:Nat,a=I (j:Nat)/\n=(l.take i).length-j/\j<=(l.take i).length/\aj X w X1 w1/\((l.take i).any λo=>decide (o.id=x.id))=(((l.take i).drop j).any λo=>decide (o.id=x.id))) (l.take i).length ⟨0,rfl,rfl,au _,aj.fT hs.has,by simp⟩ ?_;rintro n a w1 X1 ⟨j,rfl,rfl,hj,bm,uZ⟩;replace lq:=lq.since bm;replace hs:=hs.trans bm;rcases dG (l.take i) j with⟨SB,y,hy,qh⟩|⟨Fm,qh⟩
   ·rw[qh,List.any_cons] at uZ;by_cases P6:y.id=x.id
    ·repeat' first|refine aN ?_;intros|(refine qr ?_;intro wa hk;(unfold A6;rw[if_neg zQ,if_neg zQ,hw,uZ,P6];simp))
    ·repeat' first|refine aN ?_;intros|((with_reducible refine fp ((l.take i).length-(j+1)) ?_ ?_);omega;exact⟨j+1,by simp,rfl,by omega,bm,by rw[uZ];simp[P6]⟩)
   ·rw[qh] at uZ;simp only[List.any_nil] at uZ;rw[if_neg (by rw[uZ];simp)] at hw;repeat' first|refine aN ?_;intros|((with_reducible refine fK ((l).length-(i+1)) ?_ ?_);omega;exact⟨i+1,by simp,rfl,by omega,hs,by rw[hw,dr,hx];rfl⟩)
  ·rw[if_neg hm] at hw;repeat' first|refine aN ?_;intros|(refine kR (wq _) hs ?_ ?_<;>intro _ w X hs)|(exfalso;simp_all;done)|(refine qr ?_;intro wa hk;(unfold A6;rw[if_neg zQ,if_neg zQ,hw];rfl))
 ·rw[hd,ax dH,JJ] at hw;have hC:A6 l=IG l (l.length+1) 0 0:=by unfold A6;rw[if_neg zQ,if_neg zQ,if_neg zQ]
  repeat' refine aN ?_;intros
  refine amv (λn a b c d e w X=> ∃(u:Int) (gA:Nat),a=I u/\b= .float .f64 gA/\later l gA<n/\0<=u/\u+n<=l.length+1/\aj (bV w0) w0 X w/\A6 l=IG l n gA u) (l.length+1) ⟨0,0,rfl,rfl,?_,by omega,by omega,hs,hC⟩ ?_
  ·have:later l 0<=l.length:=List.length_filter_le _ _;omega
  rintro n a b c d e w X ⟨u,a0,rfl,rfl,iw,hu0,hu1,hs,we⟩;obtain⟨k,rfl⟩: ∃j,n=j+1:=⟨n-1,by omega⟩;rw[IG] at we;have vT:=GX a0 l (0,0);by_cases B0:qT a0 GQ=true
  ·rw[if_pos B0] at we;repeat' first|refine ao ?_;intros|refine dq ?_ ?_<;>intros|(exfalso;simp_all [GQ];done)
   refine C8 (λn a b c w X=> ∃i:Nat,a=I i/\b=I ((l.take i).foldl (l7 a0) (0,0)).2/\c= .float .f64 ((l.take i).foldl (l7 a0) (0,0)).1/\n=l.length-i/\i<=l.length/\aj (bV w0) w0 X w) l.length ⟨0,rfl,rfl,rfl,rfl,au _,hs⟩ ?_;rintro n a b c w X ⟨i,rfl,rfl,rfl,rfl,hi,hs⟩;have lD:=GX a0 (l.take i) (0,0);have hli:(l.take i).length=i:=by rw[aI];omega
   rw[hli] at lD;rcases dG (l) i with⟨cC,x,hx,hd⟩|⟨dH,hd⟩
   ·have fE:(l.take (i+1)).foldl (l7 a0) (0,0)=l7 a0 ((l.take i).foldl (l7 a0) (0,0)) x:=by rw[dr,hx,Au];rfl
    generalize (l.take i).foldl (l7 a0) (0,0)=s at fE lD⊢;by_cases hf:pR x.lo a0=true
    ·rw[show l7 a0 s x=(x.hi,s.2+1)by unfold l7;rw[if_pos hf]] at fE;repeat' first|refine aN ?_;intros|refine dq ?_ ?_<;>intros|with_reducible apply cK|(exfalso;simp_all;done)|((with_reducible refine AV ((l).length-(i+1)) ?_ ?_);omega;exact⟨i+1,by simp,by rw[fE],by rw[fE],rfl,by omega,hs⟩)
    ·rw[show l7 a0 s x=s by unfold l7;rw[if_neg hf]] at fE;repeat' first|refine aN ?_;intros|refine dq ?_ ?_<;>intros|with_reducible apply cK|(exfalso;simp_all;done)|((with_reducible refine AV ((l).length-(i+1)) ?_ ?_);omega;exact⟨i+1,by simp,by rw[fE],by rw[fE],rfl,by omega,hs⟩)
   ·rw[ax dH];change _/\_<=_ at vT;change A6 l=if(List.foldl (l7 a0) (0,0) l).2=1 then IG l k (List.foldl (l7 a0) (0,0) l).1 (u+1)else 14 at we
    by_cases tU:(l.foldl (l7 a0) (0,0)).2=1
    ·have cC:=aiS ((aaf hw).1) (a:=a0) tU;rw[if_pos tU] at we;unfold IF at cC;repeat' first|refine aN ?_;intros|(with_reducible refine amw k ?_ ?_);omega;exact⟨u+1,_,rfl,rfl,by omega,by omega,by omega,hs,we⟩
    ·rw[if_neg tU] at we;repeat' first|refine aN ?_;intros|(refine qr ?_;intro wa hk;(rw[we]))
  ·rw[if_neg B0] at we;repeat' first|refine ao ?_;intros|refine dq ?_ ?_<;>intros|(exfalso;exact B0 aQ)|(refine qr ?_;intro wa hk;(rw[we];first|(rw[if_pos aQ])|(rw[if_neg aQ])))
variable {kt : TypeId}
theorem PZ (h:P.underlying kt=some (.int .i64)) (e:Bool) (n:Nat) (k:Int) (w:World):(gR e (n+1) kt (I k)).run P w= .ok () w:=by simp[gR,run_underlying h]
theorem akY (h:P.underlying kt=some (.int .i64)):xk P kt (λz:Int=>I z) where
 jq e k w:=PZ h e 9999 k w
 find k l w:=by
  have: ∀(l:List (Go.aG.jy Int)) (i:Nat),kF (.int .i64) (I k) (l.map (lO λz=>I z)) i=some (tw k l i):=by
   intro l
   induction l with
   |nil=>intro i;rfl
   |cons x r ih=>
    intro i;by_cases hk:k=x.1
    ·simp[kF,lO,Instr.sameNow,tw,hk]
    ·have hb:(k==x.1)=false:=by simpa using hk
     simp[kF,lO,Instr.sameNow,tw,hk,hb,ih]
  simp[Instr.findKey,run_underlying h,this]
 same k:=by simp[Instr.sameBits]
theorem Av:xk pg 3 (λz:Int=>I z):=akY kQ
def JK:World->XS->Value->eI->Prop:=λ_ _ v x=>v=x.v
theorem P0:qU JK:=λ_ _ _ _ _ _ h _=>h
abbrev tM:=List (Int×eI)
structure mH (w:World) (X:XS) (db mb:Nat) (ds:tM):Prop where
 row:aK w X db [.map (some mb)] 224
 map:dK w X nX mb (λz:Int=>I z) JK ds
variable {w' : World} {A D X' : XS} {db mb : Nat} {ds OT : tM}
theorem mH.mv (h:mH w X db mb ds) (v:Mv X w X' w'):mH w' X' db mb ds:=⟨h.row.mv v,h.map.mv P0 v λ_ h=>h.elim⟩
theorem mH.ne (h:mH w X db mb ds):db≠mb:=λe=>by
 obtain⟨es,c,h1,_⟩:=h.map;have h2:=h1.2.1;rw[<-e,h.row.2] at h2;simp at h2
theorem mH.put (h:mH w D db mb ds) (hX: ∀k,D k->X k) (c:eh (· =mb) X w X' w') (hm:dK w' X' nX mb (λz:Int=>I z) JK OT):mH w' D db mb OT:=
 ⟨⟨h.row.1,(c.block _ (hX _ h.row.1) h.ne).trans h.row.2⟩,by obtain⟨es,c,h1,h2⟩:=hm;exact⟨es,c,⟨h.map.x.1,h1.2⟩,h2⟩⟩
def iY (ds:tM) (r:eI):tM:=if r.may then(match getM r.id ds with|some o=>if o.iC>=r.iC then ds else cI r.id r ds|none=>cI r.id r ds)else ds
theorem Oe {l:List eI} (h:mH w D db mb ds) (hD:FX D X w) (ha:Sl w A 4 a (l.map eI.l)) (hA: ∀k,A k->X k/\k≠mb):
  Ct pg 123 #[ptr db 0,a] w X (· =mb) λv _ w'=>(∃n,v=I n)/\mH w' D db mb (l.foldl iY ds):=by
 intro w0 hk;have hF:FX (· =mb) X w:=λk af=>by subst af;exact hD _ h.map.x.1
 have hT:=hF.ft hk;replace h:=h.mv (hD.mv hk);have hD0:=hD.kp hk;have hao:Sl w0 (out (· =mb) w0) 4 a (l.map eI.l):=ha.mv λk af hl=>⟨⟨av hl hk.size,(hA k af).2⟩,hk.block k (hA k af).1⟩;have lN:=hao.ib;have ha:=hao.mv hT.s.mv;refine PJ.1 λ_=>?_;have hs:=hT.s;repeat' refine ao ?_;intros
 refine gM (λn a b w X=> ∃(i:Nat) (c:Int),a=I i/\b=I c/\0<=c/\c<=i/\n=l.length-i/\i<=l.length/\Ft w0 (· =mb) w X (· =mb)/\FX D X w/\mH w D db mb ((l.take i).foldl iY ds)) l.length ⟨0,0,rfl,rfl,by omega,by omega,rfl,au _,hT,hD0,h⟩ ?_;clear hs hT h ha;rintro n _ _ w X ⟨i,c,rfl,rfl,uo,Da,rfl,hi,hT,R4,h⟩;have ha:=hao.mv hT.s.mv;have bo:=h.row.mono λk af=>(R4 k af).1;have hs:=hT.s;rcases dG (l) i with⟨cC,x,hx,hd⟩|⟨dH,hd⟩
 ·have fE:(l.take (i+1)).foldl iY ds=iY ((l.take i).foldl iY ds) x:=by rw[dr,hx,Au];rfl
  generalize (l.take i).foldl iY ds=s at fE h;have nJ: ∀{w':World} {X':XS} (c':Int),0<=c'->c'<=c+1->Ft w0 (· =mb) w' X' (· =mb)->FX D X' w'->mH w' D db mb (iY s x)->
    EX (J2 λn a b w X=> ∃(i:Nat) (c:Int),a=I i/\b=I c/\0<=c/\c<=i/\n=l.length-i/\i<=l.length/\Ft w0 (· =mb) w X (· =mb)/\FX D X w/\mH w D db mb ((l.take i).foldl iY ds)) (l.length-i) (I ((i:Int)+1)) (I c') w' X':=
   λc' q0 q1 q2 q3 q4=>fK (l.length-(i+1)) zQ ⟨i+1,c',by simp,rfl,q0,by omega,rfl,by omega,q2,q3,by rw[fE];exact q4⟩
  have La: ∀{w1:World} {X1:XS} {K:Value->World->XS->Prop},Ft w0 (· =mb) w1 X1 (· =mb)->FX D X1 w1->mH w1 D db mb s->iY s x=cI x.id x s->
    (∀w2 X2,Ft w0 (· =mb) w2 X2 (· =mb)->FX D X2 w2->mH w2 D db mb (iY s x)->K undef w2 X2)->
    eU pg (vR (· =mb) w0 λv w'=>(λv _ w'=>(∃n,v=I n)/\mH w' D db mb (l.foldl iY ds)) v w0 w') X1 w1 true (cE 222 (.map (some mb)) (I x.id) x.v) K:=λq1 q2 q3 q4 k=>by
   refine vA (kt:=3) (et:=48) (a:=x) (q3.mv (Mv.sub λk af=>(q2 k af).1)).map P0 rfl (λ_ hk=>hk.elim) Av kQ q1.s.has λw2 X2 c2 oV=>?_;rw[q4] at k;exact k w2 X2 (q1.eo c2 (λk af=>af) λk af=>.inl af) (λk af=>⟨c2.sub k (q2 k af).1,c2.has k (c2.sub k (q2 k af).1)⟩) (q3.put (λk af=>(q2 k af).1) c2 oV)
  repeat' first|refine aN ?_;intros|with_reducible apply cK
  refine E4 (kt:=3) (et:=48) (.agg #[I 0,I 0,.float .f64 0,.float .f64 0]) (h.mv (Mv.sub λk af=>(R4 k af).1)).map Av kQ kQ (λv a hg hv=>?_) (λhg=>?_)
  ·simp only[JK] at hv;subst hv;repeat' refine ao ?_;intros
   refine se (wq x) kQ hs.has λw1 X1 aC=>?_;have ej:=hT.since aC;have Va:FX D X1 w1:=λk af=>⟨aC.sub k (R4 k af).1,av (R4 k af).2 aC.kp.size⟩;have h1:=h.mv (aC.gU λk af=>(R4 k af).1);have Et:=h1.row.mono λk af=>(Va k af).1;clear hs bo;have hs:=ej.s;by_cases hm:x.may=true
   ·rw[hm];by_cases dH:a.iC>=x.iC
    ·repeat' first|refine aN ?_;intros|(exact nJ c uo zQ ej Va (by unfold iY;rw[if_pos hm,hg];simp only;rw[if_pos dH];exact h1))
    ·repeat' refine aN ?_;intros
     refine La ej Va h1 (by unfold iY;rw[if_pos hm,hg];simp only;rw[if_neg dH]) λw2 X2 da hD2 h2=>?_;repeat' first|refine ao ?_;intros|(exact nJ (c+1) zQ zQ da hD2 h2)
   ·rw[show x.may=false by simpa using hm];repeat' first|refine ao ?_;intros|(exact nJ c uo zQ ej Va (by unfold iY;rw[if_neg hm];exact h1))
  ·repeat' refine ao ?_;intros
   refine se (wq x) kQ hs.has λw1 X1 aC=>?_;have ej:=hT.since aC;have Va:FX D X1 w1:=λk af=>⟨aC.sub k (R4 k af).1,av (R4 k af).2 aC.kp.size⟩;have h1:=h.mv (aC.gU λk af=>(R4 k af).1);have Et:=h1.row.mono λk af=>(Va k af).1;clear hs bo;have hs:=ej.s;by_cases hm:x.may=true
   ·rw[hm];repeat' refine ao ?_;intros
    refine La ej Va h1 (by unfold iY;rw[if_pos hm,hg]) λw2 X2 da hD2 h2=>?_;repeat' first|refine ao ?_;intros|(exact nJ (c+1) zQ zQ da hD2 h2)
   ·rw[show x.may=false by simpa using hm];repeat' first|refine ao ?_;intros|(exact nJ c uo zQ ej Va (by unfold iY;rw[if_neg hm];exact h1))
 ·repeat' refine aN ?_;intros
  rw[ax dH] at h;exact hT.fin λwa aL=>⟨⟨c,rfl⟩,h.mv (aL.jf λk af=>(R4 k af).1)⟩
theorem afH {l:List eI} (ha:Sl w X 4 a (l.map eI.l)):
  Ct pg 74 #[a] w X nX λv wa w'=>if A6 l≠0 then v= .tuple #[.pointer none,I (A6 l)] else∃db mb D,v= .tuple #[ptr db 0,I 0]/\(∀k,D k->made wa w' k)/\mH w' D db mb (l.foldl iY []):=by
 intro w0 hk;replace ha:=ha.mv hk.cu;have hF:FX nX X w:=λk af=>af.elim;have hT:=hF.ft hk;have hs:=aj.init w0;refine aer.1 λ_=>?_;refine eT (VU ha) kQ hs.has λw1 X1 aC=>?_;replace hT:=hT.since aC;replace hs:=hs.trans aC;replace ha:=ha.since aC;by_cases hc:A6 l≠0
 ·repeat' refine aN ?_;intros
  exact hT.fin λwa aL=>by simp only[if_pos hc]
 ·repeat' refine aN ?_;intros
  refine rE (kv:=λk:Int=>I k) JK nX hT.s.has λmb w2 X2 W7 xM oV=>?_;have da:=hT.since xM;clear hs;repeat' refine ao ?_;intros
  refine AJ da.s.has λdb w3 X3 OQ cV bo=>?_;have dS:=da.since cV;have qK:=oV.mv P0 cV.mv (λ_ h=>h.elim) (A':=nX);have JS:=oV.x.2;have h3:mH w3 (λk=>k=db\/k=mb) db mb []:=⟨⟨.inl rfl,bo.2⟩,by obtain⟨es,c,h1,h2⟩:=qK;exact⟨es,c,⟨.inr rfl,h1.2⟩,h2⟩⟩;have hz:=aC.kp.size;have hD3:FX (λk=>k=db\/k=mb) X3 w3:=λk af=>by
   rcases af with e|e<;>subst e
   ·exact⟨bo.1,bo.lt⟩
   ·exact⟨qK.x.1,qK.x.2⟩
  have Fs:Ft w0 nX w3 X3 (λk=>k=mb):=dS.more λk e=>by subst e;exact .inr ⟨qK.x.1,by omega⟩
  have ha3:Sl w3 X1 4 a (l.map eI.l):=ha.mv λk af _=>⟨af,(xM.trans cV).kp.block k af⟩;refine Fs.call (Oe (A:=X1) h3 hD3 ha3 λk af=>⟨cV.sub k (xM.sub k af),λe=>by have:=hT.s.has k af;omega⟩) kQ (λ_ h=>h) λv zj w4 X4 hq tL pa fJ c4=>?_;obtain⟨_,h4⟩:=hq;have hz4:=c4.size
  skip
  exact fJ.fin λwa aL=>by
   simp only[if_neg hc];exact⟨db,mb,_,rfl,λk af=>by have:=aL.size;have:=bo.lt;have:=qK.x.2;rcases af with e|e<;>subst e<;>exact⟨by omega,by omega⟩,h4.mv (aL.jf λk af=>c4.sub k (hD3 k af).1)⟩
def eI.Su (r:eI) (x:Nat):Bool:=(J0 x r.lo||pR x r.lo)&&qT x r.hi
def zz (ds:tM) (x:Nat):Nat->Option eI
 |0=>none
 |n+1=>match getM ((n+1:Nat):Int) ds with
  |some r=>if eI.Su r x then some r else zz ds x n
  |none=>zz ds x n
def oc (ds:tM) (k:BA):Option eI:=if iL k then zz ds (placeOf k) 12 else none
theorem abp {k:BA} (h:mH w X db mb ds) (hk:k.size<=2^62):
  Ct pg 163 #[ptr db 0,.string k] w X nX λv _ _=>v= .tuple #[((oc ds k).getD .zero).v,B (oc ds k).isSome]:=by
 intro w0 iw;replace h:=h.mv iw.cu;have bo:=h.row;refine PL.1 λhs=>?_;by_cases hg:iL k=true
 ·have hR:oc ds k=zz ds (placeOf k) 12:=by unfold oc;rw[if_pos hg]
  rw[hR];clear hR;generalize aq9:zz ds (placeOf k) 12=R12;repeat' first|refine ao ?_;intros|(refine kR (lB _) hs ?_ ?_<;>intro _ w X hs)|(refine pN (JE _ (by first|assumption|omega)) hs ?_;intro w X hs)|(exfalso;simp_all;done)
  refine gM (λn a b w X=> ∃j:Nat,a=I (j:Nat)/\b=eI.zero.v/\n=j/\j<=12/\aj (bV w0) w0 X w/\R12=zz ds (placeOf k) j) 12 ⟨12,rfl,rfl,rfl,by omega,hs,aq9.symm⟩ ?_;clear hs;rintro n _ _ w X ⟨j,rfl,rfl,rfl,hj,hs,hw⟩;cases n with
  |zero=>
   repeat' first|refine aN ?_;intros|(refine qr ?_;intro wa hk;(rw[hw];rfl))
  |succ j=>
   rw[zz] at hw;repeat' refine aN ?_;intros
   refine E4 (kt:=3) (et:=48) eI.zero.v (h.mv hs.mv).map Av kQ kQ (λv r hg hv=>?_) (λhg=>?_)
   ·simp only[JK] at hv;subst hv;rw[hg] at hw;simp only at hw;change R12=if((J0 (placeOf k) r.lo||pR (placeOf k) r.lo)&&qT (placeOf k) r.hi)=true then some r else zz ds (placeOf k) j at hw
    by_cases gy:((J0 (placeOf k) r.lo||pR (placeOf k) r.lo)&&qT (placeOf k) r.hi)=true
    ·rw[if_pos gy] at hw;repeat' first|refine ao ?_;intros|with_reducible apply cK|(refine kR (JB _ _) hs ?_ ?_<;>intro _ w X hs)|(exfalso;simp_all;done)|(refine qr ?_;intro wa hk;(rw[hw];rfl))
    ·rw[if_neg gy] at hw;repeat' first|refine ao ?_;intros|with_reducible apply cK|(refine kR (JB _ _) hs ?_ ?_<;>intro _ w X hs)|(exfalso;simp_all;done)|(with_reducible refine fK j ?_ ?_);omega;exact⟨j,by congr 1;omega,rfl,rfl,by omega,hs,hw⟩
   ·rw[hg] at hw;repeat' first|refine ao ?_;intros|with_reducible apply cK|(with_reducible refine fK j ?_ ?_);omega;exact⟨j,by congr 1;omega,rfl,rfl,by omega,hs,hw⟩
 ·have hR:oc ds k=none:=by unfold oc;rw[if_neg hg]
  rw[hR];repeat' first|refine ao ?_;intros|(refine kR (lB _) hs ?_ ?_<;>intro _ w X hs)|(refine pN (JE _ (by first|assumption|omega)) hs ?_;intro w X hs)|(exfalso;simp_all;done)|(refine qr ?_;intro wa hk;rfl)
open Go.Maps Go.Shelf Go.Proofs
abbrev Aw:Int->Value:=λz=>I z
theorem aag {kt:Nat} {es:List (jy Int)} (h:mK w X b Aw es c) (hk:P.underlying kt=some (.int .i64)) (hs: ∀x∈es,-(2^63)<=x.1/\x.1<2^63) (hl:es.length<=2^40):
  ∃D0:DataW Unit,w.ownsMap P kt RT b es.length D0/\Maps.size D0=es.length/\(intKeys D0).Perm (es.map λx=>x.1):=by
 have HO:(2:Nat)^40<=maxLen:=by decide
 have lV: ∀x∈es,keyOf P kt (Aw x.1)=some (.int .i64 x.1):=λx hx=>by
  unfold keyOf mapKey;rw[hk];have:=hs x hx;have h1:IntKind.i64.min= -(2^63):=by decide
  simp[Aw,Lit.wf,h1];omega
 have jE: ∀x∈es,su P kt RT (lO Aw x)=some (.int .i64 x.1,.lit (.bool true)):=λx hx=>by
  unfold su lO RT;simp[lV x hx]
 have aiL:(es.map (lO Aw)).map (nf P kt RT)=es.map λx=>((.int .i64 x.1:Lit),(.lit (.bool true):DataW Unit)):=by
  rw[bB];apply List.map_congr_left;intro x hx;simp only[Function.comp,nf,jE x hx,BU]
 refine⟨.map (((es.map (lO Aw)).map (nf P kt RT)).foldr DataW.insert []),⟨_,c,h.2.1,⟨?_,⟨?_,?_,?_⟩,?_⟩,by simp,by simp⟩,?_,?_⟩
 ·simpa using ad hl HO
 ·intro x hx;simp only[cL,List.mem_map] at hx;obtain⟨y,hy,rfl⟩:=hx;exact h.2.2.2.2 y hy
 ·have:=h.2.2.2.1;simpa [bB,jS,lO] using this
 ·have h1:=h.2.2.1;have e:((es.map (lO Aw)).toArray.toList.map (·.key))=(es.map (·.1)).map Aw:=by simp[bB,jS,lO]
  rw[e];exact List.Pairwise.map Aw (λa b wX e=>wX (by cases e;rfl)) h1
 ·intro x hx;simp only[cL,List.mem_map] at hx;obtain⟨y,hy,rfl⟩:=hx;exact⟨_,jE y hy⟩
 ·show az _=_
  rw[(yf _).length_eq];simp
 ·show(List.map _ _).Perm _
  refine((yf _).map _).trans ?_;rw[aiL,bB];rfl
def qk (ks:List Int):List Int:=ks.mergeSort λx y=>decide (x<=y)
theorem pB (ks:List Int):(qk ks).Perm ks:=List.mergeSort_perm _ _
theorem aah (ks:List Int):(qk ks).Pairwise λx y=>x<=y:=by
 have:=List.pairwise_mergeSort (le:=λx y:Int=>decide (x<=y)) (λa b c h1 h2=>by grind) (λa b=>by grind) ks;exact this.imp λh=>by grind
theorem R5: ∀{l l':List Int},l.Perm l'->l.Pairwise (λa b=>a<=b)->l'.Pairwise (λa b=>a<=b)->l=l'
 |[],l',hp,_,_=>(List.Perm.nil_eq hp)
 |a::l,[],hp,_,_=>absurd hp.length_eq sQ
 |a::l,b::l',hp,h1,h2=>by
  have KJ:=List.pairwise_cons.1 h1;have h2':=List.pairwise_cons.1 h2;have wX:a=b:=by
   have ha:a∈b::l':=hp.mem_iff.1 sQ;have hb:b∈a::l:=hp.mem_iff.2 sQ;rcases List.mem_cons.1 ha with e|ha
   ·exact e
   ·rcases List.mem_cons.1 hb with e|hb
    ·exact e.symm
    ·have:=KJ.1 b hb;have:=h2'.1 a ha;omega
  subst wX;rw[R5 (List.Perm.cons_inv hp) KJ.2 h2'.2]
theorem aiT {ks ks':List Int} (h:ks.Perm ks'):qk ks=qk ks':=R5 (((pB ks).trans h).trans (pB ks').symm) (aah _) (aah _)
theorem aiU (m:Nat):AnyZI.SortsIn pg Tryz.OX gf m:=
  ⟨λga off cap ss W hH hblk gd=>callsIn_wide.2 (AnyM.slices_Sort_int Tryz.ajx ga off cap ss W hH hblk gd),
   λp cap W=>callsIn_wide.2 (AnyM.slices_Sort_int_none Tryz.ajx p cap W)⟩
theorem agw {g:FuncId} {lb:Array Value} {α:Type} {rd:World->XS->Value->α->Prop} {l:List (Int×α)} (h:dK w X A mb Aw rd l) (eg:enters pg g=true)
  (hs: ∀x∈l,-(2^63)<=x.1/\x.1<2^63) (hl:l.length<=2^40)
  (hg: ∀wa,Kp X w wa-> ∀(nn:Nat) (D0:DataW Unit),wa.ownsMap pg 3 RT mb nn D0->SeqGives gf 2 pg g lb encZ (λss=>ss.Perm (intKeys D0)) (Maps.size D0) wa):
  Ct pg 120 #[.func (.func g) #[] lb] w X nX λv wa w'=>Own w' (made wa w') wa.heap.size 3 1 v ((qk (l.map (·.1))).map I1):=by
 intro wa hk;obtain⟨es,c,h1,h2⟩:=h;have CH:=h2.keys;have hlen:es.length=l.length:=by have:=congrArg az CH;simpa using this
 obtain⟨D0,xC,gd,RZ⟩:=aag (P:=pg) (h1.kp hk) (kt:=3) kQ (λx hx=>by
  have:x.1∈l.map (·.1):=by rw[<-CH];exact List.mem_map.2 ⟨x,hx,rfl⟩
  obtain⟨y,hy,e⟩:=List.mem_map.1 this;rw[<-e];exact hs y hy) zQ
 have HO:(2:Nat)^40<=maxLen:=by decide
 have hS:=callsIn_wide.1 (AnyZI.sorted_in Tryz.akS gf 5 trivial trivial trivial trivial rfl zQ (aiU _) (λargs w=>nZ kQ args w) g lb trivial (λargs w=>nZ eg args w) _ _ zQ zQ wa (hg wa hk _ D0 xC));refine hS.mono ?_;rintro e w' ⟨v,ss,rfl,hp,bo,ahB,hb⟩;have hx:Ext wa w':=⟨hb.os,hb.tape,hb.output,hb.size,λk af _=>hb.block k af⟩;refine⟨v,rfl,hx,?_⟩;have e1:ss.mergeSort (λx y=>decide (x<=y))=qk (l.map (·.1)):=by
  refine aiT (hp.trans (RZ.trans ?_));rw[CH]
 have e2:((ss.mergeSort (λx y=>decide (x<=y))).map encZ)=((qk (l.map (·.1))).map I1).flatten:=by
  rw[e1];have e3: ∀q:List Int,q.map encZ=(q.map I1).flatten:=λq=>by
   induction q with
   |nil=>rfl
   |cons a q ih=>simp only[bD,cW,<-ih];rfl
  exact e3 _
 have sH:ss.length=((qk (l.map (·.1))).map I1).length:=by
  rw[ai,(pB _).length_eq,ai,<-hlen];have:=hp.length_eq;rw[this,RZ.length_eq,ai]
 refine⟨λr hr=>by obtain⟨x,_,rfl⟩:=List.mem_map.1 hr;rfl,?_,λq hq=>⟨?_,?_⟩⟩
 ·rw[<-sH,<-e2];exact bo
 ·exact(bo.lt _ hq).1
 ·exact(bo.lt _ hq).2
theorem akZ:Ct pg 164 #[.map (some mb)] w X nX λv wa w'=> ∃bx,v= .func (.func 230) #[] #[ptr bx 0]/\aK w' (made wa w') bx [.map (some mb)] 281:=by
 intro w0 hk;refine tS.1 λhs=>?_;refine uu rfl hs.has λbx w1 X1 gq aC bo=>?_;repeat' refine ao ?_;intros
 exact cG aC λwa aL=>⟨bx,rfl,⟨gq,(bo.kp aL).lt⟩,(bo.kp aL).2⟩
theorem agx {bx:Nat} {α:Type} {rd:World->XS->Value->α->Prop} {l:List (Int×α)} (h:dK w X A mb Aw rd l) (hb:aK w X bx [.map (some mb)] 281)
  (hs: ∀x∈l,-(2^63)<=x.1/\x.1<2^63) (hl:l.length<=2^40):
  Ct pg 120 #[.func (.func 230) #[] #[ptr bx 0]] w X nX λv wa w'=>Own w' (made wa w') wa.heap.size 3 1 v ((qk (l.map (·.1))).map I1):=
 agw h kQ hs hl λwa hk nn D0 xC=>
  AnyZI.keys_gives (ρ:=Tryz.UY) { Tryz.aoX with } gf _ trivial rfl zQ bx mb nn D0 wa (hb.kp hk).lt (by have:=(hb.kp hk).2;simp[World.cell?,this]) xC
abbrev GV:=List BA×Option Nat
abbrev GM:=List (Int×GV)
variable {e lo : Nat} {Y : XS}
theorem zl {v:Value} (h:Own w X lo e k v rows) (hs: ∀g,v.ownBlock=some g->Y g):Own w Y lo e k v rows:=⟨h.1,h.2.1,hs⟩
theorem Iv {v:Value} (h:Own w X lo e k v rows) (hm: ∀g,v.ownBlock=some g->Y g/\w'.heap[g]? =w.heap[g]?):Own w' Y lo e k v rows:=
 (zl h (Y:=λg=>v.ownBlock=some g) λg hg=>hg).mv λg hg _=>hm g hg
theorem aai {κ α:Type} [DecidableEq κ] {k:κ} {a:α} {l:List (κ×α)} :(k,a)∈cI k a l:=gK kD
theorem R6 {κ α:Type} [DecidableEq κ] {k:κ} {a:α} : ∀{l:List (κ×α)} {y:κ×α},y∈l->y.1≠k->y∈cI k a l
 |x::l,y,h,hy=>by
  unfold cI;split
  ·rename_i hx;rcases List.mem_cons.1 h with rfl|h
   ·exact absurd hx hy
   ·exact bQ _ h
  ·rcases List.mem_cons.1 h with rfl|h
   ·exact List.mem_cons_self
   ·exact bQ _ (R6 h hy)
theorem CZ {κ α:Type} [DecidableEq κ] {k:κ} {a:α} : ∀l:List (κ×α),(cI k a l).length<=l.length+1
 |[]=>by simp[cI]
 |x::l=>by
  have:=CZ (k:=k) (a:=a) l;unfold cI;split<;>simp[*]<;>omega
def M5 (lo:Nat) (w:World) (X:XS) (v:Value) (x:GV):Prop:=Own w X lo 9 1 v (x.1.map S1)/\v.ownBlock=x.2
theorem zA:qU (M5 lo):=λ_ _ _ _ _ _ h m=>⟨h.1.mv m,h.2⟩
def wj (gm:GM):XS:=λg=> ∃e∈gm,e.2.2=some g
def aaj (gm:GM):Prop:= ∀e∈gm,∀e'∈gm,e.1≠e'.1-> ∀g,e.2.2=some g->e'.2.2≠some g
abbrev sY:GV:=([],none)
variable {g : Nat} {gm : GM}
theorem JL {k:Int} (h:((getM k gm).getD sY).2=some g): ∃x,(k,x)∈gm/\x=(getM k gm).getD sY:=by
 cases hg:getM k gm with
 |none=>rw[hg] at h;cases h
 |some x=>exact⟨x,gK hg,rfl⟩
theorem aak {k:Int} (h:dK w X A mb Aw (M5 lo) gm) (n: ∀v,M5 lo w A v ((getM k gm).getD sY)->N v):
  aZ pg X w (Instr.lookup 281 (.map (some mb)) (I k) false) N:=by
 refine nh (kt:=3) (et:=40) (kv:=Aw) (.slice none 0 0) h Av kQ kQ (λv a hg hv=>n v ?_) (λhg=>n (.slice none 0 0) ?_)
 ·rw[hg];exact hv
 ·rw[hg];exact⟨Own.nil _ _ _ _ _,rfl⟩
theorem anw {k:Int} (h:mH w X db mb ds) (n:N ((getM k ds).getD .zero).v):aZ pg X w (Instr.lookup 222 (.map (some mb)) (I k) false) N:=by
 refine nh (kt:=3) (et:=48) (kv:=Aw) eI.zero.v h.map Av kQ kQ (λv a hg hv=>?_) (λhg=>?_)
 ·simp only[JK] at hv;subst hv;rw[hg] at n;exact n
 ·rw[hg] at n;exact n
theorem aaj.put {k:Int} {x:GV} {sz:Nat} (hn:(gm.map (·.1)).Nodup) (h:aaj gm) (cC: ∀g,wj gm g->g<sz) (hx: ∀g,x.2=some g->((getM k gm).getD sY).2=some g\/sz<=g):
  aaj (cI k x gm)/\ ∀g,wj (cI k x gm) g->wj gm g\/x.2=some g:=by
 have key: ∀e'∈gm,e'.1≠k-> ∀g,x.2=some g->e'.2.2≠some g:=λe' Ai cj g hg rQ=>by
  rcases hx g hg with h1|h1
  ·obtain⟨y,hy,e⟩:=JL h1;exact h (k,y) hy e' Ai (λe=>cj e.symm) g (by rw[e];exact h1) rQ
  ·have:=cC g ⟨e',Ai,rQ⟩;omega
 refine⟨λe he e' Ai cj g hg=>?_,λg ⟨e,he,hg⟩=>?_⟩
 ·rcases mU hn he with rfl|⟨h1,h2⟩
  ·rcases mU hn Ai with rfl|⟨h3,h4⟩
   ·exact absurd rfl cj
   ·exact key e' h3 h4 g hg
  ·rcases mU hn Ai with rfl|⟨h3,h4⟩
   ·exact λrQ=>key e h1 h2 g rQ hg
   ·exact h e h1 e' h3 cj g hg
 ·rcases mU hn he with rfl|⟨h1,h2⟩
  ·exact .inr hg
  ·exact .inl ⟨e,h1,hg⟩
def jc (ds:tM):List (Int×List BA)->List BA->List (Int×List BA)×Int
 |m,[]=>(m,0)
 |m,k::r=>if iL k then(match oc ds k with
  |none=>(m,8)
  |some g=>jc ds (if((getM g.id m).getD []).any (λx=>decide (k=x))then m else cI g.id (((getM g.id m).getD [])++[k]) m) r)else(m,10)
structure oW where
 pt:eI
 keys:List BA
def oW.rd (w:World) (X:XS) (l:List Value) (g:oW):Prop:= ∃v,l=g.pt.l++[v]/\Sl w X 1 v (g.keys.map S1)
theorem oW.mv:GH oW.rd:=λ⟨v,h,h1⟩ m=>⟨v,h,h1.mv m⟩
def mV (ds:tM) (m:List (Int×List BA)):List oW:=(qk (m.map (·.1))).map λid=>⟨(getM id ds).getD .zero,(getM id m).getD []⟩
def zB (gm:GM):List (Int×List BA):=gm.map λe=>(e.1,e.2.1)
theorem R7 (k:Int) (gm:GM):(getM k (zB gm)).getD []=((getM k gm).getD sY).1:=by
 rw[zB,Z2 (λx:GV=>x.1)];cases getM k gm<;>rfl
theorem aeJ (k:Int) (x:GV) (gm:GM):zB (cI k x gm)=cI k x.1 (zB gm):=PX (λx:GV=>x.1) k x gm
theorem abq (gm:GM):(zB gm).map (·.1)=gm.map (·.1):=by simp[zB,bB,jS]
theorem HG {x:Nat} : ∀{n:Nat} {r:eI},zz ds x n=some r-> ∃j:Nat,1<=j/\j<=n/\getM (j:Int) ds=some r/\eI.Su r x=true
 |0,r,h=>by cases h
 |n+1,r,h=>by
  rw[zz] at h;cases hg:getM ((n+1:Nat):Int) ds with
  |none=>
   rw[hg] at h;obtain⟨j,h1,h2,h3⟩:=HG h;exact⟨j,h1,by omega,h3⟩
  |some q=>
   rw[hg] at h;simp only at h;by_cases hq:eI.Su q x=true
   ·rw[if_pos hq] at h;cases h;exact⟨n+1,by omega,by omega,hg,hq⟩
   ·rw[if_neg hq] at h;obtain⟨j,h1,h2,h3⟩:=HG h;exact⟨j,h1,by omega,h3⟩
variable {r : eI}
theorem Om {k:BA} (h:oc ds k=some r): ∃j:Nat,1<=j/\j<=12/\getM (j:Int) ds=some r/\eI.Su r (placeOf k)=true:=by
 unfold oc at h;split at h
 ·exact HG h
 ·cases h
theorem Oo {keys:List BA} (h:mH w X db mb ds) (hW: ∀(i:Int) (r:eI),getM i ds=some r->r.id=i) (ha:Sl w X 1 a (keys.map S1)) (hl:keys.length<=2^30) (gd: ∀k∈keys,k.size<=2^62):
  Ct pg 111 #[ptr db 0,a] w X nX λv wa w'=>if(jc ds [] keys).2≠0 then v= .tuple #[.slice none 0 0,I (jc ds [] keys).2] else∃vl,v= .tuple #[vl,I 0]/\eQ w' (made wa w') 5 vl oW.rd (mV ds (jc ds [] keys).1):=by
 intro w0 hk;replace h:=h.mv hk.cu;replace ha:=ha.mv hk.cu;generalize hR:jc ds [] keys=R;refine PI.1 λhs=>?_;refine rE (kv:=Aw) (M5 w0.heap.size) nX hs.has λgb w1 X1 hgb aC pr=>?_;have Ls:dK w1 X1 (wj []) gb Aw (M5 w0.heap.size) []:=pr.mv zA (Mv.sub λ_ h=>h) λk h=>h.elim;replace hs:=hs.trans aC;have rS:=ha.mv hs.mv;repeat' refine ao ?_;intros
 refine gh (λn a w X=> ∃(i:Nat) (gm:GM),a=I i/\n=keys.length-i/\i<=keys.length/\aj (bV w0) w0 X w/\dK w X (wj gm) gb Aw (M5 w0.heap.size) gm/\(∀g,wj gm g->X g/\w0.heap.size<=g/\g≠gb)/\aaj gm/\
  (∀e∈gm,1<=e.1/\e.1<=12/\e.2.1.length<=i)/\gm.length<=i/\R=jc ds (zB gm) (keys.drop i)) keys.length ⟨0,[],rfl,rfl,au _,hs,Ls,λg ⟨e,he,_⟩=>absurd he sQ,λe he=>absurd he sQ,λe he=>absurd he sQ,aq _,hR.symm⟩ ?_
 clear hs aC pr Ls rS hR;rintro n _ w X ⟨i,gm,rfl,rfl,hi,hs,hm,IH,aeK,hlen,gW,hw⟩;have rS:=ha.mv hs.mv;rcases dG (keys) i with⟨cC,k,hx,hd⟩|⟨dH,hd⟩
 ·rw[hd,jc] at hw;repeat' first|refine aN ?_;intros|with_reducible apply cK
  refine se (lB k) kQ hs.has λw1' X1' aC=>?_;replace hm:=hm.mv zA aC.mv (aC.gU λg hg=>(IH g hg).1);replace IH: ∀g,wj gm g->X1' g/\w0.heap.size<=g/\g≠gb:=λg hg=>⟨aC.sub g (IH g hg).1,(IH g hg).2⟩;replace hs:=hs.trans aC;clear aC rS;by_cases hg:iL k=true
  ·rw[if_pos hg] at hw;rw[hg];repeat' refine ao ?_;intros
   refine eT (abp (h.mv hs.mv) (gd k (aB hx))) kQ hs.has λw2 X2 bm=>?_;cases hr:oc ds k with
   |none=>
    rw[hr] at hw;simp only at hw;replace hs:=hs.trans bm;simp only[Option.getD_none,Option.isSome_none];repeat' first|refine ao ?_;intros|(refine qr ?_;intro wa hk;(rw[hw];simp))
   |some r=>
    rw[hr] at hw;simp only at hw;simp only[BU,Option.isSome_some];obtain⟨j,hj1,hj2,hj3,hj4⟩:=Om hr;have AQ:1<=r.id/\r.id<=12:=by have:=hW _ _ hj3;omega
    rw[R7] at hw;have oV:=hm.mv zA bm.mv (bm.gU λg hg=>(IH g hg).1);have aal: ∀g,wj gm g->X2 g/\w0.heap.size<=g/\g≠gb:=λg hg=>⟨bm.sub g (IH g hg).1,(IH g hg).2⟩;clear hm IH;replace hs:=hs.trans bm;clear bm;repeat' refine ao ?_;intros
    refine aak oV λv hv=>?_;have nI:(((getM r.id gm).getD sY).1).length<=i:=by
     cases JZ:getM r.id gm with
     |none=>simp
     |some x=>exact(hlen _ (gK JZ)).2.2
    have MW:=hv.1.mono λg hg=>(aal g hg).1;refine eT (vC MW.sl) kQ hs.has λw3 X3 cV=>?_;have qK:=oV.mv zA cV.mv (cV.gU λg hg=>(aal g hg).1);have pZ: ∀g,wj gm g->X3 g/\w0.heap.size<=g/\g≠gb:=λg hg=>⟨cV.sub g (aal g hg).1,(aal g hg).2⟩;clear oV aal hv MW;replace hs:=hs.trans cV;clear cV;by_cases hc:(((getM r.id gm).getD sY).1.any λx=>decide (k=x))=true
    ·rw[if_pos hc] at hw;rw[hc];repeat' first|refine ao ?_;intros|((with_reducible refine fp ((keys).length-(i+1)) ?_ ?_);omega;exact⟨i+1,gm,by simp,rfl,by omega,hs,qK,pZ,aeK,λe he=>by have:=hlen e he;omega,by omega,hw⟩)
    ·rw[if_neg hc] at hw;rw[Bool.eq_false_iff.2 hc];repeat' refine ao ?_;intros
     refine aak qK λv hv=>?_;have MW:=hv.1.mono λg hg=>(pZ g hg).1;have Ts: ∀g,wj gm g->g<w3.heap.size:=λg hg=>hs.has g (pZ g hg).1;have acq:=hs;have KG: ∀{w3':World} {X3':XS} {s:Value},aj X3 w3 X3' w3'->Sl w3' X3' 1 s [[.string k]]->
       eV pg (vR nX w0 λv w'=>if R.snd≠0 then v=dA #[tI none 0 0,I R.snd] else∃vl,v=dA #[vl,I 0]/\eQ w' (made w0 w') 5 vl oW.rd (mV ds R.fst)) X3' w3' true (pI 40 9 1 16 40 v s) λx48 ara arb=>
        eU pg (vR nX w0 λv w'=>if R.snd≠0 then v=dA #[tI none 0 0,I R.snd] else∃vl,v=dA #[vl,I 0]/\eQ w' (made w0 w') 5 vl oW.rd (mV ds R.fst)) arb ara true (cE 281 (.map (some gb)) (I r.id) x48) λx anx anz=>
         aZ pg anz anx (binOp .add 3 (I i) (I 1)) λx49=>EW (J1 λn a w X=> ∃(i:Nat) (gm:GM),a=I i/\n=keys.length-i/\i<=keys.length/\aj (bV w0) w0 X w/\dK w X (wj gm) gb Aw (M5 w0.heap.size) gm/\(∀g,wj gm g->X g/\w0.heap.size<=g/\g≠gb)/\aaj gm/\
          (∀e∈gm,1<=e.1/\e.1<=12/\e.2.1.length<=i)/\gm.length<=i/\R=jc ds (zB gm) (keys.drop i)) (keys.length-i) x49 anx anz:=λ{w3'} {X3'} {s} hsx nV=>by
      have arc:=qK.mv zA hsx.mv (hsx.gU λg hg=>(pZ g hg).1);have Ia:M5 w0.heap.size w3' (wj gm) v ((getM r.id gm).getD sY):=zA _ _ _ _ _ _ hv (hsx.gU λg hg=>(pZ g hg).1);have ao1: ∀g,wj gm g->X3' g/\w0.heap.size<=g/\g≠gb:=λg hg=>⟨hsx.sub g (pZ g hg).1,(pZ g hg).2⟩;have ao2: ∀g,wj gm g->g<w3'.heap.size:=λg hg=>av (Ts g hg) hsx.kp.size;replace MW:=MW.since hsx;have ajz:=hs.trans hsx;clear qK hv pZ Ts hs;have qK:=arc;have hv:=Ia;have pZ:=ao1;have Ts:=ao2;have hs:=ajz;refine qQ (bytes:=16) (X0:=bV w0) MW hs (λ_ h=>h) kQ nV (by simp[aG.one]) (by simp only[ai,dm];omega) (by simp only[ai,dm];omega) λv4 w4 X4 fR Gz Fq ard=>?_;have hx4: ∀g,v4.ownBlock=some g->((getM r.id gm).getD sY).2=some g\/w3'.heap.size<=g:=λg hg=>by
       rcases ard with e|⟨g',e,dH⟩
       ·left;rw[<-hv.2,<-e,hg]
       ·right;rw[e] at hg;cases hg;exact dH
      have Gm:=aeK.put (k:=r.id) (x:=((((getM r.id gm).getD sY).1++[k]),v4.ownBlock)) qK.nodup Ts hx4;have hblk: ∀g,ga v g->wj gm g:=λg hg=>by
       have hg:v.ownBlock=some g:=hg;rw[hv.2] at hg;obtain⟨y,hy,e⟩:=JL hg;exact⟨_,hy,by rw[e];exact hg⟩
      have hva:M5 w0.heap.size w4 (λg=>v4.ownBlock=some g) v4 ((((getM r.id gm).getD sY).1++[k]),v4.ownBlock):=⟨Go.Proofs.YtgfijddlkhkopaaGreat.zl (by simpa using Gz) λg hg=>hg,rfl⟩;have HO:aeg w4 X4 (wj (cI r.id ((((getM r.id gm).getD sY).1++[k]),v4.ownBlock) gm)) gb Aw (M5 w0.heap.size) r.id gm:=dK.toX qK (λg hg _=>by
        have hg:g=gb:=hg;subst hg;exact⟨Fq.sub _ qK.x.1,Fq.block _ qK.x.1 λh=>(pZ _ (hblk _ h)).2.2 rfl⟩) λy u hy cj jE=>⟨Iv jE.1 λg hg=>⟨⟨y,R6 hy cj,jE.2.symm.trans hg⟩,Fq.block g (pZ g ⟨y,hy,jE.2.symm.trans hg⟩).1 λh=>by
       have h:v.ownBlock=some g:=h;rw[hv.2] at h;obtain⟨q,hq,e⟩:=JL h;exact aeK _ hq y hy (λe'=>cj e'.symm) g (by rw[e];exact h) (jE.2.symm.trans hg)⟩,jE.2⟩
      have anA:M5 w0.heap.size w4 (wj (cI r.id ((((getM r.id gm).getD sY).1++[k]),v4.ownBlock) gm)) v4 ((((getM r.id gm).getD sY).1++[k]),v4.ownBlock):=⟨hva.1.mono λg hg=>⟨_,aai,hg⟩,rfl⟩;have aeL: ∀g,wj (cI r.id ((((getM r.id gm).getD sY).1++[k]),v4.ownBlock) gm) g->X4 g/\w0.heap.size<=g/\g≠gb:=λg hg=>by
       rcases Gm.2 g hg with h1|h1
       ·exact⟨Fq.sub g (pZ g h1).1,(pZ g h1).2⟩
       ·have h1:v4.ownBlock=some g:=h1;refine⟨Gz.2.2 g h1,(Gz.ge h1).1,λe=>?_⟩;rcases hx4 g h1 with h2|h2
        ·obtain⟨y,hy,e'⟩:=JL h2;exact(pZ g ⟨_,hy,by rw[e'];exact h2⟩).2.2 e
        ·have:=qK.x.2;omega
      refine af8 (k:=r.id) (kv:=Aw) (kt:=3) (et:=40) HO zA anA (λg hg=>⟨(aeL g hg).1,(aeL g hg).2.2⟩) Av kQ fR.has λw5 X5 Fg xx=>?_;have tg:aj (bV w0) w0 X5 w5:=fR.eo Fg λg hg e=>by have:g<w0.heap.size:=hg;omega
      have are: ∀g,wj (cI r.id ((((getM r.id gm).getD sY).1++[k]),v4.ownBlock) gm) g->X5 g/\w0.heap.size<=g/\g≠gb:=λg hg=>⟨Fg.sub g (aeL g hg).1,(aeL g hg).2⟩;have ao3: ∀e∈cI r.id ((((getM r.id gm).getD sY).1++[k]),v4.ownBlock) gm,1<=e.1/\e.1<=12/\e.2.1.length<=i+1:=λe he=>by
       rcases mU qK.nodup he with rfl|⟨h1,_⟩
       ·exact⟨AQ.1,AQ.2,by simp only[aa,dm];omega⟩
       ·have:=hlen e h1;omega
      have ast:=CZ (k:=r.id) (a:=((((getM r.id gm).getD sY).1++[k]),v4.ownBlock)) gm;have hw5:R=jc ds (zB (cI r.id ((((getM r.id gm).getD sY).1++[k]),v4.ownBlock) gm)) (keys.drop (i+1)):=by rw[aeJ];exact hw
      clear hs acq ajz hv MW hva anA HO qK pZ Ts Gz fR;repeat' first|refine ao ?_;intros|((with_reducible refine fp ((keys).length-(i+1)) ?_ ?_);omega;exact⟨i+1,_,by simp,rfl,by omega,tg,xx,are,Gm.1,ao3,by omega,hw5⟩)
     clear qK pZ Ts acq;repeat' first|(exact KG (aC.less λ_ h=>h) ho.sl)|(with_reducible apply Xw);(case hX=>exact hs.has);(case he=>kernel_rfl);(case ho=>first|rfl|assumption);(case hk=>rfl);intro acc w X aC ho|(refine And.intro ?_ ?_)
  ·rw[if_neg hg] at hw;rw[show iL k=false by simpa using hg];repeat' first|refine ao ?_;intros|(refine qr ?_;intro wa hk;(rw[hw];simp))
 ·rw[hd,jc] at hw;rw[hw];repeat' refine aN ?_;intros
  refine cA akZ kQ hs.has ?_;rintro _ wa w2 X2 ⟨bx,rfl,hb⟩ hle gy bm;have oV:=hm.mv zA bm.mv (bm.gU λg hg=>(IH g hg).1);have M3:=hs.trans bm;refine cA (agx oV (hb.mono gy) (λe he=>by have:=hlen e he;omega) (by have:az gm<=i:=gW;omega)) kQ M3.has ?_;rintro vs wb w3 X3 ho qy mr cV;have qK:=oV.mv zA cV.mv (cV.gU λg hg=>bm.sub g (IH g hg).1);have pZ: ∀g,wj gm g->X3 g/\w0.heap.size<=g:=λg hg=>⟨cV.sub g (bm.sub g (IH g hg).1),(IH g hg).2.1⟩;have hsB:=M3.trans cV;have wV:Own w3 X3 w0.heap.size 3 1 vs ((qk (gm.map (·.1))).map I1):=ho.up mr (by have:=M3.kp.size;omega);have Xl:(qk (gm.map (·.1))).length=gm.length:=by rw[(pB _).length_eq,ai]
  rw[show mV ds (zB gm,(0:Int)).1=(qk (gm.map (·.1))).map λid=>(⟨(getM id ds).getD .zero,((getM id gm).getD sY).1⟩:oW)by simp only[mV,abq,R7]];generalize qk (gm.map (·.1))=ids at wV Xl⊢;clear hs bm cV M3 hm oV ho hb IH rS;have hs:=hsB;have nV:=wV.sl;have arf:az gm<=i:=gW;repeat' refine ao ?_;intros
  have hlN:ids.length<=2^30:=by omega
  clear dH hd hw hlen gW aeK hi arf;refine gM (λn a b w X=> ∃(j:Nat) (rows:List (List Value)),a=I j/\n=ids.length-j/\j<=ids.length/\aj (bV w0) w0 X w/\Own w X w0.heap.size 140 5 b rows/\rows.length=j/\(∀g,X3 g->X g/\w.heap[g]? =w3.heap[g]?)/\(∀g,b.ownBlock=some g-> ¬X3 g)/\
   ∀(q:Nat) (r:List Value),rows[q]? =some r-> ∃id v,ids[q]? =some id/\r=((getM id ds).getD .zero).l++[v]/\Sl w (wj gm) 1 v (((getM id gm).getD sY).1.map S1)) ids.length
   ⟨0,[],rfl,rfl,au _,hs,Own.nil _ _ _ _ _,rfl,λg hg=>⟨hg,rfl⟩,nofun,λq r hr=>?_⟩ ?_
  ·cases hr
  clear hs;rintro n _ b w X ⟨j,rows,rfl,rfl,hj,hs,yJ,rG,M6,l8,CN⟩;have anB: ∀{Y:XS},(∀g,Y g->X3 g)->Mv Y w3 X w:=λhY g hg _=>M6 g (hY g hg);have Cl:=wV.sl.mv (anB λg hg=>hg);have Et:=h.row.mv hs.mv;rcases dG ids j with⟨cC,id,hx,hd⟩|⟨dH,hd⟩
  ·repeat' refine aN ?_;intros
   refine anw (h.mv hs.mv) ?_;refine aak (qK.mv zA (anB λg hg=>hg) λg hg _=>⟨hg,(M6 g (pZ g hg).1).2⟩) λv hv=>?_;obtain⟨vb,vn,vc,rfl⟩:=hv.1.sl.form;have ov:aG.one (.slice vb vn vc)=true:=rfl;repeat' first|refine ao ?_;intros|(with_reducible apply QG);(case hX=>exact hs.has);(case he=>kernel_rfl);(case hk=>rfl);intro acc w X aC ho;obtain⟨_,_,_,rfl⟩:=ho.sl.form;replace hs:=hs.trans aC
   refine qQ (bytes:=56) (X0:=bV w0) (yJ.since aC) hs (λ_ h=>h) kQ ho.sl (λr hr u hu=>?_) (by simp only[dm];omega) (by simp only[dm];omega) λv5 w5 X5 tg vX Fg yX=>?_
   ·rw[aw] at hr;subst hr;simp only[List.mem_cons,dC,or_false] at hu;rcases hu with rfl|rfl|rfl|rfl|rfl<;>first|rfl|exact ov
   have aeM: ∀g,X3 g->X5 g/\w5.heap[g]? =w3.heap[g]? :=λg hg=>⟨Fg.sub g (aC.sub g (M6 g hg).1),(Fg.block g (aC.sub g (M6 g hg).1) λe=>l8 g e hg).trans ((aC.kp.block g (M6 g hg).1).trans (M6 g hg).2)⟩;have arh: ∀g,v5.ownBlock=some g-> ¬X3 g:=λg hg hx3=>by
    rcases yX with e|⟨g',e,dH⟩
    ·exact l8 g (e▸hg) hx3
    ·rw[e] at hg;cases hg;have:=aC.has g (aC.sub g (M6 g hx3).1);omega
   have Dg: ∀(q:Nat) (r:List Value),(rows++[((getM id ds).getD .zero).l++[.slice vb vn vc]])[q]? =some r-> ∃id v,ids[q]? =some id/\r=((getM id ds).getD .zero).l++[v]/\Sl w5 (wj gm) 1 v (((getM id gm).getD sY).1.map S1):=λq r hr=>by
    have xx: ∀{u:Value} {rs:List (List Value)},Sl w3 (wj gm) 1 u rs->Sl w5 (wj gm) 1 u rs:=λh=>h.mv λg hg _=>⟨hg,(aeM g (pZ g hg).1).2⟩;rcases Nat.lt_trichotomy q rows.length with hq|hq|hq
    ·rw[List.getElem?_append_left hq] at hr;obtain⟨id',v',e1,e2,e3⟩:=CN q r hr;exact⟨id',v',e1,e2,e3.mv λg hg _=>⟨hg,(aeM g (pZ g hg).1).2.trans (M6 g (pZ g hg).1).2.symm⟩⟩
    ·subst hq;rw[cP (aq _)] at hr;simp only[Nat.sub_self,List.getElem?_cons_zero,ah] at hr;exact⟨id,_,by rw[rG];exact hx,hr.symm,hv.1.sl.mv λg hg _=>⟨hg,(aeM g (pZ g hg).1).2.trans (M6 g (pZ g hg).1).2.symm⟩⟩
    ·rw[List.getElem?_eq_none oQ] at hr;cases hr
   replace hs:=tg;repeat' first|refine ao ?_;intros|((with_reducible refine fK (ids.length-(j+1)) ?_ ?_);omega;exact⟨j+1,_,by simp,rfl,by omega,tg,vX,by simp;omega,aeM,arh,Dg⟩)
  ·repeat' refine aN ?_;intros
   refine cG hs λFl aL=>?_;simp only[ne_eq,not_true_eq_false,if_false];refine⟨b,rfl,rows,(yJ.kp aL).tight.sl,by rw[ai];omega,λq r g hr hg=>?_⟩;obtain⟨id,v,e1,e2,e3⟩:=CN q r hr;rw[List.getElem?_map,e1] at hg;cases hg;exact⟨v,e2,e3.mv λg hg _=>⟨⟨(pZ g hg).2,av (hs.has g (M6 g (pZ g hg).1).1) aL.size⟩,aL.block g (M6 g (pZ g hg).1).1⟩⟩
theorem ak0 {t:Nat} {v:Value} {z:Int} (h:Own w Y lo e k v rows) (hz:z=i) (hi:i<=rows.length) (ht:pg.underlying t=some (.slice (pg.elem t))) (hs:((pg.info? (pg.elem t)).map (·.size)).isSome=true)
  (n: ∀v',Own w Y lo e k v' (rows.take i)->N v'):aZ pg X w (Instr.sliceAt t v none (some (.int .i64 z)) none) N:=by
 rcases h.row with⟨rfl,rfl⟩|⟨g,cap,cs,rfl,gv,bo,ql,iF,qi,px⟩
 ·have h0:i=0:=by simpa using hi
  subst h0;exact Lt hz (aq _) ht hs (n _ (Own.nil _ _ _ _ _))
 ·have hr: ∀r∈rows,r.length=k:=h.1;refine Lt hz zQ ht hs (n _ (Own.Ic (n:=i) bo gv (λr jZ=>hr r (dL jZ)) (by rw[aI];omega) zQ iF qi ?_));have h1:=congrArg (List.take (i*k)) px;rw[List.take_take,Nat.min_eq_left (Nat.mul_le_mul_right k hi)] at h1;rw[h1];have Lu:rows.flatten=(rows.take i).flatten++(rows.drop i).flatten:=by rw[<-dV,gX]
  have hl:((rows.take i).flatten).length=i*k:=by rw[lU (k:=k) λr jZ=>hr r (dL jZ),aI,Nat.min_eq_left hi]
  rw[Lu,List.take_append_of_le_length zQ,ax zQ]
theorem ab5 {v:Value} (h:Own w X lo e k v rows) (hg:v.ownBlock=some g): ∃cs:List Value,w.heap[g]? =some (.cells cs.toArray e (0,0)):=by
 rcases h.row with⟨rfl,_⟩|⟨b,cap,cs,rfl,_,hr,_⟩
 ·cases hg
 ·simp only[Value.ownBlock,ah] at hg;subst hg;exact⟨cs,hr.2⟩
theorem agy {κ α:Type} [DecidableEq κ] {v:Value} {kv:κ->Value} {rd:World->XS->Value->α->Prop} {l:List (κ×α)} (h:Own w X lo e k v rows) (hm:dK w Y A b kv rd l):v.ownBlock≠some b:=λhg=>by
 obtain⟨cs,h1⟩:=ab5 h hg;obtain⟨es,c,h2,_⟩:=hm;rw[h2.2.1] at h1;cases h1
variable {cs : List Value}
theorem GF {e':Nat} {v:Value} (h:Own w X lo e k v rows) (hr:aK w Y g cs e') (he:decide (e≠e')=true):v.ownBlock≠some g:=λhg=>by
 obtain⟨c,h1⟩:=ab5 h hg;rw[hr.2] at h1;simp only[ah,Obj.cells.injEq] at h1;exact of_decide_eq_true he h1.2.1.symm
def nA:World->XS->Value->gJ->Prop:=λ_ _ v x=>v=x.v
theorem kH:qU nA:=λ_ _ _ _ _ _ h _=>h
abbrev runT:Nat:=295
abbrev anC:Nat:=97
structure ir (w:World) (N:XS) (rb sb wb:Nat) (wU:Value) (s:List gJ) (wr:List (BA×gJ)):Prop where
 row:aK w N rb [wU,.map (some sb),.map (some wb)] runT
 own:Own w N 0 anC 3 wU (s.reverse.map gJ.l)
 map:dK w N nX wb Value.string nA wr
variable {sb wb : Nat}
section
variable {N N' G : XS} {rb : Nat} {wU oI : Value} {s s' : List gJ} {wr oU : List (BA × gJ)}
theorem ir.mv (h:ir w N rb sb wb wU s wr) (v:Mv N w N' w'):ir w' N' rb sb wb wU s wr:=⟨h.row.mv v,h.own.mv v,h.map.mv kH v λ_ h=>h.elim⟩
theorem ir.ne (h:ir w N rb sb wb wU s wr):wb≠rb:=h.map.eP h.row
theorem ir.ns (h:ir w N rb sb wb wU s wr):wU.ownBlock≠some rb/\wU.ownBlock≠some wb:=⟨GF h.own h.row kQ,agy h.own h.map⟩
theorem lH {κ α:Type} [DecidableEq κ] {kv:κ->Value} {rd:World->XS->Value->α->Prop} {l:List (κ×α)} (h:dK w X A b kv rd l) (hb:Y b):dK w Y A b kv rd l:=by
 obtain⟨es,c,h1,h2⟩:=h;exact⟨es,c,⟨hb,h1.2⟩,h2⟩
theorem M7 {v:gJ} (h:ir w N rb sb wb wU (v::s) wr) (hN:FX N X w):Ct pg 236 #[ptr rb 0] w X N λx wa w'=>x=v.v/\ ∃oI,ir w' N rb sb wb oI s wr:=by
 intro w0 hk;have hT:=hN.ft hk;replace h:=h.mv (hN.mv hk);have Kc:=hN.kp hk;have bo:=h.row.mono λk af=>(Kc k af).1;have nV:=(h.own.mono λk af=>(Kc k af).1).sl;rw[uO] at nV;have hv:(s.reverse++[v])[s.reverse.length]? =some v:=by rw[cP (aq _)];simp
 have hlen:=nV.ib;simp only[aa,sX,dm] at hlen;have wS:(s.reverse++[v]).length=s.length+1:=by simp
 have hl3:s.reverse.length=s.length:=by simp
 obtain⟨q1,q2,q3,rfl⟩:=nV.form;refine RL.1 λ_=>?_;repeat' refine ao ?_;intros
 have ho:=h.own;rw[uO] at ho;refine ak0 (i:=s.length) ho zQ (by rw[ai];omega) kQ kQ λv2 lv=>?_;rw[<-List.map_take,ic hl3] at lv;obtain⟨t1,t2,t3,rfl⟩:=lv.sl.form;have ov2:aG.one (.slice t1 t2 t3)=true:=rfl;repeat' refine ao ?_;intros
 refine qj (o:=0) bo zQ kQ sQ rfl hT.s.has λw1 X1 c1 ari=>?_;have ej:=hT.eo (F':=N) c1 (λk af=>by subst af;exact h.row.1) λk af=>.inl af;have cj:=GF lv h.row kQ;have h1:ir w1 N rb sb wb (.slice t1 t2 t3) s wr:=⟨⟨h.row.1,ari.2⟩,Iv lv λg hg=>⟨lv.2.2 g hg,c1.block g (Kc g (lv.2.2 g hg)).1 λe=>cj (by rw[<-e];exact hg)⟩,
  (lH h.map (Y:=(· =wb)) rfl).mv kH (λg hg _=>by subst hg;exact⟨h.map.x.1,c1.block _ (Kc _ h.map.x.1).1 h.ne⟩) λ_ h=>h.elim⟩
 repeat' refine ao ?_;intros
 exact ej.fin λwa aL=>⟨rfl,_,h1.mv (aL.jf ej.br)⟩
theorem IS {v:gJ} (h:ir w N rb sb wb wU s wr) (hN:FX N X w) (hl:s.length<=2^30):Ct pg 234 #[ptr rb 0,v.v] w X N λ_ wa w'=> ∃N' oI,(∀k,N' k->N k\/made wa w' k)/\ir w' N' rb sb wb oI (v::s) wr:=by
 intro w0 hk;have hT:=hN.ft hk;replace h:=h.mv (hN.mv hk);have Kc:=hN.kp hk;have bo:=h.row.mono λk af=>(Kc k af).1;have hs:=aj.init w0;refine PM.1 λ_=>?_;repeat' first|refine ao ?_;intros|(with_reducible apply QG);(case hX=>exact hs.has);(case he=>kernel_rfl);(case hk=>rfl);intro acc w X aC ho;obtain⟨_,_,_,rfl⟩:=ho.sl.form;replace hs:=hs.trans aC
 have ej:=hT.since aC;have arj:=aC.gU λk af=>(Kc k af).1;have h1:=h.mv arj;refine Ip (bytes:=32) (h1.own.mono λk af=>aC.sub k (Kc k af).1) aC.has (au _) kQ ho.sl (λr hr u hu=>?_) (by simp only[dm,ai,sX];omega) (by simp only[dm,ai,sX];omega) λv5 w5 X5 Fg vX yX=>?_
 ·rw[aw] at hr;subst hr;simp only[List.mem_cons,dC,or_false] at hu;rcases hu with rfl|rfl|rfl<;>rfl
 obtain⟨t1,t2,t3,rfl⟩:=vX.sl.form;have XT:=h1.ns;have aeN:aK w5 X5 rb [wU,.map (some sb),.map (some wb)] runT:=⟨Fg.sub _ (aC.sub _ bo.1),(Fg.block rb (aC.sub _ bo.1) λe=>XT.1 e).trans h1.row.2⟩;have anD: ∀k,k=wb->X k:=λk e=>by subst e;exact aC.sub _ (Kc _ h.map.x.1).1
 have ao4:dK w5 (· =wb) nX wb Value.string nA wr:=(lH h1.map (Y:=(· =wb)) rfl).mv kH (λg hg _=>⟨hg,Fg.block g (anD g hg) λe=>by subst hg;exact XT.2 e⟩) λ_ h=>h.elim;have iN:=ej.eo (F':=λk=>N k\/(tI t1 t2 t3).ownBlock=some k) Fg (λk af=>h1.own.2.2 k af) λk af=>by
  rcases af with af|af
  ·exact .inl af
  ·rcases yX with e|⟨g,e,dH⟩
   ·exact .inl (h1.own.2.2 k (by rw[<-e];exact af))
   ·rw[e] at af;cases af;exact .inr ⟨vX.2.2 _ e,dH⟩
 clear hs aC ho;repeat' refine ao ?_;intros
 refine qj (o:=0) aeN zQ kQ sQ rfl iN.s.has λw6 X6 c6 A1=>?_;have ark:=GF vX aeN kQ;have kj:=iN.eo (F':=λk=>N k\/(tI t1 t2 t3).ownBlock=some k) c6 (λk af=>.inl (by subst af;exact h.row.1)) λk af=>.inl af;have arl:Own w5 X5 0 anC 3 (.slice t1 t2 t3) ((v::s).reverse.map gJ.l):=by rw[uO,aJ];exact vX
 have h6:ir w6 (λk=>N k\/(tI t1 t2 t3).ownBlock=some k) rb sb wb (.slice t1 t2 t3) (v::s) wr:=⟨⟨.inl h.row.1,A1.2⟩,Iv arl λg hg=>⟨.inr hg,c6.block g (vX.2.2 g hg) λe=>ark (by rw[<-e];exact hg)⟩,
  (lH ao4 (Y:=(· =wb)) rfl).mv kH (λg hg _=>by subst hg;exact⟨.inl h.map.x.1,c6.block _ (Fg.sub _ (anD _ rfl)) h1.ne⟩) λ_ h=>h.elim⟩
 skip
 exact kj.fin λwa aL=>⟨_,_,kj.jC aL λ_ h=>h,h6.mv (aL.jf kj.br)⟩
def yT (c:Int) (a b:gJ):Except Int (List gJ):=
 if c=11 then .ok [aac (decide (Tq a b<0))] else if c=12 then .ok [aac (decide (Tq a b=0))] else if c=15 then .ok [a,b]
 else if a.kind=2\/b.kind=2 then .error 23 else .ok [aab (Tr c a.num b.num)]
theorem agz {c:Int} {a b:gJ} (h:ir w N rb sb wb wU (b::a::s) wr) (hN:FX N X w) (hl:s.length<=2^20):
  E5 pg 238 #[ptr rb 0,I c] w X N (λ_ wa w'=> ∃l N' oI,yT c a b= .ok l/\(∀k,N' k->N k\/made wa w' k)/\ir w' N' rb sb wb oI (l++s) wr) (λch _ _=> ∃e,yT c a b= .error e/\ch=vy e):=by
 intro w0 hk;have hT:=hN.ft hk;replace h:=h.mv (hN.mv hk);refine RM.1 λ_=>?_;refine hT.call (M7 h (hN.kp hk)) kQ (λ_ h=>h) λv D8 w1 X1 hq qz nY ej c1=>?_;obtain⟨rfl,aiV,h1⟩:=hq;have hN1:FX N X1 w1:=λk af=>⟨ej.br k (.inl af),c1.has k (ej.br k (.inl af))⟩;replace ej:=ej.less (F':=N) λk af=>.inl af;have hs:=aj.fT c1.has;repeat' refine ao ?_;intros
 refine ej.call (M7 h1 hN1) kQ (λ_ h=>h) λv yE w2 X2 hq mq kW da c2=>?_;obtain⟨rfl,anE,h2⟩:=hq;have QM:FX N X2 w2:=λk af=>⟨da.br k (.inl af),c2.has k (da.br k (.inl af))⟩;replace da:=da.less (F':=N) λk af=>.inl af;clear hs h1 h;have hs:=aj.fT c2.has;have EG: ∀{w3:World} {X3:XS} {N3:XS} {s3:List gJ} {v:gJ} {Ae:Value} {K:Value->World->XS->Prop},Ft w0 N w3 X3 N3->ir w3 N3 rb sb wb Ae s3 wr->s3.length<=2^30->
   (∀x w4 X4 N4 Ha,Ft w0 N w4 X4 N4->ir w4 N4 rb sb wb Ha (v::s3) wr->K x w4 X4)->eC pg (Fx N w0 (λ_ w'=> ∃l N' oI,yT c a b= .ok l/\(∀k,N' k->N k\/made w0 w' k)/\ir w' N' rb sb wb oI (l++s) wr) (λch _=> ∃e,yT c a b= .error e/\ch=vy e)) X3 w3 true 234 #[ptr rb 0,v.v] K:=λq1 q2 q3 k=>by
  refine q1.call (IS q2 (λk af=>⟨q1.br k af,q1.s.has k (q1.br k af)⟩) q3) kQ (λ_ h=>h) λv zj w4 X4 hq tL pa fJ c4=>?_;obtain⟨N4,Ha,TL,h4⟩:=hq;exact k _ _ _ _ _ (fJ.less TL) h4
 have rW: ∀{w3:World} {X3:XS} {N3:XS} {l:List gJ} {Ae:Value} {x:Value},Ft w0 N w3 X3 N3->ir w3 N3 rb sb wb Ae (l++s) wr->yT c a b= .ok l->
   fin (Fx N w0 (λ_ w'=> ∃l N' oI,yT c a b= .ok l/\(∀k,N' k->N k\/made w0 w' k)/\ir w' N' rb sb wb oI (l++s) wr) (λch _=> ∃e,yT c a b= .error e/\ch=vy e)) X3 w3 x:=λq1 q2 q3=>
  q1.xy λwa aL=>⟨_,_,_,q3,q1.jC aL λ_ h=>h,q2.mv (aL.jf q1.br)⟩
 by_cases e1:c=11
 ·repeat' first|refine aN ?_;intros|with_reducible apply cK
  refine se (GW a b) kQ hs.has λw3 X3 cV=>?_;have dS:=da.since cV;have h3:=h2.mv (cV.gU λk af=>(QM k af).1);replace hs:=hs.trans cV;by_cases hq:Tq a b<0;all_goals
   repeat' refine aN ?_;intros
   refine se (M4 _) kQ hs.has λw4 X4 fR=>?_;have fJ:=dS.since fR;have h4:=h3.mv (fR.gU λk af=>cV.sub k (QM k af).1);refine EG fJ h4 zQ λx w5 X5 N5 aiW iN h5=>?_;have hz:=iN.s;clear hs;have hs:=aj.fT iN.s.has;repeat' first|(exact rW (l:=[_]) iN h5 (by unfold yT;simp[hq, *]))
 by_cases e2:c=12
 ·repeat' first|refine aN ?_;intros|with_reducible apply cK
  refine se (GW a b) kQ hs.has λw3 X3 cV=>?_;have dS:=da.since cV;have h3:=h2.mv (cV.gU λk af=>(QM k af).1);replace hs:=hs.trans cV;by_cases hq:Tq a b=0;all_goals
   repeat' refine aN ?_;intros
   refine se (M4 _) kQ hs.has λw4 X4 fR=>?_;have fJ:=dS.since fR;have h4:=h3.mv (fR.gU λk af=>cV.sub k (QM k af).1);refine EG fJ h4 zQ λx w5 X5 N5 aiW iN h5=>?_;have hz:=iN.s;clear hs;have hs:=aj.fT iN.s.has;repeat' first|(exact rW (l:=[_]) iN h5 (by unfold yT;simp[hq, *]))
 by_cases e3:c=15
 ·repeat' first|refine aN ?_;intros|with_reducible apply cK
  refine EG da h2 zQ λx w5 X5 N5 aiW iN h5=>?_;clear hs;have hs:=aj.fT iN.s.has;repeat' refine ao ?_;intros
  refine EG iN h5 (by simp only[aM];omega) λx w6 X6 N6 asu kj h6=>?_;clear hs;repeat' first|(exact rW (l:=[_,_]) kj h6 (by unfold yT;rw[if_neg e1,if_neg e2,if_pos e3]))
 ·repeat' first|refine aN ?_;intros|with_reducible apply cK
  refine da.Gt (VT c a b) kQ (λ_ h=>h.elim) (λv yF w3 X3 hq qy mr dS c3=>?_) λch yF w3 X3 hq qy mr dS c3 wb mP=>dS.iE mP ⟨23,by unfold yT;rw[if_neg e1,if_neg e2,if_neg e3,if_pos hq.1],hq.2⟩;obtain⟨hnt,rfl⟩:=hq;have h3:=h2.mv (c3.jf λk af=>⟨(QM k af).1,λh=>h.elim⟩);replace dS:=dS.less (F':=N) λk af=>.inl af;clear hs;have hs:=aj.fT dS.s.has
  skip
  refine EG dS h3 zQ λx w5 X5 N5 aiW iN h5=>?_;clear hs;have hs:=aj.fT iN.s.has;repeat' first|(exact rW (l:=[_]) iN h5 (by unfold yT;rw[if_neg e1,if_neg e2,if_neg e3,if_neg hnt]))
end
def Ru (r:eI):List Nat:=encI r.id++(encI r.iC++(HF r.lo++HF r.hi))
def zp (v:pQ):List Nat:=lI v.aV++JF v.val
def Cu (h:kJ):List Nat:=wE h.key++iU zp h.mZ
def za (p:gr):List Nat:=oq p.aR++(lI p.aV++(iU wE p.reads++iU sE p.writes))
def encS (s:State):List Nat:=Ru s.range++(lI s.floor++(lI s.closed++(iU Cu s.iD++iU za s.hU)))
theorem CC {α:Type} {f:α->List Nat} {xs:List α} {x:α} (h:xs[i]? =some x):(encI xs.length).length+((xs.take i).map f).flatten.length+(f x).length<=(iU f xs).length:=by
 have h1:xs=xs.take i++(x::xs.drop (i+1)):=by
  obtain⟨hi,rfl⟩:=List.getElem?_eq_some_iff.1 h;rw[<-List.drop_eq_getElem_cons hi,gX]
 have h2:(iU f xs).length=(encI xs.length).length+((xs.take i).map f).flatten.length+((f x).length+((xs.drop (i+1)).map f).flatten.length):=by
  unfold iU;conv=>lhs;rw[h1]
  rw[aJ,dV,<-h1];simp only[bD,cW,aa];omega
 omega
theorem PA (x:Nat):(HF x).length=8:=by simp[HF]
theorem FA (n:Int):1<=(encI n).length:=by
 unfold encI qB;split<;>simp
theorem Vb (x:KV):x.key.size<=(sE x).length:=by
 have h1:=zW x.key;unfold sE;rw[aa];omega
variable {bs : List Nat} {vb : Value} {cb xb xo : Nat} {Z : XS}
theorem aam {b:Bool} (h:Wr w X lo wb vb bs) (hc:Cells w Z cb 0 (lA wb)) (hx:Cells w Z xb xo [B b]) (hZ:uN Z X wb vb) (hb:bs.length<=2^38) (gv:lo<=w.heap.size):
  oL 188 #[ptr cb 0,ptr xb xo] w X lo wb vb bs (ad1 b):=by
 intro w0 hk;have dp:lo<=w0.heap.size:=ad gv hk.size;replace hc:=hc.mv (hZ.mv hk);replace hx:=hx.mv (hZ.mv hk);have hS:=WS.init (h.mv hk.cu);refine Ku.1 λ_=>?_;have hs:=hS.s;repeat' refine ao ?_;intros
 refine hS.fu (abg hS.r zQ dp) kQ λjh w2 X2 bg nW=>?_
 skip
 exact bg.fin
theorem D1 {x:Nat} (h:Wr w X lo wb vb bs) (hc:Cells w Z cb 0 (lA wb)) (hx:Cells w Z xb xo [.float .f64 x]) (hZ:uN Z X wb vb) (hb:bs.length<=2^38) (gv:lo<=w.heap.size):
  oL 190 #[ptr cb 0,ptr xb xo] w X lo wb vb bs (HF x):=by
 intro w0 hk;have dp:lo<=w0.heap.size:=ad gv hk.size;replace hc:=hc.mv (hZ.mv hk);replace hx:=hx.mv (hZ.mv hk);have hS:=WS.init (h.mv hk.cu);refine Jp.1 λ_=>?_;have hs:=hS.s;repeat' refine ao ?_;intros
 refine hS.fu (MX hS.r zQ dp) kQ λjh w2 X2 bg nW=>?_
 skip
 exact bg.fin
theorem VV (h:Wr w X lo wb vb bs) (hc:Cells w Z cb 0 (lA wb)) (hx:Cells w Z xb xo r.l) (hZ:uN Z X wb vb) (hb:bs.length<=2^36) (gv:lo<=w.heap.size):
  oL 263 #[ptr cb 0,ptr xb xo] w X lo wb vb bs (Ru r):=by
 have e1:=fz r.id;have e2:=fz r.iC;have e3:=PA r.lo;intro w0 hk;have dp:lo<=w0.heap.size:=ad gv hk.size;replace hc:=hc.mv (hZ.mv hk);replace hx:=hx.mv (hZ.mv hk);have hS:=WS.init (h.mv hk.cu);refine Js.1 λ_=>?_;have hs:=hS.s;repeat' refine ao ?_;intros
 refine hS.fu (jU hS.r (hc.mv hS.at) (Cells.mv aQ hS.at) hS.z (by(try simp only[aa]);omega) (ad dp hs.kp.size)) kQ λjh w X bg _=>?_;replace hs:=bg.s;repeat' refine ao ?_;intros
 refine bg.fu (jU bg.r (hc.mv bg.at) (Cells.mv aQ bg.at) bg.z (by(try simp only[aa]);omega) (ad dp hs.kp.size)) kQ λnz w X bX _=>?_;replace hs:=bX.s;repeat' refine ao ?_;intros
 refine bX.fu (D1 bX.r (hc.mv bX.at) (Cells.mv aQ bX.at) bX.z (by(try simp only[aa]);omega) (ad dp hs.kp.size)) kQ λRX w X gZ _=>?_;replace hs:=gZ.s;repeat' refine ao ?_;intros
 refine gZ.fu (D1 gZ.r (hc.mv gZ.at) (Cells.mv aQ gZ.at) gZ.z (by(try simp only[aa]);omega) (ad dp hs.kp.size)) kQ λvb5 w X nK _=>?_;replace hs:=nK.s
 skip
 unfold Ru;simp only[ak] at nK;exact nK.fin
theorem R8 {x:pQ} (h:Wr w X lo wb vb bs) (hc:Cells w Z cb 0 (lA wb)) (hx:Cells w Z xb xo x.l) (hZ:uN Z X wb vb) (hb:bs.length<=2^36) (gv:lo<=w.heap.size):
  oL 327 #[ptr cb 0,ptr xb xo] w X lo wb vb bs (zp x):=by
 have e1:=uV x.aV;intro w0 hk;have dp:lo<=w0.heap.size:=ad gv hk.size;replace hc:=hc.mv (hZ.mv hk);replace hx:=hx.mv (hZ.mv hk);have hS:=WS.init (h.mv hk.cu);refine HD.1 λ_=>?_;have hs:=hS.s;repeat' refine ao ?_;intros
 refine hS.fu (kA (s:=x.aV) hS.r (hc.mv hS.at) (Cells.mv aQ hS.at) hS.z (by(try simp only[aa]);omega) (ad dp hs.kp.size)) kQ λjh w X bg _=>?_;replace hs:=bg.s;repeat' refine ao ?_;intros
 refine bg.fu (DY (v:=x.val) bg.r (hc.mv bg.at) (Cells.mv aQ bg.at) bg.z (by(try simp only[aa]);omega) (ad dp hs.kp.size)) kQ λnz w X bX _=>?_;replace hs:=bX.s
 skip
 unfold zp;simp only[ak] at bX;exact bX.fin
theorem P1 {va:Value} {xs:List BA} (h:Wr w X lo wb vb bs) (hc:Cells w Z cb 0 (lA wb)) (hx:Cells w Z xb xo [va]) (ha:Sl w Z 1 va (xs.map S1)) (hZ:uN Z X wb vb) (gv:lo<=w.heap.size) (hb:bs.length+(iU wE xs).length<=2^33):
  oL 267 #[ptr cb 0,ptr xb xo,.func (.func 268) #[ptr cb 0] #[]] w X lo wb vb bs (iU wE xs):=by
  intro w0 hk;have dp:lo<=w0.heap.size:=ad gv hk.size;replace hc:=hc.mv (hZ.mv hk);replace hx:=hx.mv (hZ.mv hk);replace ha:=ha.mv (hZ.mv hk);have hS:=WS.init (h.mv hk.cu);have lN:=ha.ib;refine Jt.1 λ_=>?_;have hs:=hS.s;repeat' refine ao ?_;intros
  refine gY (λ(k:Value->World->XS->Prop)=> ∀w X jh,WS w0 vb w X lo wb jh (bs++encI xs.length)->k (I xs.length) w X) ?_ ?_
  ·intro w X jh bg;refine gh (λn' a w X=> ∃(i:Nat) (uY:Value),a=I i/\n'=xs.length-i/\i<=xs.length/\WS w0 vb w X lo wb uY (bs++encI xs.length++((xs.take i).map wE).flatten)) xs.length ⟨0,jh,rfl,rfl,au _,by simpa using bg⟩ ?_;clear bg hS hs;rintro n' a w X ⟨i,uY,rfl,rfl,hi,hS⟩;have hs:=hS.s;rcases dG xs i with⟨cC,x,Ax,hd⟩|⟨dH,hd⟩
   ·have gq:=CC (f:=wE) Ax;repeat' refine aN ?_;intros
    refine gY (λ(k:World->XS->Prop)=>k w X) ?_ ?_
    ·repeat' refine ao ?_;intros
     refine Dq ?_;refine hS.fu (BS (s:=x) hS.r (hc.mv hS.at) (Cells.mv aQ hS.at) hS.z (by simp only[aa];omega) (ad dp hs.kp.size) (by have:=zW x;omega)) kQ λnz w3 X3 bX uQ=>?_;replace hs:=bX.s;repeat' refine ao ?_;intros
     refine fp (xs.length-(i+1)) zQ ⟨i+1,nz,by simp,rfl,by omega,?_⟩;rw[mi Ax,<-ak];exact bX
    ·intro K hK;repeat' first|refine ao ?_;intros|exact hK
   ·rw[ax dH] at hS;repeat' refine aN ?_;intros
    rw[ak] at hS;exact hS.fin
  ·intro K hK;repeat' refine ao ?_;intros
   refine hS.fu (pF hS.r zQ dp) kQ λjh w2 X2 bg nW=>?_;replace hs:=bg.s
   skip
   exact hK _ _ _ bg
theorem GY {va:Value} {xs:List Int} (h:Wr w X lo wb vb bs) (hc:Cells w Z cb 0 (lA wb)) (hx:Cells w Z xb xo [va]) (ha:Sl w Z 1 va (xs.map I1)) (hZ:uN Z X wb vb) (gv:lo<=w.heap.size) (hb:bs.length+(iU encI xs).length<=2^33):
  oL 186 #[ptr cb 0,ptr xb xo,.func (.func 183) #[ptr cb 0] #[]] w X lo wb vb bs (iU encI xs):=by
  intro w0 hk;have dp:lo<=w0.heap.size:=ad gv hk.size;replace hc:=hc.mv (hZ.mv hk);replace hx:=hx.mv (hZ.mv hk);replace ha:=ha.mv (hZ.mv hk);have hS:=WS.init (h.mv hk.cu);have lN:=ha.ib;refine Ed.1 λ_=>?_;have hs:=hS.s;repeat' refine ao ?_;intros
  refine gY (λ(k:Value->World->XS->Prop)=> ∀w X jh,WS w0 vb w X lo wb jh (bs++encI xs.length)->k (I xs.length) w X) ?_ ?_
  ·intro w X jh bg;refine gh (λn' a w X=> ∃(i:Nat) (uY:Value),a=I i/\n'=xs.length-i/\i<=xs.length/\WS w0 vb w X lo wb uY (bs++encI xs.length++((xs.take i).map encI).flatten)) xs.length ⟨0,jh,rfl,rfl,au _,by simpa using bg⟩ ?_;clear bg hS hs;rintro n' a w X ⟨i,uY,rfl,rfl,hi,hS⟩;have hs:=hS.s;rcases dG xs i with⟨cC,x,Ax,hd⟩|⟨dH,hd⟩
   ·have gq:=CC (f:=encI) Ax;repeat' refine aN ?_;intros
    refine gY (λ(k:World->XS->Prop)=>k w X) ?_ ?_
    ·repeat' refine ao ?_;intros
     refine Dq ?_;refine hS.fu (jU (n:=x) hS.r (hc.mv hS.at) (Cells.mv aQ hS.at) hS.z (by simp only[aa];omega) (ad dp hs.kp.size)) kQ λnz w3 X3 bX uQ=>?_;replace hs:=bX.s;repeat' refine ao ?_;intros
     refine fp (xs.length-(i+1)) zQ ⟨i+1,nz,by simp,rfl,by omega,?_⟩;rw[mi Ax,<-ak];exact bX
    ·intro K hK;repeat' first|refine ao ?_;intros|exact hK
   ·rw[ax dH] at hS;repeat' refine aN ?_;intros
    rw[ak] at hS;exact hS.fin
  ·intro K hK;repeat' refine ao ?_;intros
   refine hS.fu (pF hS.r zQ dp) kQ λjh w2 X2 bg nW=>?_;replace hs:=bg.s
   skip
   exact hK _ _ _ bg
variable {xs : List KV}
theorem Kd {va:Value} (h:Wr w X lo wb vb bs) (hc:Cells w Z cb 0 (lA wb)) (hx:Cells w Z xb xo [va]) (ha:Sl w Z 4 va (xs.map KV.l)) (hZ:uN Z X wb vb) (gv:lo<=w.heap.size) (hb:bs.length+(iU sE xs).length<=2^33):
  oL 191 #[ptr cb 0,ptr xb xo,.func (.func 192) #[ptr cb 0] #[]] w X lo wb vb bs (iU sE xs):=by
  intro w0 hk;have dp:lo<=w0.heap.size:=ad gv hk.size;replace hc:=hc.mv (hZ.mv hk);replace hx:=hx.mv (hZ.mv hk);replace ha:=ha.mv (hZ.mv hk);have hS:=WS.init (h.mv hk.cu);have lN:=ha.ib;refine Gg.1 λ_=>?_;have hs:=hS.s;repeat' refine ao ?_;intros
  refine gY (λ(k:Value->World->XS->Prop)=> ∀w X jh,WS w0 vb w X lo wb jh (bs++encI xs.length)->k (I xs.length) w X) ?_ ?_
  ·intro w X jh bg;refine gh (λn' a w X=> ∃(i:Nat) (uY:Value),a=I i/\n'=xs.length-i/\i<=xs.length/\WS w0 vb w X lo wb uY (bs++encI xs.length++((xs.take i).map sE).flatten)) xs.length ⟨0,jh,rfl,rfl,au _,by simpa using bg⟩ ?_;clear bg hS hs;rintro n' a w X ⟨i,uY,rfl,rfl,hi,hS⟩;have hs:=hS.s;rcases dG xs i with⟨cC,x,Ax,hd⟩|⟨dH,hd⟩
   ·have gq:=CC (f:=sE) Ax;repeat' refine aN ?_;intros
    refine gY (λ(k:World->XS->Prop)=>k w X) ?_ ?_
    ·repeat' refine ao ?_;intros
     refine Dq ?_;refine hS.fu (VO (x:=x) hS.r (hc.mv hS.at) (Cells.mv aQ hS.at) hS.z (by simp only[aa];omega) (ad dp hs.kp.size) (by have:=Vb x;omega)) kQ λnz w3 X3 bX uQ=>?_;replace hs:=bX.s;repeat' refine ao ?_;intros
     refine fp (xs.length-(i+1)) zQ ⟨i+1,nz,by simp,rfl,by omega,?_⟩;rw[mi Ax,<-ak];exact bX
    ·intro K hK;repeat' first|refine ao ?_;intros|exact hK
   ·rw[ax dH] at hS;repeat' refine aN ?_;intros
    rw[ak] at hS;exact hS.fin
  ·intro K hK;repeat' refine ao ?_;intros
   refine hS.fu (pF hS.r zQ dp) kQ λjh w2 X2 bg nW=>?_;replace hs:=bg.s
   skip
   exact hK _ _ _ bg
theorem VW {va:Value} (h:Wr w X lo wb vb bs) (hc:Cells w Z cb 0 (lA wb)) (hx:Cells w Z xb xo [va]) (ha:Sl w Z 4 va (xs.map KV.l)) (hZ:uN Z X wb vb) (gv:lo<=w.heap.size) (hb:bs.length+(iU sE xs).length<=2^33):
  oL 193 #[ptr cb 0,ptr xb xo,.func (.func 194) #[ptr cb 0] #[]] w X lo wb vb bs (iU sE xs):=by
  intro w0 hk;have dp:lo<=w0.heap.size:=ad gv hk.size;replace hc:=hc.mv (hZ.mv hk);replace hx:=hx.mv (hZ.mv hk);replace ha:=ha.mv (hZ.mv hk);have hS:=WS.init (h.mv hk.cu);have lN:=ha.ib;refine HA.1 λ_=>?_;have hs:=hS.s;repeat' refine ao ?_;intros
  refine gY (λ(k:Value->World->XS->Prop)=> ∀w X jh,WS w0 vb w X lo wb jh (bs++encI xs.length)->k (I xs.length) w X) ?_ ?_
  ·intro w X jh bg;refine gh (λn' a w X=> ∃(i:Nat) (uY:Value),a=I i/\n'=xs.length-i/\i<=xs.length/\WS w0 vb w X lo wb uY (bs++encI xs.length++((xs.take i).map sE).flatten)) xs.length ⟨0,jh,rfl,rfl,au _,by simpa using bg⟩ ?_;clear bg hS hs;rintro n' a w X ⟨i,uY,rfl,rfl,hi,hS⟩;have hs:=hS.s;rcases dG xs i with⟨cC,x,Ax,hd⟩|⟨dH,hd⟩
   ·have gq:=CC (f:=sE) Ax;repeat' refine aN ?_;intros
    refine gY (λ(k:World->XS->Prop)=>k w X) ?_ ?_
    ·repeat' refine ao ?_;intros
     refine Dq ?_;refine hS.fu (ZY (x:=x) hS.r (hc.mv hS.at) (Cells.mv aQ hS.at) hS.z (by simp only[aa];omega) (ad dp hs.kp.size) (by have:=Vb x;omega)) kQ λnz w3 X3 bX uQ=>?_;replace hs:=bX.s;repeat' refine ao ?_;intros
     refine fp (xs.length-(i+1)) zQ ⟨i+1,nz,by simp,rfl,by omega,?_⟩;rw[mi Ax,<-ak];exact bX
    ·intro K hK;repeat' first|refine ao ?_;intros|exact hK
   ·rw[ax dH] at hS;repeat' refine aN ?_;intros
    rw[ak] at hS;exact hS.fin
  ·intro K hK;repeat' refine ao ?_;intros
   refine hS.fu (pF hS.r zQ dp) kQ λjh w2 X2 bg nW=>?_;replace hs:=bg.s
   skip
   exact hK _ _ _ bg
theorem R9 {va:Value} {xs:List pQ} (h:Wr w X lo wb vb bs) (hc:Cells w Z cb 0 (lA wb)) (hx:Cells w Z xb xo [va]) (ha:Sl w Z 6 va (xs.map pQ.l)) (hZ:uN Z X wb vb) (gv:lo<=w.heap.size) (hb:bs.length+(iU zp xs).length<=2^33):
  oL 326 #[ptr cb 0,ptr xb xo,.func (.func 327) #[ptr cb 0] #[]] w X lo wb vb bs (iU zp xs):=by
  intro w0 hk;have dp:lo<=w0.heap.size:=ad gv hk.size;replace hc:=hc.mv (hZ.mv hk);replace hx:=hx.mv (hZ.mv hk);replace ha:=ha.mv (hZ.mv hk);have hS:=WS.init (h.mv hk.cu);have lN:=ha.ib;refine EB.1 λ_=>?_;have hs:=hS.s;repeat' refine ao ?_;intros
  refine gY (λ(k:Value->World->XS->Prop)=> ∀w X jh,WS w0 vb w X lo wb jh (bs++encI xs.length)->k (I xs.length) w X) ?_ ?_
  ·intro w X jh bg;refine gh (λn' a w X=> ∃(i:Nat) (uY:Value),a=I i/\n'=xs.length-i/\i<=xs.length/\WS w0 vb w X lo wb uY (bs++encI xs.length++((xs.take i).map zp).flatten)) xs.length ⟨0,jh,rfl,rfl,au _,by simpa using bg⟩ ?_;clear bg hS hs;rintro n' a w X ⟨i,uY,rfl,rfl,hi,hS⟩;have hs:=hS.s;rcases dG xs i with⟨cC,x,Ax,hd⟩|⟨dH,hd⟩
   ·have gq:=CC (f:=zp) Ax;repeat' refine aN ?_;intros
    refine gY (λ(k:World->XS->Prop)=>k w X) ?_ ?_
    ·repeat' refine ao ?_;intros
     refine Dq ?_;refine hS.fu (R8 (x:=x) hS.r (hc.mv hS.at) (Cells.mv aQ hS.at) hS.z (by simp only[aa];omega) (ad dp hs.kp.size)) kQ λnz w3 X3 bX uQ=>?_;replace hs:=bX.s;repeat' refine ao ?_;intros
     refine fp (xs.length-(i+1)) zQ ⟨i+1,nz,by simp,rfl,by omega,?_⟩;rw[mi Ax,<-ak];exact bX
    ·intro K hK;repeat' first|refine ao ?_;intros|exact hK
   ·rw[ax dH] at hS;repeat' refine aN ?_;intros
    rw[ak] at hS;exact hS.fin
  ·intro K hK;repeat' refine ao ?_;intros
   refine hS.fu (pF hS.r zQ dp) kQ λjh w2 X2 bg nW=>?_;replace hs:=bg.s
   skip
   exact hK _ _ _ bg
theorem Sa {vv:Value} {x:kJ} (h:Wr w X lo wb vb bs) (hc:Cells w Z cb 0 (lA wb)) (hx:Cells w Z xb xo (x.l vv)) (ha:Sl w Z 6 vv (x.mZ.map pQ.l)) (hZ:uN Z X wb vb) (gv:lo<=w.heap.size) (hb:bs.length+(Cu x).length<=2^33):
  oL 265 #[ptr cb 0,ptr xb xo] w X lo wb vb bs (Cu x):=by
 have e1:(Cu x).length=(wE x.key).length+(iU zp x.mZ).length:=by simp[Cu]
 have e2:=zW x.key;replace ha:=λ{w1:World} (hk:Kp X w w1)=>ha.mv (hZ.mv hk);intro w0 hk;have dp:lo<=w0.heap.size:=ad gv hk.size;replace hc:=hc.mv (hZ.mv hk);replace hx:=hx.mv (hZ.mv hk);have hS:=WS.init (h.mv hk.cu);refine HC.1 λ_=>?_;have hs:=hS.s;replace ha:=ha hk;repeat' refine ao ?_;intros
 refine hS.fu (BS hS.r (hc.mv hS.at) (Cells.mv aQ hS.at) hS.z zQ dp zQ) kQ λjh w X bg _=>?_;replace hs:=bg.s;repeat' refine ao ?_;intros
 refine bg.fu (R9 bg.r (hc.mv bg.at) (Cells.mv aQ bg.at) (ha.mv bg.at) bg.z (ad dp hs.kp.size) (by simp only[aa];omega)) kQ λnz w X bX _=>?_
 skip
 unfold Cu;simp only[ak] at bX;exact bX.fin
variable {vr vw : Value}
theorem GZ {x:gr} (h:Wr w X lo wb vb bs) (hc:Cells w Z cb 0 (lA wb)) (hx:Cells w Z xb xo (x.l vr vw)) (h1:Sl w Z 1 vr (x.reads.map S1)) (h2:Sl w Z 4 vw (x.writes.map KV.l)) (hZ:uN Z X wb vb) (gv:lo<=w.heap.size) (hb:bs.length+(za x).length<=2^33):
  oL 185 #[ptr cb 0,ptr xb xo] w X lo wb vb bs (za x):=by
 have e1:(za x).length=(oq x.aR).length+((lI x.aV).length+((iU wE x.reads).length+(iU sE x.writes).length)):=by simp[za]
 replace h1:=λ{w1:World} (hk:Kp X w w1)=>h1.mv (hZ.mv hk);replace h2:=λ{w1:World} (hk:Kp X w w1)=>h2.mv (hZ.mv hk);intro w0 hk;have dp:lo<=w0.heap.size:=ad gv hk.size;replace hc:=hc.mv (hZ.mv hk);replace hx:=hx.mv (hZ.mv hk);have hS:=WS.init (h.mv hk.cu);refine Hz.1 λ_=>?_;have hs:=hS.s;replace h1:=h1 hk;replace h2:=h2 hk;have o1:=h1.one;have o2:=h2.one;repeat' refine ao ?_;intros
 refine hS.fu (zx (s:=x.aR) hS.r (hc.mv hS.at) (Cells.mv aQ hS.at) hS.z (by(try simp only[aa]);omega) (ad dp hs.kp.size)) kQ λjh w X bg _=>?_;replace hs:=bg.s;repeat' refine ao ?_;intros
 refine bg.fu (kA (s:=x.aV) bg.r (hc.mv bg.at) (Cells.mv aQ bg.at) bg.z (by(try simp only[aa]);omega) (ad dp hs.kp.size)) kQ λnz w X bX _=>?_;replace hs:=bX.s;repeat' refine ao ?_;intros
 refine bX.fu (P1 bX.r (hc.mv bX.at) (Cells.mv aQ bX.at) (h1.mv bX.at) bX.z (ad dp hs.kp.size) (by simp only[aa];omega)) kQ λRX w X gZ _=>?_;replace hs:=gZ.s;repeat' refine ao ?_;intros
 refine gZ.fu (Kd gZ.r (hc.mv gZ.at) (Cells.mv aQ gZ.at) (h2.mv gZ.at) gZ.z (ad dp hs.kp.size) (by simp only[aa];omega)) kQ λvb5 w X nK _=>?_
 skip
 unfold za;simp only[ak] at nK;exact nK.fin
theorem P2 {va:Value} {xs:List kJ} (h:Wr w X lo wb vb bs) (hc:Cells w Z cb 0 (lA wb)) (hx:Cells w Z xb xo [va]) (ha:qY w Z va xs) (hZ:uN Z X wb vb) (gv:lo<=w.heap.size) (hb:bs.length+(iU Cu xs).length<=2^33):
  oL 264 #[ptr cb 0,ptr xb xo,.func (.func 265) #[ptr cb 0] #[]] w X lo wb vb bs (iU Cu xs):=by
  intro w0 hk;have dp:lo<=w0.heap.size:=ad gv hk.size;replace hc:=hc.mv (hZ.mv hk);replace hx:=hx.mv (hZ.mv hk);replace ha:=ha.mv (hZ.mv hk);have hS:=WS.init (h.mv hk.cu);have lN:=eQ.len ha;refine Ez.1 λ_=>?_;have hs:=hS.s;repeat' refine ao ?_;intros
  refine gY (λ(k:Value->World->XS->Prop)=> ∀w X jh,WS w0 vb w X lo wb jh (bs++encI xs.length)->k (I xs.length) w X) ?_ ?_
  ·intro w X jh bg;refine gh (λn' a w X=> ∃(i:Nat) (uY:Value),a=I i/\n'=xs.length-i/\i<=xs.length/\WS w0 vb w X lo wb uY (bs++encI xs.length++((xs.take i).map Cu).flatten)) xs.length ⟨0,jh,rfl,rfl,au _,by simpa using bg⟩ ?_;clear bg hS hs;rintro n' a w X ⟨i,uY,rfl,rfl,hi,hS⟩;have hs:=hS.s;rcases dG xs i with⟨cC,x,Ax,hd⟩|⟨dH,hd⟩
   ·have gq:=CC (f:=Cu) Ax;repeat' refine aN ?_;intros
    refine gY (λ(k:World->XS->Prop)=>k w X) ?_ ?_
    ·repeat' first|refine ao ?_;intros|((with_reducible apply RU);assumption;(try (case hz=>rfl));(case hr=>exact qR);(try (case hz=>omega));(case ht=>kernel_rfl);(case hs=>kernel_rfl);intros)
     refine Dq ?_;refine hS.fu (Sa (x:=x) hS.r (hc.mv hS.at) (Cells.mv aQ hS.at) (Sl.mv aQ hS.at) hS.z (ad dp hs.kp.size) (by simp only[aa];omega)) kQ λnz w3 X3 bX uQ=>?_;replace hs:=bX.s;repeat' refine ao ?_;intros
     refine fp (xs.length-(i+1)) zQ ⟨i+1,nz,by simp,rfl,by omega,?_⟩;rw[mi Ax,<-ak];exact bX
    ·intro K hK;repeat' first|refine ao ?_;intros|exact hK
   ·rw[ax dH] at hS;repeat' refine aN ?_;intros
    rw[ak] at hS;exact hS.fin
  ·intro K hK;repeat' refine ao ?_;intros
   refine hS.fu (pF hS.r zQ dp) kQ λjh w2 X2 bg nW=>?_;replace hs:=bg.s
   skip
   exact hK _ _ _ bg
theorem P3 {va:Value} {xs:List gr} (h:Wr w X lo wb vb bs) (hc:Cells w Z cb 0 (lA wb)) (hx:Cells w Z xb xo [va]) (ha:qX w Z va xs) (hZ:uN Z X wb vb) (gv:lo<=w.heap.size) (hb:bs.length+(iU za xs).length<=2^33):
  oL 266 #[ptr cb 0,ptr xb xo,.func (.func 185) #[ptr cb 0] #[]] w X lo wb vb bs (iU za xs):=by
  intro w0 hk;have dp:lo<=w0.heap.size:=ad gv hk.size;replace hc:=hc.mv (hZ.mv hk);replace hx:=hx.mv (hZ.mv hk);replace ha:=ha.mv (hZ.mv hk);have hS:=WS.init (h.mv hk.cu);have lN:=eQ.len ha;refine EA.1 λ_=>?_;have hs:=hS.s;repeat' refine ao ?_;intros
  refine gY (λ(k:Value->World->XS->Prop)=> ∀w X jh,WS w0 vb w X lo wb jh (bs++encI xs.length)->k (I xs.length) w X) ?_ ?_
  ·intro w X jh bg;refine gh (λn' a w X=> ∃(i:Nat) (uY:Value),a=I i/\n'=xs.length-i/\i<=xs.length/\WS w0 vb w X lo wb uY (bs++encI xs.length++((xs.take i).map za).flatten)) xs.length ⟨0,jh,rfl,rfl,au _,by simpa using bg⟩ ?_;clear bg hS hs;rintro n' a w X ⟨i,uY,rfl,rfl,hi,hS⟩;have hs:=hS.s;rcases dG xs i with⟨cC,x,Ax,hd⟩|⟨dH,hd⟩
   ·have gq:=CC (f:=za) Ax;repeat' refine aN ?_;intros
    refine gY (λ(k:World->XS->Prop)=>k w X) ?_ ?_
    ·repeat' first|refine ao ?_;intros|((with_reducible apply Wm);assumption;(try (case hz=>rfl));(case hr=>exact qR);(try (case hz=>omega));(case ht=>kernel_rfl);(case hs=>kernel_rfl);intros)
     refine Dq ?_;refine hS.fu (GZ (x:=x) hS.r (hc.mv hS.at) (Cells.mv aQ hS.at) (Sl.mv aQ hS.at) (Sl.mv aQ hS.at) hS.z (ad dp hs.kp.size) (by simp only[aa];omega)) kQ λnz w3 X3 bX uQ=>?_;replace hs:=bX.s;repeat' refine ao ?_;intros
     refine fp (xs.length-(i+1)) zQ ⟨i+1,nz,by simp,rfl,by omega,?_⟩;rw[mi Ax,<-ak];exact bX
    ·intro K hK;repeat' first|refine ao ?_;intros|exact hK
   ·rw[ax dH] at hS;repeat' refine aN ?_;intros
    rw[ak] at hS;exact hS.fin
  ·intro K hK;repeat' refine ao ?_;intros
   refine hS.fu (pF hS.r zQ dp) kQ λjh w2 X2 bg nW=>?_;replace hs:=bg.s
   skip
   exact hK _ _ _ bg
variable {vh vp : Value}
theorem VX {x:State} (h:Wr w X lo wb vb bs) (hc:Cells w Z cb 0 (lA wb)) (hx:Cells w Z xb xo (x.l vh vp)) (h1:qY w Z vh x.iD) (h2:qX w Z vp x.hU) (hZ:uN Z X wb vb) (gv:lo<=w.heap.size) (hb:bs.length+(encS x).length<=2^33):
  oL 184 #[ptr cb 0,ptr xb xo] w X lo wb vb bs (encS x):=by
 have e1:(encS x).length=(Ru x.range).length+((lI x.floor).length+((lI x.closed).length+((iU Cu x.iD).length+(iU za x.hU).length))):=by simp[encS]
 replace h1:=λ{w1:World} (hk:Kp X w w1)=>qY.mv h1 (hZ.mv hk);replace h2:=λ{w1:World} (hk:Kp X w w1)=>qX.mv h2 (hZ.mv hk);intro w0 hk;have dp:lo<=w0.heap.size:=ad gv hk.size;replace hc:=hc.mv (hZ.mv hk);replace hx:=hx.mv (hZ.mv hk);have hS:=WS.init (h.mv hk.cu);refine Jo.1 λ_=>?_;have hs:=hS.s;replace h1:=h1 hk;replace h2:=h2 hk;have o1:=h1.one;have o2:=h2.one;repeat' refine ao ?_;intros
 refine hS.fu (VV (r:=x.range) hS.r (hc.mv hS.at) (Cells.mv aQ hS.at) hS.z (by(try simp only[aa]);omega) (ad dp hs.kp.size)) kQ λjh w X bg _=>?_;replace hs:=bg.s;repeat' refine ao ?_;intros
 refine bg.fu (kA (s:=x.floor) bg.r (hc.mv bg.at) (Cells.mv aQ bg.at) bg.z (by(try simp only[aa]);omega) (ad dp hs.kp.size)) kQ λnz w X bX _=>?_;replace hs:=bX.s;repeat' refine ao ?_;intros
 refine bX.fu (kA (s:=x.closed) bX.r (hc.mv bX.at) (Cells.mv aQ bX.at) bX.z (by(try simp only[aa]);omega) (ad dp hs.kp.size)) kQ λRX w X gZ _=>?_;replace hs:=gZ.s;repeat' refine ao ?_;intros
 refine gZ.fu (P2 gZ.r (hc.mv gZ.at) (Cells.mv aQ gZ.at) (h1.mv gZ.at) gZ.z (ad dp hs.kp.size) (by simp only[aa];omega)) kQ λvb5 w X nK _=>?_;replace hs:=nK.s;repeat' refine ao ?_;intros
 refine nK.fu (P3 nK.r (hc.mv nK.at) (Cells.mv aQ nK.at) (h2.mv nK.at) nK.z (ad dp hs.kp.size) (by simp only[aa];omega)) kQ λvb6 w X Vc _=>?_
 skip
 unfold encS;simp only[ak] at Vc;exact Vc.fin
def fZ (r:Rec):List Nat:=encI r.kind++(
 if r.kind=1 then encS r.state
 else if r.kind=2\/r.kind=7\/r.kind=8 then encI r.n
 else if r.kind=3 then za ⟨r.aR,r.aV,r.reads,r.writes⟩++iU encI r.parts
 else if r.kind=4 then oq r.aR++(ad1 r.jJ++lI r.aV)
 else if r.kind=5 then lI r.aV
 else if r.kind=6 then HF r.tZ++(encI r.n++lI r.aV)
 else if r.kind=9 then oq r.aR++(lI r.aV++iU encI r.parts)
 else if r.kind=10 then oq r.aR
 else if r.kind=11 then lI r.prev++(lI r.aV++(oq r.aR++iU sE r.writes))
 else if r.kind=12 then lI r.aV++iU sE r.xd
 else [])
variable {ty : TypeId} {o : Nat} {R : Ending -> World -> Prop}
theorem JM {t sz o':Nat} {v:Value} {N:Value->World->XS->Prop} (h:aK w X b cs ty) (MC:o'=o) (ht:(P.info? t).map (·.size)=some sz)
  (hl:o+sz<=cs.length) (hv:v.cells.size=sz) (h1:v.cells.toList.all aG.one=true) (hX: ∀k,X k->k<w.heap.size) (he:cY cs o v.cells.toList=cs)
  (n: ∀w' X',aj X w X' w'->N undef w' X'):eU P R X w true (st1 t sz (ptr b o') v) N:=by
 refine Gy h MC ht hl hv h1 hX λw' X' c hr=>n w' X' ⟨⟨c.os,c.tape,c.output,c.size,λk hk=>?_⟩,c.sub,c.has⟩;by_cases e:k=b
 ·subst e;rw[h.2,hr.2,he]
 ·exact c.block k hk e
variable {w0 : World}
theorem WS.Pg {tH:Value} (hS:WS w0 tH w X lo wb vb bs) (hr:aK w X b cs ty) (hb:w0.heap.size<=b)
  (h1:decide (409≠ty)=true) (h2:decide (5≠ty)=true) (c:eh (λk=>k=b) X w X' w'):WS w0 tH w' X' lo wb vb bs:=by
 have cj:wb≠b:=hS.r.box.eP hr h1;refine⟨hS.s.eo c λq h0 hq=>?_,⟨⟨c.sub _ hS.r.box.1,by rw[c.block _ hS.r.box.1 λe=>cj e];exact hS.r.box.2⟩,Own.eo hS.r.ow c λg hg e=>Own.eP hS.r.ow hr h2 (by rw[hg,e])⟩,hS.v⟩;have:=h0.1;omega
variable {F : XS}
theorem _root_.Go.aG.aK.eo (h:aK w X b cs ty) (c:eh F X w X' w') (hn: ¬F b):aK w' X' b cs ty:=⟨c.sub _ h.1,by rw[c.block _ h.1 hn];exact h.2⟩
variable {vd vq : Value}
theorem abr {r:Rec} (h:Wr w X lo wb vb bs) (hc:Cells w Z cb 0 (lA wb)) (hx:aK w Z xb (r.l vr vw vp vq vh vd) 73) (dB:r.at w Z vr vw vp vq vh vd) (hZ:uN Z X wb vb) (gv:lo<=w.heap.size)
  (hb:bs.length+(fZ r).length<=2^33):oL 134 #[ptr cb 0,ptr xb 0] w X lo wb vb bs (fZ r):=by
 intro w0 hk;have dp:lo<=w0.heap.size:=ad gv hk.size;replace hc:=hc.mv (hZ.mv hk);replace hx:=hx.mv (hZ.mv hk);replace dB:=dB.mv (hZ.mv hk);obtain⟨a1,a2,a3,a4,a5,a6⟩:=dB;obtain⟨p1,n1,c1,rfl⟩:=a1.form;obtain⟨p2,n2,c2,rfl⟩:=a2.form;have bo:=hx;replace hx:=hx.cells;have hS:=WS.init (h.mv hk.cu);have e1:=fz r.kind;obtain⟨E,hE⟩: ∃E,E=fZ r:=⟨_,rfl⟩;rw[<-hE] at hb⊢;unfold fZ at hE;have hEl:(encI r.kind).length<=E.length:=by rw[hE,aa];omega
 refine Mc.1 λ_=>?_;have hs:=hS.s;repeat' refine ao ?_;intros
 refine hS.fu (jU hS.r (hc.mv hS.at) (Cells.mv aQ hS.at) hS.z zQ (ad dp hs.kp.size)) kQ λjh w X bg _=>?_;replace hs:=bg.s;repeat' refine ao ?_;intros
 refine gY (λ(k:World->XS->Prop)=> ∀w X nz,WS w0 vb w X lo wb nz (bs++E)->k w X) (λw X nz bX=>bX.fin) λK hK=>?_;repeat' first|refine ao ?_;intros|refine dq ?_ ?_<;>intros|with_reducible apply cK
 all_goals (repeat (first|rw[if_pos zQ] at hE|rw[if_neg zQ] at hE))
 all_goals (have hEb:=congrArg az hE;simp only[aa] at hEb)
 ·refine bg.fu (VX (x:=r.state) bg.r (hc.mv bg.at) (Cells.mv aQ bg.at) (a5.mv bg.at) (a6.mv bg.at) bg.z (ad dp hs.kp.size) (by simp only[aa];omega)) kQ λnz w X bX _=>?_;have h9:=bX;rw[hE] at hK
  (try simp only[ak] at h9 hK)
  exact hK _ _ _ h9
 ·refine bg.fu (jU bg.r (hc.mv bg.at) (Cells.mv aQ bg.at) bg.z (by simp only[aa];omega) (ad dp hs.kp.size)) kQ λnz w X bX _=>?_;have h9:=bX;rw[hE] at hK
  (try simp only[ak] at h9 hK)
  exact hK _ _ _ h9
 ·refine bg.fu (jU bg.r (hc.mv bg.at) (Cells.mv aQ bg.at) bg.z (by simp only[aa];omega) (ad dp hs.kp.size)) kQ λnz w X bX _=>?_;have h9:=bX;rw[hE] at hK
  (try simp only[ak] at h9 hK)
  exact hK _ _ _ h9
 ·refine bg.fu (jU bg.r (hc.mv bg.at) (Cells.mv aQ bg.at) bg.z (by simp only[aa];omega) (ad dp hs.kp.size)) kQ λnz w X bX _=>?_;have h9:=bX;rw[hE] at hK
  (try simp only[ak] at h9 hK)
  exact hK _ _ _ h9
 ·have e2:(za ⟨r.aR,r.aV,r.reads,r.writes⟩).length<=E.length:=by omega
  refine Nr (l:=[I 0,I 0,I 0,I 0,I 0,I 0,.slice none 0 0,.slice none 0 0]) hs.has kQ λpb w3 X3 Il cV ajA=>?_;have bX:=bg.since cV;refine Gy (o:=0) ajA rfl kQ sQ rfl rfl cV.has λw4 X4 c4 CG=>?_;replace CG:aK w4 X4 pb ((⟨r.aR,r.aV,r.reads,r.writes⟩:gr).l (.slice p1 n1 c1) (.slice p2 n2 c2)) 306:=CG;have arn:w0.heap.size<=pb:=ad hs.kp.size Il;have gZ:=bX.Pg ajA arn kQ kQ c4;have hnf: ¬Ei wb jh pb:=λhf=>hf.elim (λe=>gZ.r.box.eP CG kQ e.symm) λe=>Own.eP gZ.r.ow CG kQ e;obtain⟨Z',hZ'⟩: ∃Z':XS,Z'=λk=>k=pb\/out (Ei wb vb) w0 k:=⟨_,rfl⟩;have mv4:Mv (out (Ei wb vb) w0) w0 Z' w4:=λk af _=>⟨by rw[hZ'];exact .inr af,gZ.s.kp.block k af⟩;have tW:uN Z' X4 wb jh:=λk af=>by
   rw[hZ'] at af;rcases af with rfl|af
   ·exact⟨CG.1,hnf⟩
   ·exact gZ.z k af
  refine gZ.fu (GZ (x:=⟨r.aR,r.aV,r.reads,r.writes⟩) gZ.r (hc.mv mv4) (aK.cells (X:=Z') (ty:=306) ⟨by rw[hZ'];exact .inl rfl,CG.2⟩) (a1.mv mv4) (a2.mv mv4) tW (ad dp gZ.s.kp.size) (by simp only[aa];omega)) kQ λvb5 w5 X5 nK c5=>?_;have aeN:=CG.eo c5 hnf;clear hs;have hs:=nK.s;repeat' refine ao ?_;intros
  refine JM (o:=1) (bo.mv nK.s.mv) zQ kQ sQ rfl rfl nK.s.has (by rfl) λw6 X6 rF=>?_;have Vc:=nK.since rF;repeat' refine ao ?_;intros
  refine JM (o:=4) (bo.mv Vc.s.mv) zQ kQ sQ rfl rfl Vc.s.has (by rfl) λw7 X7 py=>?_;have hS7:=Vc.since py;repeat' refine ao ?_;intros
  refine JM (o:=13) (bo.mv hS7.s.mv) zQ kQ sQ rfl rfl hS7.s.has (by rfl) λw8 X8 lr=>?_;have hS8:=hS7.since lr;repeat' refine ao ?_;intros
  refine JM (o:=14) (bo.mv hS8.s.mv) zQ kQ sQ rfl rfl hS8.s.has (by rfl) λw9 X9 Ak=>?_;have hS9:=hS8.since Ak;clear hs;have hs:=hS9.s;repeat' refine ao ?_;intros
  refine hS9.fu (GY hS9.r (hc.mv hS9.at) (Cells.mv aQ hS9.at) (a3.mv hS9.at) hS9.z (ad dp hs.kp.size) (by simp only[aa];omega)) kQ λasv w X aro _=>?_;have h9:=aro;rw[hE] at hK
  (try simp only[ak] at h9 hK)
  exact hK _ _ _ h9
 ·refine bg.fu (zx (s:=r.aR) bg.r (hc.mv bg.at) (Cells.mv aQ bg.at) bg.z (by(try simp only[aa]);omega) (ad dp hs.kp.size)) kQ λnz w X bX _=>?_;replace hs:=bX.s;repeat' refine ao ?_;intros
  refine bX.fu (aam (b:=r.jJ) bX.r (hc.mv bX.at) (Cells.mv aQ bX.at) bX.z (by(try simp only[aa]);omega) (ad dp hs.kp.size)) kQ λRX w X gZ _=>?_;replace hs:=gZ.s;repeat' refine ao ?_;intros
  refine gZ.fu (kA (s:=r.aV) gZ.r (hc.mv gZ.at) (Cells.mv aQ gZ.at) gZ.z (by(try simp only[aa]);omega) (ad dp hs.kp.size)) kQ λvb5 w X nK _=>?_;replace hs:=nK.s
  skip
  have h9:=nK;rw[hE] at hK
  (try simp only[ak] at h9 hK)
  exact hK _ _ _ h9
 ·refine bg.fu (kA (s:=r.aV) bg.r (hc.mv bg.at) (Cells.mv aQ bg.at) bg.z (by(try simp only[aa]);omega) (ad dp hs.kp.size)) kQ λnz w X bX _=>?_;replace hs:=bX.s
  skip
  have h9:=bX;rw[hE] at hK
  (try simp only[ak] at h9 hK)
  exact hK _ _ _ h9
 ·refine bg.fu (D1 bg.r (hc.mv bg.at) (Cells.mv aQ bg.at) bg.z (by(try simp only[aa]);omega) (ad dp hs.kp.size)) kQ λnz w X bX _=>?_;replace hs:=bX.s;repeat' refine ao ?_;intros
  refine bX.fu (jU bX.r (hc.mv bX.at) (Cells.mv aQ bX.at) bX.z (by(try simp only[aa]);omega) (ad dp hs.kp.size)) kQ λRX w X gZ _=>?_;replace hs:=gZ.s;repeat' refine ao ?_;intros
  refine gZ.fu (kA (s:=r.aV) gZ.r (hc.mv gZ.at) (Cells.mv aQ gZ.at) gZ.z (by(try simp only[aa]);omega) (ad dp hs.kp.size)) kQ λvb5 w X nK _=>?_;replace hs:=nK.s
  skip
  have h9:=nK;rw[hE] at hK
  (try simp only[ak] at h9 hK)
  exact hK _ _ _ h9
 ·refine bg.fu (zx (s:=r.aR) bg.r (hc.mv bg.at) (Cells.mv aQ bg.at) bg.z (by(try simp only[aa]);omega) (ad dp hs.kp.size)) kQ λnz w X bX _=>?_;replace hs:=bX.s;repeat' refine ao ?_;intros
  refine bX.fu (kA (s:=r.aV) bX.r (hc.mv bX.at) (Cells.mv aQ bX.at) bX.z (by(try simp only[aa]);omega) (ad dp hs.kp.size)) kQ λRX w X gZ _=>?_;replace hs:=gZ.s;repeat' refine ao ?_;intros
  refine gZ.fu (GY gZ.r (hc.mv gZ.at) (Cells.mv aQ gZ.at) (a3.mv gZ.at) gZ.z (ad dp hs.kp.size) (by simp only[aa];omega)) kQ λvb5 w X nK _=>?_;have h9:=nK;rw[hE] at hK
  (try simp only[ak] at h9 hK)
  exact hK _ _ _ h9
 ·refine bg.fu (zx (s:=r.aR) bg.r (hc.mv bg.at) (Cells.mv aQ bg.at) bg.z (by(try simp only[aa]);omega) (ad dp hs.kp.size)) kQ λnz w X bX _=>?_;replace hs:=bX.s
  skip
  have h9:=bX;rw[hE] at hK
  (try simp only[ak] at h9 hK)
  exact hK _ _ _ h9
 ·refine bg.fu (kA (s:=r.prev) bg.r (hc.mv bg.at) (Cells.mv aQ bg.at) bg.z (by(try simp only[aa]);omega) (ad dp hs.kp.size)) kQ λnz w X bX _=>?_;replace hs:=bX.s;repeat' refine ao ?_;intros
  refine bX.fu (kA (s:=r.aV) bX.r (hc.mv bX.at) (Cells.mv aQ bX.at) bX.z (by(try simp only[aa]);omega) (ad dp hs.kp.size)) kQ λRX w X gZ _=>?_;replace hs:=gZ.s;repeat' refine ao ?_;intros
  refine gZ.fu (zx (s:=r.aR) gZ.r (hc.mv gZ.at) (Cells.mv aQ gZ.at) gZ.z (by(try simp only[aa]);omega) (ad dp hs.kp.size)) kQ λvb5 w X nK _=>?_;replace hs:=nK.s;repeat' refine ao ?_;intros
  refine nK.fu (Kd nK.r (hc.mv nK.at) (Cells.mv aQ nK.at) (a2.mv nK.at) nK.z (ad dp hs.kp.size) (by simp only[aa];omega)) kQ λvb6 w X Vc _=>?_;have h9:=Vc;rw[hE] at hK
  (try simp only[ak] at h9 hK)
  exact hK _ _ _ h9
 ·refine bg.fu (kA (s:=r.aV) bg.r (hc.mv bg.at) (Cells.mv aQ bg.at) bg.z (by(try simp only[aa]);omega) (ad dp hs.kp.size)) kQ λnz w X bX _=>?_;replace hs:=bX.s;repeat' refine ao ?_;intros
  refine bX.fu (VW bX.r (hc.mv bX.at) (Cells.mv aQ bX.at) (a4.mv bX.at) bX.z (ad dp hs.kp.size) (by simp only[aa];omega)) kQ λRX w X gZ _=>?_;have h9:=gZ;rw[hE] at hK
  (try simp only[ak] at h9 hK)
  exact hK _ _ _ h9
 ·rw[List.append_nil] at hE;have h9:=bg;rw[hE] at hK
  (try simp only[ak] at h9 hK)
  exact hK _ _ _ h9
def Rec.fB (r:Rec):Int:=if r.err≠0 then r.err else if 262144<(fZ r).length then 2 else 0
theorem DT {r:Rec} (h:r.at w X vr vw vp vq vh vd) (ni:r.small) (nk:r.err=0->(fZ r).length<=2^33):
  Ct pg 136 #[r.v vr vw vp vq vh vd] w X nX λv wa w'=>if r.fB≠0 then v= .tuple #[.slice none 0 0,I r.fB] else∃vb,v= .tuple #[vb,I 0]/\Own w' (made wa w') wa.heap.size 5 1 vb ((fZ r).map U1):=by
 intro w0 hk;replace h:=h.mv hk.cu;refine S3.1 λhs=>?_;repeat' first|refine ao ?_;intros|refine dq ?_ ?_<;>intros|(refine Oy hs ?_;intro bx w X gq aC gg hs bo)|(refine eT (aeB (r:=r) (h.mv (gg.trans hs).mv) ni) kQ hs.has λw X aC=>?_;replace hs:=hs.trans aC)|(refine qr ?_;intro wa hk;(have e:r.fB=r.err:=if_pos aQ;rw[e,if_pos aQ]))
 ·have Gu:r.err=0:=by assumption
  refine cA PV kQ hs.has ?_;rintro v wa w2 X2 ⟨wb,rfl,hW⟩ hle gy bm;have M3:=gg.trans (hs.trans bm);have lD:=bo.lt;have Xn:=hs.kp.size;refine aeb kQ ?_;refine AJ M3.has λcb w3 X3 hcb cV Rg=>?_;have hsB:=M3.trans cV;have Nd:=(bo.since (hs.trans bm)).since cV;obtain⟨Z,hZd⟩: ∃Z:XS,Z=λk=>k=bx\/k=cb\/bV w0 k:=⟨_,rfl⟩;have asw:wa.heap.size<=wb/\wb<w2.heap.size:=hW.box.1;have hZ:uN Z X3 wb (.slice none 0 0):=λk af=>by
   rw[hZd] at af;refine⟨?_,λhf=>?_⟩
   ·rcases af with rfl|rfl|af
    ·exact Nd.1
    ·exact Rg.1
    ·exact hsB.sub k af
   ·rcases hf with hf|hf
    ·rcases af with e|e|e
     ·omega
     ·omega
     ·have:k<w0.heap.size:=e;omega
    ·cases hf
  have hcC:Cells w3 Z cb 0 (lA wb):=aK.cells (ty:=249) ⟨by rw[hZd];exact .inr (.inl rfl),Rg.2⟩;have hxC:aK w3 Z bx (r.l vr vw vp vq vh vd) 73:=⟨by rw[hZd];exact .inl rfl,Nd.2⟩;have haC:r.at w3 Z vr vw vp vq vh vd:=h.mv λk af hl=>⟨by rw[hZd];exact .inr (.inr af),hsB.kp.block k af⟩;have Qz:Wr w3 X3 wa.heap.size wb (.slice none 0 0) []:=(hW.mv (Mv.sub gy)).mv cV.mv;refine yV (abr Qz hcC hxC haC hZ (by have:=cV.kp.size;omega) (by simpa using (nk Gu))) kQ hsB.has (λq hq=>by
   rcases hq with rfl|hq
   ·exact Qz.box.1
   ·cases hq) λv zj w4 X4 hq tL pa asx Fq=>?_
  obtain⟨rfl,MU,hW4⟩:=hq;have fR:=hsB.eo Fq λk af hf=>by
   have h0:k<w0.heap.size:=af;rcases hf with hf|hf
   ·omega
   ·cases hf
  have hW5:Wr w4 X4 wa.heap.size wb MU (fZ r):=hW4.mv (Mv.sub λk af=>by
   rcases af with(af|af)|af
   ·rw[af];exact Fq.sub _ Qz.box.1
   ·cases af
   ·exact pa k af)
  refine cA (ZX hW5 zQ) kQ fR.has ?_;rintro v5 Ox w5 X5 vX IX Fe tg;have hsC:=fR.trans tg;have ho:Own w5 X5 w0.heap.size 5 1 v5 ((fZ r).map U1):=vX.up Fe (by have:=fR.kp.size;omega);clear hs gg;have hs:=hsC;have hl:(List.map U1 (fZ r)).length=(fZ r).length:=ai _;repeat' first|refine ao ?_;intros|refine dq ?_ ?_<;>intros
  ·have e:r.fB=2:=by unfold Rec.fB;rw[if_neg zQ,if_pos zQ]
   exact cG hs λwb aL=>by rw[e,if_pos zQ]
  ·have e:r.fB=0:=by unfold Rec.fB;rw[if_neg zQ,if_neg zQ]
   exact cG hs λwb aL=>by
    rw[e,if_neg zQ];exact⟨v5,rfl,(ho.kp aL).tight⟩
def Qo (n:Int):Bool:=(decide (n>=1)&&decide (n<=12))||(decide (n>20)&&decide (n<=22))||decide (n=31)||decide (n=32)
theorem DF (n:Int):Pure pg 148 #[I n] (B (decide (n>=1)&&decide (n<=12))):=by
 intro w;refine S4.1 λ_=>?_;have hs:=aj.init w;repeat' first|refine ao ?_;intros|refine dq ?_ ?_<;>intros|(with_reducible refine fV hs ?_);simp_all<;>omega
theorem aaz (n:Int):Pure pg 97 #[I n] (B (Qo n)):=by
 intro w;refine Zt.1 λ_=>?_;have hs:=aj.init w;repeat' first|refine ao ?_;intros|refine dq ?_ ?_<;>intros|(refine kR (DF _) hs ?_ ?_<;>intro _ w X hs)|(with_reducible refine fV hs ?_);simp_all [Qo]<;>omega
structure bZ.at (w:World) (X:XS) (m:bZ) (vk vs vw vp vr vc vh vd:Value):Prop where
 keys:Sl w X 1 vk (m.keys.map S1)
 seen:Sl w X 7 vs (m.seen.map fe.l)
 writes:Sl w X 4 vw (m.writes.map KV.l)
 parts:Sl w X 1 vp (m.parts.map I1)
 ranges:Sl w X 4 vr (m.ranges.map eI.l)
 bp:eQ w X 29 vc Rec.rd m.bp
 iD:qY w X vh m.state.iD
 hU:qX w X vd m.state.hU
theorem bZ.at.mv {m:bZ} {vk vs vc:Value} (h:m.at w X vk vs vw vp vr vc vh vd) (v:Mv X w Y w'):m.at w' Y vk vs vw vp vr vc vh vd:=
 ⟨h.keys.mv v,h.seen.mv v,h.writes.mv v,h.parts.mv v,h.ranges.mv v,eQ.mv h.bp Rec.mv v,eQ.mv h.iD kJ.mv v,eQ.mv h.hU gr.mv v⟩
def bZ.rd (w:World) (X:XS) (l:List Value) (m:bZ):Prop:= ∃vk vs vw vp vr vc vh vd,l=m.l vk vs vw vp vr vc vh vd/\m.at w X vk vs vw vp vr vc vh vd
theorem bZ.mv:GH bZ.rd:=λ⟨vk,vs,vw,vp,vr,vc,vh,vd,h,h1⟩ m=>⟨vk,vs,vw,vp,vr,vc,vh,vd,h,h1.mv m⟩
theorem G8 {xs:List BA} (ha:Sl w X 1 a (xs.map S1)):
  Ct pg 214 #[a] w X nX λv _ _=>v=B (ym xs):=by
 intro w0 hk;replace ha:=ha.mv hk.cu;have lN:=ha.ib;refine Zy.1 λhs=>?_;repeat' refine ao ?_;intros
 refine gh (λn a w X=> ∃i:Nat,a=I (i:Nat)/\n=(xs).length-i/\i<=(xs).length/\aj (bV w0) w0 X w/\chain iL zr none xs=chain iL zr (uI xs i) (xs.drop i)) (xs).length ⟨0,rfl,rfl,au _,hs,by simp[uI]⟩ ?_;rintro n a w X ⟨i,rfl,rfl,hi,hs,hw⟩;rcases dG (xs) i with⟨cC,x,hx,hd⟩|⟨dH,hd⟩
 ·rcases Nx cC with⟨h0,hp⟩|⟨h0,y,hy,hp⟩<;>rw[hp,hd,chain] at hw<;>clear hd
  ·repeat' first|refine aN ?_;intros|(refine kR (lB _) hs ?_ ?_<;>intro _ w X hs)|(refine qr ?_;intro wa hk;simp_all [ym,rising,chain])|((with_reducible refine fp ((xs).length-(i+1)) ?_ ?_);omega;exact⟨i+1,by simp,rfl,by omega,hs,by rw[hw,rJ hx];simp[*]⟩)
  ·repeat' first|refine aN ?_;intros|refine dq ?_ ?_<;>intros|(refine kR (lB _) hs ?_ ?_<;>intro _ w X hs)|(refine qr ?_;intro wa hk;simp_all [ym,rising,chain])|((with_reducible refine fp ((xs).length-(i+1)) ?_ ?_);omega;exact⟨i+1,by simp,rfl,by omega,hs,by rw[hw,rJ hx];simp[*]⟩)
 ·repeat' first|refine aN ?_;intros|refine dq ?_ ?_<;>intros|(refine qr ?_;intro wa hk;simp_all [ym,rising,chain]<;>omega)
def fe.may (x:fe):Bool:=x.aV.may&&x.val.may&&!(decide (x.aV= .zero)&&decide (x.val.kind≠0))
def H3 (l:List fe):Bool:=l.all fe.may&&ym (l.map (·.key))
theorem aav {xs:List fe} (ha:Sl w X 7 a (xs.map fe.l)) (hb:xs.length<=2^40):
  Ct pg 216 #[a] w X nX λv _ _=>v=B (H3 xs):=by
 intro w0 hk;replace ha:=ha.mv hk.cu;have lN:=ha.ib;refine ZA.1 λhs=>?_;repeat' refine ao ?_;intros
 refine gM (λn a b w X=> ∃i:Nat,a=I i/\n=xs.length-i/\i<=xs.length/\aj (bV w0) w0 X w/\Own w X w0.heap.size 9 1 b (((xs.take i).map (·.key)).map S1)/\xs.all fe.may=(xs.drop i).all fe.may) xs.length ⟨0,rfl,rfl,au _,hs,Own.nil _ _ _ _ _,by simp⟩ ?_;rintro n a b w X ⟨i,rfl,rfl,hi,hs,ho,hw⟩;rcases dG (xs) i with⟨cC,x,hx,hd⟩|⟨dH,hd⟩
 ·rw[hd,iX] at hw;have Gu: ∀q:Bool,q=false->x.may=q->H3 xs=false:=λq hq h=>by simp[H3,hw,h,hq]
  repeat' first|refine aN ?_;intros|refine dq ?_ ?_<;>intros|(with_reducible refine E1 _ ?_ ?_ ?_);(· kernel_rfl);all_goals intros|((with_reducible apply Nl);(case own=>first|assumption|exact Own.since aQ aQ);(case hs=>assumption);(case h0=>first|exact λ_ h=>h|exact gg.has);(case he=>kernel_rfl);(case hk=>rfl);(case ho=>first|rfl|assumption);(case hb=>(simp only[ai,aI,aa,aM,bz];omega));(case hl=>(simp only[ai,aI,aa,aM,bz];omega));intro acc w X aC ho hc dB;replace hs:=aC)|with_reducible apply cK|((with_reducible refine Nw (pJ _) ?_ hs.has ?_ ?_);(· kernel_rfl);all_goals (intro _ w X aC;replace hs:=hs.trans aC))|((with_reducible refine Nw (mn _) ?_ hs.has ?_ ?_);(· kernel_rfl);all_goals (intro _ w X aC;replace hs:=hs.trans aC))|(refine qr ?_;intro wa hk;(exact(congrArg B (Gu false rfl (by clear Gu;grind [fe.may]))).symm))|((with_reducible refine fK ((xs).length-(i+1)) ?_ ?_);omega;exact⟨i+1,by simp,rfl,by omega,hs,by rw[dr,hx];simp only[zy,aJ,bD,List.map_nil];(first|exact Own.since ho aQ|exact Own.since (Own.since ho aQ) aQ),by rw[hw];clear Gu;grind [fe.may]⟩)
 ·rw[hd] at hw;rw[ax dH] at ho;repeat' first|refine aN ?_;intros|(refine qr ?_;intro wa hk;(rename_i h;simp[H3,hw,h]))|(refine qL (G8  (Own.sl ho)) hs ?_ ?_<;>intro _ w X hs)
theorem Si (ha:Sl w X 4 a (xs.map KV.l)) (hb:xs.length<=2^40):
  Ct pg 217 #[a] w X nX λv _ _=>v=B (Lb xs):=by
 intro w0 hk;replace ha:=ha.mv hk.cu;have lN:=ha.ib;refine RK.1 λhs=>?_;repeat' refine ao ?_;intros
 refine gM (λn a b w X=> ∃i:Nat,a=I i/\n=xs.length-i/\i<=xs.length/\aj (bV w0) w0 X w/\Own w X w0.heap.size 9 1 b (((xs.take i).map (·.key)).map S1)/\xs.all (·.val.may)=(xs.drop i).all (·.val.may)) xs.length ⟨0,rfl,rfl,au _,hs,Own.nil _ _ _ _ _,by simp⟩ ?_;rintro n a b w X ⟨i,rfl,rfl,hi,hs,ho,hw⟩;rcases dG (xs) i with⟨cC,x,hx,hd⟩|⟨dH,hd⟩
 ·rw[hd,iX] at hw;have Gu:x.val.may=false->Lb xs=false:=λh=>by simp[Lb,hw,h]
  repeat' first|refine aN ?_;intros|((with_reducible apply Nl);(case own=>first|assumption|exact Own.since aQ aQ);(case hs=>assumption);(case h0=>first|exact λ_ h=>h|exact gg.has);(case he=>kernel_rfl);(case hk=>rfl);(case ho=>first|rfl|assumption);(case hb=>(simp only[ai,aI,aa,aM,bz];omega));(case hl=>(simp only[ai,aI,aa,aM,bz];omega));intro acc w X aC ho hc dB;replace hs:=aC)|((with_reducible refine Nw (mn _) ?_ hs.has ?_ ?_);(· kernel_rfl);all_goals (intro _ w X aC;replace hs:=hs.trans aC))|(refine qr ?_;intro wa hk;(exact(congrArg B (Gu aQ)).symm))|((with_reducible refine fK ((xs).length-(i+1)) ?_ ?_);omega;exact⟨i+1,by simp,rfl,by omega,hs,by rw[dr,hx];simp only[zy,aJ,bD,List.map_nil];exact Own.since ho aQ,by rw[hw];clear Gu;simp[*]⟩)
 ·rw[hd] at hw;rw[ax dH] at ho;repeat' first|refine aN ?_;intros|(refine qr ?_;intro wa hk;(rename_i h;simp[Lb,hw,h]))|(refine qL (G8  (Own.sl ho)) hs ?_ ?_<;>intro _ w X hs)
def NH (l:List eI):Bool:=l.all eI.may&&decide ((l.length:Int)<=12)
theorem aan {xs:List eI} (ha:Sl w X 4 a (xs.map eI.l)):
  Ct pg 287 #[a] w X nX λv _ _=>v=B (NH xs):=by
 intro w0 hk;replace ha:=ha.mv hk.cu;have lN:=ha.ib;refine VE.1 λhs=>?_;repeat' refine ao ?_;intros
 refine gh (λn a w X=> ∃i:Nat,a=I (i:Nat)/\n=(xs).length-i/\i<=(xs).length/\aj (bV w0) w0 X w/\xs.all eI.may=(xs.drop i).all eI.may) (xs).length ⟨0,rfl,rfl,au _,hs,by simp⟩ ?_;rintro n a w X ⟨i,rfl,rfl,hi,hs,hw⟩;rcases dG (xs) i with⟨cC,x,hx,hd⟩|⟨dH,hd⟩
 ·rw[hd,iX] at hw;repeat' first|refine aN ?_;intros|(refine kR (wq _) hs ?_ ?_<;>intro _ w X hs)|(refine qr ?_;intro wa hk;(simp[NH,hw, *]))|((with_reducible refine fp ((xs).length-(i+1)) ?_ ?_);omega;exact⟨i+1,by simp,rfl,by omega,hs,by rw[hw];simp[*]⟩)
 ·rw[hd] at hw;repeat' first|refine aN ?_;intros|refine dq ?_ ?_<;>intros|(refine qr ?_;intro wa hk;(simp_all [NH]))
def codeOk (c:Int) (aao:Bool) (l:List eI):Bool:=if c=0 then aao&&decide (l=[])else decide (c>0)&&decide (c<=25)&&NH l
theorem aaw {c:Int} {aao:Bool} {xs:List eI} (ha:Sl w X 4 a (xs.map eI.l)):
  Ct pg 215 #[I c,B aao,a] w X nX λv _ _=>v=B (codeOk c aao xs):=by
 intro w0 hk;replace ha:=ha.mv hk.cu;have lN:=ha.ib;refine Zz.1 λhs=>?_;cases aao<;>
 repeat' first|refine ao ?_;intros|refine dq ?_ ?_<;>intros|with_reducible apply cK|(refine qr ?_;intro wa hk;(simp_all [codeOk]<;>omega))|(refine qL (aan  qA) hs ?_ ?_<;>intro _ w X hs)
def Ng (l:List Int) (n:Int):Bool:=l.any λx=>decide (x=n)
theorem acn {z:Int} {xs:List Int} (ha:Sl w X 1 a (xs.map I1)):
  Ct pg 219 #[a,I z] w X nX λv _ _=>v=B (Ng xs z):=by
 intro w0 hk;replace ha:=ha.mv hk.cu;have lN:=ha.ib;refine aa7.1 λhs=>?_;repeat' refine ao ?_;intros
 refine gh (λn a w X=> ∃i:Nat,a=I (i:Nat)/\n=(xs).length-i/\i<=(xs).length/\aj (bV w0) w0 X w/\Ng xs z=Ng (xs.drop i) z) (xs).length ⟨0,rfl,rfl,au _,hs,by simp⟩ ?_;rintro n a w X ⟨i,rfl,rfl,hi,hs,hw⟩;rcases dG (xs) i with⟨cC,x,hx,hd⟩|⟨dH,hd⟩
 ·rw[hd] at hw;repeat' first|refine aN ?_;intros|refine dq ?_ ?_<;>intros|(refine qr ?_;intro wa hk;(rw[hw];simp[Ng, *]))|((with_reducible refine fp ((xs).length-(i+1)) ?_ ?_);omega;exact⟨i+1,by simp,rfl,by omega,hs,by rw[hw];simp[Ng, *]⟩)
 ·rw[hd] at hw;repeat' first|refine aN ?_;intros|(refine qr ?_;intro wa hk;(rw[hw];rfl))
def Nh (l:List Rec):Bool:=l.all (λr=>decide (r.fB=0))&&decide ((l.length:Int)<=8)
theorem W9 {xs:List Rec} (ha:eQ w X 29 a Rec.rd xs) (ni: ∀r∈xs,r.small) (nk: ∀r∈xs,r.err=0->(fZ r).length<=2^33):
  Ct pg 150 #[a] w X nX λv _ _=>v=B (Nh xs):=by
 intro w0 hk;replace ha:=eQ.mv ha Rec.mv hk.cu;have lN:=ha.len;refine Vx.1 λhs=>?_;repeat' refine ao ?_;intros
 refine gh (λn a w X=> ∃i:Nat,a=I (i:Nat)/\n=(xs).length-i/\i<=(xs).length/\aj (bV w0) w0 X w/\xs.all (λr=>decide (r.fB=0))=(xs.drop i).all (λr=>decide (r.fB=0))) (xs).length ⟨0,rfl,rfl,au _,hs,by simp⟩ ?_;rintro n a w X ⟨i,rfl,rfl,hi,hs,hw⟩;rcases dG (xs) i with⟨cC,x,hx,hd⟩|⟨dH,hd⟩
 ·rw[hd,iX] at hw;have hxm:=aB hx;repeat' first|refine aN ?_;intros|((with_reducible apply abP);assumption;(try (case hz=>rfl));(case hr=>exact qR);(try (case hz=>omega));(case ht=>kernel_rfl);(case hs=>kernel_rfl);intros)
  refine cA (DT (r:=x) (Rec.at.mv aQ hs.mv) (ni x hxm) (nk x hxm)) kQ hs.has ?_;rintro v wa w2 X2 hq hle gy bm;replace hs:=hs.trans bm;by_cases he:x.fB=0
  ·rw[if_neg zQ] at hq;obtain⟨vb,rfl,_⟩:=hq;repeat' first|refine aN ?_;intros|((with_reducible refine fp ((xs).length-(i+1)) ?_ ?_);omega;exact⟨i+1,by simp,rfl,by omega,hs,by rw[hw];simp[he]⟩)
  ·rw[if_pos he] at hq;subst hq;repeat' first|refine aN ?_;intros|(refine qr ?_;intro wa hk;(simp[Nh,hw,he]))
 ·rw[hd] at hw;repeat' first|refine aN ?_;intros|refine dq ?_ ?_<;>intros|(refine qr ?_;intro wa hk;(simp_all [Nh]))
theorem ao5 {a b:Int} (h:N (.int .i64 (max a b))):aZ P X w (lz #[t,t] ty #[.int .i64 a,.int .i64 b]) N:=
 bA (λwa=>by
  simp only[lz,List.foldlM];by_cases hc:b>a
  ·have:max a b=b:=by omega
   simp[sw,hc,this]
  ·have:max a b=a:=by omega
   simp[sw,hc,this]) h
abbrev G9 (s:bN):List Value:=[I s.wall,I s.du,I s.node]
theorem afI {node:Int} {fl:bN} (h1:1<=node) (h2:node<=63) (h3:fl.may=true):Ct pg 83 #[I node,fl.v] w X nX λv wa w'=>
  ∃cb,v= .tuple #[ptr cb 0,I 0]/\aK w' (made wa w') cb (G9 { fl with node:=node }) 259:=by
 intro w0 hk;refine aes.1 λhs=>?_;repeat' refine aN ?_;intros
 refine se (pJ fl) kQ hs.has λw1 X1 aC=>?_;rw[h3];replace hs:=hs.trans aC;have hz:=hs.kp.size;repeat' first|refine ao ?_;intros|(refine Oy hs ?_;intro bx w X gq aC gg hs bo)
 exact cG (gg.trans hs) λwa aL=>⟨bx,rfl,⟨⟨by omega,(bo.kp aL).lt⟩,(bo.kp aL).2⟩⟩
def bN.tN (s:bN) (gL:Int):bN×Int:=
 if max gL 0>281474976710656 then(.zero,15)else if max gL 0>s.wall then(⟨max gL 0,0,s.node⟩,0)else if s.du>=65535 then(.zero,16)else(⟨s.wall,s.du+1,s.node⟩,0)
abbrev IQ:Nat:=259
section
variable {c : bN}
theorem acS {gL:Int} (h:aK w X cb (G9 c) IQ) (hl:c.du<2^60) (AU: -(2^60)<c.du):Ct pg 161 #[ptr cb 0,I gL] w X nX λv _ _=>v= .tuple #[(c.tN gL).1.v,I (c.tN gL).2]:=by
 intro w0 hk;replace h:=h.mv hk.cu;unfold bN.tN;refine NS.1 λhs=>?_;refine ao5 ?_;generalize max gL 0=p;repeat' first|refine ao ?_;intros|refine dq ?_ ?_<;>intros|with_reducible apply cK|(refine qr ?_;intro wa hk;(simp[*];try omega))
theorem Vg {t:bN} (h:aK w X cb (G9 c) IQ) (ht:t.may=true):
  Ct pg 154 #[ptr cb 0,t.v] w X (· =cb) λv _ w'=>v=I 0/\aK w' (· =cb) cb (G9 (c.later ⟨t.wall,t.du,c.node⟩)) IQ:=by
 intro w0 hk;have hF:FX (· =cb) X w:=λk af=>by subst af;exact⟨h.1,h.lt⟩
 have hT:=hF.ft hk;replace h:=h.mv hk.cu;refine Jn.1 λ_=>?_;refine se (pJ t) kQ (λ_ h=>h) λw1 X1 aC=>?_;rw[ht];replace h:=h.since aC;have hs:=aj.fT aC.has;repeat' refine ao ?_;intros
 refine se (OL c ⟨t.wall,t.du,c.node⟩) kQ hs.has λw3 X3 cV=>?_;have h3:=h.since (hs.trans cV);have dS:Ft w0 (· =cb) w3 X3 (· =cb):=⟨hT.s.trans (aC.trans (hs.trans cV)),λk af=>by subst af;exact h3.1,λk af=>.inl af⟩;obtain⟨r,hr⟩: ∃r,r=c.later ⟨t.wall,t.du,c.node⟩:=⟨_,rfl⟩;rw[<-hr];clear hr;repeat' refine ao ?_;intros
 refine Gy (o:=0) h3 zQ kQ sQ rfl rfl dS.s.has λw4 X4 c4 zk=>?_;have fJ:=dS.eo (F':=(· =cb)) c4 (λk af=>af) λk af=>.inl af
 skip
 exact fJ.fin λwa aL=>⟨rfl,(zk.kp aL).own⟩
end
section
variable {kb pb : Nat} {hm : List (BA × List pQ)} {pm : List (bH × gr)} {low : bN}
end
def xr (a b:Int):Int:=IntKind.u32.wrap (aF IntKind.u32.bits a^^^aF IntKind.u32.bits b).toNat
def xr8 (a b:Int):Int:=IntKind.u8.wrap (aF IntKind.u8.bits a^^^aF IntKind.u8.bits b).toNat
def an (a b:Int):Int:=IntKind.u32.wrap (aF IntKind.u32.bits a&&& aF IntKind.u32.bits b).toNat
def sr (a n:Int):Int:=a.fdiv (2^min n.toNat IntKind.u32.bits)
def ng (a:Int):Int:=IntKind.u32.wrap (-a)
def nt (a:Int):Int:=xr IntKind.u32.max a
def stp (c:Int):Int:=xr (sr c 1) (an 2197175160 (ng (an c 1)))
def it:Nat->Int->Int
 |0,c=>c
 |n+1,c=>stp (it n c)
def Ej (i:Int):Int:=it 8 (IntKind.u32.wrap i)
def aeO (l:List Nat) (c:Int):Int:=l.foldl (λ(c:Int) (x:Nat)=>it 8 (xr c (IntKind.u32.wrap x))) c
def aap (l:List Nat) (c:Int):Int:=l.foldl (λ(c:Int) (x:Nat)=>xr (sr c 8) (Ej (xr8 (IntKind.u8.wrap c) x))) c
def LB (l:List Nat):Int:=nt (if l.length<64 then aeO l 4294967295 else aap l 4294967295)
def De (l:List Nat):Nat:=(LB l).toNat
def uA (n:Nat):List Nat:=[n % 256,n/256 % 256,n/65536 % 256,n/16777216 % 256]
def dt (p:List Nat):List Nat:=uA p.length++uA (De (uA p.length))++p++uA (De p)
theorem wrap32 (n:Int):IntKind.u32.wrap n=n % 4294967296:=by simp[IntKind.wrap,mX,j5]
theorem aiX (a b:Int):0<=xr a b/\xr a b<4294967296:=by unfold xr;rw[wrap32];omega
theorem agA (a b:Int):0<=xr8 a b/\xr8 a b<256:=by unfold xr8;rw[Nj];omega
theorem Sb (l:List Nat):0<=LB l/\LB l<4294967296:=aiX _ _
theorem QS (l:List Nat):((De l:Nat):Int)=LB l:=yR (Sb l).1
theorem afs (l:List Nat):De l<4294967296:=by have:=QS l;have:=Sb l;omega
theorem Nk (n:Nat):(uA n).length=4:=rfl
theorem rn (p:List Nat):(dt p).length=p.length+12:=by simp only[dt,aa,Nk];omega
section
variable {m : Bool} {a b : Int}
theorem aeP (h:N (.int .u32 (xr a b))):aZ P X w (binOp .xor t (.int .u32 a) (.int .u32 b)) N:=Sh h
theorem ao6 (h:N (.int .u8 (xr8 a b))):aZ P X w (binOp .xor t (.int .u8 a) (.int .u8 b)) N:=Sh h
theorem anF (h:N (.int .u32 (an a b))):aZ P X w (binOp .and t (.int .u32 a) (.int .u32 b)) N:=Nb h
theorem aiY (hb: ¬b<0) (h:N (.int .u32 (sr a b))):aZ P X w (binOp .shr t (.int .u32 a) (.int .u64 b)) N:=EI hb h
theorem anG (h:N (.int .u32 (ng a))):aZ P X w (bE .neg (.int .u32 a)) N:=bA (λwa=>by simp[bE,ng,Op.intArith]) h
theorem anH (h:N (.int .u32 (nt a))):aZ P X w (bE .xor (.int .u32 a)) N:=bA (λwa=>by simp[bE,nt,xr,Op.intBits,j5]) h
theorem ab7 {k:IntKind} {z:Int} (hz:z=i) (hi:i<P.arrayLen t) (ht:P.underlying t=some (.array (P.arrayLen t) (P.elem t))) (hs:(P.info? (P.elem t)).map (·.size)=some 1) (h:N (ptr g (o+i))):
  aZ P X w (Instr.indexAt t (ptr g o) (.int k z)) N:=by
 subst hz;refine bA (v:=ptr g (o+i)) (λwa=>?_) h
 show(Instr.indexAt t (.pointer (some ⟨g,o,none⟩)) _).run P wa=_
 rw[run_indexAt_array (h:=ht),if_pos zQ];cases hq:P.info? (P.elem t)with
 |none=>simp[hq] at hs
 |some inf=>
  have:inf.size=1:=by simpa [hq] using hs
  simp[sizeOf,typeInfo,hq,this,zN]
end
abbrev U4 (x:Int):Value:=.int .u32 x
theorem VY:Ct pg 324 #[] w X nX λv wa w'=>v= .agg ((dD 256).map λi:Nat=>U4 (Ej (i:Int))).toArray:=by
 intro w0 hk;refine Tb.1 λhs=>?_;have hT:Ft w0 nX w0 (bV w0) nX:=Ft.init λ_ h=>h.elim;refine Nr (l:=gG 256 (U4 0)) hs.has kQ λb w1 X1 hb aC hr=>?_;have ej:Ft w0 nX w1 X1 (λk=>k=b):=(hT.since aC).more λk af=>by subst af;exact .inr ⟨hr.1,hb⟩
 refine C8 (λn a _ _ w X=> ∃i:Nat,a=I (i:Nat)/\n=256-i/\i<=256/\Ft w0 nX w X (λk=>k=b)/\aK w X b (((dD i).map λi:Nat=>U4 (Ej (i:Int)))++gG (256-i) (U4 0)) 447) 256 ⟨0,rfl,rfl,au _,ej,by simpa using hr⟩ ?_;rintro n a _ _ w X ⟨i,rfl,rfl,hi,da,jI⟩;repeat' first|refine ao ?_;intros|refine dq ?_ ?_<;>intros
 ·refine gM (λn a c w' X'=> ∃j:Nat,a=I (j:Nat)/\c=U4 (it j (IntKind.u32.wrap i))/\n=8-j/\j<=8/\w'=w/\X'=X) 8 ⟨0,rfl,rfl,rfl,au _,rfl,rfl⟩ ?_;rintro n a c _ _ ⟨j,rfl,rfl,rfl,hj,rfl,rfl⟩;repeat' first|refine ao ?_;intros|refine dq ?_ ?_<;>intros|(with_reducible apply aiY);omega|(with_reducible apply anF)|(with_reducible apply anG)|(with_reducible apply aeP)
  ·exact fK (8-(j+1)) zQ ⟨j+1,by simp,rfl,rfl,by omega,rfl,rfl⟩
  ·have hj8:j=8:=by omega
   subst hj8;have T1:pg.arrayLen 447=256:=by kernel_rfl
   refine ab7 rfl (by rw[T1];omega) kQ kQ ?_;rw[fg];refine Ew jI kQ oQ rfl rfl da.s.has λw3 X3 c D7=>?_;have dS:Ft w0 nX w3 X3 (λk=>k=b):=da.eo c (λk af=>af) λk af=>.inl af;repeat' refine ao ?_;intros
   refine AV (256-(i+1)) zQ ⟨i+1,by simp,rfl,by omega,dS,?_⟩;have e:cY (((dD i).map λi:Nat=>U4 (Ej (i:Int)))++gG (256-i) (U4 0)) i (aW (U4 (it 8 (IntKind.u32.wrap (i:Int))))).toList=((dD (i+1)).map λi:Nat=>U4 (Ej (i:Int)))++gG (256-(i+1)) (U4 0):=by
    have hl:((dD i).map λi:Nat=>U4 (Ej (i:Int))).length=i:=by simp
    rw[show 256-i=(256-(i+1))+1 by omega,List.replicate_succ];unfold cY;rw[ic hl,List.range_succ,aJ,List.map_singleton,ak,ak];have hd: ∀r:List Value,(((dD i).map λi:Nat=>U4 (Ej (i:Int)))++U4 0::r).drop (i+1)=r:=λr=>by
     rw[<-List.drop_drop,List.drop_left' hl];rfl
    have h1:(aW (U4 (it 8 (IntKind.u32.wrap (i:Int))))).toList=[U4 (Ej (i:Int))]:=rfl;rw[h1,dm,hd]
   rw[<-e];exact D7
 ·have hi6:i=256:=by omega
  subst hi6;have D7:aK w X b ((dD 256).map λi:Nat=>U4 (Ej (i:Int))) 447:=by simpa using jI
  have hl:((dD 256).map λi:Nat=>U4 (Ej (i:Int))).length=256:=by simp
  generalize hL:((dD 256).map λi:Nat=>U4 (Ej (i:Int)))=L at D7 hl⊢;have Jb:L.all aG.one=true:=by rw[<-hL];simp;intros;rfl
  refine acT D7.cells (Mv.refl _ _) kQ hl ?_;refine Ys ?_;refine di.2 ⟨by simpa [aW] using hl,di.2 ⟨by simpa [aW] using Jb,?_⟩⟩;refine af5 ?_;refine di.2 ⟨rfl,?_⟩;rw[List.drop_zero,ax zQ];exact da.fin λwa aL=>rfl
theorem Vd {β:Type} (f:β->Nat->β) (l:List Nat) {x:Nat} (c:β) (h:l[i]? =some x):(l.take (i+1)).foldl f c=f ((l.take i).foldl f c) x:=by
 rw[dr,h];simp
theorem CK {l:List Nat} (h:Sl w X 1 vb (l.map U1)):Ct pg 254 #[vb] w X nX λv wa w'=>v=U4 (LB l):=by
 intro w0 hk;replace h:=h.mv hk.cu;have hlen:=h.ib;refine ZE.1 λhs=>?_;repeat' first|refine ao ?_;intros|refine dq ?_ ?_<;>intros
 ·have h64:l.length<64:=by omega
  refine C8 (λn a _ c w X=> ∃i:Nat,a=I (i:Nat)/\c=U4 (aeO (l.take i) 4294967295)/\n=l.length-i/\i<=l.length/\aj (bV w0) w0 X w) l.length ⟨0,rfl,rfl,rfl,au _,hs⟩ ?_;clear hs;rintro n a _ _ w X ⟨i,rfl,rfl,rfl,hi,hs⟩;rcases dG l i with⟨cC,x,hx,hd⟩|⟨dH,hd⟩
  ·repeat' first|refine aN ?_;intros|(with_reducible apply aeP)
   refine gM (λn a c w' X'=> ∃j:Nat,a=I (j:Nat)/\c=U4 (it j (xr (aeO (l.take i) 4294967295) (IntKind.u32.wrap x)))/\n=8-j/\j<=8/\w'=w/\X'=X) 8 ⟨0,rfl,rfl,rfl,au _,rfl,rfl⟩ ?_;rintro n a c _ _ ⟨j,rfl,rfl,rfl,hj,rfl,rfl⟩;repeat' first|refine ao ?_;intros|refine dq ?_ ?_<;>intros|(with_reducible apply aiY);omega|(with_reducible apply anF)|(with_reducible apply anG)|(with_reducible apply aeP)
   ·exact fK (8-(j+1)) zQ ⟨j+1,by simp,rfl,rfl,by omega,rfl,rfl⟩
   ·have hj8:j=8:=by omega
    subst hj8;refine AV (l.length-(i+1)) zQ ⟨i+1,by simp,?_,rfl,by omega,hs⟩;unfold aeO;rw[Vd _ l _ hx]
  ·have mQ:i=l.length:=by omega
   subst mQ;repeat' first|refine aN ?_;intros|(with_reducible apply anH)|(refine qr ?_;intro wa hk;(rw[LB,if_pos h64,BT]))
 ·have h64: ¬l.length<64:=by omega
  refine cA VY kQ hs.has ?_;rintro _ wa w1 X1 rfl hle gy aC;replace hs:=hs.trans aC;refine Nr (l:=gG 256 (U4 0)) hs.has kQ λb w2 X2 hb bm hr=>?_;have pc:=hs.trans bm;have hT:Ft w0 nX w2 X2 (λk=>k=b):=((Ft.init (w:=w0) (F0:=nX) λ_ h=>h.elim).since pc).more λk af=>by subst af;exact .inr ⟨hr.1,by have:=hs.kp.size;omega⟩
  have hl:((dD 256).map λi:Nat=>U4 (Ej (i:Int))).length=256:=by simp
  have DD: ∀i:Nat,i<256->((dD 256).map λi:Nat=>U4 (Ej (i:Int)))[i]? =some (U4 (Ej (i:Int))):=λi hi=>by simp[hi]
  have Jb:((dD 256).map λi:Nat=>U4 (Ej (i:Int))).all aG.one=true:=by simp;intros;rfl
  generalize ((dD 256).map λi:Nat=>U4 (Ej (i:Int)))=L at hl DD Jb⊢;refine Ew hr kQ sQ (by simpa [aW] using hl) (by simpa [aW] using Jb) hT.s.has λw3 X3 c D7=>?_;have dS:Ft w0 nX w3 X3 (λk=>k=b):=hT.eo c (λk af=>af) λk af=>.inl af;have e:cY (gG 256 (U4 0)) 0 (aW (.agg L.toArray)).toList=L:=by
   unfold cY;simp[aW,hl]
  rw[e] at D7;have cV:aj (bV w0) w0 X3 w3:=⟨⟨dS.s.kp.os,dS.s.kp.tape,dS.s.kp.output,dS.s.kp.size,λk af=>dS.s.kp.block k ⟨af,λh=>h.elim⟩⟩,λk af=>dS.s.sub k ⟨af,λh=>h.elim⟩,dS.s.has⟩;clear hs pc;have hs:=cV;repeat' refine ao ?_;intros
  refine gM (λn a c w X=> ∃i:Nat,a=I (i:Nat)/\c=U4 (aap (l.take i) 4294967295)/\n=l.length-i/\i<=l.length/\w=w3/\X=X3) l.length ⟨0,rfl,rfl,rfl,au _,rfl,rfl⟩ ?_;rintro n a _ _ _ ⟨i,rfl,rfl,rfl,hi,rfl,rfl⟩;rcases dG l i with⟨cC,x,hx,hd⟩|⟨dH,hd⟩
  ·repeat' first|refine aN ?_;intros|(with_reducible apply aiY);omega|(with_reducible apply ao6)
   have hrg:=agA (IntKind.u8.wrap (aap (l.take i) 4294967295)) x;obtain⟨q,hq⟩: ∃q:Nat,xr8 (IntKind.u8.wrap (aap (l.take i) 4294967295)) x=(q:Int):=⟨_,(yR hrg.1).symm⟩;have T1:pg.arrayLen 447=256:=by kernel_rfl
   refine ab7 hq (by rw[T1];omega) kQ kQ ?_;rw[fg];have T5:=D7.cells.Wj (DD q zQ);rw[fg] at T5;repeat' first|refine ao ?_;intros|(with_reducible apply aeP)
   refine fK (l.length-(i+1)) zQ ⟨i+1,by simp,?_,rfl,by omega,rfl,rfl⟩;unfold aap;rw[Vd _ l _ hx,<-hq];rfl
  ·have mQ:i=l.length:=by omega
   subst mQ;repeat' first|refine aN ?_;intros|(with_reducible apply anH)|(refine qr ?_;intro wa hk;(rw[LB,if_neg h64,BT]))
theorem aeQ {u:Nat} (k:Nat) (hk:k<=32) (h:N (.int .u32 ((u/2^k:Nat):Int))):aZ P X w (binOp .shr t (.int .u32 (u:Int)) (.int .u64 (k:Int))) N:=by
 refine EI zQ ?_;have e:((u:Int)).fdiv (2^min ((k:Int)).toNat IntKind.u32.bits)=((u/2^k:Nat):Int):=by
  rw[show min ((k:Int)).toNat IntKind.u32.bits=k by simp[mX];omega];rw[Int.fdiv_eq_ediv_of_nonneg _ (by exact_mod_cast au _)]
  norm_cast
 rw[e];exact h
theorem ao7 (a b c d:Int):Instr.fill (λi=>some (i*1,1)) ((Array.range (4*1)).map ((Value.int .u8 0).cells[· % (Value.int .u8 0).cells.size]!)) [(0,.int .u8 a),(1,.int .u8 b),(2,.int .u8 c),(3,.int .u8 d)]=some #[.int .u8 a,.int .u8 b,.int .u8 c,.int .u8 d]:=by kernel_rfl
theorem HH {v:Value} {n:Nat} (h:Ow w F 5 1 v (bs.map U1)) (hF:FX F X w) (hl:bs.length<=2^40):
  Ct pg 279 #[v,U4 n] w X F λr wa w'=> ∃F',(∀k,F' k->F k\/made wa w' k)/\Ow w' F' 5 1 r ((bs++uA n).map U1):=by
 intro w0 hk;replace h:=h.mv (hF.mv hk);have hT:=hF.ft hk;refine ZH.1 λ_=>?_;refine RW kQ kQ ?_;refine aeQ 8 zQ ?_;refine RW kQ kQ ?_;refine aeQ 16 zQ ?_;refine RW kQ kQ ?_;refine aeQ 24 zQ ?_;refine RW kQ kQ ?_;refine Wg (bytes:=1) (rows:=(uA n).map U1) #[.int .u8 (n % 256:Nat),.int .u8 (n/256 % 256:Nat),.int .u8 (n/65536 % 256:Nat),.int .u8 (n/16777216 % 256:Nat)] (.int .u8 0) hT.s.has kQ kQ dQ dQ (ao7 _ _ _ _) sQ rfl rfl λs w1 X1 aC ho=>?_;have ej:=hT.since aC;refine Rz kQ aC.has ((h.mv (aC.gU hT.br)).mono ej.br) ho.sl (by intro r hr u hu;obtain⟨x,_,rfl⟩:=List.mem_map.1 hr;simp only[U1,aw] at hu;subst hu;rfl) (by simp[uA];omega) (by simp[uA];omega) λv' w2 X2 c lv dB=>?_;have hF2: ∀g,v'.ownBlock=some g->F g\/(X2 g/\w1.heap.size<=g):=λg hg=>by
  rcases dB with e|⟨g',e,dH⟩
  ·exact .inl (h.br (e▸hg)).1
  ·rw[hg] at e;have:g=g':=Option.some.inj e;subst this;exact .inr ⟨(lv.br hg).1,dH⟩
 have da:Ft w0 F w2 X2 (λk=>F k\/(X2 k/\w1.heap.size<=k)):=ej.eo c (λk af=>(h.br af).1) λk af=>af;refine da.fin λwa aL=>⟨_,da.jC aL λ_ h=>h,?_⟩;rw[aJ];exact lv.tight.mv λk af AU=>⟨hF2 k af,aL.block k (lv.br af).1⟩
theorem Ft.aiZ {wa:World} {F':XS} {v:Value} (h:Ft w0 nX w' X' (λk=>F k\/made wa w' k)) (ho:Ow w' F' e k v rows) (Di: ∀k,F' k->F k\/made wa w' k):Ow w' (Ee w0 X') e k v rows:=
 ho.mono λk hk=>⟨h.br k (Di k hk),(h.v k (Di k hk)).elim (λh=>h.elim) id⟩
theorem VZ {p:List Nat} (h:Sl w X 1 vp (p.map U1)):Ct pg 199 #[vp] w X nX λv wa w'=>
  if 262144<p.length then v= .tuple #[.slice none 0 0,I 2] else∃vb,v= .tuple #[vb,I 0]/\Ow w' (made wa w') 5 1 vb ((dt p).map U1):=by
 intro w0 hk;replace h:=h.mv hk.cu;have hlen:=h.ib;refine S6.1 λhs=>?_;repeat' first|refine ao ?_;intros|refine dq ?_ ?_<;>intros|(refine qr ?_;intro wa hk;(rw[if_pos zQ]))
 have hn: ¬262144<p.length:=by omega
 refine aga (e:=5) (k:=1) (c:=p.length+12) (bytes:=1) hs.has kQ sQ zQ zQ zQ λv0 w1 X1 aC ho=>?_;have hT:Ft w0 nX w1 X1 (Ee w0 X1):=((Ft.init (w:=w0) (F0:=nX) λ_ h=>h.elim).since aC).Ps;have hO:Ow w1 (Ee w0 X1) 5 1 v0 (([]:List Nat).map U1):=(ho.ow.tight).mono λk af=>⟨(ho.ow.br af).1,(ho.ge af).1⟩;have xD:IntKind.u32.wrap (p.length:Int)=(p.length:Nat):=by rw[wrap32];omega
 repeat' refine ao ?_;intros
 rw[xD];refine hT.call (HH hO (hT.fx λ_ h=>h) sQ) kQ (λ_ h=>h) λv1 yE w2 X2 hq hle gy da hc=>?_;obtain⟨F2,hF2,hO2⟩:=hq;have hO2:=Ft.aiZ da hO2 hF2;replace da:=da.Ps;rw[List.nil_append] at hO2;refine cA (CK (hO2.sl.mono da.br)) kQ da.s.has ?_;rintro _ yF w3 X3 rfl qy mr cV;have hO3:Ow w3 (Ee w0 X3) 5 1 v1 ((uA p.length).map U1):=(hO2.mv (cV.gU da.br)).mono λk af=>⟨cV.sub k af.1,af.2⟩;replace da:=(da.since cV).Ps;rw[<-QS];refine da.call (HH hO3 (da.fx λ_ h=>h) (by simp[uA])) kQ (λ_ h=>h) λv4 zj w4 X4 hq hle gy fJ hc=>?_;obtain⟨F4,hF4,hO4⟩:=hq;have hO4:=Ft.aiZ fJ hO4 hF4;replace fJ:=fJ.Ps;have hp4:Sl w4 X4 1 vp (p.map U1):=h.mv fJ.CX.mv;refine aoH fJ hO4 kQ hp4 (by intro r hr u hu;obtain⟨x,_,rfl⟩:=List.mem_map.1 hr;simp only[U1,aw] at hu;subst hu;rfl) (by simp[uA];omega) (by simp[uA];omega) λv5 w5 X5 iN hO5 Fg _=>?_;refine cA (CK (h.mv iN.CX.mv)) kQ iN.s.has ?_;rintro _ wa6 w6 X6 rfl Ya LJ rF;have hO6:Ow w6 (Ee w0 X6) 5 1 v5 ((uA p.length++uA (De (uA p.length))++p).map U1):=by
  rw[aJ];exact(hO5.mv (rF.gU iN.br)).mono λk af=>⟨rF.sub k af.1,af.2⟩
 replace iN:=(iN.since rF).Ps;rw[<-QS];refine iN.call (HH hO6 (iN.fx λ_ h=>h) (by simp[uA];omega)) kQ (λ_ h=>h) λv7 Qs w7 X7 hq hle gy CY hc=>?_;obtain⟨F7,hF7,hO7⟩:=hq
 skip
 refine CY.CX|>λAk=>cG Ak λwa aL=>?_;rw[if_neg hn];refine⟨v7,rfl,?_⟩;exact(Ft.aiZ CY hO7 hF7).mv λk af hl=>⟨⟨af.2,av hl aL.size⟩,aL.block k af.1⟩
end Go.Proofs.YtgfijddlkhkopaaGreat