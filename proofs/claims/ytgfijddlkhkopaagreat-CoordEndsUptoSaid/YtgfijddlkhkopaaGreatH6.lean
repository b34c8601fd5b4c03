/-
 Part 6 of the proof: what the last text leans on.
-/
import Derived.Test.YtgfijddlkhkopaaGreatChecked
import Derived.OpenShut
import Derived.JoinedCond
import Derived.Test.YtgfijddlkhkopaaGreatH5
open Nat renaming le_trans → ad, zero_le → au, lt_of_lt_of_le → av
open BitVec renaming ofInt → aF
open List renaming append_assoc → ak, map_cons → bD, find?_cons → fG, length_append → aa, mem_of_getElem? → aB, all_cons → iX, drop_zero → tF, length_map → ai, take_add_one → dr, nil_append → cx, sum_cons → uf, take_of_length_le → ax, any_cons → ze, map_append → aJ, foldl_cons → iz, length_take → aI, length_cons → aM, length_nil → bz, pairwise_cons → zw
open Go.Value renaming string → aP
open Go.DataW renaming TrodAll → zf
open Ieee.Datum renaming quotient → yQ
open List.cons renaming injEq → Ca
open Int renaming fdiv_eq_ediv_of_nonneg → tG
namespace Go.Proofs.YtgfijddlkhkopaaGreat
open Go.Proofs.Tryz renaming prog → pg
open Go.aG Go.ChangeShapes Go.WideShapes Go.ChangeAt Go.RowKit
set_option maxRecDepth 100000
set_option maxHeartbeats 4000000
set_option linter.unusedVariables false
set_option linter.unusedSimpArgs false
variable {P : Program} {W W' : World} {H : Type} {args : Array Value}
def Th (P:Program) (ts:List TypeId):Bool:=ts.all λt=>P.readableRec t&&decide (t<P.types.size)
theorem US (hl:laidOutB P=true) {enc:TypeId×Value->H} (hb:Below W.heap.size W W'): ∀{ts:List TypeId} {vs:List Value} {ds:List (DataW H)} {ps:List MemPlace},Th P ts=true->(∀x∈ps,x.block<W.heap.size)->
  zf enc P W 0 (λ_=>true) true ts vs ds ps->zf enc P W' 0 (λb=>decide (b<W.heap.size)) true ts vs ds ps
 |[],[],[],_,_,_,h=>h
 |t::ts,v::vs,d::ds,ps,hr,cC,⟨p,q,h1,h2,JY⟩=>by
  unfold Th at hr;simp only[iX,Bool.and_eq_true,decide_eq_true_eq] at hr;subst JY;exact⟨p,q,Below.trod hl hr.1.1 hr.1.2 h1 hb λx hx=>cC x (List.mem_append_left _ hx),US hl hb hr.2 (λx hx=>cC x (List.mem_append_right _ hx)) h2,rfl⟩
 |[],[],_::_,_,_,_,h=>h.elim
 |[],_::_,_,_,_,_,h=>h.elim
 |_::_,[],_,_,_,_,h=>h.elim
 |_::_,_::_,[],_,_,_,h=>h.elim
theorem ah4 (hl:laidOutB P=true) {tb:TypeId} (hub:P.underlying tb=some .bool) {enc:TypeId×Value->H} {f:Func} {s:ChangeSpec} {ds:List (DataW H)} {before:List MemPlace} (hv:s.vars=[]) (hrt:f.resultTypes= #[tb]) (hc:Th P f.params.toList=true)
  (hs:(s.fn H (ds++[])).results=[.lit (.bool true)]/\(s.fn H (ds++[])).args=ds/\(s.fn H (ds++[])).vars=[])
  (hW:DataW.Whole enc P f.params.toList s.vars false W args.toList ds [] before) (hA:zf enc P W 0 (λ_=>true) true f.params.toList args.toList ds before) (hx:Ext W W'):
  s.post enc P f false true false false W args (.bool true) W':=by
 have hb:=hx.below;refine⟨ds,[],before,[],before,[],hW,?_,?_,?_,Below.frame hb _,λh=>by cases h⟩
 ·rw[hrt,hs.1];exact trodAll_cons_mk (shut_bool hub _) trodAll_mk0
 ·rw[hs.2.1];exact US hl hb hc (λx hx=>hW.lt x hx) hA
 ·rw[hs.2.2,hv];rfl
theorem ah5:ownKnob pg.godebug=none:=by rfl
theorem Za:laidOutB pg=true:=by kernel_rfl
theorem bound {l:List (DataW H)} (hk:Rows.uptoSmall H l=true):Rows.uptoBulkAll l<=1048576:=of_decide_eq_true hk
attribute [local irreducible] un jn jq ji ld1 je st1 oS mO pj me pH HR D4 gT pI aZ nO nQ eW eV eU eC eF gE mE fin iM bq de vS KZ HS HT HU HV HW K0 K3 K4 K5 EW EX HX HY HZ K6 K7 K8
def bN.cmp (a b:bN):Int:=
 let p:=if a.wall≠b.wall then(a.wall,b.wall)else if a.du≠b.du then(a.du,b.du)else(a.node,b.node)
 if p.1<p.2 then-1 else if p.1>p.2 then 1 else 0
def bH.less (a b:bH):Bool:=
 if a.dX≠b.dX then a.dX<b.dX else if a.ba≠b.ba then a.ba<b.ba else a.sq<b.sq
def bH.may (a:bH):Bool:=a.dX>=1&&a.dX<=2&&a.ba>=1&&a.sq>=1
def bN.may (a:bN):Bool:=a.wall>=0&&a.wall<=281474976710656&&a.du>=0&&a.du<=65535&&a.node>=0&&a.node<=63
def bN.later (a b:bN):bN:=if a.cmp b<0 then b else a
def bN.It (a:bN):Bool:=a.may&&!decide (a= .zero)
theorem wh (a b:bN):Pure pg 155 #[a.v,b.v] (I (a.cmp b)):=by
 intro w0;refine S5.1 λhs=>?_;repeat' first|refine ao ?_;intros|refine dq ?_ ?_<;>intros|with_reducible apply cK|(with_reducible refine fV hs ?_);simp_all [bN.cmp]<;>omega
theorem DG (a:bH):Pure pg 213 #[a.v] (B a.may):=by
 intro w0;refine S7.1 λhs=>?_;repeat' first|refine ao ?_;intros|refine dq ?_ ?_<;>intros|(with_reducible refine fV hs ?_);simp_all [bH.may]<;>omega
theorem pJ (a:bN):Pure pg 140 #[a.v] (B a.may):=by
 intro w0;refine aet.1 λhs=>?_;repeat' first|refine ao ?_;intros|refine dq ?_ ?_<;>intros|(with_reducible refine fV hs ?_);simp_all [bN.may]<;>omega
theorem OL (a b:bN):Pure pg 104 #[a.v,b.v] (a.later b).v:=by
 intro w0;refine Zu.1 λhs=>?_;repeat' first|refine ao ?_;intros|refine dq ?_ ?_<;>intros|(refine pN (wh _ _) hs ?_;intro w X hs)|(with_reducible refine fV hs ?_);simp_all [bN.later]<;>grind
theorem VJ (n:Int):Pure pg 338 #[I n] (B (decide (n>=1)&&decide (n<=12))):=by
 intro w0;refine Td.1 λhs=>?_;repeat' first|refine ao ?_;intros|refine dq ?_ ?_<;>intros|(with_reducible refine fV hs ?_);simp_all<;>omega
theorem J8 (a:bN):Pure pg 339 #[a.v] (B a.It):=by
 intro w0;refine Te.1 λhs=>?_;repeat' first|refine ao ?_;intros|(with_reducible refine afa _ ?_ ?_ ?_);(· kernel_rfl);all_goals intros|(refine kR (pJ _) hs ?_ ?_<;>intro _ w X hs)|(with_reducible refine fV hs ?_);simp_all [bN.It]
def bN.Ti (c:Bool) (a:bN):Bool:=if c then a.It else decide (a= .zero)
theorem Tj (c:Bool) (a:bN):Pure pg 336 #[B c,a.v] (B (a.Ti c)):=by
 intro w0;refine RQ.1 λhs=>?_;repeat' first|refine ao ?_;intros|refine dq ?_ ?_<;>intros|(with_reducible refine E1 _ ?_ ?_ ?_);(· kernel_rfl);all_goals intros|(refine kR (J8 _) hs ?_ ?_<;>intro _ w X hs)|(with_reducible refine fV hs ?_);simp_all [bN.Ti]
theorem Ci (x:Nat) (wa:World):(callFunc 144 #[.float .f64 x]).run pg wa= .ok (.value (.int .u64 x)) wa:=by kernel_rfl
abbrev Ev:Value->World->World->Prop:=λv _ _=> ∃n:Int,v=I n
theorem kq (a b c:Int) (w:World) (X:XS):Ct pg 65 #[I a,I b,I c] w X nX Ev:=by
 intro w0 hk;refine SZ.1 λhs=>?_;repeat' first|refine ao ?_;intros|refine dq ?_ ?_<;>intros|(refine qr ?_;intro wa hk;exact⟨_,rfl⟩)|with_reducible apply oD
variable {most : Int} {a : Value} {X : XS} {w : World}
theorem vH {xs:List BA} (ha:Sl w X 1 a (xs.map S1)):
  Ct pg 66 #[a,I most] w X nX Ev:=by
 intro w0 hk;replace ha:=ha.mv hk.cu;have lN:=ha.ib;refine Ix.1 λhs=>?_;refine gM (λn a b w X=> ∃(i:Nat) (s:Int),a=I i/\b=I s/\n=(xs).length-i/\i<=(xs).length/\aj (bV w0) w0 X w) (xs).length ⟨0,_,rfl,rfl,rfl,au _,hs⟩ ?_;rintro n a b w X ⟨i,s,rfl,rfl,rfl,hi,hs⟩;repeat' first|refine ao ?_;intros|refine dq ?_ ?_<;>intros|(refine qr ?_;intro wa hk;exact⟨_,rfl⟩)|(refine xS (kq  _ _ _ _ _) hs ?_;intro n1 w X hs)|((with_reducible refine fK ((xs).length-(i+1)) ?_ ?_);omega;exact⟨i+1,_,by simp,rfl,rfl,by omega,hs⟩)|with_reducible apply oD
variable {xs : List KV}
theorem uE (ha:Sl w X 4 a (xs.map KV.l)):
  Ct pg 68 #[a,I most] w X nX Ev:=by
 intro w0 hk;replace ha:=ha.mv hk.cu;have lN:=ha.ib;refine Hy.1 λhs=>?_;refine gM (λn a b w X=> ∃(i:Nat) (s:Int),a=I i/\b=I s/\n=(xs).length-i/\i<=(xs).length/\aj (bV w0) w0 X w) (xs).length ⟨0,_,rfl,rfl,rfl,au _,hs⟩ ?_;rintro n a b w X ⟨i,s,rfl,rfl,rfl,hi,hs⟩;repeat' first|refine ao ?_;intros|refine dq ?_ ?_<;>intros|(refine qr ?_;intro wa hk;exact⟨_,rfl⟩)|(refine xS (kq  _ _ _ _ _) hs ?_;intro n1 w X hs)|((with_reducible refine fK ((xs).length-(i+1)) ?_ ?_);omega;exact⟨i+1,_,by simp,rfl,rfl,by omega,hs⟩)|with_reducible apply oD
theorem Gh {xs:List gr} (ha:qX w X a xs):
  Ct pg 117 #[a,I most] w X nX Ev:=by
 intro w0 hk;replace ha:=ha.mv hk.cu;have lN:=ha.len;refine F8.1 λhs=>?_;refine gM (λn a b w X=> ∃(i:Nat) (s:Int),a=I i/\b=I s/\n=(xs).length-i/\i<=(xs).length/\aj (bV w0) w0 X w) (xs).length ⟨0,_,rfl,rfl,rfl,au _,hs⟩ ?_;rintro n a b w X ⟨i,s,rfl,rfl,rfl,hi,hs⟩;repeat' first|refine ao ?_;intros|refine dq ?_ ?_<;>intros|((with_reducible apply Wm);assumption;(try (case hz=>rfl));(case hr=>exact qR);(try (case hz=>omega));(case ht=>kernel_rfl);(case hs=>kernel_rfl);intros)|(refine qr ?_;intro wa hk;exact⟨_,rfl⟩)|(refine xS (kq  _ _ _ _ _) hs ?_;intro n1 w X hs)|(refine xS (vH  qA) hs ?_;intro n1 w X hs)|(refine xS (uE  qA) hs ?_;intro n1 w X hs)|((with_reducible refine fK ((xs).length-(i+1)) ?_ ?_);omega;exact⟨i+1,_,by simp,rfl,rfl,by omega,hs⟩)|with_reducible apply oD
theorem F9 {xs:List kJ} (ha:qY w X a xs):
  Ct pg 116 #[a,I most] w X nX Ev:=by
 intro w0 hk;replace ha:=ha.mv hk.cu;have lN:=ha.len;refine Ey.1 λhs=>?_;refine C8 (λn a _ b w X=> ∃(i:Nat) (s:Int),a=I i/\b=I s/\n=xs.length-i/\i<=xs.length/\aj (bV w0) w0 X w) xs.length ⟨0,_,rfl,rfl,rfl,au _,hs⟩ ?_;rintro n a a2 b w X ⟨i,s,rfl,rfl,rfl,hi,hs⟩;repeat' first|refine ao ?_;intros|refine dq ?_ ?_<;>intros|((with_reducible apply RU);assumption;(try (case hz=>rfl));(case hr=>exact qR);(try (case hz=>omega));(case ht=>kernel_rfl);(case hs=>kernel_rfl);intros)|(refine qr ?_;intro wa hk;exact⟨_,rfl⟩)|(refine xS (kq  _ _ _ _ _) hs ?_;intro n1 w X hs)|with_reducible apply oD
 have cC:i<xs.length:=by omega
 obtain⟨x,hx,hd⟩:=akB cC;refine gM (λn a b w X=> ∃(k:Nat) (s:Int),a=I k/\b=I s/\n=x.mZ.length-k/\k<=x.mZ.length/\aj (bV w0) w0 X w) x.mZ.length ⟨0,_,rfl,rfl,rfl,au _,hs⟩ ?_;rintro n a b w X ⟨k,s,rfl,rfl,rfl,hk,hs⟩;repeat' first|refine ao ?_;intros|refine dq ?_ ?_<;>intros|((with_reducible apply RU);assumption;(try (case hz=>rfl));(case hr=>exact qR);(try (case hz=>omega));(case ht=>kernel_rfl);(case hs=>kernel_rfl);intros)|(refine xS (kq  _ _ _ _ _) hs ?_;intro n1 w X hs)|((with_reducible refine AV ((xs).length-(i+1)) ?_ ?_);omega;exact⟨i+1,_,by simp,rfl,rfl,by omega,hs⟩)|((with_reducible refine fK (x.mZ.length-(k+1)) ?_ ?_);omega;exact⟨k+1,_,by simp,rfl,rfl,by omega,hs⟩)|(have hl9:=Sl.ib ‹Sl w0 (bV w0) 6 _ (List.map pQ.l x.mZ)›;(with_reducible apply ajs);omega;omega)|with_reducible apply oD
variable {vh vp : Value} {s : State}
theorem A8 (ha:qY w X vh s.iD) (hb:qX w X vp s.hU):
  Ct pg 70 #[s.v vh vp,I most] w X nX Ev:=by
 intro w0 hk;replace ha:=ha.mv hk.cu;replace hb:=hb.mv hk.cu;refine Iy.1 λhs=>?_;repeat' first|(refine qr ?_;intro wa hk;exact⟨_,rfl⟩)|(refine xS (kq  _ _ _ _ _) hs ?_;intro n1 w X hs)|(refine xS (F9  qA) hs ?_;intro n1 w X hs)|(refine xS (Gh  qA) hs ?_;intro n1 w X hs)
variable {vd vq vr vw : Value} {r : Rec}
theorem Mk (ha:r.at w X vr vw vp vq vh vd):
  Ct pg 69 #[r.v vr vw vp vq vh vd,I most] w X nX Ev:=by
 intro w0 hk;obtain⟨h1,h2,h3,h4,h5,h6⟩:=ha.mv hk.cu;have lN:=h4.ib;refine Ks.1 λhs=>?_;repeat' first|refine ao ?_;intros|(refine xS (kq  _ _ _ _ _) hs ?_;intro n1 w X hs)|(refine xS (vH  qA) hs ?_;intro n1 w X hs)|(refine xS (uE  qA) hs ?_;intro n1 w X hs)|with_reducible apply oD
 refine gM (λn a b w X=> ∃(i:Nat) (s:Int),a=I i/\b=I s/\n=(r.xd).length-i/\i<=(r.xd).length/\aj (bV w0) w0 X w) (r.xd).length ⟨0,_,rfl,rfl,rfl,au _,hs⟩ ?_;rintro n a b w X ⟨i,s,rfl,rfl,rfl,hi,hs⟩;repeat' first|refine ao ?_;intros|refine dq ?_ ?_<;>intros|(refine qr ?_;intro wa hk;exact⟨_,rfl⟩)|(refine xS (kq  _ _ _ _ _) hs ?_;intro n1 w X hs)|(refine xS (A8  (s:=r.state) qA qA) hs ?_;intro n1 w X hs)|((with_reducible refine fK ((r.xd).length-(i+1)) ?_ ?_);omega;exact⟨i+1,_,by simp,rfl,rfl,by omega,hs⟩)|with_reducible apply oD
def iL (s:BA):Bool:=decide ((s.size:Int)>=1)&&decide ((s.size:Int)<=24)
theorem lB (s:BA):Pure pg 162 #[.string s] (B (iL s)):=by
 intro w0;refine Zw.1 λhs=>?_;repeat' first|refine ao ?_;intros|refine dq ?_ ?_<;>intros|(with_reducible refine fV hs ?_);simp_all [iL]<;>omega
theorem JB (r:eI) (x:Nat):Pure pg 222 #[r.v,.float .f64 x] (B ((J0 x r.lo||pR x r.lo)&&qT x r.hi)):=by
 intro w0;refine aa8.1 λhs=>?_;repeat' first|refine ao ?_;intros|refine dq ?_ ?_<;>intros|(with_reducible refine fV hs ?_);(simp_all<;>grind)
def canon (x:Nat):Nat:=if pR x x then x else 9221120237041090560
theorem rK (x:Nat):Pure pg 347 #[.float .f64 x] (.float .f64 (canon x)):=by
 intro w0;refine ZL.1 λhs=>?_;repeat' first|refine ao ?_;intros|refine dq ?_ ?_<;>intros|(with_reducible refine fV hs ?_);simp_all [canon]|((with_reducible refine E2 (v:=.float .f64 9221120237041090560) ?_ hs.has ?_);(· intro wa;kernel_rfl);intro w X aC;replace hs:=hs.trans aC)
theorem EC (x:Nat):Pure pg 305 #[.float .f64 x] (.int .u64 (canon x)):=by
 intro w0;refine abb.1 λhs=>?_;repeat' first|(refine pN (rK _) hs ?_;intro w X hs)|(with_reducible refine fV hs ?_);rfl|((with_reducible refine E2 (Ci _) hs.has ?_);intro w X aC;replace hs:=hs.trans aC)
def land (a b:Int):Int:=IntKind.u64.wrap (aF IntKind.u64.bits a&&& aF IntKind.u64.bits b).toNat
def JC (a b:Int):Int:=IntKind.u64.wrap (aF IntKind.u64.bits a^^^aF IntKind.u64.bits b).toNat
def JD (a n:Int):Int:=a.fdiv (2^min n.toNat IntKind.u64.bits)
def ZR (a b:Int):Int:=IntKind.u64.wrap (a*b)
variable {b : Int} {t : TypeId} {N : Value -> Prop}
theorem agd {a:Int} (h:N (.int .u64 (land a b))):aZ P X w (binOp .and t (.int .u64 a) (.int .u64 b)) N:=Nb h
theorem RV {a:Int} (h:N (.int .u64 (JC a b))):aZ P X w (binOp .xor t (.int .u64 a) (.int .u64 b)) N:=Sh h
theorem MQ {a:Int} (hb: ¬b<0) (h:N (.int .u64 (JD a b))):aZ P X w (binOp .shr t (.int .u64 a) (.int .u64 b)) N:=EI hb h
theorem ZS {a:Int} (h:N (.int .u64 (ZR a b))):aZ P X w (binOp .mul t (.int .u64 a) (.int .u64 b)) N:=Sf h
def cls (x:Nat):Int:=
 let b:Int:=canon x
 let e:=land (JD b 52) 2047
 let f:=land b 4503599627370495
 if e=2047/\f≠0 then 0 else
  let k:=if e=2047 then 8 else if e>0 then 7 else if f>0 then 6 else 5
  if land b 9223372036854775808≠0 then 9-k else k
theorem HE (x:Nat):Pure pg 307 #[.float .f64 x] (I (cls x)):=by
 intro w0;refine ZJ.1 λhs=>?_;repeat' first|refine ao ?_;intros|refine dq ?_ ?_<;>intros|with_reducible apply cK|(refine pN (EC _) hs ?_;intro w X hs)|(with_reducible refine fV hs ?_);(simp only[cls] at*;grind)|with_reducible apply agd|(with_reducible apply MQ);omega
def GQ:Nat:=4607182418800017408
def Iz (x:Nat):Bool:=decide (cls x>=5)&&(qT x GQ||pR x GQ)
theorem J9 (x:Nat):Pure pg 252 #[.float .f64 x] (B (Iz x)):=by
 intro w0;refine S8.1 λhs=>?_;repeat' first|refine ao ?_;intros|refine dq ?_ ?_<;>intros|(refine pN (HE _) hs ?_;intro w X hs)|(with_reducible refine fV hs ?_);(simp_all [Iz,GQ]<;>grind)
def EM (x:Nat):Nat×Int:=if cls x=4 then(0,0)else if Iz x then(x,0)else(0,1)
theorem VK (x:Nat):Pure pg 337 #[.float .f64 x] (.tuple #[.float .f64 (EM x).1,I (EM x).2]):=by
 intro w0;refine Tc.1 λhs=>?_;repeat' first|refine ao ?_;intros|refine dq ?_ ?_<;>intros|(refine kR (J9 _) hs ?_ ?_<;>intro _ w X hs)|(refine pN (HE _) hs ?_;intro w X hs)|(with_reducible refine fV hs ?_);(simp_all [EM]<;>grind)
def eI.may (r:eI):Bool:=decide (r.id>=1)&&decide (r.id<=12)&&decide (r.iC>=0)&&Iz r.lo&&Iz r.hi&&qT r.lo r.hi
theorem wq (r:eI):Pure pg 177 #[r.v] (B r.may):=by
 intro w0;refine Zx.1 λhs=>?_;repeat' first|refine ao ?_;intros|refine dq ?_ ?_<;>intros|with_reducible apply cK|(refine kR (J9 _) hs ?_ ?_<;>intro _ w X hs)|(with_reducible refine fV hs ?_);(simp_all [eI.may]<;>omega)
def gJ.may (v:gJ):Bool:=
 if v.kind=0 then decide (v.num=0)&&decide (v.text=⟨#[]⟩)
 else if v.kind=1 then decide (v.text=⟨#[]⟩)&&decide (v.num=canon v.num)
 else if v.kind=2 then decide (v.num=0)&&decide ((v.text.size:Int)<=64)
 else false
theorem mn (v:gJ):Pure pg 229 #[v.v] (B v.may):=by
 intro w0;refine ZD.1 λhs=>?_;repeat' first|refine ao ?_;intros|refine dq ?_ ?_<;>intros|with_reducible apply cK|(refine pN (EC _) hs ?_;intro w X hs)|(with_reducible refine fV hs ?_);(simp_all [gJ.may]<;>omega)|((with_reducible refine E2 (Ci _) hs.has ?_);intro w X aC;replace hs:=hs.trans aC)
def QY (h:Int) (b:UInt8):Int:=ZR (JC h (IntKind.u64.wrap b.toNat)) 1099511628211
def anh (h:Int):Nat->Int
 |0=>h
 |1=>ZR (JC h (JD h 33)) 18397679294719823053
 |_=>let g:=ZR (JC h (JD h 33)) 18397679294719823053;ZR (JC g (JD g 33)) 14181476777654086739
def MR (s:BA):Int:=let h:=anh (s.data.toList.foldl QY 14695981039346656037) 2;JC h (JD h 33)
theorem ZT (s:BA) (aqP:s.size<=2^62):Pure pg 294 #[.string s] (.int .u64 (MR s)):=by
 intro w0;have gd:=LH s;refine VG.1 λhs=>?_;repeat' refine ao ?_;intros
 refine gM (λn a b w X=> ∃(i:Nat) (h:Int),a=I i/\b= .int .u64 h/\n=s.data.toList.length-i/\i<=s.data.toList.length/\aj (bV w0) w0 X w/\
  s.data.toList.foldl QY 14695981039346656037=(s.data.toList.drop i).foldl QY h) s.data.toList.length ?_ ?_
 ·exact⟨0,14695981039346656037,rfl,rfl,rfl,au _,hs,by rw[tF]⟩
 rintro n a b w X ⟨i,h,rfl,rfl,rfl,hi,hs,hw⟩;rcases dG s.data.toList i with⟨cC,x,hx,hd⟩|⟨dH,hd⟩
 ·repeat' first|refine aN ?_;intros|with_reducible (first|apply RV|apply ZS)|((with_reducible refine fK ((s.data.toList).length-(i+1)) ?_ ?_);omega;exact⟨i+1,_,by simp,rfl,rfl,by omega,hs,by rw[hw,hd,iz];rfl⟩)
 ·repeat' refine aN ?_;intros
  rw[hd] at hw;refine gM (λn a b w X=> ∃(i:Nat),a=I i/\b= .int .u64 (anh h i)/\n=2-i/\i<=2/\aj (bV w0) w0 X w) 2 ⟨0,rfl,rfl,rfl,au _,hs⟩ ?_;rintro n a b w X ⟨i,rfl,rfl,rfl,hi,hs⟩;obtain rfl|rfl|rfl:i=0\/i=1\/i=2:=by omega
  ·repeat' first|refine aN ?_;intros|(with_reducible apply RV)|(with_reducible apply ZS)|(with_reducible apply MQ);omega|(with_reducible refine fK 1 ?_ ?_);omega;exact⟨1,rfl,rfl,rfl,by omega,hs⟩
  ·repeat' first|refine aN ?_;intros|(with_reducible apply RV)|(with_reducible apply ZS)|(with_reducible apply MQ);omega|(with_reducible refine fK 0 ?_ ?_);omega;exact⟨2,rfl,rfl,rfl,by omega,hs⟩
  ·repeat' first|refine aN ?_;intros|(with_reducible refine fV hs ?_);(simp only[MR,hw];rfl)|(with_reducible apply RV)|(with_reducible apply MQ);omega
theorem aev (n:Int): ∃r,floatBits .quo .f64 (floatOfInt .f64 n) 4845873199050653696=some r:=by
 have hn:(Ieee.double.read (floatOfInt .f64 n)).isNaN=false:=Zi _ _ _ _;have hd:Ieee.double.read 4845873199050653696= .number false 4503599627370496 1:=by kernel_rfl
 show∃r,((Ieee.double.read (floatOfInt .f64 n)).quotient _ (Ieee.double.read 4845873199050653696)).map _=some r
 rw[hd];cases hr:Ieee.double.read (floatOfInt .f64 n)with
 |number s m p=>simp[yQ]
 |infinity s=>simp[yQ]
 |nan s f=>rw[hr] at hn;simp[Ieee.Datum.isNaN] at hn
def placeOf (s:BA):Nat:=(floatBits .quo .f64 (floatOfInt .f64 (JD (MR s) 11)) 4845873199050653696).getD 0
theorem aew (s:BA):floatBits .quo .f64 (floatOfInt .f64 (JD (MR s) 11)) 4845873199050653696=some (placeOf s):=by
 obtain⟨r,hr⟩:=aev (JD (MR s) 11);rw[placeOf,hr];rfl
theorem JE (s:BA) (aqP:s.size<=2^62):Pure pg 223 #[.string s] (.float .f64 (placeOf s)):=by
 intro w0;refine aa9.1 λhs=>?_;repeat' first|refine ao ?_;intros|(refine pN (ZT _ (by first|assumption|omega)) hs ?_;intro w X hs)|(with_reducible refine fV hs ?_);rfl|(with_reducible apply MQ);omega|(with_reducible apply aoC);(· exact aew s)
def rising (l:List BA):Bool:=chain iL zr none l
def ym (l:List BA):Bool:=rising l&&decide ((l.length:Int)<=16)
theorem abe {xs:List BA} (ha:Sl w X 1 a (xs.map S1)):
  Ct pg 295 #[a] w X nX λv _ _=>v=B (ym xs):=by
 intro w0 hk;replace ha:=ha.mv hk.cu;have lN:=ha.ib;refine ZI.1 λhs=>?_;repeat' refine ao ?_;intros
 refine gh (λn a w X=> ∃i:Nat,a=I (i:Nat)/\n=(xs).length-i/\i<=(xs).length/\aj (bV w0) w0 X w/\chain iL zr none xs=chain iL zr (uI xs i) (xs.drop i)) (xs).length ⟨0,rfl,rfl,au _,hs,by simp[uI]⟩ ?_;rintro n a w X ⟨i,rfl,rfl,hi,hs,hw⟩;rcases dG (xs) i with⟨cC,x,hx,hd⟩|⟨dH,hd⟩
 ·rcases Nx cC with⟨h0,hp⟩|⟨h0,y,hy,hp⟩<;>rw[hp,hd,chain] at hw<;>clear hd
  ·repeat' first|refine aN ?_;intros|(refine kR (lB _) hs ?_ ?_<;>intro _ w X hs)|(refine qr ?_;intro wa hk;simp_all [ym,rising,chain])|((with_reducible refine fp ((xs).length-(i+1)) ?_ ?_);omega;exact⟨i+1,by simp,rfl,by omega,hs,by rw[hw,rJ hx];simp[*]⟩)
  ·repeat' first|refine aN ?_;intros|refine dq ?_ ?_<;>intros|(refine kR (lB _) hs ?_ ?_<;>intro _ w X hs)|(refine qr ?_;intro wa hk;simp_all [ym,rising,chain])|((with_reducible refine fp ((xs).length-(i+1)) ?_ ?_);omega;exact⟨i+1,by simp,rfl,by omega,hs,by rw[hw,rJ hx];simp[*]⟩)
 ·repeat' first|refine aN ?_;intros|refine dq ?_ ?_<;>intros|(refine qr ?_;intro wa hk;simp_all [ym,rising,chain]<;>omega)
def Lb (l:List KV):Bool:=ym (l.map (·.key))&&l.all (·.val.may)
theorem PR (ha:Sl w X 4 a (xs.map KV.l)) (hb:xs.length<=2^40):
  Ct pg 296 #[a] w X nX λv wa w'=>Own w' (made wa w') wa.heap.size 9 1 v ((xs.map (·.key)).map S1):=by
 intro w0 hk;replace ha:=ha.mv hk.cu;have lN:=ha.ib;refine NY.1 λhs=>?_;repeat' refine ao ?_;intros
 refine gM (λn a b w X=> ∃i:Nat,a=I i/\n=xs.length-i/\i<=xs.length/\aj (bV w0) w0 X w/\Own w X w0.heap.size 9 1 b (((xs.take i).map (·.key)).map S1)) xs.length ⟨0,rfl,rfl,au _,hs,Own.nil _ _ _ _ _⟩ ?_;rintro n a b w X ⟨i,rfl,rfl,hi,hs,ho⟩;rcases dG (xs) i with⟨cC,x,hx,hd⟩|⟨dH,hd⟩
 ·repeat' first|refine aN ?_;intros|((with_reducible apply Nl);(case own=>first|assumption|exact Own.since aQ aQ);(case hs=>assumption);(case h0=>first|exact λ_ h=>h|exact gg.has);(case he=>kernel_rfl);(case hk=>rfl);(case ho=>first|rfl|assumption);(case hb=>(simp only[ai,aI,aa,aM,bz];omega));(case hl=>(simp only[ai,aI,aa,aM,bz];omega));intro acc w X aC ho hc dB;replace hs:=aC)|((with_reducible refine fK ((xs).length-(i+1)) ?_ ?_);omega;exact⟨i+1,by simp,rfl,by omega,hs,by rw[dr,hx];simpa using ho⟩)
 ·repeat' first|refine aN ?_;intros|(refine qr ?_;intro wa hk;(rw[ax dH] at ho;exact(ho.kp hk).tight))
def gr.err (p:gr):Int:=
 if !p.aR.may then 4 else if !p.aV.may||decide (p.aV= .zero)then 17
 else if !ym p.reads||!ym (p.writes.map (·.key))then 4
 else if p.writes.all (·.val.may)then 0 else 4
variable {p : gr}
theorem zg (h1:Sl w X 1 vr (p.reads.map S1)) (h2:Sl w X 4 vw (p.writes.map KV.l)) (hb:p.writes.length<=2^40):
  Ct pg 224 #[p.v vr vw] w X nX λv _ _=>v=I p.err:=by
 intro w0 hk;replace h1:=h1.mv hk.cu;replace h2:=h2.mv hk.cu;refine MN.1 λhs=>?_;repeat' first|refine ao ?_;intros|(with_reducible refine E1 _ ?_ ?_ ?_);(· kernel_rfl);all_goals intros|with_reducible apply cK|(refine kR (pJ _) hs ?_ ?_<;>intro _ w X hs)|(refine kR (DG _) hs ?_ ?_<;>intro _ w X hs)|(refine qr ?_;intro wa hk;simp_all [gr.err])|(refine qL (abe  qA) hs ?_ ?_<;>intro _ w X hs)|(refine cA (PR  qA qA) kQ hs.has ?_;rintro v1 wa w X uT hle gy aC;have gv:=ad hs.kp.size hle;replace hs:=hs.trans aC;replace uT:=uT.up gy gv)
 refine gh (λn a w X=> ∃i:Nat,a=I (i:Nat)/\n=(p.writes).length-i/\i<=(p.writes).length/\aj (bV w0) w0 X w/\p.writes.all (·.val.may)=(p.writes.drop i).all (·.val.may)) (p.writes).length ⟨0,rfl,rfl,au _,hs,by simp⟩ ?_;rintro n a w X ⟨i,rfl,rfl,hi,hs,hw⟩;rcases dG (p.writes) i with⟨cC,x,hx,hd⟩|⟨dH,hd⟩
 ·repeat' first|refine aN ?_;intros|(refine kR (mn _) hs ?_ ?_<;>intro _ w X hs)|(refine qr ?_;intro wa hk;simp_all [gr.err])|((with_reducible refine fp ((p.writes).length-(i+1)) ?_ ?_);omega;exact⟨i+1,by simp,rfl,by omega,hs,by rw[hw,hd];simp[*]⟩)
 ·repeat' first|refine aN ?_;intros|(refine qr ?_;intro wa hk;simp_all [gr.err])
def yn (l:List Int):Bool:=chain (λn=>decide (n>=1)&&decide (n<=12)) (λa b=>decide (a<b)) none l&&decide (l≠[])
theorem Lc {xs:List Int} (ha:Sl w X 1 a (xs.map I1)):
  Ct pg 218 #[a] w X nX λv _ _=>v=B (yn xs):=by
 intro w0 hk;replace ha:=ha.mv hk.cu;have lN:=ha.ib;refine VB.1 λhs=>?_;repeat' refine ao ?_;intros
 refine gh (λn a w X=> ∃i:Nat,a=I (i:Nat)/\n=(xs).length-i/\i<=(xs).length/\aj (bV w0) w0 X w/\chain (λn=>decide (n>=1)&&decide (n<=12)) (λa b=>decide (a<b)) none xs=chain (λn=>decide (n>=1)&&decide (n<=12)) (λa b=>decide (a<b)) (uI xs i) (xs.drop i)) (xs).length ⟨0,rfl,rfl,au _,hs,by simp[uI]⟩ ?_;rintro n a w X ⟨i,rfl,rfl,hi,hs,hw⟩;rcases dG (xs) i with⟨cC,x,hx,hd⟩|⟨dH,hd⟩
 ·rcases Nx cC with⟨h0,hp⟩|⟨h0,y,hy,hp⟩<;>rw[hp,hd,chain] at hw<;>clear hd
  ·repeat' first|refine aN ?_;intros|refine dq ?_ ?_<;>intros|(refine qr ?_;intro wa hk;(simp_all [yn,chain]<;>omega))|((with_reducible refine fp ((xs).length-(i+1)) ?_ ?_);omega;exact⟨i+1,by simp,rfl,by omega,hs,by rw[hw,rJ hx];simp_all<;>omega⟩)
  ·repeat' first|refine aN ?_;intros|refine dq ?_ ?_<;>intros|(refine qr ?_;intro wa hk;(simp_all [yn,chain]<;>omega))|((with_reducible refine fp ((xs).length-(i+1)) ?_ ?_);omega;exact⟨i+1,by simp,rfl,by omega,hs,by rw[hw,rJ hx];simp_all<;>omega⟩)
 ·repeat' first|refine aN ?_;intros|refine dq ?_ ?_<;>intros|(refine qr ?_;intro wa hk;(simp_all [yn,chain]<;>grind))
def ND (l:List KV):Bool:=chain (λx=>iL x.key&&x.val.may&&decide (x.val.kind≠0)) (λa b=>zr a.key b.key) none l
theorem ZU (ha:Sl w X 4 a (xs.map KV.l)):
  Ct pg 340 #[a] w X nX λv _ _=>v=B (ND xs):=by
 intro w0 hk;replace ha:=ha.mv hk.cu;have lN:=ha.ib;refine VI.1 λhs=>?_;repeat' refine ao ?_;intros
 refine gh (λn a w X=> ∃i:Nat,a=I (i:Nat)/\n=(xs).length-i/\i<=(xs).length/\aj (bV w0) w0 X w/\ND xs=chain (λx=>iL x.key&&x.val.may&&decide (x.val.kind≠0)) (λa b=>zr a.key b.key) (uI xs i) (xs.drop i)) (xs).length ⟨0,rfl,rfl,au _,hs,by simp[uI,ND]⟩ ?_;rintro n a w X ⟨i,rfl,rfl,hi,hs,hw⟩;rcases dG (xs) i with⟨cC,x,hx,hd⟩|⟨dH,hd⟩
 ·rcases Nx cC with⟨h0,hp⟩|⟨h0,y,hy,hp⟩<;>rw[hp,hd,chain] at hw<;>clear hd
  ·repeat' first|refine aN ?_;intros|refine dq ?_ ?_<;>intros|with_reducible apply cK|(refine kR (lB _) hs ?_ ?_<;>intro _ w X hs)|(refine kR (mn _) hs ?_ ?_<;>intro _ w X hs)|(refine qr ?_;intro wa hk;(simp_all [chain]<;>omega))|((with_reducible refine fp ((xs).length-(i+1)) ?_ ?_);omega;exact⟨i+1,by simp,rfl,by omega,hs,by rw[hw,rJ hx];simp_all<;>omega⟩)
  ·repeat' first|refine aN ?_;intros|refine dq ?_ ?_<;>intros|with_reducible apply cK|(refine kR (lB _) hs ?_ ?_<;>intro _ w X hs)|(refine kR (mn _) hs ?_ ?_<;>intro _ w X hs)|(refine qr ?_;intro wa hk;(simp_all [chain]<;>omega))|((with_reducible refine fp ((xs).length-(i+1)) ?_ ?_);omega;exact⟨i+1,by simp,rfl,by omega,hs,by rw[hw,rJ hx];simp_all<;>omega⟩)
 ·repeat' first|refine aN ?_;intros|(refine qr ?_;intro wa hk;(simp_all [chain]<;>grind))
abbrev eI.zero:eI:=⟨0,0,0,0⟩
abbrev State.zero:State:=⟨.zero,.zero,.zero,[],[]⟩
def State.isZero (s:State):Bool:=decide (s.range= .zero)&&decide (s.floor= .zero)&&decide (s.closed= .zero)&&decide (s.iD=[])&&decide (s.hU=[])
theorem PS (h1:qY w X vh s.iD) (h2:qX w X vp s.hU):
  Ct pg 335 #[s.v vh vp] w X nX λv _ _=>v=B s.isZero:=by
 intro w0 hk;replace h1:=h1.mv hk.cu;replace h2:=h2.mv hk.cu;refine NZ.1 λhs=>?_;repeat' first|refine ao ?_;intros|refine dq ?_ ?_<;>intros|(with_reducible refine E1 _ ?_ ?_ ?_);(· kernel_rfl);all_goals intros|with_reducible apply cK|(refine qr ?_;intro wa hk;(simp_all [State.isZero,eI.ext_iff]))|((with_reducible refine E2 (Ci _) hs.has ?_);intro w X aC;replace hs:=hs.trans aC)
def Rec.isZero (r:Rec):Bool:=decide (r.aR= .zero)&&decide (r.aV= .zero)&&decide (r.prev= .zero)&&!r.jJ&&decide (r.n=0)&&decide (r.tZ=0)&&
 decide (r.reads=[])&&decide (r.writes=[])&&decide (r.parts=[])&&decide (r.xd=[])&&r.state.isZero
theorem abf (h:r.at w X vr vw vp vq vh vd):
  Ct pg 277 #[r.v vr vw vp vq vh vd] w X nX λv _ _=>v=B r.isZero:=by
 intro w0 hk;obtain⟨h1,h2,h3,h4,h5,h6⟩:=h.mv hk.cu;refine ZG.1 λhs=>?_;cases hc:r.jJ<;>
 repeat' first|refine ao ?_;intros|refine dq ?_ ?_<;>intros|(with_reducible refine E1 _ ?_ ?_ ?_);(· kernel_rfl);all_goals intros|(with_reducible refine afb _ ?_ ?_ ?_);(· kernel_rfl);all_goals intros|with_reducible apply cK|(refine qr ?_;intro wa hk;(simp_all [Rec.isZero]))|((with_reducible refine E2 (Ci _) hs.has ?_);intro w X aC;replace hs:=hs.trans aC)|(refine qL (PS  (s:=r.state) qA qA) hs ?_ ?_<;>intro _ w X hs)
def Rec.strip (r:Rec):Rec×Bool:=
 if r.kind=1 then({ r with state:=.zero },true)
 else if r.kind=2\/r.kind=7\/r.kind=8 then({ r with n:=0 },true)
 else if r.kind=3 then({ r with aR:=.zero,aV:=.zero,reads:=[],writes:=[],parts:=[] },true)
 else if r.kind=4 then({ r with aR:=.zero,jJ:=false,aV:=.zero },true)
 else if r.kind=5 then({ r with aV:=.zero },true)
 else if r.kind=6 then({ r with tZ:=0,n:=0,aV:=.zero },true)
 else if r.kind=9 then({ r with aR:=.zero,aV:=.zero,parts:=[] },true)
 else if r.kind=10 then({ r with aR:=.zero },true)
 else if r.kind=11 then({ r with prev:=.zero,aV:=.zero,aR:=.zero,writes:=[] },true)
 else if r.kind=12 then({ r with aV:=.zero,xd:=[] },true)
 else(r,false)
theorem Tk (h:r.at w X vr vw vp vq vh vd):
  Ct pg 276 #[r.v vr vw vp vq vh vd] w X nX λv _ _=> ∃Xd jK JP vq' Xe Xf,v= .tuple #[r.strip.1.v Xd jK JP vq' Xe Xf,B r.strip.2]/\
   r.strip.1.at w X Xd jK JP vq' Xe Xf:=by
 intro w0 hk;obtain⟨h1,h2,h3,h4,h5,h6⟩:=h;have o1:=h1.one;have o2:=h2.one;have o3:=h3.one;have o4:=h4.one;have o5:=h5.one;have o6:=h6.one;refine RN.1 λhs=>?_;have n2:Sl w X 4 (.slice none 0 0) (([]:List KV).map KV.l):=Sl.nil _ _ _;have n3:Sl w X 1 (.slice none 0 0) (([]:List Int).map I1):=Sl.nil _ _ _;have n4:qY w X (.slice none 0 0) []:=eQ.nil _ _ _;have n5:qX w X (.slice none 0 0) []:=eQ.nil _ _ _;repeat' first|refine ao ?_;intros|refine dq ?_ ?_<;>intros|with_reducible apply cK
 all_goals
  refine cG hs ?_;intro wa aL;unfold Rec.strip;repeat (first|rw[if_pos zQ]|rw[if_neg zQ])
  exact⟨_,_,_,_,_,_,rfl,by assumption,by assumption,by assumption,by assumption,by assumption,by assumption⟩
theorem Ka {xs:List BA} (ha:Sl w X 1 a (xs.map S1)) (hb:xs.length<=2^40):
  Ct pg 87 #[a] w X nX λv wa w'=>Own w' (made wa w') wa.heap.size 9 1 v (xs.map S1):=by
  intro w0 hk;replace ha:=ha.mv hk.cu;refine Ac.1 λhs=>?_;repeat' first|refine ao ?_;intros|refine dq ?_ ?_<;>intros|(refine QW hs ?_;intro acc w X hs ho)|(refine qr ?_;intro wa hk;(first|(rename_i h1 h2;(first|(rw[h2])|skip);exact Own.nil _ _ _ _ _)|exact(ho.kp hk).tight))|((with_reducible apply qQ);(case own=>assumption);(case hs=>assumption);(case h0=>exact λ_ h=>h);(case he=>kernel_rfl);(case src=>exact Sl.mv ha (aj.mv hs));(case h1=>simp[aG.one]);(case hb=>simp;omega);(case hl=>simp;omega);intro acc w X aC ho hc dB;replace hs:=aC;rw[cx] at ho)
theorem IA (ha:Sl w X 4 a (xs.map KV.l)) (hb:xs.length<=2^40):
  Ct pg 89 #[a] w X nX λv wa w'=>Own w' (made wa w') wa.heap.size 178 4 v (xs.map KV.l):=by
  intro w0 hk;replace ha:=ha.mv hk.cu;refine wH.1 λhs=>?_;repeat' first|refine ao ?_;intros|refine dq ?_ ?_<;>intros|(refine QW hs ?_;intro acc w X hs ho)|(refine qr ?_;intro wa hk;(first|(rename_i h1 h2;(first|(rw[h2])|skip);exact Own.nil _ _ _ _ _)|exact(ho.kp hk).tight))|((with_reducible apply qQ);(case own=>assumption);(case hs=>assumption);(case h0=>exact λ_ h=>h);(case he=>kernel_rfl);(case src=>exact Sl.mv ha (aj.mv hs));(case h1=>simp[aG.one]);(case hb=>simp;omega);(case hl=>simp;omega);intro acc w X aC ho hc dB;replace hs:=aC;rw[cx] at ho)
theorem PT {xs:List pQ} (ha:Sl w X 6 a (xs.map pQ.l)) (hb:xs.length<=2^40):
  Ct pg 290 #[a] w X nX λv wa w'=>Own w' (made wa w') wa.heap.size 304 6 v (xs.map pQ.l):=by
  intro w0 hk;replace ha:=ha.mv hk.cu;refine uL.1 λhs=>?_;repeat' first|refine ao ?_;intros|refine dq ?_ ?_<;>intros|(refine QW hs ?_;intro acc w X hs ho)|(refine qr ?_;intro wa hk;(first|(rename_i h1 h2;(first|(rw[h2])|skip);exact Own.nil _ _ _ _ _)|exact(ho.kp hk).tight))|((with_reducible apply qQ);(case own=>assumption);(case hs=>assumption);(case h0=>exact λ_ h=>h);(case he=>kernel_rfl);(case src=>exact Sl.mv ha (aj.mv hs));(case h1=>simp[aG.one]);(case hb=>simp;omega);(case hl=>simp;omega);intro acc w X aC ho hc dB;replace hs:=aC;rw[cx] at ho)
variable {k : BA}
theorem VL {xs:List BA} (ha:Sl w X 1 a (xs.map S1)):
  Ct pg 171 #[a,.string k] w X nX λv _ _=>v=I (idxOf (λx=>decide (k=x)) xs):=by
 intro w0 hk;replace ha:=ha.mv hk.cu;have lN:=ha.ib;refine Ad.1 λhs=>?_;repeat' refine ao ?_;intros
 refine gh (λn a w X=> ∃i:Nat,a=I (i:Nat)/\n=(xs).length-i/\i<=(xs).length/\aj (bV w0) w0 X w/\(∀(j:Nat) x,j<i->xs[j]? =some x->decide (k=x)=false)) (xs).length ⟨0,rfl,rfl,au _,hs,by simp⟩ ?_;rintro n a w X ⟨i,rfl,rfl,hi,hs,hw⟩;rcases dG (xs) i with⟨cC,x,hx,hd⟩|⟨dH,hd⟩
 ·repeat' first|refine aN ?_;intros|refine dq ?_ ?_<;>intros|(refine qr ?_;intro wa hk;(rw[Ch hw hx (by simpa)]))|((with_reducible refine fp ((xs).length-(i+1)) ?_ ?_);omega;exact⟨i+1,by simp,rfl,by omega,hs,λj y hj hy=>by rcases Nat.lt_succ_iff_lt_or_eq.1 hj with h|h;exact hw j y h hy;subst h;rw[hx] at hy;cases hy;simpa⟩)
 ·repeat' first|refine aN ?_;intros|(refine qr ?_;intro wa hk;(rw[yl λj x hj hx=>hw j x zQ hx]))
theorem vC {xs:List BA} (ha:Sl w X 1 a (xs.map S1)):
  Ct pg 115 #[a,.string k] w X nX λv _ _=>v=B (xs.any λx=>decide (k=x)):=by
 intro w0 hk;replace ha:=ha.mv hk.cu;refine yz.1 λhs=>?_;repeat' first|refine ao ?_;intros|refine dq ?_ ?_<;>intros|(refine qr ?_;intro wa hk;(rw[<-Mz];simp[*]))|(refine UP (VL  qA) hs ?_;intro w X hs)
variable {cs : List Value} {f : FuncId}
theorem MS {p:KV->Bool} (ha:Sl w X 4 a (xs.map KV.l)) (hX: ∀k,X k->k<w.heap.size) (hf:enters pg f=true)
  (hp: ∀x,Ct pg f ((.agg x.l.toArray)::cs).toArray w X nX λv _ _=>v=B (p x)):
  Ct pg 369 #[a,.func (.func f) #[] cs.toArray] w X nX λv _ _=>v=I (idxOf p xs):=by
 intro w0 hk;replace ha:=ha.mv hk.cu;replace hp:=λx=>((hp x).kp hk).bV λk hx=>av (hX k hx) hk.size;have lN:=ha.ib;refine uM.1 λhs=>?_;repeat' refine ao ?_;intros
 refine gh (λn a w X=> ∃i:Nat,a=I (i:Nat)/\n=(xs).length-i/\i<=(xs).length/\aj (bV w0) w0 X w/\(∀(j:Nat) x,j<i->xs[j]? =some x->p x=false)) (xs).length ⟨0,rfl,rfl,au _,hs,by simp⟩ ?_;rintro n a w X ⟨i,rfl,rfl,hi,hs,hw⟩;rcases dG (xs) i with⟨cC,x,hx,hd⟩|⟨dH,hd⟩
 ·repeat' first|refine aN ?_;intros|(refine qr ?_;intro wa hk;(rw[Ch hw hx ‹_›]))|((with_reducible refine fp ((xs).length-(i+1)) ?_ ?_);omega;exact⟨i+1,by simp,rfl,by omega,hs,λj y hj hy=>by rcases Nat.lt_succ_iff_lt_or_eq.1 hj with h|h;exact hw j y h hy;subst h;rw[hx] at hy;cases hy;assumption⟩)|(refine H2 ((hp x).since hs) hf hs.has ?_ ?_<;>(intro _ w X aC;replace hs:=hs.trans aC))
 ·repeat' first|refine aN ?_;intros|(refine qr ?_;intro wa hk;(rw[yl λj x hj hx=>hw j x zQ hx]))
theorem IB {p:KV->Bool} (ha:Sl w X 4 a (xs.map KV.l)) (hX: ∀k,X k->k<w.heap.size) (hf:enters pg f=true)
  (hp: ∀x,Ct pg f ((.agg x.l.toArray)::cs).toArray w X nX λv _ _=>v=B (p x)):
  Ct pg 363 #[a,.func (.func f) #[] cs.toArray] w X nX λv _ _=>v=B (xs.any p):=by
 intro w0 hk;replace ha:=ha.mv hk.cu;replace hp:=λx=>((hp x).kp hk).bV λk hx=>av (hX k hx) hk.size;refine tD.1 λhs=>?_;repeat' first|refine ao ?_;intros|refine dq ?_ ?_<;>intros|(refine qr ?_;intro wa hk;(rw[<-Mz];simp[*]))|(refine UP (MS ha hs.has hf hp) hs ?_;intro w X hs)
def tle (a b:BA):Bool:=zr a b||decide (a=b)
def CA:bN->List pQ->Bool
 |_,[]=>true
 |s,v::r=>v.aV.may&&decide (v.aV.cmp s>0)&&v.val.may&&CA v.aV r
def kJ.ok (h:kJ) (ahead:BA):Bool:=iL h.key&&!tle h.key ahead&&decide (h.mZ≠[])&&CA .zero h.mZ
theorem Tl {h:kJ} {vv:Value} {ahead:BA} (ha:Sl w X 6 vv (h.mZ.map pQ.l)):
  Ct pg 289 #[.agg (h.l vv).toArray,.string ahead] w X nX λv _ _=>v=B (h.ok ahead):=by
 intro w0 hk;replace ha:=ha.mv hk.cu;have lN:=ha.ib;refine RO.1 λhs=>?_;repeat' first|refine ao ?_;intros|refine dq ?_ ?_<;>intros|(refine kR (lB _) hs ?_ ?_<;>intro _ w X hs)|(refine qr ?_;intro wa hk;(simp_all [kJ.ok,tle]<;>grind))
 refine gM (λn a b w X=> ∃(i:Nat) (s:bN),a=I i/\b=s.v/\n=h.mZ.length-i/\i<=h.mZ.length/\aj (bV w0) w0 X w/\CA .zero h.mZ=CA s (h.mZ.drop i)) h.mZ.length
  ⟨0,.zero,rfl,rfl,rfl,au _,hs,by simp⟩ ?_
 rintro n a b w X ⟨i,s,rfl,rfl,rfl,hi,hs,hw⟩;have cj:h.mZ≠[]:=by intro e;simp_all
 rcases dG (h.mZ) i with⟨cC,x,hx,hd⟩|⟨dH,hd⟩
 ·rw[hd,CA] at hw;clear hd;repeat' first|refine aN ?_;intros|refine dq ?_ ?_<;>intros|with_reducible apply cK|(refine kR (pJ _) hs ?_ ?_<;>intro _ w X hs)|(refine pN (wh _ _) hs ?_;intro w X hs)|(refine kR (mn _) hs ?_ ?_<;>intro _ w X hs)|(refine qr ?_;intro wa hk;(simp_all [kJ.ok,tle]<;>grind))|((with_reducible refine fK ((h.mZ).length-(i+1)) ?_ ?_);omega;exact⟨i+1,x.aV,by simp,rfl,rfl,by omega,hs,by simp_all⟩)
 ·repeat' first|refine aN ?_;intros|(refine qr ?_;intro wa hk;(simp_all [kJ.ok,tle,CA]<;>grind))
def gr.has (p:gr) (k:BA):Bool:=p.writes.any λw=>decide (w.key=k)
theorem PU {x:KV} {b:Nat} (h:Cells w X b 0 [.string k]):
  Ct pg 364 #[.agg x.l.toArray,ptr b 0] w X nX λv _ _=>v=B (decide (x.key=k)):=by
 intro w0 hk;replace h:=h.mv hk.cu;refine N7.1 λhs=>?_;repeat' first|refine ao ?_;intros|refine dq ?_ ?_<;>intros|(refine qr ?_;intro wa hk;simp_all)
theorem Kb (hX: ∀k,X k->k<w.heap.size) (h2:Sl w X 4 vw (p.writes.map KV.l)):
  Ct pg 342 #[p.v vr vw,.string k] w X nX λv _ _=>v=B (p.has k):=by
 intro w0 hk;replace h2:=h2.mv hk.cu;refine Tf.1 λhs=>?_;repeat' first|refine ao ?_;intros|(refine q1x hs ?_;intro bx w X gq aC gg hs bo)|(refine qr ?_;intro wa hk;(simp[gr.has]))|(refine UP (IB (p:=λx=>decide (x.key=k)) (h2.mv (aj.mv (gg.trans hs))) hs.has kQ λx=>PU (x:=x) (by first|exact bo.cells)) hs ?_;intro w X hs)
theorem ta:xk pg 34 (λk:bH=>k.v):=
 aid (n:=3) kQ (λk:bH=>[k.dX,k.ba,k.sq]) (λ_=>rfl) (λa b h=>by
  simp only[Ca,and_true] at h;exact bH.ext h.1 h.2.1 h.2.2)
theorem xw:xk pg 9 (λs:BA=>aP s):=Jg kQ
def sj (w:World) (A:XS) (v:Value) (l:List pQ):Prop:=Sl w A 6 v (l.map pQ.l)
def qW (w:World) (A:XS) (v:Value) (p:gr):Prop:= ∃vr vw,v=p.v vr vw/\Sl w A 1 vr (p.reads.map S1)/\Sl w A 4 vw (p.writes.map KV.l)
theorem sj.mv:qU sj:=λ_ _ _ _ _ _ h m=>Sl.mv h m
theorem qW.mv:qU qW:=λ_ _ _ _ _ _ ⟨vr,vw,h,h1,h2⟩ m=>⟨vr,vw,h,h1.mv m,h2.mv m⟩
structure iS (w:World) (X A:XS) (sb kb pb:Nat) (hm:List (BA×List pQ)) (pm:List (bH×gr)) (low:bN):Prop where
 box:aK w X sb [.map (some kb),.map (some pb),I low.wall,I low.du,I low.node] 423
 keys:dK w X A kb (λs:BA=>aP s) sj hm
 hU:dK w X A pb (λk:bH=>k.v) qW pm
 sub: ∀k,A k->X k
 off: ∀k,A k->k≠sb/\k≠kb/\k≠pb
variable {pm : List (bH × gr)} {hm : List (BA × List pQ)} {kb pb sb : Nat} {A Y : XS} {w' : World}
theorem iS.mv {low:bN} (h:iS w X A sb kb pb hm pm low)
  (hX: ∀k,X k->k<w.heap.size) (m:Mv X w Y w'):iS w' Y A sb kb pb hm pm low:=by
 have ma:Mv A w A w':=λk hk hl=>⟨hk,(m k (h.sub k hk) hl).2⟩;exact⟨h.box.mv m,h.keys.mv sj.mv m ma,h.hU.mv qW.mv m ma,λk hk=>(m k (h.sub k hk) (hX k (h.sub k hk))).1,h.off⟩
variable {w0 : World}
theorem aiE {X0:XS} (h:dK w0 X0 A kb (λs:BA=>aP s) sj hm) (hA: ∀k,A k->X0 k) (m:Mv X0 w0 X w)
  (n: ∀v,Sl w0 X0 6 v (((getM k hm).getD []).map pQ.l)->N v):aZ pg X w (Instr.lookup 420 (.map (some kb)) (.string k) false) N:=by
 have h':dK w X A kb (λs:BA=>aP s) sj hm:=h.mv sj.mv m λk hk hl=>⟨hk,(m k (hA k hk) hl).2⟩;obtain⟨es,c,h1,h2⟩:=h;refine nh (et:=300) (A:=X) (rd:=λw X v l=>Sl w0 A 6 v (l.map pQ.l)) (l:=hm) (.slice none 0 0) ?_ xw kQ kQ (λv a hg hr=>?_) λhg=>?_
 ·exact⟨es,c,h1.mv m,by
   clear h1 h' n
   induction es generalizing hm with
   |nil=>cases hm<;>first|trivial|exact h2.elim
   |cons e es ih=>cases hm with
    |nil=>exact h2.elim
    |cons x l=>exact⟨h2.1,h2.2.1,ih h2.2.2⟩⟩
 ·exact n v (by rw[hg];exact Sl.mv hr (Mv.sub hA))
 ·exact n _ (by rw[hg];exact Sl.nil _ _ _)
def gr.ED (x q:gr):Bool:=x.writes.any (λw=>q.has w.key||q.reads.any λk=>decide (w.key=k))||x.reads.any λk=>q.has k
def Ga (l:List pQ) (gA:bN) (all:Bool):gJ×bN:=l.foldl (λs v=>if all||decide (v.aV.cmp gA<=0)then(v.val,v.aV)else s) (.zero,.zero)
def IC (hm:List (BA×List pQ)) (k:BA):List pQ:=(getM k hm).getD []
abbrev aex (k:BA) (s:gJ×bN):Value:=.agg #[.string k,I s.1.kind,.float .f64 s.1.num,.string s.1.text,I s.2.wall,I s.2.du,I s.2.node]
theorem VM {low gA:bN} {all:Bool}
  (h:iS w X A sb kb pb hm pm low) (hX: ∀k,X k->k<w.heap.size):
  Ct pg 365 #[ptr sb 0,.string k,gA.v,B all] w X nX λv _ _=>v=aex k (Ga (IC hm k) gA all):=by
 intro w0 hk;replace h:=h.mv hX hk.cu;have gq:=h.box;refine Jz.1 λhs=>?_;repeat' refine ao ?_;intros
 refine aiE h.keys h.sub (Mv.refl _ _) λvv hvv=>?_
 show aZ _ _ _ _ _
 have UC:IC hm k=(getM k hm).getD []:=rfl;rw[<-UC] at hvv;generalize IC hm k=vs at hvv;have lN:=hvv.ib;repeat' refine ao ?_;intros
 refine gM (λn a b w X=> ∃(i:Nat) (s:gJ×bN),a=I i/\b=aex k s/\n=vs.length-i/\i<=vs.length/\aj (bV w0) w0 X w/\
  Ga vs gA all=(vs.drop i).foldl (λs v=>if all||decide (v.aV.cmp gA<=0)then(v.val,v.aV)else s) s) vs.length ⟨0,(.zero,.zero),rfl,rfl,rfl,au _,hs,by rw[tF];rfl⟩ ?_
 rintro n a b w X ⟨i,s,rfl,rfl,rfl,hi,hs,hw⟩;rcases dG (vs) i with⟨cC,x,hx,hd⟩|⟨dH,hd⟩
 ·rw[hd,iz] at hw;cases all
  ·repeat' first|refine aN ?_;intros|refine dq ?_ ?_<;>intros|with_reducible apply cK|(refine pN (wh _ _) hs ?_;intro w X hs)|((with_reducible refine fK ((vs).length-(i+1)) ?_ ?_);omega;exact⟨i+1,(x.val,x.aV),by simp,rfl,rfl,by omega,hs,by rw[hw];simp[*]⟩)|((with_reducible refine fK ((vs).length-(i+1)) ?_ ?_);omega;exact⟨i+1,s,by simp,rfl,rfl,by omega,hs,by rw[hw];simp[*]⟩)
  ·repeat' first|refine aN ?_;intros|with_reducible apply cK|((with_reducible refine fK ((vs).length-(i+1)) ?_ ?_);omega;exact⟨i+1,(x.val,x.aV),by simp,rfl,rfl,by omega,hs,by rw[hw];simp[*]⟩)
 ·repeat' first|refine aN ?_;intros|(refine qr ?_;intro wa hk;(rw[hw,hd];rfl))
theorem VN {low:bN}
  (h:iS w X A sb kb pb hm pm low) (hX: ∀k,X k->k<w.heap.size):
  Ct pg 343 #[ptr sb 0,.string k] w X nX λv _ _=>v=aex k (Ga (IC hm k) .zero true):=by
 intro w0 hk;replace h:=h.mv hX hk.cu;refine Jy.1 λhs=>?_;repeat' first|refine ao ?_;intros|(refine qr ?_;intro wa hk;rfl)|(refine UP (VM (gA:=.zero) h hs.has) hs ?_;intro w X hs)
def MT (hm:List (BA×List pQ)) (x:gr):Bool:=x.writes.any λw=>decide ((Ga (IC hm w.key) .zero true).2.cmp x.aV>=0)
theorem aey {low:bN} {x:gr}
  (h:iS w X A sb kb pb hm pm low) (hX: ∀k,X k->k<w.heap.size) (h2:Sl w X 4 vw (x.writes.map KV.l)):
  Ct pg 292 #[ptr sb 0,x.v vr vw] w X nX λv _ _=>v=B (MT hm x):=by
 intro w0 hk;replace h:=h.mv hX hk.cu;replace h2:=h2.mv hk.cu;have lN:=h2.ib;refine NW.1 λhs=>?_;repeat' refine ao ?_;intros
 refine gh (λn a w X=> ∃i:Nat,a=I (i:Nat)/\n=(x.writes).length-i/\i<=(x.writes).length/\aj (bV w0) w0 X w/\MT hm x=(x.writes.drop i).any (λw=>decide ((Ga (IC hm w.key) .zero true).2.cmp x.aV>=0))) (x.writes).length ⟨0,rfl,rfl,au _,hs,by simp[MT]⟩ ?_;rintro n a w X ⟨i,rfl,rfl,hi,hs,hw⟩;rcases dG (x.writes) i with⟨cC,y,hy,hd⟩|⟨dH,hd⟩
 ·rw[hd,ze] at hw;repeat' first|refine aN ?_;intros|refine dq ?_ ?_<;>intros|(refine pN (wh _ _) hs ?_;intro w X hs)|(refine qr ?_;intro wa hk;simp_all)|((with_reducible refine fp ((x.writes).length-(i+1)) ?_ ?_);omega;exact⟨i+1,by simp,rfl,by omega,hs,by rw[hw];simp[*]⟩)|(refine UP (VN (h.mv (λ_ h=>h) (aj.mv hs)) hs.has) hs ?_;intro w X hs)
 ·repeat' first|refine aN ?_;intros|(refine qr ?_;intro wa hk;simp_all)
abbrev U1 (b:Nat):List Value:=[.int .u8 b]
def qB (u:Nat):List Nat:=if u<128 then [u] else(u % 128+128)::qB (u/128)
termination_by u
decreasing_by omega
def xF (n:Int):Nat:=if n<0 then 18446744073709551615-((n % 18446744073709551616).toNat*2 % 18446744073709551616)else(n % 18446744073709551616).toNat*2 % 18446744073709551616
def encI (n:Int):List Nat:=qB (xF n)
theorem ZV: ∀(k u:Nat),u<128^k->(qB u).length<=max k 1
 |0,u,h=>by grind [qB]
 |k+1,u,h=>by
  unfold qB;split
  ·simp_all
  ·have hk:1<=k:=by
    rcases k with _|k
    ·omega
    ·omega
   have h1:u/128<128^k:=by
    rw[Nat.div_lt_iff_lt_mul dQ,<-Nat.pow_succ];exact h
   have:=ZV k (u/128) h1;simp_all
theorem afn (n:Int):xF n<18446744073709551616:=by
 unfold xF;split<;>omega
theorem fz (n:Int):(encI n).length<=10:=by
 have:=ZV 10 (xF n) (av (afn n) dQ);assumption
def wE (s:BA):List Nat:=encI s.size++s.data.toList.map UInt8.toNat
def agf (u k:Nat):Nat:=u/256^k % 256
def HF (x:Nat):List Nat:=(List.range 8).map (agf (canon x))
def JF (v:gJ):List Nat:=
 let v:=if v.may then v else gJ.zero
 encI v.kind++(if v.kind=1 then HF v.num else if v.kind=2 then wE v.text else [])
def ad1 (b:Bool):List Nat:=[if b then 1 else 0]
def lI (s:bN):List Nat:=encI s.wall++encI s.du++encI s.node
def oq (t:bH):List Nat:=encI t.dX++encI t.ba++encI t.sq
def sE (x:KV):List Nat:=wE x.key++JF x.val
def iU {α:Type} (f:α->List Nat) (l:List α):List Nat:=encI l.length++(l.map f).flatten
variable {e g lo : Nat} {rows : List (List Value)}
theorem Own.tag {k:Nat} {v:Value} (h:Own w X lo e k v rows) (hg:v.ownBlock=some g): ∃cs:List Value,w.heap[g]? =some (.cells cs.toArray e (0,0)):=by
 rcases h.row with⟨rfl,_⟩|⟨b,cap,cs,rfl,_,hr,_⟩
 ·cases hg
 ·simp only[Value.ownBlock,Option.some.injEq] at hg;subst hg;exact⟨cs,hr.2⟩
theorem Own.eP {e' k:Nat} {v:Value} (h:Own w X lo e k v rows) (hr:aK w Y g cs e') (he:decide (e≠e')=true):v.ownBlock≠some g:=λhg=>by
 obtain⟨c,h1⟩:=Own.tag h hg;rw[hr.2] at h1
 grind
theorem wrap64 (n:Int):IntKind.u64.wrap n=n % 18446744073709551616:=by rfl
theorem Nj (n:Int):IntKind.u8.wrap n=n % 256:=by rfl
variable {u : Nat}
theorem RW {src dst:TypeId} {k:IntKind} (hs:(P.underlying src).isSome=true) (hd:P.underlying dst=some (.int .u8)) (h:N (.int .u8 ((u % 256:Nat):Int))):aZ P X w (pH .u8 src dst (.int k (u:Int))) N:=
 aef hs hd aQ
theorem ZW (u:Nat):IntKind.u8.wrap (u:Int)=((u % 256:Nat):Int):=by rfl
theorem ani (h:N (.int .u64 ((u*2 % 18446744073709551616:Nat):Int))):aZ P X w (binOp .shl t (.int .u64 (u:Int)) (.int .u64 1)) N:=
 Sg zQ aQ
theorem anj (h:N (.int .u64 ((u/128:Nat):Int))):aZ P X w (binOp .shr t (.int .u64 (u:Int)) (.int .u64 7)) N:=
 EI zQ (by
  have e:((u:Int)).fdiv (2^min (7:Int).toNat IntKind.u64.bits)=((u/128:Nat):Int):=by
   show((u:Int)).fdiv 128=_
   rw[tG _ dQ];omega
  grind)
theorem ank (h:N (.int .u64 ((u/256:Nat):Int))):aZ P X w (binOp .shr t (.int .u64 (u:Int)) (.int .u64 8)) N:=
 EI zQ (by
  have e:((u:Int)).fdiv (2^min (8:Int).toNat IntKind.u64.bits)=((u/256:Nat):Int):=by
   show((u:Int)).fdiv 256=_
   rw[tG _ dQ];omega
  grind)
theorem anl (hu:u<18446744073709551616) (h:N (.int .u64 ((18446744073709551615-u:Nat):Int))):aZ P X w (Op.unary .xor (.int .u64 (u:Int))) N:=by
 refine bA (v:=.int .u64 ((18446744073709551615-u:Nat):Int)) (λwa=>?_) h;have key:(aF 64 18446744073709551615^^^aF 64 (u:Int)).toNat=18446744073709551615-u:=by
  have h1:aF 64 18446744073709551615=BitVec.allOnes 64:=by decide
  have h2:(aF 64 (u:Int))=BitVec.ofNat 64 u:=by simp
  rw[h1,h2,BitVec.allOnes_xor,BitVec.toNat_not,BitVec.toNat_ofNat,Nat.mod_eq_of_lt zQ]
 have e:IntKind.u64.wrap (aF IntKind.u64.bits IntKind.u64.max^^^aF IntKind.u64.bits (u:Int)).toNat=((18446744073709551615-u:Nat):Int):=by
  rw[wrap64]
  show((aF 64 18446744073709551615^^^aF 64 (u:Int)).toNat:Int) % 18446744073709551616=_
  rw[key];omega
 have hk:(Op.unary .xor (.int .u64 (u:Int))).run P wa= .ok (.int .u64 (IntKind.u64.wrap (aF IntKind.u64.bits IntKind.u64.max^^^aF IntKind.u64.bits (u:Int)).toNat)) wa:=by
  simp[Op.unary,Op.intBits,IntKind.signed]
 rw[hk,e]
theorem QO {k:IntKind} {a:Int} (h:N (.int k (k.wrap (aF k.bits a|||aF k.bits b).toNat))):aZ P X w (binOp .or t (.int k a) (.int k b)) N:=
 bA (λwa=>by simp[binOp,Op.intBits]) h
theorem aoR: ∀b:Nat,b<256->(aF 8 (b:Int)|||aF 8 128).toNat=b % 128+128:=by decide+kernel
theorem akQ {b:Nat} (hb:b<256) (h:N (.int .u8 ((b % 128+128:Nat):Int))):aZ P X w (binOp .or t (.int .u8 (b:Int)) (.int .u8 128)) N:=
 QO (by
  have e:IntKind.u8.wrap (aF IntKind.u8.bits (b:Int)|||aF IntKind.u8.bits 128).toNat=((b % 128+128:Nat):Int):=by
   rw[Nj];have:=aoR b hb
   show((aF 8 (b:Int)|||aF 8 128).toNat:Int) % 256=_
   rw[this];omega
  grind)
theorem anm {n:Int} (h:N (.int .u64 (((n % 18446744073709551616).toNat*2 % 18446744073709551616:Nat):Int))):aZ P X w (binOp .shl t (.int .u64 (IntKind.u64.wrap n)) (.int .u64 1)) N:=by
 have e:IntKind.u64.wrap n=((n % 18446744073709551616).toNat:Int):=by rw[wrap64];omega
 rw[e];exact ani h
theorem aoS (h:N (.int .u8 ((u % 128+128:Nat):Int))):aZ P X w (binOp .or t (.int .u8 (IntKind.u8.wrap (u:Int))) (.int .u8 128)) N:=by
 rw[ZW];exact akQ zQ (by simp_all)
structure Wr (w:World) (X:XS) (lo wb:Nat) (vb:Value) (bs:List Nat):Prop where
 box:aK w X wb [vb] 409
 ow:Own w X lo 5 1 vb (bs.map U1)
def Ei (wb:Nat) (vb:Value):XS:=λk=>k=wb\/vb.ownBlock=some k
variable {bs : List Nat} {vb : Value} {wb : Nat}
theorem Wr.mv (h:Wr w X lo wb vb bs) (m:Mv X w Y w'):Wr w' Y lo wb vb bs:=⟨h.box.mv m,h.ow.mv m⟩
theorem Wr.ne (h:Wr w X lo wb vb bs):vb.ownBlock≠some wb:=Own.eP h.ow h.box (by rfl)
def oL (f:FuncId) (args:Array Value) (w:World) (X:XS) (lo wb:Nat) (vb:Value) (bs ds:List Nat):Prop:=
 Ct pg f args w X (Ei wb vb) λv wa w'=>v= .tuple #[]/\ ∃MU,Wr w' (λk=>Ei wb vb k\/made wa w' k) lo wb MU (bs++ds)
structure WS (w0:World) (tH:Value) (w:World) (X:XS) (lo wb:Nat) (vb:Value) (bs:List Nat):Prop where
 s:aj (out (Ei wb tH) w0) w0 X w
 r:Wr w X lo wb vb bs
 v: ∀g,vb.ownBlock=some g->tH.ownBlock=some g\/w0.heap.size<=g
variable {tH : Value} {ds : List Nat} {R : Ending -> World -> Prop} {X' : XS}
section
variable {N : Value -> World -> XS -> Prop}
theorem WS.init (h:Wr w0 (bV w0) lo wb tH bs):WS w0 tH w0 (bV w0) lo wb tH bs:=⟨aj.out _ _,h,λg hg=>.inl hg⟩
theorem WS.since (h:WS w0 tH w X lo wb vb bs) (hs:aj X w X' w'):WS w0 tH w' X' lo wb vb bs:=⟨h.s.trans hs,h.r.mv hs.mv,h.v⟩
theorem WS.fin (h:WS w0 tH w X lo wb vb (bs++ds)):fin (vR (Ei wb tH) w0 λv w'=>(λv wa w'=>v= .tuple #[]/\ ∃MU,Wr w' (λk=>Ei wb tH k\/made wa w' k) lo wb MU (bs++ds)) v w0 w') X w (.tuple #[]):=by
 refine abZ h.s λwa hk=>⟨rfl,vb,⟨.inl (.inl rfl),(h.r.box.kp hk).2⟩,(h.r.ow.kp hk).1,(h.r.ow.kp hk).2.1,λg hg=>?_⟩;rcases h.v g hg with h1|h1
 ·exact .inl (.inr h1)
 ·exact .inr ⟨h1,((h.r.ow.kp hk).ge hg).2⟩
theorem WS.out (h:WS w0 tH w X lo wb vb bs) {k:Nat} (hk:Ei wb vb k) (h0:out (Ei wb tH) w0 k):False:=by
 rcases hk with hk|hk
 ·exact h0.2 (.inl hk)
 ·rcases h.v k hk with h1|h1
  ·exact h0.2 (.inr h1)
  ·have:=h0.1;omega
theorem WS.fu (hS:WS w0 tH w X lo wb vb bs) (hp:oL f args w X lo wb vb bs ds) (hf:enters pg f=true)
  (k: ∀MU w' X',WS w0 tH w' X' lo wb MU (bs++ds)->eh (Ei wb vb) X w X' w'->N (.tuple #[]) w' X'):eC pg R X w true f args N:=by
 refine yV hp hf hS.s.has (λq hq=>?_) λv wa w' X' hq hle gy Ea hc=>?_
 ·rcases hq with rfl|hq
  ·exact hS.r.box.1
  ·exact hS.r.ow.2.2 q hq
 ·obtain⟨rfl,MU,hW⟩:=hq;refine k MU w' X' ⟨hS.s.eo hc λq h0 hq=>hS.out hq h0,⟨⟨hc.sub _ hS.r.box.1,hW.box.2⟩,hW.ow.1,hW.ow.2.1,λg hg=>?_⟩,λg hg=>?_⟩ hc
  ·rcases hW.ow.2.2 g hg with h1|h1
   ·rcases h1 with rfl|h1
    ·exact hc.sub _ hS.r.box.1
    ·exact hc.sub g (hS.r.ow.2.2 g h1)
   grind
  ·rcases hW.ow.2.2 g hg with h1|h1
   ·rcases h1 with rfl|h1
    ·exact absurd hg hW.ne
    ·exact hS.v g h1
   ·right;have:=h1.1;have:=hS.s.kp.size;omega
theorem MV {b:Nat} (hS:WS w0 tH w X lo wb vb bs) (gv:lo<=w.heap.size) (hb:bs.length<=2^40)
  (k: ∀MU w' X',WS w0 tH w' X' lo wb MU (bs++[b])->N undef w' X'):
  eV pg R X w true (gT 151 5 1 1 #[(0,.int .u8 (b:Int))]) λs w1 X1=>eV pg R X1 w1 true (pI 151 5 1 1 151 vb s) λx w2 X2=>
   nO pg X2 w2 (bq (ptr wb 0)) λp=>aZ pg X2 w2 (ji 409 0 0 1 p) λq=>eU pg R X2 w2 true (st1 151 1 q x) N:=by
 refine akI hS.r.ow hS.s.has gv kQ (row:=U1 b) rfl rfl rfl oQ oQ λv' w' X' hc ho dB=>?_;have cj: ∀q,ga vb q->q≠wb:=λq hq e=>hS.r.ne (by rw[<-e];exact hq);have gq:aK w' X' wb [vb] 409:=⟨hc.sub _ hS.r.box.1,by rw[hc.block _ hS.r.box.1 λhq=>cj _ hq rfl];exact hS.r.box.2⟩;have tj:=hS.s.eo hc λq h0 hq=>hS.out (.inr hq) h0;have MW: ∀g,v'.ownBlock=some g->tH.ownBlock=some g\/w0.heap.size<=g:=λg hg=>by
  rcases dB with e|⟨g',e,dH⟩
  ·exact hS.v g (e▸hg)
  ·rw[e] at hg;cases hg;right;have:=hS.s.kp.size;omega
 with_reducible apply Ji
 have Uv:fieldInfo pg 409 0=some (0,1):=by kernel_rfl
 refine Rx (gq.cells) Uv rfl λo' vQ _=>?_;subst vQ;refine Ew gq kQ sQ (by obtain⟨_,_,_,rfl⟩:=ho.sl.form;rfl) (by obtain⟨_,_,_,rfl⟩:=ho.sl.form;rfl) tj.has λw3 X3 uQ D7=>?_;have aiF:v'.ownBlock≠some wb:=Own.eP ho gq (by rfl);refine k v' w3 X3 ⟨tj.eo uQ λq h0 hq=>h0.2 (.inl hq),⟨?_,?_⟩,MW⟩
 ·have e:cY [vb] (0+0) v'.cells.toList=[v']:=by obtain⟨_,_,_,rfl⟩:=ho.sl.form;rfl
  grind
 ·rw[aJ];exact Own.eo ho uQ λg hg e=>aiF (by rw[hg,e])
end
theorem PV:Ct pg 197 #[] w X nX λv wa w'=> ∃wb,v=ptr wb 0/\Wr w' (made wa w') wa.heap.size wb (.slice none 0 0) []:=by
 intro w0 hk;refine NT.1 λhs=>?_;repeat' first|refine ao ?_;intros|(refine Oy hs ?_;intro bx w X gq aC gg hs bo)
 refine cG (gg.trans hs) λwa aL=>⟨bx,rfl,⟨⟨gq,(bo.kp aL).lt⟩,(bo.kp aL).2⟩,Own.nil _ _ _ _ _⟩
theorem pF {n:Int} (h:Wr w X lo wb vb bs) (hb:bs.length<=2^39) (gv:lo<=w.heap.size):oL 260 #[ptr wb 0,I n] w X lo wb vb bs (encI n):=by
 intro w0 hk;have dp:lo<=w0.heap.size:=ad gv hk.size;have hS:=WS.init (h.mv hk.cu);refine MP.1 λ_=>?_;have hs:=hS.s;have wA:=hS.r.box;repeat' first|refine ao ?_;intros|(with_reducible apply anm)
 refine gY (λk=>k (.int .u64 (xF n:Int))) ?_ ?_
 ·refine gh (λn' a w X=> ∃(u:Nat) (uY:Value) (bsi:List Nat),a= .int .u64 (u:Int)/\n'=u/\WS w0 vb w X lo wb uY bsi/\bsi++qB u=bs++encI n) (xF n) ⟨xF n,vb,bs,rfl,rfl,hS,rfl⟩ ?_;clear hs wA hS;rintro u a w X ⟨_,uY,bsi,rfl,rfl,hS,wR⟩;have hs:=hS.s;have wA:=hS.r.box;have hlen:bsi.length<=2^40:=by
   have h1:=congrArg List.length wR;have h2:=fz n;simp only[aa] at h1;omega
  have SU:lo<=w.heap.size:=ad dp hs.kp.size;by_cases hu:u<128
  ·have he:qB u=[u]:=by rw[qB,if_pos hu]
   repeat' refine aN ?_;intros
   rw[ZW,show u % 256=u by omega];refine MV hS SU hlen λjh w2 X2 bg=>?_;rw[<-he,wR] at bg;exact bg.fin
  ·have he:qB u=(u % 128+128)::qB (u/128):=by rw[qB,if_neg hu]
   repeat' first|refine aN ?_;intros|(with_reducible apply aoS)
   refine MV hS SU hlen λjh w2 X2 bg=>?_;repeat' first|(with_reducible apply anj)
   refine fp (u/128) zQ ⟨u/128,jh,_,rfl,rfl,bg,?_⟩
   grind
 ·intro K hK;repeat' first|refine ao ?_;intros|refine dq ?_ ?_<;>intros|(with_reducible apply anl);omega
  ·have:xF n=18446744073709551615-((n % 18446744073709551616).toNat*2 % 18446744073709551616):=by unfold xF;rw[if_pos zQ]
   grind
  ·have:xF n=(n % 18446744073709551616).toNat*2 % 18446744073709551616:=by unfold xF;rw[if_neg zQ]
   simp_all
theorem aiG (s:BA):(yP s).map (λx=>[x])=(s.data.toList.map UInt8.toNat).map U1:=by
 unfold yP;simp
variable {v' : Value}
section
variable {N : Value -> World -> XS -> Prop}
theorem ann (hS:WS w0 tH w X lo wb vb bs) (hc:eh (ga vb) X w X' w') (ho:Own w' X' lo 5 1 v' (ds.map U1)) (dB:v'.ownBlock=vb.ownBlock\/ ∃g,v'.ownBlock=some g/\w.heap.size<=g)
  (k: ∀w' X',WS w0 tH w' X' lo wb v' ds->N undef w' X'):
  nO pg X' w' (bq (ptr wb 0)) λp=>aZ pg X' w' (ji 409 0 0 1 p) λq=>eU pg R X' w' true (st1 151 1 q v') N:=by
 have cj: ∀q,ga vb q->q≠wb:=λq hq e=>hS.r.ne (by rw[<-e];exact hq);have gq:aK w' X' wb [vb] 409:=⟨hc.sub _ hS.r.box.1,by rw[hc.block _ hS.r.box.1 λhq=>cj _ hq rfl];exact hS.r.box.2⟩;have tj:=hS.s.eo hc λq h0 hq=>hS.out (.inr hq) h0;have MW: ∀g,v'.ownBlock=some g->tH.ownBlock=some g\/w0.heap.size<=g:=λg hg=>by
  rcases dB with e|⟨g',e,dH⟩
  ·exact hS.v g (e▸hg)
  ·rw[e] at hg;cases hg;right;have:=hS.s.kp.size;omega
 with_reducible apply Ji
 have Uv:fieldInfo pg 409 0=some (0,1):=by kernel_rfl
 refine Rx (gq.cells) Uv rfl λo' vQ _=>?_;subst vQ;refine Ew gq kQ sQ (by obtain⟨_,_,_,rfl⟩:=ho.sl.form;rfl) (by obtain⟨_,_,_,rfl⟩:=ho.sl.form;rfl) tj.has λw3 X3 uQ D7=>?_;have aiF:v'.ownBlock≠some wb:=Own.eP ho gq kQ;refine k w3 X3 ⟨tj.eo uQ λq h0 hq=>h0.2 (.inl hq),⟨?_,?_⟩,MW⟩
 ·have e:cY [vb] (0+0) v'.cells.toList=[v']:=by obtain⟨_,_,_,rfl⟩:=ho.sl.form;rfl
  rw[e] at D7;exact D7
 ·exact Own.eo ho uQ λg hg e=>aiF (by rw[hg,e])
end
theorem OU {s:BA} (h:Wr w X lo wb vb bs) (hb:bs.length<=2^38) (gv:lo<=w.heap.size) (gg:s.size<=2^38):oL 328 #[ptr wb 0,.string s] w X lo wb vb bs (wE s):=by
 intro w0 hk;have dp:lo<=w0.heap.size:=ad gv hk.size;have hS:=WS.init (h.mv hk.cu);refine KB.1 λ_=>?_;have hs:=hS.s;repeat' refine ao ?_;intros
 refine hS.fu (pF hS.r zQ dp) kQ λjh w2 X2 bg nW=>?_;clear hs;have hs:=bg.s;have wA:=bg.r.box;have BX:=fz s.size;repeat' refine ao ?_;intros
 refine am5 (bytes:=1) bg.r.ow hs.has (ad dp hs.kp.size) kQ kQ oQ oQ λv' w3 X3 hc ho dB=>?_;rw[aiG,<-aJ] at ho;refine ann bg hc ho dB λw4 X4 gZ=>?_;rw[ak] at gZ;exact gZ.fin
theorem MX {x:Nat} (h:Wr w X lo wb vb bs) (hb:bs.length<=2^39) (gv:lo<=w.heap.size):oL 273 #[ptr wb 0,.float .f64 x] w X lo wb vb bs (HF x):=by
 intro w0 hk;have dp:lo<=w0.heap.size:=ad gv hk.size;have hS:=WS.init (h.mv hk.cu);refine Ju.1 λ_=>?_;have hs:=hS.s;repeat' first|((with_reducible refine se (EC _) ?_ hs.has ?_);(· kernel_rfl);intro w X aC;replace hs:=hs.trans aC)
 refine gM (λn' a b w X=> ∃(i:Nat) (uY:Value),a=I i/\b= .int .u64 ((canon x/256^i:Nat):Int)/\n'=8-i/\i<=8/\WS w0 vb w X lo wb uY (bs++(List.range i).map (agf (canon x)))) 8
  ⟨0,vb,rfl,by simp,rfl,by omega,by simpa using hS.since aQ⟩ ?_
 clear hs hS aC;rintro n' a b w X ⟨i,uY,rfl,rfl,rfl,hi,hS⟩;have hs:=hS.s;have wA:=hS.r.box;have SU:lo<=w.heap.size:=ad dp hs.kp.size;by_cases h8:i<8
 ·repeat' refine aN ?_;intros
  rw[ZW];refine MV hS SU oQ λjh w2 X2 bg=>?_;repeat' first|refine ao ?_;intros|(with_reducible apply ank)
  refine fK (8-(i+1)) zQ ⟨i+1,jh,by simp,?_,rfl,by omega,?_⟩
  ·rw[Nat.div_div_eq_div_mul,Nat.pow_succ]
  ·rw[List.range_succ,aJ,<-ak];exact bg
 ·obtain rfl:i=8:=by omega
  repeat' refine aN ?_;intros
  exact hS.fin
theorem ZX (h:Wr w X lo wb vb bs) (hb:bs.length<=2^40):Ct pg 198 #[ptr wb 0] w X nX λv wa w'=>Own w' (made wa w') wa.heap.size 5 1 v (bs.map U1):=by
 intro w0 hk;replace h:=h.mv hk.cu;have wA:=h.box;refine Jr.1 λhs=>?_;repeat' first|refine ao ?_;intros|(refine QW hs ?_;intro acc w X hs ho)|(refine qr ?_;intro wa hk;(exact(ho.kp hk).tight))|((with_reducible apply qQ);(case own=>assumption);(case hs=>assumption);(case h0=>exact λ_ h=>h);(case he=>kernel_rfl);(case src=>exact Sl.mv h.ow.sl (aj.mv hs));(case h1=>simp[aG.one]);(case hb=>simp;omega);(case hl=>simp;omega);intro acc w X aC ho hc dB;replace hs:=aC;rw[cx] at ho)
theorem abg {b:Bool} (h:Wr w X lo wb vb bs) (hb:bs.length<=2^39) (gv:lo<=w.heap.size):oL 271 #[ptr wb 0,B b] w X lo wb vb bs (ad1 b):=by
 intro w0 hk;have dp:lo<=w0.heap.size:=ad gv hk.size;have hS:=WS.init (h.mv hk.cu);refine KA.1 λ_=>?_;have hs:=hS.s;have wA:=hS.r.box;cases b<;>
 repeat' refine ao ?_;intros
 ·refine MV (b:=0) hS dp zQ λjh w2 X2 bg=>?_;exact bg.fin
 ·refine MV (b:=1) hS dp zQ λjh w2 X2 bg=>?_;exact bg.fin
def uN (Z X:XS) (wb:Nat) (vb:Value):Prop:= ∀k,Z k->X k/\ ¬Ei wb vb k
variable {Z : XS}
theorem WS.z (hS:WS w0 tH w X lo wb vb bs):uN (aG.out (Ei wb tH) w0) X wb vb:=λk h=>⟨hS.s.sub k h,λhf=>hS.out hf h⟩
theorem WS.at (hS:WS w0 tH w X lo wb vb bs):Mv (aG.out (Ei wb tH) w0) w0 (aG.out (Ei wb tH) w0) w:=λk hk _=>⟨hk,hS.s.kp.block k hk⟩
theorem uN.mv (h:uN Z X wb vb) (hk:Kp X w w0):Mv Z w (out (Ei wb vb) w0) w0:=λk af hl=>⟨⟨av hl hk.size,(h k af).2⟩,hk.block k (h k af).1⟩
abbrev lA (wb:Nat):List Value:=[ptr wb 0,.pointer none]
theorem abh {v:gJ} (h:Wr w X lo wb vb bs) (hb:bs.length<=2^37) (gv:lo<=w.heap.size):oL 333 #[ptr wb 0,v.v] w X lo wb vb bs (JF v):=by
 intro w0 hk;have dp:lo<=w0.heap.size:=ad gv hk.size;have hS:=WS.init (h.mv hk.cu);refine ZK.1 λ_=>?_;refine gY (λk=> ∀w X,aj (bV w0) w0 X w->k (if v.may then v else gJ.zero).v w X) ?_ ?_
 ·intro w X hsX;generalize hu:(if v.may then v else gJ.zero)=u;have hue:JF v=encI u.kind++(if u.kind=1 then HF u.num else if u.kind=2 then wE u.text else []):=by unfold JF;simp only[hu]
  have hut:u.kind=2->u.text.size<=64:=by
   intro h2;by_cases hm:v.may=true
   ·rw[if_pos hm] at hu;subst hu;unfold gJ.may at hm;rw[if_neg zQ,if_neg zQ,if_pos h2] at hm;simp at hm;omega
   ·rw[if_neg hm] at hu;rw[<-hu] at h2;cases h2
  have nq:=hS.since hsX;replace hs:=nq.s;repeat' refine ao ?_;intros
  refine nq.fu (pF nq.r zQ (ad dp hs.kp.size)) kQ λjh w2 X2 bg nW=>?_;have he:=fz u.kind;replace hs:=bg.s;repeat' refine ao ?_;intros
  refine gY (λk=> ∀w X nz,WS w0 vb w X lo wb nz (bs++JF v)->k w X) ?_ ?_
  ·intro w X nz bX;exact bX.fin
  ·intro K hK;rw[hue,<-ak] at hK;repeat' first|refine ao ?_;intros|refine dq ?_ ?_<;>intros
   ·refine bg.fu (MX bg.r oQ (ad dp hs.kp.size)) kQ λnz w3 X3 bX uQ=>?_;replace hs:=bX.s
    skip
    rw[if_pos zQ] at hK;exact hK _ _ _ bX
   ·refine bg.fu (OU bg.r oQ (ad dp hs.kp.size) (by have:=hut zQ;omega)) kQ λnz w3 X3 bX uQ=>?_;replace hs:=bX.s
    skip
    rw[if_neg zQ,if_pos zQ] at hK;exact hK _ _ _ bX
   ·rw[if_neg zQ,if_neg zQ] at hK;rw[List.append_nil] at hK;exact hK _ _ _ bg
 ·intro K hK;have hs:=aj.init w0;cases hm:v.may<;>rw[hm] at hK
  ·repeat' first|refine ao ?_;intros|(refine kR (mn _) hs ?_ ?_<;>intro _ w X hs)
   all_goals first|exact hK _ _ hs|(exfalso;simp_all)
  ·repeat' first|refine ao ?_;intros|(refine kR (mn _) hs ?_ ?_<;>intro _ w X hs)
   all_goals first|exact hK _ _ hs|(exfalso;simp_all)
variable {cb xb xo : Nat}
theorem jU {n:Int} (h:Wr w X lo wb vb bs) (hc:Cells w Z cb 0 (lA wb)) (hx:Cells w Z xb xo [I n]) (hZ:uN Z X wb vb) (hb:bs.length<=2^38) (gv:lo<=w.heap.size):
  oL 183 #[ptr cb 0,ptr xb xo] w X lo wb vb bs (encI n):=by
 intro w0 hk;have dp:lo<=w0.heap.size:=ad gv hk.size;replace hc:=hc.mv (hZ.mv hk);replace hx:=hx.mv (hZ.mv hk);have hS:=WS.init (h.mv hk.cu);refine Db.1 λ_=>?_;have hs:=hS.s;repeat' refine ao ?_;intros
 refine hS.fu (pF hS.r zQ dp) kQ λjh w2 X2 bg nW=>?_
 skip
 exact bg.fin
theorem BS {s:BA} (h:Wr w X lo wb vb bs) (hc:Cells w Z cb 0 (lA wb)) (hx:Cells w Z xb xo [.string s]) (hZ:uN Z X wb vb) (hb:bs.length<=2^38) (gv:lo<=w.heap.size) (gg:s.size<=2^38):
  oL 268 #[ptr cb 0,ptr xb xo] w X lo wb vb bs (wE s):=by
 intro w0 hk;have dp:lo<=w0.heap.size:=ad gv hk.size;replace hc:=hc.mv (hZ.mv hk);replace hx:=hx.mv (hZ.mv hk);have hS:=WS.init (h.mv hk.cu);refine Kz.1 λ_=>?_;have hs:=hS.s;repeat' refine ao ?_;intros
 refine hS.fu (OU hS.r zQ dp gg) kQ λjh w2 X2 bg nW=>?_
 skip
 exact bg.fin
theorem kA {s:bN} (h:Wr w X lo wb vb bs) (hc:Cells w Z cb 0 (lA wb)) (hx:Cells w Z xb xo s.l) (hZ:uN Z X wb vb) (hb:bs.length<=2^37) (gv:lo<=w.heap.size):
  oL 189 #[ptr cb 0,ptr xb xo] w X lo wb vb bs (lI s):=by
 have e1:=fz s.wall;have e2:=fz s.du;intro w0 hk;have dp:lo<=w0.heap.size:=ad gv hk.size;replace hc:=hc.mv (hZ.mv hk);replace hx:=hx.mv (hZ.mv hk);have hS:=WS.init (h.mv hk.cu);refine AW.1 λ_=>?_;have hs:=hS.s;repeat' refine ao ?_;intros
 refine hS.fu (jU (hS.r) (hc.mv hS.at) (Cells.mv aQ hS.at) hS.z zQ dp) kQ λjh w2 X2 bg nW=>?_;replace hs:=bg.s;repeat' refine ao ?_;intros
 refine bg.fu (jU (bg.r) (hc.mv bg.at) (Cells.mv aQ bg.at) bg.z oQ (ad dp hs.kp.size)) kQ λnz w3 X3 bX uQ=>?_;replace hs:=bX.s;repeat' refine ao ?_;intros
 refine bX.fu (jU (bX.r) (hc.mv bX.at) (Cells.mv aQ bX.at) bX.z oQ (ad dp hs.kp.size)) kQ λRX w4 X4 gZ Fq=>?_;replace hs:=gZ.s
 skip
 rw[ak,ak,<-ak (encI s.wall)] at gZ;exact gZ.fin
theorem zx {s:bH} (h:Wr w X lo wb vb bs) (hc:Cells w Z cb 0 (lA wb)) (hx:Cells w Z xb xo s.l) (hZ:uN Z X wb vb) (hb:bs.length<=2^37) (gv:lo<=w.heap.size):
  oL 187 #[ptr cb 0,ptr xb xo] w X lo wb vb bs (oq s):=by
 have e1:=fz s.dX;have e2:=fz s.ba;intro w0 hk;have dp:lo<=w0.heap.size:=ad gv hk.size;replace hc:=hc.mv (hZ.mv hk);replace hx:=hx.mv (hZ.mv hk);have hS:=WS.init (h.mv hk.cu);refine Dc.1 λ_=>?_;have hs:=hS.s;repeat' refine ao ?_;intros
 refine hS.fu (jU (hS.r) (hc.mv hS.at) (Cells.mv aQ hS.at) hS.z zQ dp) kQ λjh w2 X2 bg nW=>?_;replace hs:=bg.s;repeat' refine ao ?_;intros
 refine bg.fu (jU (bg.r) (hc.mv bg.at) (Cells.mv aQ bg.at) bg.z oQ (ad dp hs.kp.size)) kQ λnz w3 X3 bX uQ=>?_;replace hs:=bX.s;repeat' refine ao ?_;intros
 refine bX.fu (jU (bX.r) (hc.mv bX.at) (Cells.mv aQ bX.at) bX.z oQ (ad dp hs.kp.size)) kQ λRX w4 X4 gZ Fq=>?_;replace hs:=gZ.s
 skip
 rw[ak,ak,<-ak (encI s.dX)] at gZ;exact gZ.fin
theorem zW (s:BA):(wE s).length=(encI s.size).length+s.size:=by
 unfold wE;rw[aa,ai]
 congr 1
theorem Y8 {v:gJ} :(JF v).length<=100:=by
 unfold JF;generalize hu:(if v.may then v else gJ.zero)=u;have h1:=fz u.kind;have hut:u.kind=2->u.text.size<=64:=by
  intro h2;by_cases hm:v.may=true
  ·rw[if_pos hm] at hu;subst hu;unfold gJ.may at hm;rw[if_neg zQ,if_neg zQ,if_pos h2] at hm;simp at hm;omega
  ·rw[if_neg hm] at hu;rw[<-hu] at h2;cases h2
 dsimp only;rw[aa];by_cases k1:u.kind=1
 ·rw[if_pos k1];unfold HF;simp;omega
 ·rw[if_neg k1];by_cases k2:u.kind=2
  ·rw[if_pos k2];have h3:=hut k2;have h4:=fz u.text.size;rw[zW];omega
  ·rw[if_neg k2];simp;omega
theorem DY {v:gJ} (h:Wr w X lo wb vb bs) (hc:Cells w Z cb 0 (lA wb)) (hx:Cells w Z xb xo v.l) (hZ:uN Z X wb vb) (hb:bs.length<=2^37) (gv:lo<=w.heap.size):
  oL 275 #[ptr cb 0,ptr xb xo] w X lo wb vb bs (JF v):=by
 intro w0 hk;have dp:lo<=w0.heap.size:=ad gv hk.size;replace hc:=hc.mv (hZ.mv hk);replace hx:=hx.mv (hZ.mv hk);have hS:=WS.init (h.mv hk.cu);refine Jv.1 λ_=>?_;have hs:=hS.s;repeat' refine ao ?_;intros
 refine hS.fu (abh hS.r zQ dp) kQ λjh w2 X2 bg nW=>?_
 skip
 exact bg.fin
theorem VO {x:KV} (h:Wr w X lo wb vb bs) (hc:Cells w Z cb 0 (lA wb)) (hx:Cells w Z xb xo x.l) (hZ:uN Z X wb vb) (hb:bs.length<=2^35) (gv:lo<=w.heap.size) (gg:x.key.size<=2^35):
  oL 192 #[ptr cb 0,ptr xb xo] w X lo wb vb bs (sE x):=by
 have e1:(wE x.key).length<=10+x.key.size:=by
  have:=fz x.key.size;rw[zW];omega
 intro w0 hk;have dp:lo<=w0.heap.size:=ad gv hk.size;replace hc:=hc.mv (hZ.mv hk);replace hx:=hx.mv (hZ.mv hk);have hS:=WS.init (h.mv hk.cu);refine Jq.1 λ_=>?_;have hs:=hS.s;repeat' refine ao ?_;intros
 refine hS.fu (BS hS.r (hc.mv hS.at) (Cells.mv aQ hS.at) hS.z zQ dp zQ) kQ λjh w2 X2 bg nW=>?_;replace hs:=bg.s;repeat' refine ao ?_;intros
 refine bg.fu (DY (v:=x.val) bg.r (hc.mv bg.at) (Cells.mv aQ bg.at) bg.z oQ (ad dp hs.kp.size)) kQ λnz w3 X3 bX uQ=>?_;replace hs:=bX.s
 skip
 rw[ak] at bX;exact bX.fin
theorem ZY {x:KV} (h:Wr w X lo wb vb bs) (hc:Cells w Z cb 0 (lA wb)) (hx:Cells w Z xb xo x.l) (hZ:uN Z X wb vb) (hb:bs.length<=2^35) (gv:lo<=w.heap.size) (gg:x.key.size<=2^35):
  oL 194 #[ptr cb 0,ptr xb xo] w X lo wb vb bs (sE x):=by
 have e1:(wE x.key).length<=10+x.key.size:=by
  have:=fz x.key.size;rw[zW];omega
 intro w0 hk;have dp:lo<=w0.heap.size:=ad gv hk.size;replace hc:=hc.mv (hZ.mv hk);replace hx:=hx.mv (hZ.mv hk);have hS:=WS.init (h.mv hk.cu);refine Kv.1 λ_=>?_;have hs:=hS.s;repeat' refine ao ?_;intros
 refine hS.fu (BS hS.r (hc.mv hS.at) (Cells.mv aQ hS.at) hS.z zQ dp zQ) kQ λjh w2 X2 bg nW=>?_;replace hs:=bg.s;repeat' refine ao ?_;intros
 refine bg.fu (DY (v:=x.val) bg.r (hc.mv bg.at) (Cells.mv aQ bg.at) bg.z oQ (ad dp hs.kp.size)) kQ λnz w3 X3 bX uQ=>?_;replace hs:=bX.s
 skip
 rw[ak] at bX;exact bX.fin
theorem mi {α:Type} {f:α->List Nat} {xs:List α} {i:Nat} {x:α} (h:xs[i]? =some x):((xs.take (i+1)).map f).flatten=((xs.take i).map f).flatten++f x:=by
 rw[dr,h];simp
theorem uV (s:bN):(lI s).length<=30:=by
 have h1:=fz s.wall;have h2:=fz s.du;have h3:=fz s.node;unfold lI;simp only[aa];omega
theorem Dn (s:bH):(oq s).length<=30:=by
 have h1:=fz s.dX;have h2:=fz s.ba;have h3:=fz s.sq;unfold oq;simp only[aa];omega
theorem VP {low:bN} {x:gr}
  (h:iS w X A sb kb pb hm pm low) (hX: ∀k,X k->k<w.heap.size) (h1:Sl w X 1 vr (x.reads.map S1)) (h2:Sl w X 4 vw (x.writes.map KV.l)):
  Ct pg 291 #[ptr sb 0,x.v vr vw] w X nX λv _ _=>v=B (pm.any λq=>x.ED q.2):=by
 intro w0 hk;replace h:=h.mv hX hk.cu;replace h1:=h1.mv hk.cu;replace h2:=h2.mv hk.cu;have gq:=h.box;have B0:=h1.ib;have wS:=h2.ib;refine Jx.1 λhs=>?_;repeat' refine ao ?_;intros
 refine akD (kt:=34) (et:=306) h.hU qW.mv h.sub kQ hs.has λr w X hr aC Oi=>?_;replace hs:=hs.trans aC;refine gM (λn _ _ w X=> ∃left,n=left.length/\aj (bV w0) w0 X w/\My w X A r pb (λk:bH=>k.v) qW pm left/\(pm.any λq=>x.ED q.2)=left.any λq=>x.ED q.2)
  pm.length ⟨pm,rfl,hs,Oi,rfl⟩ ?_
 rintro n a b w X ⟨left,rfl,hs,Oi,hw⟩;refine am1 Oi qW.mv (λk hk=>⟨hs.sub k (h.sub k hk),λe=>by have:k<w0.heap.size:=h.sub k hk;omega⟩) hs.has (λe0 w X aC=>?_) λkx q v mu w1 X1 hc jE aqQ he=>?_
 ·replace hs:=hs.trans aC;repeat' first|refine ao ?_;intros|(refine qr ?_;intro wa hk;(rw[hw,e0];rfl))
 ·have gg:=hs.eo hc λk hk e=>by have:k<w0.heap.size:=hk;omega
  obtain⟨ur,uw,rfl,q1,q2⟩:=jE;have hA1: ∀k,A k->X1 k:=λk hk=>gg.sub k (h.sub k hk);replace q1:=q1.mv (Mv.sub hA1);replace q2:=q2.mv (Mv.sub hA1);have o1:=q1.one;have o2:=q2.one;rw[af7 _ Oi.nodup mu] at hw;replace hs:=aj.fT gg.has;repeat' refine ao ?_;intros
  refine akE hs.has he λw X aC=>?_;replace hs:=hs.trans aC;repeat' refine ao ?_;intros
  refine gh (λn a w X=> ∃i:Nat,a=I (i:Nat)/\n=x.writes.length-i/\i<=x.writes.length/\aj X1 w1 X w/\
   (x.writes.any (λw=>q.has w.key||q.reads.any λk=>decide (w.key=k))=(x.writes.drop i).any (λw=>q.has w.key||q.reads.any λk=>decide (w.key=k)))) x.writes.length
   ⟨0,rfl,rfl,au _,hs,by simp⟩ ?_
  rintro n a w X ⟨i,rfl,rfl,hi,hs,uZ⟩;rcases dG (x.writes) i with⟨cC,y,hy,hd⟩|⟨dH,hd⟩
  ·rw[hd,ze] at uZ;repeat' first|refine aN ?_;intros|with_reducible apply cK|(refine qr ?_;intro wa hk;(rw[hw];simp[gr.ED,uZ, *]))|((with_reducible refine fp ((x.writes).length-(i+1)) ?_ ?_);omega;exact⟨i+1,by simp,rfl,by omega,hs,by rw[uZ];simp[*]⟩)|(refine qL (Kb  (p:=q) hs.has qA) hs ?_ ?_<;>intro _ w X hs)|(refine qL (vC  qA) hs ?_ ?_<;>intro _ w X hs)
  ·rw[hd] at uZ;repeat' refine aN ?_;intros
   refine gh (λn a w X=> ∃i:Nat,a=I (i:Nat)/\n=x.reads.length-i/\i<=x.reads.length/\aj X1 w1 X w/\
    (x.reads.any (λk=>q.has k)=(x.reads.drop i).any (λk=>q.has k))) x.reads.length
    ⟨0,rfl,rfl,au _,hs,by simp⟩ ?_
   rintro n a w X ⟨j,rfl,rfl,hj,hs,we⟩;rcases dG x.reads j with⟨cC,y,hy,qh⟩|⟨Fm,qh⟩
   ·rw[qh,ze] at we;repeat' first|refine aN ?_;intros|(refine qr ?_;intro wa hk;(rw[hw];simp[gr.ED,we, *]))|((with_reducible refine fp (x.reads.length-(j+1)) ?_ ?_);omega;exact⟨j+1,by simp,rfl,by omega,hs,by rw[we];simp[*]⟩)|(refine qL (Kb  (p:=q) hs.has qA) hs ?_ ?_<;>intro _ w X hs)
   ·rw[qh] at we;repeat' refine aN ?_;intros
    refine fK _ (akC mu) ⟨_,rfl,gg.trans hs,aqQ.mv qW.mv (aj.mv hs) (aj.jf hs hA1),?_⟩;rw[hw];have:x.ED q=false:=by unfold gr.ED;rw[uZ,we];rfl
    simp[this]
def gr.fresh (wa w':World) (v:Value) (p:gr):Prop:=
 ∃vr vw,v=p.v vr vw/\Own w' (made wa w') wa.heap.size 9 1 vr (p.reads.map S1)/\Own w' (made wa w') wa.heap.size 178 4 vw (p.writes.map KV.l)/\
  ∀g,vr.ownBlock=some g->vw.ownBlock≠some g
theorem ZZ (h1:Sl w X 1 vr (p.reads.map S1)) (h2:Sl w X 4 vw (p.writes.map KV.l)) (lD:p.reads.length<=2^40) (tU:p.writes.length<=2^40):
  Ct pg 293 #[p.v vr vw] w X nX λv wa w'=>p.fresh wa w' v:=by
  intro w0 hk;replace h1:=h1.mv hk.cu;replace h2:=h2.mv hk.cu;refine VF.1 λhs=>?_;refine cA (Ka h1 lD) kQ hs.has ?_;rintro v1 wa w X uT qz nY aC;replace hs:=hs.trans aC;have q1:=uT.sl.one;repeat' refine ao ?_;intros
  refine cA (IA (h2.mv (aj.mv hs)) tU) kQ hs.has ?_;rintro v2 wb w2 X2 lv mq kW bm;have hb:w0.heap.size<=wa.heap.size:=qz;have ano:Own w X w0.heap.size 9 1 v1 (p.reads.map S1):=uT.up nY hb;have aqR:=ano.since bm;have aqS:w0.heap.size<=wb.heap.size:=ad hs.kp.size mq;have aqT:Own w2 X2 w0.heap.size 178 4 v2 (p.writes.map KV.l):=lv.up kW aqS;have q2:=lv.sl.one;replace hs:=hs.trans bm;repeat' first|refine ao ?_;intros|(refine qr ?_;intro wa hk;(exact⟨v1,v2,rfl,(aqR.kp hk).tight,(aqT.kp hk).tight,λg YK xA=>by have:=(ano.ge YK).2;have:=(lv.ge xA).1;omega⟩))
def Cb (X:XS) (a b c:Nat):XS:=λk=>X k/\k≠a/\k≠b/\k≠c
theorem aez:Ct pg 288 #[] w X nX λv wa w'=>
  ∃sb kb pb,v=ptr sb 0/\iS w' (made wa w') (Cb (made wa w') sb kb pb) sb kb pb [] [] .zero/\sb≠kb/\sb≠pb/\kb≠pb:=by
 intro w0 hk;refine aba.1 λhs=>?_;refine rE (kv:=λs:BA=>aP s) sj nX hs.has λkb w1 X1 mP aC pr=>?_;refine rE (kv:=λk:bH=>k.v) qW nX aC.has λpb w2 X2 Il bm oV=>?_;have aqU:=pr.x;have aqV:=oV.x;have aqW:=pr.mv sj.mv (aj.mv bm) (Y:=X2) (A':=nX) (λ_ h=>h.elim);replace hs:=(hs.trans aC).trans bm;repeat' first|refine ao ?_;intros|(refine Oy hs ?_;intro bx w X gq aC gg hs bo)
 refine cG (gg.trans hs) ?_;intro wa hk;have rG:=(bo.kp hk).lt;have anp:=aC.kp.trans (hk.less aC.sub);have aqX:made w0 wa kb:=⟨mP,by omega⟩;have aqY:made w0 wa pb:=⟨by omega,by omega⟩;exact⟨bx,kb,pb,rfl,⟨bo.own.mv (Mv.one hk bo.1 ⟨by omega,rG⟩),aqW.own.mv sj.mv (Mv.one anp (bm.sub _ aqU.1) aqX) (λ_ h=>h.elim),
  oV.own.mv qW.mv (Mv.one anp aqV.1 aqY) (λ_ h=>h.elim),λk hk=>hk.1,λk hk=>hk.2⟩,by omega,by omega,by omega⟩
def Dz:BA->List kJ->Bool
 |_,[]=>true
 |a,h::r=>h.ok a&&Dz h.key r
def yd (l:List kJ):List (BA×List pQ):=l.foldl (λm h=>cI h.key h.mZ m) []
def RY (hm:List (BA×List pQ)):List (bH×gr)->List gr->Int
 |_,[]=>0
 |pm,p::r=>if p.err≠0 then p.err else if(getM p.aR pm).isSome then 9 else if pm.any (λq=>p.ED q.2)then 18 else if MT hm p then 20
  else RY hm (cI p.aR p pm) r
def EN (hl:List kJ) (pl:List gr):Int:=if Dz ⟨#[]⟩ hl then RY (yd hl) [] pl else 4
theorem iS.grow {A':XS} {low:bN} (h:iS w X A sb kb pb hm pm low)
  (hA: ∀k,A k->A' k) (hs: ∀k,A' k->X k/\k≠sb/\k≠kb/\k≠pb):iS w X A' sb kb pb hm pm low:=
 ⟨h.box,h.keys.mv sj.mv (Mv.refl _ _) (Mv.sub hA),h.hU.mv qW.mv (Mv.refl _ _) (Mv.sub hA),λk hk=>(hs k hk).1,λk hk=>(hs k hk).2⟩
theorem iS.to {low:bN} (h:iS w X (Cb X sb kb pb) sb kb pb hm pm low)
  (hs:aj X w Y w') (hX: ∀k,X k->k<w.heap.size):iS w' Y (Cb Y sb kb pb) sb kb pb hm pm low:=
 (h.mv hX (aj.mv hs)).grow (λk hk=>⟨hs.sub k hk.1,hk.2⟩) λk hk=>hk
def XL (lo:Nat) (X:XS):XS:=λk=>X k/\lo<=k
theorem iS.toL {low:bN} (h:iS w X (Cb (XL lo X) sb kb pb) sb kb pb hm pm low)
  (hs:aj X w Y w') (hX: ∀k,X k->k<w.heap.size):iS w' Y (Cb (XL lo Y) sb kb pb) sb kb pb hm pm low:=
 (h.mv hX (aj.mv hs)).grow (λk hk=>⟨⟨hs.sub k hk.1.1,hk.1.2⟩,hk.2⟩) λk hk=>⟨hk.1.1,hk.2⟩
variable {wa : World}
theorem iS.fin {low:bN} (h:iS w X (Cb (XL w0.heap.size X) sb kb pb) sb kb pb hm pm low)
  (hk:Kp X w wa) (h1:w0.heap.size<=sb) (h2:w0.heap.size<=kb) (h3:w0.heap.size<=pb):iS wa (made w0 wa) (Cb (made w0 wa) sb kb pb) sb kb pb hm pm low:=by
 have hz:=hk.size;have ma:Mv (Cb (XL w0.heap.size X) sb kb pb) w (Cb (made w0 wa) sb kb pb) wa:=λk af hl=>⟨⟨⟨af.1.2,by omega⟩,af.2⟩,hk.block k af.1.1⟩;have l1:=h.box.lt;have l2:=h.keys.x.2;have l3:=h.hU.x.2;exact⟨h.box.own.mv (Mv.one hk h.box.1 ⟨h1,by omega⟩),h.keys.own.mv sj.mv (Mv.one hk h.keys.x.1 ⟨h2,by omega⟩) ma,h.hU.own.mv qW.mv (Mv.one hk h.hU.x.1 ⟨h3,by omega⟩) ma,λk hk=>hk.1,λk hk=>hk.2⟩
def Tm (l:List gr):List (bH×gr):=l.foldl (λm p=>cI p.aR p m) []
def LR (l:List gr):Prop:= ∀p∈l,p.reads.length<=2^40/\p.writes.length<=2^40
def LQ (l:List kJ):Prop:= ∀h∈l,h.mZ.length<=2^40
variable {pl : List gr} {hl : List kJ}
theorem Z1 (h1:qY w X vh hl) (h2:qX w X vp pl) (lD:LQ hl) (tU:LR pl):
  Ct pg 220 #[vh,vp] w X nX λv wa w'=> ∃(u:Value) (n:Int),v= .tuple #[u,I n]/\n=EN hl pl/\
   (n=0-> ∃sb kb pb,u=ptr sb 0/\sb≠kb/\sb≠pb/\kb≠pb/\iS w' (made wa w') (Cb (made wa w') sb kb pb) sb kb pb (yd hl) (Tm pl) .zero):=by
 intro w0 hk;replace h1:=h1.mv hk.cu;replace h2:=h2.mv hk.cu;have B0:=h1.len;have wS:=h2.len;refine ZC.1 λhs=>?_;refine cA aez kQ hs.has ?_;rintro v wa w X ⟨sb,kb,pb,rfl,fE,ne1,ne2,ne3⟩ hle gy aC;have TD:w0.heap.size<=sb:=ad hle fE.box.1.1;have mP:w0.heap.size<=kb:=ad hle fE.keys.x.1.1;have Il:w0.heap.size<=pb:=ad hle fE.hU.x.1.1;replace hs:=hs.trans aC;have aqZ:iS w X (Cb (XL w0.heap.size X) sb kb pb) sb kb pb [] [] .zero:=(fE.mv (λk hk=>hk.2) (Mv.sub gy)).grow (λk hk=>⟨⟨gy k hk.1,ad hle hk.1.1⟩,hk.2⟩) λk hk=>⟨hk.1.1,hk.2⟩;clear fE;repeat' refine ao ?_;intros
 refine gM (λn a b w X=> ∃(i:Nat) (s:BA),a=I i/\b= .string s/\n=hl.length-i/\i<=hl.length/\aj (bV w0) w0 X w/\
  iS w X (Cb (XL w0.heap.size X) sb kb pb) sb kb pb (yd (hl.take i)) [] .zero/\Dz ⟨#[]⟩ hl=Dz s (hl.drop i)) hl.length
  ⟨0,⟨#[]⟩,rfl,rfl,rfl,au _,hs,aqZ,by rw[tF]⟩ ?_
 rintro n a b w X ⟨i,s,rfl,rfl,rfl,hi,gg,fE,hw⟩;have hs:=aj.fT gg.has;rcases dG (hl) i with⟨cC,x,hx,hd⟩|⟨dH,hd⟩
 ·rw[hd,Dz] at hw;have J6:=lD x (aB hx);have gq:=fE.box;repeat' first|refine aN ?_;intros|((with_reducible apply RU);assumption;(try (case hz=>rfl));(case hr=>exact qR);(try (case hz=>omega));(case ht=>kernel_rfl);(case hs=>kernel_rfl);intros)|(refine qL (Tl (h:=x) (ahead:=s) (by first|assumption|exact Sl.mv aQ (aj.mv (gg.trans hs)))) hs ?_ ?_<;>intro _ w X hs)|(first|(with_reducible refine cG (gg.trans hs) ?_);intro wa hk;exact⟨_,_,rfl,by rw[EN,hw];simp[*],λe=>absurd e dQ⟩)
  have hvv:= ‹Sl w0 (bV w0) 6 _ (x.mZ.map pQ.l)›;have nk:= ‹x.ok s=true›;refine cA (PT (hvv.mv (aj.mv (gg.trans hs))) J6) kQ hs.has ?_;rintro v1 wa w2 X2 uT qz nY bm;have Yh:=hs.kp.size;have PW:=fE.toL (hs.trans bm) gg.has;have lq:Sl w2 (Cb (XL w0.heap.size X2) sb kb pb) 6 v1 (x.mZ.map pQ.l):=uT.sl.mv (Mv.sub λk hk=>⟨⟨nY k hk,by have:w0.heap.size<=_:=ad gg.kp.size hs.kp.size;have:=hk.1;omega⟩,by
   have q1:=gg.has sb fE.box.1;have q2:=gg.has kb fE.keys.x.1;have q3:=gg.has pb fE.hU.x.1;have:=hk.1;refine⟨?_,?_,?_⟩<;>omega⟩)
  replace hs:=hs.trans bm;repeat' refine ao ?_;intros
  refine vA (kv:=λs:BA=>aP s) (k:=x.key) (et:=300) PW.keys sj.mv lq (λk hk=>⟨hk.1.1,hk.2.2.1⟩) xw kQ hs.has λw3 X3 hc qK=>?_;have cV:=(gg.trans hs).eo hc λk hk e=>by have:k<w0.heap.size:=hk;omega
  have aiH:iS w3 X3 (Cb (XL w0.heap.size X3) sb kb pb) sb kb pb (yd (hl.take (i+1))) [] .zero:=by
   have gq:=PW.box;have uz:=PW.hU;have e:yd (hl.take (i+1))=cI x.key x.mZ (yd (hl.take i)):=by
    rw[dr,hx];simp[yd]
   rw[e];have mo: ∀b,X2 b->b≠kb->Mv (λk=>k=b) w2 X3 w3:=λb hb cj k af _=>by subst af;exact⟨hc.sub _ hb,hc.block _ hb cj⟩
   exact⟨gq.own.mv (mo _ gq.1 ne1),qK.mv sj.mv (Mv.refl _ _) (Mv.sub λk hk=>⟨⟨hc.sub k hk.1.1,hk.1.2⟩,hk.2⟩),
    uz.own.mv qW.mv (mo _ uz.x.1 ne3.symm) (λk hk _=>⟨⟨⟨hc.sub k hk.1.1,hk.1.2⟩,hk.2⟩,hc.block k hk.1.1 hk.2.2.1⟩),λk hk=>hk.1.1,λk hk=>hk.2⟩
  replace hs:=cV;repeat' first|refine ao ?_;intros|((with_reducible refine fK ((hl).length-(i+1)) ?_ ?_);omega;exact⟨i+1,x.key,by simp,rfl,rfl,by omega,hs,aiH,by rw[hw,nk];rfl⟩)
 ·have hlen:hl.take i=hl:=ax dH;rw[hd] at hw;rw[hlen] at fE;repeat' refine aN ?_;intros
  refine gh (λn a w X=> ∃(i:Nat) (pm:List (bH×gr)),a=I i/\n=pl.length-i/\i<=pl.length/\aj (bV w0) w0 X w/\
   iS w X (Cb (XL w0.heap.size X) sb kb pb) sb kb pb (yd hl) pm .zero/\pm=Tm (pl.take i)/\EN hl pl=RY (yd hl) pm (pl.drop i)) pl.length
   ⟨0,[],rfl,rfl,au _,gg,fE,rfl,by rw[tF,EN,hw];rfl⟩ ?_
  rintro n a w X ⟨j,pm,rfl,rfl,hj,gg,fE,uz,uZ⟩;have hs:=aj.fT gg.has;rcases dG pl j with⟨SB,x,hx,qh⟩|⟨Fm,qh⟩
  ·rw[qh,RY] at uZ;have J6:=tU x (aB hx);have gq:=fE.box;repeat' first|refine aN ?_;intros|((with_reducible apply Wm);assumption;(try (case hz=>rfl));(case hr=>exact qR);(try (case hz=>omega));(case ht=>kernel_rfl);(case hs=>kernel_rfl);intros)|(refine UP (zg (p:=x) (by first|assumption|exact Sl.mv aQ (aj.mv (gg.trans hs))) (by first|assumption|exact Sl.mv aQ (aj.mv (gg.trans hs))) J6.2) hs ?_;intro w X hs)
   refine E4 (kv:=λk:bH=>k.v) (k:=x.aR) (kt:=34) (et:=306) (.agg #[I 0,I 0,I 0,I 0,I 0,I 0,.slice none 0 0,.slice none 0 0]) (fE.mv gg.has (aj.mv hs)).hU ta kQ kQ (λv q hg jE=>?_) λhg=>?_
   ·obtain⟨ur,uw,rfl,q1,q2⟩:=jE;have o1:=q1.one;have o2:=q2.one;repeat' first|refine ao ?_;intros|refine dq ?_ ?_<;>intros|(first|(with_reducible refine cG (gg.trans hs) ?_);intro wa hk;exact⟨_,_,rfl,by clear uz;rw[uZ];simp[*],λe=>absurd e (by first|decide|assumption)⟩)
   ·repeat' first|refine ao ?_;intros|refine dq ?_ ?_<;>intros|(first|(with_reducible refine cG (gg.trans hs) ?_);intro wa hk;exact⟨_,_,rfl,by clear uz;rw[uZ];simp[*],λe=>absurd e (by first|decide|assumption)⟩)|(refine qL (VP (x:=x) (fE.mv gg.has (aj.mv hs)) hs.has (by first|assumption|exact Sl.mv aQ (aj.mv (gg.trans hs))) (by first|assumption|exact Sl.mv aQ (aj.mv (gg.trans hs)))) hs ?_ ?_<;>intro _ w X hs)|(refine qL (aey (x:=x) (fE.mv gg.has (aj.mv hs)) hs.has (by first|assumption|exact Sl.mv aQ (aj.mv (gg.trans hs)))) hs ?_ ?_<;>intro _ w X hs)
    have he:x.err=0:= ‹x.err=0›;have aq0:(pm.any λq=>x.ED q.snd)=false:= ‹_›;have aq1:MT (yd hl) x=false:= ‹_›;refine cA (ZZ (p:=x) (by first|exact Sl.mv aQ (aj.mv (gg.trans hs))) (by first|exact Sl.mv aQ (aj.mv (gg.trans hs))) J6.1 J6.2) kQ hs.has ?_;rintro v1 wa w2 X2 ⟨ur,uw,rfl,uT,lv,-⟩ qz nY bm;have Yh:=hs.kp.size;have PW:=fE.toL (hs.trans bm) gg.has;have jF: ∀k,made wa w2 k->Cb (XL w0.heap.size X2) sb kb pb k:=λk hk=>⟨⟨nY k hk,by have:w0.heap.size<=_:=ad gg.kp.size hs.kp.size;have:=hk.1;omega⟩,by
     have q1:=gg.has sb fE.box.1;have q2:=gg.has kb fE.keys.x.1;have q3:=gg.has pb fE.hU.x.1;have:=hk.1;refine⟨?_,?_,?_⟩<;>omega⟩
    have lq:qW w2 (Cb (XL w0.heap.size X2) sb kb pb) (x.v ur uw) x:=⟨ur,uw,rfl,uT.sl.mv (Mv.sub jF),lv.sl.mv (Mv.sub jF)⟩;replace hs:=hs.trans bm;refine vA (kv:=λk:bH=>k.v) (k:=x.aR) (et:=306) PW.hU qW.mv lq (λk hk=>⟨hk.1.1,hk.2.2.2⟩) ta kQ hs.has λw3 X3 hc qK=>?_;have cV:=(gg.trans hs).eo hc λk hk e=>by have:k<w0.heap.size:=hk;omega
    have aiH:iS w3 X3 (Cb (XL w0.heap.size X3) sb kb pb) sb kb pb (yd hl) (cI x.aR x pm) .zero:=by
     have gq:=PW.box;have hkm:=PW.keys;have mo: ∀b,X2 b->b≠pb->Mv (λk=>k=b) w2 X3 w3:=λb hb cj k af _=>by subst af;exact⟨hc.sub _ hb,hc.block _ hb cj⟩
     exact⟨gq.own.mv (mo _ gq.1 ne2),hkm.own.mv sj.mv (mo _ hkm.x.1 ne3) (λk hk _=>⟨⟨⟨hc.sub k hk.1.1,hk.1.2⟩,hk.2⟩,hc.block k hk.1.1 hk.2.2.2⟩),
      qK.mv qW.mv (Mv.refl _ _) (Mv.sub λk hk=>⟨⟨hc.sub k hk.1.1,hk.1.2⟩,hk.2⟩),λk hk=>hk.1.1,λk hk=>hk.2⟩
    replace hs:=cV;repeat' first|refine ao ?_;intros|((with_reducible refine fp (pl.length-(j+1)) ?_ ?_);omega;exact⟨j+1,_,by simp,rfl,by omega,hs,aiH,by rw[dr,hx,uz];simp[Tm],by rw[uZ];simp[he,hg,aq0,aq1]⟩)
  ·rw[qh] at uZ;repeat' first|refine aN ?_;intros|(first|(with_reducible refine cG (gg.trans hs) ?_);intro wa hk;exact⟨_,_,rfl,by rw[uZ];rfl,λ_=>⟨sb,kb,pb,rfl,ne1,ne2,ne3,by rw[ax Fm] at uz;rw[<-uz];exact fE.fin hk TD mP Il⟩⟩)
theorem abi (h1:qY w X vh hl) (h2:qX w X vp pl) (lD:LQ hl) (tU:LR pl):
  Ct pg 220 #[vh,vp] w X nX λv _ _=> ∃u:Value,v= .tuple #[u,I (EN hl pl)]:=
 (Z1 h1 h2 lD tU).mono λ_ _ _ _ ⟨u,_,h,e,_⟩=>⟨u,e▸h⟩
def adw (l:List kJ):Prop:= ∀h∈l,h.key.size<=2^40
def adx (l:List gr):Prop:= ∀p∈l,(∀k∈p.reads,k.size<=2^40)/\ ∀x∈p.writes,x.key.size<=2^40
structure State.small (s:State):Prop where
 h:LQ s.iD
 p:LR s.hU
 hk:adw s.iD
 pk:adx s.hU
structure Rec.small (r:Rec):Prop where
 reads:r.reads.length<=2^40
 writes:r.writes.length<=2^40
 rk: ∀k∈r.reads,k.size<=2^40
 wk: ∀x∈r.writes,x.key.size<=2^40
 state:r.state.small
def eI.has (r:eI) (x:Nat):Bool:=(J0 x r.lo||pR x r.lo)&&qT x r.hi
def eI.key (r:eI) (k:BA):Bool:=r.has (placeOf k)
def State.inside (s:State):Bool:=s.iD.all (λh=>s.range.key h.key)&&s.hU.all λp=>p.reads.all s.range.key&&p.writes.all λx=>s.range.key x.key
def State.may (s:State):Bool:=s.range.may&&s.floor.may&&s.closed.may&&decide (EN s.iD s.hU=0)&&s.inside
theorem MY {b:Nat} (h:Cells w X b 0 (s.l vh vp)) (af:k.size<=2^62):
  Ct pg 221 #[.string k,ptr b 0] w X nX λv _ _=>v=B (s.range.key k):=by
 intro w0 hk;replace h:=h.mv hk.cu;refine Ky.1 λhs=>?_;repeat' first|refine ao ?_;intros|(refine kR (JB _ _) hs ?_ ?_<;>intro _ w X hs)|(refine pN (JE _ (by first|assumption|omega)) hs ?_;intro w X hs)|(refine qr ?_;intro wa hk;(simp[eI.key,eI.has, *]))
theorem Gp (h1:qY w X vh s.iD) (h2:qX w X vp s.hU) (ni:s.small):
  Ct pg 151 #[s.v vh vp] w X nX λv _ _=>v=B s.may:=by
 intro w0 hk;replace h1:=h1.mv hk.cu;replace h2:=h2.mv hk.cu;have B0:=h1.len;have wS:=h2.len;refine PK.1 λhs=>?_;repeat' first|refine ao ?_;intros|refine dq ?_ ?_<;>intros|(refine Oy hs ?_;intro bx w X gq aC gg hs bo)|with_reducible apply cK|(refine kR (pJ _) hs ?_ ?_<;>intro _ w X hs)|(refine kR (wq _) hs ?_ ?_<;>intro _ w X hs)|(refine qr ?_;intro wa hk;(simp[State.may, *]))|(refine cA ((abi (hl:=s.iD) (pl:=s.hU))  qA qA ni.h ni.p) kQ hs.has ?_;rintro _ wa w X ⟨u,rfl⟩ hle gy aC;have gv:=ad hs.kp.size hle;replace hs:=hs.trans aC)
 have Da: ∀k:BA,k.size<=2^40-> ∀w X,aj _ _ X w->Ct pg 221 #[.string k,ptr bx 0] w X nX λv _ _=>v=B (s.range.key k):=λk hk w X hs=>MY (bo.since hs).cells zQ;have aeA:s.may=s.inside:=by simp[State.may, *]
 refine gh (λn a w X=> ∃i:Nat,a=I (i:Nat)/\n=s.iD.length-i/\i<=s.iD.length/\aj _ _ X w/\
  (s.iD.all (λh=>s.range.key h.key))=((s.iD.drop i).all λh=>s.range.key h.key)) s.iD.length ⟨0,rfl,rfl,au _,hs,by simp⟩ ?_
 rintro n a w X ⟨i,rfl,rfl,hi,hs,hw⟩;rcases dG (s.iD) i with⟨cC,x,hx,hd⟩|⟨dH,hd⟩
 ·rw[hd,iX] at hw;have hkx:=ni.hk x (aB hx);repeat' first|refine aN ?_;intros|((with_reducible apply RU);assumption;(try (case hz=>rfl));(case hr=>exact qR);(try (case hz=>omega));(case ht=>kernel_rfl);(case hs=>kernel_rfl);intros)|(refine qr ?_;intro wa hk;(simp[aeA,State.inside,hw, *]))|(refine qL (Da x.key hkx _ _ hs) hs ?_ ?_<;>intro _ w X hs)|((with_reducible refine fp ((s.iD).length-(i+1)) ?_ ?_);omega;exact⟨i+1,by simp,rfl,by omega,hs,by rw[hw];simp[*]⟩)
 ·rw[hd] at hw;repeat' refine aN ?_;intros
  refine C8 (λn a _ _ w X=> ∃i:Nat,a=I (i:Nat)/\n=s.hU.length-i/\i<=s.hU.length/\aj _ _ X w/\
   (s.hU.all λp=>p.reads.all s.range.key&&p.writes.all λx=>s.range.key x.key)=((s.hU.drop i).all λp=>p.reads.all s.range.key&&p.writes.all λx=>s.range.key x.key)) s.hU.length ⟨0,rfl,rfl,au _,hs,by simp⟩ ?_
  rintro n a a2 a3 w X ⟨j,rfl,rfl,hj,hs,uZ⟩;rcases dG s.hU j with⟨cC,p,hp,qh⟩|⟨Fm,qh⟩
  ·rw[qh,iX] at uZ;obtain⟨pz,jI⟩:=ni.pk p (aB hp);repeat' first|refine aN ?_;intros|((with_reducible apply Wm);assumption;(try (case hz=>rfl));(case hr=>exact qR);(try (case hz=>omega));(case ht=>kernel_rfl);(case hs=>kernel_rfl);intros)
   have hl3:=Sl.ib ‹Sl w0 (bV w0) 1 _ (p.reads.map S1)›;have Qx:=Sl.ib ‹Sl w0 (bV w0) 4 _ (p.writes.map KV.l)›;refine gh (λn a w X=> ∃i:Nat,a=I (i:Nat)/\n=p.reads.length-i/\i<=p.reads.length/\aj _ _ X w/\p.reads.all s.range.key=(p.reads.drop i).all s.range.key) p.reads.length ⟨0,rfl,rfl,au _,hs,by simp⟩ ?_;rintro n a w X ⟨k,rfl,rfl,hk3,hs,we⟩;rcases dG p.reads k with⟨aqx,y,hy,hd3⟩|⟨aqy,hd3⟩
   ·rw[hd3,iX] at we;have hky:=pz y (aB hy);repeat' first|refine aN ?_;intros|(refine qr ?_;intro wa hk;(simp[aeA,State.inside,uZ,we, *]))|(refine qL (Da y hky _ _ hs) hs ?_ ?_<;>intro _ w X hs)|((with_reducible refine fp (p.reads.length-(k+1)) ?_ ?_);omega;exact⟨k+1,by simp,rfl,by omega,hs,by rw[we];simp[*]⟩)
   ·rw[hd3] at we;repeat' refine aN ?_;intros
    refine gh (λn a w X=> ∃i:Nat,a=I (i:Nat)/\n=p.writes.length-i/\i<=p.writes.length/\aj _ _ X w/\(p.writes.all λx=>s.range.key x.key)=(p.writes.drop i).all λx=>s.range.key x.key) p.writes.length ⟨0,rfl,rfl,au _,hs,by simp⟩ ?_;rintro n a w X ⟨m,rfl,rfl,hm,hs,Gv⟩;rcases dG p.writes m with⟨aso,y,hy,hd4⟩|⟨asp,hd4⟩
    ·rw[hd4,iX] at Gv;have hky:=jI y (aB hy);repeat' first|refine aN ?_;intros|(refine qr ?_;intro wa hk;(simp[aeA,State.inside,uZ,we,Gv, *]))|(refine qL (Da y.key hky _ _ hs) hs ?_ ?_<;>intro _ w X hs)|((with_reducible refine fp (p.writes.length-(m+1)) ?_ ?_);omega;exact⟨m+1,by simp,rfl,by omega,hs,by rw[Gv];simp[*]⟩)
    ·rw[hd4] at Gv;repeat' first|refine aN ?_;intros|((with_reducible refine AV (s.hU.length-(j+1)) ?_ ?_);omega;exact⟨j+1,by simp,rfl,by omega,hs,by rw[uZ,we,Gv];simp⟩)
  ·rw[qh] at uZ;repeat' first|refine aN ?_;intros|(refine qr ?_;intro wa hk;(rw[aeA,State.inside,hw,uZ];rfl))
def Ni (prev st:bN) (t:bH) (l:List KV):Bool:=prev.may&&decide (prev.cmp st<0)&&decide (l≠[])&&decide (gr.err ⟨t,st,[],l⟩=0)
theorem Ld {prev st:bN} {t:bH} {l:List KV} (h:Sl w X 4 a (l.map KV.l)) (hb:l.length<=2^40):
  Ct pg 152 #[prev.v,st.v,t.v,a] w X nX λv _ _=>v=B (Ni prev st t l):=by
 intro w0 hk;replace h:=h.mv hk.cu;obtain⟨b1,n1,c1,rfl⟩:=h.form;refine Vy.1 λhs=>?_;repeat' first|refine ao ?_;intros|refine dq ?_ ?_<;>intros|with_reducible apply cK|(refine kR (pJ _) hs ?_ ?_<;>intro _ w X hs)|(refine pN (wh _ _) hs ?_;intro w X hs)|(refine qr ?_;intro wa hk;(simp_all [Ni]<;>omega))|(refine UP (zg  (p:=⟨t,st,[],l⟩) (Sl.nil _ _ _) qA hb) hs ?_;intro w X hs)
def ab3 (x:Nat):Bool:=decide ((EM x).2=0)&&J0 (EM x).1 0&&qT (EM x).1 GQ
def wo (n:Int):Bool:=decide (n>=1)&&decide (n<=12)
def Rec.qw (r:Rec):Bool:=
 if r.kind=1 then r.state.may
 else if r.kind=2 then decide (r.n>=0)&&decide (r.n<=281474976710656)
 else if r.kind=3 then decide (gr.err ⟨r.aR,r.aV,r.reads,r.writes⟩=0)&&yn r.parts
 else if r.kind=4 then r.aR.may&&r.aV.Ti r.jJ
 else if r.kind=5 then r.aV.may
 else if r.kind=6 then ab3 r.tZ&&wo r.n&&r.aV.may
 else if r.kind=7 then wo r.n
 else if r.kind=8 then decide (r.n>=1)
 else if r.kind=9 then r.aR.may&&r.aV.It&&yn r.parts
 else if r.kind=10 then r.aR.may
 else if r.kind=11 then Ni r.prev r.aV r.aR r.writes
 else r.aV.may&&ND r.xd
theorem VQ (h:r.at w X vr vw vp vq vh vd) (ni:r.small):
  Ct pg 278 #[r.v vr vw vp vq vh vd] w X nX λv _ _=>v=B r.qw:=by
 intro w0 hk;obtain⟨h1,h2,h3,h4,h5,h6⟩:=h.mv hk.cu;obtain⟨b1,n1,c1,rfl⟩:=h1.form;obtain⟨b2,n2,c2,rfl⟩:=h2.form;refine S9.1 λhs=>?_;repeat' first|refine ao ?_;intros|refine dq ?_ ?_<;>intros|with_reducible apply cK|(refine kR (pJ _) hs ?_ ?_<;>intro _ w X hs)|(refine kR (DG _) hs ?_ ?_<;>intro _ w X hs)|(refine kR (Tj _ _) hs ?_ ?_<;>intro _ w X hs)|(refine pN (VK _) hs ?_;intro w X hs)|(refine kR (VJ _) hs ?_ ?_<;>intro _ w X hs)|(refine kR (J8 _) hs ?_ ?_<;>intro _ w X hs)|(refine qL (Gp  (s:=r.state) qA qA ni.state) hs ?_ ?_<;>intro _ w X hs)|(refine UP (zg  (p:=⟨r.aR,r.aV,r.reads,r.writes⟩) qA qA ni.writes) hs ?_;intro w X hs)|(refine qL (Lc  qA) hs ?_ ?_<;>intro _ w X hs)|(refine qL (ZU  qA) hs ?_ ?_<;>intro _ w X hs)|(refine qL ((Ld (l:=r.writes))  qA ni.writes) hs ?_ ?_<;>intro _ w X hs)
 all_goals
  (with_reducible refine cG hs ?_)
  intro wa aL;unfold Rec.qw;repeat (first|rw[if_pos zQ]|rw[if_neg zQ])
  simp_all [ab3,wo,GQ]<;>omega
def Rec.err (r:Rec):Int:=if !r.strip.2 then 7 else if !r.strip.1.isZero||!r.qw then 4 else 0
theorem aeB (h:r.at w X vr vw vp vq vh vd) (ni:r.small):
  Ct pg 196 #[r.v vr vw vp vq vh vd] w X nX λv _ _=>v=I r.err:=by
 intro w0 hk;have h:=h.mv hk.cu;refine aa6.1 λhs=>?_;refine cA (Tk h) kQ hs.has ?_;rintro v wa w X ⟨Xd,jK,JP,vq',Xe,Xf,rfl,dB⟩ hle gy aC;replace hs:=hs.trans aC;have q1:=dB.1.one;have q2:=dB.2.1.one;have q3:=dB.2.2.1.one;have q4:=dB.2.2.2.1.one;have q5:=dB.2.2.2.2.1.one;have q6:=dB.2.2.2.2.2.one;cases hb:r.strip.2<;>
 repeat' first|refine ao ?_;intros|with_reducible apply cK|(refine qr ?_;intro wa hk;(simp[Rec.err, *]))|(refine qL (abf  (r:=r.strip.1) qA) hs ?_ ?_<;>intro _ w X hs)|(refine qL ((VQ (r:=r))  (h.mv (aj.mv hs)) ni) hs ?_ ?_<;>intro _ w X hs)
section
variable {κ : Type} [DecidableEq κ] {α β : Type}
theorem Z2 (f:α->β) (k:κ) (l:List (κ×α)):getM k (l.map λx=>(x.1,f x.2))=(getM k l).map f:=by
 induction l with
 |nil=>rfl
 |cons x l ih=>
  simp only[getM,bD,fG] at ih⊢
  grind
theorem PX (f:α->β) (k:κ) (a:α) (l:List (κ×α)):(cI k a l).map (λx=>(x.1,f x.2))=cI k (f a) (l.map λx=>(x.1,f x.2)):=by
 induction l with
 |nil=>rfl
 |cons x l ih=>
  simp only[cI,bD] at ih⊢
  grind
theorem aiI (f:α->β) (k:κ) (l:List (κ×α)):(jL k l).map (λx=>(x.1,f x.2))=jL k (l.map λx=>(x.1,f x.2)):=by
 unfold jL;rw[List.filter_map];rfl
theorem aiJ (f:α->β) (k:κ) (a:α) {l:List (κ×α)} (h: ∀x∈l,x.1=k->f x.2=f a) (hk:(getM k l).isSome=true):(cI k a l).map (λx=>(x.1,f x.2))=l.map λx=>(x.1,f x.2):=by
 induction l with
 |nil=>cases hk
 |cons x l ih=>
  simp only[cI];by_cases hx:x.1=k
  ·grind
  ·simp only[hx,if_false,bD];rw[ih (λy hy=>h y (by simp[hy])) (by simpa [getM,fG,hx] using hk)]
theorem xN (k:κ) (a:α) (l:List (κ×α)):(cI k a l).map (·.1)=if(getM k l).isSome then l.map (·.1)else l.map (·.1)++[k]:=by
 induction l with
 |nil=>rfl
 |cons x l ih=>
  simp only[cI];by_cases hx:x.1=k
  ·simp[hx,getM]
  ·have e:getM k (x::l)=getM k l:=by simp[getM,fG,hx]
   grind
theorem getM_none {k:κ} {l:List (κ×α)} :getM k l=none↔k ∉ l.map (·.1):=by
 induction l with
 |nil=>simp[getM]
 |cons x l ih=>
  by_cases hx:x.1=k
  ·simp[getM,hx]
  ·have e:getM k (x::l)=getM k l:=by simp[getM,fG,hx]
   grind
theorem QA {k:κ} {a:α} {l:List (κ×α)} (h:(l.map (·.1)).Nodup):((cI k a l).map (·.1)).Nodup:=by
 rw[xN];split
 ·exact h
 ·rename_i hn;have l9:getM k l=none:=by cases hg:getM k l with|none=>rfl|some a=>grind
  rw[List.nodup_append];refine⟨h,by simp,λa ha b hb e=>?_⟩;simp only[List.mem_singleton] at hb;subst hb;subst e;exact getM_none.1 l9 ha
theorem kD {k:κ} {a:α} {l:List (κ×α)} :getM k (cI k a l)=some a:=by
 induction l with
 |nil=>simp[cI,getM]
 |cons x l ih=>
  simp only[cI];by_cases hx:x.1=k
  ·simp[hx,getM]
  ·rw[if_neg hx];grind [getM]
theorem od {k j:κ} {a:α} {l:List (κ×α)} (hj:j≠k):getM j (cI k a l)=getM j l:=by
 induction l with
 |nil=>simp[cI,getM,Ne.symm hj]
 |cons x l ih=>
  simp only[cI];by_cases hx:x.1=k
  ·rw[if_pos hx];simp[getM,fG,Ne.symm hj,hx]
  ·rw[if_neg hx]
   grind [getM]
theorem Cs {k:κ} {l:List (κ×α)} :getM k (jL k l)=none:=by
 rw[getM_none];intro h;obtain⟨x,hx,e⟩:=List.mem_map.1 h;have:=(List.mem_filter.1 hx).2
 grind
theorem xP {k j:κ} {l:List (κ×α)} (hj:j≠k):getM j (jL k l)=getM j l:=by
 induction l with
 |nil=>rfl
 |cons x l ih=>
  unfold jL at ih⊢;by_cases hx:x.1=k
  ·rw[List.filter_cons_of_neg (by simp[hx]),ih];simp[getM,fG,hx,Ne.symm hj]
  ·rw[List.filter_cons_of_pos gQ];by_cases hxj:x.1=j
   ·simp[getM,hxj]
   ·simpa [getM,fG,hxj] using ih
theorem UT {R:κ×α->κ×α->Prop} {k:κ} {a:α} {l:List (κ×α)} (hn:(l.map (·.1)).Nodup) (hp:l.Pairwise R) (h: ∀y∈l,y.1≠k->R (k,a) y/\R y (k,a)):(cI k a l).Pairwise R:=by
 induction l with
 |nil=>simp[cI]
 |cons x l ih=>
  have l9:=List.nodup_cons.1 hn;have hp':=List.pairwise_cons.1 hp;simp only[cI];by_cases hx:x.1=k
  ·rw[if_pos hx,zw];refine⟨λy hy=>(h y (by simp[hy]) λe=>l9.1 (List.mem_map.2 ⟨y,hy,e.trans hx.symm⟩)).1,hp'.2⟩
  ·rw[if_neg hx,zw];refine⟨λy hy=>?_,ih l9.2 hp'.2 λy hy=>h y (by simp[hy])⟩;rcases mU l9.2 hy with rfl|⟨hy,_⟩
   ·exact(h x sQ hx).2
   ·exact hp'.1 y hy
def uv (f:α->Nat) (l:List (κ×α)):Nat:=(l.map λx=>f x.2).sum
theorem Xt {f:α->Nat} {k:κ} {a b:α} {l:List (κ×α)} (h:getM k l=some b):uv f (cI k a l)+f b=uv f l+f a:=by
 induction l with
 |nil=>cases h
 |cons x l ih=>
  simp only[cI];by_cases hx:x.1=k
  ·have:x.2=b:=by simpa [getM,hx] using h
   rw[if_pos hx];simp only[uv,bD,uf,this];omega
  ·rw[if_neg hx];have:=ih (by grind [getM]);simp only[uv,bD,uf] at this⊢;omega
theorem Xs {f:α->Nat} {k:κ} {a:α} {l:List (κ×α)} (h:getM k l=none):uv f (cI k a l)=uv f l+f a:=by
 induction l with
 |nil=>simp[cI,uv]
 |cons x l ih=>
  simp only[cI];by_cases hx:x.1=k
  ·simp[getM,hx] at h
  ·rw[if_neg hx];have:=ih (by simpa [getM,fG,hx] using h);simp only[uv,bD,uf] at this⊢;omega
theorem aiK {f:α->Nat} {k:κ} {b:α} {l:List (κ×α)} (h:getM k l=some b):f b<=uv f l:=by
 induction l with
 |nil=>cases h
 |cons x l ih=>
  by_cases hx:x.1=k
  ·have:x.2=b:=by simpa [getM,hx] using h
   grind [uv]
  ·have:=ih (by grind [getM]);simp only[uv,bD,uf] at this⊢;omega
end
structure DM where
 fs:List (ByteArray×(List Nat×Nat))
 wr:Int
 ar:Nat
 dn:Bool
def DM.sz (m:DM):Nat:=uv (λx=>x.1.length) m.fs
def DM.get (m:DM) (n:ByteArray):Option (List Nat×Nat):=getM n m.fs
def DM.put (m:DM) (n:ByteArray) (bs:List Nat) (s:Nat):DM:= { m with fs:=cI n (bs,s) m.fs }
def DM.del (m:DM) (n:ByteArray):DM:= { m with fs:=jL n m.fs }
def DM.tick (m:DM):DM:=if m.ar=1 then { m with ar:=0,dn:=true } else { m with ar:=m.ar-1,wr:=IntKind.i64.wrap (m.wr+1) }
def DM.write (m:DM) (e:Nat) (f:DM->DM):DM×Nat:=if m.dn then(m,12)else if e≠0 then(m,e)else if m.tick.dn then(m.tick,12)else(f m.tick,0)
def vZ (n:ByteArray):Bool:=decide (1<=n.size/\n.size<=20)
def DM.create (m:DM) (n:ByteArray):DM×Nat:=m.write (if¬vZ n then 10 else if(m.get n).isSome then 9 else if 64<=m.fs.length then 3 else 0) λm=>m.put n [] 0
def DM.append (m:DM) (n:ByteArray) (b:List Nat):DM×Nat:=
 if m.dn then(m,12)else match m.get n with
 |none=>(m,8)
 |some (bs,s)=>if 4194304-m.sz<b.length then(m,11)else(m.tick.put n (bs++b) s,if m.tick.dn then 12 else 0)
def DM.kB (n:ByteArray) (m:DM):DM:=match m.get n with
 |none=>m
 |some x=>m.put n x.1 x.1.length
def DM.sync (m:DM) (n:ByteArray):DM×Nat:=m.write (if(m.get n).isSome then 0 else 8) (DM.kB n)
theorem DM.Aq (m:DM):m.tick.fs=m.fs:=by unfold DM.tick;grind
theorem DM.qG (m:DM) (n:ByteArray):m.tick.get n=m.get n:=by unfold DM.get;rw[m.Aq]
theorem DM.yu (m:DM):m.tick.sz=m.sz:=by unfold DM.sz;rw[m.Aq]
variable {s' : Nat} {n : ByteArray}
theorem DM.LC {m:DM} {b:List Nat} {s:Nat} (h:m.get n=some (b,s)):(m.put n bs s').sz+b.length=m.sz+bs.length:=Xt (f:=λx:List Nat×Nat=>x.1.length) h
theorem DM.SC {m:DM} (h:m.get n=none):(m.put n bs s').sz=m.sz+bs.length:=Xs (f:=λx:List Nat×Nat=>x.1.length) h
theorem DM.Fu (m:DM) (n:ByteArray):(m.kB n).sz=m.sz:=by
 unfold DM.kB;split
 ·rfl
 grind [DM.LC]
theorem DM.Cn {m:DM} {b:List Nat} {s:Nat} (h:m.get n=some (b,s)):b.length<=m.sz:=aiK (f:=λx:List Nat×Nat=>x.1.length) h
structure nB where
 b:Nat
 v:Value
 bs:List Nat
 safe:Nat
def nB.er (f:nB):List Nat×Nat:=(f.bs,f.safe)
def OV:World->XS->Value->nB->Prop:=λ_ _ v f=>v=ptr f.b 0
theorem my:qU OV:=λ_ _ _ _ _ _ h _=>h
def apart (x y:ByteArray×nB):Prop:=x.2.b≠y.2.b/\ ∀g,x.2.v.ownBlock=some g->y.2.v.ownBlock≠some g
structure oF (w:World) (F:XS) (db mb:Nat) (l:List (ByteArray×nB)) (m:DM) (z:Nat):Prop where
 fs:m.fs=l.map λx=>(x.1,x.2.er)
 box:aK w F db [.map (some mb),I z,I m.wr,I m.ar,B m.dn] 111
 map:dK w F nX mb aP OV l
 row: ∀x∈l,aK w F x.2.b [x.2.v,I x.2.safe] 153
 ow: ∀x∈l,Ow w F 5 1 x.2.v (x.2.bs.map U1)
 ap:l.Pairwise apart
 ar:m.ar<2^63
 safe: ∀x∈l,x.2.safe<=x.2.bs.length
def Dk (w:World) (F:XS) (db:Nat) (m:DM):Prop:= ∃mb l,oF w F db mb l m m.sz/\m.sz<=4194304
variable {F G : XS}
section
variable {F' : XS} {db mb z z' : Nat} {l : List (ByteArray × nB)} {m m' : DM} {f : nB}
theorem oF.mv (h:oF w F db mb l m z) (v:Mv F w F' w'):oF w' F' db mb l m z:=
 ⟨h.fs,h.box.mv v,h.map.mv my v (λ_ h=>h.elim),λx hx=>(h.row x hx).mv v,λx hx=>(h.ow x hx).mv v,h.ap,h.ar,h.safe⟩
theorem Dk.mv (h:Dk w F db m) (v:Mv F w F' w'):Dk w' F' db m:=let⟨mb,l,h,hz⟩:=h;⟨mb,l,h.mv v,hz⟩
theorem Dk.mono (h:Dk w F db m) (hs: ∀k,F k->F' k):Dk w F' db m:=h.mv (Mv.sub hs)
theorem oF.get (h:oF w F db mb l m z) (n:ByteArray):m.get n=(getM n l).map nB.er:=by
 unfold DM.get;rw[h.fs];exact Z2 nB.er n l
theorem oF.nodup (h:oF w F db mb l m z):(l.map (·.1)).Nodup:=h.map.nodup
theorem oF.len (h:oF w F db mb l m z):m.fs.length=l.length:=by rw[h.fs,ai]
theorem oF.anq (h:oF w F db mb l m z) (hX: ∀k,F k->X k) (c:eh (· =db) X w X' w') (hr:aK w' X' db [.map (some mb),I z',I m'.wr,I m'.ar,B m'.dn] 111) (OJ:m'.fs=m.fs) (har:m'.ar<2^63):oF w' F db mb l m' z':=by
 have mv: ∀{A:XS},(∀k,A k->F k/\k≠db)->Mv A w F w':=λhA k hk _=>⟨(hA k hk).1,c.block k (hX k (hA k hk).1) (hA k hk).2⟩;refine⟨OJ.trans h.fs,⟨h.box.1,hr.2⟩,?_,λx hx=>?_,λx hx=>?_,h.ap,har,h.safe⟩
 ·exact h.map.own.mv my (mv λk hk=>by subst hk;exact⟨h.map.x.1,h.map.eP h.box⟩) λ_ h=>h.elim
 ·exact(h.row x hx).own.mv (mv λk hk=>by subst hk;exact⟨(h.row x hx).1,(h.row x hx).eP h.box (by rfl)⟩)
 ·exact(h.ow x hx).tight.mv (mv λk hk=>⟨((h.ow x hx).br hk).1,λe=>(h.ow x hx).eP h.box (by rfl) (e▸hk)⟩)
theorem aoT {α:Type} {R:α->α->Prop} (hs: ∀a b,R a b->R b a) {l:List α} (h:l.Pairwise R) {x y:α} (hx:x∈l) (hy:y∈l) (cj:x≠y):R x y:=by
 induction l with
 |nil=>cases hx
 |cons a l ih=>
  have h':=List.pairwise_cons.1 h
  grind
theorem JG: ∀a b:ByteArray×nB,apart a b->apart b a:=λa b h=>⟨Ne.symm h.1,λg hg rQ=>h.2 g rQ hg⟩
theorem oF.OD (h:oF w F db mb l m z) (hn:getM n l=some f) {y:ByteArray×nB} (hy:y∈l) (cj:y.1≠n):apart (n,f) y:=
 aoT JG h.ap (gK hn) hy λe=>cj (by rw[<-e])
theorem oC.ids: ∀{es:List (jy ByteArray)} {l l':List (ByteArray×nB)},oC w A OV es l->l'.map (λx=>(x.1,x.2.b))=l.map (λx=>(x.1,x.2.b))->oC w A OV es l'
 |[],[],[],_,_=>trivial
 |[],[],_::_,_,h=>by cases h
 |e::es,x::l,[],_,h=>by cases h
 |e::es,x::l,y::l',⟨h1,h2,h3⟩,h=>by
  simp only[bD,Ca,Prod.mk.injEq] at h;exact⟨h1.trans h.1.1.symm,by grind [OV],oC.ids h3 h.2⟩
 |[],_::_,_,h,_=>h.elim
 |_::_,[],_,h,_=>h.elim
theorem oF.jY (h:oF w F db mb l m z) (hX: ∀k,F k->X k/\k<w.heap.size) (c:eh G X w X' w') (hn:getM n l=some f) (hG: ∀k,G k->k=f.b\/f.v.ownBlock=some k) (Z3: ∀k,F k->F' k)
 {Z4:List Nat} (hr:aK w' F' f.b [v',I s'] 153) (ho:Ow w' F' 5 1 v' (Z4.map U1)) (dB:v'.ownBlock=f.v.ownBlock\/ ∃g,v'.ownBlock=some g/\w.heap.size<=g) (hs:s'<=Z4.length):
    oF w' F' db mb (cI n ⟨f.b,v',Z4,s'⟩ l) (m.put n Z4 s') z:=by
  have hf:=gK hn;have rf:=h.row _ hf;have of:=h.ow _ hf;have mv: ∀{A:XS},(∀k,A k->F k/\k≠f.b/\f.v.ownBlock≠some k)->Mv A w F' w':=λhA k hk _=>by
    obtain⟨a1,a2,a3⟩:=hA k hk;exact⟨Z3 k a1,c.block k (hX k a1).1 λhg=>(hG k hg).elim a2 a3⟩
  refine⟨?_,?_,?_,λx hx=>?_,λx hx=>?_,?_,h.ar,λx hx=>?_⟩
  · show cI n (Z4,s') m.fs=_
    rw[h.fs,PX nB.er];rfl
  · exact h.box.own.mv (mv λk hk=>by subst hk;exact⟨h.box.1,(rf.eP h.box (by rfl)).symm,of.eP h.box (by rfl)⟩)
  · obtain⟨es,c',h1,h2⟩:=h.map.own.mv my (mv λk hk=>by subst hk;exact⟨h.map.x.1,h.map.eP rf,h.map.aiu of⟩) (A':=nX) λ_ h=>h.elim
    refine⟨es,c',h1,oC.ids h2 (aiJ nB.b n ⟨f.b,v',Z4,s'⟩ (λx hx e=>?_) (by rw[hn];rfl))⟩;have:getM n l=some x.2:=pC h.nodup gQ
    grind
  · rcases mU h.nodup hx with rfl|⟨hx,cj⟩
    · exact hr
    · have ha:=h.OD hn hx cj
      exact(h.row x hx).own.mv (mv λk hk=>by subst hk;exact⟨(h.row x hx).1,ha.1.symm,of.eP (h.row x hx) (by rfl)⟩)
  · rcases mU h.nodup hx with rfl|⟨hx,cj⟩
    · exact ho
    · have ha:=h.OD hn hx cj
      exact(h.ow x hx).tight.mv (mv λk hk=>⟨((h.ow x hx).br hk).1,λe=>(h.ow x hx).eP rf (by rfl) (e▸hk),λe=>ha.2 k e hk⟩)
  · refine UT h.nodup h.ap λy hy cj=>?_
    have ha:=h.OD hn hy cj;have key:apart (n,⟨f.b,v',Z4,s'⟩) y:=⟨ha.1,λg hg rQ=>by
      rcases dB with e|⟨g',e,dH⟩
      · exact ha.2 g (e▸hg) rQ
      · have:=(hX g ((h.ow y hy).br rQ).1).2
        grind⟩
    exact⟨key,JG _ _ key⟩
  · rcases mU h.nodup hx with rfl|⟨hx,cj⟩
    · exact hs
    · exact h.safe x hx
theorem oF.new (h:oF w F db mb l m z) (hX: ∀k,F k->X k/\k<w.heap.size) (c:eh G X w X' w') (hn:getM n l=none) (hG: ∀k,G k->k=mb) (Z3: ∀k,F k->F' k) {b:Nat} (hb:w.heap.size<=b)
  (hm:dK w' F' nX mb aP OV (cI n ⟨b,.slice none 0 0,[],0⟩ l)) (hr:aK w' F' b [.slice none 0 0,I (0:Nat)] 153):
  oF w' F' db mb (cI n ⟨b,.slice none 0 0,[],0⟩ l) (m.put n [] 0) z:=by
 have mv: ∀{A:XS},(∀k,A k->F k/\k≠mb)->Mv A w F' w':=λhA k hk _=>by
  obtain⟨a1,a2⟩:=hA k hk;exact⟨Z3 k a1,c.block k (hX k a1).1 λhg=>a2 (hG k hg)⟩
 refine⟨?_,?_,hm,λx hx=>?_,λx hx=>?_,?_,h.ar,λx hx=>?_⟩
 ·show cI n ([],0) m.fs=_
  rw[h.fs,PX nB.er];rfl
 ·exact h.box.own.mv (mv λk hk=>by subst hk;exact⟨h.box.1,(h.map.eP h.box).symm⟩)
 ·rcases mU h.nodup hx with rfl|⟨hx,cj⟩
  ·exact hr
  ·exact(h.row x hx).own.mv (mv λk hk=>by subst hk;exact⟨(h.row x hx).1,(h.map.eP (h.row x hx)).symm⟩)
 ·rcases mU h.nodup hx with rfl|⟨hx,cj⟩
  ·exact Ow.nil _ _ _ _
  ·exact(h.ow x hx).tight.mv (mv λk hk=>⟨((h.ow x hx).br hk).1,λe=>h.map.aiu (h.ow x hx) (e▸hk)⟩)
 ·refine UT h.nodup h.ap λy hy cj=>?_;have key:apart (n,⟨b,.slice none 0 0,[],0⟩) y:=⟨λe=>by
   have:=(hX _ (h.row y hy).1).2
   grind,λg hg=>by cases hg⟩
  grind [JG]
 ·rcases mU h.nodup hx with rfl|⟨hx,cj⟩
  ·grind
  ·exact h.safe x hx
theorem oF.less (h:oF w F db mb l m z) (hX: ∀k,F k->X k) (c:eh (· =mb) X w X' w') (hm:dK w' X' nX mb aP OV (jL n l)):oF w' F db mb (jL n l) (m.del n) z:=by
 have mv: ∀{A:XS},(∀k,A k->F k/\k≠mb)->Mv A w F w':=λhA k hk _=>⟨(hA k hk).1,c.block k (hX k (hA k hk).1) (hA k hk).2⟩;have rR: ∀x∈jL n l,x∈l:=λx hx=>(List.mem_filter.1 hx).1;refine⟨?_,?_,?_,λx hx=>?_,λx hx=>?_,h.ap.filter _,h.ar,λx hx=>h.safe x (rR x hx)⟩
 ·show jL n m.fs=_
  rw[h.fs,aiI nB.er]
 ·exact h.box.own.mv (mv λk hk=>by subst hk;exact⟨h.box.1,(h.map.eP h.box).symm⟩)
 ·obtain⟨es,c',h1,h2⟩:=hm;exact⟨es,c',⟨h.map.x.1,h1.2⟩,h2⟩
 ·exact(h.row x (rR x hx)).own.mv (mv λk hk=>by subst hk;exact⟨(h.row x (rR x hx)).1,(h.map.eP (h.row x (rR x hx))).symm⟩)
 ·exact(h.ow x (rR x hx)).tight.mv (mv λk hk=>⟨((h.ow x (rR x hx)).br hk).1,λe=>h.map.aiu (h.ow x (rR x hx)) (e▸hk)⟩)
end
def FX (F X:XS) (w:World):Prop:= ∀k,F k->X k/\k<w.heap.size
theorem FX.kp (h:FX F X w) (hk:Kp X w wa):FX F (bV wa) wa:=λk af=>⟨av (h k af).2 hk.size,av (h k af).2 hk.size⟩
theorem FX.mv (h:FX F X w) (hk:Kp X w wa):Mv F w F wa:=λk af _=>⟨af,hk.block k (h k af).1⟩
theorem FX.ft (h:FX F X w) (hk:Kp X w wa):Ft wa F wa (bV wa) F:=Ft.init λk af=>(h.kp hk k af).1
theorem _root_.Go.aG.Ft.fx {F0:XS} (h:Ft w0 F0 w X F) (hG: ∀k,G k->F k):FX G X w:=λk hk=>⟨h.br k (hG k hk),h.s.has k (h.br k (hG k hk))⟩
end Go.Proofs.YtgfijddlkhkopaaGreat