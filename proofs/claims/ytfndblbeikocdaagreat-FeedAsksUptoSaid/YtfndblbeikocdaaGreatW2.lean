/-
 Part 2 of the proof: what the last text leans on.
-/
import Derived.Laws.Rows
import Derived.Laws.Pointers
import Derived.Deep.MidRow
import Derived.Laws.StructEq
import Derived.Maps.AppendAt
import Derived.Laws.OwnMore
import Derived.Great.BuildSlice
import Derived.Maps.RangeRun
import Derived.Laws.FloatArith
import Derived.Test.YtfndblbeikocdaaGreatW1
open Go.Result renaming andThen_ok → bo
open Option.some renaming injEq → az
open Go.Sem renaming run_bind → bR, run_pure → cS, run → rI
open Nat renaming le_trans → af, lt_of_lt_of_le → aN, le_refl → bP, zero_add → ed, mod_eq_of_lt → xy
open Go.Value renaming int → aZ, cells → aa, ownBlock → dY, agg → ak
open Bool renaming and_eq_true → aY, false_eq_true → bc, not_eq_true' → dL
open Option renaming map_some → bL, bind_some → cU
open Go.Instr renaming checkKey → fK, loadAt → gX, fill → nE, sameBits → kr, buildSlice → kW, findNow → iu, findKey → pY, extract → aD, box → cL, sameNow → tZ, findAsking → rm, makeMap → iT, mapUpdate → dE, range → kX, entry → gV, index → xz, sureAddr → jd, keyThatStays → uH
open Prod.mk renaming injEq → dx
open PUnit renaming unit → ku
open List renaming toList_toArray → eJ, getElem?_eq_getElem → cd, length_cons → bT, map_cons → bC, mem_append_left → ck, mem_append_right → dz, getD → uO, drop_of_length_le → fc, drop_eq_getElem_cons → fM, mem_append → rW, nil_append → eB, mem_singleton → ej, flatMap_cons → vN, mem_cons_self → dt, mem_cons_of_mem → bK, getElem?_eq_none → ja, getElem?_take → jT, getElem?_cons_zero → iI, flatten_cons → dU, eq_nil_of_length_eq_zero → cT, length_append → ae, append_nil → fE, findIdx?_cons → ia, getElem?_map → dD, map_append → bp, nodup_append → vO
open Go.Op renaming intCmp → oX, bytesLess → cR, floatCmp → pw, equalIn → iz, stringOp → sC, unary → aU, eqFields → sD, intArith → xA
open Go.Builtin renaming len_ → fg, delete_ → iX, append_ → dQ, min_ → ib, min2 → B4
open BitVec renaming ofInt → cm
open Array renaming length_toList → dO, getElem?_setIfInBounds → ff, range → xB, replicate → jK, getElem?_append → sE, getElem?_replicate → qn
open Go.ByteArray renaming toList_eq → gR
open ForInStep renaming yield → oz
open Go.World renaming ownsRow_lit → vP
set_option linter.unusedVariables false
set_option linter.unusedSimpArgs false
namespace Go.bB
section
variable {P : Program}
theorem B5 {X:XS} {w w':World} : ∀k,X k→grow X w w' k:=fun _ h=>.inl h
theorem QM {m:Bool} {X:XS} {w:World} {n n':Value→World→XS→Prop} {p p':List PanicEntry→World→XS→Prop} {r:Result Next} (h:jy P m X w n p r)
  (hn: ∀v w' X',(∀k,X k→X' k)→n v w' X'→n' v w' X') (hp: ∀c w' X',(∀k,X k→X' k)→p c w' X'→p' c w' X'):jy P m X w n' p' r:=by
 cases r with
 |ok x w'=>
  cases x<;>simp only [jy] at h⊢
  case value v=>exact⟨h.1,hn _ _ _ B5 h.2⟩
  case skip=>exact⟨h.1,hn _ _ _ B5 h.2⟩
  case enter f args=>
   refine⟨h.1,h.2.mono fun e nj he=>?_⟩;cases e with
   |returned v=>exact⟨he.1,hn _ _ _ B5 he.2⟩
   |panicked c=>exact⟨he.1,hp _ _ _ B5 he.2⟩
   |outgrown=>exact he
 |halt x w'=>
  cases x<;>simp only [jy] at h⊢
  case panic v=>exact⟨h.1,hp _ _ _ B5 h.2⟩
theorem aea {env:Env} {d s:Nat} {v:Value} (h: ¬s=d):lR env d v s=env s:=gf _ _ h
theorem aco {env:Env} {d:Option Nat} {s:Nat} {v:Value} (h: ¬s∈d.toList):Hj env d v s=env s:=by
 cases d with
 |none=>rfl
 |some d=>exact gf _ _ (by simpa using h)
theorem NN: ∀(l:List TI) {iA L7:List PanicEntry→Env→World→XS→Prop} {next next':Env→World→XS→Prop} {env:Env} {w:World} {X:XS},
  gP P iA next l env w X→
  (∀e w' X',(∀k,X k→X' k)→(∀s,¬s∈l.flatMap TI.wr→e s=env s)→next e w' X'→next' e w' X')→
  (∀c e w' X',(∀k,X k→X' k)→(∀s,¬s∈l.flatMap TI.wr→e s=env s)→iA c e w' X'→L7 c e w' X')→gP P L7 next' l env w X
 |[],_,_,_,_,_,_,_,h,hn,_=>hn _ _ _ (fun _ h=>h) (fun _ _=>rfl) h
 |i::l,iA,L7,next,next',env,w,X,h,hn,hp=>by
  have step: ∀(Zc:Env) (w1:World) (X1:XS),(∀k,X k→X1 k)→(∀s,¬s∈i.wr→Zc s=env s)→gP P iA next l Zc w1 X1→gP P L7 next' l Zc w1 X1:=by
   intro Zc w1 X1 Bj he1 h1;refine NN l h1 (fun e w' X' hX he hq=>hn e w' X' (fun k hk=>hX k (Bj k hk)) (fun s hs=>?_) hq) (fun c e w' X' hX he hq=>hp c e w' X' (fun k hk=>hX k (Bj k hk)) (fun s hs=>?_) hq)
   ·simp only [vN,rW,not_or] at hs;rw [he s hs.2,he1 s hs.1]
   ·simp only [vN,rW,not_or] at hs;rw [he s hs.2,he1 s hs.1]
  have pst: ∀c w1 X1,(∀k,X k→X1 k)→iA c env w1 X1→L7 c env w1 X1:=fun c w1 X1 Bj hq=>hp c env w1 X1 Bj (fun _ _=>rfl) hq;have st1: ∀(d:Nat) (v:Value) (w1:World) (X1:XS),i.wr=[d]→(∀k,X k→X1 k)→gP P iA next l (lR env d v) w1 X1→gP P L7 next' l (lR env d v) w1 X1:=
   fun d v w1 X1 hw Bj h1=>step _ _ _ Bj (fun s hs=>aea (by rw [hw] at hs;simpa using hs)) h1
  have stO: ∀(d:Option Nat) (v:Value) (w1:World) (X1:XS),i.wr=d.toList→(∀k,X k→X1 k)→gP P iA next l (Hj env d v) w1 X1→gP P L7 next' l (Hj env d v) w1 X1:=
   fun d v w1 X1 hw Bj h1=>step _ _ _ Bj (fun s hs=>aco (by rw [hw] at hs;exact hs)) h1
  cases i with
  |Lo b=>exact fe.2 ⟨(fe.1 h).1,step _ _ _ (fun _ h=>h) (fun _ _=>rfl) (fe.1 h).2⟩
  |set d e=>exact st1 d _ _ _ rfl (fun _ h=>h) h
  |box b n e=>exact fe.2 ⟨(fe.1 h).1,st1 b _ _ _ rfl (fun _ h=>h) (fe.1 h).2⟩
  |put b off n e=>
   have h2:=fe.1 (fe.1 h).2;exact fe.2 ⟨(fe.1 h).1,fe.2 ⟨h2.1,st1 b _ _ _ rfl (fun _ h=>h) h2.2⟩⟩
  |C5 b e=>exact fe.2 ⟨(fe.1 h).1,st1 b _ _ _ rfl (fun _ h=>h) (fe.1 h).2⟩
  |R2 b off e=>exact fe.2 ⟨(fe.1 h).1,st1 b _ _ _ rfl (fun _ h=>h) (fe.1 h).2⟩
  |fill b n e=>
   have h2:=fe.1 (fe.1 h).2;exact fe.2 ⟨(fe.1 h).1,fe.2 ⟨h2.1,st1 b _ _ _ rfl (fun _ h=>h) h2.2⟩⟩
  |rd d op ty ss=>
   obtain⟨v,h1,h2⟩:=h;exact⟨v,h1,st1 d _ _ _ rfl (fun _ h=>h) h2⟩
  |zP d op ty ss m=>exact fun wa DH=>QM (h wa DH) (fun v w' X' hX hq=>stO d v w' X' rfl hX hq) (fun c w' X' hX hq=>pst c w' X' hX hq)
  |R3 g want d e=>exact st1 d _ _ _ rfl (fun _ h=>h) h
  |ZI g want d op ty ss=>
   obtain⟨v,h1,h2,h3⟩:=h;exact⟨v,h1,h2,st1 d _ _ _ rfl (fun _ h=>h) h3⟩
  |R4 g want d op ty ss m=>
   exact⟨fun hg wa DH=>QM (h.1 hg wa DH) (fun v w' X' hX hq=>stO d v w' X' rfl hX hq) (fun c w' X' hX hq=>pst c w' X' hX hq),fun hg=>stO d _ _ _ rfl (fun _ h=>h) (h.2 hg)⟩
theorem Uy {M:List Nat} {e env:Env} {s:Nat} (h:s∈M):merge M e env s=e s:=by simp [merge,Od.2 h]
theorem CQ {M:List Nat} {e env:Env} {s:Nat} (h: ¬s∈M):merge M e env s=env s:=by
 have:Kr M s=false:=by
  cases hx:Kr M s with
  |false=>rfl
  |true=>exact absurd (Od.1 hx) h
 simp [merge,this]
theorem nA: ∀(t:T) {K K':nF} {env:Env} {w:World} {X:XS},den P t K env w X→
  (∀ex e w' X',(∀k,X k→X' k)→(∀s,¬s∈t.wr→e s=env s)→K ex e w' X'→K' ex e w' X')→den P t K' env w X
 | .PC l,K,K',env,w,X,h,hk=>NN l h (fun e w' X' hX he hq=>hk _ e w' X' hX he hq) (fun c e w' X' hX he hq=>hk _ e w' X' hX he hq)
 | .seq a b,K,K',env,w,X,h,hk=>by
  refine nA a (K:=nF.Wn (fun e w X=>den P b K e w X) K) h fun ex e w' X' hX he hq=>?_;have BN: ∀s,¬s∈(T.seq a b).wr→e s=env s:=fun s hs=>he s (fun hc=>hs (ck _ hc));cases ex with
  |normal=>
   refine nA b (K:=K) hq fun ex2 e2 w2 X2 zX he2 hq2=>hk ex2 e2 w2 X2 (fun k hk=>zX k (hX k hk)) (fun s hs=>?_) hq2;rw [he2 s (fun hc=>hs (dz _ hc)),BN s hs]
  |exit i=>exact hk _ e w' X' hX BN hq
  |goto i=>exact hk _ e w' X' hX BN hq
  |ret=>exact hk _ e w' X' hX BN hq
  |panic c=>exact hk _ e w' X' hX BN hq
  |outgrown=>exact hk _ e w' X' hX BN hq
 | .ite c a b,K,K',env,w,X,h,hk=>by
  simp only [den,au] at h⊢;split at h
  ·refine⟨fun ht=>nA a (h.1 ht) fun ex e w' X' hX he hq=>hk ex e w' X' hX (fun s hs=>he s (fun hc=>hs (ck _ hc))) hq,
    fun ht=>nA b (h.2 ht) fun ex e w' X' hX he hq=>hk ex e w' X' hX (fun s hs=>he s (fun hc=>hs (dz _ hc))) hq⟩
  ·exact h
 | .alt a b,K,K',env,w,X,h,hk=>by
  exact⟨nA a h.1 fun ex e w' X' hX he hq=>hk ex e w' X' hX (fun s hs=>he s (fun hc=>hs (ck _ hc))) hq,
   nA b h.2 fun ex e w' X' hX he hq=>hk ex e w' X' hX (fun s hs=>he s (fun hc=>hs (dz _ hc))) hq⟩
 | .dP id a,K,K',env,w,X,h,hk=>by
  refine nA a (K:=nF.dP id K) h fun ex e w' X' hX he hq=>?_;cases ex with
  |exit i=>
   simp only [nF.dP] at hq⊢;split
   ·rename_i hi;rw [if_pos hi] at hq;exact hk _ e w' X' hX he hq
   ·rename_i hi;rw [if_neg hi] at hq;exact hk _ e w' X' hX he hq
  |normal=>exact hk _ e w' X' hX he hq
  |goto i=>exact hk _ e w' X' hX he hq
  |ret=>exact hk _ e w' X' hX he hq
  |panic c=>exact hk _ e w' X' hX he hq
  |outgrown=>exact hk _ e w' X' hX he hq
 | .loop M C a,K,K',env,w,X,h,hk=>by
  obtain⟨J,h0,hJ⟩:=h;refine⟨J,h0,fun n e w' X' hX hj=>?_⟩;refine nA a (K:=nF.Wn (fun e' nj r6=> ∃m,m<n∧J m (C.map e') nj r6) K) (hJ n e w' X' hX hj) fun ex e2 w2 X2 zX he2 hq=>?_;have lH: ∀k,X k→X2 k:=fun k hk=>zX k (hX k hk);have BN: ∀s,¬s∈(T.loop M C a).wr→e2 s=env s:=fun s hs=>by
   simp only [T.wr,rW,not_or] at hs;rw [he2 s hs.2];exact CQ hs.1
  cases ex with
  |normal=>exact hq
  |exit i=>exact hk _ e2 w2 X2 lH BN hq
  |goto i=>exact hk _ e2 w2 X2 lH BN hq
  |ret=>exact hk _ e2 w2 X2 lH BN hq
  |panic c=>exact hk _ e2 w2 X2 lH BN hq
  |outgrown=>exact hk _ e2 w2 X2 lH BN hq
 | .exit id,K,K',env,w,X,h,hk=>hk _ _ _ _ (fun _ h=>h) (fun _ _=>rfl) h
 | .ret,K,K',env,w,X,h,hk=>hk _ _ _ _ (fun _ h=>h) (fun _ _=>rfl) h
 | .skip,K,K',env,w,X,h,hk=>hk _ _ _ _ (fun _ h=>h) (fun _ _=>rfl) h
theorem acp {Q:Exit→Act→World→Prop} {a:Act} {w:World} {c:Code} (I:Nat→Act→World→Prop) (h₀: ∃n,I n a w)
  (round: ∀n a w,I n a w→c.wp P (Exit.then (fun a' w'=> ∃m,m<n∧I m a' w') Q) a w):(Code.loop c).wp P Q a w:=by
 intro b k cs;have key: ∀n a w,I n a w→ ∃e a' w',Q e a' w'∧Arrives P (lone (b.at a (.code c:: .inLoop c::k)) cs w) b k cs e a' w':=by
  intro n
  induction n using Nat.strongRecOn with
  |_ n ih=>
   intro a w hI;obtain⟨e,a₁,w₁,hq,Ix⟩:=round n a w hI b (.inLoop c::k) cs;cases e with
   |normal=>
    obtain⟨m,cI,hI₁⟩:=hq;obtain⟨e₂,a₂,w₂,hq₂,harr₂⟩:=ih m cI a₁ w₁ hI₁;exact⟨e₂,a₂,w₂,hq₂,.of_steps (Steps.trans Ix (.one step_inLoop)) harr₂⟩
   |exit id=>exact⟨_,a₁,w₁,hq,.pass (x:=.inLoop c) rfl (fun _ _=>.inl (by simp)) Ix⟩
   |goto l=>exact⟨_,a₁,w₁,hq,.pass (x:=.inLoop c) rfl (fun _ _=>.inl (by simp)) Ix⟩
   |ret=>exact⟨_,a₁,w₁,hq,.pass (x:=.inLoop c) rfl (fun _ _=>.inl (by simp)) Ix⟩
   |panic ch=>exact⟨_,a₁,w₁,hq,.pass (x:=.inLoop c) rfl (fun _ _=>.inl (by simp)) Ix⟩
   |outgrown=>exact⟨_,a₁,w₁,hq,.pass (x:=.inLoop c) rfl (fun _ _=>.inl (by simp)) Ix⟩
 obtain⟨n,h₀⟩:=h₀;obtain⟨e,a',w',hq,Ix⟩:=key n a w h₀;exact⟨e,a',w',hq,.of_steps (.one step_loop) Ix⟩
end
def QP (pl:bu) (ds:Bk) (K:nF):Exit→Act→World→Prop
 | .panic ch,a,w=>a.defers=ds.ds∧ ∃env X w0,Kp X w0 w∧K (.panic ch) env w0 X∧uL pl ds env X a w
 | .outgrown,_,_=>False
 |e,a,w=> ∃env X w0,e7 pl ds .start env X w0 a w∧K e env w0 X
section
variable {P : Program} {pl : bu} {ds : Bk}
theorem e7.drop {cs:CS} {env:Env} {X:XS} {w0 w:World} {a:Act} (h:e7 pl ds cs env X w0 a w):e7 pl ds .start env X w0 a w:=
 { h with sig:=fun _ hp=>(by cases hp),live:=fun _ hp=>(by cases hp),ptr:=fun _ hp=>(by cases hp) }
theorem NO: ∀(l acc:List Nat) (s:Nat),(s∈l∨s∈acc)→s∈qa l acc
 |[],acc,s,h=>h.elim (fun h=>by cases h) id
 |x::r,acc,s,h=>by
  simp only [qa];refine NO r _ s ?_;rcases h with h|h
  ·rcases List.mem_cons.1 h with rfl|h
   ·right;split
    ·rename_i hc;simpa using hc
    ·exact dt ..
   ·exact .inl h
  ·right;split
   ·exact h
   ·exact bK _ h
theorem QP.mono {K K':nF} (h: ∀ex e w X,K ex e w X→K' ex e w X) (ex:Exit) (a:Act) (w:World) (hq:QP pl ds K ex a w):QP pl ds K' ex a w:=by
 cases ex<;>simp only [QP] at hq⊢
 case panic ch=>obtain⟨h1,env,X,w0,h2,h3,h4⟩:=hq;exact⟨h1,env,X,w0,h2,h _ _ _ _ h3,h4⟩
 all_goals (obtain⟨env,X,w0,h2,h3⟩:=hq;exact⟨env,X,w0,h2,h _ _ _ _ h3⟩)
theorem aeb: ∀(c:Code) (t:T) (K:nF) (env:Env) (X:XS) (w0:World) (a:Act) (w:World),
  lB P pl c=some t→(∀b,b∈t.mk→ ∀p,p∈ds.pins→p.1≠b)→e7 pl ds .start env X w0 a w→den P t K env w0 X→c.wp P (QP pl ds K) a w:=by
 intro c
 induction c with
 |skip=>
  intro t K env X w0 a w hc hm h hd;simp only [lB,az] at hc;subst hc;exact wp_skip ⟨env,X,w0,h,hd⟩
 |region id ops draw=>
  intro t K env X w0 a w hc hm h hd;have hN: ∀sc a' w' dA X' eX,e7 pl ds sc dA X' eX a' w'→(fun e w X=>K .normal e w X) dA eX X'→QP pl ds K .normal a' w':=
   fun sc a' w' dA X' eX h1 h2=>⟨dA,X',eX,h1.drop,h2⟩
  have hQ: ∀ch a' w' dA X' eX,a'.defers=ds.ds→Kp X' eX w'→uL pl ds dA X' a' w'→(fun ch=>K (.panic ch)) ch dA eX X'→QP pl ds K (.panic ch) a' w':=
   fun ch a' w' dA X' eX h0 h1 EM h2=>⟨h0,dA,X',eX,h1,h2,EM⟩
  simp only [lB] at hc;split at hc
  ·rename_i j7;subst j7;split at hc
   ·rename_i Bl;simp only [aY] at Bl;refine wp_region_any Bl.1 (Mw (pl:=pl) _ _ _ _ ?_);have FZ: ∀c a (d:Option Nat) v w,(∀x,d=some x→ ∀p,p∈ds.pins→p.1≠x)→QP pl ds K (.panic c) (a.put d v) w→QP pl ds K (.panic c) a w:=fun c a d v w hd hq=>by
     obtain⟨h1,e,X',eX,h2,h3,h4⟩:=hq;exact⟨by cases d<;>exact h1,e,X',eX,h2,h3,h4.put hd⟩
    split at hc
    ·rename_i tl hl;simp only [az] at hc;subst hc;exact DK hN hQ FZ Bl.2 _ _ _ tl env X w0 _ _ hl hm (h.oT (Ext.drew w)) hd
    ·exact Lq hN hQ FZ Bl.2 _ _ _ t env X w0 _ _ hc hm (h.oT (Ext.drew w)) hd
   ·cases hc
  ·rename_i j7;simp only [Bool.not_eq_true] at j7;subst j7;cases hl:Lp P pl ops ops.toList .start with
   |none=>simp [hl] at hc
   |some tl=>
    simp only [hl,bL,az] at hc;subst hc;exact wp_region_list (ZW hN hQ ops.toList .start tl env X w0 a w hl hm h hd)
 |seq x y ihx ihy=>
  intro t K env X w0 a w hc hm h hd;simp only [lB] at hc;cases hx:lB P pl x with
  |none=>simp [hx] at hc
  |some tx=>
   cases hy:lB P pl y with
   |none=>simp [hx,hy] at hc
   |some ty=>
    simp only [hx,hy,az] at hc;have hd':den P (.seq tx ty) K env w0 X:=by
     subst hc;split at hd
     ·exact hd
     ·show den P tx (nF.Wn (fun e w X=>den P .skip K e w X) K) env w0 X
      refine nA tx hd fun ex e w' X' _ _ hq=>?_;cases ex<;>exact hq
     ·exact hd
    have hmm: ∀b,b∈tx.mk∨b∈ty.mk→ ∀p,p∈ds.pins→p.1≠b:=fun b hb=>hm b (by
     rw [←hc];split
     ·exact hb.resolve_left (fun h=>by cases h)
     ·exact hb.resolve_right (fun h=>by cases h)
     ·exact List.mem_append.2 hb)
    refine wp_seq (wp_mono (ihx tx _ env X w0 a w hx (fun b hb=>hmm b (.inl hb)) h hd') fun ex a' w' hq=>?_);cases ex with
    |normal=>
     obtain⟨e,X',eX,h1,h2⟩:=hq;exact ihy ty K e X' eX a' w' hy (fun b hb=>hmm b (.inr hb)) h1 h2
    |exit i=>exact hq
    |goto i=>exact hq
    |ret=>exact hq
    |panic c=>exact hq
    |outgrown=>exact hq
 |cond c x y ihx ihy=>
  intro t K env X w0 a w hc hm h hd;simp only [lB] at hc;cases hv:valOf pl .start c with
  |none=>simp [hv] at hc
  |some e=>
   cases hx:lB P pl x with
   |none=>simp [hv,hx] at hc
   |some tx=>
    cases hy:lB P pl y with
    |none=>simp [hv,hx,hy] at hc
    |some ty=>
     simp only [hv,hx,hy,az] at hc;subst hc;have he:=h.eval hv;simp only [den,au] at hd;split at hd
     ·rename_i b hb;rw [hb] at he;exact wp_cond_split he (fun ht=>ihx tx K env X w0 a w hx (fun b hb=>hm b (ck _ hb)) h (hd.1 ht)) (fun ht=>ihy ty K env X w0 a w hy (fun b hb=>hm b (dz _ hb)) h (hd.2 ht))
     ·exact hd.elim
 |block id x ih=>
  intro t K env X w0 a w hc hm h hd;simp only [lB] at hc;cases hx:lB P pl x with
  |none=>simp [hx] at hc
  |some tx=>
   simp only [hx,bL,az] at hc;subst hc;refine wp_block (wp_mono (ih tx _ env X w0 a w hx hm h hd) fun ex a' w' hq=>?_);cases ex with
   |exit i=>
    obtain⟨e,X',eX,h1,h2⟩:=hq;simp only [Exit.inBlock,nF.dP] at h2⊢;split
    ·rename_i hi;rw [if_pos hi] at h2;exact⟨e,X',eX,h1,h2⟩
    ·rename_i hi;rw [if_neg hi] at h2;exact⟨e,X',eX,h1,h2⟩
   |normal=>exact hq
   |goto i=>exact hq
   |ret=>exact hq
   |panic c=>exact hq
   |outgrown=>exact hq
 |loop x ih=>
  intro t K env X w0 a w hc hm h hd;simp only [lB] at hc;cases hx:lB P pl x with
  |none=>simp [hx] at hc
  |some tx=>
   simp only [hx,bL,az] at hc;subst hc;obtain⟨J,⟨n0,h0⟩,hJ⟩:=hd;refine acp (fun n a w=> ∃e X' eX,e7 pl ds .start (merge (qa tx.wr []) e env) X' eX a w∧(∀k,X k→X' k)∧J n (((qa tx.wr []).filter (Kr pl.car)).map e) eX X') ⟨n0,env,X,w0,?_,fun _ h=>h,h0⟩ ?_
   ·have:merge (qa tx.wr []) env env=env:=by
     funext s
     by_cases hs:s∈qa tx.wr []
     ·exact Uy hs
     ·exact CQ hs
    rw [this];exact h
   ·rintro n a w ⟨e,X',eX,h1,h2,h3⟩;have Ua:=hJ n e eX X' h2 h3;have rq:=nA tx (K':=fun ex e' nj r6=>nF.Wn (fun e' nj r6=> ∃m,m<n∧J m (((qa tx.wr []).filter (Kr pl.car)).map e') nj r6) K ex e' nj r6∧(∀k,X' k→r6 k)∧ ∀s,¬s∈tx.wr→e' s=merge (qa tx.wr []) e env s) Ua
     fun ex e' w' r6 hX he hq=>⟨hq,hX,he⟩
    refine wp_mono (ih tx _ _ X' eX a w hx hm h1 rq) fun ex a' w' hq=>?_;cases ex with
    |normal=>
     obtain⟨e',r6,Bd,g1,⟨m,hm,g2⟩,g3,g4⟩:=hq;refine⟨m,hm,e',r6,Bd,?_,fun k hk=>g3 k (h2 k hk),g2⟩;have:merge (qa tx.wr []) e' env=e':=by
      funext s
      by_cases hs:s∈qa tx.wr []
      ·exact Uy hs
      ·rw [CQ hs,g4 s fun hc=>hs (NO _ _ _ (.inl hc)),CQ hs]
     rw [this];exact g1
    |exit i=>obtain⟨e',r6,Bd,g1,g2,_⟩:=hq;exact⟨e',r6,Bd,g1,g2⟩
    |goto i=>obtain⟨e',r6,Bd,g1,g2,_⟩:=hq;exact⟨e',r6,Bd,g1,g2⟩
    |ret=>obtain⟨e',r6,Bd,g1,g2,_⟩:=hq;exact⟨e',r6,Bd,g1,g2⟩
    |panic c=>obtain⟨g0,e',r6,Bd,g1,⟨g2,_⟩,g3⟩:=hq;exact⟨g0,e',r6,Bd,g1,g2,g3⟩
    |outgrown=>exact hq
 |exit id=>
  intro t K env X w0 a w hc hm h hd;simp only [lB,az] at hc;subst hc;exact wp_exit ⟨env,X,w0,h,hd⟩
 |ret=>
  intro t K env X w0 a w hc hm h hd;simp only [lB,az] at hc;subst hc;exact wp_ret ⟨env,X,w0,h,hd⟩
 |rangeFunc=>intro t K env X w0 a w hc;cases hc
 |scope=>intro t K env X w0 a w hc;cases hc
 |label=>intro t K env X w0 a w hc;cases hc
 |goto=>intro t K env X w0 a w hc;cases hc
 |refuse=>intro t K env X w0 a w hc;cases hc
def Zd (tmps:Array Value):ResultVar→Sem Value
 | .tmp t=>pure (tmps.getD t undef)
 | .cell c t=>do loadVar t (←asAddr (tmps.getD c undef))
theorem Uz {env:Env} {X:XS} {w0 w:World} {a:Act} {cs:CS} (h:e7 pl ds cs env X w0 a w): ∀(l:List ResultVar) (es:List Ex) (nd:List Nat),
  C7 P pl l=some (es,nd)→(∀b,b∈nd→cu (env b)=true)→
  (l.mapM (Zd a.tmps)).run P w=Result.ok (es.map (·.ev env)) w
 |[],es,nd,hc,_=>by
  simp only [C7,az,dx] at hc;rw [←hc.1];rfl
 | .tmp t::r,es,nd,hc,hl=>by
  simp only [C7] at hc;split at hc
  ·rename_i hg;cases hr:C7 P pl r with
   |none=>simp [hr] at hc
   |some x=>
    obtain⟨Xr,nd'⟩:=x;simp only [hr,bL,az,dx] at hc;obtain⟨rfl,rfl⟩:=hc;have ih:=Uz h r Xr nd' hr hl;simp [List.mapM_cons,Zd,ih,h.sL t hg,Ex.ev]
  ·cases hc
 | .cell c t::r,es,nd,hc,hl=>by
  simp only [C7] at hc;split at hc
  ·rename_i bs ag sz hb ht;split at hc
   ·rename_i wc;simp only [aY,decide_eq_true_eq] at wc;cases hr:C7 P pl r with
    |none=>simp [hr] at hc
    |some x=>
     obtain⟨Xr,nd'⟩:=x;simp only [hr,bL,az,dx] at hc;obtain⟨rfl,rfl⟩:=hc;have ih:=Uz h r Xr nd' hr fun b hb=>hl b (bK _ hb);obtain⟨cells,o9⟩:=te.1 (hl c (dt ..));obtain⟨k,ty,e1,e2,e3,_⟩:=h.box c bs hb cells o9;have hld:=Mz ht wc.2 e2 0 zQ;have aiR:(loadVar t ⟨k,0,none⟩).run P w= .ok (if ag then cj (.agg cells) 0 sz else cellOf (.agg cells) 0) w:=by
      simpa [gX,jd,gu] using hld
     have ZU:(if ag then Ex.s c 0 sz else Ex.k c 0).ev env=if ag then cj (.agg cells) 0 sz else cellOf (.agg cells) 0:=by
      cases ag<;>simp [Ex.ev,o9]
     simp [List.mapM_cons,Zd,ih,e1,gu,asAddr,aiR,ZU]
   ·cases hc
  ·cases hc
theorem Xs {env:Env} {X:XS} {w0 w:World} {a:Act} {cs:CS} (h:e7 pl ds cs env X w0 a w) {fn:Func} {es:List Ex} {nd:List Nat}
  (hc:C7 P pl fn.results.toList=some (es,nd)) (hl: ∀b,b∈nd→cu (env b)=true):(results fn a.tmps).run P w= .ok (aa7 es env) w:=by
 have hr:=Uz h _ _ _ hc hl;have hf:results fn a.tmps=(do let vs←fn.results.mapM (Zd a.tmps);pure (if h:vs.size=1 then vs[0] else .tuple vs)):=by
  unfold results
  congr 2
 rw [hf,Array.mapM_eq_mapM_toList];simp only [bR,Sem.run_map,hr,bo,cS]
 congr 1
 match es with
 |[]=>rfl
 |[e]=>rfl
 |e::e'::r=>simp [aa7]
def acq (P:Program) (o:Option FT) (R:Ending→World→Prop) (args:Array Value) (w:World):Prop:=match o with
 |some ft=>den P ft.code (aa8 ft R) (Cp args) w (aR w)
 |none=>False
theorem UA {f:FuncId} {fn:Func} {pl:bu} {ft:FT} {args:Array Value} {w:World} {R:Ending→World→Prop} (hf:P.funcs[f]? =some fn)
  (hc:cF P pl fn=some ft) (agZ:args.size≤pl.n) (kN:(pl.boxes.all fun p=>decide (args.size≤p.1))=true)
  (h:den P ft.code (aa8 ft R) (Cp args) w (aR w)):Calls P f args w R:=by
 unfold cF at hc;split at hc
 ·rename_i hn;have kd:fn.ntmps=pl.n:=by simpa using hn
  split at hc
  ·rename_i c hb;split at hc
   ·rename_i t r nd ag3 afX;injection hc with hc
    subst hc;refine calls_of_wp hf hb (wp_mono (aeb (pl:=pl) (ds:=⟨[],[]⟩) c t (aa8 ⟨t,r,nd⟩ R) (Cp args) (aR w) w _ w ag3 (fun _ _ _ hp=>by cases hp) ?_ h) fun ex a' w' hq=>?_)
    ·have ag4:(args++jK (fn.ntmps-args.size) undef).size=pl.n:=by simp;omega
     have Yd: ∀s,s<pl.n→(args++jK (fn.ntmps-args.size) undef)[s]? =some (Cp args s):=by
      intro s hs;rw [sE];split
      ·rename_i h1;simp [Cp,uO,h1]
      ·rename_i h1;rw [qn,if_pos zQ];simp only [Cp,uO];rw [ja (by simpa using h1)];rfl
     have aaS: ∀b n,look pl.boxes b=some n→Cp args b=undef:=by
      intro b n hb;have h1:=List.all_eq_true.1 kN _ (EJ hb);simp only [decide_eq_true_eq] at h1;simp only [Cp,uO];rw [ja (by simpa using h1)];rfl
     exact {
      size:=ag4
      defers:=rfl
      zS:=fun _ hp=>(by cases hp)
      ext:=Kp.refl _ _
      xO:=fun _ hk=>hk
      sL:=fun s hs=>Yd s (uc hs).1
      sig:=fun _ hp=>(by cases hp)
      box:=fun b n hb cells hc=>by rw [aaS b n hb] at hc;cases hc
      inj:=fun b b' n n' hb fP h1=>by rw [aaS b n hb] at h1;cases h1
      conv:=fun b n hb k hk=>by
       have h1:=List.all_eq_true.1 kN _ (EJ hb);simp only [decide_eq_true_eq] at h1;rw [sE,if_neg zQ,qn] at hk;split at hk
       ·cases hk
       ·cases hk
      live:=fun _ hp=>(by cases hp)
      ptr:=fun _ hp=>(by cases hp) }
    ·cases ex with
     |normal=>
      obtain⟨e,X',eX,h1,hq⟩:=hq;obtain⟨h2,h3⟩:=fe.1 hq;exact⟨h1.defers,_,Xs h1 afX (List.all_eq_true.1 h2),h3 w' h1.ext⟩
     |ret=>
      obtain⟨e,X',eX,h1,hq⟩:=hq;obtain⟨h2,h3⟩:=fe.1 hq;exact⟨h1.defers,_,Xs h1 afX (List.all_eq_true.1 h2),h3 w' h1.ext⟩
     |panic ch=>
      obtain⟨h0,e,X',eX,h1,h2,_⟩:=hq;exact⟨h0,h2 w' h1⟩
     |exit i=>obtain⟨e,X',eX,h1,h2⟩:=hq;exact h2
     |goto i=>obtain⟨e,X',eX,h1,h2⟩:=hq;exact h2
     |outgrown=>exact hq.elim
   ·cases hc
  ·cases hc
 ·cases hc
theorem aK {f:FuncId} {fn:Func} {pl:bu} {args:Array Value} {w:World} {R:Ending→World→Prop} {V:Prop} (hf:P.funcs[f]? =some fn)
  (hs:(decide (args.size≤pl.n)&&pl.boxes.all fun p=>decide (args.size≤p.1))=true) (hv:V=acq P (cF P pl fn) R args w) (h:V):Calls P f args w R:=by
 subst hv;unfold acq at h;simp only [aY,decide_eq_true_eq] at hs;split at h
 ·rename_i ft hc;exact UA hf hc hs.1 hs.2 h
 ·exact h.elim
end
def ax (P:Program) (X:XS) (w:World) (s:Sem Next) (N:Value→Prop):Prop:= ∃v,Rd P X w s v∧N v
def ab (P:Program) (X:XS) (w:World) (s:Sem Value) (N:Value→Prop):Prop:=ax P X w (vS s) N
def ay (P:Program) (X:XS) (w:World) (g:Value) (want:Bool) (s:Sem Next) (N:Value→Prop):Prop:=
 ∃v,(kI g want=true→Rd P X w s v)∧(kI g want=false→v=undef)∧N v
def aB (g:Value) (want:Bool) (v:Value):Value:=if kI g want then v else undef
def aM (c a b:Value):Sem Next:=do pure (.value (if←asBool c then a else b))
def aP (x:Value):Sem Next:=execOp (fun _=>x) (Oc (.nilCheck (.tmp 0)) 0)
def aF (op:BinOp) (t:TypeId) (xo yo:Operand) (x y:Value):Sem Value:=do eqGuard op t xo yo x y;binOp op t x y
def uS (s:Sem Unit):Sem Next:=do s;pure .skip
def pn (R:Ending→World→Prop):List PanicEntry→World→XS→Prop:=fun ch w X=> ∀wa,Kp X w wa→R (.panicked ch) wa
def eW (P:Program) (R:Ending→World→Prop) (X:XS) (w:World) (m:Bool) (s:Sem Next) (N:Value→World→XS→Prop):Prop:=
 ∀wa,Kp X w wa→jy P m X wa N (pn R) (s.run P wa)
def eV (P:Program) (R:Ending→World→Prop) (X:XS) (w:World) (m:Bool) (s:Sem Value) (N:Value→World→XS→Prop):Prop:=eW P R X w m (vS s) N
def eU (P:Program) (R:Ending→World→Prop) (X:XS) (w:World) (m:Bool) (s:Sem Unit) (N:Value→World→XS→Prop):Prop:=eW P R X w m (uS s) N
def eC (P:Program) (R:Ending→World→Prop) (X:XS) (w:World) (m:Bool) (f:FuncId) (args:Array Value) (N:Value→World→XS→Prop):Prop:=eW P R X w m (callFunc f args) N
def eF (P:Program) (R:Ending→World→Prop) (X:XS) (w:World) (m:Bool) (f:Value) (args:Array Value) (N:Value→World→XS→Prop):Prop:=eW P R X w m (EG f args) N
def gE (g:Value) (want:Bool) (A B:Prop):Prop:=(kI g want=true→A)∧(kI g want=false→B)
def fin (R:Ending→World→Prop) (X:XS) (w:World) (v:Value):Prop:= ∀wa,Kp X w wa→R (.returned v) wa
abbrev JT:=Nat→List Value→World→XS→Prop
def QN (J:JT) (n:Nat) (vs:List Value) (w:World) (X:XS):Prop:= ∃m,m<n∧J m vs w X
def QO (X:XS) (w:World) (vs:List Value) (C:List Nat) (B:JT→Nat→Env→World→XS→Prop):Prop:=
 ∃J:JT,(∃n,J n vs w X)∧ ∀n (e:Env) w' X',(∀k,X k→X' k)→J n (C.map e) w' X'→B J n e w' X'
variable {P : Program} {R : Ending → World → Prop} {X : XS} {w : World} {m : Bool}
theorem Bz {s:Sem Value} {N:Value→Prop} (v:Value) (h: ∀wa,Kp X w wa→s.run P wa= .ok v wa) (k:N v):ab P X w s N:=
 ⟨v,fun wa hk=>by simp [vS,h wa hk],k⟩
theorem cB {s:Sem Value} {N:Value→Prop} {v:Value} (h: ∀wa,s.run P wa= .ok v wa) (k:N v):ab P X w s N:=
 Bz v (fun wa _=>h wa) k
theorem UB {s:Sem Next} {N:Value→Prop} {v:Value} (h: ∀wa,s.run P wa= .ok (.value v) wa) (k:N v):ax P X w s N:=
 ⟨v,fun wa _=>h wa,k⟩
theorem A5 {α:Type} [BEq α] [LawfulBEq α] [DecidableEq α] (a b:α):(a==b)=decide (a=b):=by
 by_cases h:a=b<;>simp [h]
section
variable {N : Value → Prop} {t : TypeId} {k : IntKind} {a b : Int} {xo yo : Operand}
theorem Xi (h:N (.bool (decide (a<b)))):ab P X w (binOp .lss t (.int k a) (.int k b)) N:=cB (fun wa=>by simp [binOp,oX]) h
theorem aec (h:N (.bool (decide (a≤b)))):ab P X w (binOp .leq t (.int k a) (.int k b)) N:=cB (fun wa=>by simp [binOp,oX]) h
theorem aed (h:N (.bool (decide (a>b)))):ab P X w (binOp .gtr t (.int k a) (.int k b)) N:=cB (fun wa=>by simp [binOp,oX]) h
theorem aee (h:N (.bool (decide (a≥b)))):ab P X w (binOp .geq t (.int k a) (.int k b)) N:=cB (fun wa=>by simp [binOp,oX]) h
theorem mI (h:N (.int k (k.wrap (a+b)))):ab P X w (binOp .add t (.int k a) (.int k b)) N:=cB (fun wa=>by simp [binOp,xA]) h
theorem aef (h:N (.int k (k.wrap (a-b)))):ab P X w (binOp .sub t (.int k a) (.int k b)) N:=cB (fun wa=>by simp [binOp,xA]) h
theorem aeg (h:N (.int k (k.wrap (a*b)))):ab P X w (binOp .mul t (.int k a) (.int k b)) N:=cB (fun wa=>by simp [binOp,xA]) h
theorem OX (h:N (.bool (decide (a=b)))):ab P X w (aF .eql t xo yo (.int k a) (.int k b)) N:=
 cB (fun wa=>by simp [aF,eqGuard,binOp,oX,A5]) h
theorem aeh (h:N (.bool (decide (a≠b)))):ab P X w (aF .neq t xo yo (.int k a) (.int k b)) N:=
 cB (fun wa=>by simp [aF,eqGuard,binOp,oX,bne,A5]) h
end
section
variable {N : Value → Prop} {t : TypeId} {a b : ByteArray} {xo yo : Operand}
theorem acr (h:N (.bool (decide (a.toList=b.toList)))):ab P X w (aF .eql t xo yo (.string a) (.string b)) N:=
 cB (fun wa=>by simp [aF,eqGuard,binOp,sC,A5]) h
theorem acs (h:N (.bool (decide (a.toList≠b.toList)))):ab P X w (aF .neq t xo yo (.string a) (.string b)) N:=
 cB (fun wa=>by simp [aF,eqGuard,binOp,sC,A5]) h
theorem acu (h:N (.bool (!cR a.toList b.toList))):ab P X w (binOp .geq t (.string a) (.string b)) N:=
 cB (fun wa=>by simp [binOp,sC]) h
theorem acv (h:N (.bool (cR a.toList b.toList||decide (a.toList=b.toList)))):ab P X w (binOp .leq t (.string a) (.string b)) N:=
 cB (fun wa=>by simp [binOp,sC,A5]) h
end
section
variable {N : Value → Prop} {t : TypeId} {k : FloatKind} {a b : Nat} {xo yo : Operand}
theorem acw (h:N (.bool (k.format.order a b==some .lt))):ab P X w (binOp .lss t (.float k a) (.float k b)) N:=cB (fun wa=>by simp [binOp,pw]) h
theorem acx (h:N (.bool (k.format.order a b==some .lt||k.format.order a b==some .eq))):ab P X w (binOp .leq t (.float k a) (.float k b)) N:=
 cB (fun wa=>by simp [binOp,pw]) h
theorem acy (h:N (.bool (k.format.order a b==some .gt))):ab P X w (binOp .gtr t (.float k a) (.float k b)) N:=cB (fun wa=>by simp [binOp,pw]) h
theorem acz (h:N (.bool (k.format.order a b==some .gt||k.format.order a b==some .eq))):ab P X w (binOp .geq t (.float k a) (.float k b)) N:=
 cB (fun wa=>by simp [binOp,pw]) h
theorem acA (h:N (.bool (k.format.order a b !=some .eq))):ab P X w (aF .neq t xo yo (.float k a) (.float k b)) N:=
 cB (fun wa=>by simp [aF,eqGuard,binOp,pw]) h
end
section
variable {N : Value → Prop} {t : TypeId} {k k2 : IntKind} {a b : Int}
theorem AZ (hb: ¬b<0) (h:N (.int k (a.fdiv (2^min b.toNat k.bits)))):ab P X w (binOp .shr t (.int k a) (.int k2 b)) N:=
 cB (fun wa=>by simp [binOp,Op.shift,hb]) h
theorem adt (hb: ¬b<0) (h:N (.int k (k.wrap (a*2^min b.toNat k.bits)))):ab P X w (binOp .shl t (.int k a) (.int k2 b)) N:=
 cB (fun wa=>by simp [binOp,Op.shift,hb]) h
theorem OE (h:N (.int k (k.wrap (cm k.bits a^^^cm k.bits b).toNat))):ab P X w (binOp .xor t (.int k a) (.int k b)) N:=
 cB (fun wa=>by simp [binOp,Op.intBits]) h
theorem WO (h:N (.int k (k.wrap (cm k.bits a&&& cm k.bits b).toNat))):ab P X w (binOp .and t (.int k a) (.int k b)) N:=
 cB (fun wa=>by simp [binOp,Op.intBits]) h
end
section
variable {N : Value → Prop} {b c : Bool} {g : Value}
theorem Xt (h:N (.bool (!b))):ab P X w (aU .not (.bool b)) N:=cB (fun wa=>by simp [aU]) h
theorem UC {x y:Value} (h:N (if b then x else y)):ax P X w (aM (.bool b) x y) N:=UB (fun wa=>by simp [aM,asBool]) h
theorem s7 {x y:Value} (h:N x):ax P X w (aM (.bool true) x y) N:=UC h
theorem qI {x y:Value} (h:N y):ax P X w (aM (.bool false) x y) N:=UC h
theorem Jt {s:Sem Next} {want:Bool} (h:ax P X w s N):ay P X w (.bool want) want s N:=by
 obtain⟨v,hv,hn⟩:=h;exact⟨v,fun _=>hv,fun hf=>absurd hf (by simp [kI]),hn⟩
theorem UD {s:Sem Next} {want:Bool} (h:N undef):ay P X w (.bool (!want)) want s N:=
 ⟨undef,fun hf=>absurd hf (by cases want<;>simp [kI]),fun _=>rfl,h⟩
theorem acB {s:Sem Next} (h:ax P X w s N):ay P X w (.bool true) true s N:=Jt h
theorem acC {s:Sem Next} (h:ax P X w s N):ay P X w (.bool false) false s N:=Jt h
theorem vL {s:Sem Next} (h:N undef):ay P X w (.bool false) true s N:=UD (want:=true) h
theorem aaT {s:Sem Next} (h:N undef):ay P X w (.bool true) false s N:=UD (want:=false) h
theorem aei {A B:Prop} (h:b=true→A) (k:b=false→B):au (.bool b) A B:=⟨h,k⟩
theorem Ze {want:Bool} {A B:Prop} (h:b=want→A) (k:b=!want→B):gE (.bool b) want A B:=
 ⟨fun e=>h (by simpa [kI] using e),fun e=>k (by revert e;cases b<;>cases want<;>simp [kI])⟩
theorem afE {A B:Prop} (h:A):gE (.bool true) true A B:=Ze (fun _=>h) (by simp)
theorem aiS {A B:Prop} (h:A):gE (.bool false) false A B:=Ze (fun _=>h) (by simp)
theorem ag5 {A B:Prop} (h:B):gE (.bool true) false A B:=Ze (by simp) (fun _=>h)
theorem adj {A B:Prop} (h:B):gE (.bool false) true A B:=Ze (by simp) (fun _=>h)
theorem V7 {vs:Array Value} {i:Nat} {v:Value} (hi:vs[i]? =some v) (h:N v):ab P X w (aD (.tuple vs) i) N:=
 cB (fun wa=>by simp [aD,hi]) h
theorem aej {a:Addr} (h:N (.pointer (some a))):ax P X w (aP (.pointer (some a))) N:=
 UB (fun _=>rfl) h
theorem UE {t e:TypeId} {xo yo:Operand} {p:Option Addr} (ht:P.underlying t=some (.pointer e)) (h:N (.bool p.isNone)):
  ab P X w (aF .eql t xo yo (.pointer p) (.pointer none)) N:=by
 refine cB (fun wa=>?_) h;have hp:P.pointee t=e:=by simp [Program.pointee,ht]
 have:=run_equal_pointer_nil (P:=P) (w:=wa) t p (by rw [hp];exact ht);simp [aF,eqGuard,binOp,this]
end
theorem afY {f:FuncId} {args:Array Value} {N:Value→World→XS→Prop} (Q:Value→World→World→Prop)
  (hf: ∀wa,(callFunc f args).run P wa= .ok (.enter f args) wa)
  (h: ∀wa,Kp X w wa→Calls P f args wa fun e w'=> ∃v,e= .returned v∧Ext wa w'∧Q v wa w')
  (k: ∀v wa w',Kp X w wa→Ext wa w'→Q v wa w'→N v w' (grow X wa w')):eC P R X w m f args N:=by
 intro wa hk;unfold jy;rw [hf wa];refine⟨rfl,(h wa hk).mono ?_⟩;rintro e w' ⟨v,rfl,hx,hq⟩;exact⟨Step.fG hx,k v wa w' hk hx hq⟩
structure aj (X:XS) (w:World) (X':XS) (w':World):Prop where
 kp:Kp X w w'
 sub: ∀k,X k→X' k
 has: ∀k,X' k→k<w'.heap.size
theorem aj.init (w:World):aj (aR w) w (aR w) w:=⟨Kp.refl _ _,fun _ h=>h,fun _ h=>h⟩
theorem aj.trans {X Y Z:XS} {a b c:World} (h:aj X a Y b) (k:aj Y b Z c):aj X a Z c:=
 ⟨h.kp.trans (k.kp.less h.sub),fun i hi=>k.sub i (h.sub i hi),k.has⟩
theorem aj.fG {X:XS} {w wa w':World} (hX: ∀k,X k→k<w.heap.size) (hk:Kp X w wa) (hx:Ext wa w'):aj X w (grow X wa w') w':=
 ⟨hk.trans (hx.kp fun k h=>aN (hX k h) hk.size),fun _ h=>.inl h,
  fun k h=>h.elim (fun h=>aN (hX k h) (af hk.size hx.size)) (fun h=>h.2)⟩
theorem aj.ext {w w':World} {X:XS} (h:aj (aR w) w X w') {wa:World} (hk:Kp X w' wa):Ext w wa:=(h.kp.trans (hk.less h.sub)).ext
variable {P : Program} {R : Ending → World → Prop} {X : XS} {w : World} {m : Bool}
def Pure (P:Program) (f:FuncId) (args:Array Value) (v:Value):Prop:=
 ∀w,Calls P f args w fun e w'=>e= .returned v∧Ext w w'
def ag6 (P:Program) (f:FuncId) (args:Array Value) (w:World) (Q:Value→World→Prop):Prop:=
 Calls P f args w fun e w'=> ∃v,e= .returned v∧Ext w w'∧Q v w'
def enters (P:Program) (f:FuncId):Bool:=match P.funcs[f]? with
 |some fn=>!(fn.name== "runtime.NumGoroutine")&&fn.body.isSome
 |none=>false
theorem tj {f:FuncId} (h:enters P f=true) (args:Array Value) (w:World):(callFunc f args).run P w= .ok (.enter f args) w:=by
 unfold enters at h;split at h
 ·rename_i fn hf;simp only [aY,dL] at h;obtain⟨c,hb⟩:=Option.isSome_iff_exists.1 h.2;have hn: ¬fn.name= "runtime.NumGoroutine" :=by simpa using h.1
  simp [callFunc,hf,hn,hb]
 ·cases h
theorem UF {f:FuncId} {args:Array Value} {N:Value→World→XS→Prop} {Q:Value→World→World→Prop}
  (hf:enters P f=true) (hX: ∀k,X k→k<w.heap.size)
  (h: ∀wa,Kp X w wa→ag6 P f args wa (Q · wa))
  (k: ∀v wa w' X',Kp X w wa→Ext wa w'→(∀k,wa.heap.size≤k→k<w'.heap.size→X' k)→Q v wa w'→aj X w X' w'→N v w' X'):
  eC P R X w m f args N:=by
 refine afY Q (tj hf args) (fun wa hk=>?_) fun v wa w' hk hx hq=>k v wa w' _ hk hx (fun k h1 h2=>.inr ⟨h1,h2⟩) hq (aj.fG hX hk hx);refine(h wa hk).mono ?_;rintro e w' ⟨v,he,hx,hq⟩;exact⟨v,he,hx,hq⟩
theorem Xu {f:FuncId} {args:Array Value} {v:Value} {N:Value→World→XS→Prop}
  (hf:enters P f=true) (hX: ∀k,X k→k<w.heap.size) (h:Pure P f args v)
  (k: ∀w' X',aj X w X' w'→N v w' X'):eC P R X w m f args N:=by
 refine UF (Q:=fun u _ _=>u=v) hf hX (fun wa _=>(h wa).mono ?_) fun u wa w' X' _ _ _ hq hs=>hq▸k w' X' hs;rintro e w' ⟨he,hx⟩;exact⟨v,he,hx,rfl⟩
theorem Bx {f:FuncId} {args:Array Value} {v:Value} {N:Value→World→XS→Prop} (hf: ∀wa,(callFunc f args).run P wa= .ok (.value v) wa)
  (hX: ∀k,X k→k<w.heap.size) (k: ∀w' X',aj X w X' w'→N v w' X'):eC P R X w m f args N:=by
 intro wa hk;unfold jy;rw [hf wa];exact⟨Step.fG (Ext.refl _),k _ _ (aj.fG hX hk (Ext.refl _))⟩
theorem fh {w0:World} {u v:Value} (hs:aj (aR w0) w0 X w) (h:u=v):fin (fun e w'=>e= .returned v∧Ext w0 w') X w u:=
 fun _ hk=>⟨by rw [h],hs.ext hk⟩
variable {P : Program} {R : Ending → World → Prop} {X : XS} {w : World} {m : Bool} {N : Value → Prop}
abbrev ptr (b o:Nat):Value:=.pointer (some ⟨b,o,none⟩)
def Cells (w:World) (X:XS) (b o:Nat) (l:List Value):Prop:=
 X b∧ ∃cs t fr,w.heap[b]? =some (.cells cs t fr)∧ ∀j v,l[j]? =some v→cs[o+j]? =some v
theorem Cells.kp {b o:Nat} {l:List Value} (h:Cells w X b o l) {w':World} (hk:Kp X w w'):Cells w' X b o l:=by
 obtain⟨hx,cs,t,fr,hb,hc⟩:=h;exact⟨hx,cs,t,fr,by rw [hk.block b hx];exact hb,hc⟩
theorem Cells.mono {b o:Nat} {l:List Value} {Y:XS} (h:Cells w X b o l) (hs: ∀k,X k→Y k):Cells w Y b o l:=⟨hs _ h.1,h.2⟩
theorem Cells.since {b o:Nat} {l:List Value} {Y:XS} {w':World} (h:Cells w X b o l) (hs:aj X w Y w'):Cells w' Y b o l:=(h.kp hs.kp).mono hs.sub
theorem Cells.range {b o:Nat} {l:List Value} (h:Cells w X b o l):w.rangeAt b o l:=by
 obtain⟨_,cs,t,fr,hb,hc⟩:=h;intro j v hj;rw [cell_of_row w b (o+j) cs t fr hb];exact hc j v hj
theorem Cells.lt {b o:Nat} {l:List Value} (h:Cells w X b o l):b<w.heap.size:=by
 obtain⟨_,cs,t,fr,hb,_⟩:=h;exact(Array.getElem?_eq_some_iff.1 hb).1
theorem Cells.part {b o:Nat} {l:List Value} (h:Cells w X b o l) (i n:Nat):Cells w X b (o+i) ((l.drop i).take n):=by
 obtain⟨hx,cs,t,fr,hb,hc⟩:=h;refine⟨hx,cs,t,fr,hb,fun j v hj=>?_⟩;rw [jT] at hj;split at hj
 ·rw [List.getElem?_drop] at hj;rw [Nat.add_assoc];exact hc _ v hj
 ·cases hj
theorem aaU {t:TypeId} {b o:Nat} {v:Value} {l:List Value} (h:Cells w X b o (v::l)) (hi:je P t=some (false,1)) (k:N v):
  ab P X w (gX t (ptr b o)) N:=by
 refine Bz v (fun wa hk=>?_) k;have hc:wa.cell? ⟨b,o,none⟩=some v:=(h.kp hk).range 0 v rfl;unfold je at hi;split at hi
 ·rename_i d i hu Bc;simp only [az,dx] at hi;have ym:(isAgg t).run P wa= .ok false wa:=by
   cases d<;>simp_all [isAgg,run_underlying hu]
  simp [gX,jd,loadVar,ym,hc]
 ·cases hi
theorem aaV {t:TypeId} {b o n:Nat} {l:List Value} (h:Cells w X b o l) (hi:je P t=some (true,n)) (hn:l.length=n) (k:N (.agg l.toArray)):
  ab P X w (gX t (ptr b o)) N:=by
 refine Bz _ (fun wa hk=>?_) k;unfold je at hi;split at hi
 ·rename_i d i hu Bc;simp only [az,dx] at hi;exact run_loadAt_mid wa b o t l d (h.kp hk).range hu (by cases d<;>simp_all) (by simp [Bc,hi.2,hn])
 ·cases hi
theorem Lh {S f fo sz b o:Nat} (h:fieldInfo P S f=some (fo,sz)) (hz:sz≠0) (k:N (ptr b (o+fo))):ab P X w (Instr.fieldAt S (ptr b o) f) N:=
 cB (fun wa=>Ks h hz b o wa) k
theorem aaW {t:TypeId} {parts:Array (Nat×Value)} (cells:Array Value) (h:P.built t parts.toList=some cells) (k:N (.agg cells)):
  ab P X w (Instr.build t parts) N:=
 cB (fun wa=>run_build wa t parts cells h) k
theorem acD {t ty:TypeId} {s:ByteArray} (ht:P.underlying t=some .string) (k:N (.int .i64 s.size)):ab P X w (fg #[t] ty #[.string s]) N:=
 cB (fun wa=>by simp [fg,run_underlying ht,goInt]) k
def Sl (w:World) (X:XS) (k:Nat) (v:Value) (rows:List (List Value)):Prop:=
 (∀r∈rows,r.length=k)∧rows.length≤2^63-1∧
 ∃base cap,v= .slice base rows.length cap∧(rows≠[]→ ∃b o,base=some ⟨b,o,none⟩∧Cells w X b o rows.flatten)∧
  (base=none→cap=0)∧rows.length≤cap∧cap≤2^63-1
theorem Sl.mono {k:Nat} {v:Value} {rows:List (List Value)} {Y:XS} (h:Sl w X k v rows) (hs: ∀k,X k→Y k):Sl w Y k v rows:=by
 obtain⟨h1,h2,base,cap,hv,hc,hr⟩:=h;exact⟨h1,h2,base,cap,hv,fun cn=>let⟨b,o,hb,mg⟩:=hc cn;⟨b,o,hb,mg.mono hs⟩,hr⟩
theorem Sl.kp {k:Nat} {v:Value} {rows:List (List Value)} {w':World} (h:Sl w X k v rows) (hk:Kp X w w'):Sl w' X k v rows:=by
 obtain⟨h1,h2,base,cap,hv,hc,hr⟩:=h;exact⟨h1,h2,base,cap,hv,fun cn=>let⟨b,o,hb,mg⟩:=hc cn;⟨b,o,hb,mg.kp hk⟩,hr⟩
theorem Sl.since {k:Nat} {v:Value} {rows:List (List Value)} {Y:XS} {w':World} (h:Sl w X k v rows) (hs:aj X w Y w'):Sl w' Y k v rows:=
 (h.kp hs.kp).mono hs.sub
theorem Sl.aR {k:Nat} {v:Value} {rows:List (List Value)} (h:Sl w X k v rows):Sl w (aR w) k v rows:=by
 obtain⟨h1,h2,base,cap,hv,hc,hr⟩:=h;exact⟨h1,h2,base,cap,hv,fun cn=>let⟨b,o,hb,mg⟩:=hc cn;⟨b,o,hb,mg.lt,mg.2⟩,hr⟩
theorem Sl.nil (w:World) (X:XS) (k:Nat):Sl w X k (.slice none 0 0) []:=⟨by simp,by simp,none,0,rfl,by simp,by simp,by simp,by simp⟩
theorem Sl.one {k:Nat} {v:Value} {rows:List (List Value)} (h:Sl w X k v rows):one v=true:=by
 obtain⟨_,_,_,_,rfl,_⟩:=h;rfl
theorem Iy {k:Nat} : ∀{rows:List (List Value)},(∀r∈rows,r.length=k)→ ∀{i:Nat} {r:List Value},rows[i]? =some r→
  (rows.flatten.drop (i*k)).take k=r
 |[],_,i,r,h=>by simp at h
 |x::rest,hl,0,r,h=>by
  simp only [iI,az] at h;subst h;have:=hl x (by simp);simp [this.symm]
 |x::rest,hl,i+1,r,h=>by
  have hx:=hl x (by simp);rw [dU,List.drop_append,hx,List.drop_eq_nil_of_le (by rw [hx];exact Nat.le_mul_of_pos_left k (Nat.succ_pos i))];have:(i+1)*k-k=i*k:=by rw [Nat.succ_mul];omega
  rw [this,eB];exact Iy (fun r hr=>hl r (by simp [hr])) (by simpa using h)
theorem aek {t ty:TypeId} {k:Nat} {v:Value} {rows:List (List Value)} (h:Sl w X k v rows) (ht:P.underlying t=some (.slice (P.elem t)))
  (n:N (.int .i64 rows.length)):ab P X w (fg #[t] ty #[v]) N:=by
 obtain⟨_,_,base,cap,rfl,_⟩:=h;exact cB (fun wa=>run_len_slice wa t ty base rows.length cap ht) n
theorem acE {α:Type} {enc:α→List Value} {t ty:TypeId} {k:Nat} {v:Value} {xs:List α} (h:Sl w X k v (xs.map enc))
  (ht:P.underlying t=some (.slice (P.elem t))) (n:N (.int .i64 xs.length)):ab P X w (fg #[t] ty #[v]) N:=
 aek h ht (by simpa using n)
theorem TM {t:TypeId} {xs ys:Array Value} {xo yo:Operand} {b:Bool} (hm:P.eqGuardType P.depth t=false)
  (h: ∀wa,(iz 10000 t (.agg xs) (.agg ys)).run P wa= .ok b wa) (k:N (.bool b)):ab P X w (aF .eql t xo yo (.agg xs) (.agg ys)) N:=by
 refine cB (fun wa=>?_) k;simp [aF,run_eqGuard_agg wa .eql t xo yo xs ys hm,run_eql_struct,h]
theorem acF {t:TypeId} {xs ys:Array Value} {xo yo:Operand} {b:Bool} (hm:P.eqGuardType P.depth t=false)
  (h: ∀wa,(iz 10000 t (.agg xs) (.agg ys)).run P wa= .ok b wa) (k:N (.bool (!b))):ab P X w (aF .neq t xo yo (.agg xs) (.agg ys)) N:=by
 refine cB (fun wa=>?_) k;simp [aF,run_eqGuard_agg wa .neq t xo yo xs ys hm,binOp,Op.equal,Op.maxDepth,h]
theorem wrap_i64 {a:Int} (h1: -(2^63)≤a) (h2:a<2^63):IntKind.i64.wrap a=a:=by
 simp only [IntKind.wrap];first
  |omega
  |(simp [IntKind.bits,IntKind.signed];omega)
variable {P : Program} {R : Ending → World → Prop} {X : XS} {w : World} {m : Bool}
structure Grown (X:XS) (w:World) (X':XS) (w':World) (row:Option Nat):Prop where
 os:w'.os=w.os
 tape:w'.tape=w.tape
 output:w'.output=w.output
 size:w.heap.size≤w'.heap.size
 block: ∀k,X k→some k≠row→w'.heap[k]? =w.heap[k]?
 sub: ∀k,X k→X' k
 has: ∀k,X' k→k<w'.heap.size
theorem aj.grown {X0 Y:XS} {w0 w':World} {row:Option Nat} (h:aj X0 w0 X w) (g:Grown X w Y w' row) (hr: ∀k,X0 k→some k≠row):aj X0 w0 Y w':=
 ⟨⟨g.os.trans h.kp.os,g.tape.trans h.kp.tape,g.output.trans h.kp.output,af h.kp.size g.size,
  fun k hk=>(g.block k (h.sub k hk) (hr k hk)).trans (h.kp.block k hk)⟩,fun k hk=>g.sub k (h.sub k hk),g.has⟩
theorem Grown.since {Y:XS} {w':World} {row:Option Nat} {F:XS} (g:Grown X w Y w' row) (hf: ∀k,F k→X k) (hr: ∀k,F k→some k≠row):aj F w Y w':=
 ⟨⟨g.os,g.tape,g.output,g.size,fun k hk=>g.block k (hf k hk) (hr k hk)⟩,fun k hk=>g.sub k (hf k hk),g.has⟩
def Own (w:World) (X:XS) (lo e k:Nat) (v:Value) (rows:List (List Value)):Prop:=
 (∀r∈rows,r.length=k)∧w.ownsRow lo e k v rows.length rows.flatten∧ ∀g,v.ownBlock=some g→X g
theorem Own.nil (w:World) (X:XS) (lo e k:Nat):Own w X lo e k (.slice none 0 0) []:=⟨by simp,World.ownsRow_nil w lo e k,by simp [dY]⟩
theorem Own.sl {lo e k:Nat} {v:Value} {rows:List (List Value)} (h:Own w X lo e k v rows):Sl w X k v rows:=by
 obtain⟨h1,h2,h3⟩:=h;rcases h2.2 with⟨rfl,hn⟩|⟨g,cap,cur,rfl,hb,hg,jk,iK,mg,ht⟩
 ·have:rows=[]:=cT hn;subst this;exact Sl.nil w X k
 ·have hm:cap≤2^63-1:=iK;refine⟨h1,af jk hm,_,cap,rfl,fun _=>⟨g,0,rfl,h3 g rfl,cur,e,(0,0),hg,fun j v hj=>?_⟩,by simp,jk,hm⟩;rw [←ht,jT] at hj;split at hj
  ·simpa using hj
  ·cases hj
theorem Own.kp {lo e k:Nat} {v:Value} {rows:List (List Value)} {w':World} (h:Own w X lo e k v rows) (hk:Kp X w w'):Own w' X lo e k v rows:=by
 obtain⟨h1,h2,h3⟩:=h;refine⟨h1,⟨h2.1,?_⟩,h3⟩;rcases h2.2 with h|⟨g,cap,cur,rfl,hb,hg,hr⟩
 ·exact .inl h
 ·exact .inr ⟨g,cap,cur,rfl,hb,by rw [hk.block g (h3 g rfl)];exact hg,hr⟩
theorem Own.mono {lo e k:Nat} {v:Value} {rows:List (List Value)} {Y:XS} (h:Own w X lo e k v rows) (hs: ∀k,X k→Y k):Own w Y lo e k v rows:=
 ⟨h.1,h.2.1,fun g hg=>hs g (h.2.2 g hg)⟩
theorem Own.since {lo e k:Nat} {v:Value} {rows:List (List Value)} {Y:XS} {w':World} (h:Own w X lo e k v rows) (hs:aj X w Y w'):Own w' Y lo e k v rows:=
 (h.kp hs.kp).mono hs.sub
theorem Own.low {lo lo' e k:Nat} {v:Value} {rows:List (List Value)} (h:Own w X lo e k v rows) (hl:lo'≤lo):Own w X lo' e k v rows:=by
 obtain⟨h1,h2,h3⟩:=h;refine⟨h1,⟨h2.1,?_⟩,h3⟩;rcases h2.2 with h|⟨g,cap,cur,rfl,hb,hr⟩
 ·exact .inl h
 ·exact .inr ⟨g,cap,cur,rfl,af hl hb,hr⟩
theorem Own.ge {lo e k:Nat} {v:Value} {rows:List (List Value)} (h:Own w X lo e k v rows) {g:Nat} (hg:v.ownBlock=some g):lo≤g∧g<w.heap.size:=h.2.1.lt g hg
theorem Own.tight {lo e k:Nat} {v:Value} {rows:List (List Value)} (h:Own w X lo e k v rows):Own w (fun g=>lo≤g∧g<w.heap.size) lo e k v rows:=
 ⟨h.1,h.2.1,fun _ hg=>h.ge hg⟩
theorem gZ {k:Nat} : ∀{rows:List (List Value)},(∀r∈rows,r.length=k)→rows.flatten.length=rows.length*k
 |[],_=>by simp
 |r::rs,h=>by
  rw [dU,ae,h r (by simp),gZ fun r hr=>h r (by simp [hr]),bT,Nat.succ_mul,Nat.add_comm]
theorem FC {t e len:Nat} {parts:Array (Nat×Value)} {k:Nat} {rows:List (List Value)} {N:Value→World→XS→Prop} (cells:Array Value) (z:Value)
  (hX: ∀k,X k→k<w.heap.size) (hu:P.underlying t=some (.slice e)) (hz:(P.info? e).bind (fun i=>i.zero.map fun z=>(i.size,z))=some (k,z))
  (Ys:0<len*k) (NP:len*k≤2^24)
  (h:nE (fun i=>some (i*k,k)) ((xB (len*k)).map (z.cells[· % z.cells.size]!)) parts.toList=some cells)
  (FD: ∀r∈rows,r.length=k) (hlen:rows.length=len) (hc:cells.toList=rows.flatten)
  (n: ∀v w' X',aj X w X' w'→Own w' X' w.heap.size e k v rows→N v w' X'):eV P R X w m (kW t len parts) N:=by
 intro wa hk;cases hq:P.info? e with
 |none=>simp [hq] at hz
 |some ie=>
  cases lU:ie.zero with
  |none=>simp [hq,lU] at hz
  |some z'=>
   simp only [hq,lU,cU,bL,az,dx] at hz;obtain⟨rfl,rfl⟩:=hz;have hr:=run_buildSlice (P:=P) wa t e len parts cells ie z' hu hq lU zQ zQ h;unfold jy;simp only [vS,bR,hr,bo,cS];have hx:Ext wa (wa.alloc (.cells cells e)):=Ext.alloc _ _;have mg:cells.size=len*ie.size:=by
    have:=congrArg List.length hc;simp only [dO] at this;rw [this,gZ FD,hlen]
   have ag7:0<ie.size:=Nat.pos_of_ne_zero fun e=>by simp [e] at Ys
   have hle:len≤2^24:=af (Nat.le_mul_of_pos_right len ag7) NP;have Aq:=vP (e:=e) (base:=w.heap.size) (size:=ie.size) wa cells len hk.size (by simp only [maxLen];omega) mg;refine⟨Step.fG hx,n _ _ _ (aj.fG hX hk hx) ⟨FD,by rw [hlen,←hc];exact Aq,fun g hg=>?_⟩⟩;simp only [dY,az] at hg;subst hg;exact .inr ⟨bP _,by simp⟩
theorem aaX {t e k:Nat} {N:Value→World→XS→Prop} (hX: ∀k,X k→k<w.heap.size) (hu:P.underlying t=some (.slice e)) (hz:(P.info? e).map (·.size)=some k)
  (n: ∀v w' X',aj X w X' w'→Own w' X' w.heap.size e k v []→N v w' X'):eV P R X w m (kW t 0 #[]) N:=by
 intro wa hk;cases hq:P.info? e with
 |none=>simp [hq] at hz
 |some ie=>
  unfold jy;have hr:(kW t 0 #[]).run P wa= .ok (.slice (some ⟨wa.heap.size,0,none⟩) 0 0) (wa.alloc (.cells #[] e)):=by
   simp [kW,run_underlying hu,sizeOf,typeInfo,hq,nE,newRow];have hz0: ∀f:Nat→Value,Array.map f (xB 0)= #[]:=fun f=>Array.eq_empty_of_size_eq_zero (by simp);rw [hz0]
  simp only [vS,bR,hr,bo,cS];have hx:Ext wa (wa.alloc (.cells #[] e)):=Ext.alloc _ _;have Aq:=vP (e:=e) (base:=w.heap.size) (size:=k) wa #[] 0 hk.size (by simp [maxLen]) (by simp);refine⟨Step.fG hx,n _ _ _ (aj.fG hX hk hx) ⟨by simp,Aq,fun g hg=>?_⟩⟩;simp only [dY,az] at hg;subst hg;exact .inr ⟨bP _,by simp⟩
theorem Sl.src {k:Nat} {v:Value} {rows:List (List Value)} (h:Sl w X k v rows):
  v= .slice none 0 0∧rows=[]∨ ∃a cap,v= .slice (some a) rows.length cap∧ ∀j u,rows.flatten[j]? =some u→w.cell? (a.add j)=some u:=by
 obtain⟨h1,h2,base,cap,rfl,hc,hn,hle,_⟩:=h;cases base with
 |none=>
  cases rows with
  |nil=>exact .inl ⟨by simp [hn rfl],rfl⟩
  |cons r rs=>obtain⟨_,_,hh,_⟩:=hc (by simp);cases hh
 |some a=>
  refine .inr ⟨a,cap,rfl,fun j u hj=>?_⟩;cases rows with
  |nil=>simp at hj
  |cons r rs=>
   obtain⟨b,o,hb,mg⟩:=hc (by simp);cases hb;rw [uW];exact mg.range j u hj
theorem zD {t ty e k bytes lo:Nat} {v s:Value} {rows dw:List (List Value)} {N:Value→World→XS→Prop} (z:Value)
  (hu:P.underlying t=some (.slice e)) (hi:(P.info? e).bind (fun i=>i.zero.map fun z=>(i.size,i.bytes,z))=some (k,bytes,z)) (pq:z.cells.size=k) (oP:0<k)
  (hX: ∀k,X k→k<w.heap.size) (ez:lo≤w.heap.size) (own:Own w X lo e k v rows) (src:Sl w X k s dw) (h1: ∀r∈dw,∀u∈r,one u=true)
  (hb:(rows.length+dw.length)*bytes≤140737488355328) (hl:rows.length+dw.length≤2^63-1)
  (n: ∀v' w' X',Grown X w X' w' v.ownBlock→Own w' X' lo e k v' (rows++dw)→(v'.ownBlock=v.ownBlock∨ ∃g,v'.ownBlock=some g∧w.heap.size≤g)→N v' w' X'):
  eV P R X w true (dQ #[t,t] ty #[v,s]) N:=by
 intro wa hk;have own:=own.kp hk;have src:=src.kp hk;cases hq:P.info? e with
 |none=>simp [hq] at hi
 |some ie=>
  cases lU:ie.zero with
  |none=>simp [hq,lU] at hi
  |some z'=>
   simp only [hq,lU,cU,bL,az,dx] at hi;obtain⟨rfl,rfl,rfl⟩:=hi;unfold jy;rcases src.src with⟨rfl,rfl⟩|⟨a,cap,rfl,CT⟩
   ·have hr:=run_append_owned_none (P:=P) (w:=wa) lo t ty e ie ie.size hu hq v rows.length rows.flatten own.2.1;simp only [vS,bR,hr,bo,cS];have hx:=Ext.refl wa;have hs:=aj.fG hX hk hx;refine⟨Step.fG hx,n _ _ _ ⟨hs.kp.os,hs.kp.tape,hs.kp.output,hs.kp.size,fun k h _=>hs.kp.block k h,hs.sub,hs.has⟩ ?_ (.inl rfl)⟩;rw [fE];exact own.mono (fun k h=>Or.inl h)
   ·have re:dw.flatten.length=dw.length*ie.size:=gZ src.1;obtain⟨v',w',hr,Aq,hg,_,fH⟩:=run_append_own_at (P:=P) wa lo t ty e ie z' ie.size ie.bytes hu hq lU rfl rfl pq oP v rows.length rows.flatten own.2.1
     a dw.length cap dw.flatten re CT (fun u hu=>by
      obtain⟨r,hr,Ts⟩:=List.mem_flatten.1 hu;rw [←Bb];exact h1 r hr u Ts) hl hb (af ez hk.size)
    simp only [vS,bR,hr,bo,cS];have hgb: ∀k,k<wa.heap.size→some k≠v.ownBlock→w'.heap[k]? =wa.heap[k]? :=hg.block;refine⟨⟨hg.os,hg.tape,hg.output,hg.size,fun k KC nJ=>hg.block k KC fun e=>nJ (own.2.2 k e.symm)⟩,n _ _ _ ?_ ⟨?_,?_,?_⟩ ?_⟩
    ·exact⟨hg.os.trans hk.os,hg.tape.trans hk.tape,hg.output.trans hk.output,af hk.size hg.size,
      fun k hx cn=>(hg.block k (aN (hX k hx) hk.size) cn).trans (hk.block k hx),fun k h=>.inl h,
      fun k h=>h.elim (fun h=>aN (hX k h) (af hk.size hg.size)) (fun h=>h.2)⟩
    ·intro r hr;rcases List.mem_append.1 hr with h|h
     ·exact own.1 r h
     ·exact src.1 r h
    ·rw [ae,List.flatten_append];exact Aq
    ·intro g Gu;rcases fH with h|h
     ·exact .inl (own.2.2 g (h▸Gu))
     ·rw [Gu] at h;cases h;exact .inr ⟨bP _,(Aq.lt _ Gu).2⟩
    ·rcases fH with h|h
     ·exact .inl h
     ·exact .inr ⟨_,h,hk.size⟩
theorem L8 {t e:TypeId} (ht:P.underlying t=some (.slice e)) (d:Nat) (base:Option Addr) (n c:Nat) (w:World):
  (iz (d+1) t (.slice base n c) (.slice none 0 0)).run P w= .ok base.isNone w:=by
 cases base<;>simp [iz,run_underlying ht]
theorem UG {t e:TypeId} {xo yo:Operand} {base:Option Addr} {n c:Nat} {N:Value→Prop} (ht:P.underlying t=some (.slice e)) (h:N (.bool base.isNone)):
  ab P X w (aF .eql t xo yo (.slice base n c) (.slice none 0 0)) N:=by
 refine cB (fun wa=>?_) h;have:(Op.equal t (.slice base n c) (.slice none 0 0)).run P wa= .ok base.isNone wa:=L8 ht 9999 base n c wa;simp [aF,eqGuard,binOp,this]
def Ju (P:Program):List Field→Nat→Bool
 |[],_=>true
 |f::r,i=>f.name != "_" &&(match P.underlying f.type with|some (.int _)=>true|_=>false)&&f.offset==i&&Ju P r (i+1)
theorem tY (w:World) (d:Nat) (as bs:List Int): ∀(fs:List Field) (i:Nat),Ju P fs i=true→as.length=i+fs.length→bs.length=i+fs.length→
  (sD (d+1) (as.map (aZ .i64)).toArray (bs.map (aZ .i64)).toArray fs).run P w= .ok (decide (as.drop i=bs.drop i)) w
 |[],i,_,ha,hb=>by
  simp only [List.length_nil,Nat.add_zero] at ha hb;rw [fc zQ,fc zQ];simp [sD]
 |f::r,i,h,ha,hb=>by
  simp only [Ju,aY,bne_iff_ne,ne_eq,beq_iff_eq] at h;obtain⟨⟨⟨hn,hu⟩,ho⟩,hr⟩:=h;simp only [bT] at ha hb;have hia:i<as.length:=by omega
  have hib:i<bs.length:=by omega
  cases hd:P.underlying f.type with
  |none=>simp [hd] at hu
  |some ty=>
   cases ty<;>simp only [hd,bc] at hu
   rename_i q;have ym:(isAgg f.type).run P w= .ok false w:=by simp [isAgg,run_underlying hd]
   have hpa:(part f.type (as.map (aZ .i64)).toArray f.offset).run P w= .ok (.int .i64 as[i]) w:=by
    simp [part,ym,ho,hia]
   have WH:(part f.type (bs.map (aZ .i64)).toArray f.offset).run P w= .ok (.int .i64 bs[i]) w:=by
    simp [part,ym,ho,hib]
   have ih:=tY w d as bs r (i+1) hr zQ zQ;have hk:(as.drop i=bs.drop i)↔(as[i]=bs[i]∧as.drop (i+1)=bs.drop (i+1)):=by
    rw [fM hia,fM hib,List.cons.injEq]
   simp only [hk];clear hk;by_cases he:as[i]=bs[i]
   ·simp [sD,hn,hpa,WH,run_equalIn_int w d f.type .i64 q _ _ hd,he,ih]
   ·simp [sD,hn,hpa,WH,run_equalIn_int w d f.type .i64 q _ _ hd,he]
def gB (P:Program) (t n:Nat):Bool:=match P.underlying t with
 |some (.struct fs)=>fs.toList.length==n&&Ju P fs.toList 0&&!P.stoodInHeld t&&!P.eqGuardType P.depth t
 |_=>false
theorem yE {t n:Nat} (h:gB P t n=true) (as bs:List Int) (ha:as.length=n) (hb:bs.length=n) (w:World):
  (iz 10000 t (.agg (as.map (aZ .i64)).toArray) (.agg (bs.map (aZ .i64)).toArray)).run P w= .ok (decide (as=bs)) w:=by
 unfold gB at h;split at h
 ·rename_i fs hu;simp only [aY,beq_iff_eq,dL] at h;have hf:P.fieldsOf t=fs:=by simp [Program.fieldsOf,hu]
  rw [run_equalIn_struct w 9999 t _ _ (by rw [hf];exact hu) h.1.2,hf];have:=tY (P:=P) w 9998 as bs fs.toList 0 h.1.1.2 (by rw [ha,h.1.1.1];omega) (by rw [hb,h.1.1.1];omega);simpa using this
 ·cases h
theorem CU {t n:Nat} (h:gB P t n=true):P.eqGuardType P.depth t=false:=by
 unfold gB at h;split at h
 ·simp only [aY,dL] at h;exact h.2
 ·cases h
theorem LZ {N:Value→Prop} {t:TypeId} {a b c a' b' c':Int} {xo yo:Operand} (h:gB P t 3=true) (k:N (.bool (decide (a=a'∧b=b'∧c=c')))):
  ab P X w (aF .eql t xo yo (.agg #[.int .i64 a,.int .i64 b,.int .i64 c]) (.agg #[.int .i64 a',.int .i64 b',.int .i64 c'])) N:=
 TM (b:=decide (a=a'∧b=b'∧c=c')) (CU h) (fun wa=>by
  have:=yE h [a,b,c] [a',b',c'] rfl rfl wa;simpa using this) k
theorem acG {N:Value→Prop} {t:TypeId} {a b c a' b' c':Int} {xo yo:Operand} (h:gB P t 3=true) (k:N (.bool (!decide (a=a'∧b=b'∧c=c')))):
  ab P X w (aF .neq t xo yo (.agg #[.int .i64 a,.int .i64 b,.int .i64 c]) (.agg #[.int .i64 a',.int .i64 b',.int .i64 c'])) N:=
 acF (b:=decide (a=a'∧b=b'∧c=c')) (CU h) (fun wa=>by
  have:=yE h [a,b,c] [a',b',c'] rfl rfl wa;simpa using this) k
theorem Xv {t:TypeId} {v:Value} {N:Value→World→XS→Prop} (hX: ∀k,X k→k<w.heap.size)
  (n: ∀b w' X',w.heap.size≤b→aj X w X' w'→X' b→w'.heap[b]? =some (.cells v.cells.toList.toArray t (0,0))→N (ptr b 0) w' X'):eV P R X w m (cL t v) N:=by
 intro wa hk;unfold jy;have hr:(cL t v).run P wa= .ok (ptr wa.heap.size 0) (wa.alloc (.cells v.cells t)):=by simp [cL,newVar,newRow]
 simp only [vS,bR,hr,bo,cS];have hx:Ext wa (wa.alloc (.cells v.cells t)):=Ext.alloc _ _;exact⟨Step.fG hx,n _ _ _ hk.size (aj.fG hX hk hx) (.inr ⟨bP _,by simp⟩) (by simpa using heap_alloc_new wa _)⟩
def bN (w:World) (X:XS) (b:Nat) (cs:List Value) (ty:TypeId):Prop:=X b∧w.heap[b]? =some (.cells cs.toArray ty (0,0))
theorem bN.kp {b:Nat} {cs:List Value} {ty:TypeId} {w':World} (h:bN w X b cs ty) (hk:Kp X w w'):bN w' X b cs ty:=⟨h.1,by rw [hk.block b h.1];exact h.2⟩
theorem bN.mono {b:Nat} {cs:List Value} {ty:TypeId} {Y:XS} (h:bN w X b cs ty) (hs: ∀k,X k→Y k):bN w Y b cs ty:=⟨hs _ h.1,h.2⟩
theorem bN.since {b:Nat} {cs:List Value} {ty:TypeId} {Y:XS} {w':World} (h:bN w X b cs ty) (hs:aj X w Y w'):bN w' Y b cs ty:=(h.kp hs.kp).mono hs.sub
theorem bN.cells {b:Nat} {cs:List Value} {ty:TypeId} (h:bN w X b cs ty):Cells w X b 0 cs:=⟨h.1,_,_,_,h.2,fun j v hj=>by simpa using hj⟩
theorem acH {t sz b o:Nat} {cs:List Value} {ty:TypeId} {v:Value} {N:Value→World→XS→Prop} (h:bN w X b cs ty) (ht:(P.info? t).map (·.size)=some sz)
  (hl:o+sz≤cs.length) (hv:v.cells.size=sz) (h1:v.cells.toList.all one=true) (hX: ∀k,X k→k<w.heap.size)
  (n: ∀w' X',Grown X w X' w' (some b)→bN w' X' b (cH cs o v.cells.toList) ty→N undef w' X'):eU P R X w true (Instr.storeAt t (ptr b o) v) N:=by
 intro wa hk;have hb:=(h.kp hk).2;unfold jy;have hr:=Kt (P:=P) ht hb o (by simpa using hl) v hv h1;simp only [gu] at hr;simp only [uS,bR,hr,bo,cS];have fN:(wa.setRow b (cH cs o v.cells.toList).toArray).heap.size=wa.heap.size:=by simp
 refine⟨⟨rfl,rfl,rfl,by rw [fN];exact bP _,fun k _ hx=>setRow_other wa b k _ fun e=>hx (e▸h.1)⟩,n _ _ ?_ ⟨.inl h.1,setRow_heap wa b _ _ ty _ hb⟩⟩;refine⟨hk.os,hk.tape,hk.output,by rw [fN];exact hk.size,fun k hx cn=>?_,fun k h=>.inl h,fun k h=>?_⟩
 ·rw [setRow_other wa b k _ (fun e=>cn (by rw [e])),hk.block k hx]
 ·rw [fN];exact h.elim (fun h=>aN (hX k h) hk.size) (fun h=>by have:=h.2;rwa [fN] at this)
variable {P : Program} {α : Type}
end Go.bB
set_option linter.unusedSectionVars false
set_option linter.unusedSimpArgs false
namespace Go.bB
variable {P : Program} {R : Ending → World → Prop} {X : XS} {w : World} {m : Bool} {κ : Type} [DecidableEq κ]
abbrev iD (κ:Type):=κ×Value×Nat
def kE (kv:κ→Value) (x:iD κ):MapEntry:=⟨kv x.1,x.2.1,x.2.2⟩
def ou (k:κ):List (iD κ)→Nat→Option (Nat×Value)
 |[],_=>none
 |x::r,i=>if k=x.1 then some (i,x.2.1)else ou k r (i+1)
structure sy (P:Program) (kt:TypeId) (kv:κ→Value):Prop where
 aI: ∀e k w,(fK e 10000 kt (kv k)).run P w= .ok () w
 find: ∀k (l:List (iD κ)) w,(pY kt (kv k) (l.map (kE kv))).run P w= .ok (ou k l 0) w
 same: ∀k,kr 10000 (kv k) (kv k)=true
theorem Iz (a b:ByteArray):(a==b)=decide (a=b):=by
 rw [beq_toListBytes];have:a.toList=b.toList↔a=b:=by
  constructor
  ·intro h;rw [gR,gR] at h;obtain⟨⟨x⟩⟩:=a;obtain⟨⟨y⟩⟩:=b;simpa using h
  ·intro h;rw [h]
 by_cases h:a=b
 ·simp [h]
 ·simp [h,this]
theorem GZ {kt:TypeId} (h:P.underlying kt=some .string) (e:Bool) (n:Nat) (k:ByteArray) (w:World):
  (fK e (n+1) kt (.string k)).run P w= .ok () w:=by simp [fK,run_underlying h]
theorem L9 {kt:TypeId} {fs:Array Field} (h:P.underlying kt=some (.struct fs)) (e:Bool) (n:Nat) (cs:Array Value) (w:World)
  (hr:(forIn fs ku fun f (_:PUnit)=>(if f.name≠ "_" then(do
    let v←part f.type cs f.offset
    fK e n f.type v
    pure (oz ku))
   else pure (oz ku):Sem (ForInStep PUnit))).run P w= .ok ku w):
  (fK e (n+1) kt (.agg cs)).run P w= .ok () w:=by
 simp only [fK,bR,run_underlying h,bo];exact(congrArg (fun r=>r.andThen fun _ w'=>rI P (Pure.pure ()) w') hr).trans rfl
theorem wS {kt:TypeId} (h:P.underlying kt=some .string):sy P kt (fun s:ByteArray=>Value.string s) where
 aI e k w:=GZ h e 9999 k w
 find k l w:=by
  have: ∀(l:List (iD ByteArray)) (i:Nat),iu .string (.string k) (l.map (kE fun s=>Value.string s)) i=some (ou k l i):=by
   intro l
   induction l with
   |nil=>intro i;rfl
   |cons x r ih=>
    intro i;by_cases hk:k=x.1
    ·simp [iu,kE,tZ,ou,hk,Iz]
    ·simp [iu,kE,tZ,ou,hk,ih,Iz]
  simp [pY,run_underlying h,this]
 same k:=by simp [kr,Iz]
theorem Az (w:World) (e:Bool) (d:Nat) (as:List Int): ∀(fs:List Field) (i:Nat),Ju P fs i=true→as.length=i+fs.length→
  (forIn fs ku fun f (_:PUnit)=>(if f.name≠ "_" then(do
    let v←part f.type (as.map (aZ .i64)).toArray f.offset
    fK e (d+1) f.type v
    pure (oz ku))
   else pure (oz ku):Sem (ForInStep PUnit))).run P w= .ok ku w
 |[],i,_,_=>by simp
 |f::r,i,h,ha=>by
  simp only [Ju,aY,bne_iff_ne,ne_eq,beq_iff_eq] at h;obtain⟨⟨⟨hn,hu⟩,ho⟩,hr⟩:=h;simp only [bT] at ha;have hia:i<as.length:=by omega
  cases hd:P.underlying f.type with
  |none=>simp [hd] at hu
  |some ty=>
   cases ty<;>simp only [hd,bc] at hu
   rename_i q;have ym:(isAgg f.type).run P w= .ok false w:=by simp [isAgg,run_underlying hd]
   have hpa:(part f.type (as.map (aZ .i64)).toArray f.offset).run P w= .ok (.int .i64 as[i]) w:=by
    simp [part,ym,ho,hia]
   have hck:(fK e (d+1) f.type (.int .i64 as[i])).run P w= .ok () w:=by
    simp [fK,run_underlying hd]
   have ih:=Az w e d as r (i+1) hr zQ;rw [List.forIn_cons];simp only [ne_eq,hn,not_false_eq_true,if_true,bR,hpa,hck,bo,cS];exact ih
theorem Ro (d:Nat) (as:List Int):kr (d+1) (.agg (as.map (aZ .i64)).toArray) (.agg (as.map (aZ .i64)).toArray)=true:=by
 have: ∀l:List Int,((l.map (aZ .i64)).zip (l.map (aZ .i64))).all (fun (x,y)=>kr d x y)=true:=by
  intro l
  induction l with
  |nil=>rfl
  |cons x r ih=>
   simp only [bC,List.zip_cons_cons,List.all_cons,ih,Bool.and_true];cases d<;>simp [kr]
 simp [kr,this]
theorem acI {kt n:Nat} (h:gB P kt n=true) (as:κ→List Int) (hlen: ∀k,(as k).length=n) (aiT: ∀a b,as a=as b→a=b):
  sy P kt (fun k:κ=>ak ((as k).map (aZ .i64)).toArray) where
 aI e k w:=by
  have h0:=h;unfold gB at h;split at h
  ·rename_i fs hu;simp only [aY,beq_iff_eq,dL] at h;have hr:=Az (P:=P) w e 9998 (as k) fs.toList 0 h.1.1.2 (by rw [hlen,h.1.1.1];omega);rw [Array.forIn_toList] at hr;exact L9 hu e 9999 _ w hr
  ·cases h
 find k l w:=by
  have h0:=h;unfold gB at h0;split at h0
  ·rename_i fs hu;have aiU: ∀(l:List (iD κ)) (i:Nat),(rm kt (.agg ((as k).map (aZ .i64)).toArray) (l.map (kE fun k=>ak ((as k).map (aZ .i64)).toArray)) i).run P w= .ok (ou k l i) w:=by
    intro l
    induction l with
    |nil=>intro i;simp [rm,ou]
    |cons x r ih=>
     intro i;have he:=yE h (as k) (as x.1) (hlen _) (hlen _) w;simp only [bC,rm,kE,Op.equal,Op.maxDepth,bR,he,bo,ou];by_cases hk:k=x.1
     ·subst hk;simp
     ·have: ¬as k=as x.1:=fun e=>hk (aiT _ _ e);simp only [this,decide_false,bc,if_false,hk];exact ih _
   cases l with
   |nil=>simp [pY,run_underlying hu,iu,ou]
   |cons x r=>
    have:=aiU (x::r) 0;simp only [pY,bR,run_underlying hu,bo];simp only [bC,iu,kE,tZ] at this⊢;exact this
  ·cases h0
 same k:=Ro 9999 (as k)
def jZ (w:World) (X:XS) (b:Nat) (kv:κ→Value) (es:List (iD κ)) (clock:Nat):Prop:=
 X b∧w.heap[b]? =some (.map (es.map (kE kv)).toArray clock)∧(es.map (·.1)).Nodup∧(es.map (·.2.2)).Nodup∧ ∀x∈es,x.2.2<clock
theorem jZ.kp {b:Nat} {kv:κ→Value} {es:List (iD κ)} {c:Nat} {w':World} (h:jZ w X b kv es c) (hk:Kp X w w'):jZ w' X b kv es c:=
 ⟨h.1,by rw [hk.block b h.1];exact h.2.1,h.2.2⟩
theorem jZ.mono {b:Nat} {kv:κ→Value} {es:List (iD κ)} {c:Nat} {Y:XS} (h:jZ w X b kv es c) (hs: ∀k,X k→Y k):jZ w Y b kv es c:=⟨hs _ h.1,h.2⟩
theorem jZ.since {b:Nat} {kv:κ→Value} {es:List (iD κ)} {c:Nat} {Y:XS} {w':World} (h:jZ w X b kv es c) (hs:aj X w Y w'):jZ w' Y b kv es c:=
 (h.kp hs.kp).mono hs.sub
def Dw (k:κ) (es:List (iD κ)):Option Value:=(es.find? fun x=>decide (x.1=k)).map (·.2.1)
theorem Ma (k:κ): ∀(es:List (iD κ)) (i:Nat),ou k es i=(es.findIdx? fun x=>decide (x.1=k)).bind fun j=>(es[j]?).map fun x=>(i+j,x.2.1)
 |[],i=>rfl
 |x::r,i=>by
  unfold ou;by_cases h:k=x.1
  ·simp [h,ia]
  ·rw [if_neg h,Ma k r (i+1)];have h': ¬x.1=k:=fun e=>h e.symm;simp only [ia,h',decide_false,bc,if_false];cases r.findIdx? fun x=>decide (x.1=k)with
   |none=>rfl
   |some j=>simp [Nat.add_assoc,Nat.add_comm 1 j]
theorem QQ (k:κ): ∀(es:List (iD κ)) (i:Nat),(ou k es i).map (·.2)=Dw k es
 |[],i=>rfl
 |x::r,i=>by
  unfold ou Dw;by_cases h:k=x.1
  ·simp [h]
  ·have h': ¬x.1=k:=fun e=>h e.symm;rw [if_neg h,QQ k r (i+1)];simp [Dw,h']
theorem Zf {t kt et b c:Nat} {kv:κ→Value} {es:List (iD κ)} {k:κ} {N:Value→Prop} (z:Value) (h:jZ w X b kv es c) (K:sy P kt kv)
  (ht:P.underlying t=some (.map kt et)) (hz:(P.info? et).bind (·.zero)=some z)
  (n:N (.tuple #[(Dw k es).getD z,.bool (Dw k es).isSome])):ab P X w (Instr.lookup t (.map (some b)) (kv k) true) N:=by
 refine Bz _ (fun wa hk=>?_) n;have hb:=(h.kp hk).2.1;cases hi:P.info? et with
 |none=>simp [hi] at hz
 |some inf=>
  have A9:inf.zero=some z:=by simpa [hi] using hz
  have hg:=QQ k es 0;simp only [Instr.lookup,bR,run_underlying ht,bo,getObj,rI,hb,K.aI,eJ,K.find];cases hf:ou k es 0 with
  |none=>
   rw [hf] at hg;simp only [Option.map_none] at hg;simp [zeroValue,typeInfo,hi,A9,←hg,K.find,hf]
  |some r=>
   rw [hf] at hg;simp only [bL] at hg;simp [←hg,K.find,hf]
theorem Zg {t:TypeId} {kv:κ→Value} {N:Value→World→XS→Prop} (hX: ∀k,X k→k<w.heap.size)
  (n: ∀b w' X',w.heap.size≤b→aj X w X' w'→jZ w' X' b kv [] 0→N (.map (some b)) w' X'):eV P R X w m (iT t none) N:=by
 intro wa hk;unfold jy;have hr:(iT t none).run P wa= .ok (.map (some wa.heap.size)) (wa.alloc (.map #[] 0)):=by simp [iT]
 simp only [vS,bR,hr,bo,cS];have hx:Ext wa (wa.alloc (.map #[] 0)):=Ext.alloc _ _;exact⟨Step.fG hx,n _ _ _ hk.size (aj.fG hX hk hx) ⟨.inr ⟨bP _,by simp⟩,by simpa using heap_alloc_new wa _,by simp,by simp,by simp⟩⟩
open Go.ChangeMaps (setBlock)
theorem IA {b:Nat} {o:Obj} {wa:World} (hX: ∀k,X k→k<w.heap.size) (hk:Kp X w wa):Grown X w (grow X wa (setBlock wa b o)) (setBlock wa b o) (some b):=by
 have hs:(setBlock wa b o).heap.size=wa.heap.size:=by simp [setBlock]
 refine⟨hk.os,hk.tape,hk.output,by rw [hs];exact hk.size,fun k hx cn=>?_,fun k h=>.inl h,fun k h=>?_⟩
 ·rw [←hk.block k hx];have:b≠k:=fun e=>cn (by rw [e]);simp [setBlock,ff,this]
 ·rw [hs];exact h.elim (fun h=>aN (hX k h) hk.size) (fun h=>by have:=h.2;rwa [hs] at this)
theorem UH {b:Nat} {o:Obj} {wa:World} (hb:X b):Fr X wa (setBlock wa b o):=by
 refine⟨rfl,rfl,rfl,by simp [setBlock],fun k _ hx=>?_⟩;have:b≠k:=fun e=>hx (e▸hb);simp [setBlock,ff,this]
theorem NQ {b:Nat} {o:Obj} {wa:World} (hb:b<wa.heap.size):(setBlock wa b o).heap[b]? =some o:=by
 simp [setBlock,ff,hb]
theorem run_setObj_map {wa:World} {b:Nat} {es:Array MapEntry} {c:Nat} (hb:wa.heap[b]? =some (.map es c)) (o:Obj):(setObj b o).run P wa= .ok () (setBlock wa b o):=by
 simp [setObj,rI,hb,setBlock]
def B6 (k:κ) (v:Value) (c:Nat) (es:List (iD κ)):List (iD κ)×Nat:=
 match es.findIdx? fun x=>decide (x.1=k)with
 |some i=>(es.modify i fun x=>(x.1,v,x.2.2),c)
 |none=>(es++[(k,v,c)],c+1)
theorem yF {β γ:Type} (g:β→γ) (f:β→β) (hf: ∀x,g (f x)=g x): ∀(l:List β) (i:Nat),(l.modify i f).map g=l.map g
 |[],i=>by simp
 |x::r,0=>by simp [hf]
 |x::r,i+1=>by simp [yF g f hf r i]
theorem mem_modify {β:Type} {f:β→β} : ∀{l:List β} {i:Nat} {y:β},y∈l.modify i f→ ∃x∈l,y=x∨y=f x
 |[],i,y,h=>by simp at h
 |x::r,0,y,h=>by
  simp only [List.modify_zero_cons,List.mem_cons] at h;rcases h with h|h
  ·exact⟨x,by simp,.inr h⟩
  ·exact⟨y,by simp [h],.inl rfl⟩
 |x::r,i+1,y,h=>by
  simp only [List.modify_succ_cons,List.mem_cons] at h;rcases h with h|h
  ·exact⟨x,by simp,.inl h⟩
  ·obtain⟨z,hz,he⟩:=mem_modify h;exact⟨z,by simp [hz],he⟩
theorem aaY {t kt et b c:Nat} {kv:κ→Value} {es:List (iD κ)} {k:κ} {v:Value} {N:Value→World→XS→Prop} (h:jZ w X b kv es c) (K:sy P kt kv)
  (ht:P.underlying t=some (.map kt et)) (hX: ∀k,X k→k<w.heap.size)
  (n: ∀w' X',Grown X w X' w' (some b)→jZ w' X' b kv (B6 k v c es).1 (B6 k v c es).2→N undef w' X'):
  eU P R X w true (dE t (.map (some b)) (kv k) v) N:=by
 intro wa hk;have hM:=h.kp hk;have hb:=hM.2.1;have cI:b<wa.heap.size:=(Array.getElem?_eq_some_iff.1 hb).1;unfold jy;have hr:(dE t (.map (some b)) (kv k) v).run P wa= .ok () (setBlock wa b (.map ((B6 k v c es).1.map (kE kv)).toArray (B6 k v c es).2)):=by
  simp only [dE,bR,run_underlying ht,bo,getObj,rI,hb,K.aI,eJ,K.find,Ma];unfold B6;cases hf:es.findIdx? fun x=>decide (x.1=k)with
  |none=>simp [run_setObj_map hb,kE]
  |some j=>
   have hj:=List.findIdx?_eq_some_iff_getElem.1 hf;obtain⟨qB,hjk,_⟩:=hj;have afZ:es[j].1=k:=by simpa using hjk
   simp only [cU,cd qB,bL,ed,bR];have fZ:(uH (((es.map (kE kv)).toArray[j]?).map (·.key)|>.getD (kv k)) (kv k)).run P wa= .ok (kv k) wa:=by
    simp [uH,qB,kE,afZ,K.same]
   rw [fZ];simp only [bo,run_setObj_map hb]
   congr 3
   rw [List.modify_toArray]
   congr 1
   apply List.ext_getElem?;intro q;simp only [List.getElem?_modify,dD];by_cases hq:j=q
   ·subst hq;simp [cd qB,kE,afZ]
   ·simp [hq]
 simp only [uS,bR,hr,bo,cS];refine⟨UH hM.1,n _ _ (IA hX hk) ⟨.inl h.1,NQ cI,?_,?_,?_⟩⟩
 ·unfold B6;cases hf:es.findIdx? fun x=>decide (x.1=k)with
  |none=>
   simp only [bp,bC,List.map_nil];rw [vO];refine⟨h.2.2.1,by simp,fun a ha y hy=>?_⟩;simp only [ej] at hy;subst hy;rintro rfl;obtain⟨x,hx,rfl⟩:=List.mem_map.1 ha;have:=List.findIdx?_eq_none_iff.1 hf x hx;simp at this
  |some j=>simp only;rw [yF (fun x:iD κ=>x.1) (fun x=>(x.1,v,x.2.2)) (fun _=>rfl)];exact h.2.2.1
 ·unfold B6;cases hf:es.findIdx? fun x=>decide (x.1=k)with
  |none=>
   simp only [bp,bC,List.map_nil];rw [vO];refine⟨h.2.2.2.1,by simp,fun a ha y hy=>?_⟩;simp only [ej] at hy;subst hy;rintro rfl;obtain⟨x,hx,he⟩:=List.mem_map.1 ha;have:=h.2.2.2.2 x hx;omega
  |some j=>simp only;rw [yF (fun x:iD κ=>x.2.2) (fun x=>(x.1,v,x.2.2)) (fun _=>rfl)];exact h.2.2.2.1
 ·unfold B6;cases hf:es.findIdx? fun x=>decide (x.1=k)with
  |none=>
   intro x hx;rcases List.mem_append.1 hx with hx|hx
   ·have:=h.2.2.2.2 x hx;show x.2.2<c+1;omega
   ·simp only [ej] at hx;subst hx;exact Nat.lt_succ_self c
  |some j=>
   intro x hx;obtain⟨y,hy,rfl|rfl⟩:=mem_modify hx
   ·exact h.2.2.2.2 _ hy
   ·exact h.2.2.2.2 y hy
def Mb (k:κ) (es:List (iD κ)):List (iD κ):=match es.findIdx? fun x=>decide (x.1=k)with
 |some i=>es.eraseIdx i
 |none=>es
theorem aaZ {t kt et tk ty b c:Nat} {kv:κ→Value} {es:List (iD κ)} {k:κ} {N:Value→World→XS→Prop} (h:jZ w X b kv es c) (K:sy P kt kv)
  (ht:P.underlying t=some (.map kt et)) (hX: ∀k,X k→k<w.heap.size)
  (n: ∀w' X',Grown X w X' w' (some b)→jZ w' X' b kv (Mb k es) c→N (.tuple #[]) w' X'):
  eV P R X w true (iX #[t,tk] ty #[.map (some b),kv k]) N:=by
 intro wa hk;have hM:=h.kp hk;have hb:=hM.2.1;have cI:b<wa.heap.size:=(Array.getElem?_eq_some_iff.1 hb).1;unfold jy;have lH:(Mb k es).Sublist es:=by
  unfold Mb;split
  ·exact List.eraseIdx_sublist _ _
  ·exact List.Sublist.refl _
 have hr:(iX #[t,tk] ty #[.map (some b),kv k]).run P wa= .ok (.tuple #[]) (setBlock wa b (.map ((Mb k es).map (kE kv)).toArray c)):=by
  have e0:(#[t,tk]:Array TypeId)[0]? =some t:=rfl;have e1:(#[Value.map (some b),kv k]:Array Value)[0]? =some (.map (some b)):=rfl;have e2:(#[Value.map (some b),kv k]:Array Value)[1]? =some (kv k):=rfl;simp only [iX,e0,e1,e2,bR,run_underlying ht,bo,getObj,rI,hb,K.aI,eJ,K.find,Ma];unfold Mb;cases hf:es.findIdx? fun x=>decide (x.1=k)with
  |none=>simp [run_setObj_map hb]
  |some j=>
   obtain⟨qB,_,_⟩:=List.findIdx?_eq_some_iff_getElem.1 hf;simp only [cU,cd qB,bL,ed,run_setObj_map hb,bo,cS];simp [Array.eraseIdxIfInBounds,qB,Go.ChangeMaps.map_eraseIdx,run_setObj_map hb]
 simp only [vS,bR,hr,bo,cS];exact⟨UH hM.1,n _ _ (IA hX hk) ⟨.inl h.1,NQ cI,h.2.2.1.sublist (lH.map _),h.2.2.2.1.sublist (lH.map _),fun x hx=>h.2.2.2.2 x (lH.subset hx)⟩⟩
def xC (w:World) (X:XS) (r b:Nat) (kv:κ→Value) (es:List (iD κ)) (c:Nat) (left:List (iD κ)):Prop:=
 jZ w X b kv es c∧X r∧r≠b∧ ∃seen:Array Nat,w.heap[r]? =some (.mapIter (some b) c seen c)∧left=es.filter (fun x=>!seen.contains x.2.2)
theorem xC.kp {r b:Nat} {kv:κ→Value} {es left:List (iD κ)} {c:Nat} {w':World} (h:xC w X r b kv es c left) (hk:Kp X w w'):xC w' X r b kv es c left:=
 ⟨h.1.kp hk,h.2.1,h.2.2.1,let⟨s,hs,hl⟩:=h.2.2.2;⟨s,by rw [hk.block r h.2.1];exact hs,hl⟩⟩
theorem xC.mono {r b:Nat} {kv:κ→Value} {es left:List (iD κ)} {c:Nat} {Y:XS} (h:xC w X r b kv es c left) (hs: ∀k,X k→Y k):xC w Y r b kv es c left:=
 ⟨h.1.mono hs,hs _ h.2.1,h.2.2⟩
theorem xC.since {r b:Nat} {kv:κ→Value} {es left:List (iD κ)} {c:Nat} {Y:XS} {w':World} (h:xC w X r b kv es c left) (hs:aj X w Y w'):xC w' Y r b kv es c left:=
 (h.kp hs.kp).mono hs.sub
theorem acJ {t kt et b c:Nat} {kv:κ→Value} {es:List (iD κ)} {N:Value→World→XS→Prop} (h:jZ w X b kv es c) (ht:P.underlying t=some (.map kt et))
  (hX: ∀k,X k→k<w.heap.size) (n: ∀r w' X',w.heap.size≤r→aj X w X' w'→xC w' X' r b kv es c es→N (ptr r 0) w' X'):
  eV P R X w m (kX t (.map (some b))) N:=by
 intro wa hk;have hM:=h.kp hk;have hb:=hM.2.1;have cI:b<wa.heap.size:=(Array.getElem?_eq_some_iff.1 hb).1;unfold jy;have hr:(kX t (.map (some b))).run P wa= .ok (ptr wa.heap.size 0) (wa.alloc (.mapIter (some b) c #[] c)):=by
  simp [kX,run_underlying ht,getObj,rI,hb]
 simp only [vS,bR,hr,bo,cS];have hx:Ext wa (wa.alloc (.mapIter (some b) c #[] c)):=Ext.alloc _ _;have hs:=aj.fG hX hk hx;exact⟨Step.fG hx,n _ _ _ hk.size hs ⟨h.since hs,.inr ⟨bP _,by simp⟩,by omega,#[],heap_alloc_new wa _,(List.filter_eq_self.2 (by simp)).symm⟩⟩
theorem ael {ty r b c:Nat} {kv:κ→Value} {es left:List (iD κ)} {N:Value→World→XS→Prop} (h:xC w X r b kv es c left) (hX: ∀k,X k→k<w.heap.size)
  (n0:left=[]→ ∀w' X',aj X w X' w'→N (.tuple #[.bool false]) w' X')
  (n1: ∀x∈left,∀w' X',Grown X w X' w' (some r)→xC w' X' r b kv es c (left.filter fun y=>decide (y.2.2≠x.2.2))→
   (∀wa,Kp X' w' wa→(gV (ptr r 0)).run P wa= .ok (.tuple #[kv x.1,x.2.1]) wa)→N (.tuple #[.bool true,kv x.1,x.2.1]) w' X'):
  eV P R X w true (Instr.next (ptr r 0) false ty) N:=by
 intro wa hk;obtain⟨hM,hXr,hrb,seen,hr,Zh⟩:=h.kp hk;have hb:=hM.2.1;have MI:r<wa.heap.size:=(Array.getElem?_eq_some_iff.1 hr).1;unfold jy;have hold: ∀x∈((es.map (kE kv)).toArray).toList,x.born<c:=by
  intro x hx;simp only [eJ,List.mem_map] at hx;obtain⟨y,hy,rfl⟩:=hx;exact hM.2.2.2.2 y hy
 have ez:(leftOf (es.map (kE kv)).toArray seen).toList=left.map (kE kv):=by
  rw [Zh];simp only [leftOf,Array.toList_filter,eJ,List.filter_map];rfl
 rcases run_next_at (P:=P) wa ty r b c c seen _ c hr hb hold (bP _)with⟨hz,Hq⟩|⟨e,he,w1,hw1,Hq⟩
 ·simp only [vS,bR,Hq,bo,cS];have h0:left=[]:=by
   have:left.map (kE kv)=[]:=by rw [←ez];exact cT (by simpa using hz)
   simpa using this
  exact⟨Step.fG (Ext.refl _),n0 h0 _ _ (aj.fG hX hk (Ext.refl _))⟩
 ·rw [ez] at he;obtain⟨x,hx,rfl⟩:=List.mem_map.1 he;simp only [vS,bR,Hq,bo,cS];have uj:Kp X w w1:=by
   rcases hw1 with rfl|rfl
   ·exact hk
   ·exact⟨hk.os,hk.tape,hk.output,hk.size,hk.block⟩
  have af0:r<w1.heap.size:=by rcases hw1 with rfl|rfl<;>exact MI
  have Bm:w1.heap[b]? =some (.map (es.map (kE kv)).toArray c):=by rcases hw1 with rfl|rfl<;>exact hb
  have aiV:Fr X wa w1:=by rcases hw1 with rfl|rfl<;>exact⟨rfl,rfl,rfl,bP _,fun _ _ _=>rfl⟩
  have PZ: ∀o,(setBlock w1 r o).heap[b]? =some (.map (es.map (kE kv)).toArray c):=by
   intro o;rw [←Bm];simp [setBlock,ff,hrb]
  have zT:w1.heap.size=wa.heap.size:=by rcases hw1 with rfl|rfl<;>rfl
  have ag8:grow X wa (setBlock w1 r (.mapIter (some b) c (seen.push x.2.2) c))=grow X w1 (setBlock w1 r (.mapIter (some b) c (seen.push x.2.2) c)):=by
   unfold grow;rw [zT]
  have hG:=IA (o:=.mapIter (some b) c (seen.push x.2.2) c) (b:=r) hX uj;have se:xC (setBlock w1 r (.mapIter (some b) c (seen.push x.2.2) c)) (grow X w1 (setBlock w1 r (.mapIter (some b) c (seen.push x.2.2) c))) r b kv es c (left.filter fun y=>decide (y.2.2≠x.2.2)):=by
   refine⟨⟨.inl hM.1,PZ _,hM.2.2⟩,.inl hXr,hrb,seen.push x.2.2,NQ af0,?_⟩;rw [Zh,List.filter_filter]
   congr 1
   funext y
   by_cases hy:y.2.2=x.2.2<;>simp [hy,Array.contains_push,Bool.beq_eq_decide_eq]
  show Fr X wa _∧N _ _ (grow X wa _)
  refine⟨aiV.trans (UH hXr),?_⟩
  show N (.tuple #[.bool true,kv x.1,x.2.1]) (setBlock w1 r (.mapIter (some b) c (seen.push x.2.2) c)) (grow X wa (setBlock w1 r (.mapIter (some b) c (seen.push x.2.2) c)))
  rw [ag8];refine n1 x hx _ _ hG se fun wb WE=>?_;have aiW:=se.kp WE;have H9:x∈es:=by rw [Zh] at hx;exact(List.mem_filter.1 hx).1
  exact run_entry_at (P:=P) wb r b c seen (es.map (kE kv)).toArray c (kE kv x) (by rw [WE.block r (.inl hXr)];exact NQ af0) aiW.1.2.1 (by rw [eJ];exact List.mem_map.2 ⟨x,H9,rfl⟩)
   (by rw [eJ,List.map_map];exact hM.2.2.2.1)
theorem acK {r:Nat} {k v:Value} {N:Value→World→XS→Prop} (hX: ∀k,X k→k<w.heap.size)
  (h: ∀wa,Kp X w wa→(gV (ptr r 0)).run P wa= .ok (.tuple #[k,v]) wa) (n: ∀w' X',aj X w X' w'→N (.tuple #[k,v]) w' X'):
  eV P R X w m (gV (ptr r 0)) N:=by
 intro wa hk;unfold jy;simp only [vS,bR,h wa hk,bo,cS];exact⟨Step.fG (Ext.refl _),n _ _ (aj.fG hX hk (Ext.refl _))⟩
variable {P : Program} {R : Ending → World → Prop} {X : XS} {w : World} {m : Bool} {N : Value → Prop}
def un (e:Value) (M:Value→Prop):Prop:=M e
def jn {α:Type} (r:α) (B:α→Prop):Prop:=B r
def aT (S f _fo _sz:Nat) (x:Value):Sem Value:=Instr.fieldAt S x f
def ld1 (t:TypeId) (x:Value):Sem Value:=gX t x
def ek (t:TypeId) (_n:Nat) (x:Value):Sem Value:=gX t x
def st1 (t:TypeId) (_n:Nat) (x v:Value):Sem Unit:=Instr.storeAt t x v
def cA (t:TypeId) (_k:Nat) (v i:Value):Sem Value:=Instr.indexAt t v i
def cp (t ty:TypeId) (v:Value):Sem Value:=fg #[t] ty #[v]
def mE (t ty:TypeId) (v:Value):Sem Value:=fg #[t] ty #[v]
def ea (t:TypeId) (_cells:Array Value) (parts:Array (Nat×Value)):Sem Value:=Instr.build t parts
def mF (_k:IntKind) (src dst:TypeId) (x:Value):Sem Value:=convert src dst x
def wh (src dst:TypeId) (x:Value):Sem Value:=convert src dst x
def vy (t _n _e:Nat) (x i:Value):Sem Value:=xz t x i
def gG (t _e _k len:Nat) (parts:Array (Nat×Value)):Sem Value:=kW t len parts
def ga (t _e _k _bytes ty:Nat) (v s:Value):Sem Value:=dQ #[t,t] ty #[v,s]
def fdV (S f _fo _sz:Nat) (x:Value):Sem Value:=Instr.field S x f
abbrev I (x:Int):Value:=.int .i64 x
abbrev B (x:Bool):Value:=.bool x
def y9 (X:XS) (w:World) (F:JT→Nat→World→XS→Prop):Prop:=QO X w [] [] fun J n _ w X=>F J n w X
def gg (X:XS) (w:World) (v1:Value) (c1:Nat) (F:JT→Nat→Value→World→XS→Prop):Prop:=QO X w [v1] [c1] fun J n e w X=>F J n (e c1) w X
def ix (X:XS) (w:World) (v1 v2:Value) (c1 c2:Nat) (F:JT→Nat→Value→Value→World→XS→Prop):Prop:=
 QO X w [v1,v2] [c1,c2] fun J n e w X=>F J n (e c1) (e c2) w X
def rr (X:XS) (w:World) (v1 v2 v3:Value) (c1 c2 c3:Nat) (F:JT→Nat→Value→Value→Value→World→XS→Prop):Prop:=
 QO X w [v1,v2,v3] [c1,c2,c3] fun J n e w X=>F J n (e c1) (e c2) (e c3) w X
def wi (X:XS) (w:World) (v1 v2 v3 v4:Value) (c1 c2 c3 c4:Nat) (F:JT→Nat→Value→Value→Value→Value→World→XS→Prop):Prop:=
 QO X w [v1,v2,v3,v4] [c1,c2,c3,c4] fun J n e w X=>F J n (e c1) (e c2) (e c3) (e c4) w X
def wj (X:XS) (w:World) (v1 v2 v3 v4 v5:Value) (c1 c2 c3 c4 c5:Nat) (F:JT→Nat→Value→Value→Value→Value→Value→World→XS→Prop):Prop:=
 QO X w [v1,v2,v3,v4,v5] [c1,c2,c3,c4,c5] fun J n e w X=>F J n (e c1) (e c2) (e c3) (e c4) (e c5) w X
def za (X:XS) (w:World) (v1 v2 v3 v4 v5 v6:Value) (c1 c2 c3 c4 c5 c6:Nat) (F:JT→Nat→Value→Value→Value→Value→Value→Value→World→XS→Prop):Prop:=
 QO X w [v1,v2,v3,v4,v5,v6] [c1,c2,c3,c4,c5,c6] fun J n e w X=>F J n (e c1) (e c2) (e c3) (e c4) (e c5) (e c6) w X
def zc (X:XS) (w:World) (v1 v2 v3 v4 v5 v6 v7:Value) (c1 c2 c3 c4 c5 c6 c7:Nat) (F:JT→Nat→Value→Value→Value→Value→Value→Value→Value→World→XS→Prop):Prop:=
 QO X w [v1,v2,v3,v4,v5,v6,v7] [c1,c2,c3,c4,c5,c6,c7] fun J n e w X=>F J n (e c1) (e c2) (e c3) (e c4) (e c5) (e c6) (e c7) w X
def zd (J:JT) (n:Nat) (w:World) (X:XS):Prop:=QN J n [] w X
def fY (J:JT) (n:Nat) (a:Value) (w:World) (X:XS):Prop:=QN J n [a] w X
def iy (J:JT) (n:Nat) (a b:Value) (w:World) (X:XS):Prop:=QN J n [a,b] w X
def ru (J:JT) (n:Nat) (a b c:Value) (w:World) (X:XS):Prop:=QN J n [a,b,c] w X
def wm (J:JT) (n:Nat) (a b c d:Value) (w:World) (X:XS):Prop:=QN J n [a,b,c,d] w X
def wo (J:JT) (n:Nat) (a b c d f:Value) (w:World) (X:XS):Prop:=QN J n [a,b,c,d,f] w X
def ze (J:JT) (n:Nat) (a b c d f g:Value) (w:World) (X:XS):Prop:=QN J n [a,b,c,d,f,g] w X
def zf (J:JT) (n:Nat) (a b c d f g h:Value) (w:World) (X:XS):Prop:=QN J n [a,b,c,d,f,g,h] w X
def J1 (I:Nat→Value→World→XS→Prop):JT:=fun n vs w X=>match vs with
 |[a]=>I n a w X
 |_=>False
def J2 (I:Nat→Value→Value→World→XS→Prop):JT:=fun n vs w X=>match vs with
 |[a,b]=>I n a b w X
 |_=>False
def J3 (I:Nat→Value→Value→Value→World→XS→Prop):JT:=fun n vs w X=>match vs with
 |[a,b,c]=>I n a b c w X
 |_=>False
def J4 (I:Nat→Value→Value→Value→Value→World→XS→Prop):JT:=fun n vs w X=>match vs with
 |[a,b,c,d]=>I n a b c d w X
 |_=>False
def J5 (I:Nat→Value→Value→Value→Value→Value→World→XS→Prop):JT:=fun n vs w X=>match vs with
 |[a,b,c,d,f]=>I n a b c d f w X
 |_=>False
theorem eA {v1 c1 F} (I:Nat→Value→World→XS→Prop) (n:Nat) (h0:I n v1 w X)
  (h: ∀n a w' X',I n a w' X'→F (J1 I) n a w' X'):gg X w v1 c1 F:=⟨J1 I,⟨n,h0⟩,fun n e w' X' _ hj=>h n (e c1) w' X' hj⟩
theorem fT {v1 v2 c1 c2 F} (I:Nat→Value→Value→World→XS→Prop) (n:Nat) (h0:I n v1 v2 w X)
  (h: ∀n a b w' X',I n a b w' X'→F (J2 I) n a b w' X'):ix X w v1 v2 c1 c2 F:=⟨J2 I,⟨n,h0⟩,fun n e w' X' _ hj=>h n (e c1) (e c2) w' X' hj⟩
theorem Bg {v1 v2 v3 c1 c2 c3 F} (I:Nat→Value→Value→Value→World→XS→Prop) (n:Nat) (h0:I n v1 v2 v3 w X)
  (h: ∀n a b c w' X',I n a b c w' X'→F (J3 I) n a b c w' X'):rr X w v1 v2 v3 c1 c2 c3 F:=⟨J3 I,⟨n,h0⟩,fun n e w' X' _ hj=>h n (e c1) (e c2) (e c3) w' X' hj⟩
theorem afr {v1 v2 v3 v4 c1 c2 c3 c4 F} (I:Nat→Value→Value→Value→Value→World→XS→Prop) (n:Nat) (h0:I n v1 v2 v3 v4 w X)
  (h: ∀n a b c d w' X',I n a b c d w' X'→F (J4 I) n a b c d w' X'):wi X w v1 v2 v3 v4 c1 c2 c3 c4 F:=
 ⟨J4 I,⟨n,h0⟩,fun n e w' X' _ hj=>h n (e c1) (e c2) (e c3) (e c4) w' X' hj⟩
theorem afG {v1 v2 v3 v4 v5 c1 c2 c3 c4 c5 F} (I:Nat→Value→Value→Value→Value→Value→World→XS→Prop) (n:Nat) (h0:I n v1 v2 v3 v4 v5 w X)
  (h: ∀n a b c d f w' X',I n a b c d f w' X'→F (J5 I) n a b c d f w' X'):wj X w v1 v2 v3 v4 v5 c1 c2 c3 c4 c5 F:=
 ⟨J5 I,⟨n,h0⟩,fun n e w' X' _ hj=>h n (e c1) (e c2) (e c3) (e c4) (e c5) w' X' hj⟩
theorem en {I n a} (k:Nat) (hk:k<n) (h:I k a w X):fY (J1 I) n a w X:=⟨k,hk,h⟩
theorem eR {I n a b} (k:Nat) (hk:k<n) (h:I k a b w X):iy (J2 I) n a b w X:=⟨k,hk,h⟩
theorem zg {I n a b c} (k:Nat) (hk:k<n) (h:I k a b c w X):ru (J3 I) n a b c w X:=⟨k,hk,h⟩
theorem afu {I n a b c d} (k:Nat) (hk:k<n) (h:I k a b c d w X):wm (J4 I) n a b c d w X:=⟨k,hk,h⟩
theorem afH {I n a b c d f} (k:Nat) (hk:k<n) (h:I k a b c d f w X):wo (J5 I) n a b c d f w X:=⟨k,hk,h⟩
theorem dJ {α:Type} {r:α} {F:α→Prop} (h:F r):jn r F:=h
theorem ir {α:Type} {r:α} {F:α→Prop} (Q:α→Prop) (h:Q r) (k: ∀c,Q c→F c):jn r F:=k r h
theorem aem {l:List Value} {i:Nat} {a:Value} {M:Value→Prop} (h:l[i]? =some a) (k:M a):un (cellOf (.agg l.toArray) i) M:=by
 have:cellOf (.agg l.toArray) i=a:=by simp [cellOf,aa,uO,h]
 unfold un;rw [this];exact k
theorem aam {l:List Value} {o n:Nat} {M:Value→Prop} (k:M (.agg ((l.drop o).take n).toArray)):un (cj (.agg l.toArray) o n) M:=by
 have:cj (.agg l.toArray) o n= .agg ((l.drop o).take n).toArray:=by simp [cj,aa]
 unfold un;rw [this];exact k
theorem aal {c:Array Value} {M:Value→Prop} (k:M (.agg c)):un (.agg (aa (.agg c))) M:=k
theorem tq {v:Value} {M:Value→Prop} (k:M v):un (aB (.bool true) true v) M:=k
theorem Xh {v:Value} {M:Value→Prop} (k:M v):un (aB (.bool false) false v) M:=k
theorem Ug {v:Value} {M:Value→Prop} (k:M undef):un (aB (.bool true) false v) M:=k
theorem pK {v:Value} {M:Value→Prop} (k:M undef):un (aB (.bool false) true v) M:=k
theorem aen {v:Value} {q:Bool} {M:Value→Prop} (k:M undef):un (aB undef q v) M:=by
 have:aB undef q v=undef:=by cases q<;>rfl
 unfold un;rw [this];exact k
theorem Zi {b:Bool} {A:Prop} (h:b=true) (k:A):aI b A:=by subst h;exact k
theorem aeo {A C:Prop} (h:A):au (.bool true) A C:=⟨fun _=>h,fun h=>absurd h (by simp)⟩
theorem aep {A C:Prop} (h:C):au (.bool false) A C:=⟨fun h=>absurd h (by simp),fun _=>h⟩
theorem af1 {s:Sem Next} {want:Bool} (h:N undef):ay P X w undef want s N:=by
 have e:kI undef want=false:=by cases want<;>rfl
 unfold ay;exact⟨undef,fun hf=>absurd (e.symm.trans hf) (by simp),fun _=>rfl,h⟩
theorem aiX {want:Bool} {A C:Prop} (h:C):gE undef want A C:=by
 have e:kI undef want=false:=by cases want<;>rfl
 unfold gE;rw [e];exact⟨fun hf=>absurd hf (by simp),fun _=>h⟩
theorem B1 {s:Sem Value} (h:ab P X w s N):ay P X w (.bool true) true (vS s) N:=Jt h
theorem acL {s:Sem Value} (h:ab P X w s N):ay P X w (.bool false) false (vS s) N:=Jt h
section
variable {t : TypeId} {k : IntKind} {a b : Int} {xo yo : Operand}
theorem Zj (hT:a<b→N (.bool true)) (hF: ¬a<b→N (.bool false)):ab P X w (binOp .lss t (.int k a) (.int k b)) N:=
 Xi (by by_cases h:a<b;(· rw [decide_eq_true h];exact hT h);(· rw [decide_eq_false h];exact hF h))
theorem Zk (hT:a≤b→N (.bool true)) (hF: ¬a≤b→N (.bool false)):ab P X w (binOp .leq t (.int k a) (.int k b)) N:=
 aec (by by_cases h:a≤b;(· rw [decide_eq_true h];exact hT h);(· rw [decide_eq_false h];exact hF h))
theorem Zl (hT:a>b→N (.bool true)) (hF: ¬a>b→N (.bool false)):ab P X w (binOp .gtr t (.int k a) (.int k b)) N:=
 aed (by by_cases h:a>b;(· rw [decide_eq_true h];exact hT h);(· rw [decide_eq_false h];exact hF h))
theorem Zm (hT:a≥b→N (.bool true)) (hF: ¬a≥b→N (.bool false)):ab P X w (binOp .geq t (.int k a) (.int k b)) N:=
 aee (by by_cases h:a≥b;(· rw [decide_eq_true h];exact hT h);(· rw [decide_eq_false h];exact hF h))
theorem Zn (hT:a=b→N (.bool true)) (hF: ¬a=b→N (.bool false)):ab P X w (aF .eql t xo yo (.int k a) (.int k b)) N:=
 OX (by by_cases h:a=b;(· rw [decide_eq_true h];exact hT h);(· rw [decide_eq_false h];exact hF h))
theorem Zo (hT: ¬a=b→N (.bool true)) (hF:a=b→N (.bool false)):ab P X w (aF .neq t xo yo (.int k a) (.int k b)) N:=
 aeh (by by_cases h:a=b;(· rw [decide_eq_false (fun hn=>hn h)];exact hF h);(· rw [decide_eq_true h];exact hT h))
theorem af2 (h:a<b) (k':N (.bool true)):ab P X w (binOp .lss t (.int k a) (.int k b)) N:=Zj (fun _=>k') (fun hn=>absurd h hn)
theorem af3 (h: ¬a<b) (k':N (.bool false)):ab P X w (binOp .lss t (.int k a) (.int k b)) N:=Zj (fun hn=>absurd hn h) (fun _=>k')
theorem af4 (h:a≤b) (k':N (.bool true)):ab P X w (binOp .leq t (.int k a) (.int k b)) N:=Zk (fun _=>k') (fun hn=>absurd h hn)
theorem af5 (h: ¬a≤b) (k':N (.bool false)):ab P X w (binOp .leq t (.int k a) (.int k b)) N:=Zk (fun hn=>absurd hn h) (fun _=>k')
theorem af6 (h:a>b) (k':N (.bool true)):ab P X w (binOp .gtr t (.int k a) (.int k b)) N:=Zl (fun _=>k') (fun hn=>absurd h hn)
theorem af7 (h: ¬a>b) (k':N (.bool false)):ab P X w (binOp .gtr t (.int k a) (.int k b)) N:=Zl (fun hn=>absurd hn h) (fun _=>k')
theorem af8 (h:a≥b) (k':N (.bool true)):ab P X w (binOp .geq t (.int k a) (.int k b)) N:=Zm (fun _=>k') (fun hn=>absurd h hn)
theorem af9 (h: ¬a≥b) (k':N (.bool false)):ab P X w (binOp .geq t (.int k a) (.int k b)) N:=Zm (fun hn=>absurd hn h) (fun _=>k')
theorem aga (h:a=b) (k':N (.bool true)):ab P X w (aF .eql t xo yo (.int k a) (.int k b)) N:=Zn (fun _=>k') (fun hn=>absurd h hn)
theorem agb (h: ¬a=b) (k':N (.bool false)):ab P X w (aF .eql t xo yo (.int k a) (.int k b)) N:=Zn (fun hn=>absurd hn h) (fun _=>k')
theorem agc (h: ¬a=b) (k':N (.bool true)):ab P X w (aF .neq t xo yo (.int k a) (.int k b)) N:=Zo (fun _=>k') (fun hn=>absurd hn h)
theorem agd (h:a=b) (k':N (.bool false)):ab P X w (aF .neq t xo yo (.int k a) (.int k b)) N:=Zo (fun hn=>absurd h hn) (fun _=>k')
theorem adl (h1: -(2^63)≤a+b) (h2:a+b<2^63) (h:N (.int .i64 (a+b))):ab P X w (binOp .add t (.int .i64 a) (.int .i64 b)) N:=
 mI (by rw [wrap_i64 h1 h2];exact h)
theorem adm (h1: -(2^63)≤a-b) (h2:a-b<2^63) (h:N (.int .i64 (a-b))):ab P X w (binOp .sub t (.int .i64 a) (.int .i64 b)) N:=
 aef (by rw [wrap_i64 h1 h2];exact h)
end
theorem Fi {a b:ByteArray} :a.toList=b.toList↔a=b:=by
 constructor
 ·intro h;rw [gR,gR] at h;obtain⟨⟨x⟩⟩:=a;obtain⟨⟨y⟩⟩:=b;simpa using h
 ·intro h;rw [h]
def pd (a b:ByteArray):Bool:=cR a.toList b.toList
section
variable {t : TypeId} {a b : ByteArray} {xo yo : Operand}
theorem age (hT:a=b→N (.bool true)) (hF: ¬a=b→N (.bool false)):ab P X w (aF .eql t xo yo (.string a) (.string b)) N:=
 acr (by simp only [Fi];by_cases h:a=b;(· rw [decide_eq_true h];exact hT h);(· rw [decide_eq_false h];exact hF h))
theorem agf (hT: ¬a=b→N (.bool true)) (hF:a=b→N (.bool false)):ab P X w (aF .neq t xo yo (.string a) (.string b)) N:=
 acs (by simp only [ne_eq,Fi];by_cases h:a=b;(· rw [decide_eq_false (fun hn=>hn h)];exact hF h);(· rw [decide_eq_true h];exact hT h))
theorem agh (hT:pd a b=false→N (.bool true)) (hF:pd a b=true→N (.bool false)):ab P X w (binOp .geq t (.string a) (.string b)) N:=
 acu (by unfold pd at hT hF;cases h:cR a.toList b.toList;(· exact hT h);(· exact hF h))
theorem agi (hT:pd a b=true∨a=b→N (.bool true)) (hF:pd a b=false→ ¬a=b→N (.bool false)):ab P X w (binOp .leq t (.string a) (.string b)) N:=
 acv (by
  unfold pd at hT hF;simp only [Fi];cases h:cR a.toList b.toList
  ·by_cases h2:a=b
   ·simp only [h2,decide_true,Bool.or_true];exact hT (.inr h2)
   ·simp only [h2,decide_false,Bool.or_false];exact hF h h2
  ·simp only [Bool.true_or];exact hT (.inl h))
end
def Cr (a b:Nat):Bool:=FloatKind.f64.format.order a b==some .lt
def zU (a b:Nat):Bool:=FloatKind.f64.format.order a b==some .eq
def F5 (a b:Nat):Bool:=FloatKind.f64.format.order a b==some .gt
section
variable {t : TypeId} {a b : Nat} {xo yo : Operand}
theorem agj (hT:Cr a b=true→N (.bool true)) (hF:Cr a b=false→N (.bool false)):ab P X w (binOp .lss t (.float .f64 a) (.float .f64 b)) N:=
 acw (by unfold Cr at hT hF;cases h:(FloatKind.f64.format.order a b==some .lt);(· exact hF h);(· exact hT h))
theorem agk (hT:F5 a b=true→N (.bool true)) (hF:F5 a b=false→N (.bool false)):ab P X w (binOp .gtr t (.float .f64 a) (.float .f64 b)) N:=
 acy (by unfold F5 at hT hF;cases h:(FloatKind.f64.format.order a b==some .gt);(· exact hF h);(· exact hT h))
theorem agl (hT:Cr a b=true∨zU a b=true→N (.bool true)) (hF:Cr a b=false→zU a b=false→N (.bool false)):ab P X w (binOp .leq t (.float .f64 a) (.float .f64 b)) N:=
 acx (by
  unfold Cr zU at hT hF;cases h:(FloatKind.f64.format.order a b==some .lt)
  ·cases h2:(FloatKind.f64.format.order a b==some .eq)
   ·exact hF h h2
   ·exact hT (.inr h2)
  ·exact hT (.inl h))
theorem agm (hT:F5 a b=true∨zU a b=true→N (.bool true)) (hF:F5 a b=false→zU a b=false→N (.bool false)):ab P X w (binOp .geq t (.float .f64 a) (.float .f64 b)) N:=
 acz (by
  unfold F5 zU at hT hF;cases h:(FloatKind.f64.format.order a b==some .gt)
  ·cases h2:(FloatKind.f64.format.order a b==some .eq)
   ·exact hF h h2
   ·exact hT (.inr h2)
  ·exact hT (.inl h))
theorem agn (hT:zU a b=false→N (.bool true)) (hF:zU a b=true→N (.bool false)):ab P X w (aF .neq t xo yo (.float .f64 a) (.float .f64 b)) N:=
 acA (by
  unfold zU at hT hF
  show N (.bool (!(FloatKind.f64.format.order a b==some .eq)))
  cases h:(FloatKind.f64.format.order a b==some .eq)
  ·exact hT h
  ·exact hF h)
end
theorem ago (h:N (.bool false)):ab P X w (aU .not (.bool true)) N:=Xt h
theorem agp (h:N (.bool true)):ab P X w (aU .not (.bool false)) N:=Xt h
section
variable {t : TypeId} {xo yo : Operand} {a b c a' b' c' : Int}
theorem aa0 (h:gB P t 3=true) (hT:a=a'→b=b'→c=c'→N (.bool true)) (hF: ¬(a=a'∧b=b'∧c=c')→N (.bool false)):
  ab P X w (aF .eql t xo yo (.agg #[.int .i64 a,.int .i64 b,.int .i64 c]) (.agg #[.int .i64 a',.int .i64 b',.int .i64 c'])) N:=
 LZ h (by by_cases hc:a=a'∧b=b'∧c=c';(· rw [decide_eq_true hc];exact hT hc.1 hc.2.1 hc.2.2);(· rw [decide_eq_false hc];exact hF hc))
theorem aax (h:gB P t 3=true) (hT: ¬(a=a'∧b=b'∧c=c')→N (.bool true)) (hF:a=a'→b=b'→c=c'→N (.bool false)):
  ab P X w (aF .neq t xo yo (.agg #[.int .i64 a,.int .i64 b,.int .i64 c]) (.agg #[.int .i64 a',.int .i64 b',.int .i64 c'])) N:=
 acG h (by by_cases hc:a=a'∧b=b'∧c=c';(· rw [decide_eq_true hc];exact hF hc.1 hc.2.1 hc.2.2);(· rw [decide_eq_false hc];exact hT hc))
end
theorem ag9 {t:TypeId} {b o:Nat} {v:Value} {l:List Value} (h:Cells w X b o l) (hi:je P t=some (false,1)) (hl:l[0]? =some v) (k:N v):
  ab P X w (ld1 t (ptr b o)) N:=by
 cases l with
 |nil=>cases hl
 |cons x r=>
  simp only [iI,az] at hl;subst hl;exact aaU h hi k
theorem xf {α:Type} {enc:α→List Value} {t ty:TypeId} {k:Nat} {v:Value} {xs:List α} (h:Sl w X k v (xs.map enc))
  (ht:P.underlying t=some (.slice (P.elem t))) (n:N (.int .i64 xs.length)):ab P X w (cp t ty v) N:=acE h ht n
theorem aha {t ty:TypeId} {s:ByteArray} (ht:P.underlying t=some .string) (k:N (.int .i64 s.size)):ab P X w (mE t ty (.string s)) N:=acD ht k
theorem XT {t:TypeId} {parts:Array (Nat×Value)} {cells:Array Value} (h:P.built t parts.toList=some cells) (k:N (.agg cells)):
  ab P X w (ea t cells parts) N:=aaW cells h k
theorem RL {a:Addr} (h:N (.pointer (some a))):ax P X w (aP (.pointer (some a))) N:=aej h
theorem dI {f:FuncId} {args:Array Value} {b:Bool} {N:Value→World→XS→Prop}
  (h:Pure P f args (.bool b)) (hf:enters P f=true) (hX: ∀k,X k→k<w.heap.size)
  (hT:b=true→ ∀w' X',aj X w X' w'→N (.bool true) w' X') (hF:b=false→ ∀w' X',aj X w X' w'→N (.bool false) w' X'):
  eC P R X w m f args N:=Xu hf hX h (by
  cases b
  ·exact hF rfl
  ·exact hT rfl)
theorem gh {f:FuncId} {args:Array Value} {v:Value} {N:Value→World→XS→Prop}
  (h:Pure P f args v) (hf:enters P f=true) (hX: ∀k,X k→k<w.heap.size)
  (k: ∀w' X',aj X w X' w'→N v w' X'):eC P R X w m f args N:=Xu hf hX h k
structure eo (F X:XS) (w:World) (X':XS) (w':World):Prop where
 os:w'.os=w.os
 tape:w'.tape=w.tape
 output:w'.output=w.output
 size:w.heap.size≤w'.heap.size
 block: ∀k,X k→ ¬F k→w'.heap[k]? =w.heap[k]?
 sub: ∀k,X k→X' k
 has: ∀k,X' k→k<w'.heap.size
theorem eo.since {F Y X':XS} {w':World} (c:eo F X w X' w') (hY: ∀k,Y k→X k∧ ¬F k):aj Y w X' w':=
 ⟨⟨c.os,c.tape,c.output,c.size,fun k hk=>c.block k (hY k hk).1 (hY k hk).2⟩,fun k hk=>c.sub k (hY k hk).1,c.has⟩
theorem aj.dK {F X0 X':XS} {w0 w':World} (h:aj X0 w0 X w) (c:eo F X w X' w') (hd: ∀k,X0 k→ ¬F k):aj X0 w0 X' w':=
 ⟨⟨c.os.trans h.kp.os,c.tape.trans h.kp.tape,c.output.trans h.kp.output,af h.kp.size c.size,
  fun k hk=>(c.block k (h.sub k hk) (hd k hk)).trans (h.kp.block k hk)⟩,fun k hk=>c.sub k (h.sub k hk),c.has⟩
theorem eo.RS {F:XS} {wa w':World} (hX: ∀k,X k→k<w.heap.size) (hk:Kp X w wa) (hf:Fr F wa w'):eo F X w (grow X wa w') w':=
 ⟨hf.os.trans hk.os,hf.tape.trans hk.tape,hf.output.trans hk.output,af hk.size hf.size,
  fun k hx hn=>(hf.block k (aN (hX k hx) hk.size) hn).trans (hk.block k hx),fun _ h=>.inl h,
  fun k h=>h.elim (fun h=>aN (hX k h) (af hk.size hf.size)) (fun h=>h.2)⟩
theorem eo.qW {X':XS} {w':World} (h:aj X w X' w') (F:XS):eo F X w X' w':=
 ⟨h.kp.os,h.kp.tape,h.kp.output,h.kp.size,fun k hk _=>h.kp.block k hk,h.sub,h.has⟩
theorem Grown.dK {X':XS} {w':World} {row:Option Nat} (g:Grown X w X' w' row):eo (fun k=>some k=row) X w X' w':=
 ⟨g.os,g.tape,g.output,g.size,fun k hk hn=>g.block k hk hn,g.sub,g.has⟩
theorem eo.trans {F X' r6:XS} {w' nj:World} (a:eo F X w X' w') (b:eo F X' w' r6 nj):eo F X w r6 nj:=
 ⟨b.os.trans a.os,b.tape.trans a.tape,b.output.trans a.output,af a.size b.size,
  fun k hk hn=>(b.block k (a.sub k hk) hn).trans (a.block k hk hn),fun k hk=>b.sub k (a.sub k hk),b.has⟩
theorem eo.mono {F G X':XS} {w':World} (a:eo F X w X' w') (h: ∀k,X k→F k→G k):eo G X w X' w':=
 ⟨a.os,a.tape,a.output,a.size,fun k hk hn=>a.block k hk fun hf=>hn (h k hk hf),a.sub,a.has⟩
def made (w w':World):XS:=fun g=>w.heap.size≤g∧g<w'.heap.size
def out (F:XS) (w:World):XS:=fun k=>k<w.heap.size∧ ¬F k
def Bs (F:XS) (w0:World) (Q:Value→World→Prop):Ending→World→Prop:=fun e w'=> ∃v,e= .returned v∧Fr F w0 w'∧Q v w'
def Ct (P:Program) (f:FuncId) (args:Array Value) (w:World) (X F:XS) (Q:Value→World→World→Prop):Prop:=
 ∀wa,Kp X w wa→Calls P f args wa (Bs F wa fun v w'=>Q v wa w')
theorem Ct.mono {f:FuncId} {args:Array Value} {F:XS} {Q Q':Value→World→World→Prop} (h:Ct P f args w X F Q) (k: ∀v wa w',Kp X w wa→Q v wa w'→Q' v wa w'):Ct P f args w X F Q':=
 fun wa hk=>(h wa hk).mono fun _ _ ⟨v,he,hf,hq⟩=>⟨v,he,hf,k v wa _ hk hq⟩
theorem ep {f:FuncId} {args:Array Value} {N:Value→World→XS→Prop} {Q:Value→World→World→Prop}
  (h:Ct P f args w X nX Q) (hf:enters P f=true) (hX: ∀k,X k→k<w.heap.size)
  (k: ∀v wa w' X',Q v wa w'→w.heap.size≤wa.heap.size→(∀k,made wa w' k→X' k)→aj X w X' w'→N v w' X'):eC P R X w m f args N:=
 UF (Q:=Q) hf hX h fun v wa w' X' hk _ hn hq hs=>k v wa w' X' hq hk.size (fun g hg=>hn g hg.1 hg.2) hs
theorem Ol {f:FuncId} {args:Array Value} {N:Value→World→XS→Prop} {F:XS} {Q:Value→World→World→Prop}
  (h:Ct P f args w X F Q) (hf:enters P f=true) (hX: ∀k,X k→k<w.heap.size) (hF: ∀k,F k→X k)
  (k: ∀v wa w' X',Q v wa w'→w.heap.size≤wa.heap.size→(∀k,made wa w' k→X' k)→Kp X w wa→eo F X w X' w'→N v w' X'):eC P R X w true f args N:=by
 intro wa hk;unfold jy;rw [tj hf args wa];refine⟨rfl,(h wa hk).mono ?_⟩;rintro e w' ⟨v,rfl,sh,hq⟩;exact⟨sh.mono hF,k v wa w' _ hq hk.size (fun g hg=>.inr hg) hk (eo.RS hX hk sh)⟩
theorem ai {w0:World} {v:Value} {Q:Value→World→Prop} (hs:aj (aR w0) w0 X w) (h: ∀wa,Kp X w wa→Q v wa):fin (Bs nX w0 Q) X w v:=
 fun _ hk=>⟨v,rfl,hs.ext hk,h _ hk⟩
theorem nB {w0:World} {v:Value} {F:XS} {Q:Value→World→Prop} (hs:aj (out F w0) w0 X w) (h: ∀wa,Kp X w wa→Q v wa):fin (Bs F w0 Q) X w v:=
 fun _ hk=>⟨v,rfl,⟨hk.os.trans hs.kp.os,hk.tape.trans hs.kp.tape,hk.output.trans hs.kp.output,af hs.kp.size hk.size,
  fun k hl hn=>(hk.block k (hs.sub k ⟨hl,hn⟩)).trans (hs.kp.block k ⟨hl,hn⟩)⟩,h _ hk⟩
theorem aj.out (F:XS) (w:World):aj (out F w) w (aR w) w:=⟨Kp.refl _ _,fun _ h=>h.1,fun _ h=>h⟩
theorem Own.up {w' wa:World} {X':XS} {lo e k:Nat} {v:Value} {rows:List (List Value)} (h:Own w' (made wa w') wa.heap.size e k v rows) (eH: ∀k,made wa w' k→X' k) (hl:lo≤wa.heap.size):
  Own w' X' lo e k v rows:=(h.mono eH).low hl
theorem Own.dK {F X':XS} {w':World} {lo e k:Nat} {v:Value} {rows:List (List Value)} (h:Own w X lo e k v rows) (c:eo F X w X' w') (hd: ∀g,v.ownBlock=some g→ ¬F g):Own w' X' lo e k v rows:=by
 obtain⟨h1,h2,h3⟩:=h;refine⟨h1,⟨h2.1,?_⟩,fun g hg=>c.sub g (h3 g hg)⟩;rcases h2.2 with h|⟨g,cap,cur,rfl,hb,hg,hr⟩
 ·exact .inl h
 ·exact .inr ⟨g,cap,cur,rfl,hb,by rw [c.block g (h3 g rfl) (hd g rfl)];exact hg,hr⟩
theorem Sl.sub {k:Nat} {v:Value} {rows:List (List Value)} {Y:XS} (h:Sl w X k v rows) (hs: ∀k,X k→k<w.heap.size→Y k):Sl w Y k v rows:=by
 obtain⟨h1,h2,base,cap,hv,hc,hr⟩:=h;exact⟨h1,h2,base,cap,hv,fun cn=>let⟨b,o,hb,mg⟩:=hc cn;⟨b,o,hb,hs _ mg.1 mg.lt,mg.2⟩,hr⟩
theorem Sl.len {k:Nat} {v:Value} {rows:List (List Value)} (h:Sl w X k v rows):rows.length≤2^63-1:=h.2.1
theorem Sl.gw {α:Type} {enc:α→List Value} {k:Nat} {v:Value} {xs:List α} (h:Sl w X k v (xs.map enc)):xs.length≤2^63-1:=by have:=h.2.1;simpa using this
theorem Cells.sub {b o:Nat} {l:List Value} {Y:XS} (h:Cells w X b o l) (hs: ∀k,X k→k<w.heap.size→Y k):Cells w Y b o l:=⟨hs _ h.1 h.lt,h.2⟩
theorem Cells.aR {b o:Nat} {l:List Value} (h:Cells w X b o l):Cells w (aR w) b o l:=⟨h.lt,h.2⟩
variable {P : Program} {R : Ending → World → Prop} {X Y Z : XS} {w w' nj : World} {m : Bool} {N : Value → Prop} {α : Type}
def Mv (X:XS) (w:World) (Y:XS) (w':World):Prop:= ∀k,X k→k<w.heap.size→Y k∧w'.heap[k]? =w.heap[k]?
theorem Mv.trans (a:Mv X w Y w') (b:Mv Y w' Z nj):Mv X w Z nj:=fun k hk hl=>by
 obtain⟨h1,h2⟩:=a k hk hl;have jE:k<w'.heap.size:=by
  have:w'.heap[k]? =some w.heap[k]:=by rw [h2];exact Array.getElem?_eq_getElem hl
  exact(Array.getElem?_eq_some_iff.1 this).1
 obtain⟨h3,h4⟩:=b k h1 jE;exact⟨h3,h4.trans h2⟩
theorem aj.mv (h:aj X w Y w'):Mv X w Y w':=fun k hk _=>⟨h.sub k hk,h.kp.block k hk⟩
theorem _root_.Go.bB.Kp.mv (h:Kp X w w'):Mv X w X w':=fun k hk _=>⟨hk,h.block k hk⟩
theorem Mv.aR:Mv X w (aR w) w:=fun _ _ hl=>⟨hl,rfl⟩
theorem _root_.Go.bB.Kp.cE (h:Kp X w w'):Mv X w (aR w') w':=h.mv.trans Mv.aR
theorem Mv.out {F:XS} (h: ∀k,X k→ ¬F k):Mv X w (bB.out F w) w:=fun k hk hl=>⟨⟨hl,h k hk⟩,rfl⟩
theorem Mv.sub (h: ∀k,X k→Y k):Mv X w Y w:=fun k hk _=>⟨h k hk,rfl⟩
theorem Ext.mv (h:Ext w w'):Mv (bB.aR w) w (bB.aR w') w':=fun _ _ hl=>⟨aN hl h.size,h.block hl⟩
theorem eo.mv {F A:XS} (c:eo F X w Y w') (h: ∀k,A k→X k∧ ¬F k):Mv A w Y w':=fun k hk _=>⟨c.sub k (h k hk).1,c.block k (h k hk).1 (h k hk).2⟩
theorem Cells.mv {b o:Nat} {l:List Value} (h:Cells w X b o l) (v:Mv X w Y w'):Cells w' Y b o l:=by
 have hl:=h.lt;obtain⟨hx,cs,t,fr,hb,hc⟩:=h;obtain⟨h1,h2⟩:=v b hx hl;exact⟨h1,cs,t,fr,by rw [h2];exact hb,hc⟩
theorem Sl.mv {k:Nat} {v:Value} {rows:List (List Value)} (h:Sl w X k v rows) (m:Mv X w Y w'):Sl w' Y k v rows:=by
 obtain⟨h1,h2,base,cap,hv,hc,hr⟩:=h;exact⟨h1,h2,base,cap,hv,fun cn=>let⟨b,o,hb,mg⟩:=hc cn;⟨b,o,hb,mg.mv m⟩,hr⟩
theorem Sl.form {k:Nat} {v:Value} {rows:List (List Value)} (h:Sl w X k v rows): ∃b n c,v= .slice b n c:=let⟨_,_,b,c,hv,_⟩:=h;⟨b,_,c,hv⟩
theorem bN.mv {b:Nat} {cs:List Value} {ty:TypeId} (h:bN w X b cs ty) (m:Mv X w Y w'):bN w' Y b cs ty:=by
 obtain⟨h1,h2⟩:=m b h.1 (Array.getElem?_eq_some_iff.1 h.2).1;exact⟨h1,by rw [h2];exact h.2⟩
theorem jZ.mv {κ:Type} {b:Nat} {kv:κ→Value} {es:List (iD κ)} {c:Nat} (h:jZ w X b kv es c) (m:Mv X w Y w'):jZ w' Y b kv es c:=by
 obtain⟨h1,h2⟩:=m b h.1 (Array.getElem?_eq_some_iff.1 h.2.1).1;exact⟨h1,by rw [h2];exact h.2.1,h.2.2⟩
theorem Own.mv {lo e k:Nat} {v:Value} {rows:List (List Value)} (h:Own w X lo e k v rows) (m:Mv X w Y w'):Own w' Y lo e k v rows:=by
 obtain⟨h1,h2,h3⟩:=h;refine⟨h1,⟨h2.1,?_⟩,fun g hg=>(m g (h3 g hg) (h2.lt g hg).2).1⟩;rcases h2.2 with h|⟨g,cap,cur,rfl,hb,hg,hr⟩
 ·exact .inl h
 ·exact .inr ⟨g,cap,cur,rfl,hb,by rw [(m g (h3 g rfl) (Array.getElem?_eq_some_iff.1 hg).1).2];exact hg,hr⟩
def gq (w:World) (X:XS) (k:Nat) (v:Value) (rd:World→XS→List Value→α→Prop) (xs:List α):Prop:=
 ∃rows,Sl w X k v rows∧rows.length=xs.length∧ ∀(i:Nat) l x,rows[i]? =some l→xs[i]? =some x→rd w X l x
def E9 (rd:World→XS→List Value→α→Prop):Prop:= ∀{X Y:XS} {w w':World} {l:List Value} {x:α},rd w X l x→Mv X w Y w'→rd w' Y l x
theorem gq.mv {k:Nat} {v:Value} {rd:World→XS→List Value→α→Prop} {xs:List α} (h:gq w X k v rd xs) (hm:E9 rd) (m:Mv X w Y w'):gq w' Y k v rd xs:=by
 obtain⟨rows,h1,h2,h3⟩:=h;exact⟨rows,h1.mv m,h2,fun i l x hl hx=>hm (h3 i l x hl hx) m⟩
theorem gq.nil {rd:World→XS→List Value→α→Prop} (w:World) (X:XS) (k:Nat):gq w X k (.slice none 0 0) rd []:=⟨[],Sl.nil w X k,rfl,by simp⟩
theorem gq.one {k:Nat} {v:Value} {rd:World→XS→List Value→α→Prop} {xs:List α} (h:gq w X k v rd xs):one v=true:=let⟨_,h1,_⟩:=h;h1.one
theorem gq.len {k:Nat} {v:Value} {rd:World→XS→List Value→α→Prop} {xs:List α} (h:gq w X k v rd xs):xs.length≤2^63-1:=by
 obtain⟨_,h1,h2,_⟩:=h;rw [←h2];exact h1.2.1
theorem Mv.refl (X:XS) (w:World):Mv X w X w:=fun _ hk _=>⟨hk,rfl⟩
theorem mv0:Mv X w X w:=Mv.refl _ _
theorem mv1 (h:aj X w Y w'):Mv X w Y w':=h.mv
theorem nq1 {l:List Value} :l.toArray.toList=l:=rfl
theorem nq2 {i:Nat} {a:Value} {l:List Value} :(a::l).take (i+1)=a::l.take i:=rfl
theorem nq3 {i:Nat} {a:Value} {l:List Value} :(a::l).drop (i+1)=l.drop i:=rfl
theorem nq4 {l:List Value} :l.take 0=[]:=rfl
theorem nq5 {l:List Value} :l.drop 0=l:=rfl
theorem nq6 {i:Nat} :([]:List Value).take i=[]:=List.take_nil
theorem nq7 {a:Value} {l:List Value} :(a::l).length=l.length+1:=rfl
theorem nq8:([]:List Value).length=0:=rfl
theorem nq9 {a:Value} {l m:List Value} :a::l++m=a::(l++m):=rfl
theorem nq0 {l:List Value} :[]++l=l:=rfl
theorem mv2 (h:aj X w Y w') (h':aj Y w' Z nj):Mv X w Z nj:=(h.trans h').mv
theorem Cells.ac4 {b o fo:Nat} {v:Value} {l:List Value} (h:Cells w X b o l) (hl:l[fo]? =some v):Cells w X b (o+fo) [v]:=by
 have hp:=h.part fo 1;have:(l.drop fo).take 1=[v]:=by
  obtain⟨cI,rfl⟩:=List.getElem?_eq_some_iff.1 hl;rw [fM cI,List.take_succ_cons,List.take_zero]
 rw [this] at hp;exact hp
section
variable {w0 : World} {X0 : XS}
theorem ahb {S f fo sz b o:Nat} {l l':List Value} (h:Cells w0 X0 b o l) (hf:fieldInfo P S f=some (fo,sz)) (hz:(sz !=0)=true) (hl:(l.drop fo).take sz=l')
  (k: ∀o',o'=o+fo→Cells w0 X0 b o' l'→N (ptr b o')):ab P X w (aT S f fo sz (ptr b o)) N:=
 Lh hf (by simpa using hz) (k _ rfl (hl▸h.part fo sz))
theorem MP {S f fo b o:Nat} {v:Value} {l:List Value} (h:Cells w0 X0 b o l) (hf:fieldInfo P S f=some (fo,1)) (hl:l[fo]? =some v)
  (k: ∀o',o'=o+fo→Cells w0 X0 b o' [v]→N (ptr b o')):ab P X w (aT S f fo 1 (ptr b o)) N:=
 Lh hf zQ (k _ rfl (h.ac4 hl))
theorem ahc {t:TypeId} {b o:Nat} {v:Value} {l:List Value} (h:Cells w0 X0 b o l) (m:Mv X0 w0 X w) (hi:je P t=some (false,1)) (hl:l[0]? =some v) (k:N v):
  ab P X w (ld1 t (ptr b o)) N:=ag9 (h.mv m) hi hl k
theorem ac3 {t:TypeId} {b o n:Nat} {l:List Value} (h:Cells w0 X0 b o l) (m:Mv X0 w0 X w) (hi:je P t=some (true,n)) (hn:l.length=n) (k:N (.agg l.toArray)):
  ab P X w (ek t n (ptr b o)) N:=aaV (h.mv m) hi hn k
theorem ahd {enc:α→List Value} {t ty:TypeId} {k:Nat} {v:Value} {xs:List α} (h:Sl w0 X0 k v (xs.map enc))
  (ht:P.underlying t=some (.slice (P.elem t))) (n:N (.int .i64 xs.length)):ab P X w (cp t ty v) N:=by
 obtain⟨_,_,base,cap,rfl,_⟩:=h;exact cB (fun wa=>run_len_slice wa t ty base _ cap ht) (by rw [List.length_map];exact n)
theorem ahe {t ty:TypeId} {k:Nat} {v:Value} {rd:World→XS→List Value→α→Prop} {xs:List α} (h:gq w0 X0 k v rd xs)
  (ht:P.underlying t=some (.slice (P.elem t))) (n:N (.int .i64 xs.length)):ab P X w (cp t ty v) N:=by
 obtain⟨rows,⟨_,_,base,cap,rfl,_⟩,h2,_⟩:=h;exact cB (fun wa=>run_len_slice wa t ty base _ cap ht) (by rw [h2];exact n)
theorem NR {t:TypeId} {k:Nat} {v:Value} {rows:List (List Value)} {i:Nat} {z:Int} {r:List Value} (h:Sl w0 X0 k v rows) (hr:rows[i]? =some r) (hz:z=i)
  (ht:P.underlying t=some (.slice (P.elem t))) (hs:(P.info? (P.elem t)).map (·.size)=some k)
  (n: ∀b o,Cells w0 X0 b o r→N (ptr b o)):ab P X w (Instr.indexAt t v (.int .i64 z)) N:=by
 obtain⟨h1,_,base,cap,rfl,hc,_⟩:=h;have hi:i<rows.length:=(List.getElem?_eq_some_iff.1 hr).1;obtain⟨b,o,rfl,mg⟩:=hc (by intro e;subst e;simp at hi);have hp:=mg.part (i*k) k;rw [Iy h1 hr] at hp;refine cB (fun wa=>?_) (n b (o+i*k) hp);subst hz;rw [run_indexAt_slice (h:=ht),if_pos zQ];cases hq:P.info? (P.elem t)with
 |none=>simp [hq] at hs
 |some inf=>
  have:inf.size=k:=by simpa [hq] using hs
  simp [sizeOf,typeInfo,hq,this,uW]
theorem ahf {enc:α→List Value} {t:TypeId} {k:Nat} {v:Value} {xs:List α} {i:Nat} {z:Int} {x:α} (h:Sl w0 X0 k v (xs.map enc)) (hr:xs[i]? =some x)
  (hz:z=i) (ht:P.underlying t=some (.slice (P.elem t))) (hs:(P.info? (P.elem t)).map (·.size)=some k)
  (n: ∀b o,Cells w0 X0 b o (enc x)→N (ptr b o)):ab P X w (cA t k v (.int .i64 z)) N:=
 NR h (i:=i) (by rw [dD,hr];rfl) hz ht hs n
theorem RW {t:TypeId} {k:Nat} {v:Value} {rd:World→XS→List Value→α→Prop} {xs:List α} {i:Nat} {z:Int} {x:α} (h:gq w0 X0 k v rd xs) (hr:xs[i]? =some x)
  (hz:z=i) (ht:P.underlying t=some (.slice (P.elem t))) (hs:(P.info? (P.elem t)).map (·.size)=some k)
  (n: ∀b o l,Cells w0 X0 b o l→rd w0 X0 l x→N (ptr b o)):ab P X w (cA t k v (.int .i64 z)) N:=by
 obtain⟨rows,h1,h2,h3⟩:=h;have hi:i<rows.length:=by rw [h2];exact(List.getElem?_eq_some_iff.1 hr).1
 have hl:rows[i]? =some rows[i]:=cd hi;exact NR h1 hl hz ht hs fun b o hc=>n b o _ hc (h3 i _ _ hl hr)
theorem agq {t:TypeId} {xo yo:Operand} {k:Nat} {v:Value} {rows:List (List Value)} (h:Sl w0 X0 k v rows) (ht:P.underlying t=some (.slice (P.elem t)))
  (hT:v= .slice none 0 0→rows=[]→N (.bool true)) (hF:N (.bool false)):ab P X w (aF .eql t xo yo v (.slice none 0 0)) N:=by
 rcases h.src with⟨rfl,hr⟩|⟨a,cap,rfl,_⟩
 ·exact UG ht (hT rfl hr)
 ·exact UG ht hF
end
theorem yC {xs:List α} {i:Nat} (h:i<xs.length): ∃x,xs[i]? =some x∧xs.drop i=x::xs.drop (i+1):=
 ⟨xs[i],cd h,fM h⟩
theorem dX (xs:List α) (i:Nat):(i<xs.length∧ ∃x,xs[i]? =some x∧xs.drop i=x::xs.drop (i+1))∨(xs.length≤i∧xs.drop i=[]):=by
 rcases Nat.lt_or_ge i xs.length with h|h
 ·exact .inl ⟨h,yC h⟩
 ·exact .inr ⟨h,fc h⟩
theorem ahg {l l':List Value} {o n:Nat} {M:Value→Prop} (hl:(l.drop o).take n=l') (k:M (.agg l'.toArray)):un (cj (.agg l.toArray) o n) M:=
 aam (hl▸k)
theorem ahh {l l' cs:List Value} {o:Nat} {M:Value→Prop} (hl:cH l o cs=l') (k:M (.agg l'.toArray)):
  un (ak (List.toArray (cH l o cs))) M:=by subst hl;exact k
theorem R0 {v:Value} {l:List Value} (h:one v=true) (k:l.all one=true):(v::l).all one=true:=by simp [h,k]
theorem Vr:List.all ([]:List Value) one=true:=rfl
theorem agr {l:List Value} {A:Prop} (h:l.all one=true) (k:A):aI (List.all (Array.toList (aa (.agg l.toArray))) one) A:=Zi h k
theorem ags {l:List Value} {A:Prop} (h:l.all one=true) (k:A):aI (List.all l one) A:=Zi h k
theorem ahi {l:List Value} {i:Nat} {v:Value} (hi:l[i]? =some v) (h:N v):ab P X w (aD (.tuple l.toArray) i) N:=V7 (by simpa using hi) h
theorem eO {f:FuncId} {args:Array Value} {b:Bool} {N:Value→World→XS→Prop}
  (h:Ct P f args w X nX fun v _ _=>v= .bool b) (hf:enters P f=true) (hX: ∀k,X k→k<w.heap.size)
  (hT:b=true→ ∀w' X',aj X w X' w'→N (.bool true) w' X') (hF:b=false→ ∀w' X',aj X w X' w'→N (.bool false) w' X'):eC P R X w m f args N:=by
 refine ep h hf hX fun v wa w' X' hv _ _ hs=>?_;subst hv;cases b
 ·exact hF rfl w' X' hs
 ·exact hT rfl w' X' hs
theorem dH {f:FuncId} {args:Array Value} {u:Value} {N:Value→World→XS→Prop}
  (h:Ct P f args w X nX fun v _ _=>v=u) (hf:enters P f=true) (hX: ∀k,X k→k<w.heap.size)
  (k: ∀w' X',aj X w X' w'→N u w' X'):eC P R X w m f args N:=by
 refine ep h hf hX fun v wa w' X' hv _ _ hs=>?_;subst hv;exact k w' X' hs
theorem jj {f:FuncId} {args:Array Value} {N:Value→World→XS→Prop}
  (h:Ct P f args w X nX fun v _ _=> ∃n:Int,v= .int .i64 n) (hf:enters P f=true) (hX: ∀k,X k→k<w.heap.size)
  (k: ∀(n:Int) w' X',aj X w X' w'→N (.int .i64 n) w' X'):eC P R X w m f args N:=by
 refine ep h hf hX fun v wa w' X' hv _ _ hs=>?_;obtain⟨n,rfl⟩:=hv;exact k n w' X' hs
theorem ahj {t ty:TypeId} {a b:Int} (h:N (.int .i64 (min a b))):ab P X w (ib #[t,t] ty #[.int .i64 a,.int .i64 b]) N:=
 cB (fun wa=>by
  simp only [ib,List.foldlM];by_cases hc:b<a
  ·have:min a b=b:=by omega
   simp [B4,hc,this]
  ·have:min a b=a:=by omega
   simp [B4,hc,this]) h
theorem XR {src dst:TypeId} {k q:IntKind} {n:Int} (hs:(P.underlying src).isSome=true) (hd:P.underlying dst=some (.int k))
  (h:N (.int k (k.wrap n))):ab P X w (mF k src dst (.int q n)) N:=cB (fun wa=>by
   have e:P.intKind dst=k:=by simp [Program.intKind,hd]
   have:=run_convert_int (P:=P) wa src dst q n hs (by rw [e];exact hd);rw [e] at this;exact this) h
theorem ahk {src dst:TypeId} {q:IntKind} {n:Int} (hs:(P.underlying src).isSome=true) (hd:P.underlying dst=some (.float .f64))
  (h:N (.float .f64 (floatOfInt .f64 n))):ab P X w (wh src dst (.int q n)) N:=cB (fun wa=>run_convert_int_float wa src dst q .f64 n hs hd) h
theorem ahl {t e:TypeId} {n:Nat} {l:List Value} {z:Int} {i:Nat} {v:Value} (ht:P.underlying t=some (.array n e)) (he:je P e=some (false,1)) (hz:z=i) (hn:i<n) (hl:l[i]? =some v)
  (k:N v):ab P X w (vy t n e (.agg l.toArray) (.int .i64 z)) N:=by
 subst hz;unfold je at he;split at he
 ·rename_i d q hu Bc;simp only [az,dx] at he;refine cB (v:=v) (fun wa=>?_) k;have ym:(isAgg e).run P wa= .ok false wa:=by cases d<;>simp_all [isAgg,run_underlying hu]
  simp [vy,xz,asIntOf,run_underlying ht,hn,sizeOf,typeInfo,Bc,he.2,part,ym,hl]
 ·cases he
theorem ahm {op:BinOp} {t:TypeId} {x y r:Nat} (h:floatBits op .f64 x y=some r) (k:N (.float .f64 r)):ab P X w (binOp op t (.float .f64 x) (.float .f64 y)) N:=
 cB (fun wa=>run_float_arith wa op t .f64 x y r h) k
theorem QR (s:ByteArray):s.size=s.data.toList.length:=by rw [dO];rfl
theorem ahn {t:TypeId} {s:ByteArray} {z:Int} {i:Nat} {b:UInt8} (hb:s.data.toList[i]? =some b) (hz:z=i) (ht:P.underlying t=some .string) (k:N (.int .u8 b.toNat)):
  ab P X w (xz t (.string s) (.int .i64 z)) N:=by
 subst hz;have hi:i<s.data.toList.length:=(List.getElem?_eq_some_iff.1 hb).1;have Bc:i<s.size:=by rw [QR];exact hi
 refine cB (v:=.int .u8 b.toNat) (fun wa=>?_) k;rw [run_index_string wa t s .i64 i ht,dif_pos zQ];have:s[i]=b:=by
  have h2:s.data.toList[i]=b:=(List.getElem?_eq_some_iff.1 hb).2;rw [←h2];rfl
 simp [this]
theorem UI (f:Ieee.Format) (s:Bool) (m:Nat) (p:Int):(f.read (f.nearest s m p)).isNaN=false:=by
 have hle: ∃r,f.nearest s m p=f.word s r∧r≤f.infRung:=by
  unfold Ieee.Format.nearest;split
  ·exact⟨0,rfl,Nat.zero_le _⟩
  ·exact⟨_,rfl,Nat.min_le_right _ _⟩
 obtain⟨r,hr,hle⟩:=hle;have cI:=f.infRung_lt;have hm:f.word s r % f.signWeight=r:=by
  unfold Ieee.Format.word;split
  ·rw [Nat.add_mod_left,xy zQ]
  ·rw [xy zQ]
 rw [hr];unfold Ieee.Format.read;simp only [hm];split
 ·rfl
 ·split
  ·rfl
  ·split
   ·rfl
   ·omega
def chain (p:α→Bool) (r:α→α→Bool):Option α→List α→Bool
 |_,[]=>true
 |none,x::l=>p x&&chain p r (some x) l
 |some y,x::l=>p x&&r y x&&chain p r (some x) l
def pe (xs:List α) (i:Nat):Option α:=if i=0 then none else xs[i-1]?
theorem nu {xs:List α} {i:Nat} {x:α} (h:xs[i]? =some x):pe xs (i+1)=some x:=by simp [pe,h]
theorem Jf {xs:List α} {i:Nat} (h:i<xs.length):(i=0∧pe xs i=none)∨(0<i∧ ∃y,xs[i-1]? =some y∧pe xs i=some y):=by
 by_cases h0:i=0
 ·exact .inl ⟨h0,by simp [pe,h0]⟩
 ·have:xs[i-1]? =some xs[i-1]:=cd zQ;exact .inr ⟨by omega,_,this,by simp [pe,h0,this]⟩
variable {P : Program} {R : Ending → World → Prop} {X : XS} {w : World} {m : Bool}
theorem foldl_set (l:List Value): ∀(n:Nat) (cs:Array Value),n+l.length≤cs.size→
  ((l.zipIdx n).foldl (fun (cs:Array Value) (p:Value×Nat)=>cs.setIfInBounds p.2 p.1) cs).toList=cs.toList.take n++l++cs.toList.drop (n+l.length):=by
 induction l with
 |nil=>intro n cs h;simp
 |cons x r ih=>
  intro n cs h;simp only [bT] at h;simp only [List.zipIdx_cons,List.foldl_cons];rw [ih (n+1) _ (by simp;omega)];have hn:n<cs.toList.length:=by simp;omega
  simp only [Array.toList_setIfInBounds,bT];rw [List.take_set,List.drop_set_of_lt zQ];have:(cs.toList.take (n+1)).set n x=cs.toList.take n++[x]:=by
   rw [List.take_add_one,cd hn];simp only [Option.toList_some];rw [List.set_append_right _ _ (by simp;omega)];have hm:(cs.toList.take n).length=n:=by rw [List.length_take];omega
   rw [hm,Nat.sub_self,List.set_cons_zero]
  rw [this];simp only [List.append_assoc,List.cons_append,eB];rw [show n+1+r.length=n+(r.length+1)by omega]
theorem Mc {k:Nat} {cs:Array Value} {x:Value} (hx:x.cells.size=k) (hc:cs.size=k):
  nE (fun i=>some (i*k,k)) cs [(0,x)]=some x.cells:=by
 unfold nE;simp only [Nat.zero_mul,ed,hx,ne_eq,not_true_eq_false,decide_false,hc,Nat.lt_irrefl,gt_iff_lt,Bool.or_self,bc,if_false];unfold nE;simp only [az];apply Array.ext';have:=foldl_set x.cells.toList 0 cs (by simp;omega);rw [←Array.toList_zipIdx,Array.foldl_toList] at this;simp only [ed,List.take_zero,eB,dO] at this;rw [fc (by simp;omega),fE] at this;exact this
def dP (v:Value):XS:=fun g=>v.ownBlock=some g
def mW (P:Program) (t e k bytes:Nat):Bool:=match P.underlying t,P.info? e with
 |some (.slice e'),some i=>e'==e&&i.size==k&&i.bytes==bytes&&(match i.zero with|some z=>z.cells.size==k|none=>false)&&decide (0<k)&&decide (k≤2^20)
 |_,_=>false
theorem kY {t e k bytes:Nat} (h:mW P t e k bytes=true):P.underlying t=some (.slice e)∧0<k∧k≤2^20∧
  ∃z:Value,(P.info? e).bind (fun i=>i.zero.map fun z=>(i.size,i.bytes,z))=some (k,bytes,z)∧(P.info? e).bind (fun i=>i.zero.map fun z=>(i.size,z))=some (k,z)∧z.cells.size=k:=by
 unfold mW at h;split at h
 ·rename_i e' i hu hi;simp only [aY,beq_iff_eq,decide_eq_true_eq] at h;obtain⟨⟨⟨⟨⟨rfl,h2⟩,h3⟩,h4⟩,h5⟩,h6⟩:=h;cases hz:i.zero with
  |none=>simp [hz] at h4
  |some z=>
   simp only [hz,beq_iff_eq] at h4;exact⟨hu,h5,h6,z,by simp [hi,hz,h2,h3],by simp [hi,hz,h2],h4⟩
 ·cases h
section
variable {w0 : World} {X0 : XS} {t ty e k bytes : Nat} {v x s : Value} {rows dw : List (List Value)} {row : List Value} {N : Value → World → XS → Prop}
theorem aa1 (own:Own w X w0.heap.size e k v rows) (hs:aj X0 w0 X w) (h0: ∀k,X0 k→k<w0.heap.size) (he:mW P t e k bytes=true) (hx:x.cells.toList=row) (hk:(row.length==k)=true)
  (h1:row.all one=true) (hb:(rows.length+1)*bytes≤140737488355328) (hl:rows.length+1≤2^63-1)
  (n: ∀v' w' X',aj X0 w0 X' w'→Own w' X' w0.heap.size e k v' (rows++[row])→eo (dP v) X w X' w'→(v'.ownBlock=v.ownBlock∨ ∃g,v'.ownBlock=some g∧w.heap.size≤g)→N v' w' X'):
  eV P R X w m (gG t e k 1 #[(0,x)]) fun s w1 X1=>eV P R X1 w1 true (ga t e k bytes ty v s) N:=by
 obtain⟨hu,oP,uj,z,hi,hz,pq⟩:=kY he;have ah:row.length=k:=by simpa using hk
 have wD:x.cells.size=k:=by rw [←ah,←hx,dO]
 refine FC (rows:=[row]) x.cells z hs.has hu hz zQ zQ ?_ (by simpa using ah) rfl (by simpa using hx) fun s w1 X1 ao hso=>?_
 ·simp only [Nat.one_mul];exact Mc wD (by simp)
 ·have ez:w0.heap.size≤w1.heap.size:=af hs.kp.size ao.kp.size;refine zD (dw:=[row]) z hu hi pq oP ao.has ez (own.since ao) hso.sl (by simpa using h1) (by simpa using hb) (by simpa using hl) fun v2 w2 X2 hg ho fH=>?_;have hd: ∀g,v.ownBlock=some g→w0.heap.size≤g:=fun g hg=>(own.ge hg).1;refine n v2 w2 X2 ((hs.trans ao).grown hg fun g hg0 he=>?_) ho ?_ ?_
  ·have:=hd g he.symm;have:=h0 g hg0;omega
  ·exact(eo.qW ao (dP v)).trans (hg.dK.mono fun k _ hk=>hk.symm)
  ·rcases fH with h|⟨g,h,dV⟩
   ·exact .inl h
   ·exact .inr ⟨g,h,af ao.kp.size dV⟩
theorem WA {l:List Value} (own:Own w X w0.heap.size e k v rows) (hs:aj X0 w0 X w) (h0: ∀k,X0 k→k<w0.heap.size) (he:mW P t e k bytes=true) (hk:(l.length==k)=true)
  (h1:l.all one=true) (hb:(rows.length+1)*bytes≤140737488355328) (hl:rows.length+1≤2^63-1)
  (n: ∀v' w' X',aj X0 w0 X' w'→Own w' X' w0.heap.size e k v' (rows++[l])→eo (dP v) X w X' w'→(v'.ownBlock=v.ownBlock∨ ∃g,v'.ownBlock=some g∧w.heap.size≤g)→N v' w' X'):
  eV P R X w m (gG t e k 1 #[(0,.agg l.toArray)]) fun s w1 X1=>eV P R X1 w1 true (ga t e k bytes ty v s) N:=aa1 own hs h0 he rfl hk h1 hb hl n
theorem Ov (own:Own w X w0.heap.size e k v rows) (hs:aj X0 w0 X w) (h0: ∀k,X0 k→k<w0.heap.size) (he:mW P t e k bytes=true) (hk:(k==1)=true)
  (ho:one x=true) (hb:(rows.length+1)*bytes≤140737488355328) (hl:rows.length+1≤2^63-1)
  (n: ∀v' w' X',aj X0 w0 X' w'→Own w' X' w0.heap.size e k v' (rows++[[x]])→eo (dP v) X w X' w'→(v'.ownBlock=v.ownBlock∨ ∃g,v'.ownBlock=some g∧w.heap.size≤g)→N v' w' X'):
  eV P R X w m (gG t e k 1 #[(0,x)]) fun s w1 X1=>eV P R X1 w1 true (ga t e k bytes ty v s) N:=by
 refine aa1 (row:=[x]) own hs h0 he ?_ (by simpa using (beq_iff_eq.1 hk).symm) (by simpa using ho) hb hl n;cases x<;>first|rfl|cases ho
theorem MQ (own:Own w X w0.heap.size e k v rows) (hs:aj X0 w0 X w) (h0: ∀k,X0 k→k<w0.heap.size) (he:mW P t e k bytes=true) (src:Sl w X k s dw) (h1: ∀r∈dw,∀u∈r,one u=true)
  (hb:(rows.length+dw.length)*bytes≤140737488355328) (hl:rows.length+dw.length≤2^63-1)
  (n: ∀v' w' X',aj X0 w0 X' w'→Own w' X' w0.heap.size e k v' (rows++dw)→eo (dP v) X w X' w'→(v'.ownBlock=v.ownBlock∨ ∃g,v'.ownBlock=some g∧w.heap.size≤g)→N v' w' X'):
  eV P R X w true (ga t e k bytes ty v s) N:=by
 obtain⟨hu,oP,uj,z,hi,hz,pq⟩:=kY he;refine zD (dw:=dw) z hu hi pq oP hs.has hs.kp.size own src h1 hb hl fun v2 w2 X2 hg ho fH=>?_;have hd: ∀g,v.ownBlock=some g→w0.heap.size≤g:=fun g hg=>(own.ge hg).1;refine n v2 w2 X2 (hs.grown hg fun g hg0 he=>?_) ho (hg.dK.mono fun k _ hk=>hk.symm) fH;have:=hd g he.symm;have:=h0 g hg0;omega
theorem RM (hX: ∀k,X k→k<w.heap.size) (hu:P.underlying t=some (.slice e)) (hz:(P.info? e).map (·.size)=some k)
  (n: ∀v w' X',aj X w X' w'→Own w' X' w.heap.size e k v []→N v w' X'):eV P R X w m (gG t e k 0 #[]) N:=aaX hX hu hz n
end
theorem Yf {t e k bytes len:Nat} {parts:Array (Nat×Value)} {rows:List (List Value)} {N:Value→World→XS→Prop} (cells:Array Value) (z:Value) (hX: ∀k,X k→k<w.heap.size) (he:mW P t e k bytes=true)
  (hz:(P.info? e).bind (·.zero)=some z) (Ys:0<len*k) (NP:len*k≤2^24)
  (h:nE (fun i=>some (i*k,k)) ((xB (len*k)).map (z.cells[· % z.cells.size]!)) parts.toList=some cells)
  (FD: ∀r∈rows,r.length=k) (hlen:rows.length=len) (hc:cells.toList=rows.flatten)
  (n: ∀v w' X',aj X w X' w'→Own w' X' w.heap.size e k v rows→N v w' X'):eV P R X w m (gG t e k len parts) N:=by
 obtain⟨hu,oP,uj,z',hi,A9,pq⟩:=kY he;have:z'=z:=by
  cases hq:P.info? e with
  |none=>simp [hq] at hz
  |some ie=>cases lU:ie.zero<;>simp_all
 subst this;exact FC cells z' hX hu A9 Ys NP h FD hlen hc n
end Go.bB
