/-
 Part 2 of the proof: what the last text leans on.
-/
import Derived.Laws.Rows
import Derived.Laws.Pointers
import Derived.Deep.MidRow
import Derived.Laws.StructEq
import Derived.Maps.AppendAt
import Derived.Laws.OwnMore
import Derived.Great.BuildSlice
import Derived.Maps.RangeRun
import Derived.Laws.FloatArith
import Derived.Test.YtbpnemeooenpmaaGreatH1
open Go.Result renaming andThen_ok → aZ
open Option.some renaming injEq → az
open Go.Sem renaming run_bind → bG, run_pure → bW, run → se
open Nat renaming le_trans → ah, lt_of_lt_of_le → aH, le_refl → bg, zero_add → eZ, mod_eq_of_lt → xR
open Go.Value renaming int → aA, cells → aa, ownBlock → gk, agg → ai
open Bool renaming and_eq_true → aW, false_eq_true → a8, not_eq_true' → cu
open Option renaming map_some → bt, bind_some → cU
open Go.Op renaming bytesLess → ir, intCmp → pe, stringOp → mP, floatCmp → mQ, equalIn → rl, unary → aY, eqFields → sV, intArith → xS
open Go.Instr renaming checkKey → fv, loadAt → gI, fill → nO, sameBits → ko, buildSlice → gF, findNow → gV, findKey → qx, extract → aD, box → dN, sameNow → uH, findAsking → rO, makeMap → gd, mapUpdate → aP, range → xT, entry → k6, index → xU, sureAddr → iV, keyThatStays → vi
open Prod.mk renaming injEq → cy
open PUnit renaming unit → kq
open List renaming toList_toArray → dg, getElem?_eq_getElem → bE, length_cons → ba, map_cons → cf, mem_append_left → bV, mem_append_right → dB, getD → jR, drop_of_length_le → jS, drop_eq_getElem_cons → iU, mem_append → sC, nil_append → dG, mem_singleton → bw, flatMap_cons → wR, mem_cons_self → iD, mem_cons_of_mem → bA, getElem?_eq_none → iL, getElem?_take → jN, getElem?_cons_zero → ik, flatten_cons → iQ, eq_nil_of_length_eq_zero → fD, length_append → av, append_nil → lZ, findIdx?_cons → gL, getElem?_map → dO, map_append → bC, nodup_append → wS
open BitVec renaming ofInt → bS
open Go.Builtin renaming len_ → j7, delete_ → sD, append_ → ej, min_ → j8, min2 → Cw
open Array renaming length_toList → ec, getElem?_setIfInBounds → dQ, range → xV, replicate → dH, getElem?_append → iM, getElem?_replicate → hU
open Go.ByteArray renaming toList_eq → lQ
open ForInStep renaming yield → oJ
open Go.World renaming ownsRow_lit → wT
set_option linter.unusedVariables false
set_option linter.unusedSimpArgs false
namespace Go.aR
section
variable {P : Program}
theorem Cx {X:XS} {w w':World} : ∀k,X k→grow X w w' k:=fun _ h=>.inl h
theorem Sj {m:Bool} {X:XS} {w:World} {n n':Value→World→XS→Prop} {p p':List PanicEntry→World→XS→Prop} {r:Result Next} (h:iF P m X w n p r)
  (hn: ∀v w' X',(∀k,X k→X' k)→n v w' X'→n' v w' X') (hp: ∀c w' X',(∀k,X k→X' k)→p c w' X'→p' c w' X'):iF P m X w n' p' r:=by
 cases r with
 |ok x w'=>
  cases x<;>simp only [iF] at h⊢
  case value v=>exact⟨h.1,hn _ _ _ Cx h.2⟩
  case skip=>exact⟨h.1,hn _ _ _ Cx h.2⟩
  case enter f args=>
   refine⟨h.1,h.2.mono fun e jg he=>?_⟩;cases e with
   |returned v=>exact⟨he.1,hn _ _ _ Cx he.2⟩
   |panicked c=>exact⟨he.1,hp _ _ _ Cx he.2⟩
   |outgrown=>exact he
 |halt x w'=>
  cases x<;>simp only [iF] at h⊢
  case panic v=>exact⟨h.1,hp _ _ _ Cx h.2⟩
theorem agk {env:Env} {d s:Nat} {v:Value} (h: ¬s=d):kI env d v s=env s:=fV _ _ h
theorem aen {env:Env} {d:Option Nat} {s:Nat} {v:Value} (h: ¬s∈d.toList):Iu env d v s=env s:=by
 cases d with
 |none=>rfl
 |some d=>exact fV _ _ (by simpa using h)
theorem Pb: ∀(l:List TI) {gg Nt:List PanicEntry→Env→World→XS→Prop} {next next':Env→World→XS→Prop} {env:Env} {w:World} {X:XS},
  fN P gg next l env w X→
  (∀e w' X',(∀k,X k→X' k)→(∀s,¬s∈l.flatMap TI.wr→e s=env s)→next e w' X'→next' e w' X')→
  (∀c e w' X',(∀k,X k→X' k)→(∀s,¬s∈l.flatMap TI.wr→e s=env s)→gg c e w' X'→Nt c e w' X')→fN P Nt next' l env w X
 |[],_,_,_,_,_,_,_,h,hn,_=>hn _ _ _ (fun _ h=>h) (fun _ _=>rfl) h
 |i::l,gg,Nt,next,next',env,w,X,h,hn,hp=>by
  have step: ∀(tL:Env) (w1:World) (X1:XS),(∀k,X k→X1 k)→(∀s,¬s∈i.wr→tL s=env s)→fN P gg next l tL w1 X1→fN P Nt next' l tL w1 X1:=by
   intro tL w1 X1 JF he1 h1;refine Pb l h1 (fun e w' X' hX he hq=>hn e w' X' (fun k hk=>hX k (JF k hk)) (fun s hs=>?_) hq) (fun c e w' X' hX he hq=>hp c e w' X' (fun k hk=>hX k (JF k hk)) (fun s hs=>?_) hq)
   ·simp only [wR,sC,not_or] at hs;rw [he s hs.2,he1 s hs.1]
   ·simp only [wR,sC,not_or] at hs;rw [he s hs.2,he1 s hs.1]
  have pst: ∀c w1 X1,(∀k,X k→X1 k)→gg c env w1 X1→Nt c env w1 X1:=fun c w1 X1 JF hq=>hp c env w1 X1 JF (fun _ _=>rfl) hq;have st1: ∀(d:Nat) (v:Value) (w1:World) (X1:XS),i.wr=[d]→(∀k,X k→X1 k)→fN P gg next l (kI env d v) w1 X1→fN P Nt next' l (kI env d v) w1 X1:=
   fun d v w1 X1 hw JF h1=>step _ _ _ JF (fun s hs=>agk (by rw [hw] at hs;simpa using hs)) h1
  have stO: ∀(d:Option Nat) (v:Value) (w1:World) (X1:XS),i.wr=d.toList→(∀k,X k→X1 k)→fN P gg next l (Iu env d v) w1 X1→fN P Nt next' l (Iu env d v) w1 X1:=
   fun d v w1 X1 hw JF h1=>step _ _ _ JF (fun s hs=>aen (by rw [hw] at hs;exact hs)) h1
  cases i with
  |uz b=>exact dk.2 ⟨(dk.1 h).1,step _ _ _ (fun _ h=>h) (fun _ _=>rfl) (dk.1 h).2⟩
  |set d e=>exact st1 d _ _ _ rfl (fun _ h=>h) h
  |box b n e=>exact dk.2 ⟨(dk.1 h).1,st1 b _ _ _ rfl (fun _ h=>h) (dk.1 h).2⟩
  |put b off n e=>
   have h2:=dk.1 (dk.1 h).2;exact dk.2 ⟨(dk.1 h).1,dk.2 ⟨h2.1,st1 b _ _ _ rfl (fun _ h=>h) h2.2⟩⟩
  |wY b e=>exact dk.2 ⟨(dk.1 h).1,st1 b _ _ _ rfl (fun _ h=>h) (dk.1 h).2⟩
  |TN b off e=>exact dk.2 ⟨(dk.1 h).1,st1 b _ _ _ rfl (fun _ h=>h) (dk.1 h).2⟩
  |fill b n e=>
   have h2:=dk.1 (dk.1 h).2;exact dk.2 ⟨(dk.1 h).1,dk.2 ⟨h2.1,st1 b _ _ _ rfl (fun _ h=>h) h2.2⟩⟩
  |rd d op ty ss=>
   obtain⟨v,h1,h2⟩:=h;exact⟨v,h1,st1 d _ _ _ rfl (fun _ h=>h) h2⟩
  |AE d op ty ss m=>exact fun wa EC=>Sj (h wa EC) (fun v w' X' hX hq=>stO d v w' X' rfl hX hq) (fun c w' X' hX hq=>pst c w' X' hX hq)
  |TO g want d e=>exact st1 d _ _ _ rfl (fun _ h=>h) h
  |grd g want d op ty ss=>
   obtain⟨v,h1,h2,h3⟩:=h;exact⟨v,h1,h2,st1 d _ _ _ rfl (fun _ h=>h) h3⟩
  |TP g want d op ty ss m=>
   exact⟨fun hg wa EC=>Sj (h.1 hg wa EC) (fun v w' X' hX hq=>stO d v w' X' rfl hX hq) (fun c w' X' hX hq=>pst c w' X' hX hq),fun hg=>stO d _ _ _ rfl (fun _ h=>h) (h.2 hg)⟩
theorem Vu {M:List Nat} {e env:Env} {s:Nat} (h:s∈M):merge M e env s=e s:=by simp [merge,y6.2 h]
theorem DF {M:List Nat} {e env:Env} {s:Nat} (h: ¬s∈M):merge M e env s=env s:=by
 have:CU M s=false:=by
  cases hx:CU M s with
  |false=>rfl
  |true=>exact absurd (y6.1 hx) h
 simp [merge,this]
theorem kr: ∀(t:T) {K K':jH} {env:Env} {w:World} {X:XS},den P t K env w X→
  (∀ex e w' X',(∀k,X k→X' k)→(∀s,¬s∈t.wr→e s=env s)→K ex e w' X'→K' ex e w' X')→den P t K' env w X
 | .BP l,K,K',env,w,X,h,hk=>Pb l h (fun e w' X' hX he hq=>hk _ e w' X' hX he hq) (fun c e w' X' hX he hq=>hk _ e w' X' hX he hq)
 | .seq a b,K,K',env,w,X,h,hk=>by
  refine kr a (K:=jH.CT (fun e w X=>den P b K e w X) K) h fun ex e w' X' hX he hq=>?_;have wJ: ∀s,¬s∈(T.seq a b).wr→e s=env s:=fun s hs=>he s (fun hc=>hs (bV _ hc));cases ex with
  |normal=>
   refine kr b (K:=K) hq fun ex2 e2 w2 X2 hX2 he2 DE=>hk ex2 e2 w2 X2 (fun k hk=>hX2 k (hX k hk)) (fun s hs=>?_) DE;rw [he2 s (fun hc=>hs (dB _ hc)),wJ s hs]
  |exit i=>exact hk _ e w' X' hX wJ hq
  |goto i=>exact hk _ e w' X' hX wJ hq
  |ret=>exact hk _ e w' X' hX wJ hq
  |panic c=>exact hk _ e w' X' hX wJ hq
  |outgrown=>exact hk _ e w' X' hX wJ hq
 | .ite c a b,K,K',env,w,X,h,hk=>by
  simp only [den,ay] at h⊢;split at h
  ·refine⟨fun ht=>kr a (h.1 ht) fun ex e w' X' hX he hq=>hk ex e w' X' hX (fun s hs=>he s (fun hc=>hs (bV _ hc))) hq,
    fun ht=>kr b (h.2 ht) fun ex e w' X' hX he hq=>hk ex e w' X' hX (fun s hs=>he s (fun hc=>hs (dB _ hc))) hq⟩
  ·exact h
 | .alt a b,K,K',env,w,X,h,hk=>by
  exact⟨kr a h.1 fun ex e w' X' hX he hq=>hk ex e w' X' hX (fun s hs=>he s (fun hc=>hs (bV _ hc))) hq,
   kr b h.2 fun ex e w' X' hX he hq=>hk ex e w' X' hX (fun s hs=>he s (fun hc=>hs (dB _ hc))) hq⟩
 | .cZ id a,K,K',env,w,X,h,hk=>by
  refine kr a (K:=jH.cZ id K) h fun ex e w' X' hX he hq=>?_;cases ex with
  |exit i=>
   simp only [jH.cZ] at hq⊢;split
   ·rename_i hi;rw [if_pos hi] at hq;exact hk _ e w' X' hX he hq
   ·rename_i hi;rw [if_neg hi] at hq;exact hk _ e w' X' hX he hq
  |normal=>exact hk _ e w' X' hX he hq
  |goto i=>exact hk _ e w' X' hX he hq
  |ret=>exact hk _ e w' X' hX he hq
  |panic c=>exact hk _ e w' X' hX he hq
  |outgrown=>exact hk _ e w' X' hX he hq
 | .loop M C a,K,K',env,w,X,h,hk=>by
  obtain⟨J,h0,hJ⟩:=h;refine⟨J,h0,fun n e w' X' hX hj=>?_⟩;refine kr a (K:=jH.CT (fun e' jg sK=> ∃m,m<n∧J m (C.map e') jg sK) K) (hJ n e w' X' hX hj) fun ex e2 w2 X2 hX2 he2 hq=>?_;have nR: ∀k,X k→X2 k:=fun k hk=>hX2 k (hX k hk);have wJ: ∀s,¬s∈(T.loop M C a).wr→e2 s=env s:=fun s hs=>by
   simp only [T.wr,sC,not_or] at hs;rw [he2 s hs.2];exact DF hs.1
  cases ex with
  |normal=>exact hq
  |exit i=>exact hk _ e2 w2 X2 nR wJ hq
  |goto i=>exact hk _ e2 w2 X2 nR wJ hq
  |ret=>exact hk _ e2 w2 X2 nR wJ hq
  |panic c=>exact hk _ e2 w2 X2 nR wJ hq
  |outgrown=>exact hk _ e2 w2 X2 nR wJ hq
 | .exit id,K,K',env,w,X,h,hk=>hk _ _ _ _ (fun _ h=>h) (fun _ _=>rfl) h
 | .ret,K,K',env,w,X,h,hk=>hk _ _ _ _ (fun _ h=>h) (fun _ _=>rfl) h
 | .skip,K,K',env,w,X,h,hk=>hk _ _ _ _ (fun _ h=>h) (fun _ _=>rfl) h
theorem aeo {Q:Exit→Act→World→Prop} {a:Act} {w:World} {c:Code} (I:Nat→Act→World→Prop) (h₀: ∃n,I n a w)
  (round: ∀n a w,I n a w→c.wp P (Exit.then (fun a' w'=> ∃m,m<n∧I m a' w') Q) a w):(Code.loop c).wp P Q a w:=by
 intro b k cs;have key: ∀n a w,I n a w→ ∃e a' w',Q e a' w'∧Arrives P (lone (b.at a (.code c:: .inLoop c::k)) cs w) b k cs e a' w':=by
  intro n
  induction n using Nat.strongRecOn with
  |_ n ih=>
   intro a w hI;obtain⟨e,a₁,w₁,hq,JG⟩:=round n a w hI b (.inLoop c::k) cs;cases e with
   |normal=>
    obtain⟨m,dz,hI₁⟩:=hq;obtain⟨e₂,a₂,w₂,hq₂,harr₂⟩:=ih m dz a₁ w₁ hI₁;exact⟨e₂,a₂,w₂,hq₂,.of_steps (Steps.trans JG (.one step_inLoop)) harr₂⟩
   |exit id=>exact⟨_,a₁,w₁,hq,.pass (x:=.inLoop c) rfl (fun _ _=>.inl (by simp)) JG⟩
   |goto l=>exact⟨_,a₁,w₁,hq,.pass (x:=.inLoop c) rfl (fun _ _=>.inl (by simp)) JG⟩
   |ret=>exact⟨_,a₁,w₁,hq,.pass (x:=.inLoop c) rfl (fun _ _=>.inl (by simp)) JG⟩
   |panic ch=>exact⟨_,a₁,w₁,hq,.pass (x:=.inLoop c) rfl (fun _ _=>.inl (by simp)) JG⟩
   |outgrown=>exact⟨_,a₁,w₁,hq,.pass (x:=.inLoop c) rfl (fun _ _=>.inl (by simp)) JG⟩
 obtain⟨n,h₀⟩:=h₀;obtain⟨e,a',w',hq,JG⟩:=key n a w h₀;exact⟨e,a',w',hq,.of_steps (.one step_loop) JG⟩
end
def QP (pl:bp) (ds:Bk) (K:jH):Exit→Act→World→Prop
 | .panic ch,a,w=>a.defers=ds.ds∧ ∃env X w0,Kp X w0 w∧K (.panic ch) env w0 X∧vI pl ds env X a w
 | .outgrown,_,_=>False
 |e,a,w=> ∃env X w0,ek pl ds .start env X w0 a w∧K e env w0 X
section
variable {P : Program} {pl : bp} {ds : Bk}
theorem ek.drop {cs:CS} {env:Env} {X:XS} {w0 w:World} {a:Act} (h:ek pl ds cs env X w0 a w):ek pl ds .start env X w0 a w:=
 { h with sig:=fun _ hp=>(by cases hp),live:=fun _ hp=>(by cases hp),ptr:=fun _ hp=>(by cases hp) }
theorem Pc: ∀(l acc:List Nat) (s:Nat),(s∈l∨s∈acc)→s∈qD l acc
 |[],acc,s,h=>h.elim (fun h=>by cases h) id
 |x::r,acc,s,h=>by
  simp only [qD];refine Pc r _ s ?_;rcases h with h|h
  ·rcases List.mem_cons.1 h with rfl|h
   ·right;split
    ·rename_i hc;simpa using hc
    ·exact iD ..
   ·exact .inl h
  ·right;split
   ·exact h
   ·exact bA _ h
theorem QP.mono {K K':jH} (h: ∀ex e w X,K ex e w X→K' ex e w X) (ex:Exit) (a:Act) (w:World) (hq:QP pl ds K ex a w):QP pl ds K' ex a w:=by
 cases ex<;>simp only [QP] at hq⊢
 case panic ch=>obtain⟨h1,env,X,w0,h2,h3,h4⟩:=hq;exact⟨h1,env,X,w0,h2,h _ _ _ _ h3,h4⟩
 all_goals (obtain⟨env,X,w0,h2,h3⟩:=hq;exact⟨env,X,w0,h2,h _ _ _ _ h3⟩)
theorem E9: ∀(c:Code) (t:T) (K:jH) (env:Env) (X:XS) (w0:World) (a:Act) (w:World),
  iq P pl c=some t→(∀b,b∈t.mk→ ∀p,p∈ds.pins→p.1≠b)→ek pl ds .start env X w0 a w→den P t K env w0 X→c.wp P (QP pl ds K) a w:=by
 intro c
 induction c with
 |skip=>
  intro t K env X w0 a w hc hm h hd;simp only [iq,az] at hc;subst hc;exact wp_skip ⟨env,X,w0,h,hd⟩
 |region id ops draw=>
  intro t K env X w0 a w hc hm h hd;have hN: ∀sN a' w' dv X' dX,ek pl ds sN dv X' dX a' w'→(fun e w X=>K .normal e w X) dv dX X'→QP pl ds K .normal a' w':=
   fun sN a' w' dv X' dX h1 h2=>⟨dv,X',dX,h1.drop,h2⟩
  have hQ: ∀ch a' w' dv X' dX,a'.defers=ds.ds→Kp X' dX w'→vI pl ds dv X' a' w'→(fun ch=>K (.panic ch)) ch dv dX X'→QP pl ds K (.panic ch) a' w':=
   fun ch a' w' dv X' dX h0 h1 vY h2=>⟨h0,dv,X',dX,h1,h2,vY⟩
  simp only [iq] at hc;split at hc
  ·rename_i hdr;subst hdr;split at hc
   ·rename_i BX;simp only [aW] at BX;refine wp_region_any BX.1 (NV (pl:=pl) _ _ _ _ ?_);have Hm: ∀c a (d:Option Nat) v w,(∀x,d=some x→ ∀p,p∈ds.pins→p.1≠x)→QP pl ds K (.panic c) (a.put d v) w→QP pl ds K (.panic c) a w:=fun c a d v w hd hq=>by
     obtain⟨h1,e,X',dX,h2,h3,h4⟩:=hq;exact⟨by cases d<;>exact h1,e,X',dX,h2,h3,h4.put hd⟩
    split at hc
    ·rename_i tl hl;simp only [az] at hc;subst hc;exact EF hN hQ Hm BX.2 _ _ _ tl env X w0 _ _ hl hm (h.gX (Ext.drew w)) hd
    ·exact MH hN hQ Hm BX.2 _ _ _ t env X w0 _ _ hc hm (h.gX (Ext.drew w)) hd
   ·cases hc
  ·rename_i hdr;simp only [Bool.not_eq_true] at hdr;subst hdr;cases hl:FG P pl ops ops.toList .start with
   |none=>simp [hl] at hc
   |some tl=>
    simp only [hl,bt,az] at hc;subst hc;exact wp_region_list (N9 hN hQ ops.toList .start tl env X w0 a w hl hm h hd)
 |seq x y ihx ihy=>
  intro t K env X w0 a w hc hm h hd;simp only [iq] at hc;cases hx:iq P pl x with
  |none=>simp [hx] at hc
  |some tx=>
   cases hy:iq P pl y with
   |none=>simp [hx,hy] at hc
   |some ty=>
    simp only [hx,hy,az] at hc;have Dr:den P (.seq tx ty) K env w0 X:=by
     subst hc;split at hd
     ·exact hd
     ·show den P tx (jH.CT (fun e w X=>den P .skip K e w X) K) env w0 X
      refine kr tx hd fun ex e w' X' _ _ hq=>?_;cases ex<;>exact hq
     ·exact hd
    have hmm: ∀b,b∈tx.mk∨b∈ty.mk→ ∀p,p∈ds.pins→p.1≠b:=fun b hb=>hm b (by
     rw [←hc];split
     ·exact hb.resolve_left (fun h=>by cases h)
     ·exact hb.resolve_right (fun h=>by cases h)
     ·exact List.mem_append.2 hb)
    refine wp_seq (wp_mono (ihx tx _ env X w0 a w hx (fun b hb=>hmm b (.inl hb)) h Dr) fun ex a' w' hq=>?_);cases ex with
    |normal=>
     obtain⟨e,X',dX,h1,h2⟩:=hq;exact ihy ty K e X' dX a' w' hy (fun b hb=>hmm b (.inr hb)) h1 h2
    |exit i=>exact hq
    |goto i=>exact hq
    |ret=>exact hq
    |panic c=>exact hq
    |outgrown=>exact hq
 |cond c x y ihx ihy=>
  intro t K env X w0 a w hc hm h hd;simp only [iq] at hc;cases hv:valOf pl .start c with
  |none=>simp [hv] at hc
  |some e=>
   cases hx:iq P pl x with
   |none=>simp [hv,hx] at hc
   |some tx=>
    cases hy:iq P pl y with
    |none=>simp [hv,hx,hy] at hc
    |some ty=>
     simp only [hv,hx,hy,az] at hc;subst hc;have he:=h.eval hv;simp only [den,ay] at hd;split at hd
     ·rename_i b hb;rw [hb] at he;exact wp_cond_split he (fun ht=>ihx tx K env X w0 a w hx (fun b hb=>hm b (bV _ hb)) h (hd.1 ht)) (fun ht=>ihy ty K env X w0 a w hy (fun b hb=>hm b (dB _ hb)) h (hd.2 ht))
     ·exact hd.elim
 |block id x ih=>
  intro t K env X w0 a w hc hm h hd;simp only [iq] at hc;cases hx:iq P pl x with
  |none=>simp [hx] at hc
  |some tx=>
   simp only [hx,bt,az] at hc;subst hc;refine wp_block (wp_mono (ih tx _ env X w0 a w hx hm h hd) fun ex a' w' hq=>?_);cases ex with
   |exit i=>
    obtain⟨e,X',dX,h1,h2⟩:=hq;simp only [Exit.inBlock,jH.cZ] at h2⊢;split
    ·rename_i hi;rw [if_pos hi] at h2;exact⟨e,X',dX,h1,h2⟩
    ·rename_i hi;rw [if_neg hi] at h2;exact⟨e,X',dX,h1,h2⟩
   |normal=>exact hq
   |goto i=>exact hq
   |ret=>exact hq
   |panic c=>exact hq
   |outgrown=>exact hq
 |loop x ih=>
  intro t K env X w0 a w hc hm h hd;simp only [iq] at hc;cases hx:iq P pl x with
  |none=>simp [hx] at hc
  |some tx=>
   simp only [hx,bt,az] at hc;subst hc;obtain⟨J,⟨n0,h0⟩,hJ⟩:=hd;refine aeo (fun n a w=> ∃e X' dX,ek pl ds .start (merge (qD tx.wr []) e env) X' dX a w∧(∀k,X k→X' k)∧J n (((qD tx.wr []).filter (CU pl.car)).map e) dX X') ⟨n0,env,X,w0,?_,fun _ h=>h,h0⟩ ?_
   ·have:merge (qD tx.wr []) env env=env:=by
     funext s
     by_cases hs:s∈qD tx.wr []
     ·exact Vu hs
     ·exact DF hs
    rw [this];exact h
   ·rintro n a w ⟨e,X',dX,h1,h2,h3⟩;have EX:=hJ n e dX X' h2 h3;have nS:=kr tx (K':=fun ex e' jg sK=>jH.CT (fun e' jg sK=> ∃m,m<n∧J m (((qD tx.wr []).filter (CU pl.car)).map e') jg sK) K ex e' jg sK∧(∀k,X' k→sK k)∧ ∀s,¬s∈tx.wr→e' s=merge (qD tx.wr []) e env s) EX
     fun ex e' w' sK hX he hq=>⟨hq,hX,he⟩
    refine wp_mono (ih tx _ _ X' dX a w hx hm h1 nS) fun ex a' w' hq=>?_;cases ex with
    |normal=>
     obtain⟨e',sK,BR,g1,⟨m,hm,g2⟩,g3,g4⟩:=hq;refine⟨m,hm,e',sK,BR,?_,fun k hk=>g3 k (h2 k hk),g2⟩;have:merge (qD tx.wr []) e' env=e':=by
      funext s
      by_cases hs:s∈qD tx.wr []
      ·exact Vu hs
      ·rw [DF hs,g4 s fun hc=>hs (Pc _ _ _ (.inl hc)),DF hs]
     rw [this];exact g1
    |exit i=>obtain⟨e',sK,BR,g1,g2,_⟩:=hq;exact⟨e',sK,BR,g1,g2⟩
    |goto i=>obtain⟨e',sK,BR,g1,g2,_⟩:=hq;exact⟨e',sK,BR,g1,g2⟩
    |ret=>obtain⟨e',sK,BR,g1,g2,_⟩:=hq;exact⟨e',sK,BR,g1,g2⟩
    |panic c=>obtain⟨g0,e',sK,BR,g1,⟨g2,_⟩,g3⟩:=hq;exact⟨g0,e',sK,BR,g1,g2,g3⟩
    |outgrown=>exact hq
 |exit id=>
  intro t K env X w0 a w hc hm h hd;simp only [iq,az] at hc;subst hc;exact wp_exit ⟨env,X,w0,h,hd⟩
 |ret=>
  intro t K env X w0 a w hc hm h hd;simp only [iq,az] at hc;subst hc;exact wp_ret ⟨env,X,w0,h,hd⟩
 |rangeFunc=>intro t K env X w0 a w hc;cases hc
 |scope=>intro t K env X w0 a w hc;cases hc
 |label=>intro t K env X w0 a w hc;cases hc
 |goto=>intro t K env X w0 a w hc;cases hc
 |refuse=>intro t K env X w0 a w hc;cases hc
def aar (tmps:Array Value):ResultVar→Sem Value
 | .tmp t=>pure (tmps.getD t undef)
 | .cell c t=>do loadVar t (←asAddr (tmps.getD c undef))
theorem Vv {env:Env} {X:XS} {w0 w:World} {a:Act} {cs:CS} (h:ek pl ds cs env X w0 a w): ∀(l:List ResultVar) (es:List Ex) (nd:List Nat),
  Al P pl l=some (es,nd)→(∀b,b∈nd→bH (env b)=true)→
  (l.mapM (aar a.tmps)).run P w=Result.ok (es.map (·.ev env)) w
 |[],es,nd,hc,_=>by
  simp only [Al,az,cy] at hc;rw [←hc.1];rfl
 | .tmp t::r,es,nd,hc,hl=>by
  simp only [Al] at hc;split at hc
  ·rename_i hg;cases hr:Al P pl r with
   |none=>simp [hr] at hc
   |some x=>
    obtain⟨YW,nd'⟩:=x;simp only [hr,bt,az,cy] at hc;obtain⟨rfl,rfl⟩:=hc;have ih:=Vv h r YW nd' hr hl;simp [List.mapM_cons,aar,ih,h.nP t hg,Ex.ev]
  ·cases hc
 | .cell c t::r,es,nd,hc,hl=>by
  simp only [Al] at hc;split at hc
  ·rename_i bs ag sz hb ht;split at hc
   ·rename_i mK;simp only [aW,decide_eq_true_eq] at mK;cases hr:Al P pl r with
    |none=>simp [hr] at hc
    |some x=>
     obtain⟨YW,nd'⟩:=x;simp only [hr,bt,az,cy] at hc;obtain⟨rfl,rfl⟩:=hc;have ih:=Vv h r YW nd' hr fun b hb=>hl b (bA _ hb);obtain⟨cells,AO⟩:=qG.1 (hl c (iD ..));obtain⟨k,ty,e1,e2,e3,_⟩:=h.box c bs hb cells AO;have hld:=NY ht mK.2 e2 0 zQ;have alO:(loadVar t ⟨k,0,none⟩).run P w= .ok (if ag then cj (.agg cells) 0 sz else cellOf (.agg cells) 0) w:=by
      simpa [gI,iV,dT] using hld
     have CZ:(if ag then Ex.s c 0 sz else Ex.k c 0).ev env=if ag then cj (.agg cells) 0 sz else cellOf (.agg cells) 0:=by
      cases ag<;>simp [Ex.ev,AO]
     simp [List.mapM_cons,aar,ih,e1,dT,asAddr,alO,CZ]
   ·cases hc
  ·cases hc
theorem BK {env:Env} {X:XS} {w0 w:World} {a:Act} {cs:CS} (h:ek pl ds cs env X w0 a w) {fn:Func} {es:List Ex} {nd:List Nat}
  (hc:Al P pl fn.results.toList=some (es,nd)) (hl: ∀b,b∈nd→bH (env b)=true):(results fn a.tmps).run P w= .ok (MG es env) w:=by
 have hr:=Vv h _ _ _ hc hl;have hf:results fn a.tmps=(do let vs←fn.results.mapM (aar a.tmps);pure (if h:vs.size=1 then vs[0] else .tuple vs)):=by
  unfold results
  congr 2
 rw [hf,Array.mapM_eq_mapM_toList];simp only [bG,Sem.run_map,hr,aZ,bW]
 congr 1
 match es with
 |[]=>rfl
 |[e]=>rfl
 |e::e'::r=>simp [MG]
def Nu (P:Program) (o:Option FT) (R:Ending→World→Prop) (args:Array Value) (w:World):Prop:=match o with
 |some ft=>den P ft.code (FI ft R) (kA args) w (aV w)
 |none=>False
theorem Vw {f:FuncId} {fn:Func} {pl:bp} {ft:FT} {args:Array Value} {w:World} {R:Ending→World→Prop} (hf:P.funcs[f]? =some fn)
  (hc:cF P pl fn=some ft) (afA:args.size≤pl.n) (sE:(pl.boxes.all fun p=>decide (args.size≤p.1))=true)
  (h:den P ft.code (FI ft R) (kA args) w (aV w)):Calls P f args w R:=by
 unfold cF at hc;split at hc
 ·rename_i hn;have jh:fn.ntmps=pl.n:=by simpa using hn
  split at hc
  ·rename_i c hb;split at hc
   ·rename_i t r nd KW tD;injection hc with hc
    subst hc;refine calls_of_wp hf hb (wp_mono (E9 (pl:=pl) (ds:=⟨[],[]⟩) c t (FI ⟨t,r,nd⟩ R) (kA args) (aV w) w _ w KW (fun _ _ _ hp=>by cases hp) ?_ h) fun ex a' w' hq=>?_)
    ·have aas:(args++dH (fn.ntmps-args.size) undef).size=pl.n:=by simp;omega
     have Nv: ∀s,s<pl.n→(args++dH (fn.ntmps-args.size) undef)[s]? =some (kA args s):=by
      intro s hs;rw [iM];split
      ·rename_i h1;simp [kA,jR,h1]
      ·rename_i h1;rw [hU,if_pos zQ];simp only [kA,jR];rw [iL (by simpa using h1)];rfl
     have JH: ∀b n,look pl.boxes b=some n→kA args b=undef:=by
      intro b n hb;have h1:=List.all_eq_true.1 sE _ (y8 hb);simp only [decide_eq_true_eq] at h1;simp only [kA,jR];rw [iL (by simpa using h1)];rfl
     exact {
      size:=aas
      defers:=rfl
      wC:=fun _ hp=>(by cases hp)
      ext:=Kp.refl _ _
      sM:=fun _ hk=>hk
      nP:=fun s hs=>Nv s (nz hs).1
      sig:=fun _ hp=>(by cases hp)
      box:=fun b n hb cells hc=>by rw [JH b n hb] at hc;cases hc
      inj:=fun b b' n n' hb eY h1=>by rw [JH b n hb] at h1;cases h1
      conv:=fun b n hb k hk=>by
       have h1:=List.all_eq_true.1 sE _ (y8 hb);simp only [decide_eq_true_eq] at h1;rw [iM,if_neg zQ,hU] at hk;split at hk
       ·cases hk
       ·cases hk
      live:=fun _ hp=>(by cases hp)
      ptr:=fun _ hp=>(by cases hp) }
    ·cases ex with
     |normal=>
      obtain⟨e,X',dX,h1,hq⟩:=hq;obtain⟨h2,h3⟩:=dk.1 hq;exact⟨h1.defers,_,BK h1 tD (List.all_eq_true.1 h2),h3 w' h1.ext⟩
     |ret=>
      obtain⟨e,X',dX,h1,hq⟩:=hq;obtain⟨h2,h3⟩:=dk.1 hq;exact⟨h1.defers,_,BK h1 tD (List.all_eq_true.1 h2),h3 w' h1.ext⟩
     |panic ch=>
      obtain⟨h0,e,X',dX,h1,h2,_⟩:=hq;exact⟨h0,h2 w' h1⟩
     |exit i=>obtain⟨e,X',dX,h1,h2⟩:=hq;exact h2
     |goto i=>obtain⟨e,X',dX,h1,h2⟩:=hq;exact h2
     |outgrown=>exact hq.elim
   ·cases hc
  ·cases hc
 ·cases hc
theorem aM {f:FuncId} {fn:Func} {pl:bp} {args:Array Value} {w:World} {R:Ending→World→Prop} {V:Prop} (hf:P.funcs[f]? =some fn)
  (hs:(decide (args.size≤pl.n)&&pl.boxes.all fun p=>decide (args.size≤p.1))=true) (hv:V=Nu P (cF P pl fn) R args w) (h:V):Calls P f args w R:=by
 subst hv;unfold Nu at h;simp only [aW,decide_eq_true_eq] at hs;split at h
 ·rename_i ft hc;exact Vw hf hc hs.1 hs.2 h
 ·exact h.elim
end
def aC (P:Program) (X:XS) (w:World) (s:Sem Next) (N:Value→Prop):Prop:= ∃v,Rd P X w s v∧N v
def ae (P:Program) (X:XS) (w:World) (s:Sem Value) (N:Value→Prop):Prop:=aC P X w (vS s) N
def aJ (P:Program) (X:XS) (w:World) (g:Value) (want:Bool) (s:Sem Next) (N:Value→Prop):Prop:=
 ∃v,(lP g want=true→Rd P X w s v)∧(lP g want=false→v=undef)∧N v
def aU (g:Value) (want:Bool) (v:Value):Value:=if lP g want then v else undef
def aQ (c a b:Value):Sem Next:=do pure (.value (if←asBool c then a else b))
def aF (x:Value):Sem Next:=execOp (fun _=>x) (PS (.nilCheck (.tmp 0)) 0)
def aE (op:BinOp) (t:TypeId) (xo yo:Operand) (x y:Value):Sem Value:=do eqGuard op t xo yo x y;binOp op t x y
def uS (s:Sem Unit):Sem Next:=do s;pure .skip
def pn (R:Ending→World→Prop):List PanicEntry→World→XS→Prop:=fun ch w X=> ∀wa,Kp X w wa→R (.panicked ch) wa
def eW (P:Program) (R:Ending→World→Prop) (X:XS) (w:World) (m:Bool) (s:Sem Next) (N:Value→World→XS→Prop):Prop:=
 ∀wa,Kp X w wa→iF P m X wa N (pn R) (s.run P wa)
def eV (P:Program) (R:Ending→World→Prop) (X:XS) (w:World) (m:Bool) (s:Sem Value) (N:Value→World→XS→Prop):Prop:=eW P R X w m (vS s) N
def eU (P:Program) (R:Ending→World→Prop) (X:XS) (w:World) (m:Bool) (s:Sem Unit) (N:Value→World→XS→Prop):Prop:=eW P R X w m (uS s) N
def eC (P:Program) (R:Ending→World→Prop) (X:XS) (w:World) (m:Bool) (f:FuncId) (args:Array Value) (N:Value→World→XS→Prop):Prop:=eW P R X w m (callFunc f args) N
def eF (P:Program) (R:Ending→World→Prop) (X:XS) (w:World) (m:Bool) (f:Value) (args:Array Value) (N:Value→World→XS→Prop):Prop:=eW P R X w m (FE f args) N
def gE (g:Value) (want:Bool) (A B:Prop):Prop:=(lP g want=true→A)∧(lP g want=false→B)
def fin (R:Ending→World→Prop) (X:XS) (w:World) (v:Value):Prop:= ∀wa,Kp X w wa→R (.returned v) wa
abbrev JT:=Nat→List Value→World→XS→Prop
def C7 (J:JT) (n:Nat) (vs:List Value) (w:World) (X:XS):Prop:= ∃m,m<n∧J m vs w X
def Sk (X:XS) (w:World) (vs:List Value) (C:List Nat) (B:JT→Nat→Env→World→XS→Prop):Prop:=
 ∃J:JT,(∃n,J n vs w X)∧ ∀n (e:Env) w' X',(∀k,X k→X' k)→J n (C.map e) w' X'→B J n e w' X'
variable {P : Program} {R : Ending → World → Prop} {X : XS} {w : World} {m : Bool}
theorem Fa {s:Sem Value} {N:Value→Prop} (v:Value) (h: ∀wa,Kp X w wa→s.run P wa= .ok v wa) (k:N v):ae P X w s N:=
 ⟨v,fun wa hk=>by simp [vS,h wa hk],k⟩
theorem cd {s:Sem Value} {N:Value→Prop} {v:Value} (h: ∀wa,s.run P wa= .ok v wa) (k:N v):ae P X w s N:=
 Fa v (fun wa _=>h wa) k
theorem Vx {s:Sem Next} {N:Value→Prop} {v:Value} (h: ∀wa,s.run P wa= .ok (.value v) wa) (k:N v):aC P X w s N:=
 ⟨v,fun wa _=>h wa,k⟩
theorem BL {α:Type} [BEq α] [LawfulBEq α] [DecidableEq α] (a b:α):(a==b)=decide (a=b):=by
 by_cases h:a=b<;>simp [h]
section
variable {N : Value → Prop} {t : TypeId} {k : IntKind} {a b : Int} {xo yo : Operand}
theorem agl (h:N (.bool (decide (a<b)))):ae P X w (binOp .lss t (.int k a) (.int k b)) N:=cd (fun wa=>by simp [binOp,pe]) h
theorem agm (h:N (.bool (decide (a≤b)))):ae P X w (binOp .leq t (.int k a) (.int k b)) N:=cd (fun wa=>by simp [binOp,pe]) h
theorem agn (h:N (.bool (decide (a>b)))):ae P X w (binOp .gtr t (.int k a) (.int k b)) N:=cd (fun wa=>by simp [binOp,pe]) h
theorem ago (h:N (.bool (decide (a≥b)))):ae P X w (binOp .geq t (.int k a) (.int k b)) N:=cd (fun wa=>by simp [binOp,pe]) h
theorem lC (h:N (.int k (k.wrap (a+b)))):ae P X w (binOp .add t (.int k a) (.int k b)) N:=cd (fun wa=>by simp [binOp,xS]) h
theorem agp (h:N (.int k (k.wrap (a-b)))):ae P X w (binOp .sub t (.int k a) (.int k b)) N:=cd (fun wa=>by simp [binOp,xS]) h
theorem agq (h:N (.int k (k.wrap (a*b)))):ae P X w (binOp .mul t (.int k a) (.int k b)) N:=cd (fun wa=>by simp [binOp,xS]) h
theorem agr (h:N (.bool (decide (a=b)))):ae P X w (aE .eql t xo yo (.int k a) (.int k b)) N:=
 cd (fun wa=>by simp [aE,eqGuard,binOp,pe,BL]) h
theorem ags (h:N (.bool (decide (a≠b)))):ae P X w (aE .neq t xo yo (.int k a) (.int k b)) N:=
 cd (fun wa=>by simp [aE,eqGuard,binOp,pe,bne,BL]) h
end
section
variable {N : Value → Prop} {t : TypeId} {a b : ByteArray} {xo yo : Operand}
theorem aep (h:N (.bool (decide (a.toList=b.toList)))):ae P X w (aE .eql t xo yo (.string a) (.string b)) N:=
 cd (fun wa=>by simp [aE,eqGuard,binOp,mP,BL]) h
theorem aeq (h:N (.bool (decide (a.toList≠b.toList)))):ae P X w (aE .neq t xo yo (.string a) (.string b)) N:=
 cd (fun wa=>by simp [aE,eqGuard,binOp,mP,BL]) h
theorem aer (h:N (.bool (ir a.toList b.toList))):ae P X w (binOp .lss t (.string a) (.string b)) N:=
 cd (fun wa=>by simp [binOp,mP]) h
theorem aes (h:N (.bool (!ir a.toList b.toList))):ae P X w (binOp .geq t (.string a) (.string b)) N:=
 cd (fun wa=>by simp [binOp,mP]) h
theorem aet (h:N (.bool (ir a.toList b.toList||decide (a.toList=b.toList)))):ae P X w (binOp .leq t (.string a) (.string b)) N:=
 cd (fun wa=>by simp [binOp,mP,BL]) h
theorem aeu (h:N (.bool (!(ir a.toList b.toList||decide (a.toList=b.toList))))):ae P X w (binOp .gtr t (.string a) (.string b)) N:=
 cd (fun wa=>by simp [binOp,mP,BL]) h
end
section
variable {N : Value → Prop} {t : TypeId} {k : FloatKind} {a b : Nat} {xo yo : Operand}
theorem aev (h:N (.bool (k.format.order a b==some .lt))):ae P X w (binOp .lss t (.float k a) (.float k b)) N:=cd (fun wa=>by simp [binOp,mQ]) h
theorem aew (h:N (.bool (k.format.order a b==some .lt||k.format.order a b==some .eq))):ae P X w (binOp .leq t (.float k a) (.float k b)) N:=
 cd (fun wa=>by simp [binOp,mQ]) h
theorem aex (h:N (.bool (k.format.order a b==some .gt))):ae P X w (binOp .gtr t (.float k a) (.float k b)) N:=cd (fun wa=>by simp [binOp,mQ]) h
theorem aey (h:N (.bool (k.format.order a b==some .gt||k.format.order a b==some .eq))):ae P X w (binOp .geq t (.float k a) (.float k b)) N:=
 cd (fun wa=>by simp [binOp,mQ]) h
theorem aez (h:N (.bool (k.format.order a b==some .eq))):ae P X w (aE .eql t xo yo (.float k a) (.float k b)) N:=
 cd (fun wa=>by simp [aE,eqGuard,binOp,mQ]) h
theorem aeA (h:N (.bool (k.format.order a b !=some .eq))):ae P X w (aE .neq t xo yo (.float k a) (.float k b)) N:=
 cd (fun wa=>by simp [aE,eqGuard,binOp,mQ]) h
end
section
variable {N : Value → Prop} {t : TypeId} {k k2 : IntKind} {a b : Int}
theorem Fb (hb: ¬b<0) (h:N (.int k (a.fdiv (2^min b.toNat k.bits)))):ae P X w (binOp .shr t (.int k a) (.int k2 b)) N:=
 cd (fun wa=>by simp [binOp,Op.shift,hb]) h
theorem agt (hb: ¬b<0) (h:N (.int k (k.wrap (a*2^min b.toNat k.bits)))):ae P X w (binOp .shl t (.int k a) (.int k2 b)) N:=
 cd (fun wa=>by simp [binOp,Op.shift,hb]) h
theorem Qs (h:N (.int k (k.wrap (bS k.bits a^^^bS k.bits b).toNat))):ae P X w (binOp .xor t (.int k a) (.int k b)) N:=
 cd (fun wa=>by simp [binOp,Op.intBits]) h
theorem YX (h:N (.int k (k.wrap (bS k.bits a&&& bS k.bits b).toNat))):ae P X w (binOp .and t (.int k a) (.int k b)) N:=
 cd (fun wa=>by simp [binOp,Op.intBits]) h
end
section
variable {N : Value → Prop} {b c : Bool} {g : Value}
theorem YY (h:N (.bool (!b))):ae P X w (aY .not (.bool b)) N:=cd (fun wa=>by simp [aY]) h
theorem Vy {x y:Value} (h:N (if b then x else y)):aC P X w (aQ (.bool b) x y) N:=Vx (fun wa=>by simp [aQ,asBool]) h
theorem aci {x y:Value} (h:N x):aC P X w (aQ (.bool true) x y) N:=Vy h
theorem acj {x y:Value} (h:N y):aC P X w (aQ (.bool false) x y) N:=Vy h
theorem KY {s:Sem Next} {want:Bool} (h:aC P X w s N):aJ P X w (.bool want) want s N:=by
 obtain⟨v,hv,hn⟩:=h;exact⟨v,fun _=>hv,fun hf=>absurd hf (by simp [lP]),hn⟩
theorem Vz {s:Sem Next} {want:Bool} (h:N undef):aJ P X w (.bool (!want)) want s N:=
 ⟨undef,fun hf=>absurd hf (by cases want<;>simp [lP]),fun _=>rfl,h⟩
theorem aeB {s:Sem Next} (h:aC P X w s N):aJ P X w (.bool true) true s N:=KY h
theorem aeC {s:Sem Next} (h:aC P X w s N):aJ P X w (.bool false) false s N:=KY h
theorem ack {s:Sem Next} (h:N undef):aJ P X w (.bool false) true s N:=Vz (want:=true) h
theorem acm {s:Sem Next} (h:N undef):aJ P X w (.bool true) false s N:=Vz (want:=false) h
theorem agu {A B:Prop} (h:b=true→A) (k:b=false→B):ay (.bool b) A B:=⟨h,k⟩
theorem aat {want:Bool} {A B:Prop} (h:b=want→A) (k:b=!want→B):gE (.bool b) want A B:=
 ⟨fun e=>h (by simpa [lP] using e),fun e=>k (by revert e;cases b<;>cases want<;>simp [lP])⟩
theorem alP {A B:Prop} (h:A):gE (.bool true) true A B:=aat (fun _=>h) (by simp)
theorem alQ {A B:Prop} (h:A):gE (.bool false) false A B:=aat (fun _=>h) (by simp)
theorem ajQ {A B:Prop} (h:B):gE (.bool true) false A B:=aat (by simp) (fun _=>h)
theorem ajR {A B:Prop} (h:B):gE (.bool false) true A B:=aat (by simp) (fun _=>h)
theorem XC {vs:Array Value} {i:Nat} {v:Value} (hi:vs[i]? =some v) (h:N v):ae P X w (aD (.tuple vs) i) N:=
 cd (fun wa=>by simp [aD,hi]) h
theorem agv {a:Addr} (h:N (.pointer (some a))):aC P X w (aF (.pointer (some a))) N:=
 Vx (fun _=>rfl) h
theorem VA {t e:TypeId} {xo yo:Operand} {p:Option Addr} (ht:P.underlying t=some (.pointer e)) (h:N (.bool p.isNone)):
  ae P X w (aE .eql t xo yo (.pointer p) (.pointer none)) N:=by
 refine cd (fun wa=>?_) h;have hp:P.pointee t=e:=by simp [Program.pointee,ht]
 have:=run_equal_pointer_nil (P:=P) (w:=wa) t p (by rw [hp];exact ht);simp [aE,eqGuard,binOp,this]
end
theorem aia {f:FuncId} {args:Array Value} {N:Value→World→XS→Prop} (Q:Value→World→World→Prop)
  (hf: ∀wa,(callFunc f args).run P wa= .ok (.enter f args) wa)
  (h: ∀wa,Kp X w wa→Calls P f args wa fun e w'=> ∃v,e= .returned v∧Ext wa w'∧Q v wa w')
  (k: ∀v wa w',Kp X w wa→Ext wa w'→Q v wa w'→N v w' (grow X wa w')):eC P R X w m f args N:=by
 intro wa hk;unfold iF;rw [hf wa];refine⟨rfl,(h wa hk).mono ?_⟩;rintro e w' ⟨v,rfl,hx,hq⟩;exact⟨Step.eE hx,k v wa w' hk hx hq⟩
structure ak (X:XS) (w:World) (X':XS) (w':World):Prop where
 kp:Kp X w w'
 sub: ∀k,X k→X' k
 has: ∀k,X' k→k<w'.heap.size
theorem ak.init (w:World):ak (aV w) w (aV w) w:=⟨Kp.refl _ _,fun _ h=>h,fun _ h=>h⟩
theorem ak.trans {X Y Z:XS} {a b c:World} (h:ak X a Y b) (k:ak Y b Z c):ak X a Z c:=
 ⟨h.kp.trans (k.kp.less h.sub),fun i hi=>k.sub i (h.sub i hi),k.has⟩
theorem ak.eE {X:XS} {w wa w':World} (hX: ∀k,X k→k<w.heap.size) (hk:Kp X w wa) (hx:Ext wa w'):ak X w (grow X wa w') w':=
 ⟨hk.trans (hx.kp fun k h=>aH (hX k h) hk.size),fun _ h=>.inl h,
  fun k h=>h.elim (fun h=>aH (hX k h) (ah hk.size hx.size)) (fun h=>h.2)⟩
theorem ak.ext {w w':World} {X:XS} (h:ak (aV w) w X w') {wa:World} (hk:Kp X w' wa):Ext w wa:=(h.kp.trans (hk.less h.sub)).ext
variable {P : Program} {R : Ending → World → Prop} {X : XS} {w : World} {m : Bool}
def Pure (P:Program) (f:FuncId) (args:Array Value) (v:Value):Prop:=
 ∀w,Calls P f args w fun e w'=>e= .returned v∧Ext w w'
def ajS (P:Program) (f:FuncId) (args:Array Value) (w:World) (Q:Value→World→Prop):Prop:=
 Calls P f args w fun e w'=> ∃v,e= .returned v∧Ext w w'∧Q v w'
def enters (P:Program) (f:FuncId):Bool:=match P.funcs[f]? with
 |some fn=>!(fn.name== "runtime.NumGoroutine")&&fn.body.isSome
 |none=>false
theorem kM {f:FuncId} (h:enters P f=true) (args:Array Value) (w:World):(callFunc f args).run P w= .ok (.enter f args) w:=by
 unfold enters at h;split at h
 ·rename_i fn hf;simp only [aW,cu] at h;obtain⟨c,hb⟩:=Option.isSome_iff_exists.1 h.2;have hn: ¬fn.name= "runtime.NumGoroutine" :=by simpa using h.1
  simp [callFunc,hf,hn,hb]
 ·cases h
theorem VB {f:FuncId} {args:Array Value} {N:Value→World→XS→Prop} {Q:Value→World→World→Prop}
  (hf:enters P f=true) (hX: ∀k,X k→k<w.heap.size)
  (h: ∀wa,Kp X w wa→ajS P f args wa (Q · wa))
  (k: ∀v wa w' X',Kp X w wa→Ext wa w'→(∀k,wa.heap.size≤k→k<w'.heap.size→X' k)→Q v wa w'→ak X w X' w'→N v w' X'):
  eC P R X w m f args N:=by
 refine aia Q (kM hf args) (fun wa hk=>?_) fun v wa w' hk hx hq=>k v wa w' _ hk hx (fun k h1 h2=>.inr ⟨h1,h2⟩) hq (ak.eE hX hk hx);refine(h wa hk).mono ?_;rintro e w' ⟨v,he,hx,hq⟩;exact⟨v,he,hx,hq⟩
theorem YZ {f:FuncId} {args:Array Value} {v:Value} {N:Value→World→XS→Prop}
  (hf:enters P f=true) (hX: ∀k,X k→k<w.heap.size) (h:Pure P f args v)
  (k: ∀w' X',ak X w X' w'→N v w' X'):eC P R X w m f args N:=by
 refine VB (Q:=fun u _ _=>u=v) hf hX (fun wa _=>(h wa).mono ?_) fun u wa w' X' _ _ _ hq hs=>hq▸k w' X' hs;rintro e w' ⟨he,hx⟩;exact⟨v,he,hx,rfl⟩
theorem Ca {f:FuncId} {args:Array Value} {v:Value} {N:Value→World→XS→Prop} (hf: ∀wa,(callFunc f args).run P wa= .ok (.value v) wa)
  (hX: ∀k,X k→k<w.heap.size) (k: ∀w' X',ak X w X' w'→N v w' X'):eC P R X w m f args N:=by
 intro wa hk;unfold iF;rw [hf wa];exact⟨Step.eE (Ext.refl _),k _ _ (ak.eE hX hk (Ext.refl _))⟩
theorem eD {w0:World} {u v:Value} (hs:ak (aV w0) w0 X w) (h:u=v):fin (fun e w'=>e= .returned v∧Ext w0 w') X w u:=
 fun _ hk=>⟨by rw [h],hs.ext hk⟩
variable {P : Program} {R : Ending → World → Prop} {X : XS} {w : World} {m : Bool} {N : Value → Prop}
abbrev ptr (b o:Nat):Value:=.pointer (some ⟨b,o,none⟩)
def Cells (w:World) (X:XS) (b o:Nat) (l:List Value):Prop:=
 X b∧ ∃cs t fr,w.heap[b]? =some (.cells cs t fr)∧ ∀j v,l[j]? =some v→cs[o+j]? =some v
theorem Cells.kp {b o:Nat} {l:List Value} (h:Cells w X b o l) {w':World} (hk:Kp X w w'):Cells w' X b o l:=by
 obtain⟨hx,cs,t,fr,hb,hc⟩:=h;exact⟨hx,cs,t,fr,by rw [hk.block b hx];exact hb,hc⟩
theorem Cells.mono {b o:Nat} {l:List Value} {Y:XS} (h:Cells w X b o l) (hs: ∀k,X k→Y k):Cells w Y b o l:=⟨hs _ h.1,h.2⟩
theorem Cells.since {b o:Nat} {l:List Value} {Y:XS} {w':World} (h:Cells w X b o l) (hs:ak X w Y w'):Cells w' Y b o l:=(h.kp hs.kp).mono hs.sub
theorem Cells.range {b o:Nat} {l:List Value} (h:Cells w X b o l):w.rangeAt b o l:=by
 obtain⟨_,cs,t,fr,hb,hc⟩:=h;intro j v hj;rw [cell_of_row w b (o+j) cs t fr hb];exact hc j v hj
theorem Cells.lt {b o:Nat} {l:List Value} (h:Cells w X b o l):b<w.heap.size:=by
 obtain⟨_,cs,t,fr,hb,_⟩:=h;exact(Array.getElem?_eq_some_iff.1 hb).1
theorem Cells.part {b o:Nat} {l:List Value} (h:Cells w X b o l) (i n:Nat):Cells w X b (o+i) ((l.drop i).take n):=by
 obtain⟨hx,cs,t,fr,hb,hc⟩:=h;refine⟨hx,cs,t,fr,hb,fun j v hj=>?_⟩;rw [jN] at hj;split at hj
 ·rw [List.getElem?_drop] at hj;rw [Nat.add_assoc];exact hc _ v hj
 ·cases hj
theorem acn {t:TypeId} {b o:Nat} {v:Value} {l:List Value} (h:Cells w X b o (v::l)) (hi:iW P t=some (false,1)) (k:N v):
  ae P X w (gI t (ptr b o)) N:=by
 refine Fa v (fun wa hk=>?_) k;have hc:wa.cell? ⟨b,o,none⟩=some v:=(h.kp hk).range 0 v rfl;unfold iW at hi;split at hi
 ·rename_i d i hu AH;simp only [az,cy] at hi;have za:(isAgg t).run P wa= .ok false wa:=by
   cases d<;>simp_all [isAgg,run_underlying hu]
  simp [gI,iV,loadVar,za,hc]
 ·cases hi
theorem aco {t:TypeId} {b o n:Nat} {l:List Value} (h:Cells w X b o l) (hi:iW P t=some (true,n)) (hn:l.length=n) (k:N (.agg l.toArray)):
  ae P X w (gI t (ptr b o)) N:=by
 refine Fa _ (fun wa hk=>?_) k;unfold iW at hi;split at hi
 ·rename_i d i hu AH;simp only [az,cy] at hi;exact run_loadAt_mid wa b o t l d (h.kp hk).range hu (by cases d<;>simp_all) (by simp [AH,hi.2,hn])
 ·cases hi
theorem Mo {S f fo sz b o:Nat} (h:fieldInfo P S f=some (fo,sz)) (hz:sz≠0) (k:N (ptr b (o+fo))):ae P X w (Instr.fieldAt S (ptr b o) f) N:=
 cd (fun wa=>LJ h hz b o wa) k
theorem acp {t:TypeId} {parts:Array (Nat×Value)} (cells:Array Value) (h:P.built t parts.toList=some cells) (k:N (.agg cells)):
  ae P X w (Instr.build t parts) N:=
 cd (fun wa=>run_build wa t parts cells h) k
theorem aeD {t ty:TypeId} {s:ByteArray} (ht:P.underlying t=some .string) (k:N (.int .i64 s.size)):ae P X w (j7 #[t] ty #[.string s]) N:=
 cd (fun wa=>by simp [j7,run_underlying ht,goInt]) k
def Sl (w:World) (X:XS) (k:Nat) (v:Value) (rows:List (List Value)):Prop:=
 (∀r∈rows,r.length=k)∧rows.length≤2^63-1∧
 ∃base cap,v= .slice base rows.length cap∧(rows≠[]→ ∃b o,base=some ⟨b,o,none⟩∧Cells w X b o rows.flatten)∧
  (base=none→cap=0)∧rows.length≤cap∧cap≤2^63-1
theorem Sl.mono {k:Nat} {v:Value} {rows:List (List Value)} {Y:XS} (h:Sl w X k v rows) (hs: ∀k,X k→Y k):Sl w Y k v rows:=by
 obtain⟨h1,h2,base,cap,hv,hc,hr⟩:=h;exact⟨h1,h2,base,cap,hv,fun du=>let⟨b,o,hb,jz⟩:=hc du;⟨b,o,hb,jz.mono hs⟩,hr⟩
theorem Sl.kp {k:Nat} {v:Value} {rows:List (List Value)} {w':World} (h:Sl w X k v rows) (hk:Kp X w w'):Sl w' X k v rows:=by
 obtain⟨h1,h2,base,cap,hv,hc,hr⟩:=h;exact⟨h1,h2,base,cap,hv,fun du=>let⟨b,o,hb,jz⟩:=hc du;⟨b,o,hb,jz.kp hk⟩,hr⟩
theorem Sl.since {k:Nat} {v:Value} {rows:List (List Value)} {Y:XS} {w':World} (h:Sl w X k v rows) (hs:ak X w Y w'):Sl w' Y k v rows:=
 (h.kp hs.kp).mono hs.sub
theorem Sl.aV {k:Nat} {v:Value} {rows:List (List Value)} (h:Sl w X k v rows):Sl w (aV w) k v rows:=by
 obtain⟨h1,h2,base,cap,hv,hc,hr⟩:=h;exact⟨h1,h2,base,cap,hv,fun du=>let⟨b,o,hb,jz⟩:=hc du;⟨b,o,hb,jz.lt,jz.2⟩,hr⟩
theorem Sl.nil (w:World) (X:XS) (k:Nat):Sl w X k (.slice none 0 0) []:=⟨by simp,by simp,none,0,rfl,by simp,by simp,by simp,by simp⟩
theorem Sl.one {k:Nat} {v:Value} {rows:List (List Value)} (h:Sl w X k v rows):one v=true:=by
 obtain⟨_,_,_,_,rfl,_⟩:=h;rfl
theorem JI {k:Nat} : ∀{rows:List (List Value)},(∀r∈rows,r.length=k)→ ∀{i:Nat} {r:List Value},rows[i]? =some r→
  (rows.flatten.drop (i*k)).take k=r
 |[],_,i,r,h=>by simp at h
 |x::rest,hl,0,r,h=>by
  simp only [ik,az] at h;subst h;have:=hl x (by simp);simp [this.symm]
 |x::rest,hl,i+1,r,h=>by
  have hx:=hl x (by simp);rw [iQ,List.drop_append,hx,List.drop_eq_nil_of_le (by rw [hx];exact Nat.le_mul_of_pos_left k (Nat.succ_pos i))];have:(i+1)*k-k=i*k:=by rw [Nat.succ_mul];omega
  rw [this,dG];exact JI (fun r hr=>hl r (by simp [hr])) (by simpa using h)
theorem aeE {t:TypeId} {xs ys:Array Value} {xo yo:Operand} {b:Bool} (hm:P.eqGuardType P.depth t=false)
  (h: ∀wa,(rl 10000 t (.agg xs) (.agg ys)).run P wa= .ok b wa) (k:N (.bool b)):ae P X w (aE .eql t xo yo (.agg xs) (.agg ys)) N:=by
 refine cd (fun wa=>?_) k;simp [aE,run_eqGuard_agg wa .eql t xo yo xs ys hm,run_eql_struct,h]
theorem aeF {t:TypeId} {xs ys:Array Value} {xo yo:Operand} {b:Bool} (hm:P.eqGuardType P.depth t=false)
  (h: ∀wa,(rl 10000 t (.agg xs) (.agg ys)).run P wa= .ok b wa) (k:N (.bool (!b))):ae P X w (aE .neq t xo yo (.agg xs) (.agg ys)) N:=by
 refine cd (fun wa=>?_) k;simp [aE,run_eqGuard_agg wa .neq t xo yo xs ys hm,binOp,Op.equal,Op.maxDepth,h]
theorem wrap_i64 {a:Int} (h1: -(2^63)≤a) (h2:a<2^63):IntKind.i64.wrap a=a:=by
 simp only [IntKind.wrap];first
  |omega
  |(simp [IntKind.bits,IntKind.signed];omega)
variable {P : Program} {R : Ending → World → Prop} {X : XS} {w : World} {m : Bool}
structure Grown (X:XS) (w:World) (X':XS) (w':World) (row:Option Nat):Prop where
 os:w'.os=w.os
 tape:w'.tape=w.tape
 output:w'.output=w.output
 size:w.heap.size≤w'.heap.size
 block: ∀k,X k→some k≠row→w'.heap[k]? =w.heap[k]?
 sub: ∀k,X k→X' k
 has: ∀k,X' k→k<w'.heap.size
theorem ak.grown {X0 Y:XS} {w0 w':World} {row:Option Nat} (h:ak X0 w0 X w) (g:Grown X w Y w' row) (hr: ∀k,X0 k→some k≠row):ak X0 w0 Y w':=
 ⟨⟨g.os.trans h.kp.os,g.tape.trans h.kp.tape,g.output.trans h.kp.output,ah h.kp.size g.size,
  fun k hk=>(g.block k (h.sub k hk) (hr k hk)).trans (h.kp.block k hk)⟩,fun k hk=>g.sub k (h.sub k hk),g.has⟩
theorem Grown.since {Y:XS} {w':World} {row:Option Nat} {F:XS} (g:Grown X w Y w' row) (hf: ∀k,F k→X k) (hr: ∀k,F k→some k≠row):ak F w Y w':=
 ⟨⟨g.os,g.tape,g.output,g.size,fun k hk=>g.block k (hf k hk) (hr k hk)⟩,fun k hk=>g.sub k (hf k hk),g.has⟩
def Own (w:World) (X:XS) (lo e k:Nat) (v:Value) (rows:List (List Value)):Prop:=
 (∀r∈rows,r.length=k)∧w.ownsRow lo e k v rows.length rows.flatten∧ ∀g,v.ownBlock=some g→X g
theorem Own.nil (w:World) (X:XS) (lo e k:Nat):Own w X lo e k (.slice none 0 0) []:=⟨by simp,World.ownsRow_nil w lo e k,by simp [gk]⟩
theorem Own.sl {lo e k:Nat} {v:Value} {rows:List (List Value)} (h:Own w X lo e k v rows):Sl w X k v rows:=by
 obtain⟨h1,h2,h3⟩:=h;rcases h2.2 with⟨rfl,hn⟩|⟨g,cap,cur,rfl,hb,hg,xx,lG,jz,ht⟩
 ·have:rows=[]:=fD hn;subst this;exact Sl.nil w X k
 ·have hm:cap≤2^63-1:=lG;refine⟨h1,ah xx hm,_,cap,rfl,fun _=>⟨g,0,rfl,h3 g rfl,cur,e,(0,0),hg,fun j v hj=>?_⟩,by simp,xx,hm⟩;rw [←ht,jN] at hj;split at hj
  ·simpa using hj
  ·cases hj
theorem Own.kp {lo e k:Nat} {v:Value} {rows:List (List Value)} {w':World} (h:Own w X lo e k v rows) (hk:Kp X w w'):Own w' X lo e k v rows:=by
 obtain⟨h1,h2,h3⟩:=h;refine⟨h1,⟨h2.1,?_⟩,h3⟩;rcases h2.2 with h|⟨g,cap,cur,rfl,hb,hg,hr⟩
 ·exact .inl h
 ·exact .inr ⟨g,cap,cur,rfl,hb,by rw [hk.block g (h3 g rfl)];exact hg,hr⟩
theorem Own.mono {lo e k:Nat} {v:Value} {rows:List (List Value)} {Y:XS} (h:Own w X lo e k v rows) (hs: ∀k,X k→Y k):Own w Y lo e k v rows:=
 ⟨h.1,h.2.1,fun g hg=>hs g (h.2.2 g hg)⟩
theorem Own.since {lo e k:Nat} {v:Value} {rows:List (List Value)} {Y:XS} {w':World} (h:Own w X lo e k v rows) (hs:ak X w Y w'):Own w' Y lo e k v rows:=
 (h.kp hs.kp).mono hs.sub
theorem Own.low {lo lo' e k:Nat} {v:Value} {rows:List (List Value)} (h:Own w X lo e k v rows) (hl:lo'≤lo):Own w X lo' e k v rows:=by
 obtain⟨h1,h2,h3⟩:=h;refine⟨h1,⟨h2.1,?_⟩,h3⟩;rcases h2.2 with h|⟨g,cap,cur,rfl,hb,hr⟩
 ·exact .inl h
 ·exact .inr ⟨g,cap,cur,rfl,ah hl hb,hr⟩
theorem Own.ge {lo e k:Nat} {v:Value} {rows:List (List Value)} (h:Own w X lo e k v rows) {g:Nat} (hg:v.ownBlock=some g):lo≤g∧g<w.heap.size:=h.2.1.lt g hg
theorem Own.tight {lo e k:Nat} {v:Value} {rows:List (List Value)} (h:Own w X lo e k v rows):Own w (fun g=>lo≤g∧g<w.heap.size) lo e k v rows:=
 ⟨h.1,h.2.1,fun _ hg=>h.ge hg⟩
theorem qi {k:Nat} : ∀{rows:List (List Value)},(∀r∈rows,r.length=k)→rows.flatten.length=rows.length*k
 |[],_=>by simp
 |r::rs,h=>by
  rw [iQ,av,h r (by simp),qi fun r hr=>h r (by simp [hr]),ba,Nat.succ_mul,Nat.add_comm]
theorem zj {t e len:Nat} {parts:Array (Nat×Value)} {k:Nat} {rows:List (List Value)} {N:Value→World→XS→Prop} (cells:Array Value) (z:Value)
  (hX: ∀k,X k→k<w.heap.size) (hu:P.underlying t=some (.slice e)) (hz:(P.info? e).bind (fun i=>i.zero.map fun z=>(i.size,z))=some (k,z))
  (aau:0<len*k) (Pd:len*k≤2^24)
  (h:nO (fun i=>some (i*k,k)) ((xV (len*k)).map (z.cells[· % z.cells.size]!)) parts.toList=some cells)
  (zx: ∀r∈rows,r.length=k) (hlen:rows.length=len) (hc:cells.toList=rows.flatten)
  (n: ∀v w' X',ak X w X' w'→Own w' X' w.heap.size e k v rows→N v w' X'):eV P R X w m (gF t len parts) N:=by
 intro wa hk;cases hq:P.info? e with
 |none=>simp [hq] at hz
 |some ie=>
  cases lX:ie.zero with
  |none=>simp [hq,lX] at hz
  |some z'=>
   simp only [hq,lX,cU,bt,az,cy] at hz;obtain⟨rfl,rfl⟩:=hz;have hr:=run_buildSlice (P:=P) wa t e len parts cells ie z' hu hq lX zQ zQ h;unfold iF;simp only [vS,bG,hr,aZ,bW];have hx:Ext wa (wa.alloc (.cells cells e)):=Ext.alloc _ _;have jz:cells.size=len*ie.size:=by
    have:=congrArg List.length hc;simp only [ec] at this;rw [this,qi zx,hlen]
   have ajT:0<ie.size:=Nat.pos_of_ne_zero fun e=>by simp [e] at aau
   have hle:len≤2^24:=ah (Nat.le_mul_of_pos_right len ajT) Pd;have HG:=wT (e:=e) (base:=w.heap.size) (size:=ie.size) wa cells len hk.size (by simp only [maxLen];omega) jz;refine⟨Step.eE hx,n _ _ _ (ak.eE hX hk hx) ⟨zx,by rw [hlen,←hc];exact HG,fun g hg=>?_⟩⟩;simp only [gk,az] at hg;subst hg;exact .inr ⟨bg _,by simp⟩
theorem acq {t e k:Nat} {N:Value→World→XS→Prop} (hX: ∀k,X k→k<w.heap.size) (hu:P.underlying t=some (.slice e)) (hz:(P.info? e).map (·.size)=some k)
  (n: ∀v w' X',ak X w X' w'→Own w' X' w.heap.size e k v []→N v w' X'):eV P R X w m (gF t 0 #[]) N:=by
 intro wa hk;cases hq:P.info? e with
 |none=>simp [hq] at hz
 |some ie=>
  unfold iF;have hr:(gF t 0 #[]).run P wa= .ok (.slice (some ⟨wa.heap.size,0,none⟩) 0 0) (wa.alloc (.cells #[] e)):=by
   simp [gF,run_underlying hu,sizeOf,typeInfo,hq,nO,newRow];have L8: ∀f:Nat→Value,Array.map f (xV 0)= #[]:=fun f=>Array.eq_empty_of_size_eq_zero (by simp);rw [L8]
  simp only [vS,bG,hr,aZ,bW];have hx:Ext wa (wa.alloc (.cells #[] e)):=Ext.alloc _ _;have HG:=wT (e:=e) (base:=w.heap.size) (size:=k) wa #[] 0 hk.size (by simp [maxLen]) (by simp);refine⟨Step.eE hx,n _ _ _ (ak.eE hX hk hx) ⟨by simp,HG,fun g hg=>?_⟩⟩;simp only [gk,az] at hg;subst hg;exact .inr ⟨bg _,by simp⟩
theorem Sl.src {k:Nat} {v:Value} {rows:List (List Value)} (h:Sl w X k v rows):
  v= .slice none 0 0∧rows=[]∨ ∃a cap,v= .slice (some a) rows.length cap∧ ∀j u,rows.flatten[j]? =some u→w.cell? (a.add j)=some u:=by
 obtain⟨h1,h2,base,cap,rfl,hc,hn,hle,_⟩:=h;cases base with
 |none=>
  cases rows with
  |nil=>exact .inl ⟨by simp [hn rfl],rfl⟩
  |cons r rs=>obtain⟨_,_,hh,_⟩:=hc (by simp);cases hh
 |some a=>
  refine .inr ⟨a,cap,rfl,fun j u hj=>?_⟩;cases rows with
  |nil=>simp at hj
  |cons r rs=>
   obtain⟨b,o,hb,jz⟩:=hc (by simp);cases hb;rw [y9];exact jz.range j u hj
theorem z7 {t ty e k bytes lo:Nat} {v s:Value} {rows dL:List (List Value)} {N:Value→World→XS→Prop} (z:Value)
  (hu:P.underlying t=some (.slice e)) (hi:(P.info? e).bind (fun i=>i.zero.map fun z=>(i.size,i.bytes,z))=some (k,bytes,z)) (r9:z.cells.size=k) (kE:0<k)
  (hX: ∀k,X k→k<w.heap.size) (fp:lo≤w.heap.size) (own:Own w X lo e k v rows) (src:Sl w X k s dL) (h1: ∀r∈dL,∀u∈r,one u=true)
  (hb:(rows.length+dL.length)*bytes≤140737488355328) (hl:rows.length+dL.length≤2^63-1)
  (n: ∀v' w' X',Grown X w X' w' v.ownBlock→Own w' X' lo e k v' (rows++dL)→(v'.ownBlock=v.ownBlock∨ ∃g,v'.ownBlock=some g∧w.heap.size≤g)→N v' w' X'):
  eV P R X w true (ej #[t,t] ty #[v,s]) N:=by
 intro wa hk;have own:=own.kp hk;have src:=src.kp hk;cases hq:P.info? e with
 |none=>simp [hq] at hi
 |some ie=>
  cases lX:ie.zero with
  |none=>simp [hq,lX] at hi
  |some z'=>
   simp only [hq,lX,cU,bt,az,cy] at hi;obtain⟨rfl,rfl,rfl⟩:=hi;unfold iF;rcases src.src with⟨rfl,rfl⟩|⟨a,cap,rfl,zC⟩
   ·have hr:=run_append_owned_none (P:=P) (w:=wa) lo t ty e ie ie.size hu hq v rows.length rows.flatten own.2.1;simp only [vS,bG,hr,aZ,bW];have hx:=Ext.refl wa;have hs:=ak.eE hX hk hx;refine⟨Step.eE hx,n _ _ _ ⟨hs.kp.os,hs.kp.tape,hs.kp.output,hs.kp.size,fun k h _=>hs.kp.block k h,hs.sub,hs.has⟩ ?_ (.inl rfl)⟩;rw [lZ];exact own.mono (fun k h=>Or.inl h)
   ·have oH:dL.flatten.length=dL.length*ie.size:=qi src.1;obtain⟨v',w',hr,HG,hg,_,ef⟩:=run_append_own_at (P:=P) wa lo t ty e ie z' ie.size ie.bytes hu hq lX rfl rfl r9 kE v rows.length rows.flatten own.2.1
     a dL.length cap dL.flatten oH zC (fun u hu=>by
      obtain⟨r,hr,hur⟩:=List.mem_flatten.1 hu;rw [←EB];exact h1 r hr u hur) hl hb (ah fp hk.size)
    simp only [vS,bG,hr,aZ,bW];have hgb: ∀k,k<wa.heap.size→some k≠v.ownBlock→w'.heap[k]? =wa.heap[k]? :=hg.block;refine⟨⟨hg.os,hg.tape,hg.output,hg.size,fun k tv nB=>hg.block k tv fun e=>nB (own.2.2 k e.symm)⟩,n _ _ _ ?_ ⟨?_,?_,?_⟩ ?_⟩
    ·exact⟨hg.os.trans hk.os,hg.tape.trans hk.tape,hg.output.trans hk.output,ah hk.size hg.size,
      fun k hx du=>(hg.block k (aH (hX k hx) hk.size) du).trans (hk.block k hx),fun k h=>.inl h,
      fun k h=>h.elim (fun h=>aH (hX k h) (ah hk.size hg.size)) (fun h=>h.2)⟩
    ·intro r hr;rcases List.mem_append.1 hr with h|h
     ·exact own.1 r h
     ·exact src.1 r h
    ·rw [av,List.flatten_append];exact HG
    ·intro g Hn;rcases ef with h|h
     ·exact .inl (own.2.2 g (h▸Hn))
     ·rw [Hn] at h;cases h;exact .inr ⟨bg _,(HG.lt _ Hn).2⟩
    ·rcases ef with h|h
     ·exact .inl h
     ·exact .inr ⟨_,h,hk.size⟩
theorem Nw {t e:TypeId} (ht:P.underlying t=some (.slice e)) (d:Nat) (base:Option Addr) (n c:Nat) (w:World):
  (rl (d+1) t (.slice base n c) (.slice none 0 0)).run P w= .ok base.isNone w:=by
 cases base<;>simp [rl,run_underlying ht]
theorem VC {t e:TypeId} {xo yo:Operand} {base:Option Addr} {n c:Nat} {N:Value→Prop} (ht:P.underlying t=some (.slice e)) (h:N (.bool base.isNone)):
  ae P X w (aE .eql t xo yo (.slice base n c) (.slice none 0 0)) N:=by
 refine cd (fun wa=>?_) h;have:(Op.equal t (.slice base n c) (.slice none 0 0)).run P wa= .ok base.isNone wa:=Nw ht 9999 base n c wa;simp [aE,eqGuard,binOp,this]
def KZ (P:Program):List Field→Nat→Bool
 |[],_=>true
 |f::r,i=>f.name != "_" &&(match P.underlying f.type with|some (.int _)=>true|_=>false)&&f.offset==i&&KZ P r (i+1)
theorem AX (w:World) (d:Nat) (as bs:List Int): ∀(fs:List Field) (i:Nat),KZ P fs i=true→as.length=i+fs.length→bs.length=i+fs.length→
  (sV (d+1) (as.map (aA .i64)).toArray (bs.map (aA .i64)).toArray fs).run P w= .ok (decide (as.drop i=bs.drop i)) w
 |[],i,_,ha,hb=>by
  simp only [List.length_nil,Nat.add_zero] at ha hb;rw [jS zQ,jS zQ];simp [sV]
 |f::r,i,h,ha,hb=>by
  simp only [KZ,aW,bne_iff_ne,ne_eq,beq_iff_eq] at h;obtain⟨⟨⟨hn,hu⟩,ho⟩,hr⟩:=h;simp only [ba] at ha hb;have hia:i<as.length:=by omega
  have hib:i<bs.length:=by omega
  cases hd:P.underlying f.type with
  |none=>simp [hd] at hu
  |some ty=>
   cases ty<;>simp only [hd,a8] at hu
   rename_i q;have za:(isAgg f.type).run P w= .ok false w:=by simp [isAgg,run_underlying hd]
   have VD:(part f.type (as.map (aA .i64)).toArray f.offset).run P w= .ok (.int .i64 as[i]) w:=by
    simp [part,za,ho,hia]
   have JJ:(part f.type (bs.map (aA .i64)).toArray f.offset).run P w= .ok (.int .i64 bs[i]) w:=by
    simp [part,za,ho,hib]
   have ih:=AX w d as bs r (i+1) hr zQ zQ;have hk:(as.drop i=bs.drop i)↔(as[i]=bs[i]∧as.drop (i+1)=bs.drop (i+1)):=by
    rw [iU hia,iU hib,List.cons.injEq]
   simp only [hk];clear hk;by_cases he:as[i]=bs[i]
   ·simp [sV,hn,VD,JJ,run_equalIn_int w d f.type .i64 q _ _ hd,he,ih]
   ·simp [sV,hn,VD,JJ,run_equalIn_int w d f.type .i64 q _ _ hd,he]
def il (P:Program) (t n:Nat):Bool:=match P.underlying t with
 |some (.struct fs)=>fs.toList.length==n&&KZ P fs.toList 0&&!P.stoodInHeld t&&!P.eqGuardType P.depth t
 |_=>false
theorem zk {t n:Nat} (h:il P t n=true) (as bs:List Int) (ha:as.length=n) (hb:bs.length=n) (w:World):
  (rl 10000 t (.agg (as.map (aA .i64)).toArray) (.agg (bs.map (aA .i64)).toArray)).run P w= .ok (decide (as=bs)) w:=by
 unfold il at h;split at h
 ·rename_i fs hu;simp only [aW,beq_iff_eq,cu] at h;have hf:P.fieldsOf t=fs:=by simp [Program.fieldsOf,hu]
  rw [run_equalIn_struct w 9999 t _ _ (by rw [hf];exact hu) h.1.2,hf];have:=AX (P:=P) w 9998 as bs fs.toList 0 h.1.1.2 (by rw [ha,h.1.1.1];omega) (by rw [hb,h.1.1.1];omega);simpa using this
 ·cases h
theorem DG {t n:Nat} (h:il P t n=true):P.eqGuardType P.depth t=false:=by
 unfold il at h;split at h
 ·simp only [aW,cu] at h;exact h.2
 ·cases h
theorem aeG {N:Value→Prop} {t:TypeId} {a b c a' b' c':Int} {xo yo:Operand} (h:il P t 3=true) (k:N (.bool (decide (a=a'∧b=b'∧c=c')))):
  ae P X w (aE .eql t xo yo (.agg #[.int .i64 a,.int .i64 b,.int .i64 c]) (.agg #[.int .i64 a',.int .i64 b',.int .i64 c'])) N:=
 aeE (b:=decide (a=a'∧b=b'∧c=c')) (DG h) (fun wa=>by
  have:=zk h [a,b,c] [a',b',c'] rfl rfl wa;simpa using this) k
theorem aeH {N:Value→Prop} {t:TypeId} {a b c a' b' c':Int} {xo yo:Operand} (h:il P t 3=true) (k:N (.bool (!decide (a=a'∧b=b'∧c=c')))):
  ae P X w (aE .neq t xo yo (.agg #[.int .i64 a,.int .i64 b,.int .i64 c]) (.agg #[.int .i64 a',.int .i64 b',.int .i64 c'])) N:=
 aeF (b:=decide (a=a'∧b=b'∧c=c')) (DG h) (fun wa=>by
  have:=zk h [a,b,c] [a',b',c'] rfl rfl wa;simpa using this) k
theorem Y5 {t:TypeId} {v:Value} {N:Value→World→XS→Prop} (hX: ∀k,X k→k<w.heap.size)
  (n: ∀b w' X',w.heap.size≤b→ak X w X' w'→X' b→w'.heap[b]? =some (.cells v.cells.toList.toArray t (0,0))→N (ptr b 0) w' X'):eV P R X w m (dN t v) N:=by
 intro wa hk;unfold iF;have hr:(dN t v).run P wa= .ok (ptr wa.heap.size 0) (wa.alloc (.cells v.cells t)):=by simp [dN,newVar,newRow]
 simp only [vS,bG,hr,aZ,bW];have hx:Ext wa (wa.alloc (.cells v.cells t)):=Ext.alloc _ _;exact⟨Step.eE hx,n _ _ _ hk.size (ak.eE hX hk hx) (.inr ⟨bg _,by simp⟩) (by simpa using heap_alloc_new wa _)⟩
def a7 (w:World) (X:XS) (b:Nat) (cs:List Value) (ty:TypeId):Prop:=X b∧w.heap[b]? =some (.cells cs.toArray ty (0,0))
theorem a7.kp {b:Nat} {cs:List Value} {ty:TypeId} {w':World} (h:a7 w X b cs ty) (hk:Kp X w w'):a7 w' X b cs ty:=⟨h.1,by rw [hk.block b h.1];exact h.2⟩
theorem a7.mono {b:Nat} {cs:List Value} {ty:TypeId} {Y:XS} (h:a7 w X b cs ty) (hs: ∀k,X k→Y k):a7 w Y b cs ty:=⟨hs _ h.1,h.2⟩
theorem a7.since {b:Nat} {cs:List Value} {ty:TypeId} {Y:XS} {w':World} (h:a7 w X b cs ty) (hs:ak X w Y w'):a7 w' Y b cs ty:=(h.kp hs.kp).mono hs.sub
theorem a7.cells {b:Nat} {cs:List Value} {ty:TypeId} (h:a7 w X b cs ty):Cells w X b 0 cs:=⟨h.1,_,_,_,h.2,fun j v hj=>by simpa using hj⟩
theorem aeI {t sz b o:Nat} {cs:List Value} {ty:TypeId} {v:Value} {N:Value→World→XS→Prop} (h:a7 w X b cs ty) (ht:(P.info? t).map (·.size)=some sz)
  (hl:o+sz≤cs.length) (hv:v.cells.size=sz) (h1:v.cells.toList.all one=true) (hX: ∀k,X k→k<w.heap.size)
  (n: ∀w' X',Grown X w X' w' (some b)→a7 w' X' b (cV cs o v.cells.toList) ty→N undef w' X'):eU P R X w true (Instr.storeAt t (ptr b o) v) N:=by
 intro wa hk;have hb:=(h.kp hk).2;unfold iF;have hr:=LK (P:=P) ht hb o (by simpa using hl) v hv h1;simp only [dT] at hr;simp only [uS,bG,hr,aZ,bW];have fK:(wa.setRow b (cV cs o v.cells.toList).toArray).heap.size=wa.heap.size:=by simp
 refine⟨⟨rfl,rfl,rfl,by rw [fK];exact bg _,fun k _ hx=>setRow_other wa b k _ fun e=>hx (e▸h.1)⟩,n _ _ ?_ ⟨.inl h.1,setRow_heap wa b _ _ ty _ hb⟩⟩;refine⟨hk.os,hk.tape,hk.output,by rw [fK];exact hk.size,fun k hx du=>?_,fun k h=>.inl h,fun k h=>?_⟩
 ·rw [setRow_other wa b k _ (fun e=>du (by rw [e])),hk.block k hx]
 ·rw [fK];exact h.elim (fun h=>aH (hX k h) hk.size) (fun h=>by have:=h.2;rwa [fK] at this)
variable {P : Program} {α : Type}
end Go.aR
set_option linter.unusedSectionVars false
set_option linter.unusedSimpArgs false
namespace Go.aR
variable {P : Program} {R : Ending → World → Prop} {X : XS} {w : World} {m : Bool} {κ : Type} [DecidableEq κ]
abbrev gB (κ:Type):=κ×Value×Nat
def jj (kv:κ→Value) (x:gB κ):MapEntry:=⟨kv x.1,x.2.1,x.2.2⟩
def oI (k:κ):List (gB κ)→Nat→Option (Nat×Value)
 |[],_=>none
 |x::r,i=>if k=x.1 then some (i,x.2.1)else oI k r (i+1)
structure sS (P:Program) (kt:TypeId) (kv:κ→Value):Prop where
 aB: ∀e k w,(fv e 10000 kt (kv k)).run P w= .ok () w
 find: ∀k (l:List (gB κ)) w,(qx kt (kv k) (l.map (jj kv))).run P w= .ok (oI k l 0) w
 same: ∀k,ko 10000 (kv k) (kv k)=true
theorem JK (a b:ByteArray):(a==b)=decide (a=b):=by
 rw [beq_toListBytes];have:a.toList=b.toList↔a=b:=by
  constructor
  ·intro h;rw [lQ,lQ] at h;obtain⟨⟨x⟩⟩:=a;obtain⟨⟨y⟩⟩:=b;simpa using h
  ·intro h;rw [h]
 by_cases h:a=b
 ·simp [h]
 ·simp [h,this]
theorem H6 {kt:TypeId} (h:P.underlying kt=some .string) (e:Bool) (n:Nat) (k:ByteArray) (w:World):
  (fv e (n+1) kt (.string k)).run P w= .ok () w:=by simp [fv,run_underlying h]
theorem Nx {kt:TypeId} {fs:Array Field} (h:P.underlying kt=some (.struct fs)) (e:Bool) (n:Nat) (cs:Array Value) (w:World)
  (hr:(forIn fs kq fun f (_:PUnit)=>(if f.name≠ "_" then(do
    let v←part f.type cs f.offset
    fv e n f.type v
    pure (oJ kq))
   else pure (oJ kq):Sem (ForInStep PUnit))).run P w= .ok kq w):
  (fv e (n+1) kt (.agg cs)).run P w= .ok () w:=by
 simp only [fv,bG,run_underlying h,aZ];exact(congrArg (fun r=>r.andThen fun _ w'=>se P (Pure.pure ()) w') hr).trans rfl
theorem Gz {kt:TypeId} (h:P.underlying kt=some .string):sS P kt (fun s:ByteArray=>Value.string s) where
 aB e k w:=H6 h e 9999 k w
 find k l w:=by
  have: ∀(l:List (gB ByteArray)) (i:Nat),gV .string (.string k) (l.map (jj fun s=>Value.string s)) i=some (oI k l i):=by
   intro l
   induction l with
   |nil=>intro i;rfl
   |cons x r ih=>
    intro i;by_cases hk:k=x.1
    ·simp [gV,jj,uH,oI,hk,JK]
    ·simp [gV,jj,uH,oI,hk,ih,JK]
  simp [qx,run_underlying h,this]
 same k:=by simp [ko,JK]
theorem AY (w:World) (e:Bool) (d:Nat) (as:List Int): ∀(fs:List Field) (i:Nat),KZ P fs i=true→as.length=i+fs.length→
  (forIn fs kq fun f (_:PUnit)=>(if f.name≠ "_" then(do
    let v←part f.type (as.map (aA .i64)).toArray f.offset
    fv e (d+1) f.type v
    pure (oJ kq))
   else pure (oJ kq):Sem (ForInStep PUnit))).run P w= .ok kq w
 |[],i,_,_=>by simp
 |f::r,i,h,ha=>by
  simp only [KZ,aW,bne_iff_ne,ne_eq,beq_iff_eq] at h;obtain⟨⟨⟨hn,hu⟩,ho⟩,hr⟩:=h;simp only [ba] at ha;have hia:i<as.length:=by omega
  cases hd:P.underlying f.type with
  |none=>simp [hd] at hu
  |some ty=>
   cases ty<;>simp only [hd,a8] at hu
   rename_i q;have za:(isAgg f.type).run P w= .ok false w:=by simp [isAgg,run_underlying hd]
   have VD:(part f.type (as.map (aA .i64)).toArray f.offset).run P w= .ok (.int .i64 as[i]) w:=by
    simp [part,za,ho,hia]
   have yJ:(fv e (d+1) f.type (.int .i64 as[i])).run P w= .ok () w:=by
    simp [fv,run_underlying hd]
   have ih:=AY w e d as r (i+1) hr zQ;rw [List.forIn_cons];simp only [ne_eq,hn,not_false_eq_true,if_true,bG,VD,yJ,aZ,bW];exact ih
theorem SR (d:Nat) (as:List Int):ko (d+1) (.agg (as.map (aA .i64)).toArray) (.agg (as.map (aA .i64)).toArray)=true:=by
 have: ∀l:List Int,((l.map (aA .i64)).zip (l.map (aA .i64))).all (fun (x,y)=>ko d x y)=true:=by
  intro l
  induction l with
  |nil=>rfl
  |cons x r ih=>
   simp only [cf,List.zip_cons_cons,List.all_cons,ih,Bool.and_true];cases d<;>simp [ko]
 simp [ko,this]
theorem aeJ {kt n:Nat} (h:il P kt n=true) (as:κ→List Int) (hlen: ∀k,(as k).length=n) (alR: ∀a b,as a=as b→a=b):
  sS P kt (fun k:κ=>ai ((as k).map (aA .i64)).toArray) where
 aB e k w:=by
  have h0:=h;unfold il at h;split at h
  ·rename_i fs hu;simp only [aW,beq_iff_eq,cu] at h;have hr:=AY (P:=P) w e 9998 (as k) fs.toList 0 h.1.1.2 (by rw [hlen,h.1.1.1];omega);rw [Array.forIn_toList] at hr;exact Nx hu e 9999 _ w hr
  ·cases h
 find k l w:=by
  have h0:=h;unfold il at h0;split at h0
  ·rename_i fs hu;have alS: ∀(l:List (gB κ)) (i:Nat),(rO kt (.agg ((as k).map (aA .i64)).toArray) (l.map (jj fun k=>ai ((as k).map (aA .i64)).toArray)) i).run P w= .ok (oI k l i) w:=by
    intro l
    induction l with
    |nil=>intro i;simp [rO,oI]
    |cons x r ih=>
     intro i;have he:=zk h (as k) (as x.1) (hlen _) (hlen _) w;simp only [cf,rO,jj,Op.equal,Op.maxDepth,bG,he,aZ,oI];by_cases hk:k=x.1
     ·subst hk;simp
     ·have: ¬as k=as x.1:=fun e=>hk (alR _ _ e);simp only [this,decide_false,a8,if_false,hk];exact ih _
   cases l with
   |nil=>simp [qx,run_underlying hu,gV,oI]
   |cons x r=>
    have:=alS (x::r) 0;simp only [qx,bG,run_underlying hu,aZ];simp only [cf,gV,jj,uH] at this⊢;exact this
  ·cases h0
 same k:=SR 9999 (as k)
def jQ (w:World) (X:XS) (b:Nat) (kv:κ→Value) (es:List (gB κ)) (clock:Nat):Prop:=
 X b∧w.heap[b]? =some (.map (es.map (jj kv)).toArray clock)∧(es.map (·.1)).Nodup∧(es.map (·.2.2)).Nodup∧ ∀x∈es,x.2.2<clock
theorem jQ.kp {b:Nat} {kv:κ→Value} {es:List (gB κ)} {c:Nat} {w':World} (h:jQ w X b kv es c) (hk:Kp X w w'):jQ w' X b kv es c:=
 ⟨h.1,by rw [hk.block b h.1];exact h.2.1,h.2.2⟩
theorem jQ.mono {b:Nat} {kv:κ→Value} {es:List (gB κ)} {c:Nat} {Y:XS} (h:jQ w X b kv es c) (hs: ∀k,X k→Y k):jQ w Y b kv es c:=⟨hs _ h.1,h.2⟩
theorem jQ.since {b:Nat} {kv:κ→Value} {es:List (gB κ)} {c:Nat} {Y:XS} {w':World} (h:jQ w X b kv es c) (hs:ak X w Y w'):jQ w' Y b kv es c:=
 (h.kp hs.kp).mono hs.sub
def Ej (k:κ) (es:List (gB κ)):Option Value:=(es.find? fun x=>decide (x.1=k)).map (·.2.1)
theorem Ny (k:κ): ∀(es:List (gB κ)) (i:Nat),oI k es i=(es.findIdx? fun x=>decide (x.1=k)).bind fun j=>(es[j]?).map fun x=>(i+j,x.2.1)
 |[],i=>rfl
 |x::r,i=>by
  unfold oI;by_cases h:k=x.1
  ·simp [h,gL]
  ·rw [if_neg h,Ny k r (i+1)];have h': ¬x.1=k:=fun e=>h e.symm;simp only [gL,h',decide_false,a8,if_false];cases r.findIdx? fun x=>decide (x.1=k)with
   |none=>rfl
   |some j=>simp [Nat.add_assoc,Nat.add_comm 1 j]
theorem Sm (k:κ): ∀(es:List (gB κ)) (i:Nat),(oI k es i).map (·.2)=Ej k es
 |[],i=>rfl
 |x::r,i=>by
  unfold oI Ej;by_cases h:k=x.1
  ·simp [h]
  ·have h': ¬x.1=k:=fun e=>h e.symm;rw [if_neg h,Sm k r (i+1)];simp [Ej,h']
theorem aav {t kt et b c:Nat} {kv:κ→Value} {es:List (gB κ)} {k:κ} {N:Value→Prop} (z:Value) (h:jQ w X b kv es c) (K:sS P kt kv)
  (ht:P.underlying t=some (.map kt et)) (hz:(P.info? et).bind (·.zero)=some z)
  (n:N (.tuple #[(Ej k es).getD z,.bool (Ej k es).isSome])):ae P X w (Instr.lookup t (.map (some b)) (kv k) true) N:=by
 refine Fa _ (fun wa hk=>?_) n;have hb:=(h.kp hk).2.1;cases hi:P.info? et with
 |none=>simp [hi] at hz
 |some inf=>
  have CW:inf.zero=some z:=by simpa [hi] using hz
  have hg:=Sm k es 0;simp only [Instr.lookup,bG,run_underlying ht,aZ,getObj,se,hb,K.aB,dg,K.find];cases hf:oI k es 0 with
  |none=>
   rw [hf] at hg;simp only [Option.map_none] at hg;simp [zeroValue,typeInfo,hi,CW,←hg,K.find,hf]
  |some r=>
   rw [hf] at hg;simp only [bt] at hg;simp [←hg,K.find,hf]
theorem aaw {t:TypeId} {kv:κ→Value} {N:Value→World→XS→Prop} (hX: ∀k,X k→k<w.heap.size)
  (n: ∀b w' X',w.heap.size≤b→ak X w X' w'→jQ w' X' b kv [] 0→N (.map (some b)) w' X'):eV P R X w m (gd t none) N:=by
 intro wa hk;unfold iF;have hr:(gd t none).run P wa= .ok (.map (some wa.heap.size)) (wa.alloc (.map #[] 0)):=by simp [gd]
 simp only [vS,bG,hr,aZ,bW];have hx:Ext wa (wa.alloc (.map #[] 0)):=Ext.alloc _ _;exact⟨Step.eE hx,n _ _ _ hk.size (ak.eE hX hk hx) ⟨.inr ⟨bg _,by simp⟩,by simpa using heap_alloc_new wa _,by simp,by simp,by simp⟩⟩
open Go.ChangeMaps (setBlock)
theorem JL {b:Nat} {o:Obj} {wa:World} (hX: ∀k,X k→k<w.heap.size) (hk:Kp X w wa):Grown X w (grow X wa (setBlock wa b o)) (setBlock wa b o) (some b):=by
 have hs:(setBlock wa b o).heap.size=wa.heap.size:=by simp [setBlock]
 refine⟨hk.os,hk.tape,hk.output,by rw [hs];exact hk.size,fun k hx du=>?_,fun k h=>.inl h,fun k h=>?_⟩
 ·rw [←hk.block k hx];have:b≠k:=fun e=>du (by rw [e]);simp [setBlock,dQ,this]
 ·rw [hs];exact h.elim (fun h=>aH (hX k h) hk.size) (fun h=>by have:=h.2;rwa [hs] at this)
theorem VE {b:Nat} {o:Obj} {wa:World} (hb:X b):Fr X wa (setBlock wa b o):=by
 refine⟨rfl,rfl,rfl,by simp [setBlock],fun k _ hx=>?_⟩;have:b≠k:=fun e=>hx (e▸hb);simp [setBlock,dQ,this]
theorem Jl {b:Nat} {o:Obj} {wa:World} (hb:b<wa.heap.size):(setBlock wa b o).heap[b]? =some o:=by
 simp [setBlock,dQ,hb]
theorem run_setObj_map {wa:World} {b:Nat} {es:Array MapEntry} {c:Nat} (hb:wa.heap[b]? =some (.map es c)) (o:Obj):(setObj b o).run P wa= .ok () (setBlock wa b o):=by
 simp [setObj,se,hb,setBlock]
def Cy (k:κ) (v:Value) (c:Nat) (es:List (gB κ)):List (gB κ)×Nat:=
 match es.findIdx? fun x=>decide (x.1=k)with
 |some i=>(es.modify i fun x=>(x.1,v,x.2.2),c)
 |none=>(es++[(k,v,c)],c+1)
theorem zl {β γ:Type} (g:β→γ) (f:β→β) (hf: ∀x,g (f x)=g x): ∀(l:List β) (i:Nat),(l.modify i f).map g=l.map g
 |[],i=>by simp
 |x::r,0=>by simp [hf]
 |x::r,i+1=>by simp [zl g f hf r i]
theorem mem_modify {β:Type} {f:β→β} : ∀{l:List β} {i:Nat} {y:β},y∈l.modify i f→ ∃x∈l,y=x∨y=f x
 |[],i,y,h=>by simp at h
 |x::r,0,y,h=>by
  simp only [List.modify_zero_cons,List.mem_cons] at h;rcases h with h|h
  ·exact⟨x,by simp,.inr h⟩
  ·exact⟨y,by simp [h],.inl rfl⟩
 |x::r,i+1,y,h=>by
  simp only [List.modify_succ_cons,List.mem_cons] at h;rcases h with h|h
  ·exact⟨x,by simp,.inl h⟩
  ·obtain⟨z,hz,he⟩:=mem_modify h;exact⟨z,by simp [hz],he⟩
theorem acr {t kt et b c:Nat} {kv:κ→Value} {es:List (gB κ)} {k:κ} {v:Value} {N:Value→World→XS→Prop} (h:jQ w X b kv es c) (K:sS P kt kv)
  (ht:P.underlying t=some (.map kt et)) (hX: ∀k,X k→k<w.heap.size)
  (n: ∀w' X',Grown X w X' w' (some b)→jQ w' X' b kv (Cy k v c es).1 (Cy k v c es).2→N undef w' X'):
  eU P R X w true (aP t (.map (some b)) (kv k) v) N:=by
 intro wa hk;have hM:=h.kp hk;have hb:=hM.2.1;have dz:b<wa.heap.size:=(Array.getElem?_eq_some_iff.1 hb).1;unfold iF;have hr:(aP t (.map (some b)) (kv k) v).run P wa= .ok () (setBlock wa b (.map ((Cy k v c es).1.map (jj kv)).toArray (Cy k v c es).2)):=by
  simp only [aP,bG,run_underlying ht,aZ,getObj,se,hb,K.aB,dg,K.find,Ny];unfold Cy;cases hf:es.findIdx? fun x=>decide (x.1=k)with
  |none=>simp [run_setObj_map hb,jj]
  |some j=>
   have hj:=List.findIdx?_eq_some_iff_getElem.1 hf;obtain⟨BY,hjk,_⟩:=hj;have aib:es[j].1=k:=by simpa using hjk
   simp only [cU,bE BY,bt,eZ,bG];have ed:(vi (((es.map (jj kv)).toArray[j]?).map (·.key)|>.getD (kv k)) (kv k)).run P wa= .ok (kv k) wa:=by
    simp [vi,BY,jj,aib,K.same]
   rw [ed];simp only [aZ,run_setObj_map hb]
   congr 3
   rw [List.modify_toArray]
   congr 1
   apply List.ext_getElem?;intro q;simp only [List.getElem?_modify,dO];by_cases hq:j=q
   ·subst hq;simp [bE BY,jj,aib]
   ·simp [hq]
 simp only [uS,bG,hr,aZ,bW];refine⟨VE hM.1,n _ _ (JL hX hk) ⟨.inl h.1,Jl dz,?_,?_,?_⟩⟩
 ·unfold Cy;cases hf:es.findIdx? fun x=>decide (x.1=k)with
  |none=>
   simp only [bC,cf,List.map_nil];rw [wS];refine⟨h.2.2.1,by simp,fun a ha y hy=>?_⟩;simp only [bw] at hy;subst hy;rintro rfl;obtain⟨x,hx,rfl⟩:=List.mem_map.1 ha;have:=List.findIdx?_eq_none_iff.1 hf x hx;simp at this
  |some j=>simp only;rw [zl (fun x:gB κ=>x.1) (fun x=>(x.1,v,x.2.2)) (fun _=>rfl)];exact h.2.2.1
 ·unfold Cy;cases hf:es.findIdx? fun x=>decide (x.1=k)with
  |none=>
   simp only [bC,cf,List.map_nil];rw [wS];refine⟨h.2.2.2.1,by simp,fun a ha y hy=>?_⟩;simp only [bw] at hy;subst hy;rintro rfl;obtain⟨x,hx,he⟩:=List.mem_map.1 ha;have:=h.2.2.2.2 x hx;omega
  |some j=>simp only;rw [zl (fun x:gB κ=>x.2.2) (fun x=>(x.1,v,x.2.2)) (fun _=>rfl)];exact h.2.2.2.1
 ·unfold Cy;cases hf:es.findIdx? fun x=>decide (x.1=k)with
  |none=>
   intro x hx;rcases List.mem_append.1 hx with hx|hx
   ·have:=h.2.2.2.2 x hx;show x.2.2<c+1;omega
   ·simp only [bw] at hx;subst hx;exact Nat.lt_succ_self c
  |some j=>
   intro x hx;obtain⟨y,hy,rfl|rfl⟩:=mem_modify hx
   ·exact h.2.2.2.2 _ hy
   ·exact h.2.2.2.2 y hy
def Nz (k:κ) (es:List (gB κ)):List (gB κ):=match es.findIdx? fun x=>decide (x.1=k)with
 |some i=>es.eraseIdx i
 |none=>es
theorem acs {t kt et tk ty b c:Nat} {kv:κ→Value} {es:List (gB κ)} {k:κ} {N:Value→World→XS→Prop} (h:jQ w X b kv es c) (K:sS P kt kv)
  (ht:P.underlying t=some (.map kt et)) (hX: ∀k,X k→k<w.heap.size)
  (n: ∀w' X',Grown X w X' w' (some b)→jQ w' X' b kv (Nz k es) c→N (.tuple #[]) w' X'):
  eV P R X w true (sD #[t,tk] ty #[.map (some b),kv k]) N:=by
 intro wa hk;have hM:=h.kp hk;have hb:=hM.2.1;have dz:b<wa.heap.size:=(Array.getElem?_eq_some_iff.1 hb).1;unfold iF;have nR:(Nz k es).Sublist es:=by
  unfold Nz;split
  ·exact List.eraseIdx_sublist _ _
  ·exact List.Sublist.refl _
 have hr:(sD #[t,tk] ty #[.map (some b),kv k]).run P wa= .ok (.tuple #[]) (setBlock wa b (.map ((Nz k es).map (jj kv)).toArray c)):=by
  have e0:(#[t,tk]:Array TypeId)[0]? =some t:=rfl;have e1:(#[Value.map (some b),kv k]:Array Value)[0]? =some (.map (some b)):=rfl;have e2:(#[Value.map (some b),kv k]:Array Value)[1]? =some (kv k):=rfl;simp only [sD,e0,e1,e2,bG,run_underlying ht,aZ,getObj,se,hb,K.aB,dg,K.find,Ny];unfold Nz;cases hf:es.findIdx? fun x=>decide (x.1=k)with
  |none=>simp [run_setObj_map hb]
  |some j=>
   obtain⟨BY,_,_⟩:=List.findIdx?_eq_some_iff_getElem.1 hf;simp only [cU,bE BY,bt,eZ,run_setObj_map hb,aZ,bW];simp [Array.eraseIdxIfInBounds,BY,Go.ChangeMaps.map_eraseIdx,run_setObj_map hb]
 simp only [vS,bG,hr,aZ,bW];exact⟨VE hM.1,n _ _ (JL hX hk) ⟨.inl h.1,Jl dz,h.2.2.1.sublist (nR.map _),h.2.2.2.1.sublist (nR.map _),fun x hx=>h.2.2.2.2 x (nR.subset hx)⟩⟩
def xW (w:World) (X:XS) (r b:Nat) (kv:κ→Value) (es:List (gB κ)) (c:Nat) (left:List (gB κ)):Prop:=
 jQ w X b kv es c∧X r∧r≠b∧ ∃seen:Array Nat,w.heap[r]? =some (.mapIter (some b) c seen c)∧left=es.filter (fun x=>!seen.contains x.2.2)
theorem xW.kp {r b:Nat} {kv:κ→Value} {es left:List (gB κ)} {c:Nat} {w':World} (h:xW w X r b kv es c left) (hk:Kp X w w'):xW w' X r b kv es c left:=
 ⟨h.1.kp hk,h.2.1,h.2.2.1,let⟨s,hs,hl⟩:=h.2.2.2;⟨s,by rw [hk.block r h.2.1];exact hs,hl⟩⟩
theorem xW.mono {r b:Nat} {kv:κ→Value} {es left:List (gB κ)} {c:Nat} {Y:XS} (h:xW w X r b kv es c left) (hs: ∀k,X k→Y k):xW w Y r b kv es c left:=
 ⟨h.1.mono hs,hs _ h.2.1,h.2.2⟩
theorem xW.since {r b:Nat} {kv:κ→Value} {es left:List (gB κ)} {c:Nat} {Y:XS} {w':World} (h:xW w X r b kv es c left) (hs:ak X w Y w'):xW w' Y r b kv es c left:=
 (h.kp hs.kp).mono hs.sub
theorem aeK {t kt et b c:Nat} {kv:κ→Value} {es:List (gB κ)} {N:Value→World→XS→Prop} (h:jQ w X b kv es c) (ht:P.underlying t=some (.map kt et))
  (hX: ∀k,X k→k<w.heap.size) (n: ∀r w' X',w.heap.size≤r→ak X w X' w'→xW w' X' r b kv es c es→N (ptr r 0) w' X'):
  eV P R X w m (xT t (.map (some b))) N:=by
 intro wa hk;have hM:=h.kp hk;have hb:=hM.2.1;have dz:b<wa.heap.size:=(Array.getElem?_eq_some_iff.1 hb).1;unfold iF;have hr:(xT t (.map (some b))).run P wa= .ok (ptr wa.heap.size 0) (wa.alloc (.mapIter (some b) c #[] c)):=by
  simp [xT,run_underlying ht,getObj,se,hb]
 simp only [vS,bG,hr,aZ,bW];have hx:Ext wa (wa.alloc (.mapIter (some b) c #[] c)):=Ext.alloc _ _;have hs:=ak.eE hX hk hx;exact⟨Step.eE hx,n _ _ _ hk.size hs ⟨h.since hs,.inr ⟨bg _,by simp⟩,by omega,#[],heap_alloc_new wa _,(List.filter_eq_self.2 (by simp)).symm⟩⟩
theorem agw {ty r b c:Nat} {kv:κ→Value} {es left:List (gB κ)} {N:Value→World→XS→Prop} (h:xW w X r b kv es c left) (hX: ∀k,X k→k<w.heap.size)
  (n0:left=[]→ ∀w' X',ak X w X' w'→N (.tuple #[.bool false]) w' X')
  (n1: ∀x∈left,∀w' X',Grown X w X' w' (some r)→xW w' X' r b kv es c (left.filter fun y=>decide (y.2.2≠x.2.2))→
   (∀wa,Kp X' w' wa→(k6 (ptr r 0)).run P wa= .ok (.tuple #[kv x.1,x.2.1]) wa)→N (.tuple #[.bool true,kv x.1,x.2.1]) w' X'):
  eV P R X w true (Instr.next (ptr r 0) false ty) N:=by
 intro wa hk;obtain⟨hM,hXr,hrb,seen,hr,aax⟩:=h.kp hk;have hb:=hM.2.1;have B9:r<wa.heap.size:=(Array.getElem?_eq_some_iff.1 hr).1;unfold iF;have hold: ∀x∈((es.map (jj kv)).toArray).toList,x.born<c:=by
  intro x hx;simp only [dg,List.mem_map] at hx;obtain⟨y,hy,rfl⟩:=hx;exact hM.2.2.2.2 y hy
 have fp:(leftOf (es.map (jj kv)).toArray seen).toList=left.map (jj kv):=by
  rw [aax];simp only [leftOf,Array.toList_filter,dg,List.filter_map];rfl
 rcases run_next_at (P:=P) wa ty r b c c seen _ c hr hb hold (bg _)with⟨hz,jI⟩|⟨e,he,w1,Dz,jI⟩
 ·simp only [vS,bG,jI,aZ,bW];have h0:left=[]:=by
   have:left.map (jj kv)=[]:=by rw [←fp];exact fD (by simpa using hz)
   simpa using this
  exact⟨Step.eE (Ext.refl _),n0 h0 _ _ (ak.eE hX hk (Ext.refl _))⟩
 ·rw [fp] at he;obtain⟨x,hx,rfl⟩:=List.mem_map.1 he;simp only [vS,bG,jI,aZ,bW];have pq:Kp X w w1:=by
   rcases Dz with rfl|rfl
   ·exact hk
   ·exact⟨hk.os,hk.tape,hk.output,hk.size,hk.block⟩
  have adZ:r<w1.heap.size:=by rcases Dz with rfl|rfl<;>exact B9
  have rT:w1.heap[b]? =some (.map (es.map (jj kv)).toArray c):=by rcases Dz with rfl|rfl<;>exact hb
  have alT:Fr X wa w1:=by rcases Dz with rfl|rfl<;>exact⟨rfl,rfl,rfl,bg _,fun _ _ _=>rfl⟩
  have VF: ∀o,(setBlock w1 r o).heap[b]? =some (.map (es.map (jj kv)).toArray c):=by
   intro o;rw [←rT];simp [setBlock,dQ,hrb]
  have EE:w1.heap.size=wa.heap.size:=by rcases Dz with rfl|rfl<;>rfl
  have ajU:grow X wa (setBlock w1 r (.mapIter (some b) c (seen.push x.2.2) c))=grow X w1 (setBlock w1 r (.mapIter (some b) c (seen.push x.2.2) c)):=by
   unfold grow;rw [EE]
  have hG:=JL (o:=.mapIter (some b) c (seen.push x.2.2) c) (b:=r) hX pq;have Hz:xW (setBlock w1 r (.mapIter (some b) c (seen.push x.2.2) c)) (grow X w1 (setBlock w1 r (.mapIter (some b) c (seen.push x.2.2) c))) r b kv es c (left.filter fun y=>decide (y.2.2≠x.2.2)):=by
   refine⟨⟨.inl hM.1,VF _,hM.2.2⟩,.inl hXr,hrb,seen.push x.2.2,Jl adZ,?_⟩;rw [aax,List.filter_filter]
   congr 1
   funext y
   by_cases hy:y.2.2=x.2.2<;>simp [hy,Array.contains_push,Bool.beq_eq_decide_eq]
  show Fr X wa _∧N _ _ (grow X wa _)
  refine⟨alT.trans (VE hXr),?_⟩
  show N (.tuple #[.bool true,kv x.1,x.2.1]) (setBlock w1 r (.mapIter (some b) c (seen.push x.2.2) c)) (grow X wa (setBlock w1 r (.mapIter (some b) c (seen.push x.2.2) c)))
  rw [ajU];refine n1 x hx _ _ hG Hz fun wb mN=>?_;have alU:=Hz.kp mN;have hxe:x∈es:=by rw [aax] at hx;exact(List.mem_filter.1 hx).1
  exact run_entry_at (P:=P) wb r b c seen (es.map (jj kv)).toArray c (jj kv x) (by rw [mN.block r (.inl hXr)];exact Jl adZ) alU.1.2.1 (by rw [dg];exact List.mem_map.2 ⟨x,hxe,rfl⟩)
   (by rw [dg,List.map_map];exact hM.2.2.2.1)
theorem aeL {r:Nat} {k v:Value} {N:Value→World→XS→Prop} (hX: ∀k,X k→k<w.heap.size)
  (h: ∀wa,Kp X w wa→(k6 (ptr r 0)).run P wa= .ok (.tuple #[k,v]) wa) (n: ∀w' X',ak X w X' w'→N (.tuple #[k,v]) w' X'):
  eV P R X w m (k6 (ptr r 0)) N:=by
 intro wa hk;unfold iF;simp only [vS,bG,h wa hk,aZ,bW];exact⟨Step.eE (Ext.refl _),n _ _ (ak.eE hX hk (Ext.refl _))⟩
variable {P : Program} {R : Ending → World → Prop} {X : XS} {w : World} {m : Bool} {N : Value → Prop}
def un (e:Value) (M:Value→Prop):Prop:=M e
def jn {α:Type} (r:α) (B:α→Prop):Prop:=B r
def aS (S f _fo _sz:Nat) (x:Value):Sem Value:=Instr.fieldAt S x f
def ld1 (t:TypeId) (x:Value):Sem Value:=gI t x
def dY (t:TypeId) (_n:Nat) (x:Value):Sem Value:=gI t x
def st1 (t:TypeId) (_n:Nat) (x v:Value):Sem Unit:=Instr.storeAt t x v
def dr (t:TypeId) (_k:Nat) (v i:Value):Sem Value:=Instr.indexAt t v i
def cB (t ty:TypeId) (v:Value):Sem Value:=j7 #[t] ty #[v]
def kN (t ty:TypeId) (v:Value):Sem Value:=j7 #[t] ty #[v]
def dw (t:TypeId) (_cells:Array Value) (parts:Array (Nat×Value)):Sem Value:=Instr.build t parts
def lR (_k:IntKind) (src dst:TypeId) (x:Value):Sem Value:=convert src dst x
def uK (src dst:TypeId) (x:Value):Sem Value:=convert src dst x
def sP (t _n _e:Nat) (x i:Value):Sem Value:=xU t x i
def fC (t _e _k len:Nat) (parts:Array (Nat×Value)):Sem Value:=gF t len parts
def e6 (t _e _k _bytes ty:Nat) (v s:Value):Sem Value:=ej #[t,t] ty #[v,s]
def fdV (S f _fo _sz:Nat) (x:Value):Sem Value:=Instr.field S x f
abbrev I (x:Int):Value:=.int .i64 x
abbrev B (x:Bool):Value:=.bool x
def xh (X:XS) (w:World) (F:JT→Nat→World→XS→Prop):Prop:=Sk X w [] [] fun J n _ w X=>F J n w X
def gG (X:XS) (w:World) (v1:Value) (c1:Nat) (F:JT→Nat→Value→World→XS→Prop):Prop:=Sk X w [v1] [c1] fun J n e w X=>F J n (e c1) w X
def gS (X:XS) (w:World) (v1 v2:Value) (c1 c2:Nat) (F:JT→Nat→Value→Value→World→XS→Prop):Prop:=
 Sk X w [v1,v2] [c1,c2] fun J n e w X=>F J n (e c1) (e c2) w X
def qK (X:XS) (w:World) (v1 v2 v3:Value) (c1 c2 c3:Nat) (F:JT→Nat→Value→Value→Value→World→XS→Prop):Prop:=
 Sk X w [v1,v2,v3] [c1,c2,c3] fun J n e w X=>F J n (e c1) (e c2) (e c3) w X
def uL (X:XS) (w:World) (v1 v2 v3 v4:Value) (c1 c2 c3 c4:Nat) (F:JT→Nat→Value→Value→Value→Value→World→XS→Prop):Prop:=
 Sk X w [v1,v2,v3,v4] [c1,c2,c3,c4] fun J n e w X=>F J n (e c1) (e c2) (e c3) (e c4) w X
def sQ (X:XS) (w:World) (v1 v2 v3 v4 v5:Value) (c1 c2 c3 c4 c5:Nat) (F:JT→Nat→Value→Value→Value→Value→Value→World→XS→Prop):Prop:=
 Sk X w [v1,v2,v3,v4,v5] [c1,c2,c3,c4,c5] fun J n e w X=>F J n (e c1) (e c2) (e c3) (e c4) (e c5) w X
def xi (X:XS) (w:World) (v1 v2 v3 v4 v5 v6:Value) (c1 c2 c3 c4 c5 c6:Nat) (F:JT→Nat→Value→Value→Value→Value→Value→Value→World→XS→Prop):Prop:=
 Sk X w [v1,v2,v3,v4,v5,v6] [c1,c2,c3,c4,c5,c6] fun J n e w X=>F J n (e c1) (e c2) (e c3) (e c4) (e c5) (e c6) w X
def xj (X:XS) (w:World) (v1 v2 v3 v4 v5 v6 v7:Value) (c1 c2 c3 c4 c5 c6 c7:Nat) (F:JT→Nat→Value→Value→Value→Value→Value→Value→Value→World→XS→Prop):Prop:=
 Sk X w [v1,v2,v3,v4,v5,v6,v7] [c1,c2,c3,c4,c5,c6,c7] fun J n e w X=>F J n (e c1) (e c2) (e c3) (e c4) (e c5) (e c6) (e c7) w X
def xk (J:JT) (n:Nat) (w:World) (X:XS):Prop:=C7 J n [] w X
def gz (J:JT) (n:Nat) (a:Value) (w:World) (X:XS):Prop:=C7 J n [a] w X
def gP (J:JT) (n:Nat) (a b:Value) (w:World) (X:XS):Prop:=C7 J n [a,b] w X
def qL (J:JT) (n:Nat) (a b c:Value) (w:World) (X:XS):Prop:=C7 J n [a,b,c] w X
def uM (J:JT) (n:Nat) (a b c d:Value) (w:World) (X:XS):Prop:=C7 J n [a,b,c,d] w X
def sR (J:JT) (n:Nat) (a b c d f:Value) (w:World) (X:XS):Prop:=C7 J n [a,b,c,d,f] w X
def xl (J:JT) (n:Nat) (a b c d f g:Value) (w:World) (X:XS):Prop:=C7 J n [a,b,c,d,f,g] w X
def xm (J:JT) (n:Nat) (a b c d f g h:Value) (w:World) (X:XS):Prop:=C7 J n [a,b,c,d,f,g,h] w X
def J1 (I:Nat→Value→World→XS→Prop):JT:=fun n vs w X=>match vs with
 |[a]=>I n a w X
 |_=>False
def J2 (I:Nat→Value→Value→World→XS→Prop):JT:=fun n vs w X=>match vs with
 |[a,b]=>I n a b w X
 |_=>False
def J3 (I:Nat→Value→Value→Value→World→XS→Prop):JT:=fun n vs w X=>match vs with
 |[a,b,c]=>I n a b c w X
 |_=>False
def J4 (I:Nat→Value→Value→Value→Value→World→XS→Prop):JT:=fun n vs w X=>match vs with
 |[a,b,c,d]=>I n a b c d w X
 |_=>False
def J5 (I:Nat→Value→Value→Value→Value→Value→World→XS→Prop):JT:=fun n vs w X=>match vs with
 |[a,b,c,d,f]=>I n a b c d f w X
 |_=>False
theorem fQ {v1 c1 F} (I:Nat→Value→World→XS→Prop) (n:Nat) (h0:I n v1 w X)
  (h: ∀n a w' X',I n a w' X'→F (J1 I) n a w' X'):gG X w v1 c1 F:=⟨J1 I,⟨n,h0⟩,fun n e w' X' _ hj=>h n (e c1) w' X' hj⟩
theorem fM {v1 v2 c1 c2 F} (I:Nat→Value→Value→World→XS→Prop) (n:Nat) (h0:I n v1 v2 w X)
  (h: ∀n a b w' X',I n a b w' X'→F (J2 I) n a b w' X'):gS X w v1 v2 c1 c2 F:=⟨J2 I,⟨n,h0⟩,fun n e w' X' _ hj=>h n (e c1) (e c2) w' X' hj⟩
theorem B2 {v1 v2 v3 c1 c2 c3 F} (I:Nat→Value→Value→Value→World→XS→Prop) (n:Nat) (h0:I n v1 v2 v3 w X)
  (h: ∀n a b c w' X',I n a b c w' X'→F (J3 I) n a b c w' X'):qK X w v1 v2 v3 c1 c2 c3 F:=⟨J3 I,⟨n,h0⟩,fun n e w' X' _ hj=>h n (e c1) (e c2) (e c3) w' X' hj⟩
theorem ahv {v1 v2 v3 v4 c1 c2 c3 c4 F} (I:Nat→Value→Value→Value→Value→World→XS→Prop) (n:Nat) (h0:I n v1 v2 v3 v4 w X)
  (h: ∀n a b c d w' X',I n a b c d w' X'→F (J4 I) n a b c d w' X'):uL X w v1 v2 v3 v4 c1 c2 c3 c4 F:=
 ⟨J4 I,⟨n,h0⟩,fun n e w' X' _ hj=>h n (e c1) (e c2) (e c3) (e c4) w' X' hj⟩
theorem Om {v1 v2 v3 v4 v5 c1 c2 c3 c4 c5 F} (I:Nat→Value→Value→Value→Value→Value→World→XS→Prop) (n:Nat) (h0:I n v1 v2 v3 v4 v5 w X)
  (h: ∀n a b c d f w' X',I n a b c d f w' X'→F (J5 I) n a b c d f w' X'):sQ X w v1 v2 v3 v4 v5 c1 c2 c3 c4 c5 F:=
 ⟨J5 I,⟨n,h0⟩,fun n e w' X' _ hj=>h n (e c1) (e c2) (e c3) (e c4) (e c5) w' X' hj⟩
theorem fh {I n a} (k:Nat) (hk:k<n) (h:I k a w X):gz (J1 I) n a w X:=⟨k,hk,h⟩
theorem fI {I n a b} (k:Nat) (hk:k<n) (h:I k a b w X):gP (J2 I) n a b w X:=⟨k,hk,h⟩
theorem B3 {I n a b c} (k:Nat) (hk:k<n) (h:I k a b c w X):qL (J3 I) n a b c w X:=⟨k,hk,h⟩
theorem ahw {I n a b c d} (k:Nat) (hk:k<n) (h:I k a b c d w X):uM (J4 I) n a b c d w X:=⟨k,hk,h⟩
theorem Um {I n a b c d f} (k:Nat) (hk:k<n) (h:I k a b c d f w X):sR (J5 I) n a b c d f w X:=⟨k,hk,h⟩
theorem dy {α:Type} {r:α} {F:α→Prop} (h:F r):jn r F:=h
theorem mn {α:Type} {r:α} {F:α→Prop} (Q:α→Prop) (h:Q r) (k: ∀c,Q c→F c):jn r F:=k r h
theorem agx {l:List Value} {i:Nat} {a:Value} {M:Value→Prop} (h:l[i]? =some a) (k:M a):un (cellOf (.agg l.toArray) i) M:=by
 have:cellOf (.agg l.toArray) i=a:=by simp [cellOf,aa,jR,h]
 unfold un;rw [this];exact k
theorem acu {l:List Value} {o n:Nat} {M:Value→Prop} (k:M (.agg ((l.drop o).take n).toArray)):un (cj (.agg l.toArray) o n) M:=by
 have:cj (.agg l.toArray) o n= .agg ((l.drop o).take n).toArray:=by simp [cj,aa]
 unfold un;rw [this];exact k
theorem acv {c:Array Value} {M:Value→Prop} (k:M (.agg c)):un (.agg (aa (.agg c))) M:=k
theorem agy {v:Value} {M:Value→Prop} (k:M v):un (aU (.bool true) true v) M:=k
theorem agz {v:Value} {M:Value→Prop} (k:M v):un (aU (.bool false) false v) M:=k
theorem aeM {v:Value} {M:Value→Prop} (k:M undef):un (aU (.bool true) false v) M:=k
theorem aeN {v:Value} {M:Value→Prop} (k:M undef):un (aU (.bool false) true v) M:=k
theorem agA {v:Value} {q:Bool} {M:Value→Prop} (k:M undef):un (aU undef q v) M:=by
 have:aU undef q v=undef:=by cases q<;>rfl
 unfold un;rw [this];exact k
theorem aay {b:Bool} {A:Prop} (h:b=true) (k:A):aB b A:=by subst h;exact k
theorem agB {A C:Prop} (h:A):ay (.bool true) A C:=⟨fun _=>h,fun h=>absurd h (by simp)⟩
theorem agC {A C:Prop} (h:C):ay (.bool false) A C:=⟨fun h=>absurd h (by simp),fun _=>h⟩
theorem aic {s:Sem Next} {want:Bool} (h:N undef):aJ P X w undef want s N:=by
 have e:lP undef want=false:=by cases want<;>rfl
 unfold aJ;exact⟨undef,fun hf=>absurd (e.symm.trans hf) (by simp),fun _=>rfl,h⟩
theorem aeO {s:Sem Value} (h:ae P X w s N):aJ P X w (.bool true) true (vS s) N:=KY h
theorem aeP {s:Sem Value} (h:ae P X w s N):aJ P X w (.bool false) false (vS s) N:=KY h
section
variable {t : TypeId} {k : IntKind} {a b : Int} {xo yo : Operand}
theorem aaz (hT:a<b→N (.bool true)) (hF: ¬a<b→N (.bool false)):ae P X w (binOp .lss t (.int k a) (.int k b)) N:=
 agl (by by_cases h:a<b;(· rw [decide_eq_true h];exact hT h);(· rw [decide_eq_false h];exact hF h))
theorem aaA (hT:a≤b→N (.bool true)) (hF: ¬a≤b→N (.bool false)):ae P X w (binOp .leq t (.int k a) (.int k b)) N:=
 agm (by by_cases h:a≤b;(· rw [decide_eq_true h];exact hT h);(· rw [decide_eq_false h];exact hF h))
theorem aaB (hT:a>b→N (.bool true)) (hF: ¬a>b→N (.bool false)):ae P X w (binOp .gtr t (.int k a) (.int k b)) N:=
 agn (by by_cases h:a>b;(· rw [decide_eq_true h];exact hT h);(· rw [decide_eq_false h];exact hF h))
theorem aaC (hT:a≥b→N (.bool true)) (hF: ¬a≥b→N (.bool false)):ae P X w (binOp .geq t (.int k a) (.int k b)) N:=
 ago (by by_cases h:a≥b;(· rw [decide_eq_true h];exact hT h);(· rw [decide_eq_false h];exact hF h))
theorem aaD (hT:a=b→N (.bool true)) (hF: ¬a=b→N (.bool false)):ae P X w (aE .eql t xo yo (.int k a) (.int k b)) N:=
 agr (by by_cases h:a=b;(· rw [decide_eq_true h];exact hT h);(· rw [decide_eq_false h];exact hF h))
theorem aaE (hT: ¬a=b→N (.bool true)) (hF:a=b→N (.bool false)):ae P X w (aE .neq t xo yo (.int k a) (.int k b)) N:=
 ags (by by_cases h:a=b;(· rw [decide_eq_false (fun hn=>hn h)];exact hF h);(· rw [decide_eq_true h];exact hT h))
theorem aid (h:a<b) (k':N (.bool true)):ae P X w (binOp .lss t (.int k a) (.int k b)) N:=aaz (fun _=>k') (fun hn=>absurd h hn)
theorem aie (h: ¬a<b) (k':N (.bool false)):ae P X w (binOp .lss t (.int k a) (.int k b)) N:=aaz (fun hn=>absurd hn h) (fun _=>k')
theorem aif (h:a≤b) (k':N (.bool true)):ae P X w (binOp .leq t (.int k a) (.int k b)) N:=aaA (fun _=>k') (fun hn=>absurd h hn)
theorem aih (h: ¬a≤b) (k':N (.bool false)):ae P X w (binOp .leq t (.int k a) (.int k b)) N:=aaA (fun hn=>absurd hn h) (fun _=>k')
theorem aii (h:a>b) (k':N (.bool true)):ae P X w (binOp .gtr t (.int k a) (.int k b)) N:=aaB (fun _=>k') (fun hn=>absurd h hn)
theorem aij (h: ¬a>b) (k':N (.bool false)):ae P X w (binOp .gtr t (.int k a) (.int k b)) N:=aaB (fun hn=>absurd hn h) (fun _=>k')
theorem aik (h:a≥b) (k':N (.bool true)):ae P X w (binOp .geq t (.int k a) (.int k b)) N:=aaC (fun _=>k') (fun hn=>absurd h hn)
theorem ail (h: ¬a≥b) (k':N (.bool false)):ae P X w (binOp .geq t (.int k a) (.int k b)) N:=aaC (fun hn=>absurd hn h) (fun _=>k')
theorem aim (h:a=b) (k':N (.bool true)):ae P X w (aE .eql t xo yo (.int k a) (.int k b)) N:=aaD (fun _=>k') (fun hn=>absurd h hn)
theorem ain (h: ¬a=b) (k':N (.bool false)):ae P X w (aE .eql t xo yo (.int k a) (.int k b)) N:=aaD (fun hn=>absurd hn h) (fun _=>k')
theorem aio (h: ¬a=b) (k':N (.bool true)):ae P X w (aE .neq t xo yo (.int k a) (.int k b)) N:=aaE (fun _=>k') (fun hn=>absurd hn h)
theorem aip (h:a=b) (k':N (.bool false)):ae P X w (aE .neq t xo yo (.int k a) (.int k b)) N:=aaE (fun hn=>absurd h hn) (fun _=>k')
theorem Tz (h1: -(2^63)≤a+b) (h2:a+b<2^63) (h:N (.int .i64 (a+b))):ae P X w (binOp .add t (.int .i64 a) (.int .i64 b)) N:=
 lC (by rw [wrap_i64 h1 h2];exact h)
theorem ajV (h1: -(2^63)≤a-b) (h2:a-b<2^63) (h:N (.int .i64 (a-b))):ae P X w (binOp .sub t (.int .i64 a) (.int .i64 b)) N:=
 agp (by rw [wrap_i64 h1 h2];exact h)
end
theorem GA {a b:ByteArray} :a.toList=b.toList↔a=b:=by
 constructor
 ·intro h;rw [lQ,lQ] at h;obtain⟨⟨x⟩⟩:=a;obtain⟨⟨y⟩⟩:=b;simpa using h
 ·intro h;rw [h]
def uQ (a b:ByteArray):Bool:=ir a.toList b.toList
section
variable {t : TypeId} {a b : ByteArray} {xo yo : Operand}
theorem aiq (hT:a=b→N (.bool true)) (hF: ¬a=b→N (.bool false)):ae P X w (aE .eql t xo yo (.string a) (.string b)) N:=
 aep (by simp only [GA];by_cases h:a=b;(· rw [decide_eq_true h];exact hT h);(· rw [decide_eq_false h];exact hF h))
theorem air (hT: ¬a=b→N (.bool true)) (hF:a=b→N (.bool false)):ae P X w (aE .neq t xo yo (.string a) (.string b)) N:=
 aeq (by simp only [ne_eq,GA];by_cases h:a=b;(· rw [decide_eq_false (fun hn=>hn h)];exact hF h);(· rw [decide_eq_true h];exact hT h))
theorem ais (hT:uQ a b=true→N (.bool true)) (hF:uQ a b=false→N (.bool false)):ae P X w (binOp .lss t (.string a) (.string b)) N:=
 aer (by unfold uQ at hT hF;cases h:ir a.toList b.toList;(· exact hF h);(· exact hT h))
theorem ait (hT:uQ a b=false→N (.bool true)) (hF:uQ a b=true→N (.bool false)):ae P X w (binOp .geq t (.string a) (.string b)) N:=
 aes (by unfold uQ at hT hF;cases h:ir a.toList b.toList;(· exact hT h);(· exact hF h))
theorem aiu (hT:uQ a b=true∨a=b→N (.bool true)) (hF:uQ a b=false→ ¬a=b→N (.bool false)):ae P X w (binOp .leq t (.string a) (.string b)) N:=
 aet (by
  unfold uQ at hT hF;simp only [GA];cases h:ir a.toList b.toList
  ·by_cases h2:a=b
   ·simp only [h2,decide_true,Bool.or_true];exact hT (.inr h2)
   ·simp only [h2,decide_false,Bool.or_false];exact hF h h2
  ·simp only [Bool.true_or];exact hT (.inl h))
theorem aiv (hT:uQ a b=false→ ¬a=b→N (.bool true)) (hF:uQ a b=true∨a=b→N (.bool false)):ae P X w (binOp .gtr t (.string a) (.string b)) N:=
 aeu (by
  unfold uQ at hT hF;simp only [GA];cases h:ir a.toList b.toList
  ·by_cases h2:a=b
   ·simp only [h2,decide_true,Bool.or_true,Bool.not_true];exact hF (.inr h2)
   ·simp only [h2,decide_false,Bool.or_false,Bool.not_false];exact hT h h2
  ·simp only [Bool.true_or,Bool.not_true];exact hF (.inl h))
end
def kg (a b:Nat):Bool:=FloatKind.f64.format.order a b==some .lt
def jK (a b:Nat):Bool:=FloatKind.f64.format.order a b==some .eq
def BZ (a b:Nat):Bool:=FloatKind.f64.format.order a b==some .gt
section
variable {t : TypeId} {a b : Nat} {xo yo : Operand}
theorem aiw (hT:kg a b=true→N (.bool true)) (hF:kg a b=false→N (.bool false)):ae P X w (binOp .lss t (.float .f64 a) (.float .f64 b)) N:=
 aev (by unfold kg at hT hF;cases h:(FloatKind.f64.format.order a b==some .lt);(· exact hF h);(· exact hT h))
theorem aix (hT:BZ a b=true→N (.bool true)) (hF:BZ a b=false→N (.bool false)):ae P X w (binOp .gtr t (.float .f64 a) (.float .f64 b)) N:=
 aex (by unfold BZ at hT hF;cases h:(FloatKind.f64.format.order a b==some .gt);(· exact hF h);(· exact hT h))
theorem aiy (hT:kg a b=true∨jK a b=true→N (.bool true)) (hF:kg a b=false→jK a b=false→N (.bool false)):ae P X w (binOp .leq t (.float .f64 a) (.float .f64 b)) N:=
 aew (by
  unfold kg jK at hT hF;cases h:(FloatKind.f64.format.order a b==some .lt)
  ·cases h2:(FloatKind.f64.format.order a b==some .eq)
   ·exact hF h h2
   ·exact hT (.inr h2)
  ·exact hT (.inl h))
theorem aiz (hT:BZ a b=true∨jK a b=true→N (.bool true)) (hF:BZ a b=false→jK a b=false→N (.bool false)):ae P X w (binOp .geq t (.float .f64 a) (.float .f64 b)) N:=
 aey (by
  unfold BZ jK at hT hF;cases h:(FloatKind.f64.format.order a b==some .gt)
  ·cases h2:(FloatKind.f64.format.order a b==some .eq)
   ·exact hF h h2
   ·exact hT (.inr h2)
  ·exact hT (.inl h))
theorem aiA (hT:jK a b=true→N (.bool true)) (hF:jK a b=false→N (.bool false)):ae P X w (aE .eql t xo yo (.float .f64 a) (.float .f64 b)) N:=
 aez (by unfold jK at hT hF;cases h:(FloatKind.f64.format.order a b==some .eq);(· exact hF h);(· exact hT h))
theorem aiB (hT:jK a b=false→N (.bool true)) (hF:jK a b=true→N (.bool false)):ae P X w (aE .neq t xo yo (.float .f64 a) (.float .f64 b)) N:=
 aeA (by
  unfold jK at hT hF
  show N (.bool (!(FloatKind.f64.format.order a b==some .eq)))
  cases h:(FloatKind.f64.format.order a b==some .eq)
  ·exact hT h
  ·exact hF h)
end
theorem aiC (h:N (.bool false)):ae P X w (aY .not (.bool true)) N:=YY h
theorem aiD (h:N (.bool true)):ae P X w (aY .not (.bool false)) N:=YY h
section
variable {t : TypeId} {xo yo : Operand} {a b c a' b' c' : Int}
theorem Vr (h:il P t 3=true) (hT:a=a'→b=b'→c=c'→N (.bool true)) (hF: ¬(a=a'∧b=b'∧c=c')→N (.bool false)):
  ae P X w (aE .eql t xo yo (.agg #[.int .i64 a,.int .i64 b,.int .i64 c]) (.agg #[.int .i64 a',.int .i64 b',.int .i64 c'])) N:=
 aeG h (by by_cases hc:a=a'∧b=b'∧c=c';(· rw [decide_eq_true hc];exact hT hc.1 hc.2.1 hc.2.2);(· rw [decide_eq_false hc];exact hF hc))
theorem aiE (h:il P t 3=true) (hT: ¬(a=a'∧b=b'∧c=c')→N (.bool true)) (hF:a=a'→b=b'→c=c'→N (.bool false)):
  ae P X w (aE .neq t xo yo (.agg #[.int .i64 a,.int .i64 b,.int .i64 c]) (.agg #[.int .i64 a',.int .i64 b',.int .i64 c'])) N:=
 aeH h (by by_cases hc:a=a'∧b=b'∧c=c';(· rw [decide_eq_true hc];exact hF hc.1 hc.2.1 hc.2.2);(· rw [decide_eq_false hc];exact hT hc))
end
theorem ajW {t:TypeId} {b o:Nat} {v:Value} {l:List Value} (h:Cells w X b o l) (hi:iW P t=some (false,1)) (hl:l[0]? =some v) (k:N v):
  ae P X w (ld1 t (ptr b o)) N:=by
 cases l with
 |nil=>cases hl
 |cons x r=>
  simp only [ik,az] at hl;subst hl;exact acn h hi k
theorem ajX {t ty:TypeId} {s:ByteArray} (ht:P.underlying t=some .string) (k:N (.int .i64 s.size)):ae P X w (kN t ty (.string s)) N:=aeD ht k
theorem aaF {t:TypeId} {parts:Array (Nat×Value)} {cells:Array Value} (h:P.built t parts.toList=some cells) (k:N (.agg cells)):
  ae P X w (dw t cells parts) N:=acp cells h k
theorem TE {a:Addr} (h:N (.pointer (some a))):aC P X w (aF (.pointer (some a))) N:=agv h
theorem dJ {f:FuncId} {args:Array Value} {b:Bool} {N:Value→World→XS→Prop}
  (h:Pure P f args (.bool b)) (hf:enters P f=true) (hX: ∀k,X k→k<w.heap.size)
  (hT:b=true→ ∀w' X',ak X w X' w'→N (.bool true) w' X') (hF:b=false→ ∀w' X',ak X w X' w'→N (.bool false) w' X'):
  eC P R X w m f args N:=YZ hf hX h (by
  cases b
  ·exact hF rfl
  ·exact hT rfl)
theorem ee {f:FuncId} {args:Array Value} {v:Value} {N:Value→World→XS→Prop}
  (h:Pure P f args v) (hf:enters P f=true) (hX: ∀k,X k→k<w.heap.size)
  (k: ∀w' X',ak X w X' w'→N v w' X'):eC P R X w m f args N:=YZ hf hX h k
structure ez (F X:XS) (w:World) (X':XS) (w':World):Prop where
 os:w'.os=w.os
 tape:w'.tape=w.tape
 output:w'.output=w.output
 size:w.heap.size≤w'.heap.size
 block: ∀k,X k→ ¬F k→w'.heap[k]? =w.heap[k]?
 sub: ∀k,X k→X' k
 has: ∀k,X' k→k<w'.heap.size
theorem ez.since {F Y X':XS} {w':World} (c:ez F X w X' w') (hY: ∀k,Y k→X k∧ ¬F k):ak Y w X' w':=
 ⟨⟨c.os,c.tape,c.output,c.size,fun k hk=>c.block k (hY k hk).1 (hY k hk).2⟩,fun k hk=>c.sub k (hY k hk).1,c.has⟩
theorem ak.fL {F X0 X':XS} {w0 w':World} (h:ak X0 w0 X w) (c:ez F X w X' w') (hd: ∀k,X0 k→ ¬F k):ak X0 w0 X' w':=
 ⟨⟨c.os.trans h.kp.os,c.tape.trans h.kp.tape,c.output.trans h.kp.output,ah h.kp.size c.size,
  fun k hk=>(c.block k (h.sub k hk) (hd k hk)).trans (h.kp.block k hk)⟩,fun k hk=>c.sub k (h.sub k hk),c.has⟩
theorem ez.aaG {F:XS} {wa w':World} (hX: ∀k,X k→k<w.heap.size) (hk:Kp X w wa) (hf:Fr F wa w'):ez F X w (grow X wa w') w':=
 ⟨hf.os.trans hk.os,hf.tape.trans hk.tape,hf.output.trans hk.output,ah hk.size hf.size,
  fun k hx hn=>(hf.block k (aH (hX k hx) hk.size) hn).trans (hk.block k hx),fun _ h=>.inl h,
  fun k h=>h.elim (fun h=>aH (hX k h) (ah hk.size hf.size)) (fun h=>h.2)⟩
theorem ez.rM {X':XS} {w':World} (h:ak X w X' w') (F:XS):ez F X w X' w':=
 ⟨h.kp.os,h.kp.tape,h.kp.output,h.kp.size,fun k hk _=>h.kp.block k hk,h.sub,h.has⟩
theorem Grown.fL {X':XS} {w':World} {row:Option Nat} (g:Grown X w X' w' row):ez (fun k=>some k=row) X w X' w':=
 ⟨g.os,g.tape,g.output,g.size,fun k hk hn=>g.block k hk hn,g.sub,g.has⟩
theorem ez.trans {F X' sK:XS} {w' jg:World} (a:ez F X w X' w') (b:ez F X' w' sK jg):ez F X w sK jg:=
 ⟨b.os.trans a.os,b.tape.trans a.tape,b.output.trans a.output,ah a.size b.size,
  fun k hk hn=>(b.block k (a.sub k hk) hn).trans (a.block k hk hn),fun k hk=>b.sub k (a.sub k hk),b.has⟩
theorem ez.mono {F G X':XS} {w':World} (a:ez F X w X' w') (h: ∀k,X k→F k→G k):ez G X w X' w':=
 ⟨a.os,a.tape,a.output,a.size,fun k hk hn=>a.block k hk fun hf=>hn (h k hk hf),a.sub,a.has⟩
def made (w w':World):XS:=fun g=>w.heap.size≤g∧g<w'.heap.size
def out (F:XS) (w:World):XS:=fun k=>k<w.heap.size∧ ¬F k
def xv (F:XS) (w0:World) (Q:Value→World→Prop):Ending→World→Prop:=fun e w'=> ∃v,e= .returned v∧Fr F w0 w'∧Q v w'
def Ct (P:Program) (f:FuncId) (args:Array Value) (w:World) (X F:XS) (Q:Value→World→World→Prop):Prop:=
 ∀wa,Kp X w wa→Calls P f args wa (xv F wa fun v w'=>Q v wa w')
theorem Ct.mono {f:FuncId} {args:Array Value} {F:XS} {Q Q':Value→World→World→Prop} (h:Ct P f args w X F Q) (k: ∀v wa w',Kp X w wa→Q v wa w'→Q' v wa w'):Ct P f args w X F Q':=
 fun wa hk=>(h wa hk).mono fun _ _ ⟨v,he,hf,hq⟩=>⟨v,he,hf,k v wa _ hk hq⟩
theorem dp {f:FuncId} {args:Array Value} {N:Value→World→XS→Prop} {Q:Value→World→World→Prop}
  (h:Ct P f args w X nX Q) (hf:enters P f=true) (hX: ∀k,X k→k<w.heap.size)
  (k: ∀v wa w' X',Q v wa w'→w.heap.size≤wa.heap.size→(∀k,made wa w' k→X' k)→ak X w X' w'→N v w' X'):eC P R X w m f args N:=
 VB (Q:=Q) hf hX h fun v wa w' X' hk _ hn hq hs=>k v wa w' X' hq hk.size (fun g hg=>hn g hg.1 hg.2) hs
theorem aeQ {f:FuncId} {args:Array Value} {N:Value→World→XS→Prop} {F:XS} {Q:Value→World→World→Prop}
  (h:Ct P f args w X F Q) (hf:enters P f=true) (hX: ∀k,X k→k<w.heap.size) (hF: ∀k,F k→X k)
  (k: ∀v wa w' X',Q v wa w'→w.heap.size≤wa.heap.size→(∀k,made wa w' k→X' k)→Kp X w wa→ez F X w X' w'→N v w' X'):eC P R X w true f args N:=by
 intro wa hk;unfold iF;rw [kM hf args wa];refine⟨rfl,(h wa hk).mono ?_⟩;rintro e w' ⟨v,rfl,Mn,hq⟩;exact⟨Mn.mono hF,k v wa w' _ hq hk.size (fun g hg=>.inr hg) hk (ez.aaG hX hk Mn)⟩
theorem aw {w0:World} {v:Value} {Q:Value→World→Prop} (hs:ak (aV w0) w0 X w) (h: ∀wa,Kp X w wa→Q v wa):fin (xv nX w0 Q) X w v:=
 fun _ hk=>⟨v,rfl,hs.ext hk,h _ hk⟩
theorem Y6 {w0:World} {v:Value} {F:XS} {Q:Value→World→Prop} (hs:ak (out F w0) w0 X w) (h: ∀wa,Kp X w wa→Q v wa):fin (xv F w0 Q) X w v:=
 fun _ hk=>⟨v,rfl,⟨hk.os.trans hs.kp.os,hk.tape.trans hs.kp.tape,hk.output.trans hs.kp.output,ah hs.kp.size hk.size,
  fun k hl hn=>(hk.block k (hs.sub k ⟨hl,hn⟩)).trans (hs.kp.block k ⟨hl,hn⟩)⟩,h _ hk⟩
theorem ak.out (F:XS) (w:World):ak (out F w) w (aV w) w:=⟨Kp.refl _ _,fun _ h=>h.1,fun _ h=>h⟩
theorem Own.up {w' wa:World} {X':XS} {lo e k:Nat} {v:Value} {rows:List (List Value)} (h:Own w' (made wa w') wa.heap.size e k v rows) (fO: ∀k,made wa w' k→X' k) (hl:lo≤wa.heap.size):
  Own w' X' lo e k v rows:=(h.mono fO).low hl
theorem Own.fL {F X':XS} {w':World} {lo e k:Nat} {v:Value} {rows:List (List Value)} (h:Own w X lo e k v rows) (c:ez F X w X' w') (hd: ∀g,v.ownBlock=some g→ ¬F g):Own w' X' lo e k v rows:=by
 obtain⟨h1,h2,h3⟩:=h;refine⟨h1,⟨h2.1,?_⟩,fun g hg=>c.sub g (h3 g hg)⟩;rcases h2.2 with h|⟨g,cap,cur,rfl,hb,hg,hr⟩
 ·exact .inl h
 ·exact .inr ⟨g,cap,cur,rfl,hb,by rw [c.block g (h3 g rfl) (hd g rfl)];exact hg,hr⟩
theorem Sl.sub {k:Nat} {v:Value} {rows:List (List Value)} {Y:XS} (h:Sl w X k v rows) (hs: ∀k,X k→k<w.heap.size→Y k):Sl w Y k v rows:=by
 obtain⟨h1,h2,base,cap,hv,hc,hr⟩:=h;exact⟨h1,h2,base,cap,hv,fun du=>let⟨b,o,hb,jz⟩:=hc du;⟨b,o,hb,hs _ jz.1 jz.lt,jz.2⟩,hr⟩
theorem Sl.len {k:Nat} {v:Value} {rows:List (List Value)} (h:Sl w X k v rows):rows.length≤2^63-1:=h.2.1
theorem Sl.gy {α:Type} {enc:α→List Value} {k:Nat} {v:Value} {xs:List α} (h:Sl w X k v (xs.map enc)):xs.length≤2^63-1:=by have:=h.2.1;simpa using this
theorem Cells.sub {b o:Nat} {l:List Value} {Y:XS} (h:Cells w X b o l) (hs: ∀k,X k→k<w.heap.size→Y k):Cells w Y b o l:=⟨hs _ h.1 h.lt,h.2⟩
theorem Cells.aV {b o:Nat} {l:List Value} (h:Cells w X b o l):Cells w (aV w) b o l:=⟨h.lt,h.2⟩
variable {P : Program} {R : Ending → World → Prop} {X Y Z : XS} {w w' jg : World} {m : Bool} {N : Value → Prop} {α : Type}
def Mv (X:XS) (w:World) (Y:XS) (w':World):Prop:= ∀k,X k→k<w.heap.size→Y k∧w'.heap[k]? =w.heap[k]?
theorem Mv.trans (a:Mv X w Y w') (b:Mv Y w' Z jg):Mv X w Z jg:=fun k hk hl=>by
 obtain⟨h1,h2⟩:=a k hk hl;have IF:k<w'.heap.size:=by
  have:w'.heap[k]? =some w.heap[k]:=by rw [h2];exact Array.getElem?_eq_getElem hl
  exact(Array.getElem?_eq_some_iff.1 this).1
 obtain⟨h3,h4⟩:=b k h1 IF;exact⟨h3,h4.trans h2⟩
theorem ak.mv (h:ak X w Y w'):Mv X w Y w':=fun k hk _=>⟨h.sub k hk,h.kp.block k hk⟩
theorem _root_.Go.aR.Kp.mv (h:Kp X w w'):Mv X w X w':=fun k hk _=>⟨hk,h.block k hk⟩
theorem Mv.aV:Mv X w (aV w) w:=fun _ _ hl=>⟨hl,rfl⟩
theorem _root_.Go.aR.Kp.dD (h:Kp X w w'):Mv X w (aV w') w':=h.mv.trans Mv.aV
theorem Mv.out {F:XS} (h: ∀k,X k→ ¬F k):Mv X w (aR.out F w) w:=fun k hk hl=>⟨⟨hl,h k hk⟩,rfl⟩
theorem Mv.sub (h: ∀k,X k→Y k):Mv X w Y w:=fun k hk _=>⟨h k hk,rfl⟩
theorem Ext.mv (h:Ext w w'):Mv (aR.aV w) w (aR.aV w') w':=fun _ _ hl=>⟨aH hl h.size,h.block hl⟩
theorem ez.mv {F A:XS} (c:ez F X w Y w') (h: ∀k,A k→X k∧ ¬F k):Mv A w Y w':=fun k hk _=>⟨c.sub k (h k hk).1,c.block k (h k hk).1 (h k hk).2⟩
theorem Cells.mv {b o:Nat} {l:List Value} (h:Cells w X b o l) (v:Mv X w Y w'):Cells w' Y b o l:=by
 have hl:=h.lt;obtain⟨hx,cs,t,fr,hb,hc⟩:=h;obtain⟨h1,h2⟩:=v b hx hl;exact⟨h1,cs,t,fr,by rw [h2];exact hb,hc⟩
theorem Sl.mv {k:Nat} {v:Value} {rows:List (List Value)} (h:Sl w X k v rows) (m:Mv X w Y w'):Sl w' Y k v rows:=by
 obtain⟨h1,h2,base,cap,hv,hc,hr⟩:=h;exact⟨h1,h2,base,cap,hv,fun du=>let⟨b,o,hb,jz⟩:=hc du;⟨b,o,hb,jz.mv m⟩,hr⟩
theorem Sl.form {k:Nat} {v:Value} {rows:List (List Value)} (h:Sl w X k v rows): ∃b n c,v= .slice b n c:=let⟨_,_,b,c,hv,_⟩:=h;⟨b,_,c,hv⟩
theorem a7.mv {b:Nat} {cs:List Value} {ty:TypeId} (h:a7 w X b cs ty) (m:Mv X w Y w'):a7 w' Y b cs ty:=by
 obtain⟨h1,h2⟩:=m b h.1 (Array.getElem?_eq_some_iff.1 h.2).1;exact⟨h1,by rw [h2];exact h.2⟩
theorem jQ.mv {κ:Type} {b:Nat} {kv:κ→Value} {es:List (gB κ)} {c:Nat} (h:jQ w X b kv es c) (m:Mv X w Y w'):jQ w' Y b kv es c:=by
 obtain⟨h1,h2⟩:=m b h.1 (Array.getElem?_eq_some_iff.1 h.2.1).1;exact⟨h1,by rw [h2];exact h.2.1,h.2.2⟩
theorem Own.mv {lo e k:Nat} {v:Value} {rows:List (List Value)} (h:Own w X lo e k v rows) (m:Mv X w Y w'):Own w' Y lo e k v rows:=by
 obtain⟨h1,h2,h3⟩:=h;refine⟨h1,⟨h2.1,?_⟩,fun g hg=>(m g (h3 g hg) (h2.lt g hg).2).1⟩;rcases h2.2 with h|⟨g,cap,cur,rfl,hb,hg,hr⟩
 ·exact .inl h
 ·exact .inr ⟨g,cap,cur,rfl,hb,by rw [(m g (h3 g rfl) (Array.getElem?_eq_some_iff.1 hg).1).2];exact hg,hr⟩
def en (w:World) (X:XS) (k:Nat) (v:Value) (rd:World→XS→List Value→α→Prop) (xs:List α):Prop:=
 ∃rows,Sl w X k v rows∧rows.length=xs.length∧ ∀(i:Nat) l x,rows[i]? =some l→xs[i]? =some x→rd w X l x
def Dd (rd:World→XS→List Value→α→Prop):Prop:= ∀{X Y:XS} {w w':World} {l:List Value} {x:α},rd w X l x→Mv X w Y w'→rd w' Y l x
theorem en.mv {k:Nat} {v:Value} {rd:World→XS→List Value→α→Prop} {xs:List α} (h:en w X k v rd xs) (hm:Dd rd) (m:Mv X w Y w'):en w' Y k v rd xs:=by
 obtain⟨rows,h1,h2,h3⟩:=h;exact⟨rows,h1.mv m,h2,fun i l x hl hx=>hm (h3 i l x hl hx) m⟩
theorem en.nil {rd:World→XS→List Value→α→Prop} (w:World) (X:XS) (k:Nat):en w X k (.slice none 0 0) rd []:=⟨[],Sl.nil w X k,rfl,by simp⟩
theorem en.one {k:Nat} {v:Value} {rd:World→XS→List Value→α→Prop} {xs:List α} (h:en w X k v rd xs):one v=true:=let⟨_,h1,_⟩:=h;h1.one
theorem en.len {k:Nat} {v:Value} {rd:World→XS→List Value→α→Prop} {xs:List α} (h:en w X k v rd xs):xs.length≤2^63-1:=by
 obtain⟨_,h1,h2,_⟩:=h;rw [←h2];exact h1.2.1
theorem Mv.refl (X:XS) (w:World):Mv X w X w:=fun _ hk _=>⟨hk,rfl⟩
theorem mv0:Mv X w X w:=Mv.refl _ _
theorem mv1 (h:ak X w Y w'):Mv X w Y w':=h.mv
theorem nq1 {l:List Value} :l.toArray.toList=l:=rfl
theorem nq2 {i:Nat} {a:Value} {l:List Value} :(a::l).take (i+1)=a::l.take i:=rfl
theorem nq3 {i:Nat} {a:Value} {l:List Value} :(a::l).drop (i+1)=l.drop i:=rfl
theorem nq4 {l:List Value} :l.take 0=[]:=rfl
theorem nq5 {l:List Value} :l.drop 0=l:=rfl
theorem nq6 {i:Nat} :([]:List Value).take i=[]:=List.take_nil
theorem nq7 {a:Value} {l:List Value} :(a::l).length=l.length+1:=rfl
theorem nq8:([]:List Value).length=0:=rfl
theorem nq9 {a:Value} {l m:List Value} :a::l++m=a::(l++m):=rfl
theorem nq0 {l:List Value} :[]++l=l:=rfl
theorem mv2 (h:ak X w Y w') (h':ak Y w' Z jg):Mv X w Z jg:=(h.trans h').mv
theorem Cells.Ty {b o fo:Nat} {v:Value} {l:List Value} (h:Cells w X b o l) (hl:l[fo]? =some v):Cells w X b (o+fo) [v]:=by
 have hp:=h.part fo 1;have:(l.drop fo).take 1=[v]:=by
  obtain⟨dz,rfl⟩:=List.getElem?_eq_some_iff.1 hl;rw [iU dz,List.take_succ_cons,List.take_zero]
 rw [this] at hp;exact hp
section
variable {w0 : World} {X0 : XS}
theorem ajY {S f fo sz b o:Nat} {l l':List Value} (h:Cells w0 X0 b o l) (hf:fieldInfo P S f=some (fo,sz)) (hz:(sz !=0)=true) (hl:(l.drop fo).take sz=l')
  (k: ∀o',o'=o+fo→Cells w0 X0 b o' l'→N (ptr b o')):ae P X w (aS S f fo sz (ptr b o)) N:=
 Mo hf (by simpa using hz) (k _ rfl (hl▸h.part fo sz))
theorem Pe {S f fo b o:Nat} {v:Value} {l:List Value} (h:Cells w0 X0 b o l) (hf:fieldInfo P S f=some (fo,1)) (hl:l[fo]? =some v)
  (k: ∀o',o'=o+fo→Cells w0 X0 b o' [v]→N (ptr b o')):ae P X w (aS S f fo 1 (ptr b o)) N:=
 Mo hf zQ (k _ rfl (h.Ty hl))
theorem ZA {t:TypeId} {b o:Nat} {v:Value} {l:List Value} (h:Cells w0 X0 b o l) (m:Mv X0 w0 X w) (hi:iW P t=some (false,1)) (hl:l[0]? =some v) (k:N v):
  ae P X w (ld1 t (ptr b o)) N:=ajW (h.mv m) hi hl k
theorem ZR {t:TypeId} {b o n:Nat} {l:List Value} (h:Cells w0 X0 b o l) (m:Mv X0 w0 X w) (hi:iW P t=some (true,n)) (hn:l.length=n) (k:N (.agg l.toArray)):
  ae P X w (dY t n (ptr b o)) N:=aco (h.mv m) hi hn k
theorem ajZ {enc:α→List Value} {t ty:TypeId} {k:Nat} {v:Value} {xs:List α} (h:Sl w0 X0 k v (xs.map enc))
  (ht:P.underlying t=some (.slice (P.elem t))) (n:N (.int .i64 xs.length)):ae P X w (cB t ty v) N:=by
 obtain⟨_,_,base,cap,rfl,_⟩:=h;exact cd (fun wa=>run_len_slice wa t ty base _ cap ht) (by rw [List.length_map];exact n)
theorem aj0 {t ty:TypeId} {k:Nat} {v:Value} {rd:World→XS→List Value→α→Prop} {xs:List α} (h:en w0 X0 k v rd xs)
  (ht:P.underlying t=some (.slice (P.elem t))) (n:N (.int .i64 xs.length)):ae P X w (cB t ty v) N:=by
 obtain⟨rows,⟨_,_,base,cap,rfl,_⟩,h2,_⟩:=h;exact cd (fun wa=>run_len_slice wa t ty base _ cap ht) (by rw [h2];exact n)
theorem Pf {t:TypeId} {k:Nat} {v:Value} {rows:List (List Value)} {i:Nat} {z:Int} {r:List Value} (h:Sl w0 X0 k v rows) (hr:rows[i]? =some r) (hz:z=i)
  (ht:P.underlying t=some (.slice (P.elem t))) (hs:(P.info? (P.elem t)).map (·.size)=some k)
  (n: ∀b o,Cells w0 X0 b o r→N (ptr b o)):ae P X w (Instr.indexAt t v (.int .i64 z)) N:=by
 obtain⟨h1,_,base,cap,rfl,hc,_⟩:=h;have hi:i<rows.length:=(List.getElem?_eq_some_iff.1 hr).1;obtain⟨b,o,rfl,jz⟩:=hc (by intro e;subst e;simp at hi);have hp:=jz.part (i*k) k;rw [JI h1 hr] at hp;refine cd (fun wa=>?_) (n b (o+i*k) hp);subst hz;rw [run_indexAt_slice (h:=ht),if_pos zQ];cases hq:P.info? (P.elem t)with
 |none=>simp [hq] at hs
 |some inf=>
  have:inf.size=k:=by simpa [hq] using hs
  simp [sizeOf,typeInfo,hq,this,y9]
theorem afB {enc:α→List Value} {t:TypeId} {k:Nat} {v:Value} {xs:List α} {i:Nat} {z:Int} {x:α} (h:Sl w0 X0 k v (xs.map enc)) (hr:xs[i]? =some x)
  (hz:z=i) (ht:P.underlying t=some (.slice (P.elem t))) (hs:(P.info? (P.elem t)).map (·.size)=some k)
  (n: ∀b o,Cells w0 X0 b o (enc x)→N (ptr b o)):ae P X w (dr t k v (.int .i64 z)) N:=
 Pf h (i:=i) (by rw [dO,hr];rfl) hz ht hs n
theorem Bt {t:TypeId} {k:Nat} {v:Value} {rd:World→XS→List Value→α→Prop} {xs:List α} {i:Nat} {z:Int} {x:α} (h:en w0 X0 k v rd xs) (hr:xs[i]? =some x)
  (hz:z=i) (ht:P.underlying t=some (.slice (P.elem t))) (hs:(P.info? (P.elem t)).map (·.size)=some k)
  (n: ∀b o l,Cells w0 X0 b o l→rd w0 X0 l x→N (ptr b o)):ae P X w (dr t k v (.int .i64 z)) N:=by
 obtain⟨rows,h1,h2,h3⟩:=h;have hi:i<rows.length:=by rw [h2];exact(List.getElem?_eq_some_iff.1 hr).1
 have hl:rows[i]? =some rows[i]:=bE hi;exact Pf h1 hl hz ht hs fun b o hc=>n b o _ hc (h3 i _ _ hl hr)
theorem aiF {t:TypeId} {xo yo:Operand} {k:Nat} {v:Value} {rows:List (List Value)} (h:Sl w0 X0 k v rows) (ht:P.underlying t=some (.slice (P.elem t)))
  (hT:v= .slice none 0 0→rows=[]→N (.bool true)) (hF:N (.bool false)):ae P X w (aE .eql t xo yo v (.slice none 0 0)) N:=by
 rcases h.src with⟨rfl,hr⟩|⟨a,cap,rfl,_⟩
 ·exact VC ht (hT rfl hr)
 ·exact VC ht hF
end
theorem Y7 {xs:List α} {i:Nat} (h:i<xs.length): ∃x,xs[i]? =some x∧xs.drop i=x::xs.drop (i+1):=
 ⟨xs[i],bE h,iU h⟩
theorem ew (xs:List α) (i:Nat):(i<xs.length∧ ∃x,xs[i]? =some x∧xs.drop i=x::xs.drop (i+1))∨(xs.length≤i∧xs.drop i=[]):=by
 rcases Nat.lt_or_ge i xs.length with h|h
 ·exact .inl ⟨h,Y7 h⟩
 ·exact .inr ⟨h,jS h⟩
theorem aj1 {l l':List Value} {o n:Nat} {M:Value→Prop} (hl:(l.drop o).take n=l') (k:M (.agg l'.toArray)):un (cj (.agg l.toArray) o n) M:=
 acu (hl▸k)
theorem aj2 {l l' cs:List Value} {o:Nat} {M:Value→Prop} (hl:cV l o cs=l') (k:M (.agg l'.toArray)):
  un (ai (List.toArray (cV l o cs))) M:=by subst hl;exact k
theorem TL {v:Value} {l:List Value} (h:one v=true) (k:l.all one=true):(v::l).all one=true:=by simp [h,k]
theorem W8:List.all ([]:List Value) one=true:=rfl
theorem aiG {l:List Value} {A:Prop} (h:l.all one=true) (k:A):aB (List.all (Array.toList (aa (.agg l.toArray))) one) A:=aay h k
theorem aiH {l:List Value} {A:Prop} (h:l.all one=true) (k:A):aB (List.all l one) A:=aay h k
theorem aj3 {l:List Value} {i:Nat} {v:Value} (hi:l[i]? =some v) (h:N v):ae P X w (aD (.tuple l.toArray) i) N:=XC (by simpa using hi) h
theorem fS {f:FuncId} {args:Array Value} {b:Bool} {N:Value→World→XS→Prop}
  (h:Ct P f args w X nX fun v _ _=>v= .bool b) (hf:enters P f=true) (hX: ∀k,X k→k<w.heap.size)
  (hT:b=true→ ∀w' X',ak X w X' w'→N (.bool true) w' X') (hF:b=false→ ∀w' X',ak X w X' w'→N (.bool false) w' X'):eC P R X w m f args N:=by
 refine dp h hf hX fun v wa w' X' hv _ _ hs=>?_;subst hv;cases b
 ·exact hF rfl w' X' hs
 ·exact hT rfl w' X' hs
theorem gC {f:FuncId} {args:Array Value} {u:Value} {N:Value→World→XS→Prop}
  (h:Ct P f args w X nX fun v _ _=>v=u) (hf:enters P f=true) (hX: ∀k,X k→k<w.heap.size)
  (k: ∀w' X',ak X w X' w'→N u w' X'):eC P R X w m f args N:=by
 refine dp h hf hX fun v wa w' X' hv _ _ hs=>?_;subst hv;exact k w' X' hs
theorem ja {f:FuncId} {args:Array Value} {N:Value→World→XS→Prop}
  (h:Ct P f args w X nX fun v _ _=> ∃n:Int,v= .int .i64 n) (hf:enters P f=true) (hX: ∀k,X k→k<w.heap.size)
  (k: ∀(n:Int) w' X',ak X w X' w'→N (.int .i64 n) w' X'):eC P R X w m f args N:=by
 refine dp h hf hX fun v wa w' X' hv _ _ hs=>?_;obtain⟨n,rfl⟩:=hv;exact k n w' X' hs
theorem aj4 {t ty:TypeId} {a b:Int} (h:N (.int .i64 (min a b))):ae P X w (j8 #[t,t] ty #[.int .i64 a,.int .i64 b]) N:=
 cd (fun wa=>by
  simp only [j8,List.foldlM];by_cases hc:b<a
  ·have:min a b=b:=by omega
   simp [Cw,hc,this]
  ·have:min a b=a:=by omega
   simp [Cw,hc,this]) h
theorem aaH {src dst:TypeId} {k q:IntKind} {n:Int} (hs:(P.underlying src).isSome=true) (hd:P.underlying dst=some (.int k))
  (h:N (.int k (k.wrap n))):ae P X w (lR k src dst (.int q n)) N:=cd (fun wa=>by
   have e:P.intKind dst=k:=by simp [Program.intKind,hd]
   have:=run_convert_int (P:=P) wa src dst q n hs (by rw [e];exact hd);rw [e] at this;exact this) h
theorem aj5 {src dst:TypeId} {q:IntKind} {n:Int} (hs:(P.underlying src).isSome=true) (hd:P.underlying dst=some (.float .f64))
  (h:N (.float .f64 (floatOfInt .f64 n))):ae P X w (uK src dst (.int q n)) N:=cd (fun wa=>run_convert_int_float wa src dst q .f64 n hs hd) h
theorem aj6 {t e:TypeId} {n:Nat} {l:List Value} {z:Int} {i:Nat} {v:Value} (ht:P.underlying t=some (.array n e)) (he:iW P e=some (false,1)) (hz:z=i) (hn:i<n) (hl:l[i]? =some v)
  (k:N v):ae P X w (sP t n e (.agg l.toArray) (.int .i64 z)) N:=by
 subst hz;unfold iW at he;split at he
 ·rename_i d q hu AH;simp only [az,cy] at he;refine cd (v:=v) (fun wa=>?_) k;have za:(isAgg e).run P wa= .ok false wa:=by cases d<;>simp_all [isAgg,run_underlying hu]
  simp [sP,xU,asIntOf,run_underlying ht,hn,sizeOf,typeInfo,AH,he.2,part,za,hl]
 ·cases he
theorem aj7 {op:BinOp} {t:TypeId} {x y r:Nat} (h:floatBits op .f64 x y=some r) (k:N (.float .f64 r)):ae P X w (binOp op t (.float .f64 x) (.float .f64 y)) N:=
 cd (fun wa=>run_float_arith wa op t .f64 x y r h) k
theorem Sn (s:ByteArray):s.size=s.data.toList.length:=by rw [ec];rfl
theorem aj8 {t:TypeId} {s:ByteArray} {z:Int} {i:Nat} {b:UInt8} (hb:s.data.toList[i]? =some b) (hz:z=i) (ht:P.underlying t=some .string) (k:N (.int .u8 b.toNat)):
  ae P X w (xU t (.string s) (.int .i64 z)) N:=by
 subst hz;have hi:i<s.data.toList.length:=(List.getElem?_eq_some_iff.1 hb).1;have AH:i<s.size:=by rw [Sn];exact hi
 refine cd (v:=.int .u8 b.toNat) (fun wa=>?_) k;rw [run_index_string wa t s .i64 i ht,dif_pos zQ];have:s[i]=b:=by
  have h2:s.data.toList[i]=b:=(List.getElem?_eq_some_iff.1 hb).2;rw [←h2];rfl
 simp [this]
theorem VG (f:Ieee.Format) (s:Bool) (m:Nat) (p:Int):(f.read (f.nearest s m p)).isNaN=false:=by
 have hle: ∃r,f.nearest s m p=f.word s r∧r≤f.infRung:=by
  unfold Ieee.Format.nearest;split
  ·exact⟨0,rfl,Nat.zero_le _⟩
  ·exact⟨_,rfl,Nat.min_le_right _ _⟩
 obtain⟨r,hr,hle⟩:=hle;have dz:=f.infRung_lt;have hm:f.word s r % f.signWeight=r:=by
  unfold Ieee.Format.word;split
  ·rw [Nat.add_mod_left,xR zQ]
  ·rw [xR zQ]
 rw [hr];unfold Ieee.Format.read;simp only [hm];split
 ·rfl
 ·split
  ·rfl
  ·split
   ·rfl
   ·omega
def chain (p:α→Bool) (r:α→α→Bool):Option α→List α→Bool
 |_,[]=>true
 |none,x::l=>p x&&chain p r (some x) l
 |some y,x::l=>p x&&r y x&&chain p r (some x) l
def px (xs:List α) (i:Nat):Option α:=if i=0 then none else xs[i-1]?
theorem nJ {xs:List α} {i:Nat} {x:α} (h:xs[i]? =some x):px xs (i+1)=some x:=by simp [px,h]
theorem K0 {xs:List α} {i:Nat} (h:i<xs.length):(i=0∧px xs i=none)∨(0<i∧ ∃y,xs[i-1]? =some y∧px xs i=some y):=by
 by_cases h0:i=0
 ·exact .inl ⟨h0,by simp [px,h0]⟩
 ·have:xs[i-1]? =some xs[i-1]:=bE zQ;exact .inr ⟨by omega,_,this,by simp [px,h0,this]⟩
variable {P : Program} {R : Ending → World → Prop} {X : XS} {w : World} {m : Bool}
theorem foldl_set (l:List Value): ∀(n:Nat) (cs:Array Value),n+l.length≤cs.size→
  ((l.zipIdx n).foldl (fun (cs:Array Value) (p:Value×Nat)=>cs.setIfInBounds p.2 p.1) cs).toList=cs.toList.take n++l++cs.toList.drop (n+l.length):=by
 induction l with
 |nil=>intro n cs h;simp
 |cons x r ih=>
  intro n cs h;simp only [ba] at h;simp only [List.zipIdx_cons,List.foldl_cons];rw [ih (n+1) _ (by simp;omega)];have hn:n<cs.toList.length:=by simp;omega
  simp only [Array.toList_setIfInBounds,ba];rw [List.take_set,List.drop_set_of_lt zQ];have:(cs.toList.take (n+1)).set n x=cs.toList.take n++[x]:=by
   rw [List.take_add_one,bE hn];simp only [Option.toList_some];rw [List.set_append_right _ _ (by simp;omega)];have hm:(cs.toList.take n).length=n:=by rw [List.length_take];omega
   rw [hm,Nat.sub_self,List.set_cons_zero]
  rw [this];simp only [List.append_assoc,List.cons_append,dG];rw [show n+1+r.length=n+(r.length+1)by omega]
theorem Cz {k:Nat} {cs:Array Value} {x:Value} (hx:x.cells.size=k) (hc:cs.size=k):
  nO (fun i=>some (i*k,k)) cs [(0,x)]=some x.cells:=by
 unfold nO;simp only [Nat.zero_mul,eZ,hx,ne_eq,not_true_eq_false,decide_false,hc,Nat.lt_irrefl,gt_iff_lt,Bool.or_self,a8,if_false];unfold nO;simp only [az];apply Array.ext';have:=foldl_set x.cells.toList 0 cs (by simp;omega);rw [←Array.toList_zipIdx,Array.foldl_toList] at this;simp only [eZ,List.take_zero,dG,ec] at this;rw [jS (by simp;omega),lZ] at this;exact this
def cZ (v:Value):XS:=fun g=>v.ownBlock=some g
def mE (P:Program) (t e k bytes:Nat):Bool:=match P.underlying t,P.info? e with
 |some (.slice e'),some i=>e'==e&&i.size==k&&i.bytes==bytes&&(match i.zero with|some z=>z.cells.size==k|none=>false)&&decide (0<k)&&decide (k≤2^20)
 |_,_=>false
theorem jT {t e k bytes:Nat} (h:mE P t e k bytes=true):P.underlying t=some (.slice e)∧0<k∧k≤2^20∧
  ∃z:Value,(P.info? e).bind (fun i=>i.zero.map fun z=>(i.size,i.bytes,z))=some (k,bytes,z)∧(P.info? e).bind (fun i=>i.zero.map fun z=>(i.size,z))=some (k,z)∧z.cells.size=k:=by
 unfold mE at h;split at h
 ·rename_i e' i hu hi;simp only [aW,beq_iff_eq,decide_eq_true_eq] at h;obtain⟨⟨⟨⟨⟨rfl,h2⟩,h3⟩,h4⟩,h5⟩,h6⟩:=h;cases hz:i.zero with
  |none=>simp [hz] at h4
  |some z=>
   simp only [hz,beq_iff_eq] at h4;exact⟨hu,h5,h6,z,by simp [hi,hz,h2,h3],by simp [hi,hz,h2],h4⟩
 ·cases h
section
variable {w0 : World} {X0 : XS} {t ty e k bytes : Nat} {v x s : Value} {rows dL : List (List Value)} {row : List Value} {N : Value → World → XS → Prop}
theorem acw (own:Own w X w0.heap.size e k v rows) (hs:ak X0 w0 X w) (h0: ∀k,X0 k→k<w0.heap.size) (he:mE P t e k bytes=true) (hx:x.cells.toList=row) (hk:(row.length==k)=true)
  (h1:row.all one=true) (hb:(rows.length+1)*bytes≤140737488355328) (hl:rows.length+1≤2^63-1)
  (n: ∀v' w' X',ak X0 w0 X' w'→Own w' X' w0.heap.size e k v' (rows++[row])→ez (cZ v) X w X' w'→(v'.ownBlock=v.ownBlock∨ ∃g,v'.ownBlock=some g∧w.heap.size≤g)→N v' w' X'):
  eV P R X w m (fC t e k 1 #[(0,x)]) fun s w1 X1=>eV P R X1 w1 true (e6 t e k bytes ty v s) N:=by
 obtain⟨hu,kE,pq,z,hi,hz,r9⟩:=jT he;have af:row.length=k:=by simpa using hk
 have HH:x.cells.size=k:=by rw [←af,←hx,ec]
 refine zj (rows:=[row]) x.cells z hs.has hu hz zQ zQ ?_ (by simpa using af) rfl (by simpa using hx) fun s w1 X1 au Pg=>?_
 ·simp only [Nat.one_mul];exact Cz HH (by simp)
 ·have fp:w0.heap.size≤w1.heap.size:=ah hs.kp.size au.kp.size;refine z7 (dL:=[row]) z hu hi r9 kE au.has fp (own.since au) Pg.sl (by simpa using h1) (by simpa using hb) (by simpa using hl) fun v2 w2 X2 hg ho ef=>?_;have hd: ∀g,v.ownBlock=some g→w0.heap.size≤g:=fun g hg=>(own.ge hg).1;refine n v2 w2 X2 ((hs.trans au).grown hg fun g R9 he=>?_) ho ?_ ?_
  ·have:=hd g he.symm;have:=h0 g R9;omega
  ·exact(ez.rM au (cZ v)).trans (hg.fL.mono fun k _ hk=>hk.symm)
  ·rcases ef with h|⟨g,h,dV⟩
   ·exact .inl h
   ·exact .inr ⟨g,h,ah au.kp.size dV⟩
theorem af0 {l:List Value} (own:Own w X w0.heap.size e k v rows) (hs:ak X0 w0 X w) (h0: ∀k,X0 k→k<w0.heap.size) (he:mE P t e k bytes=true) (hk:(l.length==k)=true)
  (h1:l.all one=true) (hb:(rows.length+1)*bytes≤140737488355328) (hl:rows.length+1≤2^63-1)
  (n: ∀v' w' X',ak X0 w0 X' w'→Own w' X' w0.heap.size e k v' (rows++[l])→ez (cZ v) X w X' w'→(v'.ownBlock=v.ownBlock∨ ∃g,v'.ownBlock=some g∧w.heap.size≤g)→N v' w' X'):
  eV P R X w m (fC t e k 1 #[(0,.agg l.toArray)]) fun s w1 X1=>eV P R X1 w1 true (e6 t e k bytes ty v s) N:=acw own hs h0 he rfl hk h1 hb hl n
theorem Qt (own:Own w X w0.heap.size e k v rows) (hs:ak X0 w0 X w) (h0: ∀k,X0 k→k<w0.heap.size) (he:mE P t e k bytes=true) (hk:(k==1)=true)
  (ho:one x=true) (hb:(rows.length+1)*bytes≤140737488355328) (hl:rows.length+1≤2^63-1)
  (n: ∀v' w' X',ak X0 w0 X' w'→Own w' X' w0.heap.size e k v' (rows++[[x]])→ez (cZ v) X w X' w'→(v'.ownBlock=v.ownBlock∨ ∃g,v'.ownBlock=some g∧w.heap.size≤g)→N v' w' X'):
  eV P R X w m (fC t e k 1 #[(0,x)]) fun s w1 X1=>eV P R X1 w1 true (e6 t e k bytes ty v s) N:=by
 refine acw (row:=[x]) own hs h0 he ?_ (by simpa using (beq_iff_eq.1 hk).symm) (by simpa using ho) hb hl n;cases x<;>first|rfl|cases ho
theorem qV (own:Own w X w0.heap.size e k v rows) (hs:ak X0 w0 X w) (h0: ∀k,X0 k→k<w0.heap.size) (he:mE P t e k bytes=true) (src:Sl w X k s dL) (h1: ∀r∈dL,∀u∈r,one u=true)
  (hb:(rows.length+dL.length)*bytes≤140737488355328) (hl:rows.length+dL.length≤2^63-1)
  (n: ∀v' w' X',ak X0 w0 X' w'→Own w' X' w0.heap.size e k v' (rows++dL)→ez (cZ v) X w X' w'→(v'.ownBlock=v.ownBlock∨ ∃g,v'.ownBlock=some g∧w.heap.size≤g)→N v' w' X'):
  eV P R X w true (e6 t e k bytes ty v s) N:=by
 obtain⟨hu,kE,pq,z,hi,hz,r9⟩:=jT he;refine z7 (dL:=dL) z hu hi r9 kE hs.has hs.kp.size own src h1 hb hl fun v2 w2 X2 hg ho ef=>?_;have hd: ∀g,v.ownBlock=some g→w0.heap.size≤g:=fun g hg=>(own.ge hg).1;refine n v2 w2 X2 (hs.grown hg fun g R9 he=>?_) ho (hg.fL.mono fun k _ hk=>hk.symm) ef;have:=hd g he.symm;have:=h0 g R9;omega
theorem Gg (hX: ∀k,X k→k<w.heap.size) (hu:P.underlying t=some (.slice e)) (hz:(P.info? e).map (·.size)=some k)
  (n: ∀v w' X',ak X w X' w'→Own w' X' w.heap.size e k v []→N v w' X'):eV P R X w m (fC t e k 0 #[]) N:=acq hX hu hz n
end
theorem TD {t e k bytes len:Nat} {parts:Array (Nat×Value)} {rows:List (List Value)} {N:Value→World→XS→Prop} (cells:Array Value) (z:Value) (hX: ∀k,X k→k<w.heap.size) (he:mE P t e k bytes=true)
  (hz:(P.info? e).bind (·.zero)=some z) (aau:0<len*k) (Pd:len*k≤2^24)
  (h:nO (fun i=>some (i*k,k)) ((xV (len*k)).map (z.cells[· % z.cells.size]!)) parts.toList=some cells)
  (zx: ∀r∈rows,r.length=k) (hlen:rows.length=len) (hc:cells.toList=rows.flatten)
  (n: ∀v w' X',ak X w X' w'→Own w' X' w.heap.size e k v rows→N v w' X'):eV P R X w m (fC t e k len parts) N:=by
 obtain⟨hu,kE,pq,z',hi,CW,r9⟩:=jT he;have:z'=z:=by
  cases hq:P.info? e with
  |none=>simp [hq] at hz
  |some ie=>cases lX:ie.zero<;>simp_all
 subst this;exact zj cells z' hX hu CW aau Pd h zx hlen hc n
end Go.aR
