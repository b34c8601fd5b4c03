/-
 Part 2 of the proof: what the last text leans on.
-/
import Derived.Laws.Rows
import Derived.Laws.Pointers
import Derived.Deep.MidRow
import Derived.Laws.StructEq
import Derived.Maps.AppendAt
import Derived.Laws.OwnMore
import Derived.Great.BuildSlice
import Derived.Maps.RangeRun
import Derived.Laws.FloatArith
import Derived.Test.YtbpnemeooenpmaaGreatH1
open Go.Result renaming andThen_ok → aZ
open Option.some renaming injEq → ay
open Go.Sem renaming run_bind → bG, run_pure → bY, run → sd
open Nat renaming le_trans → ah, lt_of_lt_of_le → aG, le_refl → ba, zero_add → eZ, mod_eq_of_lt → xP
open Go.Value renaming int → aA, cells → aa, ownBlock → gk, agg → ak
open Bool renaming and_eq_true → aW, false_eq_true → a8, not_eq_true' → cu
open Option renaming map_some → bq, bind_some → cU
open Go.Op renaming bytesLess → im, intCmp → pd, stringOp → mO, floatCmp → mP, equalIn → rh, unary → aY, eqFields → sU, intArith → xQ
open Go.Instr renaming checkKey → fv, loadAt → gH, fill → nM, sameBits → ki, buildSlice → gF, findNow → gT, findKey → qw, extract → aL, box → dN, sameNow → uF, findAsking → rN, makeMap → ju, mapUpdate → aO, range → xR, entry → kX, index → xS, sureAddr → iU, keyThatStays → vf
open Prod.mk renaming injEq → cx
open PUnit renaming unit → kj
open List renaming toList_toArray → de, getElem?_eq_getElem → bE, length_cons → bh, map_cons → bV, mem_append_left → bR, mem_append_right → dA, getD → jP, drop_of_length_le → jQ, drop_eq_getElem_cons → iT, mem_append → sB, nil_append → dG, mem_singleton → bw, flatMap_cons → wQ, mem_cons_self → iB, mem_cons_of_mem → bz, getElem?_eq_none → iK, getElem?_take → jL, getElem?_cons_zero → ig, flatten_cons → iP, eq_nil_of_length_eq_zero → fC, length_append → au, append_nil → lY, findIdx?_cons → gK, getElem?_map → dO, map_append → bC, nodup_append → wR
open BitVec renaming ofInt → bT
open Go.Builtin renaming len_ → jZ, delete_ → sC, append_ → ej, min_ → j6, min2 → Cw
open Array renaming length_toList → ec, getElem?_setIfInBounds → dQ, range → xT, replicate → dH, getElem?_append → iL, getElem?_replicate → gZ
open Go.ByteArray renaming toList_eq → lO
open ForInStep renaming yield → oI
open Go.World renaming ownsRow_lit → wS
set_option linter.unusedVariables false
set_option linter.unusedSimpArgs false
namespace Go.aV
section
variable {P : Program}
theorem Cx {X:XS} {w w':World} : ∀k,X k→grow X w w' k:=fun _ h=>.inl h
theorem Sb {m:Bool} {X:XS} {w:World} {n n':Value→World→XS→Prop} {p p':List PanicEntry→World→XS→Prop} {r:Result Next} (h:iE P m X w n p r)
  (hn: ∀v w' X',(∀k,X k→X' k)→n v w' X'→n' v w' X') (hp: ∀c w' X',(∀k,X k→X' k)→p c w' X'→p' c w' X'):iE P m X w n' p' r:=by
 cases r with
 |ok x w'=>
  cases x<;>simp only [iE] at h⊢
  case value v=>exact⟨h.1,hn _ _ _ Cx h.2⟩
  case skip=>exact⟨h.1,hn _ _ _ Cx h.2⟩
  case enter f args=>
   refine⟨h.1,h.2.mono fun e je he=>?_⟩;cases e with
   |returned v=>exact⟨he.1,hn _ _ _ Cx he.2⟩
   |panicked c=>exact⟨he.1,hp _ _ _ Cx he.2⟩
   |outgrown=>exact he
 |halt x w'=>
  cases x<;>simp only [iE] at h⊢
  case panic v=>exact⟨h.1,hp _ _ _ Cx h.2⟩
theorem aga {env:Env} {d s:Nat} {v:Value} (h: ¬s=d):kF env d v s=env s:=fW _ _ h
theorem aef {env:Env} {d:Option Nat} {s:Nat} {v:Value} (h: ¬s∈d.toList):Iq env d v s=env s:=by
 cases d with
 |none=>rfl
 |some d=>exact fW _ _ (by simpa using h)
theorem O5: ∀(l:List TI) {gg No:List PanicEntry→Env→World→XS→Prop} {next next':Env→World→XS→Prop} {env:Env} {w:World} {X:XS},
  fO P gg next l env w X→
  (∀e w' X',(∀k,X k→X' k)→(∀s,¬s∈l.flatMap TI.wr→e s=env s)→next e w' X'→next' e w' X')→
  (∀c e w' X',(∀k,X k→X' k)→(∀s,¬s∈l.flatMap TI.wr→e s=env s)→gg c e w' X'→No c e w' X')→fO P No next' l env w X
 |[],_,_,_,_,_,_,_,h,hn,_=>hn _ _ _ (fun _ h=>h) (fun _ _=>rfl) h
 |i::l,gg,No,next,next',env,w,X,h,hn,hp=>by
  have step: ∀(tJ:Env) (w1:World) (X1:XS),(∀k,X k→X1 k)→(∀s,¬s∈i.wr→tJ s=env s)→fO P gg next l tJ w1 X1→fO P No next' l tJ w1 X1:=by
   intro tJ w1 X1 JA he1 h1;refine O5 l h1 (fun e w' X' hX he hq=>hn e w' X' (fun k hk=>hX k (JA k hk)) (fun s hs=>?_) hq) (fun c e w' X' hX he hq=>hp c e w' X' (fun k hk=>hX k (JA k hk)) (fun s hs=>?_) hq)
   ·simp only [wQ,sB,not_or] at hs;rw [he s hs.2,he1 s hs.1]
   ·simp only [wQ,sB,not_or] at hs;rw [he s hs.2,he1 s hs.1]
  have pst: ∀c w1 X1,(∀k,X k→X1 k)→gg c env w1 X1→No c env w1 X1:=fun c w1 X1 JA hq=>hp c env w1 X1 JA (fun _ _=>rfl) hq;have st1: ∀(d:Nat) (v:Value) (w1:World) (X1:XS),i.wr=[d]→(∀k,X k→X1 k)→fO P gg next l (kF env d v) w1 X1→fO P No next' l (kF env d v) w1 X1:=
   fun d v w1 X1 hw JA h1=>step _ _ _ JA (fun s hs=>aga (by rw [hw] at hs;simpa using hs)) h1
  have stO: ∀(d:Option Nat) (v:Value) (w1:World) (X1:XS),i.wr=d.toList→(∀k,X k→X1 k)→fO P gg next l (Iq env d v) w1 X1→fO P No next' l (Iq env d v) w1 X1:=
   fun d v w1 X1 hw JA h1=>step _ _ _ JA (fun s hs=>aef (by rw [hw] at hs;exact hs)) h1
  cases i with
  |uy b=>exact dk.2 ⟨(dk.1 h).1,step _ _ _ (fun _ h=>h) (fun _ _=>rfl) (dk.1 h).2⟩
  |set d e=>exact st1 d _ _ _ rfl (fun _ h=>h) h
  |box b n e=>exact dk.2 ⟨(dk.1 h).1,st1 b _ _ _ rfl (fun _ h=>h) (dk.1 h).2⟩
  |put b off n e=>
   have h2:=dk.1 (dk.1 h).2;exact dk.2 ⟨(dk.1 h).1,dk.2 ⟨h2.1,st1 b _ _ _ rfl (fun _ h=>h) h2.2⟩⟩
  |wX b e=>exact dk.2 ⟨(dk.1 h).1,st1 b _ _ _ rfl (fun _ h=>h) (dk.1 h).2⟩
  |TG b off e=>exact dk.2 ⟨(dk.1 h).1,st1 b _ _ _ rfl (fun _ h=>h) (dk.1 h).2⟩
  |fill b n e=>
   have h2:=dk.1 (dk.1 h).2;exact dk.2 ⟨(dk.1 h).1,dk.2 ⟨h2.1,st1 b _ _ _ rfl (fun _ h=>h) h2.2⟩⟩
  |rd d op ty ss=>
   obtain⟨v,h1,h2⟩:=h;exact⟨v,h1,st1 d _ _ _ rfl (fun _ h=>h) h2⟩
  |AD d op ty ss m=>exact fun wa EA=>Sb (h wa EA) (fun v w' X' hX hq=>stO d v w' X' rfl hX hq) (fun c w' X' hX hq=>pst c w' X' hX hq)
  |TH g want d e=>exact st1 d _ _ _ rfl (fun _ h=>h) h
  |grd g want d op ty ss=>
   obtain⟨v,h1,h2,h3⟩:=h;exact⟨v,h1,h2,st1 d _ _ _ rfl (fun _ h=>h) h3⟩
  |TJ g want d op ty ss m=>
   exact⟨fun hg wa EA=>Sb (h.1 hg wa EA) (fun v w' X' hX hq=>stO d v w' X' rfl hX hq) (fun c w' X' hX hq=>pst c w' X' hX hq),fun hg=>stO d _ _ _ rfl (fun _ h=>h) (h.2 hg)⟩
theorem Vj {M:List Nat} {e env:Env} {s:Nat} (h:s∈M):merge M e env s=e s:=by simp [merge,yZ.2 h]
theorem DD {M:List Nat} {e env:Env} {s:Nat} (h: ¬s∈M):merge M e env s=env s:=by
 have:CU M s=false:=by
  cases hx:CU M s with
  |false=>rfl
  |true=>exact absurd (yZ.1 hx) h
 simp [merge,this]
theorem kl: ∀(t:T) {K K':jF} {env:Env} {w:World} {X:XS},den P t K env w X→
  (∀ex e w' X',(∀k,X k→X' k)→(∀s,¬s∈t.wr→e s=env s)→K ex e w' X'→K' ex e w' X')→den P t K' env w X
 | .BP l,K,K',env,w,X,h,hk=>O5 l h (fun e w' X' hX he hq=>hk _ e w' X' hX he hq) (fun c e w' X' hX he hq=>hk _ e w' X' hX he hq)
 | .seq a b,K,K',env,w,X,h,hk=>by
  refine kl a (K:=jF.CT (fun e w X=>den P b K e w X) K) h fun ex e w' X' hX he hq=>?_;have wI: ∀s,¬s∈(T.seq a b).wr→e s=env s:=fun s hs=>he s (fun hc=>hs (bR _ hc));cases ex with
  |normal=>
   refine kl b (K:=K) hq fun ex2 e2 w2 X2 hX2 he2 DC=>hk ex2 e2 w2 X2 (fun k hk=>hX2 k (hX k hk)) (fun s hs=>?_) DC;rw [he2 s (fun hc=>hs (dA _ hc)),wI s hs]
  |exit i=>exact hk _ e w' X' hX wI hq
  |goto i=>exact hk _ e w' X' hX wI hq
  |ret=>exact hk _ e w' X' hX wI hq
  |panic c=>exact hk _ e w' X' hX wI hq
  |outgrown=>exact hk _ e w' X' hX wI hq
 | .ite c a b,K,K',env,w,X,h,hk=>by
  simp only [den,az] at h⊢;split at h
  ·refine⟨fun ht=>kl a (h.1 ht) fun ex e w' X' hX he hq=>hk ex e w' X' hX (fun s hs=>he s (fun hc=>hs (bR _ hc))) hq,
    fun ht=>kl b (h.2 ht) fun ex e w' X' hX he hq=>hk ex e w' X' hX (fun s hs=>he s (fun hc=>hs (dA _ hc))) hq⟩
  ·exact h
 | .alt a b,K,K',env,w,X,h,hk=>by
  exact⟨kl a h.1 fun ex e w' X' hX he hq=>hk ex e w' X' hX (fun s hs=>he s (fun hc=>hs (bR _ hc))) hq,
   kl b h.2 fun ex e w' X' hX he hq=>hk ex e w' X' hX (fun s hs=>he s (fun hc=>hs (dA _ hc))) hq⟩
 | .cY id a,K,K',env,w,X,h,hk=>by
  refine kl a (K:=jF.cY id K) h fun ex e w' X' hX he hq=>?_;cases ex with
  |exit i=>
   simp only [jF.cY] at hq⊢;split
   ·rename_i hi;rw [if_pos hi] at hq;exact hk _ e w' X' hX he hq
   ·rename_i hi;rw [if_neg hi] at hq;exact hk _ e w' X' hX he hq
  |normal=>exact hk _ e w' X' hX he hq
  |goto i=>exact hk _ e w' X' hX he hq
  |ret=>exact hk _ e w' X' hX he hq
  |panic c=>exact hk _ e w' X' hX he hq
  |outgrown=>exact hk _ e w' X' hX he hq
 | .loop M C a,K,K',env,w,X,h,hk=>by
  obtain⟨J,h0,hJ⟩:=h;refine⟨J,h0,fun n e w' X' hX hj=>?_⟩;refine kl a (K:=jF.CT (fun e' je sJ=> ∃m,m<n∧J m (C.map e') je sJ) K) (hJ n e w' X' hX hj) fun ex e2 w2 X2 hX2 he2 hq=>?_;have nQ: ∀k,X k→X2 k:=fun k hk=>hX2 k (hX k hk);have wI: ∀s,¬s∈(T.loop M C a).wr→e2 s=env s:=fun s hs=>by
   simp only [T.wr,sB,not_or] at hs;rw [he2 s hs.2];exact DD hs.1
  cases ex with
  |normal=>exact hq
  |exit i=>exact hk _ e2 w2 X2 nQ wI hq
  |goto i=>exact hk _ e2 w2 X2 nQ wI hq
  |ret=>exact hk _ e2 w2 X2 nQ wI hq
  |panic c=>exact hk _ e2 w2 X2 nQ wI hq
  |outgrown=>exact hk _ e2 w2 X2 nQ wI hq
 | .exit id,K,K',env,w,X,h,hk=>hk _ _ _ _ (fun _ h=>h) (fun _ _=>rfl) h
 | .ret,K,K',env,w,X,h,hk=>hk _ _ _ _ (fun _ h=>h) (fun _ _=>rfl) h
 | .skip,K,K',env,w,X,h,hk=>hk _ _ _ _ (fun _ h=>h) (fun _ _=>rfl) h
theorem aeg {Q:Exit→Act→World→Prop} {a:Act} {w:World} {c:Code} (I:Nat→Act→World→Prop) (h₀: ∃n,I n a w)
  (round: ∀n a w,I n a w→c.wp P (Exit.then (fun a' w'=> ∃m,m<n∧I m a' w') Q) a w):(Code.loop c).wp P Q a w:=by
 intro b k cs;have key: ∀n a w,I n a w→ ∃e a' w',Q e a' w'∧Arrives P (lone (b.at a (.code c:: .inLoop c::k)) cs w) b k cs e a' w':=by
  intro n
  induction n using Nat.strongRecOn with
  |_ n ih=>
   intro a w hI;obtain⟨e,a₁,w₁,hq,JB⟩:=round n a w hI b (.inLoop c::k) cs;cases e with
   |normal=>
    obtain⟨m,dy,hI₁⟩:=hq;obtain⟨e₂,a₂,w₂,hq₂,harr₂⟩:=ih m dy a₁ w₁ hI₁;exact⟨e₂,a₂,w₂,hq₂,.of_steps (Steps.trans JB (.one step_inLoop)) harr₂⟩
   |exit id=>exact⟨_,a₁,w₁,hq,.pass (x:=.inLoop c) rfl (fun _ _=>.inl (by simp)) JB⟩
   |goto l=>exact⟨_,a₁,w₁,hq,.pass (x:=.inLoop c) rfl (fun _ _=>.inl (by simp)) JB⟩
   |ret=>exact⟨_,a₁,w₁,hq,.pass (x:=.inLoop c) rfl (fun _ _=>.inl (by simp)) JB⟩
   |panic ch=>exact⟨_,a₁,w₁,hq,.pass (x:=.inLoop c) rfl (fun _ _=>.inl (by simp)) JB⟩
   |outgrown=>exact⟨_,a₁,w₁,hq,.pass (x:=.inLoop c) rfl (fun _ _=>.inl (by simp)) JB⟩
 obtain⟨n,h₀⟩:=h₀;obtain⟨e,a',w',hq,JB⟩:=key n a w h₀;exact⟨e,a',w',hq,.of_steps (.one step_loop) JB⟩
end
def QP (pl:br) (ds:Bk) (K:jF):Exit→Act→World→Prop
 | .panic ch,a,w=>a.defers=ds.ds∧ ∃env X w0,Kp X w0 w∧K (.panic ch) env w0 X∧vH pl ds env X a w
 | .outgrown,_,_=>False
 |e,a,w=> ∃env X w0,ek pl ds .start env X w0 a w∧K e env w0 X
section
variable {P : Program} {pl : br} {ds : Bk}
theorem ek.drop {cs:CS} {env:Env} {X:XS} {w0 w:World} {a:Act} (h:ek pl ds cs env X w0 a w):ek pl ds .start env X w0 a w:=
 { h with sig:=fun _ hp=>(by cases hp),live:=fun _ hp=>(by cases hp),ptr:=fun _ hp=>(by cases hp) }
theorem O6: ∀(l acc:List Nat) (s:Nat),(s∈l∨s∈acc)→s∈qB l acc
 |[],acc,s,h=>h.elim (fun h=>by cases h) id
 |x::r,acc,s,h=>by
  simp only [qB];refine O6 r _ s ?_;rcases h with h|h
  ·rcases List.mem_cons.1 h with rfl|h
   ·right;split
    ·rename_i hc;simpa using hc
    ·exact iB ..
   ·exact .inl h
  ·right;split
   ·exact h
   ·exact bz _ h
theorem QP.mono {K K':jF} (h: ∀ex e w X,K ex e w X→K' ex e w X) (ex:Exit) (a:Act) (w:World) (hq:QP pl ds K ex a w):QP pl ds K' ex a w:=by
 cases ex<;>simp only [QP] at hq⊢
 case panic ch=>obtain⟨h1,env,X,w0,h2,h3,h4⟩:=hq;exact⟨h1,env,X,w0,h2,h _ _ _ _ h3,h4⟩
 all_goals (obtain⟨env,X,w0,h2,h3⟩:=hq;exact⟨env,X,w0,h2,h _ _ _ _ h3⟩)
theorem E7: ∀(c:Code) (t:T) (K:jF) (env:Env) (X:XS) (w0:World) (a:Act) (w:World),
  il P pl c=some t→(∀b,b∈t.mk→ ∀p,p∈ds.pins→p.1≠b)→ek pl ds .start env X w0 a w→den P t K env w0 X→c.wp P (QP pl ds K) a w:=by
 intro c
 induction c with
 |skip=>
  intro t K env X w0 a w hc hm h hd;simp only [il,ay] at hc;subst hc;exact wp_skip ⟨env,X,w0,h,hd⟩
 |region id ops draw=>
  intro t K env X w0 a w hc hm h hd;have hN: ∀sM a' w' dv X' dX,ek pl ds sM dv X' dX a' w'→(fun e w X=>K .normal e w X) dv dX X'→QP pl ds K .normal a' w':=
   fun sM a' w' dv X' dX h1 h2=>⟨dv,X',dX,h1.drop,h2⟩
  have hQ: ∀ch a' w' dv X' dX,a'.defers=ds.ds→Kp X' dX w'→vH pl ds dv X' a' w'→(fun ch=>K (.panic ch)) ch dv dX X'→QP pl ds K (.panic ch) a' w':=
   fun ch a' w' dv X' dX h0 h1 vX h2=>⟨h0,dv,X',dX,h1,h2,vX⟩
  simp only [il] at hc;split at hc
  ·rename_i hdr;subst hdr;split at hc
   ·rename_i BX;simp only [aW] at BX;refine wp_region_any BX.1 (NQ (pl:=pl) _ _ _ _ ?_);have Hk: ∀c a (d:Option Nat) v w,(∀x,d=some x→ ∀p,p∈ds.pins→p.1≠x)→QP pl ds K (.panic c) (a.put d v) w→QP pl ds K (.panic c) a w:=fun c a d v w hd hq=>by
     obtain⟨h1,e,X',dX,h2,h3,h4⟩:=hq;exact⟨by cases d<;>exact h1,e,X',dX,h2,h3,h4.put hd⟩
    split at hc
    ·rename_i tl hl;simp only [ay] at hc;subst hc;exact ED hN hQ Hk BX.2 _ _ _ tl env X w0 _ _ hl hm (h.gU (Ext.drew w)) hd
    ·exact MC hN hQ Hk BX.2 _ _ _ t env X w0 _ _ hc hm (h.gU (Ext.drew w)) hd
   ·cases hc
  ·rename_i hdr;simp only [Bool.not_eq_true] at hdr;subst hdr;cases hl:FE P pl ops ops.toList .start with
   |none=>simp [hl] at hc
   |some tl=>
    simp only [hl,bq,ay] at hc;subst hc;exact wp_region_list (NX hN hQ ops.toList .start tl env X w0 a w hl hm h hd)
 |seq x y ihx ihy=>
  intro t K env X w0 a w hc hm h hd;simp only [il] at hc;cases hx:il P pl x with
  |none=>simp [hx] at hc
  |some tx=>
   cases hy:il P pl y with
   |none=>simp [hx,hy] at hc
   |some ty=>
    simp only [hx,hy,ay] at hc;have Dp:den P (.seq tx ty) K env w0 X:=by
     subst hc;split at hd
     ·exact hd
     ·show den P tx (jF.CT (fun e w X=>den P .skip K e w X) K) env w0 X
      refine kl tx hd fun ex e w' X' _ _ hq=>?_;cases ex<;>exact hq
     ·exact hd
    have hmm: ∀b,b∈tx.mk∨b∈ty.mk→ ∀p,p∈ds.pins→p.1≠b:=fun b hb=>hm b (by
     rw [←hc];split
     ·exact hb.resolve_left (fun h=>by cases h)
     ·exact hb.resolve_right (fun h=>by cases h)
     ·exact List.mem_append.2 hb)
    refine wp_seq (wp_mono (ihx tx _ env X w0 a w hx (fun b hb=>hmm b (.inl hb)) h Dp) fun ex a' w' hq=>?_);cases ex with
    |normal=>
     obtain⟨e,X',dX,h1,h2⟩:=hq;exact ihy ty K e X' dX a' w' hy (fun b hb=>hmm b (.inr hb)) h1 h2
    |exit i=>exact hq
    |goto i=>exact hq
    |ret=>exact hq
    |panic c=>exact hq
    |outgrown=>exact hq
 |cond c x y ihx ihy=>
  intro t K env X w0 a w hc hm h hd;simp only [il] at hc;cases hv:valOf pl .start c with
  |none=>simp [hv] at hc
  |some e=>
   cases hx:il P pl x with
   |none=>simp [hv,hx] at hc
   |some tx=>
    cases hy:il P pl y with
    |none=>simp [hv,hx,hy] at hc
    |some ty=>
     simp only [hv,hx,hy,ay] at hc;subst hc;have he:=h.eval hv;simp only [den,az] at hd;split at hd
     ·rename_i b hb;rw [hb] at he;exact wp_cond_split he (fun ht=>ihx tx K env X w0 a w hx (fun b hb=>hm b (bR _ hb)) h (hd.1 ht)) (fun ht=>ihy ty K env X w0 a w hy (fun b hb=>hm b (dA _ hb)) h (hd.2 ht))
     ·exact hd.elim
 |block id x ih=>
  intro t K env X w0 a w hc hm h hd;simp only [il] at hc;cases hx:il P pl x with
  |none=>simp [hx] at hc
  |some tx=>
   simp only [hx,bq,ay] at hc;subst hc;refine wp_block (wp_mono (ih tx _ env X w0 a w hx hm h hd) fun ex a' w' hq=>?_);cases ex with
   |exit i=>
    obtain⟨e,X',dX,h1,h2⟩:=hq;simp only [Exit.inBlock,jF.cY] at h2⊢;split
    ·rename_i hi;rw [if_pos hi] at h2;exact⟨e,X',dX,h1,h2⟩
    ·rename_i hi;rw [if_neg hi] at h2;exact⟨e,X',dX,h1,h2⟩
   |normal=>exact hq
   |goto i=>exact hq
   |ret=>exact hq
   |panic c=>exact hq
   |outgrown=>exact hq
 |loop x ih=>
  intro t K env X w0 a w hc hm h hd;simp only [il] at hc;cases hx:il P pl x with
  |none=>simp [hx] at hc
  |some tx=>
   simp only [hx,bq,ay] at hc;subst hc;obtain⟨J,⟨n0,h0⟩,hJ⟩:=hd;refine aeg (fun n a w=> ∃e X' dX,ek pl ds .start (merge (qB tx.wr []) e env) X' dX a w∧(∀k,X k→X' k)∧J n (((qB tx.wr []).filter (CU pl.car)).map e) dX X') ⟨n0,env,X,w0,?_,fun _ h=>h,h0⟩ ?_
   ·have:merge (qB tx.wr []) env env=env:=by
     funext s
     by_cases hs:s∈qB tx.wr []
     ·exact Vj hs
     ·exact DD hs
    rw [this];exact h
   ·rintro n a w ⟨e,X',dX,h1,h2,h3⟩;have EV:=hJ n e dX X' h2 h3;have nR:=kl tx (K':=fun ex e' je sJ=>jF.CT (fun e' je sJ=> ∃m,m<n∧J m (((qB tx.wr []).filter (CU pl.car)).map e') je sJ) K ex e' je sJ∧(∀k,X' k→sJ k)∧ ∀s,¬s∈tx.wr→e' s=merge (qB tx.wr []) e env s) EV
     fun ex e' w' sJ hX he hq=>⟨hq,hX,he⟩
    refine wp_mono (ih tx _ _ X' dX a w hx hm h1 nR) fun ex a' w' hq=>?_;cases ex with
    |normal=>
     obtain⟨e',sJ,BR,g1,⟨m,hm,g2⟩,g3,g4⟩:=hq;refine⟨m,hm,e',sJ,BR,?_,fun k hk=>g3 k (h2 k hk),g2⟩;have:merge (qB tx.wr []) e' env=e':=by
      funext s
      by_cases hs:s∈qB tx.wr []
      ·exact Vj hs
      ·rw [DD hs,g4 s fun hc=>hs (O6 _ _ _ (.inl hc)),DD hs]
     rw [this];exact g1
    |exit i=>obtain⟨e',sJ,BR,g1,g2,_⟩:=hq;exact⟨e',sJ,BR,g1,g2⟩
    |goto i=>obtain⟨e',sJ,BR,g1,g2,_⟩:=hq;exact⟨e',sJ,BR,g1,g2⟩
    |ret=>obtain⟨e',sJ,BR,g1,g2,_⟩:=hq;exact⟨e',sJ,BR,g1,g2⟩
    |panic c=>obtain⟨g0,e',sJ,BR,g1,⟨g2,_⟩,g3⟩:=hq;exact⟨g0,e',sJ,BR,g1,g2,g3⟩
    |outgrown=>exact hq
 |exit id=>
  intro t K env X w0 a w hc hm h hd;simp only [il,ay] at hc;subst hc;exact wp_exit ⟨env,X,w0,h,hd⟩
 |ret=>
  intro t K env X w0 a w hc hm h hd;simp only [il,ay] at hc;subst hc;exact wp_ret ⟨env,X,w0,h,hd⟩
 |rangeFunc=>intro t K env X w0 a w hc;cases hc
 |scope=>intro t K env X w0 a w hc;cases hc
 |label=>intro t K env X w0 a w hc;cases hc
 |goto=>intro t K env X w0 a w hc;cases hc
 |refuse=>intro t K env X w0 a w hc;cases hc
def aaj (tmps:Array Value):ResultVar→Sem Value
 | .tmp t=>pure (tmps.getD t undef)
 | .cell c t=>do loadVar t (←asAddr (tmps.getD c undef))
theorem Vk {env:Env} {X:XS} {w0 w:World} {a:Act} {cs:CS} (h:ek pl ds cs env X w0 a w): ∀(l:List ResultVar) (es:List Ex) (nd:List Nat),
  Ak P pl l=some (es,nd)→(∀b,b∈nd→bP (env b)=true)→
  (l.mapM (aaj a.tmps)).run P w=Result.ok (es.map (·.ev env)) w
 |[],es,nd,hc,_=>by
  simp only [Ak,ay,cx] at hc;rw [←hc.1];rfl
 | .tmp t::r,es,nd,hc,hl=>by
  simp only [Ak] at hc;split at hc
  ·rename_i hg;cases hr:Ak P pl r with
   |none=>simp [hr] at hc
   |some x=>
    obtain⟨YN,nd'⟩:=x;simp only [hr,bq,ay,cx] at hc;obtain⟨rfl,rfl⟩:=hc;have ih:=Vk h r YN nd' hr hl;simp [List.mapM_cons,aaj,ih,h.nO t hg,Ex.ev]
  ·cases hc
 | .cell c t::r,es,nd,hc,hl=>by
  simp only [Ak] at hc;split at hc
  ·rename_i bs ag sz hb ht;split at hc
   ·rename_i mJ;simp only [aW,decide_eq_true_eq] at mJ;cases hr:Ak P pl r with
    |none=>simp [hr] at hc
    |some x=>
     obtain⟨YN,nd'⟩:=x;simp only [hr,bq,ay,cx] at hc;obtain⟨rfl,rfl⟩:=hc;have ih:=Vk h r YN nd' hr fun b hb=>hl b (bz _ hb);obtain⟨cells,AN⟩:=qD.1 (hl c (iB ..));obtain⟨k,ty,e1,e2,e3,_⟩:=h.box c bs hb cells AN;have hld:=NT ht mJ.2 e2 0 zQ;have alM:(loadVar t ⟨k,0,none⟩).run P w= .ok (if ag then cq (.agg cells) 0 sz else cellOf (.agg cells) 0) w:=by
      simpa [gH,iU,dT] using hld
     have CZ:(if ag then Ex.s c 0 sz else Ex.k c 0).ev env=if ag then cq (.agg cells) 0 sz else cellOf (.agg cells) 0:=by
      cases ag<;>simp [Ex.ev,AN]
     simp [List.mapM_cons,aaj,ih,e1,dT,asAddr,alM,CZ]
   ·cases hc
  ·cases hc
theorem BJ {env:Env} {X:XS} {w0 w:World} {a:Act} {cs:CS} (h:ek pl ds cs env X w0 a w) {fn:Func} {es:List Ex} {nd:List Nat}
  (hc:Ak P pl fn.results.toList=some (es,nd)) (hl: ∀b,b∈nd→bP (env b)=true):(results fn a.tmps).run P w= .ok (MB es env) w:=by
 have hr:=Vk h _ _ _ hc hl;have hf:results fn a.tmps=(do let vs←fn.results.mapM (aaj a.tmps);pure (if h:vs.size=1 then vs[0] else .tuple vs)):=by
  unfold results
  congr 2
 rw [hf,Array.mapM_eq_mapM_toList];simp only [bG,Sem.run_map,hr,aZ,bY]
 congr 1
 match es with
 |[]=>rfl
 |[e]=>rfl
 |e::e'::r=>simp [MB]
def Np (P:Program) (o:Option FT) (R:Ending→World→Prop) (args:Array Value) (w:World):Prop:=match o with
 |some ft=>den P ft.code (FG ft R) (ku args) w (aR w)
 |none=>False
theorem Vl {f:FuncId} {fn:Func} {pl:br} {ft:FT} {args:Array Value} {w:World} {R:Ending→World→Prop} (hf:P.funcs[f]? =some fn)
  (hc:cF P pl fn=some ft) (aft:args.size≤pl.n) (sD:(pl.boxes.all fun p=>decide (args.size≤p.1))=true)
  (h:den P ft.code (FG ft R) (ku args) w (aR w)):Calls P f args w R:=by
 unfold cF at hc;split at hc
 ·rename_i hn;have jf:fn.ntmps=pl.n:=by simpa using hn
  split at hc
  ·rename_i c hb;split at hc
   ·rename_i t r nd KQ tB;injection hc with hc
    subst hc;refine calls_of_wp hf hb (wp_mono (E7 (pl:=pl) (ds:=⟨[],[]⟩) c t (FG ⟨t,r,nd⟩ R) (ku args) (aR w) w _ w KQ (fun _ _ _ hp=>by cases hp) ?_ h) fun ex a' w' hq=>?_)
    ·have aak:(args++dH (fn.ntmps-args.size) undef).size=pl.n:=by simp;omega
     have Nq: ∀s,s<pl.n→(args++dH (fn.ntmps-args.size) undef)[s]? =some (ku args s):=by
      intro s hs;rw [iL];split
      ·rename_i h1;simp [ku,jP,h1]
      ·rename_i h1;rw [gZ,if_pos zQ];simp only [ku,jP];rw [iK (by simpa using h1)];rfl
     have JC: ∀b n,look pl.boxes b=some n→ku args b=undef:=by
      intro b n hb;have h1:=List.all_eq_true.1 sD _ (y7 hb);simp only [decide_eq_true_eq] at h1;simp only [ku,jP];rw [iK (by simpa using h1)];rfl
     exact {
      size:=aak
      defers:=rfl
      wB:=fun _ hp=>(by cases hp)
      ext:=Kp.refl _ _
      sL:=fun _ hk=>hk
      nO:=fun s hs=>Nq s (ny hs).1
      sig:=fun _ hp=>(by cases hp)
      box:=fun b n hb cells hc=>by rw [JC b n hb] at hc;cases hc
      inj:=fun b b' n n' hb eY h1=>by rw [JC b n hb] at h1;cases h1
      conv:=fun b n hb k hk=>by
       have h1:=List.all_eq_true.1 sD _ (y7 hb);simp only [decide_eq_true_eq] at h1;rw [iL,if_neg zQ,gZ] at hk;split at hk
       ·cases hk
       ·cases hk
      live:=fun _ hp=>(by cases hp)
      ptr:=fun _ hp=>(by cases hp) }
    ·cases ex with
     |normal=>
      obtain⟨e,X',dX,h1,hq⟩:=hq;obtain⟨h2,h3⟩:=dk.1 hq;exact⟨h1.defers,_,BJ h1 tB (List.all_eq_true.1 h2),h3 w' h1.ext⟩
     |ret=>
      obtain⟨e,X',dX,h1,hq⟩:=hq;obtain⟨h2,h3⟩:=dk.1 hq;exact⟨h1.defers,_,BJ h1 tB (List.all_eq_true.1 h2),h3 w' h1.ext⟩
     |panic ch=>
      obtain⟨h0,e,X',dX,h1,h2,_⟩:=hq;exact⟨h0,h2 w' h1⟩
     |exit i=>obtain⟨e,X',dX,h1,h2⟩:=hq;exact h2
     |goto i=>obtain⟨e,X',dX,h1,h2⟩:=hq;exact h2
     |outgrown=>exact hq.elim
   ·cases hc
  ·cases hc
 ·cases hc
theorem aM {f:FuncId} {fn:Func} {pl:br} {args:Array Value} {w:World} {R:Ending→World→Prop} {V:Prop} (hf:P.funcs[f]? =some fn)
  (hs:(decide (args.size≤pl.n)&&pl.boxes.all fun p=>decide (args.size≤p.1))=true) (hv:V=Np P (cF P pl fn) R args w) (h:V):Calls P f args w R:=by
 subst hv;unfold Np at h;simp only [aW,decide_eq_true_eq] at hs;split at h
 ·rename_i ft hc;exact Vl hf hc hs.1 hs.2 h
 ·exact h.elim
end
def aB (P:Program) (X:XS) (w:World) (s:Sem Next) (N:Value→Prop):Prop:= ∃v,Rd P X w s v∧N v
def ae (P:Program) (X:XS) (w:World) (s:Sem Value) (N:Value→Prop):Prop:=aB P X w (vS s) N
def aK (P:Program) (X:XS) (w:World) (g:Value) (want:Bool) (s:Sem Next) (N:Value→Prop):Prop:=
 ∃v,(lN g want=true→Rd P X w s v)∧(lN g want=false→v=undef)∧N v
def aU (g:Value) (want:Bool) (v:Value):Value:=if lN g want then v else undef
def aP (c a b:Value):Sem Next:=do pure (.value (if←asBool c then a else b))
def aE (x:Value):Sem Next:=execOp (fun _=>x) (PM (.nilCheck (.tmp 0)) 0)
def aD (op:BinOp) (t:TypeId) (xo yo:Operand) (x y:Value):Sem Value:=do eqGuard op t xo yo x y;binOp op t x y
def uS (s:Sem Unit):Sem Next:=do s;pure .skip
def pn (R:Ending→World→Prop):List PanicEntry→World→XS→Prop:=fun ch w X=> ∀wa,Kp X w wa→R (.panicked ch) wa
def eW (P:Program) (R:Ending→World→Prop) (X:XS) (w:World) (m:Bool) (s:Sem Next) (N:Value→World→XS→Prop):Prop:=
 ∀wa,Kp X w wa→iE P m X wa N (pn R) (s.run P wa)
def eV (P:Program) (R:Ending→World→Prop) (X:XS) (w:World) (m:Bool) (s:Sem Value) (N:Value→World→XS→Prop):Prop:=eW P R X w m (vS s) N
def eU (P:Program) (R:Ending→World→Prop) (X:XS) (w:World) (m:Bool) (s:Sem Unit) (N:Value→World→XS→Prop):Prop:=eW P R X w m (uS s) N
def eC (P:Program) (R:Ending→World→Prop) (X:XS) (w:World) (m:Bool) (f:FuncId) (args:Array Value) (N:Value→World→XS→Prop):Prop:=eW P R X w m (callFunc f args) N
def eF (P:Program) (R:Ending→World→Prop) (X:XS) (w:World) (m:Bool) (f:Value) (args:Array Value) (N:Value→World→XS→Prop):Prop:=eW P R X w m (FB f args) N
def gE (g:Value) (want:Bool) (A B:Prop):Prop:=(lN g want=true→A)∧(lN g want=false→B)
def fin (R:Ending→World→Prop) (X:XS) (w:World) (v:Value):Prop:= ∀wa,Kp X w wa→R (.returned v) wa
abbrev JT:=Nat→List Value→World→XS→Prop
def DE (J:JT) (n:Nat) (vs:List Value) (w:World) (X:XS):Prop:= ∃m,m<n∧J m vs w X
def Sc (X:XS) (w:World) (vs:List Value) (C:List Nat) (B:JT→Nat→Env→World→XS→Prop):Prop:=
 ∃J:JT,(∃n,J n vs w X)∧ ∀n (e:Env) w' X',(∀k,X k→X' k)→J n (C.map e) w' X'→B J n e w' X'
variable {P : Program} {R : Ending → World → Prop} {X : XS} {w : World} {m : Bool}
theorem E8 {s:Sem Value} {N:Value→Prop} (v:Value) (h: ∀wa,Kp X w wa→s.run P wa= .ok v wa) (k:N v):ae P X w s N:=
 ⟨v,fun wa hk=>by simp [vS,h wa hk],k⟩
theorem cf {s:Sem Value} {N:Value→Prop} {v:Value} (h: ∀wa,s.run P wa= .ok v wa) (k:N v):ae P X w s N:=
 E8 v (fun wa _=>h wa) k
theorem Vm {s:Sem Next} {N:Value→Prop} {v:Value} (h: ∀wa,s.run P wa= .ok (.value v) wa) (k:N v):aB P X w s N:=
 ⟨v,fun wa _=>h wa,k⟩
theorem BK {α:Type} [BEq α] [LawfulBEq α] [DecidableEq α] (a b:α):(a==b)=decide (a=b):=by
 by_cases h:a=b<;>simp [h]
section
variable {N : Value → Prop} {t : TypeId} {k : IntKind} {a b : Int} {xo yo : Operand}
theorem agb (h:N (.bool (decide (a<b)))):ae P X w (binOp .lss t (.int k a) (.int k b)) N:=cf (fun wa=>by simp [binOp,pd]) h
theorem agc (h:N (.bool (decide (a≤b)))):ae P X w (binOp .leq t (.int k a) (.int k b)) N:=cf (fun wa=>by simp [binOp,pd]) h
theorem agd (h:N (.bool (decide (a>b)))):ae P X w (binOp .gtr t (.int k a) (.int k b)) N:=cf (fun wa=>by simp [binOp,pd]) h
theorem agf (h:N (.bool (decide (a≥b)))):ae P X w (binOp .geq t (.int k a) (.int k b)) N:=cf (fun wa=>by simp [binOp,pd]) h
theorem lA (h:N (.int k (k.wrap (a+b)))):ae P X w (binOp .add t (.int k a) (.int k b)) N:=cf (fun wa=>by simp [binOp,xQ]) h
theorem agh (h:N (.int k (k.wrap (a-b)))):ae P X w (binOp .sub t (.int k a) (.int k b)) N:=cf (fun wa=>by simp [binOp,xQ]) h
theorem agi (h:N (.int k (k.wrap (a*b)))):ae P X w (binOp .mul t (.int k a) (.int k b)) N:=cf (fun wa=>by simp [binOp,xQ]) h
theorem agj (h:N (.bool (decide (a=b)))):ae P X w (aD .eql t xo yo (.int k a) (.int k b)) N:=
 cf (fun wa=>by simp [aD,eqGuard,binOp,pd,BK]) h
theorem agk (h:N (.bool (decide (a≠b)))):ae P X w (aD .neq t xo yo (.int k a) (.int k b)) N:=
 cf (fun wa=>by simp [aD,eqGuard,binOp,pd,bne,BK]) h
end
section
variable {N : Value → Prop} {t : TypeId} {a b : ByteArray} {xo yo : Operand}
theorem aeh (h:N (.bool (decide (a.toList=b.toList)))):ae P X w (aD .eql t xo yo (.string a) (.string b)) N:=
 cf (fun wa=>by simp [aD,eqGuard,binOp,mO,BK]) h
theorem aei (h:N (.bool (decide (a.toList≠b.toList)))):ae P X w (aD .neq t xo yo (.string a) (.string b)) N:=
 cf (fun wa=>by simp [aD,eqGuard,binOp,mO,BK]) h
theorem aej (h:N (.bool (im a.toList b.toList))):ae P X w (binOp .lss t (.string a) (.string b)) N:=
 cf (fun wa=>by simp [binOp,mO]) h
theorem aek (h:N (.bool (!im a.toList b.toList))):ae P X w (binOp .geq t (.string a) (.string b)) N:=
 cf (fun wa=>by simp [binOp,mO]) h
theorem ael (h:N (.bool (im a.toList b.toList||decide (a.toList=b.toList)))):ae P X w (binOp .leq t (.string a) (.string b)) N:=
 cf (fun wa=>by simp [binOp,mO,BK]) h
theorem aem (h:N (.bool (!(im a.toList b.toList||decide (a.toList=b.toList))))):ae P X w (binOp .gtr t (.string a) (.string b)) N:=
 cf (fun wa=>by simp [binOp,mO,BK]) h
end
section
variable {N : Value → Prop} {t : TypeId} {k : FloatKind} {a b : Nat} {xo yo : Operand}
theorem aen (h:N (.bool (k.format.order a b==some .lt))):ae P X w (binOp .lss t (.float k a) (.float k b)) N:=cf (fun wa=>by simp [binOp,mP]) h
theorem aeo (h:N (.bool (k.format.order a b==some .lt||k.format.order a b==some .eq))):ae P X w (binOp .leq t (.float k a) (.float k b)) N:=
 cf (fun wa=>by simp [binOp,mP]) h
theorem aep (h:N (.bool (k.format.order a b==some .gt))):ae P X w (binOp .gtr t (.float k a) (.float k b)) N:=cf (fun wa=>by simp [binOp,mP]) h
theorem aeq (h:N (.bool (k.format.order a b==some .gt||k.format.order a b==some .eq))):ae P X w (binOp .geq t (.float k a) (.float k b)) N:=
 cf (fun wa=>by simp [binOp,mP]) h
theorem aer (h:N (.bool (k.format.order a b==some .eq))):ae P X w (aD .eql t xo yo (.float k a) (.float k b)) N:=
 cf (fun wa=>by simp [aD,eqGuard,binOp,mP]) h
theorem aes (h:N (.bool (k.format.order a b !=some .eq))):ae P X w (aD .neq t xo yo (.float k a) (.float k b)) N:=
 cf (fun wa=>by simp [aD,eqGuard,binOp,mP]) h
end
section
variable {N : Value → Prop} {t : TypeId} {k k2 : IntKind} {a b : Int}
theorem E9 (hb: ¬b<0) (h:N (.int k (a.fdiv (2^min b.toNat k.bits)))):ae P X w (binOp .shr t (.int k a) (.int k2 b)) N:=
 cf (fun wa=>by simp [binOp,Op.shift,hb]) h
theorem agl (hb: ¬b<0) (h:N (.int k (k.wrap (a*2^min b.toNat k.bits)))):ae P X w (binOp .shl t (.int k a) (.int k2 b)) N:=
 cf (fun wa=>by simp [binOp,Op.shift,hb]) h
theorem Qk (h:N (.int k (k.wrap (bT k.bits a^^^bT k.bits b).toNat))):ae P X w (binOp .xor t (.int k a) (.int k b)) N:=
 cf (fun wa=>by simp [binOp,Op.intBits]) h
theorem YO (h:N (.int k (k.wrap (bT k.bits a&&& bT k.bits b).toNat))):ae P X w (binOp .and t (.int k a) (.int k b)) N:=
 cf (fun wa=>by simp [binOp,Op.intBits]) h
end
section
variable {N : Value → Prop} {b c : Bool} {g : Value}
theorem YP (h:N (.bool (!b))):ae P X w (aY .not (.bool b)) N:=cf (fun wa=>by simp [aY]) h
theorem Vn {x y:Value} (h:N (if b then x else y)):aB P X w (aP (.bool b) x y) N:=Vm (fun wa=>by simp [aP,asBool]) h
theorem ab4 {x y:Value} (h:N x):aB P X w (aP (.bool true) x y) N:=Vn h
theorem ab5 {x y:Value} (h:N y):aB P X w (aP (.bool false) x y) N:=Vn h
theorem KS {s:Sem Next} {want:Bool} (h:aB P X w s N):aK P X w (.bool want) want s N:=by
 obtain⟨v,hv,hn⟩:=h;exact⟨v,fun _=>hv,fun hf=>absurd hf (by simp [lN]),hn⟩
theorem Vo {s:Sem Next} {want:Bool} (h:N undef):aK P X w (.bool (!want)) want s N:=
 ⟨undef,fun hf=>absurd hf (by cases want<;>simp [lN]),fun _=>rfl,h⟩
theorem aet {s:Sem Next} (h:aB P X w s N):aK P X w (.bool true) true s N:=KS h
theorem aeu {s:Sem Next} (h:aB P X w s N):aK P X w (.bool false) false s N:=KS h
theorem ab7 {s:Sem Next} (h:N undef):aK P X w (.bool false) true s N:=Vo (want:=true) h
theorem ab8 {s:Sem Next} (h:N undef):aK P X w (.bool true) false s N:=Vo (want:=false) h
theorem agm {A B:Prop} (h:b=true→A) (k:b=false→B):az (.bool b) A B:=⟨h,k⟩
theorem aal {want:Bool} {A B:Prop} (h:b=want→A) (k:b=!want→B):gE (.bool b) want A B:=
 ⟨fun e=>h (by simpa [lN] using e),fun e=>k (by revert e;cases b<;>cases want<;>simp [lN])⟩
theorem alN {A B:Prop} (h:A):gE (.bool true) true A B:=aal (fun _=>h) (by simp)
theorem alO {A B:Prop} (h:A):gE (.bool false) false A B:=aal (fun _=>h) (by simp)
theorem ajN {A B:Prop} (h:B):gE (.bool true) false A B:=aal (by simp) (fun _=>h)
theorem ajO {A B:Prop} (h:B):gE (.bool false) true A B:=aal (by simp) (fun _=>h)
theorem Xu {vs:Array Value} {i:Nat} {v:Value} (hi:vs[i]? =some v) (h:N v):ae P X w (aL (.tuple vs) i) N:=
 cf (fun wa=>by simp [aL,hi]) h
theorem agn {a:Addr} (h:N (.pointer (some a))):aB P X w (aE (.pointer (some a))) N:=
 Vm (fun _=>rfl) h
theorem Vp {t e:TypeId} {xo yo:Operand} {p:Option Addr} (ht:P.underlying t=some (.pointer e)) (h:N (.bool p.isNone)):
  ae P X w (aD .eql t xo yo (.pointer p) (.pointer none)) N:=by
 refine cf (fun wa=>?_) h;have hp:P.pointee t=e:=by simp [Program.pointee,ht]
 have:=run_equal_pointer_nil (P:=P) (w:=wa) t p (by rw [hp];exact ht);simp [aD,eqGuard,binOp,this]
end
theorem ah6 {f:FuncId} {args:Array Value} {N:Value→World→XS→Prop} (Q:Value→World→World→Prop)
  (hf: ∀wa,(callFunc f args).run P wa= .ok (.enter f args) wa)
  (h: ∀wa,Kp X w wa→Calls P f args wa fun e w'=> ∃v,e= .returned v∧Ext wa w'∧Q v wa w')
  (k: ∀v wa w',Kp X w wa→Ext wa w'→Q v wa w'→N v w' (grow X wa w')):eC P R X w m f args N:=by
 intro wa hk;unfold iE;rw [hf wa];refine⟨rfl,(h wa hk).mono ?_⟩;rintro e w' ⟨v,rfl,hx,hq⟩;exact⟨Step.eE hx,k v wa w' hk hx hq⟩
structure aj (X:XS) (w:World) (X':XS) (w':World):Prop where
 kp:Kp X w w'
 sub: ∀k,X k→X' k
 has: ∀k,X' k→k<w'.heap.size
theorem aj.init (w:World):aj (aR w) w (aR w) w:=⟨Kp.refl _ _,fun _ h=>h,fun _ h=>h⟩
theorem aj.trans {X Y Z:XS} {a b c:World} (h:aj X a Y b) (k:aj Y b Z c):aj X a Z c:=
 ⟨h.kp.trans (k.kp.less h.sub),fun i hi=>k.sub i (h.sub i hi),k.has⟩
theorem aj.eE {X:XS} {w wa w':World} (hX: ∀k,X k→k<w.heap.size) (hk:Kp X w wa) (hx:Ext wa w'):aj X w (grow X wa w') w':=
 ⟨hk.trans (hx.kp fun k h=>aG (hX k h) hk.size),fun _ h=>.inl h,
  fun k h=>h.elim (fun h=>aG (hX k h) (ah hk.size hx.size)) (fun h=>h.2)⟩
theorem aj.ext {w w':World} {X:XS} (h:aj (aR w) w X w') {wa:World} (hk:Kp X w' wa):Ext w wa:=(h.kp.trans (hk.less h.sub)).ext
variable {P : Program} {R : Ending → World → Prop} {X : XS} {w : World} {m : Bool}
def Pure (P:Program) (f:FuncId) (args:Array Value) (v:Value):Prop:=
 ∀w,Calls P f args w fun e w'=>e= .returned v∧Ext w w'
def ajP (P:Program) (f:FuncId) (args:Array Value) (w:World) (Q:Value→World→Prop):Prop:=
 Calls P f args w fun e w'=> ∃v,e= .returned v∧Ext w w'∧Q v w'
def enters (P:Program) (f:FuncId):Bool:=match P.funcs[f]? with
 |some fn=>!(fn.name== "runtime.NumGoroutine")&&fn.body.isSome
 |none=>false
theorem kJ {f:FuncId} (h:enters P f=true) (args:Array Value) (w:World):(callFunc f args).run P w= .ok (.enter f args) w:=by
 unfold enters at h;split at h
 ·rename_i fn hf;simp only [aW,cu] at h;obtain⟨c,hb⟩:=Option.isSome_iff_exists.1 h.2;have hn: ¬fn.name= "runtime.NumGoroutine" :=by simpa using h.1
  simp [callFunc,hf,hn,hb]
 ·cases h
theorem Vq {f:FuncId} {args:Array Value} {N:Value→World→XS→Prop} {Q:Value→World→World→Prop}
  (hf:enters P f=true) (hX: ∀k,X k→k<w.heap.size)
  (h: ∀wa,Kp X w wa→ajP P f args wa (Q · wa))
  (k: ∀v wa w' X',Kp X w wa→Ext wa w'→(∀k,wa.heap.size≤k→k<w'.heap.size→X' k)→Q v wa w'→aj X w X' w'→N v w' X'):
  eC P R X w m f args N:=by
 refine ah6 Q (kJ hf args) (fun wa hk=>?_) fun v wa w' hk hx hq=>k v wa w' _ hk hx (fun k h1 h2=>.inr ⟨h1,h2⟩) hq (aj.eE hX hk hx);refine(h wa hk).mono ?_;rintro e w' ⟨v,he,hx,hq⟩;exact⟨v,he,hx,hq⟩
theorem YQ {f:FuncId} {args:Array Value} {v:Value} {N:Value→World→XS→Prop}
  (hf:enters P f=true) (hX: ∀k,X k→k<w.heap.size) (h:Pure P f args v)
  (k: ∀w' X',aj X w X' w'→N v w' X'):eC P R X w m f args N:=by
 refine Vq (Q:=fun u _ _=>u=v) hf hX (fun wa _=>(h wa).mono ?_) fun u wa w' X' _ _ _ hq hs=>hq▸k w' X' hs;rintro e w' ⟨he,hx⟩;exact⟨v,he,hx,rfl⟩
theorem Ca {f:FuncId} {args:Array Value} {v:Value} {N:Value→World→XS→Prop} (hf: ∀wa,(callFunc f args).run P wa= .ok (.value v) wa)
  (hX: ∀k,X k→k<w.heap.size) (k: ∀w' X',aj X w X' w'→N v w' X'):eC P R X w m f args N:=by
 intro wa hk;unfold iE;rw [hf wa];exact⟨Step.eE (Ext.refl _),k _ _ (aj.eE hX hk (Ext.refl _))⟩
theorem eD {w0:World} {u v:Value} (hs:aj (aR w0) w0 X w) (h:u=v):fin (fun e w'=>e= .returned v∧Ext w0 w') X w u:=
 fun _ hk=>⟨by rw [h],hs.ext hk⟩
variable {P : Program} {R : Ending → World → Prop} {X : XS} {w : World} {m : Bool} {N : Value → Prop}
abbrev ptr (b o:Nat):Value:=.pointer (some ⟨b,o,none⟩)
def Cells (w:World) (X:XS) (b o:Nat) (l:List Value):Prop:=
 X b∧ ∃cs t fr,w.heap[b]? =some (.cells cs t fr)∧ ∀j v,l[j]? =some v→cs[o+j]? =some v
theorem Cells.kp {b o:Nat} {l:List Value} (h:Cells w X b o l) {w':World} (hk:Kp X w w'):Cells w' X b o l:=by
 obtain⟨hx,cs,t,fr,hb,hc⟩:=h;exact⟨hx,cs,t,fr,by rw [hk.block b hx];exact hb,hc⟩
theorem Cells.mono {b o:Nat} {l:List Value} {Y:XS} (h:Cells w X b o l) (hs: ∀k,X k→Y k):Cells w Y b o l:=⟨hs _ h.1,h.2⟩
theorem Cells.since {b o:Nat} {l:List Value} {Y:XS} {w':World} (h:Cells w X b o l) (hs:aj X w Y w'):Cells w' Y b o l:=(h.kp hs.kp).mono hs.sub
theorem Cells.range {b o:Nat} {l:List Value} (h:Cells w X b o l):w.rangeAt b o l:=by
 obtain⟨_,cs,t,fr,hb,hc⟩:=h;intro j v hj;rw [cell_of_row w b (o+j) cs t fr hb];exact hc j v hj
theorem Cells.lt {b o:Nat} {l:List Value} (h:Cells w X b o l):b<w.heap.size:=by
 obtain⟨_,cs,t,fr,hb,_⟩:=h;exact(Array.getElem?_eq_some_iff.1 hb).1
theorem Cells.part {b o:Nat} {l:List Value} (h:Cells w X b o l) (i n:Nat):Cells w X b (o+i) ((l.drop i).take n):=by
 obtain⟨hx,cs,t,fr,hb,hc⟩:=h;refine⟨hx,cs,t,fr,hb,fun j v hj=>?_⟩;rw [jL] at hj;split at hj
 ·rw [List.getElem?_drop] at hj;rw [Nat.add_assoc];exact hc _ v hj
 ·cases hj
theorem ab9 {t:TypeId} {b o:Nat} {v:Value} {l:List Value} (h:Cells w X b o (v::l)) (hi:iV P t=some (false,1)) (k:N v):
  ae P X w (gH t (ptr b o)) N:=by
 refine E8 v (fun wa hk=>?_) k;have hc:wa.cell? ⟨b,o,none⟩=some v:=(h.kp hk).range 0 v rfl;unfold iV at hi;split at hi
 ·rename_i d i hu AG;simp only [ay,cx] at hi;have y9:(isAgg t).run P wa= .ok false wa:=by
   cases d<;>simp_all [isAgg,run_underlying hu]
  simp [gH,iU,loadVar,y9,hc]
 ·cases hi
theorem aca {t:TypeId} {b o n:Nat} {l:List Value} (h:Cells w X b o l) (hi:iV P t=some (true,n)) (hn:l.length=n) (k:N (.agg l.toArray)):
  ae P X w (gH t (ptr b o)) N:=by
 refine E8 _ (fun wa hk=>?_) k;unfold iV at hi;split at hi
 ·rename_i d i hu AG;simp only [ay,cx] at hi;exact run_loadAt_mid wa b o t l d (h.kp hk).range hu (by cases d<;>simp_all) (by simp [AG,hi.2,hn])
 ·cases hi
theorem Mj {S f fo sz b o:Nat} (h:fieldInfo P S f=some (fo,sz)) (hz:sz≠0) (k:N (ptr b (o+fo))):ae P X w (Instr.fieldAt S (ptr b o) f) N:=
 cf (fun wa=>LF h hz b o wa) k
theorem acb {t:TypeId} {parts:Array (Nat×Value)} (cells:Array Value) (h:P.built t parts.toList=some cells) (k:N (.agg cells)):
  ae P X w (Instr.build t parts) N:=
 cf (fun wa=>run_build wa t parts cells h) k
theorem aev {t ty:TypeId} {s:ByteArray} (ht:P.underlying t=some .string) (k:N (.int .i64 s.size)):ae P X w (jZ #[t] ty #[.string s]) N:=
 cf (fun wa=>by simp [jZ,run_underlying ht,goInt]) k
def Sl (w:World) (X:XS) (k:Nat) (v:Value) (rows:List (List Value)):Prop:=
 (∀r∈rows,r.length=k)∧rows.length≤2^63-1∧
 ∃base cap,v= .slice base rows.length cap∧(rows≠[]→ ∃b o,base=some ⟨b,o,none⟩∧Cells w X b o rows.flatten)∧
  (base=none→cap=0)∧rows.length≤cap∧cap≤2^63-1
theorem Sl.mono {k:Nat} {v:Value} {rows:List (List Value)} {Y:XS} (h:Sl w X k v rows) (hs: ∀k,X k→Y k):Sl w Y k v rows:=by
 obtain⟨h1,h2,base,cap,hv,hc,hr⟩:=h;exact⟨h1,h2,base,cap,hv,fun du=>let⟨b,o,hb,jx⟩:=hc du;⟨b,o,hb,jx.mono hs⟩,hr⟩
theorem Sl.kp {k:Nat} {v:Value} {rows:List (List Value)} {w':World} (h:Sl w X k v rows) (hk:Kp X w w'):Sl w' X k v rows:=by
 obtain⟨h1,h2,base,cap,hv,hc,hr⟩:=h;exact⟨h1,h2,base,cap,hv,fun du=>let⟨b,o,hb,jx⟩:=hc du;⟨b,o,hb,jx.kp hk⟩,hr⟩
theorem Sl.since {k:Nat} {v:Value} {rows:List (List Value)} {Y:XS} {w':World} (h:Sl w X k v rows) (hs:aj X w Y w'):Sl w' Y k v rows:=
 (h.kp hs.kp).mono hs.sub
theorem Sl.aR {k:Nat} {v:Value} {rows:List (List Value)} (h:Sl w X k v rows):Sl w (aR w) k v rows:=by
 obtain⟨h1,h2,base,cap,hv,hc,hr⟩:=h;exact⟨h1,h2,base,cap,hv,fun du=>let⟨b,o,hb,jx⟩:=hc du;⟨b,o,hb,jx.lt,jx.2⟩,hr⟩
theorem Sl.nil (w:World) (X:XS) (k:Nat):Sl w X k (.slice none 0 0) []:=⟨by simp,by simp,none,0,rfl,by simp,by simp,by simp,by simp⟩
theorem Sl.one {k:Nat} {v:Value} {rows:List (List Value)} (h:Sl w X k v rows):one v=true:=by
 obtain⟨_,_,_,_,rfl,_⟩:=h;rfl
theorem JD {k:Nat} : ∀{rows:List (List Value)},(∀r∈rows,r.length=k)→ ∀{i:Nat} {r:List Value},rows[i]? =some r→
  (rows.flatten.drop (i*k)).take k=r
 |[],_,i,r,h=>by simp at h
 |x::rest,hl,0,r,h=>by
  simp only [ig,ay] at h;subst h;have:=hl x (by simp);simp [this.symm]
 |x::rest,hl,i+1,r,h=>by
  have hx:=hl x (by simp);rw [iP,List.drop_append,hx,List.drop_eq_nil_of_le (by rw [hx];exact Nat.le_mul_of_pos_left k (Nat.succ_pos i))];have:(i+1)*k-k=i*k:=by rw [Nat.succ_mul];omega
  rw [this,dG];exact JD (fun r hr=>hl r (by simp [hr])) (by simpa using h)
theorem aew {t:TypeId} {xs ys:Array Value} {xo yo:Operand} {b:Bool} (hm:P.eqGuardType P.depth t=false)
  (h: ∀wa,(rh 10000 t (.agg xs) (.agg ys)).run P wa= .ok b wa) (k:N (.bool b)):ae P X w (aD .eql t xo yo (.agg xs) (.agg ys)) N:=by
 refine cf (fun wa=>?_) k;simp [aD,run_eqGuard_agg wa .eql t xo yo xs ys hm,run_eql_struct,h]
theorem aex {t:TypeId} {xs ys:Array Value} {xo yo:Operand} {b:Bool} (hm:P.eqGuardType P.depth t=false)
  (h: ∀wa,(rh 10000 t (.agg xs) (.agg ys)).run P wa= .ok b wa) (k:N (.bool (!b))):ae P X w (aD .neq t xo yo (.agg xs) (.agg ys)) N:=by
 refine cf (fun wa=>?_) k;simp [aD,run_eqGuard_agg wa .neq t xo yo xs ys hm,binOp,Op.equal,Op.maxDepth,h]
theorem wrap_i64 {a:Int} (h1: -(2^63)≤a) (h2:a<2^63):IntKind.i64.wrap a=a:=by
 simp only [IntKind.wrap];first
  |omega
  |(simp [IntKind.bits,IntKind.signed];omega)
variable {P : Program} {R : Ending → World → Prop} {X : XS} {w : World} {m : Bool}
structure Grown (X:XS) (w:World) (X':XS) (w':World) (row:Option Nat):Prop where
 os:w'.os=w.os
 tape:w'.tape=w.tape
 output:w'.output=w.output
 size:w.heap.size≤w'.heap.size
 block: ∀k,X k→some k≠row→w'.heap[k]? =w.heap[k]?
 sub: ∀k,X k→X' k
 has: ∀k,X' k→k<w'.heap.size
theorem aj.grown {X0 Y:XS} {w0 w':World} {row:Option Nat} (h:aj X0 w0 X w) (g:Grown X w Y w' row) (hr: ∀k,X0 k→some k≠row):aj X0 w0 Y w':=
 ⟨⟨g.os.trans h.kp.os,g.tape.trans h.kp.tape,g.output.trans h.kp.output,ah h.kp.size g.size,
  fun k hk=>(g.block k (h.sub k hk) (hr k hk)).trans (h.kp.block k hk)⟩,fun k hk=>g.sub k (h.sub k hk),g.has⟩
theorem Grown.since {Y:XS} {w':World} {row:Option Nat} {F:XS} (g:Grown X w Y w' row) (hf: ∀k,F k→X k) (hr: ∀k,F k→some k≠row):aj F w Y w':=
 ⟨⟨g.os,g.tape,g.output,g.size,fun k hk=>g.block k (hf k hk) (hr k hk)⟩,fun k hk=>g.sub k (hf k hk),g.has⟩
def Own (w:World) (X:XS) (lo e k:Nat) (v:Value) (rows:List (List Value)):Prop:=
 (∀r∈rows,r.length=k)∧w.ownsRow lo e k v rows.length rows.flatten∧ ∀g,v.ownBlock=some g→X g
theorem Own.nil (w:World) (X:XS) (lo e k:Nat):Own w X lo e k (.slice none 0 0) []:=⟨by simp,World.ownsRow_nil w lo e k,by simp [gk]⟩
theorem Own.sl {lo e k:Nat} {v:Value} {rows:List (List Value)} (h:Own w X lo e k v rows):Sl w X k v rows:=by
 obtain⟨h1,h2,h3⟩:=h;rcases h2.2 with⟨rfl,hn⟩|⟨g,cap,cur,rfl,hb,hg,xv,lD,jx,ht⟩
 ·have:rows=[]:=fC hn;subst this;exact Sl.nil w X k
 ·have hm:cap≤2^63-1:=lD;refine⟨h1,ah xv hm,_,cap,rfl,fun _=>⟨g,0,rfl,h3 g rfl,cur,e,(0,0),hg,fun j v hj=>?_⟩,by simp,xv,hm⟩;rw [←ht,jL] at hj;split at hj
  ·simpa using hj
  ·cases hj
theorem Own.kp {lo e k:Nat} {v:Value} {rows:List (List Value)} {w':World} (h:Own w X lo e k v rows) (hk:Kp X w w'):Own w' X lo e k v rows:=by
 obtain⟨h1,h2,h3⟩:=h;refine⟨h1,⟨h2.1,?_⟩,h3⟩;rcases h2.2 with h|⟨g,cap,cur,rfl,hb,hg,hr⟩
 ·exact .inl h
 ·exact .inr ⟨g,cap,cur,rfl,hb,by rw [hk.block g (h3 g rfl)];exact hg,hr⟩
theorem Own.mono {lo e k:Nat} {v:Value} {rows:List (List Value)} {Y:XS} (h:Own w X lo e k v rows) (hs: ∀k,X k→Y k):Own w Y lo e k v rows:=
 ⟨h.1,h.2.1,fun g hg=>hs g (h.2.2 g hg)⟩
theorem Own.since {lo e k:Nat} {v:Value} {rows:List (List Value)} {Y:XS} {w':World} (h:Own w X lo e k v rows) (hs:aj X w Y w'):Own w' Y lo e k v rows:=
 (h.kp hs.kp).mono hs.sub
theorem Own.low {lo lo' e k:Nat} {v:Value} {rows:List (List Value)} (h:Own w X lo e k v rows) (hl:lo'≤lo):Own w X lo' e k v rows:=by
 obtain⟨h1,h2,h3⟩:=h;refine⟨h1,⟨h2.1,?_⟩,h3⟩;rcases h2.2 with h|⟨g,cap,cur,rfl,hb,hr⟩
 ·exact .inl h
 ·exact .inr ⟨g,cap,cur,rfl,ah hl hb,hr⟩
theorem Own.ge {lo e k:Nat} {v:Value} {rows:List (List Value)} (h:Own w X lo e k v rows) {g:Nat} (hg:v.ownBlock=some g):lo≤g∧g<w.heap.size:=h.2.1.lt g hg
theorem Own.tight {lo e k:Nat} {v:Value} {rows:List (List Value)} (h:Own w X lo e k v rows):Own w (fun g=>lo≤g∧g<w.heap.size) lo e k v rows:=
 ⟨h.1,h.2.1,fun _ hg=>h.ge hg⟩
theorem qh {k:Nat} : ∀{rows:List (List Value)},(∀r∈rows,r.length=k)→rows.flatten.length=rows.length*k
 |[],_=>by simp
 |r::rs,h=>by
  rw [iP,au,h r (by simp),qh fun r hr=>h r (by simp [hr]),bh,Nat.succ_mul,Nat.add_comm]
theorem zh {t e len:Nat} {parts:Array (Nat×Value)} {k:Nat} {rows:List (List Value)} {N:Value→World→XS→Prop} (cells:Array Value) (z:Value)
  (hX: ∀k,X k→k<w.heap.size) (hu:P.underlying t=some (.slice e)) (hz:(P.info? e).bind (fun i=>i.zero.map fun z=>(i.size,z))=some (k,z))
  (aam:0<len*k) (O7:len*k≤2^24)
  (h:nM (fun i=>some (i*k,k)) ((xT (len*k)).map (z.cells[· % z.cells.size]!)) parts.toList=some cells)
  (zv: ∀r∈rows,r.length=k) (hlen:rows.length=len) (hc:cells.toList=rows.flatten)
  (n: ∀v w' X',aj X w X' w'→Own w' X' w.heap.size e k v rows→N v w' X'):eV P R X w m (gF t len parts) N:=by
 intro wa hk;cases hq:P.info? e with
 |none=>simp [hq] at hz
 |some ie=>
  cases lW:ie.zero with
  |none=>simp [hq,lW] at hz
  |some z'=>
   simp only [hq,lW,cU,bq,ay,cx] at hz;obtain⟨rfl,rfl⟩:=hz;have hr:=run_buildSlice (P:=P) wa t e len parts cells ie z' hu hq lW zQ zQ h;unfold iE;simp only [vS,bG,hr,aZ,bY];have hx:Ext wa (wa.alloc (.cells cells e)):=Ext.alloc _ _;have jx:cells.size=len*ie.size:=by
    have:=congrArg List.length hc;simp only [ec] at this;rw [this,qh zv,hlen]
   have ajQ:0<ie.size:=Nat.pos_of_ne_zero fun e=>by simp [e] at aam
   have hle:len≤2^24:=ah (Nat.le_mul_of_pos_right len ajQ) O7;have HD:=wS (e:=e) (base:=w.heap.size) (size:=ie.size) wa cells len hk.size (by simp only [maxLen];omega) jx;refine⟨Step.eE hx,n _ _ _ (aj.eE hX hk hx) ⟨zv,by rw [hlen,←hc];exact HD,fun g hg=>?_⟩⟩;simp only [gk,ay] at hg;subst hg;exact .inr ⟨ba _,by simp⟩
theorem acd {t e k:Nat} {N:Value→World→XS→Prop} (hX: ∀k,X k→k<w.heap.size) (hu:P.underlying t=some (.slice e)) (hz:(P.info? e).map (·.size)=some k)
  (n: ∀v w' X',aj X w X' w'→Own w' X' w.heap.size e k v []→N v w' X'):eV P R X w m (gF t 0 #[]) N:=by
 intro wa hk;cases hq:P.info? e with
 |none=>simp [hq] at hz
 |some ie=>
  unfold iE;have hr:(gF t 0 #[]).run P wa= .ok (.slice (some ⟨wa.heap.size,0,none⟩) 0 0) (wa.alloc (.cells #[] e)):=by
   simp [gF,run_underlying hu,sizeOf,typeInfo,hq,nM,newRow];have LX: ∀f:Nat→Value,Array.map f (xT 0)= #[]:=fun f=>Array.eq_empty_of_size_eq_zero (by simp);rw [LX]
  simp only [vS,bG,hr,aZ,bY];have hx:Ext wa (wa.alloc (.cells #[] e)):=Ext.alloc _ _;have HD:=wS (e:=e) (base:=w.heap.size) (size:=k) wa #[] 0 hk.size (by simp [maxLen]) (by simp);refine⟨Step.eE hx,n _ _ _ (aj.eE hX hk hx) ⟨by simp,HD,fun g hg=>?_⟩⟩;simp only [gk,ay] at hg;subst hg;exact .inr ⟨ba _,by simp⟩
theorem Sl.src {k:Nat} {v:Value} {rows:List (List Value)} (h:Sl w X k v rows):
  v= .slice none 0 0∧rows=[]∨ ∃a cap,v= .slice (some a) rows.length cap∧ ∀j u,rows.flatten[j]? =some u→w.cell? (a.add j)=some u:=by
 obtain⟨h1,h2,base,cap,rfl,hc,hn,hle,_⟩:=h;cases base with
 |none=>
  cases rows with
  |nil=>exact .inl ⟨by simp [hn rfl],rfl⟩
  |cons r rs=>obtain⟨_,_,hh,_⟩:=hc (by simp);cases hh
 |some a=>
  refine .inr ⟨a,cap,rfl,fun j u hj=>?_⟩;cases rows with
  |nil=>simp at hj
  |cons r rs=>
   obtain⟨b,o,hb,jx⟩:=hc (by simp);cases hb;rw [y8];exact jx.range j u hj
theorem zZ {t ty e k bytes lo:Nat} {v s:Value} {rows dL:List (List Value)} {N:Value→World→XS→Prop} (z:Value)
  (hu:P.underlying t=some (.slice e)) (hi:(P.info? e).bind (fun i=>i.zero.map fun z=>(i.size,i.bytes,z))=some (k,bytes,z)) (r8:z.cells.size=k) (kB:0<k)
  (hX: ∀k,X k→k<w.heap.size) (fp:lo≤w.heap.size) (own:Own w X lo e k v rows) (src:Sl w X k s dL) (h1: ∀r∈dL,∀u∈r,one u=true)
  (hb:(rows.length+dL.length)*bytes≤140737488355328) (hl:rows.length+dL.length≤2^63-1)
  (n: ∀v' w' X',Grown X w X' w' v.ownBlock→Own w' X' lo e k v' (rows++dL)→(v'.ownBlock=v.ownBlock∨ ∃g,v'.ownBlock=some g∧w.heap.size≤g)→N v' w' X'):
  eV P R X w true (ej #[t,t] ty #[v,s]) N:=by
 intro wa hk;have own:=own.kp hk;have src:=src.kp hk;cases hq:P.info? e with
 |none=>simp [hq] at hi
 |some ie=>
  cases lW:ie.zero with
  |none=>simp [hq,lW] at hi
  |some z'=>
   simp only [hq,lW,cU,bq,ay,cx] at hi;obtain⟨rfl,rfl,rfl⟩:=hi;unfold iE;rcases src.src with⟨rfl,rfl⟩|⟨a,cap,rfl,zA⟩
   ·have hr:=run_append_owned_none (P:=P) (w:=wa) lo t ty e ie ie.size hu hq v rows.length rows.flatten own.2.1;simp only [vS,bG,hr,aZ,bY];have hx:=Ext.refl wa;have hs:=aj.eE hX hk hx;refine⟨Step.eE hx,n _ _ _ ⟨hs.kp.os,hs.kp.tape,hs.kp.output,hs.kp.size,fun k h _=>hs.kp.block k h,hs.sub,hs.has⟩ ?_ (.inl rfl)⟩;rw [lY];exact own.mono (fun k h=>Or.inl h)
   ·have oG:dL.flatten.length=dL.length*ie.size:=qh src.1;obtain⟨v',w',hr,HD,hg,_,ef⟩:=run_append_own_at (P:=P) wa lo t ty e ie z' ie.size ie.bytes hu hq lW rfl rfl r8 kB v rows.length rows.flatten own.2.1
     a dL.length cap dL.flatten oG zA (fun u hu=>by
      obtain⟨r,hr,hur⟩:=List.mem_flatten.1 hu;rw [←Ez];exact h1 r hr u hur) hl hb (ah fp hk.size)
    simp only [vS,bG,hr,aZ,bY];have hgb: ∀k,k<wa.heap.size→some k≠v.ownBlock→w'.heap[k]? =wa.heap[k]? :=hg.block;refine⟨⟨hg.os,hg.tape,hg.output,hg.size,fun k tt nB=>hg.block k tt fun e=>nB (own.2.2 k e.symm)⟩,n _ _ _ ?_ ⟨?_,?_,?_⟩ ?_⟩
    ·exact⟨hg.os.trans hk.os,hg.tape.trans hk.tape,hg.output.trans hk.output,ah hk.size hg.size,
      fun k hx du=>(hg.block k (aG (hX k hx) hk.size) du).trans (hk.block k hx),fun k h=>.inl h,
      fun k h=>h.elim (fun h=>aG (hX k h) (ah hk.size hg.size)) (fun h=>h.2)⟩
    ·intro r hr;rcases List.mem_append.1 hr with h|h
     ·exact own.1 r h
     ·exact src.1 r h
    ·rw [au,List.flatten_append];exact HD
    ·intro g Hl;rcases ef with h|h
     ·exact .inl (own.2.2 g (h▸Hl))
     ·rw [Hl] at h;cases h;exact .inr ⟨ba _,(HD.lt _ Hl).2⟩
    ·rcases ef with h|h
     ·exact .inl h
     ·exact .inr ⟨_,h,hk.size⟩
theorem Nr {t e:TypeId} (ht:P.underlying t=some (.slice e)) (d:Nat) (base:Option Addr) (n c:Nat) (w:World):
  (rh (d+1) t (.slice base n c) (.slice none 0 0)).run P w= .ok base.isNone w:=by
 cases base<;>simp [rh,run_underlying ht]
theorem Vr {t e:TypeId} {xo yo:Operand} {base:Option Addr} {n c:Nat} {N:Value→Prop} (ht:P.underlying t=some (.slice e)) (h:N (.bool base.isNone)):
  ae P X w (aD .eql t xo yo (.slice base n c) (.slice none 0 0)) N:=by
 refine cf (fun wa=>?_) h;have:(Op.equal t (.slice base n c) (.slice none 0 0)).run P wa= .ok base.isNone wa:=Nr ht 9999 base n c wa;simp [aD,eqGuard,binOp,this]
def KT (P:Program):List Field→Nat→Bool
 |[],_=>true
 |f::r,i=>f.name != "_" &&(match P.underlying f.type with|some (.int _)=>true|_=>false)&&f.offset==i&&KT P r (i+1)
theorem AW (w:World) (d:Nat) (as bs:List Int): ∀(fs:List Field) (i:Nat),KT P fs i=true→as.length=i+fs.length→bs.length=i+fs.length→
  (sU (d+1) (as.map (aA .i64)).toArray (bs.map (aA .i64)).toArray fs).run P w= .ok (decide (as.drop i=bs.drop i)) w
 |[],i,_,ha,hb=>by
  simp only [List.length_nil,Nat.add_zero] at ha hb;rw [jQ zQ,jQ zQ];simp [sU]
 |f::r,i,h,ha,hb=>by
  simp only [KT,aW,bne_iff_ne,ne_eq,beq_iff_eq] at h;obtain⟨⟨⟨hn,hu⟩,ho⟩,hr⟩:=h;simp only [bh] at ha hb;have hia:i<as.length:=by omega
  have hib:i<bs.length:=by omega
  cases hd:P.underlying f.type with
  |none=>simp [hd] at hu
  |some ty=>
   cases ty<;>simp only [hd,a8] at hu
   rename_i q;have y9:(isAgg f.type).run P w= .ok false w:=by simp [isAgg,run_underlying hd]
   have Vs:(part f.type (as.map (aA .i64)).toArray f.offset).run P w= .ok (.int .i64 as[i]) w:=by
    simp [part,y9,ho,hia]
   have JE:(part f.type (bs.map (aA .i64)).toArray f.offset).run P w= .ok (.int .i64 bs[i]) w:=by
    simp [part,y9,ho,hib]
   have ih:=AW w d as bs r (i+1) hr zQ zQ;have hk:(as.drop i=bs.drop i)↔(as[i]=bs[i]∧as.drop (i+1)=bs.drop (i+1)):=by
    rw [iT hia,iT hib,List.cons.injEq]
   simp only [hk];clear hk;by_cases he:as[i]=bs[i]
   ·simp [sU,hn,Vs,JE,run_equalIn_int w d f.type .i64 q _ _ hd,he,ih]
   ·simp [sU,hn,Vs,JE,run_equalIn_int w d f.type .i64 q _ _ hd,he]
def ij (P:Program) (t n:Nat):Bool:=match P.underlying t with
 |some (.struct fs)=>fs.toList.length==n&&KT P fs.toList 0&&!P.stoodInHeld t&&!P.eqGuardType P.depth t
 |_=>false
theorem zi {t n:Nat} (h:ij P t n=true) (as bs:List Int) (ha:as.length=n) (hb:bs.length=n) (w:World):
  (rh 10000 t (.agg (as.map (aA .i64)).toArray) (.agg (bs.map (aA .i64)).toArray)).run P w= .ok (decide (as=bs)) w:=by
 unfold ij at h;split at h
 ·rename_i fs hu;simp only [aW,beq_iff_eq,cu] at h;have hf:P.fieldsOf t=fs:=by simp [Program.fieldsOf,hu]
  rw [run_equalIn_struct w 9999 t _ _ (by rw [hf];exact hu) h.1.2,hf];have:=AW (P:=P) w 9998 as bs fs.toList 0 h.1.1.2 (by rw [ha,h.1.1.1];omega) (by rw [hb,h.1.1.1];omega);simpa using this
 ·cases h
theorem DF {t n:Nat} (h:ij P t n=true):P.eqGuardType P.depth t=false:=by
 unfold ij at h;split at h
 ·simp only [aW,cu] at h;exact h.2
 ·cases h
theorem aey {N:Value→Prop} {t:TypeId} {a b c a' b' c':Int} {xo yo:Operand} (h:ij P t 3=true) (k:N (.bool (decide (a=a'∧b=b'∧c=c')))):
  ae P X w (aD .eql t xo yo (.agg #[.int .i64 a,.int .i64 b,.int .i64 c]) (.agg #[.int .i64 a',.int .i64 b',.int .i64 c'])) N:=
 aew (b:=decide (a=a'∧b=b'∧c=c')) (DF h) (fun wa=>by
  have:=zi h [a,b,c] [a',b',c'] rfl rfl wa;simpa using this) k
theorem aez {N:Value→Prop} {t:TypeId} {a b c a' b' c':Int} {xo yo:Operand} (h:ij P t 3=true) (k:N (.bool (!decide (a=a'∧b=b'∧c=c')))):
  ae P X w (aD .neq t xo yo (.agg #[.int .i64 a,.int .i64 b,.int .i64 c]) (.agg #[.int .i64 a',.int .i64 b',.int .i64 c'])) N:=
 aex (b:=decide (a=a'∧b=b'∧c=c')) (DF h) (fun wa=>by
  have:=zi h [a,b,c] [a',b',c'] rfl rfl wa;simpa using this) k
theorem YR {t:TypeId} {v:Value} {N:Value→World→XS→Prop} (hX: ∀k,X k→k<w.heap.size)
  (n: ∀b w' X',w.heap.size≤b→aj X w X' w'→X' b→w'.heap[b]? =some (.cells v.cells.toList.toArray t (0,0))→N (ptr b 0) w' X'):eV P R X w m (dN t v) N:=by
 intro wa hk;unfold iE;have hr:(dN t v).run P wa= .ok (ptr wa.heap.size 0) (wa.alloc (.cells v.cells t)):=by simp [dN,newVar,newRow]
 simp only [vS,bG,hr,aZ,bY];have hx:Ext wa (wa.alloc (.cells v.cells t)):=Ext.alloc _ _;exact⟨Step.eE hx,n _ _ _ hk.size (aj.eE hX hk hx) (.inr ⟨ba _,by simp⟩) (by simpa using heap_alloc_new wa _)⟩
def a7 (w:World) (X:XS) (b:Nat) (cs:List Value) (ty:TypeId):Prop:=X b∧w.heap[b]? =some (.cells cs.toArray ty (0,0))
theorem a7.kp {b:Nat} {cs:List Value} {ty:TypeId} {w':World} (h:a7 w X b cs ty) (hk:Kp X w w'):a7 w' X b cs ty:=⟨h.1,by rw [hk.block b h.1];exact h.2⟩
theorem a7.mono {b:Nat} {cs:List Value} {ty:TypeId} {Y:XS} (h:a7 w X b cs ty) (hs: ∀k,X k→Y k):a7 w Y b cs ty:=⟨hs _ h.1,h.2⟩
theorem a7.since {b:Nat} {cs:List Value} {ty:TypeId} {Y:XS} {w':World} (h:a7 w X b cs ty) (hs:aj X w Y w'):a7 w' Y b cs ty:=(h.kp hs.kp).mono hs.sub
theorem a7.cells {b:Nat} {cs:List Value} {ty:TypeId} (h:a7 w X b cs ty):Cells w X b 0 cs:=⟨h.1,_,_,_,h.2,fun j v hj=>by simpa using hj⟩
theorem aeA {t sz b o:Nat} {cs:List Value} {ty:TypeId} {v:Value} {N:Value→World→XS→Prop} (h:a7 w X b cs ty) (ht:(P.info? t).map (·.size)=some sz)
  (hl:o+sz≤cs.length) (hv:v.cells.size=sz) (h1:v.cells.toList.all one=true) (hX: ∀k,X k→k<w.heap.size)
  (n: ∀w' X',Grown X w X' w' (some b)→a7 w' X' b (dg cs o v.cells.toList) ty→N undef w' X'):eU P R X w true (Instr.storeAt t (ptr b o) v) N:=by
 intro wa hk;have hb:=(h.kp hk).2;unfold iE;have hr:=LG (P:=P) ht hb o (by simpa using hl) v hv h1;simp only [dT] at hr;simp only [uS,bG,hr,aZ,bY];have fL:(wa.setRow b (dg cs o v.cells.toList).toArray).heap.size=wa.heap.size:=by simp
 refine⟨⟨rfl,rfl,rfl,by rw [fL];exact ba _,fun k _ hx=>setRow_other wa b k _ fun e=>hx (e▸h.1)⟩,n _ _ ?_ ⟨.inl h.1,setRow_heap wa b _ _ ty _ hb⟩⟩;refine⟨hk.os,hk.tape,hk.output,by rw [fL];exact hk.size,fun k hx du=>?_,fun k h=>.inl h,fun k h=>?_⟩
 ·rw [setRow_other wa b k _ (fun e=>du (by rw [e])),hk.block k hx]
 ·rw [fL];exact h.elim (fun h=>aG (hX k h) hk.size) (fun h=>by have:=h.2;rwa [fL] at this)
variable {P : Program} {α : Type}
end Go.aV
set_option linter.unusedSectionVars false
set_option linter.unusedSimpArgs false
namespace Go.aV
variable {P : Program} {R : Ending → World → Prop} {X : XS} {w : World} {m : Bool} {κ : Type} [DecidableEq κ]
abbrev gA (κ:Type):=κ×Value×Nat
def jh (kv:κ→Value) (x:gA κ):MapEntry:=⟨kv x.1,x.2.1,x.2.2⟩
def oH (k:κ):List (gA κ)→Nat→Option (Nat×Value)
 |[],_=>none
 |x::r,i=>if k=x.1 then some (i,x.2.1)else oH k r (i+1)
structure sR (P:Program) (kt:TypeId) (kv:κ→Value):Prop where
 aC: ∀e k w,(fv e 10000 kt (kv k)).run P w= .ok () w
 find: ∀k (l:List (gA κ)) w,(qw kt (kv k) (l.map (jh kv))).run P w= .ok (oH k l 0) w
 same: ∀k,ki 10000 (kv k) (kv k)=true
theorem JF (a b:ByteArray):(a==b)=decide (a=b):=by
 rw [beq_toListBytes];have:a.toList=b.toList↔a=b:=by
  constructor
  ·intro h;rw [lO,lO] at h;obtain⟨⟨x⟩⟩:=a;obtain⟨⟨y⟩⟩:=b;simpa using h
  ·intro h;rw [h]
 by_cases h:a=b
 ·simp [h]
 ·simp [h,this]
theorem HW {kt:TypeId} (h:P.underlying kt=some .string) (e:Bool) (n:Nat) (k:ByteArray) (w:World):
  (fv e (n+1) kt (.string k)).run P w= .ok () w:=by simp [fv,run_underlying h]
theorem Ns {kt:TypeId} {fs:Array Field} (h:P.underlying kt=some (.struct fs)) (e:Bool) (n:Nat) (cs:Array Value) (w:World)
  (hr:(forIn fs kj fun f (_:PUnit)=>(if f.name≠ "_" then(do
    let v←part f.type cs f.offset
    fv e n f.type v
    pure (oI kj))
   else pure (oI kj):Sem (ForInStep PUnit))).run P w= .ok kj w):
  (fv e (n+1) kt (.agg cs)).run P w= .ok () w:=by
 simp only [fv,bG,run_underlying h,aZ];exact(congrArg (fun r=>r.andThen fun _ w'=>sd P (Pure.pure ()) w') hr).trans rfl
theorem Gx {kt:TypeId} (h:P.underlying kt=some .string):sR P kt (fun s:ByteArray=>Value.string s) where
 aC e k w:=HW h e 9999 k w
 find k l w:=by
  have: ∀(l:List (gA ByteArray)) (i:Nat),gT .string (.string k) (l.map (jh fun s=>Value.string s)) i=some (oH k l i):=by
   intro l
   induction l with
   |nil=>intro i;rfl
   |cons x r ih=>
    intro i;by_cases hk:k=x.1
    ·simp [gT,jh,uF,oH,hk,JF]
    ·simp [gT,jh,uF,oH,hk,ih,JF]
  simp [qw,run_underlying h,this]
 same k:=by simp [ki,JF]
theorem AX (w:World) (e:Bool) (d:Nat) (as:List Int): ∀(fs:List Field) (i:Nat),KT P fs i=true→as.length=i+fs.length→
  (forIn fs kj fun f (_:PUnit)=>(if f.name≠ "_" then(do
    let v←part f.type (as.map (aA .i64)).toArray f.offset
    fv e (d+1) f.type v
    pure (oI kj))
   else pure (oI kj):Sem (ForInStep PUnit))).run P w= .ok kj w
 |[],i,_,_=>by simp
 |f::r,i,h,ha=>by
  simp only [KT,aW,bne_iff_ne,ne_eq,beq_iff_eq] at h;obtain⟨⟨⟨hn,hu⟩,ho⟩,hr⟩:=h;simp only [bh] at ha;have hia:i<as.length:=by omega
  cases hd:P.underlying f.type with
  |none=>simp [hd] at hu
  |some ty=>
   cases ty<;>simp only [hd,a8] at hu
   rename_i q;have y9:(isAgg f.type).run P w= .ok false w:=by simp [isAgg,run_underlying hd]
   have Vs:(part f.type (as.map (aA .i64)).toArray f.offset).run P w= .ok (.int .i64 as[i]) w:=by
    simp [part,y9,ho,hia]
   have yH:(fv e (d+1) f.type (.int .i64 as[i])).run P w= .ok () w:=by
    simp [fv,run_underlying hd]
   have ih:=AX w e d as r (i+1) hr zQ;rw [List.forIn_cons];simp only [ne_eq,hn,not_false_eq_true,if_true,bG,Vs,yH,aZ,bY];exact ih
theorem SL (d:Nat) (as:List Int):ki (d+1) (.agg (as.map (aA .i64)).toArray) (.agg (as.map (aA .i64)).toArray)=true:=by
 have: ∀l:List Int,((l.map (aA .i64)).zip (l.map (aA .i64))).all (fun (x,y)=>ki d x y)=true:=by
  intro l
  induction l with
  |nil=>rfl
  |cons x r ih=>
   simp only [bV,List.zip_cons_cons,List.all_cons,ih,Bool.and_true];cases d<;>simp [ki]
 simp [ki,this]
theorem aeB {kt n:Nat} (h:ij P kt n=true) (as:κ→List Int) (hlen: ∀k,(as k).length=n) (alP: ∀a b,as a=as b→a=b):
  sR P kt (fun k:κ=>ak ((as k).map (aA .i64)).toArray) where
 aC e k w:=by
  have h0:=h;unfold ij at h;split at h
  ·rename_i fs hu;simp only [aW,beq_iff_eq,cu] at h;have hr:=AX (P:=P) w e 9998 (as k) fs.toList 0 h.1.1.2 (by rw [hlen,h.1.1.1];omega);rw [Array.forIn_toList] at hr;exact Ns hu e 9999 _ w hr
  ·cases h
 find k l w:=by
  have h0:=h;unfold ij at h0;split at h0
  ·rename_i fs hu;have alQ: ∀(l:List (gA κ)) (i:Nat),(rN kt (.agg ((as k).map (aA .i64)).toArray) (l.map (jh fun k=>ak ((as k).map (aA .i64)).toArray)) i).run P w= .ok (oH k l i) w:=by
    intro l
    induction l with
    |nil=>intro i;simp [rN,oH]
    |cons x r ih=>
     intro i;have he:=zi h (as k) (as x.1) (hlen _) (hlen _) w;simp only [bV,rN,jh,Op.equal,Op.maxDepth,bG,he,aZ,oH];by_cases hk:k=x.1
     ·subst hk;simp
     ·have: ¬as k=as x.1:=fun e=>hk (alP _ _ e);simp only [this,decide_false,a8,if_false,hk];exact ih _
   cases l with
   |nil=>simp [qw,run_underlying hu,gT,oH]
   |cons x r=>
    have:=alQ (x::r) 0;simp only [qw,bG,run_underlying hu,aZ];simp only [bV,gT,jh,uF] at this⊢;exact this
  ·cases h0
 same k:=SL 9999 (as k)
def jO (w:World) (X:XS) (b:Nat) (kv:κ→Value) (es:List (gA κ)) (clock:Nat):Prop:=
 X b∧w.heap[b]? =some (.map (es.map (jh kv)).toArray clock)∧(es.map (·.1)).Nodup∧(es.map (·.2.2)).Nodup∧ ∀x∈es,x.2.2<clock
theorem jO.kp {b:Nat} {kv:κ→Value} {es:List (gA κ)} {c:Nat} {w':World} (h:jO w X b kv es c) (hk:Kp X w w'):jO w' X b kv es c:=
 ⟨h.1,by rw [hk.block b h.1];exact h.2.1,h.2.2⟩
theorem jO.mono {b:Nat} {kv:κ→Value} {es:List (gA κ)} {c:Nat} {Y:XS} (h:jO w X b kv es c) (hs: ∀k,X k→Y k):jO w Y b kv es c:=⟨hs _ h.1,h.2⟩
theorem jO.since {b:Nat} {kv:κ→Value} {es:List (gA κ)} {c:Nat} {Y:XS} {w':World} (h:jO w X b kv es c) (hs:aj X w Y w'):jO w' Y b kv es c:=
 (h.kp hs.kp).mono hs.sub
def Eg (k:κ) (es:List (gA κ)):Option Value:=(es.find? fun x=>decide (x.1=k)).map (·.2.1)
theorem Nt (k:κ): ∀(es:List (gA κ)) (i:Nat),oH k es i=(es.findIdx? fun x=>decide (x.1=k)).bind fun j=>(es[j]?).map fun x=>(i+j,x.2.1)
 |[],i=>rfl
 |x::r,i=>by
  unfold oH;by_cases h:k=x.1
  ·simp [h,gK]
  ·rw [if_neg h,Nt k r (i+1)];have h': ¬x.1=k:=fun e=>h e.symm;simp only [gK,h',decide_false,a8,if_false];cases r.findIdx? fun x=>decide (x.1=k)with
   |none=>rfl
   |some j=>simp [Nat.add_assoc,Nat.add_comm 1 j]
theorem Sd (k:κ): ∀(es:List (gA κ)) (i:Nat),(oH k es i).map (·.2)=Eg k es
 |[],i=>rfl
 |x::r,i=>by
  unfold oH Eg;by_cases h:k=x.1
  ·simp [h]
  ·have h': ¬x.1=k:=fun e=>h e.symm;rw [if_neg h,Sd k r (i+1)];simp [Eg,h']
theorem aan {t kt et b c:Nat} {kv:κ→Value} {es:List (gA κ)} {k:κ} {N:Value→Prop} (z:Value) (h:jO w X b kv es c) (K:sR P kt kv)
  (ht:P.underlying t=some (.map kt et)) (hz:(P.info? et).bind (·.zero)=some z)
  (n:N (.tuple #[(Eg k es).getD z,.bool (Eg k es).isSome])):ae P X w (Instr.lookup t (.map (some b)) (kv k) true) N:=by
 refine E8 _ (fun wa hk=>?_) n;have hb:=(h.kp hk).2.1;cases hi:P.info? et with
 |none=>simp [hi] at hz
 |some inf=>
  have CW:inf.zero=some z:=by simpa [hi] using hz
  have hg:=Sd k es 0;simp only [Instr.lookup,bG,run_underlying ht,aZ,getObj,sd,hb,K.aC,de,K.find];cases hf:oH k es 0 with
  |none=>
   rw [hf] at hg;simp only [Option.map_none] at hg;simp [zeroValue,typeInfo,hi,CW,←hg,K.find,hf]
  |some r=>
   rw [hf] at hg;simp only [bq] at hg;simp [←hg,K.find,hf]
theorem aao {t:TypeId} {kv:κ→Value} {N:Value→World→XS→Prop} (hX: ∀k,X k→k<w.heap.size)
  (n: ∀b w' X',w.heap.size≤b→aj X w X' w'→jO w' X' b kv [] 0→N (.map (some b)) w' X'):eV P R X w m (ju t none) N:=by
 intro wa hk;unfold iE;have hr:(ju t none).run P wa= .ok (.map (some wa.heap.size)) (wa.alloc (.map #[] 0)):=by simp [ju]
 simp only [vS,bG,hr,aZ,bY];have hx:Ext wa (wa.alloc (.map #[] 0)):=Ext.alloc _ _;exact⟨Step.eE hx,n _ _ _ hk.size (aj.eE hX hk hx) ⟨.inr ⟨ba _,by simp⟩,by simpa using heap_alloc_new wa _,by simp,by simp,by simp⟩⟩
open Go.ChangeMaps (setBlock)
theorem JG {b:Nat} {o:Obj} {wa:World} (hX: ∀k,X k→k<w.heap.size) (hk:Kp X w wa):Grown X w (grow X wa (setBlock wa b o)) (setBlock wa b o) (some b):=by
 have hs:(setBlock wa b o).heap.size=wa.heap.size:=by simp [setBlock]
 refine⟨hk.os,hk.tape,hk.output,by rw [hs];exact hk.size,fun k hx du=>?_,fun k h=>.inl h,fun k h=>?_⟩
 ·rw [←hk.block k hx];have:b≠k:=fun e=>du (by rw [e]);simp [setBlock,dQ,this]
 ·rw [hs];exact h.elim (fun h=>aG (hX k h) hk.size) (fun h=>by have:=h.2;rwa [hs] at this)
theorem Vt {b:Nat} {o:Obj} {wa:World} (hb:X b):Fr X wa (setBlock wa b o):=by
 refine⟨rfl,rfl,rfl,by simp [setBlock],fun k _ hx=>?_⟩;have:b≠k:=fun e=>hx (e▸hb);simp [setBlock,dQ,this]
theorem Jg {b:Nat} {o:Obj} {wa:World} (hb:b<wa.heap.size):(setBlock wa b o).heap[b]? =some o:=by
 simp [setBlock,dQ,hb]
theorem run_setObj_map {wa:World} {b:Nat} {es:Array MapEntry} {c:Nat} (hb:wa.heap[b]? =some (.map es c)) (o:Obj):(setObj b o).run P wa= .ok () (setBlock wa b o):=by
 simp [setObj,sd,hb,setBlock]
def Cy (k:κ) (v:Value) (c:Nat) (es:List (gA κ)):List (gA κ)×Nat:=
 match es.findIdx? fun x=>decide (x.1=k)with
 |some i=>(es.modify i fun x=>(x.1,v,x.2.2),c)
 |none=>(es++[(k,v,c)],c+1)
theorem zj {β γ:Type} (g:β→γ) (f:β→β) (hf: ∀x,g (f x)=g x): ∀(l:List β) (i:Nat),(l.modify i f).map g=l.map g
 |[],i=>by simp
 |x::r,0=>by simp [hf]
 |x::r,i+1=>by simp [zj g f hf r i]
theorem mem_modify {β:Type} {f:β→β} : ∀{l:List β} {i:Nat} {y:β},y∈l.modify i f→ ∃x∈l,y=x∨y=f x
 |[],i,y,h=>by simp at h
 |x::r,0,y,h=>by
  simp only [List.modify_zero_cons,List.mem_cons] at h;rcases h with h|h
  ·exact⟨x,by simp,.inr h⟩
  ·exact⟨y,by simp [h],.inl rfl⟩
 |x::r,i+1,y,h=>by
  simp only [List.modify_succ_cons,List.mem_cons] at h;rcases h with h|h
  ·exact⟨x,by simp,.inl h⟩
  ·obtain⟨z,hz,he⟩:=mem_modify h;exact⟨z,by simp [hz],he⟩
theorem ace {t kt et b c:Nat} {kv:κ→Value} {es:List (gA κ)} {k:κ} {v:Value} {N:Value→World→XS→Prop} (h:jO w X b kv es c) (K:sR P kt kv)
  (ht:P.underlying t=some (.map kt et)) (hX: ∀k,X k→k<w.heap.size)
  (n: ∀w' X',Grown X w X' w' (some b)→jO w' X' b kv (Cy k v c es).1 (Cy k v c es).2→N undef w' X'):
  eU P R X w true (aO t (.map (some b)) (kv k) v) N:=by
 intro wa hk;have hM:=h.kp hk;have hb:=hM.2.1;have dy:b<wa.heap.size:=(Array.getElem?_eq_some_iff.1 hb).1;unfold iE;have hr:(aO t (.map (some b)) (kv k) v).run P wa= .ok () (setBlock wa b (.map ((Cy k v c es).1.map (jh kv)).toArray (Cy k v c es).2)):=by
  simp only [aO,bG,run_underlying ht,aZ,getObj,sd,hb,K.aC,de,K.find,Nt];unfold Cy;cases hf:es.findIdx? fun x=>decide (x.1=k)with
  |none=>simp [run_setObj_map hb,jh]
  |some j=>
   have hj:=List.findIdx?_eq_some_iff_getElem.1 hf;obtain⟨BY,hjk,_⟩:=hj;have ah7:es[j].1=k:=by simpa using hjk
   simp only [cU,bE BY,bq,eZ,bG];have ed:(vf (((es.map (jh kv)).toArray[j]?).map (·.key)|>.getD (kv k)) (kv k)).run P wa= .ok (kv k) wa:=by
    simp [vf,BY,jh,ah7,K.same]
   rw [ed];simp only [aZ,run_setObj_map hb]
   congr 3
   rw [List.modify_toArray]
   congr 1
   apply List.ext_getElem?;intro q;simp only [List.getElem?_modify,dO];by_cases hq:j=q
   ·subst hq;simp [bE BY,jh,ah7]
   ·simp [hq]
 simp only [uS,bG,hr,aZ,bY];refine⟨Vt hM.1,n _ _ (JG hX hk) ⟨.inl h.1,Jg dy,?_,?_,?_⟩⟩
 ·unfold Cy;cases hf:es.findIdx? fun x=>decide (x.1=k)with
  |none=>
   simp only [bC,bV,List.map_nil];rw [wR];refine⟨h.2.2.1,by simp,fun a ha y hy=>?_⟩;simp only [bw] at hy;subst hy;rintro rfl;obtain⟨x,hx,rfl⟩:=List.mem_map.1 ha;have:=List.findIdx?_eq_none_iff.1 hf x hx;simp at this
  |some j=>simp only;rw [zj (fun x:gA κ=>x.1) (fun x=>(x.1,v,x.2.2)) (fun _=>rfl)];exact h.2.2.1
 ·unfold Cy;cases hf:es.findIdx? fun x=>decide (x.1=k)with
  |none=>
   simp only [bC,bV,List.map_nil];rw [wR];refine⟨h.2.2.2.1,by simp,fun a ha y hy=>?_⟩;simp only [bw] at hy;subst hy;rintro rfl;obtain⟨x,hx,he⟩:=List.mem_map.1 ha;have:=h.2.2.2.2 x hx;omega
  |some j=>simp only;rw [zj (fun x:gA κ=>x.2.2) (fun x=>(x.1,v,x.2.2)) (fun _=>rfl)];exact h.2.2.2.1
 ·unfold Cy;cases hf:es.findIdx? fun x=>decide (x.1=k)with
  |none=>
   intro x hx;rcases List.mem_append.1 hx with hx|hx
   ·have:=h.2.2.2.2 x hx;show x.2.2<c+1;omega
   ·simp only [bw] at hx;subst hx;exact Nat.lt_succ_self c
  |some j=>
   intro x hx;obtain⟨y,hy,rfl|rfl⟩:=mem_modify hx
   ·exact h.2.2.2.2 _ hy
   ·exact h.2.2.2.2 y hy
def Nu (k:κ) (es:List (gA κ)):List (gA κ):=match es.findIdx? fun x=>decide (x.1=k)with
 |some i=>es.eraseIdx i
 |none=>es
theorem acf {t kt et tk ty b c:Nat} {kv:κ→Value} {es:List (gA κ)} {k:κ} {N:Value→World→XS→Prop} (h:jO w X b kv es c) (K:sR P kt kv)
  (ht:P.underlying t=some (.map kt et)) (hX: ∀k,X k→k<w.heap.size)
  (n: ∀w' X',Grown X w X' w' (some b)→jO w' X' b kv (Nu k es) c→N (.tuple #[]) w' X'):
  eV P R X w true (sC #[t,tk] ty #[.map (some b),kv k]) N:=by
 intro wa hk;have hM:=h.kp hk;have hb:=hM.2.1;have dy:b<wa.heap.size:=(Array.getElem?_eq_some_iff.1 hb).1;unfold iE;have nQ:(Nu k es).Sublist es:=by
  unfold Nu;split
  ·exact List.eraseIdx_sublist _ _
  ·exact List.Sublist.refl _
 have hr:(sC #[t,tk] ty #[.map (some b),kv k]).run P wa= .ok (.tuple #[]) (setBlock wa b (.map ((Nu k es).map (jh kv)).toArray c)):=by
  have e0:(#[t,tk]:Array TypeId)[0]? =some t:=rfl;have e1:(#[Value.map (some b),kv k]:Array Value)[0]? =some (.map (some b)):=rfl;have e2:(#[Value.map (some b),kv k]:Array Value)[1]? =some (kv k):=rfl;simp only [sC,e0,e1,e2,bG,run_underlying ht,aZ,getObj,sd,hb,K.aC,de,K.find,Nt];unfold Nu;cases hf:es.findIdx? fun x=>decide (x.1=k)with
  |none=>simp [run_setObj_map hb]
  |some j=>
   obtain⟨BY,_,_⟩:=List.findIdx?_eq_some_iff_getElem.1 hf;simp only [cU,bE BY,bq,eZ,run_setObj_map hb,aZ,bY];simp [Array.eraseIdxIfInBounds,BY,Go.ChangeMaps.map_eraseIdx,run_setObj_map hb]
 simp only [vS,bG,hr,aZ,bY];exact⟨Vt hM.1,n _ _ (JG hX hk) ⟨.inl h.1,Jg dy,h.2.2.1.sublist (nQ.map _),h.2.2.2.1.sublist (nQ.map _),fun x hx=>h.2.2.2.2 x (nQ.subset hx)⟩⟩
def xU (w:World) (X:XS) (r b:Nat) (kv:κ→Value) (es:List (gA κ)) (c:Nat) (left:List (gA κ)):Prop:=
 jO w X b kv es c∧X r∧r≠b∧ ∃seen:Array Nat,w.heap[r]? =some (.mapIter (some b) c seen c)∧left=es.filter (fun x=>!seen.contains x.2.2)
theorem xU.kp {r b:Nat} {kv:κ→Value} {es left:List (gA κ)} {c:Nat} {w':World} (h:xU w X r b kv es c left) (hk:Kp X w w'):xU w' X r b kv es c left:=
 ⟨h.1.kp hk,h.2.1,h.2.2.1,let⟨s,hs,hl⟩:=h.2.2.2;⟨s,by rw [hk.block r h.2.1];exact hs,hl⟩⟩
theorem xU.mono {r b:Nat} {kv:κ→Value} {es left:List (gA κ)} {c:Nat} {Y:XS} (h:xU w X r b kv es c left) (hs: ∀k,X k→Y k):xU w Y r b kv es c left:=
 ⟨h.1.mono hs,hs _ h.2.1,h.2.2⟩
theorem xU.since {r b:Nat} {kv:κ→Value} {es left:List (gA κ)} {c:Nat} {Y:XS} {w':World} (h:xU w X r b kv es c left) (hs:aj X w Y w'):xU w' Y r b kv es c left:=
 (h.kp hs.kp).mono hs.sub
theorem aeC {t kt et b c:Nat} {kv:κ→Value} {es:List (gA κ)} {N:Value→World→XS→Prop} (h:jO w X b kv es c) (ht:P.underlying t=some (.map kt et))
  (hX: ∀k,X k→k<w.heap.size) (n: ∀r w' X',w.heap.size≤r→aj X w X' w'→xU w' X' r b kv es c es→N (ptr r 0) w' X'):
  eV P R X w m (xR t (.map (some b))) N:=by
 intro wa hk;have hM:=h.kp hk;have hb:=hM.2.1;have dy:b<wa.heap.size:=(Array.getElem?_eq_some_iff.1 hb).1;unfold iE;have hr:(xR t (.map (some b))).run P wa= .ok (ptr wa.heap.size 0) (wa.alloc (.mapIter (some b) c #[] c)):=by
  simp [xR,run_underlying ht,getObj,sd,hb]
 simp only [vS,bG,hr,aZ,bY];have hx:Ext wa (wa.alloc (.mapIter (some b) c #[] c)):=Ext.alloc _ _;have hs:=aj.eE hX hk hx;exact⟨Step.eE hx,n _ _ _ hk.size hs ⟨h.since hs,.inr ⟨ba _,by simp⟩,by omega,#[],heap_alloc_new wa _,(List.filter_eq_self.2 (by simp)).symm⟩⟩
theorem ago {ty r b c:Nat} {kv:κ→Value} {es left:List (gA κ)} {N:Value→World→XS→Prop} (h:xU w X r b kv es c left) (hX: ∀k,X k→k<w.heap.size)
  (n0:left=[]→ ∀w' X',aj X w X' w'→N (.tuple #[.bool false]) w' X')
  (n1: ∀x∈left,∀w' X',Grown X w X' w' (some r)→xU w' X' r b kv es c (left.filter fun y=>decide (y.2.2≠x.2.2))→
   (∀wa,Kp X' w' wa→(kX (ptr r 0)).run P wa= .ok (.tuple #[kv x.1,x.2.1]) wa)→N (.tuple #[.bool true,kv x.1,x.2.1]) w' X'):
  eV P R X w true (Instr.next (ptr r 0) false ty) N:=by
 intro wa hk;obtain⟨hM,hXr,hrb,seen,hr,aap⟩:=h.kp hk;have hb:=hM.2.1;have B9:r<wa.heap.size:=(Array.getElem?_eq_some_iff.1 hr).1;unfold iE;have hold: ∀x∈((es.map (jh kv)).toArray).toList,x.born<c:=by
  intro x hx;simp only [de,List.mem_map] at hx;obtain⟨y,hy,rfl⟩:=hx;exact hM.2.2.2.2 y hy
 have fp:(leftOf (es.map (jh kv)).toArray seen).toList=left.map (jh kv):=by
  rw [aap];simp only [leftOf,Array.toList_filter,de,List.filter_map];rfl
 rcases run_next_at (P:=P) wa ty r b c c seen _ c hr hb hold (ba _)with⟨hz,jG⟩|⟨e,he,w1,Dx,jG⟩
 ·simp only [vS,bG,jG,aZ,bY];have h0:left=[]:=by
   have:left.map (jh kv)=[]:=by rw [←fp];exact fC (by simpa using hz)
   simpa using this
  exact⟨Step.eE (Ext.refl _),n0 h0 _ _ (aj.eE hX hk (Ext.refl _))⟩
 ·rw [fp] at he;obtain⟨x,hx,rfl⟩:=List.mem_map.1 he;simp only [vS,bG,jG,aZ,bY];have pj:Kp X w w1:=by
   rcases Dx with rfl|rfl
   ·exact hk
   ·exact⟨hk.os,hk.tape,hk.output,hk.size,hk.block⟩
  have adR:r<w1.heap.size:=by rcases Dx with rfl|rfl<;>exact B9
  have rS:w1.heap[b]? =some (.map (es.map (jh kv)).toArray c):=by rcases Dx with rfl|rfl<;>exact hb
  have alR:Fr X wa w1:=by rcases Dx with rfl|rfl<;>exact⟨rfl,rfl,rfl,ba _,fun _ _ _=>rfl⟩
  have Vu: ∀o,(setBlock w1 r o).heap[b]? =some (.map (es.map (jh kv)).toArray c):=by
   intro o;rw [←rS];simp [setBlock,dQ,hrb]
  have EC:w1.heap.size=wa.heap.size:=by rcases Dx with rfl|rfl<;>rfl
  have ajR:grow X wa (setBlock w1 r (.mapIter (some b) c (seen.push x.2.2) c))=grow X w1 (setBlock w1 r (.mapIter (some b) c (seen.push x.2.2) c)):=by
   unfold grow;rw [EC]
  have hG:=JG (o:=.mapIter (some b) c (seen.push x.2.2) c) (b:=r) hX pj;have Hx:xU (setBlock w1 r (.mapIter (some b) c (seen.push x.2.2) c)) (grow X w1 (setBlock w1 r (.mapIter (some b) c (seen.push x.2.2) c))) r b kv es c (left.filter fun y=>decide (y.2.2≠x.2.2)):=by
   refine⟨⟨.inl hM.1,Vu _,hM.2.2⟩,.inl hXr,hrb,seen.push x.2.2,Jg adR,?_⟩;rw [aap,List.filter_filter]
   congr 1
   funext y
   by_cases hy:y.2.2=x.2.2<;>simp [hy,Array.contains_push,Bool.beq_eq_decide_eq]
  show Fr X wa _∧N _ _ (grow X wa _)
  refine⟨alR.trans (Vt hXr),?_⟩
  show N (.tuple #[.bool true,kv x.1,x.2.1]) (setBlock w1 r (.mapIter (some b) c (seen.push x.2.2) c)) (grow X wa (setBlock w1 r (.mapIter (some b) c (seen.push x.2.2) c)))
  rw [ajR];refine n1 x hx _ _ hG Hx fun wb mM=>?_;have alS:=Hx.kp mM;have hxe:x∈es:=by rw [aap] at hx;exact(List.mem_filter.1 hx).1
  exact run_entry_at (P:=P) wb r b c seen (es.map (jh kv)).toArray c (jh kv x) (by rw [mM.block r (.inl hXr)];exact Jg adR) alS.1.2.1 (by rw [de];exact List.mem_map.2 ⟨x,hxe,rfl⟩)
   (by rw [de,List.map_map];exact hM.2.2.2.1)
theorem aeD {r:Nat} {k v:Value} {N:Value→World→XS→Prop} (hX: ∀k,X k→k<w.heap.size)
  (h: ∀wa,Kp X w wa→(kX (ptr r 0)).run P wa= .ok (.tuple #[k,v]) wa) (n: ∀w' X',aj X w X' w'→N (.tuple #[k,v]) w' X'):
  eV P R X w m (kX (ptr r 0)) N:=by
 intro wa hk;unfold iE;simp only [vS,bG,h wa hk,aZ,bY];exact⟨Step.eE (Ext.refl _),n _ _ (aj.eE hX hk (Ext.refl _))⟩
variable {P : Program} {R : Ending → World → Prop} {X : XS} {w : World} {m : Bool} {N : Value → Prop}
def un (e:Value) (M:Value→Prop):Prop:=M e
def jn {α:Type} (r:α) (B:α→Prop):Prop:=B r
def aS (S f _fo _sz:Nat) (x:Value):Sem Value:=Instr.fieldAt S x f
def ld1 (t:TypeId) (x:Value):Sem Value:=gH t x
def dY (t:TypeId) (_n:Nat) (x:Value):Sem Value:=gH t x
def st1 (t:TypeId) (_n:Nat) (x v:Value):Sem Unit:=Instr.storeAt t x v
def dt (t:TypeId) (_k:Nat) (v i:Value):Sem Value:=Instr.indexAt t v i
def cD (t ty:TypeId) (v:Value):Sem Value:=jZ #[t] ty #[v]
def kK (t ty:TypeId) (v:Value):Sem Value:=jZ #[t] ty #[v]
def dC (t:TypeId) (_cells:Array Value) (parts:Array (Nat×Value)):Sem Value:=Instr.build t parts
def lQ (_k:IntKind) (src dst:TypeId) (x:Value):Sem Value:=convert src dst x
def uJ (src dst:TypeId) (x:Value):Sem Value:=convert src dst x
def sO (t _n _e:Nat) (x i:Value):Sem Value:=xS t x i
def fH (t _e _k len:Nat) (parts:Array (Nat×Value)):Sem Value:=gF t len parts
def e7 (t _e _k _bytes ty:Nat) (v s:Value):Sem Value:=ej #[t,t] ty #[v,s]
def fdV (S f _fo _sz:Nat) (x:Value):Sem Value:=Instr.field S x f
abbrev I (x:Int):Value:=.int .i64 x
abbrev B (x:Bool):Value:=.bool x
def xd (X:XS) (w:World) (F:JT→Nat→World→XS→Prop):Prop:=Sc X w [] [] fun J n _ w X=>F J n w X
def gO (X:XS) (w:World) (v1:Value) (c1:Nat) (F:JT→Nat→Value→World→XS→Prop):Prop:=Sc X w [v1] [c1] fun J n e w X=>F J n (e c1) w X
def gW (X:XS) (w:World) (v1 v2:Value) (c1 c2:Nat) (F:JT→Nat→Value→Value→World→XS→Prop):Prop:=
 Sc X w [v1,v2] [c1,c2] fun J n e w X=>F J n (e c1) (e c2) w X
def ry (X:XS) (w:World) (v1 v2 v3:Value) (c1 c2 c3:Nat) (F:JT→Nat→Value→Value→Value→World→XS→Prop):Prop:=
 Sc X w [v1,v2,v3] [c1,c2,c3] fun J n e w X=>F J n (e c1) (e c2) (e c3) w X
def uK (X:XS) (w:World) (v1 v2 v3 v4:Value) (c1 c2 c3 c4:Nat) (F:JT→Nat→Value→Value→Value→Value→World→XS→Prop):Prop:=
 Sc X w [v1,v2,v3,v4] [c1,c2,c3,c4] fun J n e w X=>F J n (e c1) (e c2) (e c3) (e c4) w X
def sP (X:XS) (w:World) (v1 v2 v3 v4 v5:Value) (c1 c2 c3 c4 c5:Nat) (F:JT→Nat→Value→Value→Value→Value→Value→World→XS→Prop):Prop:=
 Sc X w [v1,v2,v3,v4,v5] [c1,c2,c3,c4,c5] fun J n e w X=>F J n (e c1) (e c2) (e c3) (e c4) (e c5) w X
def xe (X:XS) (w:World) (v1 v2 v3 v4 v5 v6:Value) (c1 c2 c3 c4 c5 c6:Nat) (F:JT→Nat→Value→Value→Value→Value→Value→Value→World→XS→Prop):Prop:=
 Sc X w [v1,v2,v3,v4,v5,v6] [c1,c2,c3,c4,c5,c6] fun J n e w X=>F J n (e c1) (e c2) (e c3) (e c4) (e c5) (e c6) w X
def xf (X:XS) (w:World) (v1 v2 v3 v4 v5 v6 v7:Value) (c1 c2 c3 c4 c5 c6 c7:Nat) (F:JT→Nat→Value→Value→Value→Value→Value→Value→Value→World→XS→Prop):Prop:=
 Sc X w [v1,v2,v3,v4,v5,v6,v7] [c1,c2,c3,c4,c5,c6,c7] fun J n e w X=>F J n (e c1) (e c2) (e c3) (e c4) (e c5) (e c6) (e c7) w X
def xg (J:JT) (n:Nat) (w:World) (X:XS):Prop:=DE J n [] w X
def gB (J:JT) (n:Nat) (a:Value) (w:World) (X:XS):Prop:=DE J n [a] w X
def gR (J:JT) (n:Nat) (a b:Value) (w:World) (X:XS):Prop:=DE J n [a,b] w X
def rz (J:JT) (n:Nat) (a b c:Value) (w:World) (X:XS):Prop:=DE J n [a,b,c] w X
def uL (J:JT) (n:Nat) (a b c d:Value) (w:World) (X:XS):Prop:=DE J n [a,b,c,d] w X
def sQ (J:JT) (n:Nat) (a b c d f:Value) (w:World) (X:XS):Prop:=DE J n [a,b,c,d,f] w X
def xh (J:JT) (n:Nat) (a b c d f g:Value) (w:World) (X:XS):Prop:=DE J n [a,b,c,d,f,g] w X
def xi (J:JT) (n:Nat) (a b c d f g h:Value) (w:World) (X:XS):Prop:=DE J n [a,b,c,d,f,g,h] w X
def J1 (I:Nat→Value→World→XS→Prop):JT:=fun n vs w X=>match vs with
 |[a]=>I n a w X
 |_=>False
def J2 (I:Nat→Value→Value→World→XS→Prop):JT:=fun n vs w X=>match vs with
 |[a,b]=>I n a b w X
 |_=>False
def J3 (I:Nat→Value→Value→Value→World→XS→Prop):JT:=fun n vs w X=>match vs with
 |[a,b,c]=>I n a b c w X
 |_=>False
def J4 (I:Nat→Value→Value→Value→Value→World→XS→Prop):JT:=fun n vs w X=>match vs with
 |[a,b,c,d]=>I n a b c d w X
 |_=>False
def J5 (I:Nat→Value→Value→Value→Value→Value→World→XS→Prop):JT:=fun n vs w X=>match vs with
 |[a,b,c,d,f]=>I n a b c d f w X
 |_=>False
theorem fR {v1 c1 F} (I:Nat→Value→World→XS→Prop) (n:Nat) (h0:I n v1 w X)
  (h: ∀n a w' X',I n a w' X'→F (J1 I) n a w' X'):gO X w v1 c1 F:=⟨J1 I,⟨n,h0⟩,fun n e w' X' _ hj=>h n (e c1) w' X' hj⟩
theorem fN {v1 v2 c1 c2 F} (I:Nat→Value→Value→World→XS→Prop) (n:Nat) (h0:I n v1 v2 w X)
  (h: ∀n a b w' X',I n a b w' X'→F (J2 I) n a b w' X'):gW X w v1 v2 c1 c2 F:=⟨J2 I,⟨n,h0⟩,fun n e w' X' _ hj=>h n (e c1) (e c2) w' X' hj⟩
theorem B2 {v1 v2 v3 c1 c2 c3 F} (I:Nat→Value→Value→Value→World→XS→Prop) (n:Nat) (h0:I n v1 v2 v3 w X)
  (h: ∀n a b c w' X',I n a b c w' X'→F (J3 I) n a b c w' X'):ry X w v1 v2 v3 c1 c2 c3 F:=⟨J3 I,⟨n,h0⟩,fun n e w' X' _ hj=>h n (e c1) (e c2) (e c3) w' X' hj⟩
theorem ahr {v1 v2 v3 v4 c1 c2 c3 c4 F} (I:Nat→Value→Value→Value→Value→World→XS→Prop) (n:Nat) (h0:I n v1 v2 v3 v4 w X)
  (h: ∀n a b c d w' X',I n a b c d w' X'→F (J4 I) n a b c d w' X'):uK X w v1 v2 v3 v4 c1 c2 c3 c4 F:=
 ⟨J4 I,⟨n,h0⟩,fun n e w' X' _ hj=>h n (e c1) (e c2) (e c3) (e c4) w' X' hj⟩
theorem Of {v1 v2 v3 v4 v5 c1 c2 c3 c4 c5 F} (I:Nat→Value→Value→Value→Value→Value→World→XS→Prop) (n:Nat) (h0:I n v1 v2 v3 v4 v5 w X)
  (h: ∀n a b c d f w' X',I n a b c d f w' X'→F (J5 I) n a b c d f w' X'):sP X w v1 v2 v3 v4 v5 c1 c2 c3 c4 c5 F:=
 ⟨J5 I,⟨n,h0⟩,fun n e w' X' _ hj=>h n (e c1) (e c2) (e c3) (e c4) (e c5) w' X' hj⟩
theorem fh {I n a} (k:Nat) (hk:k<n) (h:I k a w X):gB (J1 I) n a w X:=⟨k,hk,h⟩
theorem fJ {I n a b} (k:Nat) (hk:k<n) (h:I k a b w X):gR (J2 I) n a b w X:=⟨k,hk,h⟩
theorem B3 {I n a b c} (k:Nat) (hk:k<n) (h:I k a b c w X):rz (J3 I) n a b c w X:=⟨k,hk,h⟩
theorem ahs {I n a b c d} (k:Nat) (hk:k<n) (h:I k a b c d w X):uL (J4 I) n a b c d w X:=⟨k,hk,h⟩
theorem Ud {I n a b c d f} (k:Nat) (hk:k<n) (h:I k a b c d f w X):sQ (J5 I) n a b c d f w X:=⟨k,hk,h⟩
theorem dx {α:Type} {r:α} {F:α→Prop} (h:F r):jn r F:=h
theorem mm {α:Type} {r:α} {F:α→Prop} (Q:α→Prop) (h:Q r) (k: ∀c,Q c→F c):jn r F:=k r h
theorem agp {l:List Value} {i:Nat} {a:Value} {M:Value→Prop} (h:l[i]? =some a) (k:M a):un (cellOf (.agg l.toArray) i) M:=by
 have:cellOf (.agg l.toArray) i=a:=by simp [cellOf,aa,jP,h]
 unfold un;rw [this];exact k
theorem acg {l:List Value} {o n:Nat} {M:Value→Prop} (k:M (.agg ((l.drop o).take n).toArray)):un (cq (.agg l.toArray) o n) M:=by
 have:cq (.agg l.toArray) o n= .agg ((l.drop o).take n).toArray:=by simp [cq,aa]
 unfold un;rw [this];exact k
theorem ach {c:Array Value} {M:Value→Prop} (k:M (.agg c)):un (.agg (aa (.agg c))) M:=k
theorem agq {v:Value} {M:Value→Prop} (k:M v):un (aU (.bool true) true v) M:=k
theorem agr {v:Value} {M:Value→Prop} (k:M v):un (aU (.bool false) false v) M:=k
theorem aeE {v:Value} {M:Value→Prop} (k:M undef):un (aU (.bool true) false v) M:=k
theorem aeF {v:Value} {M:Value→Prop} (k:M undef):un (aU (.bool false) true v) M:=k
theorem ags {v:Value} {q:Bool} {M:Value→Prop} (k:M undef):un (aU undef q v) M:=by
 have:aU undef q v=undef:=by cases q<;>rfl
 unfold un;rw [this];exact k
theorem aaq {b:Bool} {A:Prop} (h:b=true) (k:A):aC b A:=by subst h;exact k
theorem agt {A C:Prop} (h:A):az (.bool true) A C:=⟨fun _=>h,fun h=>absurd h (by simp)⟩
theorem agu {A C:Prop} (h:C):az (.bool false) A C:=⟨fun h=>absurd h (by simp),fun _=>h⟩
theorem ah8 {s:Sem Next} {want:Bool} (h:N undef):aK P X w undef want s N:=by
 have e:lN undef want=false:=by cases want<;>rfl
 unfold aK;exact⟨undef,fun hf=>absurd (e.symm.trans hf) (by simp),fun _=>rfl,h⟩
theorem aeG {s:Sem Value} (h:ae P X w s N):aK P X w (.bool true) true (vS s) N:=KS h
theorem aeH {s:Sem Value} (h:ae P X w s N):aK P X w (.bool false) false (vS s) N:=KS h
section
variable {t : TypeId} {k : IntKind} {a b : Int} {xo yo : Operand}
theorem aar (hT:a<b→N (.bool true)) (hF: ¬a<b→N (.bool false)):ae P X w (binOp .lss t (.int k a) (.int k b)) N:=
 agb (by by_cases h:a<b;(· rw [decide_eq_true h];exact hT h);(· rw [decide_eq_false h];exact hF h))
theorem aas (hT:a≤b→N (.bool true)) (hF: ¬a≤b→N (.bool false)):ae P X w (binOp .leq t (.int k a) (.int k b)) N:=
 agc (by by_cases h:a≤b;(· rw [decide_eq_true h];exact hT h);(· rw [decide_eq_false h];exact hF h))
theorem aat (hT:a>b→N (.bool true)) (hF: ¬a>b→N (.bool false)):ae P X w (binOp .gtr t (.int k a) (.int k b)) N:=
 agd (by by_cases h:a>b;(· rw [decide_eq_true h];exact hT h);(· rw [decide_eq_false h];exact hF h))
theorem aau (hT:a≥b→N (.bool true)) (hF: ¬a≥b→N (.bool false)):ae P X w (binOp .geq t (.int k a) (.int k b)) N:=
 agf (by by_cases h:a≥b;(· rw [decide_eq_true h];exact hT h);(· rw [decide_eq_false h];exact hF h))
theorem aav (hT:a=b→N (.bool true)) (hF: ¬a=b→N (.bool false)):ae P X w (aD .eql t xo yo (.int k a) (.int k b)) N:=
 agj (by by_cases h:a=b;(· rw [decide_eq_true h];exact hT h);(· rw [decide_eq_false h];exact hF h))
theorem aaw (hT: ¬a=b→N (.bool true)) (hF:a=b→N (.bool false)):ae P X w (aD .neq t xo yo (.int k a) (.int k b)) N:=
 agk (by by_cases h:a=b;(· rw [decide_eq_false (fun hn=>hn h)];exact hF h);(· rw [decide_eq_true h];exact hT h))
theorem ah9 (h:a<b) (k':N (.bool true)):ae P X w (binOp .lss t (.int k a) (.int k b)) N:=aar (fun _=>k') (fun hn=>absurd h hn)
theorem aia (h: ¬a<b) (k':N (.bool false)):ae P X w (binOp .lss t (.int k a) (.int k b)) N:=aar (fun hn=>absurd hn h) (fun _=>k')
theorem aib (h:a≤b) (k':N (.bool true)):ae P X w (binOp .leq t (.int k a) (.int k b)) N:=aas (fun _=>k') (fun hn=>absurd h hn)
theorem aic (h: ¬a≤b) (k':N (.bool false)):ae P X w (binOp .leq t (.int k a) (.int k b)) N:=aas (fun hn=>absurd hn h) (fun _=>k')
theorem aid (h:a>b) (k':N (.bool true)):ae P X w (binOp .gtr t (.int k a) (.int k b)) N:=aat (fun _=>k') (fun hn=>absurd h hn)
theorem aie (h: ¬a>b) (k':N (.bool false)):ae P X w (binOp .gtr t (.int k a) (.int k b)) N:=aat (fun hn=>absurd hn h) (fun _=>k')
theorem aif (h:a≥b) (k':N (.bool true)):ae P X w (binOp .geq t (.int k a) (.int k b)) N:=aau (fun _=>k') (fun hn=>absurd h hn)
theorem aih (h: ¬a≥b) (k':N (.bool false)):ae P X w (binOp .geq t (.int k a) (.int k b)) N:=aau (fun hn=>absurd hn h) (fun _=>k')
theorem aii (h:a=b) (k':N (.bool true)):ae P X w (aD .eql t xo yo (.int k a) (.int k b)) N:=aav (fun _=>k') (fun hn=>absurd h hn)
theorem aij (h: ¬a=b) (k':N (.bool false)):ae P X w (aD .eql t xo yo (.int k a) (.int k b)) N:=aav (fun hn=>absurd hn h) (fun _=>k')
theorem aik (h: ¬a=b) (k':N (.bool true)):ae P X w (aD .neq t xo yo (.int k a) (.int k b)) N:=aaw (fun _=>k') (fun hn=>absurd hn h)
theorem ail (h:a=b) (k':N (.bool false)):ae P X w (aD .neq t xo yo (.int k a) (.int k b)) N:=aaw (fun hn=>absurd h hn) (fun _=>k')
theorem Tt (h1: -(2^63)≤a+b) (h2:a+b<2^63) (h:N (.int .i64 (a+b))):ae P X w (binOp .add t (.int .i64 a) (.int .i64 b)) N:=
 lA (by rw [wrap_i64 h1 h2];exact h)
theorem ajS (h1: -(2^63)≤a-b) (h2:a-b<2^63) (h:N (.int .i64 (a-b))):ae P X w (binOp .sub t (.int .i64 a) (.int .i64 b)) N:=
 agh (by rw [wrap_i64 h1 h2];exact h)
end
theorem Gy {a b:ByteArray} :a.toList=b.toList↔a=b:=by
 constructor
 ·intro h;rw [lO,lO] at h;obtain⟨⟨x⟩⟩:=a;obtain⟨⟨y⟩⟩:=b;simpa using h
 ·intro h;rw [h]
def uP (a b:ByteArray):Bool:=im a.toList b.toList
section
variable {t : TypeId} {a b : ByteArray} {xo yo : Operand}
theorem aim (hT:a=b→N (.bool true)) (hF: ¬a=b→N (.bool false)):ae P X w (aD .eql t xo yo (.string a) (.string b)) N:=
 aeh (by simp only [Gy];by_cases h:a=b;(· rw [decide_eq_true h];exact hT h);(· rw [decide_eq_false h];exact hF h))
theorem ain (hT: ¬a=b→N (.bool true)) (hF:a=b→N (.bool false)):ae P X w (aD .neq t xo yo (.string a) (.string b)) N:=
 aei (by simp only [ne_eq,Gy];by_cases h:a=b;(· rw [decide_eq_false (fun hn=>hn h)];exact hF h);(· rw [decide_eq_true h];exact hT h))
theorem aio (hT:uP a b=true→N (.bool true)) (hF:uP a b=false→N (.bool false)):ae P X w (binOp .lss t (.string a) (.string b)) N:=
 aej (by unfold uP at hT hF;cases h:im a.toList b.toList;(· exact hF h);(· exact hT h))
theorem aip (hT:uP a b=false→N (.bool true)) (hF:uP a b=true→N (.bool false)):ae P X w (binOp .geq t (.string a) (.string b)) N:=
 aek (by unfold uP at hT hF;cases h:im a.toList b.toList;(· exact hT h);(· exact hF h))
theorem aiq (hT:uP a b=true∨a=b→N (.bool true)) (hF:uP a b=false→ ¬a=b→N (.bool false)):ae P X w (binOp .leq t (.string a) (.string b)) N:=
 ael (by
  unfold uP at hT hF;simp only [Gy];cases h:im a.toList b.toList
  ·by_cases h2:a=b
   ·simp only [h2,decide_true,Bool.or_true];exact hT (.inr h2)
   ·simp only [h2,decide_false,Bool.or_false];exact hF h h2
  ·simp only [Bool.true_or];exact hT (.inl h))
theorem air (hT:uP a b=false→ ¬a=b→N (.bool true)) (hF:uP a b=true∨a=b→N (.bool false)):ae P X w (binOp .gtr t (.string a) (.string b)) N:=
 aem (by
  unfold uP at hT hF;simp only [Gy];cases h:im a.toList b.toList
  ·by_cases h2:a=b
   ·simp only [h2,decide_true,Bool.or_true,Bool.not_true];exact hF (.inr h2)
   ·simp only [h2,decide_false,Bool.or_false,Bool.not_false];exact hT h h2
  ·simp only [Bool.true_or,Bool.not_true];exact hF (.inl h))
end
def j9 (a b:Nat):Bool:=FloatKind.f64.format.order a b==some .lt
def jI (a b:Nat):Bool:=FloatKind.f64.format.order a b==some .eq
def BZ (a b:Nat):Bool:=FloatKind.f64.format.order a b==some .gt
section
variable {t : TypeId} {a b : Nat} {xo yo : Operand}
theorem ais (hT:j9 a b=true→N (.bool true)) (hF:j9 a b=false→N (.bool false)):ae P X w (binOp .lss t (.float .f64 a) (.float .f64 b)) N:=
 aen (by unfold j9 at hT hF;cases h:(FloatKind.f64.format.order a b==some .lt);(· exact hF h);(· exact hT h))
theorem ait (hT:BZ a b=true→N (.bool true)) (hF:BZ a b=false→N (.bool false)):ae P X w (binOp .gtr t (.float .f64 a) (.float .f64 b)) N:=
 aep (by unfold BZ at hT hF;cases h:(FloatKind.f64.format.order a b==some .gt);(· exact hF h);(· exact hT h))
theorem aiu (hT:j9 a b=true∨jI a b=true→N (.bool true)) (hF:j9 a b=false→jI a b=false→N (.bool false)):ae P X w (binOp .leq t (.float .f64 a) (.float .f64 b)) N:=
 aeo (by
  unfold j9 jI at hT hF;cases h:(FloatKind.f64.format.order a b==some .lt)
  ·cases h2:(FloatKind.f64.format.order a b==some .eq)
   ·exact hF h h2
   ·exact hT (.inr h2)
  ·exact hT (.inl h))
theorem aiv (hT:BZ a b=true∨jI a b=true→N (.bool true)) (hF:BZ a b=false→jI a b=false→N (.bool false)):ae P X w (binOp .geq t (.float .f64 a) (.float .f64 b)) N:=
 aeq (by
  unfold BZ jI at hT hF;cases h:(FloatKind.f64.format.order a b==some .gt)
  ·cases h2:(FloatKind.f64.format.order a b==some .eq)
   ·exact hF h h2
   ·exact hT (.inr h2)
  ·exact hT (.inl h))
theorem aiw (hT:jI a b=true→N (.bool true)) (hF:jI a b=false→N (.bool false)):ae P X w (aD .eql t xo yo (.float .f64 a) (.float .f64 b)) N:=
 aer (by unfold jI at hT hF;cases h:(FloatKind.f64.format.order a b==some .eq);(· exact hF h);(· exact hT h))
theorem aix (hT:jI a b=false→N (.bool true)) (hF:jI a b=true→N (.bool false)):ae P X w (aD .neq t xo yo (.float .f64 a) (.float .f64 b)) N:=
 aes (by
  unfold jI at hT hF
  show N (.bool (!(FloatKind.f64.format.order a b==some .eq)))
  cases h:(FloatKind.f64.format.order a b==some .eq)
  ·exact hT h
  ·exact hF h)
end
theorem aiy (h:N (.bool false)):ae P X w (aY .not (.bool true)) N:=YP h
theorem aiz (h:N (.bool true)):ae P X w (aY .not (.bool false)) N:=YP h
section
variable {t : TypeId} {xo yo : Operand} {a b c a' b' c' : Int}
theorem Vg (h:ij P t 3=true) (hT:a=a'→b=b'→c=c'→N (.bool true)) (hF: ¬(a=a'∧b=b'∧c=c')→N (.bool false)):
  ae P X w (aD .eql t xo yo (.agg #[.int .i64 a,.int .i64 b,.int .i64 c]) (.agg #[.int .i64 a',.int .i64 b',.int .i64 c'])) N:=
 aey h (by by_cases hc:a=a'∧b=b'∧c=c';(· rw [decide_eq_true hc];exact hT hc.1 hc.2.1 hc.2.2);(· rw [decide_eq_false hc];exact hF hc))
theorem aiA (h:ij P t 3=true) (hT: ¬(a=a'∧b=b'∧c=c')→N (.bool true)) (hF:a=a'→b=b'→c=c'→N (.bool false)):
  ae P X w (aD .neq t xo yo (.agg #[.int .i64 a,.int .i64 b,.int .i64 c]) (.agg #[.int .i64 a',.int .i64 b',.int .i64 c'])) N:=
 aez h (by by_cases hc:a=a'∧b=b'∧c=c';(· rw [decide_eq_true hc];exact hF hc.1 hc.2.1 hc.2.2);(· rw [decide_eq_false hc];exact hT hc))
end
theorem ajT {t:TypeId} {b o:Nat} {v:Value} {l:List Value} (h:Cells w X b o l) (hi:iV P t=some (false,1)) (hl:l[0]? =some v) (k:N v):
  ae P X w (ld1 t (ptr b o)) N:=by
 cases l with
 |nil=>cases hl
 |cons x r=>
  simp only [ig,ay] at hl;subst hl;exact ab9 h hi k
theorem ajU {t ty:TypeId} {s:ByteArray} (ht:P.underlying t=some .string) (k:N (.int .i64 s.size)):ae P X w (kK t ty (.string s)) N:=aev ht k
theorem aax {t:TypeId} {parts:Array (Nat×Value)} {cells:Array Value} (h:P.built t parts.toList=some cells) (k:N (.agg cells)):
  ae P X w (dC t cells parts) N:=acb cells h k
theorem Ty {a:Addr} (h:N (.pointer (some a))):aB P X w (aE (.pointer (some a))) N:=agn h
theorem dJ {f:FuncId} {args:Array Value} {b:Bool} {N:Value→World→XS→Prop}
  (h:Pure P f args (.bool b)) (hf:enters P f=true) (hX: ∀k,X k→k<w.heap.size)
  (hT:b=true→ ∀w' X',aj X w X' w'→N (.bool true) w' X') (hF:b=false→ ∀w' X',aj X w X' w'→N (.bool false) w' X'):
  eC P R X w m f args N:=YQ hf hX h (by
  cases b
  ·exact hF rfl
  ·exact hT rfl)
theorem ee {f:FuncId} {args:Array Value} {v:Value} {N:Value→World→XS→Prop}
  (h:Pure P f args v) (hf:enters P f=true) (hX: ∀k,X k→k<w.heap.size)
  (k: ∀w' X',aj X w X' w'→N v w' X'):eC P R X w m f args N:=YQ hf hX h k
structure ez (F X:XS) (w:World) (X':XS) (w':World):Prop where
 os:w'.os=w.os
 tape:w'.tape=w.tape
 output:w'.output=w.output
 size:w.heap.size≤w'.heap.size
 block: ∀k,X k→ ¬F k→w'.heap[k]? =w.heap[k]?
 sub: ∀k,X k→X' k
 has: ∀k,X' k→k<w'.heap.size
theorem ez.since {F Y X':XS} {w':World} (c:ez F X w X' w') (hY: ∀k,Y k→X k∧ ¬F k):aj Y w X' w':=
 ⟨⟨c.os,c.tape,c.output,c.size,fun k hk=>c.block k (hY k hk).1 (hY k hk).2⟩,fun k hk=>c.sub k (hY k hk).1,c.has⟩
theorem aj.fM {F X0 X':XS} {w0 w':World} (h:aj X0 w0 X w) (c:ez F X w X' w') (hd: ∀k,X0 k→ ¬F k):aj X0 w0 X' w':=
 ⟨⟨c.os.trans h.kp.os,c.tape.trans h.kp.tape,c.output.trans h.kp.output,ah h.kp.size c.size,
  fun k hk=>(c.block k (h.sub k hk) (hd k hk)).trans (h.kp.block k hk)⟩,fun k hk=>c.sub k (h.sub k hk),c.has⟩
theorem ez.aay {F:XS} {wa w':World} (hX: ∀k,X k→k<w.heap.size) (hk:Kp X w wa) (hf:Fr F wa w'):ez F X w (grow X wa w') w':=
 ⟨hf.os.trans hk.os,hf.tape.trans hk.tape,hf.output.trans hk.output,ah hk.size hf.size,
  fun k hx hn=>(hf.block k (aG (hX k hx) hk.size) hn).trans (hk.block k hx),fun _ h=>.inl h,
  fun k h=>h.elim (fun h=>aG (hX k h) (ah hk.size hf.size)) (fun h=>h.2)⟩
theorem ez.rL {X':XS} {w':World} (h:aj X w X' w') (F:XS):ez F X w X' w':=
 ⟨h.kp.os,h.kp.tape,h.kp.output,h.kp.size,fun k hk _=>h.kp.block k hk,h.sub,h.has⟩
theorem Grown.fM {X':XS} {w':World} {row:Option Nat} (g:Grown X w X' w' row):ez (fun k=>some k=row) X w X' w':=
 ⟨g.os,g.tape,g.output,g.size,fun k hk hn=>g.block k hk hn,g.sub,g.has⟩
theorem ez.trans {F X' sJ:XS} {w' je:World} (a:ez F X w X' w') (b:ez F X' w' sJ je):ez F X w sJ je:=
 ⟨b.os.trans a.os,b.tape.trans a.tape,b.output.trans a.output,ah a.size b.size,
  fun k hk hn=>(b.block k (a.sub k hk) hn).trans (a.block k hk hn),fun k hk=>b.sub k (a.sub k hk),b.has⟩
theorem ez.mono {F G X':XS} {w':World} (a:ez F X w X' w') (h: ∀k,X k→F k→G k):ez G X w X' w':=
 ⟨a.os,a.tape,a.output,a.size,fun k hk hn=>a.block k hk fun hf=>hn (h k hk hf),a.sub,a.has⟩
def made (w w':World):XS:=fun g=>w.heap.size≤g∧g<w'.heap.size
def out (F:XS) (w:World):XS:=fun k=>k<w.heap.size∧ ¬F k
def xt (F:XS) (w0:World) (Q:Value→World→Prop):Ending→World→Prop:=fun e w'=> ∃v,e= .returned v∧Fr F w0 w'∧Q v w'
def Ct (P:Program) (f:FuncId) (args:Array Value) (w:World) (X F:XS) (Q:Value→World→World→Prop):Prop:=
 ∀wa,Kp X w wa→Calls P f args wa (xt F wa fun v w'=>Q v wa w')
theorem Ct.mono {f:FuncId} {args:Array Value} {F:XS} {Q Q':Value→World→World→Prop} (h:Ct P f args w X F Q) (k: ∀v wa w',Kp X w wa→Q v wa w'→Q' v wa w'):Ct P f args w X F Q':=
 fun wa hk=>(h wa hk).mono fun _ _ ⟨v,he,hf,hq⟩=>⟨v,he,hf,k v wa _ hk hq⟩
theorem dp {f:FuncId} {args:Array Value} {N:Value→World→XS→Prop} {Q:Value→World→World→Prop}
  (h:Ct P f args w X nX Q) (hf:enters P f=true) (hX: ∀k,X k→k<w.heap.size)
  (k: ∀v wa w' X',Q v wa w'→w.heap.size≤wa.heap.size→(∀k,made wa w' k→X' k)→aj X w X' w'→N v w' X'):eC P R X w m f args N:=
 Vq (Q:=Q) hf hX h fun v wa w' X' hk _ hn hq hs=>k v wa w' X' hq hk.size (fun g hg=>hn g hg.1 hg.2) hs
theorem aeI {f:FuncId} {args:Array Value} {N:Value→World→XS→Prop} {F:XS} {Q:Value→World→World→Prop}
  (h:Ct P f args w X F Q) (hf:enters P f=true) (hX: ∀k,X k→k<w.heap.size) (hF: ∀k,F k→X k)
  (k: ∀v wa w' X',Q v wa w'→w.heap.size≤wa.heap.size→(∀k,made wa w' k→X' k)→Kp X w wa→ez F X w X' w'→N v w' X'):eC P R X w true f args N:=by
 intro wa hk;unfold iE;rw [kJ hf args wa];refine⟨rfl,(h wa hk).mono ?_⟩;rintro e w' ⟨v,rfl,Mi,hq⟩;exact⟨Mi.mono hF,k v wa w' _ hq hk.size (fun g hg=>.inr hg) hk (ez.aay hX hk Mi)⟩
theorem av {w0:World} {v:Value} {Q:Value→World→Prop} (hs:aj (aR w0) w0 X w) (h: ∀wa,Kp X w wa→Q v wa):fin (xt nX w0 Q) X w v:=
 fun _ hk=>⟨v,rfl,hs.ext hk,h _ hk⟩
theorem YS {w0:World} {v:Value} {F:XS} {Q:Value→World→Prop} (hs:aj (out F w0) w0 X w) (h: ∀wa,Kp X w wa→Q v wa):fin (xt F w0 Q) X w v:=
 fun _ hk=>⟨v,rfl,⟨hk.os.trans hs.kp.os,hk.tape.trans hs.kp.tape,hk.output.trans hs.kp.output,ah hs.kp.size hk.size,
  fun k hl hn=>(hk.block k (hs.sub k ⟨hl,hn⟩)).trans (hs.kp.block k ⟨hl,hn⟩)⟩,h _ hk⟩
theorem aj.out (F:XS) (w:World):aj (out F w) w (aR w) w:=⟨Kp.refl _ _,fun _ h=>h.1,fun _ h=>h⟩
theorem Own.up {w' wa:World} {X':XS} {lo e k:Nat} {v:Value} {rows:List (List Value)} (h:Own w' (made wa w') wa.heap.size e k v rows) (fP: ∀k,made wa w' k→X' k) (hl:lo≤wa.heap.size):
  Own w' X' lo e k v rows:=(h.mono fP).low hl
theorem Own.fM {F X':XS} {w':World} {lo e k:Nat} {v:Value} {rows:List (List Value)} (h:Own w X lo e k v rows) (c:ez F X w X' w') (hd: ∀g,v.ownBlock=some g→ ¬F g):Own w' X' lo e k v rows:=by
 obtain⟨h1,h2,h3⟩:=h;refine⟨h1,⟨h2.1,?_⟩,fun g hg=>c.sub g (h3 g hg)⟩;rcases h2.2 with h|⟨g,cap,cur,rfl,hb,hg,hr⟩
 ·exact .inl h
 ·exact .inr ⟨g,cap,cur,rfl,hb,by rw [c.block g (h3 g rfl) (hd g rfl)];exact hg,hr⟩
theorem Sl.sub {k:Nat} {v:Value} {rows:List (List Value)} {Y:XS} (h:Sl w X k v rows) (hs: ∀k,X k→k<w.heap.size→Y k):Sl w Y k v rows:=by
 obtain⟨h1,h2,base,cap,hv,hc,hr⟩:=h;exact⟨h1,h2,base,cap,hv,fun du=>let⟨b,o,hb,jx⟩:=hc du;⟨b,o,hb,hs _ jx.1 jx.lt,jx.2⟩,hr⟩
theorem Sl.len {k:Nat} {v:Value} {rows:List (List Value)} (h:Sl w X k v rows):rows.length≤2^63-1:=h.2.1
theorem Sl.gy {α:Type} {enc:α→List Value} {k:Nat} {v:Value} {xs:List α} (h:Sl w X k v (xs.map enc)):xs.length≤2^63-1:=by have:=h.2.1;simpa using this
theorem Cells.sub {b o:Nat} {l:List Value} {Y:XS} (h:Cells w X b o l) (hs: ∀k,X k→k<w.heap.size→Y k):Cells w Y b o l:=⟨hs _ h.1 h.lt,h.2⟩
theorem Cells.aR {b o:Nat} {l:List Value} (h:Cells w X b o l):Cells w (aR w) b o l:=⟨h.lt,h.2⟩
variable {P : Program} {R : Ending → World → Prop} {X Y Z : XS} {w w' je : World} {m : Bool} {N : Value → Prop} {α : Type}
def Mv (X:XS) (w:World) (Y:XS) (w':World):Prop:= ∀k,X k→k<w.heap.size→Y k∧w'.heap[k]? =w.heap[k]?
theorem Mv.trans (a:Mv X w Y w') (b:Mv Y w' Z je):Mv X w Z je:=fun k hk hl=>by
 obtain⟨h1,h2⟩:=a k hk hl;have IA:k<w'.heap.size:=by
  have:w'.heap[k]? =some w.heap[k]:=by rw [h2];exact Array.getElem?_eq_getElem hl
  exact(Array.getElem?_eq_some_iff.1 this).1
 obtain⟨h3,h4⟩:=b k h1 IA;exact⟨h3,h4.trans h2⟩
theorem aj.mv (h:aj X w Y w'):Mv X w Y w':=fun k hk _=>⟨h.sub k hk,h.kp.block k hk⟩
theorem _root_.Go.aV.Kp.mv (h:Kp X w w'):Mv X w X w':=fun k hk _=>⟨hk,h.block k hk⟩
theorem Mv.aR:Mv X w (aR w) w:=fun _ _ hl=>⟨hl,rfl⟩
theorem _root_.Go.aV.Kp.dD (h:Kp X w w'):Mv X w (aR w') w':=h.mv.trans Mv.aR
theorem Mv.out {F:XS} (h: ∀k,X k→ ¬F k):Mv X w (aV.out F w) w:=fun k hk hl=>⟨⟨hl,h k hk⟩,rfl⟩
theorem Mv.sub (h: ∀k,X k→Y k):Mv X w Y w:=fun k hk _=>⟨h k hk,rfl⟩
theorem Ext.mv (h:Ext w w'):Mv (aV.aR w) w (aV.aR w') w':=fun _ _ hl=>⟨aG hl h.size,h.block hl⟩
theorem ez.mv {F A:XS} (c:ez F X w Y w') (h: ∀k,A k→X k∧ ¬F k):Mv A w Y w':=fun k hk _=>⟨c.sub k (h k hk).1,c.block k (h k hk).1 (h k hk).2⟩
theorem Cells.mv {b o:Nat} {l:List Value} (h:Cells w X b o l) (v:Mv X w Y w'):Cells w' Y b o l:=by
 have hl:=h.lt;obtain⟨hx,cs,t,fr,hb,hc⟩:=h;obtain⟨h1,h2⟩:=v b hx hl;exact⟨h1,cs,t,fr,by rw [h2];exact hb,hc⟩
theorem Sl.mv {k:Nat} {v:Value} {rows:List (List Value)} (h:Sl w X k v rows) (m:Mv X w Y w'):Sl w' Y k v rows:=by
 obtain⟨h1,h2,base,cap,hv,hc,hr⟩:=h;exact⟨h1,h2,base,cap,hv,fun du=>let⟨b,o,hb,jx⟩:=hc du;⟨b,o,hb,jx.mv m⟩,hr⟩
theorem Sl.form {k:Nat} {v:Value} {rows:List (List Value)} (h:Sl w X k v rows): ∃b n c,v= .slice b n c:=let⟨_,_,b,c,hv,_⟩:=h;⟨b,_,c,hv⟩
theorem a7.mv {b:Nat} {cs:List Value} {ty:TypeId} (h:a7 w X b cs ty) (m:Mv X w Y w'):a7 w' Y b cs ty:=by
 obtain⟨h1,h2⟩:=m b h.1 (Array.getElem?_eq_some_iff.1 h.2).1;exact⟨h1,by rw [h2];exact h.2⟩
theorem jO.mv {κ:Type} {b:Nat} {kv:κ→Value} {es:List (gA κ)} {c:Nat} (h:jO w X b kv es c) (m:Mv X w Y w'):jO w' Y b kv es c:=by
 obtain⟨h1,h2⟩:=m b h.1 (Array.getElem?_eq_some_iff.1 h.2.1).1;exact⟨h1,by rw [h2];exact h.2.1,h.2.2⟩
theorem Own.mv {lo e k:Nat} {v:Value} {rows:List (List Value)} (h:Own w X lo e k v rows) (m:Mv X w Y w'):Own w' Y lo e k v rows:=by
 obtain⟨h1,h2,h3⟩:=h;refine⟨h1,⟨h2.1,?_⟩,fun g hg=>(m g (h3 g hg) (h2.lt g hg).2).1⟩;rcases h2.2 with h|⟨g,cap,cur,rfl,hb,hg,hr⟩
 ·exact .inl h
 ·exact .inr ⟨g,cap,cur,rfl,hb,by rw [(m g (h3 g rfl) (Array.getElem?_eq_some_iff.1 hg).1).2];exact hg,hr⟩
def en (w:World) (X:XS) (k:Nat) (v:Value) (rd:World→XS→List Value→α→Prop) (xs:List α):Prop:=
 ∃rows,Sl w X k v rows∧rows.length=xs.length∧ ∀(i:Nat) l x,rows[i]? =some l→xs[i]? =some x→rd w X l x
def Dc (rd:World→XS→List Value→α→Prop):Prop:= ∀{X Y:XS} {w w':World} {l:List Value} {x:α},rd w X l x→Mv X w Y w'→rd w' Y l x
theorem en.mv {k:Nat} {v:Value} {rd:World→XS→List Value→α→Prop} {xs:List α} (h:en w X k v rd xs) (hm:Dc rd) (m:Mv X w Y w'):en w' Y k v rd xs:=by
 obtain⟨rows,h1,h2,h3⟩:=h;exact⟨rows,h1.mv m,h2,fun i l x hl hx=>hm (h3 i l x hl hx) m⟩
theorem en.nil {rd:World→XS→List Value→α→Prop} (w:World) (X:XS) (k:Nat):en w X k (.slice none 0 0) rd []:=⟨[],Sl.nil w X k,rfl,by simp⟩
theorem en.one {k:Nat} {v:Value} {rd:World→XS→List Value→α→Prop} {xs:List α} (h:en w X k v rd xs):one v=true:=let⟨_,h1,_⟩:=h;h1.one
theorem en.len {k:Nat} {v:Value} {rd:World→XS→List Value→α→Prop} {xs:List α} (h:en w X k v rd xs):xs.length≤2^63-1:=by
 obtain⟨_,h1,h2,_⟩:=h;rw [←h2];exact h1.2.1
theorem Mv.refl (X:XS) (w:World):Mv X w X w:=fun _ hk _=>⟨hk,rfl⟩
theorem mv0:Mv X w X w:=Mv.refl _ _
theorem mv1 (h:aj X w Y w'):Mv X w Y w':=h.mv
theorem nq1 {l:List Value} :l.toArray.toList=l:=rfl
theorem nq2 {i:Nat} {a:Value} {l:List Value} :(a::l).take (i+1)=a::l.take i:=rfl
theorem nq3 {i:Nat} {a:Value} {l:List Value} :(a::l).drop (i+1)=l.drop i:=rfl
theorem nq4 {l:List Value} :l.take 0=[]:=rfl
theorem nq5 {l:List Value} :l.drop 0=l:=rfl
theorem nq6 {i:Nat} :([]:List Value).take i=[]:=List.take_nil
theorem nq7 {a:Value} {l:List Value} :(a::l).length=l.length+1:=rfl
theorem nq8:([]:List Value).length=0:=rfl
theorem nq9 {a:Value} {l m:List Value} :a::l++m=a::(l++m):=rfl
theorem nq0 {l:List Value} :[]++l=l:=rfl
theorem mv2 (h:aj X w Y w') (h':aj Y w' Z je):Mv X w Z je:=(h.trans h').mv
theorem Cells.Ts {b o fo:Nat} {v:Value} {l:List Value} (h:Cells w X b o l) (hl:l[fo]? =some v):Cells w X b (o+fo) [v]:=by
 have hp:=h.part fo 1;have:(l.drop fo).take 1=[v]:=by
  obtain⟨dy,rfl⟩:=List.getElem?_eq_some_iff.1 hl;rw [iT dy,List.take_succ_cons,List.take_zero]
 rw [this] at hp;exact hp
section
variable {w0 : World} {X0 : XS}
theorem ajV {S f fo sz b o:Nat} {l l':List Value} (h:Cells w0 X0 b o l) (hf:fieldInfo P S f=some (fo,sz)) (hz:(sz !=0)=true) (hl:(l.drop fo).take sz=l')
  (k: ∀o',o'=o+fo→Cells w0 X0 b o' l'→N (ptr b o')):ae P X w (aS S f fo sz (ptr b o)) N:=
 Mj hf (by simpa using hz) (k _ rfl (hl▸h.part fo sz))
theorem O8 {S f fo b o:Nat} {v:Value} {l:List Value} (h:Cells w0 X0 b o l) (hf:fieldInfo P S f=some (fo,1)) (hl:l[fo]? =some v)
  (k: ∀o',o'=o+fo→Cells w0 X0 b o' [v]→N (ptr b o')):ae P X w (aS S f fo 1 (ptr b o)) N:=
 Mj hf zQ (k _ rfl (h.Ts hl))
theorem Zs {t:TypeId} {b o:Nat} {v:Value} {l:List Value} (h:Cells w0 X0 b o l) (m:Mv X0 w0 X w) (hi:iV P t=some (false,1)) (hl:l[0]? =some v) (k:N v):
  ae P X w (ld1 t (ptr b o)) N:=ajT (h.mv m) hi hl k
theorem ZJ {t:TypeId} {b o n:Nat} {l:List Value} (h:Cells w0 X0 b o l) (m:Mv X0 w0 X w) (hi:iV P t=some (true,n)) (hn:l.length=n) (k:N (.agg l.toArray)):
  ae P X w (dY t n (ptr b o)) N:=aca (h.mv m) hi hn k
theorem ajW {enc:α→List Value} {t ty:TypeId} {k:Nat} {v:Value} {xs:List α} (h:Sl w0 X0 k v (xs.map enc))
  (ht:P.underlying t=some (.slice (P.elem t))) (n:N (.int .i64 xs.length)):ae P X w (cD t ty v) N:=by
 obtain⟨_,_,base,cap,rfl,_⟩:=h;exact cf (fun wa=>run_len_slice wa t ty base _ cap ht) (by rw [List.length_map];exact n)
theorem ajX {t ty:TypeId} {k:Nat} {v:Value} {rd:World→XS→List Value→α→Prop} {xs:List α} (h:en w0 X0 k v rd xs)
  (ht:P.underlying t=some (.slice (P.elem t))) (n:N (.int .i64 xs.length)):ae P X w (cD t ty v) N:=by
 obtain⟨rows,⟨_,_,base,cap,rfl,_⟩,h2,_⟩:=h;exact cf (fun wa=>run_len_slice wa t ty base _ cap ht) (by rw [h2];exact n)
theorem O9 {t:TypeId} {k:Nat} {v:Value} {rows:List (List Value)} {i:Nat} {z:Int} {r:List Value} (h:Sl w0 X0 k v rows) (hr:rows[i]? =some r) (hz:z=i)
  (ht:P.underlying t=some (.slice (P.elem t))) (hs:(P.info? (P.elem t)).map (·.size)=some k)
  (n: ∀b o,Cells w0 X0 b o r→N (ptr b o)):ae P X w (Instr.indexAt t v (.int .i64 z)) N:=by
 obtain⟨h1,_,base,cap,rfl,hc,_⟩:=h;have hi:i<rows.length:=(List.getElem?_eq_some_iff.1 hr).1;obtain⟨b,o,rfl,jx⟩:=hc (by intro e;subst e;simp at hi);have hp:=jx.part (i*k) k;rw [JD h1 hr] at hp;refine cf (fun wa=>?_) (n b (o+i*k) hp);subst hz;rw [run_indexAt_slice (h:=ht),if_pos zQ];cases hq:P.info? (P.elem t)with
 |none=>simp [hq] at hs
 |some inf=>
  have:inf.size=k:=by simpa [hq] using hs
  simp [sizeOf,typeInfo,hq,this,y8]
theorem afu {enc:α→List Value} {t:TypeId} {k:Nat} {v:Value} {xs:List α} {i:Nat} {z:Int} {x:α} (h:Sl w0 X0 k v (xs.map enc)) (hr:xs[i]? =some x)
  (hz:z=i) (ht:P.underlying t=some (.slice (P.elem t))) (hs:(P.info? (P.elem t)).map (·.size)=some k)
  (n: ∀b o,Cells w0 X0 b o (enc x)→N (ptr b o)):ae P X w (dt t k v (.int .i64 z)) N:=
 O9 h (i:=i) (by rw [dO,hr];rfl) hz ht hs n
theorem Bt {t:TypeId} {k:Nat} {v:Value} {rd:World→XS→List Value→α→Prop} {xs:List α} {i:Nat} {z:Int} {x:α} (h:en w0 X0 k v rd xs) (hr:xs[i]? =some x)
  (hz:z=i) (ht:P.underlying t=some (.slice (P.elem t))) (hs:(P.info? (P.elem t)).map (·.size)=some k)
  (n: ∀b o l,Cells w0 X0 b o l→rd w0 X0 l x→N (ptr b o)):ae P X w (dt t k v (.int .i64 z)) N:=by
 obtain⟨rows,h1,h2,h3⟩:=h;have hi:i<rows.length:=by rw [h2];exact(List.getElem?_eq_some_iff.1 hr).1
 have hl:rows[i]? =some rows[i]:=bE hi;exact O9 h1 hl hz ht hs fun b o hc=>n b o _ hc (h3 i _ _ hl hr)
theorem aiB {t:TypeId} {xo yo:Operand} {k:Nat} {v:Value} {rows:List (List Value)} (h:Sl w0 X0 k v rows) (ht:P.underlying t=some (.slice (P.elem t)))
  (hT:v= .slice none 0 0→rows=[]→N (.bool true)) (hF:N (.bool false)):ae P X w (aD .eql t xo yo v (.slice none 0 0)) N:=by
 rcases h.src with⟨rfl,hr⟩|⟨a,cap,rfl,_⟩
 ·exact Vr ht (hT rfl hr)
 ·exact Vr ht hF
end
theorem YT {xs:List α} {i:Nat} (h:i<xs.length): ∃x,xs[i]? =some x∧xs.drop i=x::xs.drop (i+1):=
 ⟨xs[i],bE h,iT h⟩
theorem ew (xs:List α) (i:Nat):(i<xs.length∧ ∃x,xs[i]? =some x∧xs.drop i=x::xs.drop (i+1))∨(xs.length≤i∧xs.drop i=[]):=by
 rcases Nat.lt_or_ge i xs.length with h|h
 ·exact .inl ⟨h,YT h⟩
 ·exact .inr ⟨h,jQ h⟩
theorem ajY {l l':List Value} {o n:Nat} {M:Value→Prop} (hl:(l.drop o).take n=l') (k:M (.agg l'.toArray)):un (cq (.agg l.toArray) o n) M:=
 acg (hl▸k)
theorem ajZ {l l' cs:List Value} {o:Nat} {M:Value→Prop} (hl:dg l o cs=l') (k:M (.agg l'.toArray)):
  un (ak (List.toArray (dg l o cs))) M:=by subst hl;exact k
theorem TE {v:Value} {l:List Value} (h:one v=true) (k:l.all one=true):(v::l).all one=true:=by simp [h,k]
theorem WW:List.all ([]:List Value) one=true:=rfl
theorem aiC {l:List Value} {A:Prop} (h:l.all one=true) (k:A):aC (List.all (Array.toList (aa (.agg l.toArray))) one) A:=aaq h k
theorem aiD {l:List Value} {A:Prop} (h:l.all one=true) (k:A):aC (List.all l one) A:=aaq h k
theorem aj0 {l:List Value} {i:Nat} {v:Value} (hi:l[i]? =some v) (h:N v):ae P X w (aL (.tuple l.toArray) i) N:=Xu (by simpa using hi) h
theorem fT {f:FuncId} {args:Array Value} {b:Bool} {N:Value→World→XS→Prop}
  (h:Ct P f args w X nX fun v _ _=>v= .bool b) (hf:enters P f=true) (hX: ∀k,X k→k<w.heap.size)
  (hT:b=true→ ∀w' X',aj X w X' w'→N (.bool true) w' X') (hF:b=false→ ∀w' X',aj X w X' w'→N (.bool false) w' X'):eC P R X w m f args N:=by
 refine dp h hf hX fun v wa w' X' hv _ _ hs=>?_;subst hv;cases b
 ·exact hF rfl w' X' hs
 ·exact hT rfl w' X' hs
theorem gC {f:FuncId} {args:Array Value} {u:Value} {N:Value→World→XS→Prop}
  (h:Ct P f args w X nX fun v _ _=>v=u) (hf:enters P f=true) (hX: ∀k,X k→k<w.heap.size)
  (k: ∀w' X',aj X w X' w'→N u w' X'):eC P R X w m f args N:=by
 refine dp h hf hX fun v wa w' X' hv _ _ hs=>?_;subst hv;exact k w' X' hs
theorem iZ {f:FuncId} {args:Array Value} {N:Value→World→XS→Prop}
  (h:Ct P f args w X nX fun v _ _=> ∃n:Int,v= .int .i64 n) (hf:enters P f=true) (hX: ∀k,X k→k<w.heap.size)
  (k: ∀(n:Int) w' X',aj X w X' w'→N (.int .i64 n) w' X'):eC P R X w m f args N:=by
 refine dp h hf hX fun v wa w' X' hv _ _ hs=>?_;obtain⟨n,rfl⟩:=hv;exact k n w' X' hs
theorem aj1 {t ty:TypeId} {a b:Int} (h:N (.int .i64 (min a b))):ae P X w (j6 #[t,t] ty #[.int .i64 a,.int .i64 b]) N:=
 cf (fun wa=>by
  simp only [j6,List.foldlM];by_cases hc:b<a
  ·have:min a b=b:=by omega
   simp [Cw,hc,this]
  ·have:min a b=a:=by omega
   simp [Cw,hc,this]) h
theorem aaz {src dst:TypeId} {k q:IntKind} {n:Int} (hs:(P.underlying src).isSome=true) (hd:P.underlying dst=some (.int k))
  (h:N (.int k (k.wrap n))):ae P X w (lQ k src dst (.int q n)) N:=cf (fun wa=>by
   have e:P.intKind dst=k:=by simp [Program.intKind,hd]
   have:=run_convert_int (P:=P) wa src dst q n hs (by rw [e];exact hd);rw [e] at this;exact this) h
theorem aj2 {src dst:TypeId} {q:IntKind} {n:Int} (hs:(P.underlying src).isSome=true) (hd:P.underlying dst=some (.float .f64))
  (h:N (.float .f64 (floatOfInt .f64 n))):ae P X w (uJ src dst (.int q n)) N:=cf (fun wa=>run_convert_int_float wa src dst q .f64 n hs hd) h
theorem aj3 {t e:TypeId} {n:Nat} {l:List Value} {z:Int} {i:Nat} {v:Value} (ht:P.underlying t=some (.array n e)) (he:iV P e=some (false,1)) (hz:z=i) (hn:i<n) (hl:l[i]? =some v)
  (k:N v):ae P X w (sO t n e (.agg l.toArray) (.int .i64 z)) N:=by
 subst hz;unfold iV at he;split at he
 ·rename_i d q hu AG;simp only [ay,cx] at he;refine cf (v:=v) (fun wa=>?_) k;have y9:(isAgg e).run P wa= .ok false wa:=by cases d<;>simp_all [isAgg,run_underlying hu]
  simp [sO,xS,asIntOf,run_underlying ht,hn,sizeOf,typeInfo,AG,he.2,part,y9,hl]
 ·cases he
theorem aj4 {op:BinOp} {t:TypeId} {x y r:Nat} (h:floatBits op .f64 x y=some r) (k:N (.float .f64 r)):ae P X w (binOp op t (.float .f64 x) (.float .f64 y)) N:=
 cf (fun wa=>run_float_arith wa op t .f64 x y r h) k
theorem Se (s:ByteArray):s.size=s.data.toList.length:=by rw [ec];rfl
theorem aj5 {t:TypeId} {s:ByteArray} {z:Int} {i:Nat} {b:UInt8} (hb:s.data.toList[i]? =some b) (hz:z=i) (ht:P.underlying t=some .string) (k:N (.int .u8 b.toNat)):
  ae P X w (xS t (.string s) (.int .i64 z)) N:=by
 subst hz;have hi:i<s.data.toList.length:=(List.getElem?_eq_some_iff.1 hb).1;have AG:i<s.size:=by rw [Se];exact hi
 refine cf (v:=.int .u8 b.toNat) (fun wa=>?_) k;rw [run_index_string wa t s .i64 i ht,dif_pos zQ];have:s[i]=b:=by
  have h2:s.data.toList[i]=b:=(List.getElem?_eq_some_iff.1 hb).2;rw [←h2];rfl
 simp [this]
theorem Vv (f:Ieee.Format) (s:Bool) (m:Nat) (p:Int):(f.read (f.nearest s m p)).isNaN=false:=by
 have hle: ∃r,f.nearest s m p=f.word s r∧r≤f.infRung:=by
  unfold Ieee.Format.nearest;split
  ·exact⟨0,rfl,Nat.zero_le _⟩
  ·exact⟨_,rfl,Nat.min_le_right _ _⟩
 obtain⟨r,hr,hle⟩:=hle;have dy:=f.infRung_lt;have hm:f.word s r % f.signWeight=r:=by
  unfold Ieee.Format.word;split
  ·rw [Nat.add_mod_left,xP zQ]
  ·rw [xP zQ]
 rw [hr];unfold Ieee.Format.read;simp only [hm];split
 ·rfl
 ·split
  ·rfl
  ·split
   ·rfl
   ·omega
def chain (p:α→Bool) (r:α→α→Bool):Option α→List α→Bool
 |_,[]=>true
 |none,x::l=>p x&&chain p r (some x) l
 |some y,x::l=>p x&&r y x&&chain p r (some x) l
def pt (xs:List α) (i:Nat):Option α:=if i=0 then none else xs[i-1]?
theorem nI {xs:List α} {i:Nat} {x:α} (h:xs[i]? =some x):pt xs (i+1)=some x:=by simp [pt,h]
theorem KU {xs:List α} {i:Nat} (h:i<xs.length):(i=0∧pt xs i=none)∨(0<i∧ ∃y,xs[i-1]? =some y∧pt xs i=some y):=by
 by_cases h0:i=0
 ·exact .inl ⟨h0,by simp [pt,h0]⟩
 ·have:xs[i-1]? =some xs[i-1]:=bE zQ;exact .inr ⟨by omega,_,this,by simp [pt,h0,this]⟩
variable {P : Program} {R : Ending → World → Prop} {X : XS} {w : World} {m : Bool}
theorem foldl_set (l:List Value): ∀(n:Nat) (cs:Array Value),n+l.length≤cs.size→
  ((l.zipIdx n).foldl (fun (cs:Array Value) (p:Value×Nat)=>cs.setIfInBounds p.2 p.1) cs).toList=cs.toList.take n++l++cs.toList.drop (n+l.length):=by
 induction l with
 |nil=>intro n cs h;simp
 |cons x r ih=>
  intro n cs h;simp only [bh] at h;simp only [List.zipIdx_cons,List.foldl_cons];rw [ih (n+1) _ (by simp;omega)];have hn:n<cs.toList.length:=by simp;omega
  simp only [Array.toList_setIfInBounds,bh];rw [List.take_set,List.drop_set_of_lt zQ];have:(cs.toList.take (n+1)).set n x=cs.toList.take n++[x]:=by
   rw [List.take_add_one,bE hn];simp only [Option.toList_some];rw [List.set_append_right _ _ (by simp;omega)];have hm:(cs.toList.take n).length=n:=by rw [List.length_take];omega
   rw [hm,Nat.sub_self,List.set_cons_zero]
  rw [this];simp only [List.append_assoc,List.cons_append,dG];rw [show n+1+r.length=n+(r.length+1)by omega]
theorem Cz {k:Nat} {cs:Array Value} {x:Value} (hx:x.cells.size=k) (hc:cs.size=k):
  nM (fun i=>some (i*k,k)) cs [(0,x)]=some x.cells:=by
 unfold nM;simp only [Nat.zero_mul,eZ,hx,ne_eq,not_true_eq_false,decide_false,hc,Nat.lt_irrefl,gt_iff_lt,Bool.or_self,a8,if_false];unfold nM;simp only [ay];apply Array.ext';have:=foldl_set x.cells.toList 0 cs (by simp;omega);rw [←Array.toList_zipIdx,Array.foldl_toList] at this;simp only [eZ,List.take_zero,dG,ec] at this;rw [jQ (by simp;omega),lY] at this;exact this
def cY (v:Value):XS:=fun g=>v.ownBlock=some g
def mD (P:Program) (t e k bytes:Nat):Bool:=match P.underlying t,P.info? e with
 |some (.slice e'),some i=>e'==e&&i.size==k&&i.bytes==bytes&&(match i.zero with|some z=>z.cells.size==k|none=>false)&&decide (0<k)&&decide (k≤2^20)
 |_,_=>false
theorem jR {t e k bytes:Nat} (h:mD P t e k bytes=true):P.underlying t=some (.slice e)∧0<k∧k≤2^20∧
  ∃z:Value,(P.info? e).bind (fun i=>i.zero.map fun z=>(i.size,i.bytes,z))=some (k,bytes,z)∧(P.info? e).bind (fun i=>i.zero.map fun z=>(i.size,z))=some (k,z)∧z.cells.size=k:=by
 unfold mD at h;split at h
 ·rename_i e' i hu hi;simp only [aW,beq_iff_eq,decide_eq_true_eq] at h;obtain⟨⟨⟨⟨⟨rfl,h2⟩,h3⟩,h4⟩,h5⟩,h6⟩:=h;cases hz:i.zero with
  |none=>simp [hz] at h4
  |some z=>
   simp only [hz,beq_iff_eq] at h4;exact⟨hu,h5,h6,z,by simp [hi,hz,h2,h3],by simp [hi,hz,h2],h4⟩
 ·cases h
section
variable {w0 : World} {X0 : XS} {t ty e k bytes : Nat} {v x s : Value} {rows dL : List (List Value)} {row : List Value} {N : Value → World → XS → Prop}
theorem aci (own:Own w X w0.heap.size e k v rows) (hs:aj X0 w0 X w) (h0: ∀k,X0 k→k<w0.heap.size) (he:mD P t e k bytes=true) (hx:x.cells.toList=row) (hk:(row.length==k)=true)
  (h1:row.all one=true) (hb:(rows.length+1)*bytes≤140737488355328) (hl:rows.length+1≤2^63-1)
  (n: ∀v' w' X',aj X0 w0 X' w'→Own w' X' w0.heap.size e k v' (rows++[row])→ez (cY v) X w X' w'→(v'.ownBlock=v.ownBlock∨ ∃g,v'.ownBlock=some g∧w.heap.size≤g)→N v' w' X'):
  eV P R X w m (fH t e k 1 #[(0,x)]) fun s w1 X1=>eV P R X1 w1 true (e7 t e k bytes ty v s) N:=by
 obtain⟨hu,kB,pj,z,hi,hz,r8⟩:=jR he;have af:row.length=k:=by simpa using hk
 have HE:x.cells.size=k:=by rw [←af,←hx,ec]
 refine zh (rows:=[row]) x.cells z hs.has hu hz zQ zQ ?_ (by simpa using af) rfl (by simpa using hx) fun s w1 X1 ao Pa=>?_
 ·simp only [Nat.one_mul];exact Cz HE (by simp)
 ·have fp:w0.heap.size≤w1.heap.size:=ah hs.kp.size ao.kp.size;refine zZ (dL:=[row]) z hu hi r8 kB ao.has fp (own.since ao) Pa.sl (by simpa using h1) (by simpa using hb) (by simpa using hl) fun v2 w2 X2 hg ho ef=>?_;have hd: ∀g,v.ownBlock=some g→w0.heap.size≤g:=fun g hg=>(own.ge hg).1;refine n v2 w2 X2 ((hs.trans ao).grown hg fun g RZ he=>?_) ho ?_ ?_
  ·have:=hd g he.symm;have:=h0 g RZ;omega
  ·exact(ez.rL ao (cY v)).trans (hg.fM.mono fun k _ hk=>hk.symm)
  ·rcases ef with h|⟨g,h,dV⟩
   ·exact .inl h
   ·exact .inr ⟨g,h,ah ao.kp.size dV⟩
theorem afR {l:List Value} (own:Own w X w0.heap.size e k v rows) (hs:aj X0 w0 X w) (h0: ∀k,X0 k→k<w0.heap.size) (he:mD P t e k bytes=true) (hk:(l.length==k)=true)
  (h1:l.all one=true) (hb:(rows.length+1)*bytes≤140737488355328) (hl:rows.length+1≤2^63-1)
  (n: ∀v' w' X',aj X0 w0 X' w'→Own w' X' w0.heap.size e k v' (rows++[l])→ez (cY v) X w X' w'→(v'.ownBlock=v.ownBlock∨ ∃g,v'.ownBlock=some g∧w.heap.size≤g)→N v' w' X'):
  eV P R X w m (fH t e k 1 #[(0,.agg l.toArray)]) fun s w1 X1=>eV P R X1 w1 true (e7 t e k bytes ty v s) N:=aci own hs h0 he rfl hk h1 hb hl n
theorem Ql (own:Own w X w0.heap.size e k v rows) (hs:aj X0 w0 X w) (h0: ∀k,X0 k→k<w0.heap.size) (he:mD P t e k bytes=true) (hk:(k==1)=true)
  (ho:one x=true) (hb:(rows.length+1)*bytes≤140737488355328) (hl:rows.length+1≤2^63-1)
  (n: ∀v' w' X',aj X0 w0 X' w'→Own w' X' w0.heap.size e k v' (rows++[[x]])→ez (cY v) X w X' w'→(v'.ownBlock=v.ownBlock∨ ∃g,v'.ownBlock=some g∧w.heap.size≤g)→N v' w' X'):
  eV P R X w m (fH t e k 1 #[(0,x)]) fun s w1 X1=>eV P R X1 w1 true (e7 t e k bytes ty v s) N:=by
 refine aci (row:=[x]) own hs h0 he ?_ (by simpa using (beq_iff_eq.1 hk).symm) (by simpa using ho) hb hl n;cases x<;>first|rfl|cases ho
theorem qQ (own:Own w X w0.heap.size e k v rows) (hs:aj X0 w0 X w) (h0: ∀k,X0 k→k<w0.heap.size) (he:mD P t e k bytes=true) (src:Sl w X k s dL) (h1: ∀r∈dL,∀u∈r,one u=true)
  (hb:(rows.length+dL.length)*bytes≤140737488355328) (hl:rows.length+dL.length≤2^63-1)
  (n: ∀v' w' X',aj X0 w0 X' w'→Own w' X' w0.heap.size e k v' (rows++dL)→ez (cY v) X w X' w'→(v'.ownBlock=v.ownBlock∨ ∃g,v'.ownBlock=some g∧w.heap.size≤g)→N v' w' X'):
  eV P R X w true (e7 t e k bytes ty v s) N:=by
 obtain⟨hu,kB,pj,z,hi,hz,r8⟩:=jR he;refine zZ (dL:=dL) z hu hi r8 kB hs.has hs.kp.size own src h1 hb hl fun v2 w2 X2 hg ho ef=>?_;have hd: ∀g,v.ownBlock=some g→w0.heap.size≤g:=fun g hg=>(own.ge hg).1;refine n v2 w2 X2 (hs.grown hg fun g RZ he=>?_) ho (hg.fM.mono fun k _ hk=>hk.symm) ef;have:=hd g he.symm;have:=h0 g RZ;omega
theorem Ge (hX: ∀k,X k→k<w.heap.size) (hu:P.underlying t=some (.slice e)) (hz:(P.info? e).map (·.size)=some k)
  (n: ∀v w' X',aj X w X' w'→Own w' X' w.heap.size e k v []→N v w' X'):eV P R X w m (fH t e k 0 #[]) N:=acd hX hu hz n
end
theorem Tx {t e k bytes len:Nat} {parts:Array (Nat×Value)} {rows:List (List Value)} {N:Value→World→XS→Prop} (cells:Array Value) (z:Value) (hX: ∀k,X k→k<w.heap.size) (he:mD P t e k bytes=true)
  (hz:(P.info? e).bind (·.zero)=some z) (aam:0<len*k) (O7:len*k≤2^24)
  (h:nM (fun i=>some (i*k,k)) ((xT (len*k)).map (z.cells[· % z.cells.size]!)) parts.toList=some cells)
  (zv: ∀r∈rows,r.length=k) (hlen:rows.length=len) (hc:cells.toList=rows.flatten)
  (n: ∀v w' X',aj X w X' w'→Own w' X' w.heap.size e k v rows→N v w' X'):eV P R X w m (fH t e k len parts) N:=by
 obtain⟨hu,kB,pj,z',hi,CW,r8⟩:=jR he;have:z'=z:=by
  cases hq:P.info? e with
  |none=>simp [hq] at hz
  |some ie=>cases lW:ie.zero<;>simp_all
 subst this;exact zh cells z' hX hu CW aam O7 h zv hlen hc n
end Go.aV
