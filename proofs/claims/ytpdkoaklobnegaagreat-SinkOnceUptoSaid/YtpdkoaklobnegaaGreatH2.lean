/-
  Part 2 of the proof: what the last text leans on.
-/
import Derived.Laws.Slices
import Derived.Laws.Pointers
import Derived.Recover
import Derived.Laws.MakeOwn
import Derived.Laws.BytesArg
import Derived.Laws.Concat
import Derived.Test.YtpdkoaklobnegaaGreatProg
import Derived.KernelRfl
import Derived.Test.YtpdkoaklobnegaaGreatH1
set_option linter.unusedSectionVars false
namespace Go.Eng
variable {P : Program} {R : Ending → World → Prop} {X Y A A' : XS} {w w' : World} {m : Bool} {κ : Type} [DecidableEq κ] {α : Type}
def fieldAgg (P : Program) (S f : Nat) : Option Bool := match P.underlying S with
  | some (.struct fs) => match fs[f]? with
    | some x => match P.underlying x.type with
      | some (.struct _) | some (.array _ _) => some true
      | some _ => some false
      | none => none
    | none => none
  | _ => none
def MovesV (rd : World → XS → Value → α → Prop) : Prop := ∀ (X Y : XS) (w w' : World) (v : Value) (x : α), rd w X v x → Mv X w Y w' → rd w' Y v x
def Rep (w : World) (A : XS) (rd : World → XS → Value → α → Prop) : List (Ent κ) → List (κ × α) → Prop
  | [], [] => True
  | e :: es, x :: l => e.1 = x.1 ∧ rd w A e.2.1 x.2 ∧ Rep w A rd es l
  | _, _ => False
theorem Rep.mv {rd : World → XS → Value → α → Prop} (hm : MovesV rd) (v : Mv A w A' w') : ∀ {es : List (Ent κ)} {l : List (κ × α)}, Rep w A rd es l → Rep w' A' rd es l
  | [], [], _ => trivial
  | _ :: _, _ :: _, ⟨h1, h2, h3⟩ => ⟨h1, hm _ _ _ _ _ _ h2 v, Rep.mv hm v h3⟩
  | [], _ :: _, h => h.elim
  | _ :: _, [], h => h.elim
theorem Rep.keys {rd : World → XS → Value → α → Prop} : ∀ {es : List (Ent κ)} {l : List (κ × α)}, Rep w A rd es l → es.map (·.1) = l.map (·.1)
  | [], [], _ => rfl
  | _ :: _, _ :: _, ⟨h1, _, h3⟩ => by simp [h1, Rep.keys h3]
  | [], _ :: _, h => h.elim
  | _ :: _, [], h => h.elim
theorem Rep.append {rd : World → XS → Value → α → Prop} : ∀ {es es' : List (Ent κ)} {l l' : List (κ × α)}, Rep w A rd es l → Rep w A rd es' l' → Rep w A rd (es ++ es') (l ++ l')
  | [], _, [], _, _, h' => h'
  | _ :: _, _, _ :: _, _, ⟨h1, h2, h3⟩, h' => ⟨h1, h2, Rep.append h3 h'⟩
  | [], _, _ :: _, _, h, _ => h.elim
  | _ :: _, _, [], _, h, _ => h.elim
def getM (k : κ) (l : List (κ × α)) : Option α := (l.find? fun x => decide (x.1 = k)).map (·.2)
def putM (k : κ) (a : α) : List (κ × α) → List (κ × α)
  | [] => [(k, a)]
  | x :: l => if x.1 = k then (k, a) :: l else x :: putM k a l
def delM (k : κ) (l : List (κ × α)) : List (κ × α) := l.filter fun x => decide (x.1 ≠ k)
theorem Rep.get {rd : World → XS → Value → α → Prop} (k : κ) : ∀ {es : List (Ent κ)} {l : List (κ × α)}, Rep w A rd es l →
    (getE k es = none ∧ getM k l = none) ∨ ∃ v a, getE k es = some v ∧ getM k l = some a ∧ rd w A v a
  | [], [], _ => .inl ⟨rfl, rfl⟩
  | e :: es, x :: l, ⟨h1, h2, h3⟩ => by
    by_cases hk : x.1 = k
    · exact .inr ⟨e.2.1, x.2, by simp [getE, h1, hk], by simp [getM, hk], h2⟩
    · rcases Rep.get k h3 with ⟨q1, q2⟩ | ⟨v, a, q1, q2, q3⟩
      · left; constructor
        · simp only [getE, List.find?_cons, h1, hk, decide_false, Bool.false_eq_true, if_false]; exact q1
        · simp only [getM, List.find?_cons, hk, decide_false, Bool.false_eq_true, if_false]; exact q2
      · right; refine ⟨v, a, ?_, ?_, q3⟩
        · simp only [getE, List.find?_cons, h1, hk, decide_false, Bool.false_eq_true, if_false]; exact q1
        · simp only [getM, List.find?_cons, hk, decide_false, Bool.false_eq_true, if_false]; exact q2
  | [], _ :: _, h => h.elim
  | _ :: _, [], h => h.elim
def putE' (k : κ) (v : Value) (c : Nat) : List (Ent κ) → List (Ent κ)
  | [] => [(k, v, c)]
  | e :: es => if e.1 = k then (e.1, v, e.2.2) :: es else e :: putE' k v c es
theorem putE_eq (k : κ) (v : Value) (c : Nat) (es : List (Ent κ)) : (putE k v c es).1 = putE' k v c es := by
  induction es with
  | nil => simp [putE, putE']
  | cons e es ih =>
    unfold putE at ih ⊢
    by_cases hk : e.1 = k
    · simp [List.findIdx?_cons, hk, putE']
    · simp only [List.findIdx?_cons, hk, decide_false, Bool.false_eq_true, if_false, putE']
      cases hf : es.findIdx? fun x => decide (x.1 = k) with
      | none => rw [hf] at ih; simp only [Option.map_none, List.cons_append] at ih ⊢; rw [ih]
      | some j => rw [hf] at ih; simp only [Option.map_some, List.modify_succ_cons] at ih ⊢; rw [ih]
theorem Rep.put {rd : World → XS → Value → α → Prop} {k : κ} {v : Value} {a : α} {c : Nat} (hv : rd w A v a) : ∀ {es : List (Ent κ)} {l : List (κ × α)}, Rep w A rd es l → Rep w A rd (putE' k v c es) (putM k a l)
  | [], [], _ => ⟨rfl, hv, trivial⟩
  | e :: es, x :: l, ⟨h1, h2, h3⟩ => by
    unfold putE' putM
    by_cases hk : x.1 = k
    · rw [if_pos (h1.trans hk), if_pos hk]; exact ⟨h1.trans hk, hv, h3⟩
    · rw [if_neg (by rw [h1]; exact hk), if_neg hk]; exact ⟨h1, h2, Rep.put hv h3⟩
  | [], _ :: _, h => h.elim
  | _ :: _, [], h => h.elim
def delE' (k : κ) (es : List (Ent κ)) : List (Ent κ) := es.filter fun x => decide (x.1 ≠ k)
theorem delE_eq (k : κ) : ∀ (es : List (Ent κ)), (es.map (·.1)).Nodup → delE k es = delE' k es
  | [], _ => rfl
  | e :: es, h => by
    have h' : (es.map (·.1)).Nodup := (List.nodup_cons.1 h).2
    have ih := delE_eq k es h'
    unfold delE at ih ⊢
    by_cases hk : e.1 = k
    · have : es.filter (fun x => decide (x.1 ≠ k)) = es := List.filter_eq_self.2 fun x hx => by
        have : x.1 ≠ k := fun hxk => (List.nodup_cons.1 h).1 (by simp only [List.mem_map]; exact ⟨x, hx, by rw [hxk, hk]⟩)
        simpa using this
      simp only [delE'] at this ⊢
      simp only [List.findIdx?_cons, hk, decide_true, if_true, List.eraseIdx_cons_zero, ne_eq, not_true_eq_false, decide_false, List.filter_cons, Bool.false_eq_true, if_false]
      exact this.symm
    · simp only [List.findIdx?_cons, hk, decide_false, Bool.false_eq_true, if_false]
      cases hf : es.findIdx? fun x => decide (x.1 = k) with
      | none => rw [hf] at ih; simp only [Option.map_none]; simp only at ih; rw [ih]; simp [delE', hk, ← ih]
      | some j => rw [hf] at ih; simp only [Option.map_some, List.eraseIdx_cons_succ] at ih ⊢; rw [ih]; simp [delE', hk]
theorem Rep.filter {rd : World → XS → Value → α → Prop} (p : κ → Bool) : ∀ {es : List (Ent κ)} {l : List (κ × α)}, Rep w A rd es l → Rep w A rd (es.filter fun x => p x.1) (l.filter fun x => p x.1)
  | [], [], _ => trivial
  | e :: es, x :: l, ⟨h1, h2, h3⟩ => by
    have ih := Rep.filter p h3
    by_cases hp : p x.1 = true
    · simp only [List.filter_cons, h1, hp, if_true]; exact ⟨h1, h2, ih⟩
    · simp only [List.filter_cons, h1, hp, if_false]; exact ih
  | [], _ :: _, h => h.elim
  | _ :: _, [], h => h.elim
theorem Rep.mem {rd : World → XS → Value → α → Prop} : ∀ {es : List (Ent κ)} {l : List (κ × α)}, Rep w A rd es l → ∀ e ∈ es, ∃ a, (e.1, a) ∈ l ∧ rd w A e.2.1 a
  | [], [], _, _, h => by cases h
  | e0 :: es, x :: l, ⟨h1, h2, h3⟩, e, he => by
    rcases List.mem_cons.1 he with rfl | he
    · exact ⟨x.2, by rw [h1]; simp, h2⟩
    · obtain ⟨a, ha, hr⟩ := Rep.mem h3 e he
      exact ⟨a, List.mem_cons_of_mem _ ha, hr⟩
  | [], _ :: _, h, _, _ => h.elim
  | _ :: _, [], h, _, _ => h.elim
def MapR (w : World) (X A : XS) (b : Nat) (kv : κ → Value) (rd : World → XS → Value → α → Prop) (l : List (κ × α)) : Prop :=
  ∃ es c, MapIs w X b kv es c ∧ Rep w A rd es l
theorem MapR.mv {b : Nat} {kv : κ → Value} {rd : World → XS → Value → α → Prop} {l : List (κ × α)} (h : MapR w X A b kv rd l) (hm : MovesV rd) (v : Mv X w Y w') (va : Mv A w A' w') : MapR w' Y A' b kv rd l :=
  let ⟨es, c, h1, h2⟩ := h
  ⟨es, c, h1.mv v, h2.mv hm va⟩
theorem MapR.nodup {b : Nat} {kv : κ → Value} {rd : World → XS → Value → α → Prop} {l : List (κ × α)} (h : MapR w X A b kv rd l) : (l.map (·.1)).Nodup := by
  obtain ⟨es, c, h1, h2⟩ := h; rw [← h2.keys]; exact h1.2.2.1
theorem MapR.x {b : Nat} {kv : κ → Value} {rd : World → XS → Value → α → Prop} {l : List (κ × α)} (h : MapR w X A b kv rd l) : X b ∧ b < w.heap.size :=
  let ⟨_, _, h1, _⟩ := h
  ⟨h1.1, (Array.getElem?_eq_some_iff.1 h1.2.1).1⟩
theorem MapR.own {b : Nat} {kv : κ → Value} {rd : World → XS → Value → α → Prop} {l : List (κ × α)} (h : MapR w X A b kv rd l) : MapR w (fun k => k = b) A b kv rd l :=
  let ⟨es, c, h1, h2⟩ := h
  ⟨es, c, ⟨rfl, h1.2⟩, h2⟩
theorem RowIs.own {b : Nat} {cs : List Value} {ty : TypeId} (h : RowIs w X b cs ty) : RowIs w (fun k => k = b) b cs ty := ⟨rfl, h.2⟩
theorem RowIs.lt {b : Nat} {cs : List Value} {ty : TypeId} (h : RowIs w X b cs ty) : b < w.heap.size := (Array.getElem?_eq_some_iff.1 h.2).1
theorem Mv.one {b : Nat} (hk : Kp X w w') (hb : X b) (hy : Y b) : Mv (fun k => k = b) w Y w' := fun k hk' _ => by subst hk'; exact ⟨hy, hk.block _ hb⟩
theorem m_makeMap {t : TypeId} {kv : κ → Value} (rd : World → XS → Value → α → Prop) (A : XS) {N : Value → World → XS → Prop} (hX : ∀ k, X k → k < w.heap.size)
    (n : ∀ b w' X', w.heap.size ≤ b → Since X w X' w' → MapR w' X' A b kv rd [] → N (.map (some b)) w' X') : eV P R X w m (Instr.makeMap t none) N :=
  eV_makeMap hX fun b w' X' hb hs hm => n b w' X' hb hs ⟨[], 0, hm, trivial⟩
theorem m_mapGet {t kt et b : Nat} {kv : κ → Value} {rd : World → XS → Value → α → Prop} {l : List (κ × α)} {k : κ} {N : Value → Prop} (z : Value) (h : MapR w X A b kv rd l) (K : KeyOf P kt kv)
    (ht : P.underlying t = some (.map kt et)) (hz : (P.info? et).bind (·.zero) = some z)
    (n1 : ∀ v a, getM k l = some a → rd w A v a → N (.tuple #[v, .bool true])) (n0 : getM k l = none → N (.tuple #[z, .bool false])) :
    rdV P X w (Instr.lookup t (.map (some b)) (kv k) true) N := by
  obtain ⟨es, c, h1, h2⟩ := h
  refine rdV_lookup z h1 K ht hz ?_
  rcases h2.get k with ⟨q1, q2⟩ | ⟨v, a, q1, q2, q3⟩
  · rw [q1]; exact n0 q2
  · rw [q1]; exact n1 v a q2 q3
theorem m_mapGet1 {t kt et b : Nat} {kv : κ → Value} {rd : World → XS → Value → α → Prop} {l : List (κ × α)} {k : κ} {N : Value → Prop} (z : Value) (h : MapR w X A b kv rd l) (K : KeyOf P kt kv)
    (ht : P.underlying t = some (.map kt et)) (hz : (P.info? et).bind (·.zero) = some z)
    (n1 : ∀ v a, getM k l = some a → rd w A v a → N v) (n0 : getM k l = none → N z) :
    rdV P X w (Instr.lookup t (.map (some b)) (kv k) false) N := by
  have key : ∀ u q, (∀ wa, Kp X w wa → (Instr.lookup t (.map (some b)) (kv k) true).run P wa = .ok (.tuple #[u, .bool q]) wa) → ∀ wa, Kp X w wa → (Instr.lookup t (.map (some b)) (kv k) false).run P wa = .ok u wa := by
    intro u q hq wa hk
    have h1 := hq wa hk
    obtain ⟨es, c, hm, _⟩ := h
    have hb := (hm.kp hk).2.1
    simp only [Instr.lookup, Sem.run_bind, run_underlying ht, Result.andThen_ok, getObj, Sem.run, hb, K.chk, List.toList_toArray, K.find] at h1 ⊢
    cases hf : findI k es 0 with
    | none =>
      cases hi : P.info? et with
      | none => simp [hi] at hz
      | some inf =>
        have hz' : inf.zero = some z := by simpa [hi] using hz
        simp [zeroValue, typeInfo, hi, hz', K.find, hf] at h1 ⊢
        exact h1.1
    | some r =>
      simp [K.find, hf] at h1 ⊢
      exact h1.1
  have := m_mapGet (N := fun v => ∃ u q, v = .tuple #[u, .bool q] ∧ N u) z h K ht hz (fun v a h1 h2 => ⟨v, _, rfl, n1 v a h1 h2⟩) (fun h0 => ⟨z, _, rfl, n0 h0⟩)
  obtain ⟨v, hv, u, q, rfl, hn⟩ := this
  refine rdV_of u (key u q fun wa hk => ?_) hn
  have := hv wa hk
  simp only [vS, Sem.run_bind] at this
  cases hr : (Instr.lookup t (.map (some b)) (kv k) true).run P wa with
  | ok a w2 => rw [hr] at this; simp only [Result.andThen_ok, Sem.run_pure, Result.ok.injEq, Next.value.injEq] at this; rw [this.1, this.2]
  | halt a w2 => rw [hr] at this; simp [Result.andThen] at this
theorem m_mapPut {t kt et b : Nat} {kv : κ → Value} {rd : World → XS → Value → α → Prop} {l : List (κ × α)} {k : κ} {v : Value} {a : α} {N : Value → World → XS → Prop} (h : MapR w X A b kv rd l) (hm : MovesV rd)
    (hv : rd w A v a) (hA : ∀ k, A k → X k ∧ k ≠ b) (K : KeyOf P kt kv) (ht : P.underlying t = some (.map kt et)) (hX : ∀ k, X k → k < w.heap.size)
    (n : ∀ w' X', Chg (· = b) X w X' w' → MapR w' X' A b kv rd (putM k a l) → N undef w' X') :
    eU P R X w true (Instr.mapUpdate t (.map (some b)) (kv k) v) N := by
  obtain ⟨es, c, h1, h2⟩ := h
  refine eU_put h1 K ht hX fun w' X' hg hi => ?_
  have hc : Chg (· = b) X w X' w' := hg.chg.mono fun k _ hk => by simpa using hk
  refine n w' X' hc ⟨_, _, hi, ?_⟩
  rw [putE_eq]
  have mv : Mv A w A w' := fun k hk _ => ⟨hk, hc.block k (hA k hk).1 (hA k hk).2⟩
  exact (h2.put hv).mv hm mv
theorem m_mapDel {t kt et tk ty b : Nat} {kv : κ → Value} {rd : World → XS → Value → α → Prop} {l : List (κ × α)} {k : κ} {N : Value → World → XS → Prop} (h : MapR w X A b kv rd l) (hm : MovesV rd)
    (hA : ∀ k, A k → X k ∧ k ≠ b) (K : KeyOf P kt kv) (ht : P.underlying t = some (.map kt et)) (hX : ∀ k, X k → k < w.heap.size)
    (n : ∀ w' X', Chg (· = b) X w X' w' → MapR w' X' A b kv rd (delM k l) → N (.tuple #[]) w' X') :
    eV P R X w true (Builtin.delete_ #[t, tk] ty #[.map (some b), kv k]) N := by
  obtain ⟨es, c, h1, h2⟩ := h
  refine eV_delete h1 K ht hX fun w' X' hg hi => ?_
  have hc : Chg (· = b) X w X' w' := hg.chg.mono fun k _ hk => by simpa using hk
  refine n w' X' hc ⟨_, _, hi, ?_⟩
  rw [delE_eq _ _ h1.2.2.1]
  have mv : Mv A w A w' := fun k hk _ => ⟨hk, hc.block k (hA k hk).1 (hA k hk).2⟩
  exact (h2.filter (fun x => decide (x ≠ k))).mv hm mv
def ItR (w : World) (X A : XS) (r b : Nat) (kv : κ → Value) (rd : World → XS → Value → α → Prop) (l left : List (κ × α)) : Prop :=
  ∃ es c les, ItIs w X r b kv es c les ∧ Rep w A rd es l ∧ Rep w A rd les left ∧ les.Sublist es
theorem ItR.mv {r b : Nat} {kv : κ → Value} {rd : World → XS → Value → α → Prop} {l left : List (κ × α)} (h : ItR w X A r b kv rd l left) (hm : MovesV rd) (v : Mv X w Y w') (va : Mv A w A' w') : ItR w' Y A' r b kv rd l left := by
  obtain ⟨es, c, les, h1, h2, h3, h4⟩ := h
  refine ⟨es, c, les, ⟨h1.1.mv v, ?_, h1.2.2.1, ?_⟩, h2.mv hm va, h3.mv hm va, h4⟩
  · obtain ⟨s, hs, _⟩ := h1.2.2.2
    exact (v r h1.2.1 (Array.getElem?_eq_some_iff.1 hs).1).1
  · obtain ⟨s, hs, hl⟩ := h1.2.2.2
    exact ⟨s, by rw [(v r h1.2.1 (Array.getElem?_eq_some_iff.1 hs).1).2]; exact hs, hl⟩
theorem ItR.map {r b : Nat} {kv : κ → Value} {rd : World → XS → Value → α → Prop} {l left : List (κ × α)} (h : ItR w X A r b kv rd l left) : MapR w X A b kv rd l :=
  let ⟨es, c, _, h1, h2, _⟩ := h
  ⟨es, c, h1.1, h2⟩
theorem ItR.nodup {r b : Nat} {kv : κ → Value} {rd : World → XS → Value → α → Prop} {l left : List (κ × α)} (h : ItR w X A r b kv rd l left) : (left.map (·.1)).Nodup := by
  obtain ⟨es, c, les, h1, h2, h3, h4⟩ := h
  rw [← h3.keys]
  exact h1.1.2.2.1.sublist (h4.map _)
theorem any_split {l : List (κ × α)} (c : κ × α → Bool) : (l.map (·.1)).Nodup → ∀ {k : κ} {a : α}, (k, a) ∈ l → l.any c = (c (k, a) || (l.filter fun y => decide (y.1 ≠ k)).any c) := by
  induction l with
  | nil => intro _ k a h; cases h
  | cons x l ih =>
    intro hn k a h
    have hn' := List.nodup_cons.1 hn
    rcases List.mem_cons.1 h with h | h
    · subst h
      have : l.filter (fun y => decide (y.1 ≠ k)) = l := List.filter_eq_self.2 fun y hy => by
        have : y.1 ≠ k := fun e => hn'.1 (List.mem_map.2 ⟨y, hy, e⟩)
        simpa using this
      simp only [List.any_cons, List.filter_cons, ne_eq, not_true_eq_false, decide_false, Bool.false_eq_true, if_false]
      simp only [ne_eq] at this
      rw [this]
    · have hx : x.1 ≠ k := fun e => hn'.1 (List.mem_map.2 ⟨(k, a), h, e.symm⟩)
      have := ih hn'.2 h
      simp only [List.any_cons, List.filter_cons, hx, ne_eq, not_false_eq_true, decide_true, if_true]
      simp only [ne_eq] at this
      rw [this, ← Bool.or_assoc, ← Bool.or_assoc, Bool.or_comm (c x)]
theorem left_lt {l : List (κ × α)} {k : κ} {a : α} (h : (k, a) ∈ l) : (l.filter fun y => decide (y.1 ≠ k)).length < l.length := by
  refine Nat.lt_of_le_of_ne (List.length_filter_le _ _) fun e => ?_
  have := List.length_filter_eq_length_iff.1 e (k, a) h
  simp at this
theorem Since.mvA {X0 : XS} {w0 : World} (h : Since X0 w0 X w) (hA : ∀ k, A k → X0 k) : Mv A w0 A w := fun k hk _ => ⟨hk, h.kp.block k (hA k hk)⟩
theorem m_range {t kt et b : Nat} {kv : κ → Value} {rd : World → XS → Value → α → Prop} {l : List (κ × α)} {N : Value → World → XS → Prop} (h : MapR w X A b kv rd l) (hm : MovesV rd) (hA : ∀ k, A k → X k)
    (ht : P.underlying t = some (.map kt et)) (hX : ∀ k, X k → k < w.heap.size)
    (n : ∀ r w' X', w.heap.size ≤ r → Since X w X' w' → ItR w' X' A r b kv rd l l → N (ptr r 0) w' X') : eV P R X w m (Instr.range t (.map (some b))) N := by
  obtain ⟨es, c, h1, h2⟩ := h
  refine eV_range h1 ht hX fun r w' X' hr hs hi => n r w' X' hr hs ?_
  have mv : Mv A w A w' := fun k hk _ => ⟨hk, hs.kp.block k (hA k hk)⟩
  exact ⟨es, c, es, hi, h2.mv hm mv, h2.mv hm mv, List.Sublist.refl _⟩
theorem m_next {ty r b : Nat} {kv : κ → Value} {rd : World → XS → Value → α → Prop} {l left : List (κ × α)} {N : Value → World → XS → Prop} (h : ItR w X A r b kv rd l left) (hm : MovesV rd)
    (hA : ∀ k, A k → X k ∧ k ≠ r) (hX : ∀ k, X k → k < w.heap.size)
    (n0 : left = [] → ∀ w' X', Since X w X' w' → N (.tuple #[.bool false]) w' X')
    (n1 : ∀ k a v, (k, a) ∈ left → ∀ w' X', Chg (· = r) X w X' w' → rd w' A v a → ItR w' X' A r b kv rd l (left.filter fun y => decide (y.1 ≠ k)) →
      (∀ wa, Kp X' w' wa → (Instr.entry (ptr r 0)).run P wa = .ok (.tuple #[kv k, v]) wa) → N (.tuple #[.bool true, kv k, v]) w' X') :
    eV P R X w true (Instr.next (ptr r 0) false ty) N := by
  obtain ⟨es, c, les, h1, h2, h3, h4⟩ := h
  refine eV_next h1 hX (fun h0 w' X' hs => n0 ?_ w' X' hs) fun x hx w' X' hg hi he => ?_
  · subst h0; cases left with
    | nil => rfl
    | cons y t => exact h3.elim
  · have hc : Chg (· = r) X w X' w' := hg.chg.mono fun k _ hk => by simpa using hk
    have mv : Mv A w A w' := fun k hk _ => ⟨hk, hc.block k (hA k hk).1 (hA k hk).2⟩
    obtain ⟨a, ha, hra⟩ := h3.mem x hx
    refine n1 x.1 a x.2.1 ha w' X' hc (hm _ _ _ _ _ _ hra mv) ?_ he
    have hk : ∀ y ∈ les, decide (y.2.2 ≠ x.2.2) = decide (y.1 ≠ x.1) := by
      intro y hy
      have hye := h4.subset hy
      have hxe := h4.subset hx
      have n1 := h1.1.2.2.1
      have n2 := h1.1.2.2.2.1
      obtain ⟨i, hi9, rfl⟩ := List.getElem_of_mem hye
      obtain ⟨j, hj, rfl⟩ := List.getElem_of_mem hxe
      have inj : ∀ {β : Type} (f : Ent κ → β), (es.map f).Nodup → (f es[i] = f es[j] ↔ i = j) := by
        intro β f n
        constructor
        · intro e
          have hp := List.pairwise_iff_getElem.1 n
          rcases Nat.lt_trichotomy i j with h | h | h
          · exact absurd (by rw [List.getElem_map, List.getElem_map]; exact e) (hp i j (by simpa using hi9) (by simpa using hj) h)
          · exact h
          · exact absurd (by rw [List.getElem_map, List.getElem_map]; exact e.symm) (hp j i (by simpa using hj) (by simpa using hi9) h)
        · rintro rfl; rfl
      have e1 := inj (·.1) n1
      have e2 := inj (·.2.2) n2
      simp only [ne_eq, e1, e2]
    have hf : (les.filter fun y => decide (y.2.2 ≠ x.2.2)) = les.filter fun y => decide (y.1 ≠ x.1) := List.filter_congr hk
    refine ⟨es, c, _, hi, h2.mv hm mv, ?_, ?_⟩
    · rw [hf]; exact (h3.filter (fun k => decide (k ≠ x.1))).mv hm mv
    · exact (List.filter_sublist).trans h4
theorem m_entry {r : Nat} {k v : Value} {N : Value → World → XS → Prop} (hX : ∀ k, X k → k < w.heap.size)
    (h : ∀ wa, Kp X w wa → (Instr.entry (ptr r 0)).run P wa = .ok (.tuple #[k, v]) wa) (n : ∀ w' X', Since X w X' w' → N (.tuple #[k, v]) w' X') :
    eV P R X w m (Instr.entry (ptr r 0)) N := eV_entry hX h n
def RepX (w : World) (A : XS) (rd : World → XS → Value → α → Prop) (k : κ) : List (Ent κ) → List (κ × α) → Prop
  | [], [] => True
  | e :: es, x :: l => e.1 = x.1 ∧ (x.1 ≠ k → rd w A e.2.1 x.2) ∧ RepX w A rd k es l
  | _, _ => False
theorem RepX.put {rd : World → XS → Value → α → Prop} {k : κ} {v : Value} {a : α} {c : Nat} (hv : rd w A v a) : ∀ {es : List (Ent κ)} {l : List (κ × α)}, (es.map (·.1)).Nodup → RepX w A rd k es l → Rep w A rd (putE' k v c es) (putM k a l)
  | [], [], _, _ => ⟨rfl, hv, trivial⟩
  | e :: es, x :: l, hn, ⟨h1, h2, h3⟩ => by
    have hn' := List.nodup_cons.1 hn
    unfold putE' putM
    by_cases hk : x.1 = k
    · rw [if_pos (h1.trans hk), if_pos hk]
      refine ⟨h1.trans hk, hv, ?_⟩
      have hne : ∀ y ∈ es, y.1 ≠ k := fun y hy e' => hn'.1 (List.mem_map.2 ⟨y, hy, e'.trans (hk.symm.trans h1.symm)⟩)
      clear hn hn' h1 h2
      induction es generalizing l with
      | nil => cases l <;> first | trivial | exact h3.elim
      | cons e2 es ih =>
        cases l with
        | nil => exact h3.elim
        | cons y l => exact ⟨h3.1, h3.2.1 (h3.1 ▸ hne e2 (by simp)), ih l h3.2.2 fun z hz => hne z (by simp [hz])⟩
    · rw [if_neg (by rw [h1]; exact hk), if_neg hk]; exact ⟨h1, h2 hk, RepX.put hv hn'.2 h3⟩
  | [], _ :: _, _, h => h.elim
  | _ :: _, [], _, h => h.elim
theorem mem_get {l : List (κ × α)} {k : κ} {a : α} (h : getM k l = some a) : (k, a) ∈ l := by
  unfold getM at h
  obtain ⟨x, hx, rfl⟩ := Option.map_eq_some_iff.1 h
  have h1 := List.mem_of_find?_eq_some hx
  have h2 : x.1 = k := by simpa using List.find?_some hx
  subst h2; exact h1
theorem getM_of_mem {l : List (κ × α)} (hn : (l.map (·.1)).Nodup) {k : κ} {a : α} (h : (k, a) ∈ l) : getM k l = some a := by
  induction l with
  | nil => cases h
  | cons x l ih =>
    have hn' := List.nodup_cons.1 hn
    rcases List.mem_cons.1 h with h | h
    · subst h; simp [getM]
    · have hx : x.1 ≠ k := fun e => hn'.1 (List.mem_map.2 ⟨(k, a), h, e.symm⟩)
      have := ih hn'.2 h
      simp only [getM, List.find?_cons, hx, decide_false, Bool.false_eq_true, if_false]
      exact this
theorem mem_putM {l : List (κ × α)} {k : κ} {a : α} : ∀ {x : κ × α}, (l.map (·.1)).Nodup → x ∈ putM k a l → x = (k, a) ∨ (x ∈ l ∧ x.1 ≠ k) := by
  induction l with
  | nil => intro x _ h; left; simpa [putM] using h
  | cons y l ih =>
    intro x hn h
    have hn' := List.nodup_cons.1 hn
    unfold putM at h
    split at h
    · rename_i hy
      rcases List.mem_cons.1 h with h | h
      · exact .inl h
      · exact .inr ⟨by simp [h], fun e => hn'.1 (List.mem_map.2 ⟨x, h, e.trans hy.symm⟩)⟩
    · rename_i hy
      rcases List.mem_cons.1 h with h | h
      · exact .inr ⟨by simp [h], by rw [h]; exact hy⟩
      · rcases ih hn'.2 h with h | ⟨h, h2⟩
        · exact .inl h
        · exact .inr ⟨by simp [h], h2⟩
theorem m_boxA {t : TypeId} {l : List Value} {N : Value → World → XS → Prop} (hX : ∀ k, X k → k < w.heap.size)
    (n : ∀ b w' X', w.heap.size ≤ b → Since X w X' w' → RowIs w' X' b l t → N (ptr b 0) w' X') : eV P R X w m (Instr.box t (.agg l.toArray)) N :=
  eV_box' hX fun b w' X' hb hs hx hr => n b w' X' hb hs ⟨hx, by simpa [Value.cells] using hr⟩
theorem m_boxS {t : TypeId} {v : Value} {N : Value → World → XS → Prop} (ho : one v = true) (hX : ∀ k, X k → k < w.heap.size)
    (n : ∀ b w' X', w.heap.size ≤ b → Since X w X' w' → RowIs w' X' b [v] t → N (ptr b 0) w' X') : eV P R X w m (Instr.box t v) N :=
  eV_box' hX fun b w' X' hb hs hx hr => n b w' X' hb hs ⟨hx, by
    have : v.cells.toList = [v] := by cases v <;> first | rfl | cases ho
    rw [this] at hr; exact hr⟩
theorem Since.refl' {w : World} {X : XS} (h : ∀ k, X k → k < w.heap.size) : Since X w X w := ⟨Kp.refl _ _, fun _ h => h, h⟩
theorem r_fdV1 {S f fo : Nat} {l : List Value} {v : Value} {N : Value → Prop} (hf : fieldInfo P S f = some (fo, 1)) (hg : fieldAgg P S f = some false) (hl : l[fo]? = some v) (k : N v) : rdV P X w (fdV S f fo 1 (.agg l.toArray)) N := by
  unfold fieldInfo at hf
  unfold fieldAgg at hg
  cases hu : P.underlying S with
  | none => simp [hu] at hf
  | some d =>
    cases d <;> simp only [hu] at hf <;> try (cases hf; done)
    rename_i fs
    cases hx : fs[f]? with
    | none => simp [hx] at hf
    | some x =>
      simp only [hx, Option.bind_some, hu] at hf hg
      cases hi : P.info? x.type with
      | none => simp [hi] at hf
      | some i =>
        simp only [hi, Option.map_some, Option.some.injEq, Prod.mk.injEq] at hf
        cases hd : P.underlying x.type with
        | none => simp [hd] at hg
        | some d2 =>
          refine rdV_pure (v := v) (fun wa => ?_) k
          have hagg : (isAgg x.type).run P wa = .ok false wa := by
            cases d2 <;> simp_all [isAgg, run_underlying hd]
          simp [fdV, Instr.field, run_underlying hu, hx, asAgg, part, hagg, hf.1, hl]
theorem r_fdVn {S f fo sz : Nat} {l l' : List Value} {N : Value → Prop} (hf : fieldInfo P S f = some (fo, sz)) (hg : fieldAgg P S f = some true) (hlen : decide (fo + sz ≤ l.length) = true) (hl : (l.drop fo).take sz = l')
    (k : N (.agg l'.toArray)) : rdV P X w (fdV S f fo sz (.agg l.toArray)) N := by
  subst hl
  unfold fieldInfo at hf
  unfold fieldAgg at hg
  cases hu : P.underlying S with
  | none => simp [hu] at hf
  | some d =>
    cases d <;> simp only [hu] at hf <;> try (cases hf; done)
    rename_i fs
    cases hx : fs[f]? with
    | none => simp [hx] at hf
    | some x =>
      simp only [hx, Option.bind_some, hu] at hf hg
      cases hi : P.info? x.type with
      | none => simp [hi] at hf
      | some i =>
        simp only [hi, Option.map_some, Option.some.injEq, Prod.mk.injEq] at hf
        cases hd : P.underlying x.type with
        | none => simp [hd] at hg
        | some d2 =>
          refine rdV_pure (v := .agg ((l.drop fo).take sz).toArray) (fun wa => ?_) k
          have hagg : (isAgg x.type).run P wa = .ok true wa := by
            cases d2 <;> simp_all [isAgg, run_underlying hd]
          have hle : fo + sz ≤ l.length := by simpa using hlen
          obtain ⟨rfl, rfl⟩ := hf
          simp [fdV, Instr.field, run_underlying hu, hx, asAgg, part, hagg, sizeOf, typeInfo, hi, hle]
theorem m_fun {f : FuncId} {la lc l : List Value} {N : Value → World → XS → Prop} (hl : la ++ lc = l) (h : eC P R X w m f l.toArray N) : eF P R X w m (.func (.func f) #[] lc.toArray) la.toArray N := by
  subst hl
  have e : ∀ wa, (callV (.func (.func f) #[] lc.toArray) la.toArray).run P wa = (callFunc f (la ++ lc).toArray).run P wa := by
    intro wa
    simp [callV, Deferred.ofValue, invoke]
  intro wa hk
  have := h wa hk
  rw [e wa]; exact this
theorem m_mkFun {fn : Fn} {a c : Array Value} {N : Value → Prop} (h : N (.func fn a c)) : rdV P X w (Instr.makeFunc fn a c) N := rdV_pure (fun wa => by simp [Instr.makeFunc]) h
theorem Ct.kp {f : FuncId} {args : Array Value} {F : XS} {Q : Value → World → World → Prop} (h : Ct P f args w X F Q) {w' : World} (hk : Kp X w w') : Ct P f args w' X F Q := fun wa hk' => h wa (hk.trans hk')
theorem Ct.since {f : FuncId} {args : Array Value} {F X' : XS} {Q : Value → World → World → Prop} (h : Ct P f args w X F Q) {w' : World} (hs : Since X w X' w') : Ct P f args w' X' F Q := fun wa hk' => h wa (hs.kp.trans (hk'.less hs.sub))
theorem Ct.old {f : FuncId} {args : Array Value} {F : XS} {Q : Value → World → World → Prop} (h : Ct P f args w X F Q) (hX : ∀ k, X k → k < w.heap.size) : Ct P f args w (Eng.old w) F Q :=
  fun wa hk' => h wa (hk'.less fun k hk => hX k hk)
def idxOf (p : α → Bool) : List α → Int
  | [] => -1
  | x :: l => if p x then 0 else let i := idxOf p l; if i < 0 then i else i + 1
theorem idxOf_any (p : α → Bool) : ∀ l : List α, decide (idxOf p l ≥ 0) = l.any p
  | [] => rfl
  | x :: l => by
    have ih := idxOf_any p l
    unfold idxOf
    by_cases hp : p x
    · simp [hp]
    · simp only [hp, Bool.false_eq_true, if_false, List.any_cons, Bool.false_or, ← ih]
      by_cases hi : idxOf p l < 0
      · simp [hi]
      · simp only [hi, if_false]; congr 1; simp; omega
theorem idxOf_at {p : α → Bool} {l : List α} {i : Nat} (h : ∀ k x, k < i → l[k]? = some x → p x = false) {x : α} (hx : l[i]? = some x) (hp : p x = true) : idxOf p l = i := by
  induction l generalizing i with
  | nil => simp at hx
  | cons y l ih =>
    cases i with
    | zero => simp only [List.getElem?_cons_zero, Option.some.injEq] at hx; subst hx; simp [idxOf, hp]
    | succ i =>
      have hy := h 0 y (by omega) rfl
      have := ih (i := i) (fun k z hk hz => h (k + 1) z (by omega) (by simpa using hz)) (by simpa using hx)
      simp only [idxOf, hy, Bool.false_eq_true, if_false, this]
      rw [if_neg (by omega)]; omega
theorem idxOf_none {p : α → Bool} {l : List α} (h : ∀ k x, k < l.length → l[k]? = some x → p x = false) : idxOf p l = -1 := by
  induction l with
  | nil => rfl
  | cons y l ih =>
    have hy := h 0 y (by simp) rfl
    have := ih fun k z hk hz => h (k + 1) z (by simpa using hk) (by simpa using hz)
    simp [idxOf, hy, this]
theorem Since.less {X0 Y0 : XS} {w0 : World} (h : Since X0 w0 X w) (hs : ∀ k, Y0 k → X0 k) : Since Y0 w0 X w := ⟨h.kp.less hs, fun k hk => h.sub k (hs k hk), h.has⟩
theorem Own.row {e k lo : Nat} {v : Value} {rows : List (List Value)} (h : Own w X lo e k v rows) : (v = .slice none 0 0 ∧ rows = []) ∨
    ∃ g cap cs, v = .slice (some ⟨g, 0, none⟩) rows.length cap ∧ lo ≤ g ∧ RowIs w X g cs e ∧ rows.length ≤ cap ∧ cap ≤ maxLen ∧ cs.length = cap * k ∧ cs.take (rows.length * k) = rows.flatten := by
  obtain ⟨h1, h2, h3⟩ := h
  rcases h2.2 with ⟨rfl, hn⟩ | ⟨g, cap, cur, rfl, hb, hg, hnc, hcm, hcs, ht⟩
  · exact .inl ⟨rfl, List.eq_nil_of_length_eq_zero hn⟩
  · exact .inr ⟨g, cap, cur.toList, rfl, hb, ⟨h3 g rfl, by simpa using hg⟩, hnc, hcm, by simpa using hcs, ht⟩
theorem m_ixO {t : TypeId} {k g n cap : Nat} {z : Int} {i : Nat} {N : Value → Prop} (hz : z = i) (hi : i < n) (ht : P.underlying t = some (.slice (P.elem t))) (hs : (P.info? (P.elem t)).map (·.size) = some k) (h : N (ptr g (i * k))) :
    rdV P X w (ixS t k (.slice (some ⟨g, 0, none⟩) n cap) (.int .i64 z)) N := by
  subst hz
  refine rdV_pure (v := ptr g (i * k)) (fun wa => ?_) h
  show (Instr.indexAt t _ _).run P wa = _
  rw [run_indexAt_slice (h := ht), if_pos (by omega)]
  cases hq : P.info? (P.elem t) with
  | none => simp [hq] at hs
  | some inf =>
    have : inf.size = k := by simpa [hq] using hs
    simp [sizeOf, typeInfo, hq, this, addr_add]
theorem m_st1 {t sz b o : Nat} {cs : List Value} {ty : TypeId} {v : Value} {N : Value → World → XS → Prop} (h : RowIs w X b cs ty) (ht : (P.info? t).map (·.size) = some sz)
    (hl : o + sz ≤ cs.length) (hv : v.cells.size = sz) (h1 : v.cells.toList.all one = true) (hX : ∀ k, X k → k < w.heap.size)
    (n : ∀ w' X', Chg (fun k => k = b) X w X' w' → RowIs w' X' b (setL cs o v.cells.toList) ty → N undef w' X') : eU P R X w true (st1 t sz (ptr b o) v) N :=
  eU_store h ht hl hv h1 hX fun w' X' hg hr => n w' X' (hg.chg.mono fun k _ hk => by simpa using hk) hr
end Go.Eng
namespace Go.Eng
variable {P : Program}
def litOk (P : Program) (t e k : Nat) : Bool := match P.underlying t, P.info? e with
  | some (.slice e'), some i => e' == e && i.size == k && (match i.zero with | some z => z.cells.size == k | none => false) && decide (0 < k) && decide (k ≤ 2 ^ 20)
  | _, _ => false
theorem litOk_iff {t e k : Nat} (h : litOk P t e k = true) : P.underlying t = some (.slice e) ∧ 0 < k ∧ k ≤ 2 ^ 20 ∧ ∃ z : Value, (P.info? e).bind (fun i => i.zero.map fun z => (i.size, z)) = some (k, z) := by
  unfold litOk at h
  split at h
  · rename_i e' i hu hi
    simp only [Bool.and_eq_true, beq_iff_eq, decide_eq_true_eq] at h
    obtain ⟨⟨⟨⟨rfl, h2⟩, h4⟩, h5⟩, h6⟩ := h
    cases hz : i.zero with
    | none => simp [hz] at h4
    | some z => exact ⟨hu, h5, h6, z, by simp [hi, hz, h2]⟩
  · cases h
section
variable {w : World} {X : XS} {R : Ending → World → Prop} {t e k : Nat} {m : Bool} {N : Value → World → XS → Prop}
theorem m_bs1 {l : List Value} (hX : ∀ k, X k → k < w.heap.size) (he : litOk P t e k = true) (hk : (l.length == k) = true)
    (n : ∀ v w' X', Since X w X' w' → Own w' X' w.heap.size e k v [l] → N v w' X') : eV P R X w m (bsS t e k 1 #[(0, .agg l.toArray)]) N := by
  obtain ⟨hu, h0, h1, z, hz⟩ := litOk_iff he
  have hk' : l.length = k := by simpa using hk
  refine eV_slice (rows := [l]) l.toArray z hX hu hz (by omega) (by omega) ?_ (by simpa using hk') rfl (by simp) n
  simp only [Nat.one_mul]
  exact fill_one (x := .agg l.toArray) (by simpa [Value.cells] using hk') (by simp)
end
def isPtr (P : Program) (t : TypeId) : Bool := match P.underlying t with
  | some (.pointer _) => true
  | _ => false
theorem isPtr_iff {t : TypeId} (h : isPtr P t = true) : P.underlying t = some (.pointer (P.pointee t)) := by
  unfold isPtr at h
  split at h
  · rename_i e he; simp [Program.pointee, he]
  · cases h
section
variable {w : World} {X : XS} {N : Value → Prop} {t : TypeId} {xo yo : Operand}
theorem m_pnilF {a : Addr} (ht : isPtr P t = true) (k : N (.bool false)) : rdV P X w (binS .eql t xo yo (.pointer (some a)) (.pointer none)) N := rdV_pnil (p := some a) (isPtr_iff ht) k
theorem m_pnilT (ht : isPtr P t = true) (k : N (.bool true)) : rdV P X w (binS .eql t xo yo (.pointer none) (.pointer none)) N := rdV_pnil (p := none) (isPtr_iff ht) k
theorem m_pneF {a : Addr} (ht : isPtr P t = true) (k : N (.bool true)) : rdV P X w (binS .neq t xo yo (.pointer (some a)) (.pointer none)) N := by
  refine rdV_pure (fun wa => ?_) k
  have := run_neq_pointer_nil (P := P) (w := wa) t (some a) (isPtr_iff ht)
  simp [binS, eqGuard, this]
theorem m_pneT (ht : isPtr P t = true) (k : N (.bool false)) : rdV P X w (binS .neq t xo yo (.pointer none) (.pointer none)) N := by
  refine rdV_pure (fun wa => ?_) k
  have := run_neq_pointer_nil (P := P) (w := wa) t none (isPtr_iff ht)
  simp [binS, eqGuard, this]
end
end Go.Eng
namespace Go.Eng
variable {P : Program} {R : Ending → World → Prop} {X : XS} {w : World} {m : Bool}
section
variable {t ty e k bytes lo : Nat} {v x s : Value} {rows rows2 : List (List Value)} {row : List Value} {N : Value → World → XS → Prop}
theorem m_app1x (own : Own w X lo e k v rows) (hX : ∀ k, X k → k < w.heap.size) (hlo : lo ≤ w.heap.size) (he : elemOk P t e k bytes = true) (hx : x.cells.toList = row) (hk : (row.length == k) = true)
    (h1 : row.all one = true) (hb : (rows.length + 1) * bytes ≤ 140737488355328) (hl : rows.length + 1 ≤ 2 ^ 63 - 1)
    (n : ∀ v' w' X', Chg (blk v) X w X' w' → Own w' X' lo e k v' (rows ++ [row]) → (v'.ownBlock = v.ownBlock ∨ ∃ g, v'.ownBlock = some g ∧ w.heap.size ≤ g) → N v' w' X') :
    eV P R X w m (bsS t e k 1 #[(0, x)]) fun s w1 X1 => eV P R X1 w1 true (apS t e k bytes ty v s) N := by
  obtain ⟨hu, hk0, hk1, z, hi, hz, hzs⟩ := elemOk_iff he
  have hk' : row.length = k := by simpa using hk
  have hxs : x.cells.size = k := by rw [← hk', ← hx, Array.length_toList]
  refine eV_slice (rows := [row]) x.cells z hX hu hz (by omega) (by omega) ?_ (by simpa using hk') rfl (by simpa using hx) fun s w1 X1 hs1 hso => ?_
  · simp only [Nat.one_mul]
    exact fill_one hxs (by simp)
  · have hlo1 : lo ≤ w1.heap.size := Nat.le_trans hlo hs1.kp.size
    refine eV_append (rows2 := [row]) z hu hi hzs hk0 hs1.has hlo1 (own.since hs1) hso.sl (by simpa using h1) (by simpa using hb) (by simpa using hl) fun v2 w2 X2 hg ho hat => ?_
    refine n v2 w2 X2 ((Chg.of_since hs1 (blk v)).trans (hg.chg.mono fun k _ hk => hk.symm)) ho ?_
    rcases hat with h | ⟨g, h, hge⟩
    · exact .inl h
    · exact .inr ⟨g, h, Nat.le_trans hs1.kp.size hge⟩
end
def txt (s : ByteArray) : List Value := s.data.toList.map fun b => .int .u8 b.toNat
theorem len_txt (s : ByteArray) : (txt s).length = s.size := by unfold txt; rw [List.length_map, Array.length_toList]; rfl
theorem first_txt (s : ByteArray) : (Builtin.firstCells 1 s.size (.string s)) = (pure (txt s).toArray : Sem (Array Value)) := by
  have hx : (s.extract 0 s.size) = s := by
    apply ByteArray.ext
    simp [ByteArray.data_extract]
  show (pure ((s.extract 0 s.size).data.map fun b => Value.int .u8 b.toNat) : Sem (Array Value)) = _
  rw [hx]
  congr 1
  apply Array.ext'
  simp [txt]
theorem run_append_room_str (t u ty e : TypeId) (i : TypeInfo) (ht : P.underlying t = some (.slice e)) (hu : P.underlying u = some .string) (hi : P.info? e = some i) (h1 : i.size = 1)
    (g sLen sCap : Nat) (cur : Array Value) (hg : w.heap[g]? = some (.cells cur e (0, 0))) (s : ByteArray) (hroom : sLen + s.size ≤ sCap) (hfit : sLen + s.size ≤ cur.size) :
    (Builtin.append_ #[t, u] ty #[.slice (some ⟨g, 0, none⟩) sLen sCap, .string s]).run P w =
      .ok (.slice (some ⟨g, 0, none⟩) (sLen + s.size) sCap) (w.setRow g (cur.toList.take sLen ++ txt s ++ cur.toList.drop (sLen + s.size)).toArray) := by
  have hst := run_storeCells_at P g sLen e (txt s) 0 cur w hg (by rw [len_txt]; simpa using hfit) (fun v hv => by
    unfold txt at hv
    obtain ⟨b, _, rfl⟩ := List.mem_map.1 hv; rfl)
  simp only [Nat.add_zero, len_txt] at hst
  simp [Builtin.append_, run_underlying ht, run_underlying hu, sizeOf, typeInfo, hi, Builtin.lenOf, hroom, h1, first_txt, Addr.add_lit, hst]
theorem run_append_grow_str (t u ty e : TypeId) (i : TypeInfo) (z : Value) (ht : P.underlying t = some (.slice e)) (hu : P.underlying u = some .string) (hi : P.info? e = some i) (hz : i.zero = some z) (h1 : i.size = 1)
    (b : Addr) (sLen sCap : Nat) (olds : List Value) (hlo : olds.length = sLen) (holds : ∀ j v, olds[j]? = some v → w.cell? (b.add j) = some v) (s : ByteArray)
    (hg : sCap < sLen + s.size) (h63 : ((sLen + s.size : Nat) : Int) ≤ 9223372036854775807) (hfit : Builtin.nextslicecap (sLen + s.size) sCap * i.bytes ≤ 281474976710656) :
    (Builtin.append_ #[t, u] ty #[.slice (some b) sLen sCap, .string s]).run P w =
      .ok (.slice (some ⟨w.heap.size, 0, none⟩) (sLen + s.size) (grownCap w (sLen + s.size) sCap e))
        (w.drew.alloc (.cells (olds.toArray ++ (txt s).toArray ++ Builtin.zeroCells z.cells (grownCap w (sLen + s.size) sCap e - (sLen + s.size))) e)) := by
  have hn : ¬ (sLen + s.size ≤ sCap) := by omega
  have h63' : ¬ (9223372036854775807 < ((sLen : Int) + (s.size : Int))) := by omega
  have h48' : ¬ (281474976710656 < Builtin.nextslicecap (sLen + s.size) sCap * i.bytes) := by omega
  have hfo := run_firstCells_some (P := P) w.drew 1 sLen b sLen sCap olds (by omega) (by simpa using holds)
  simp [Builtin.append_, run_underlying ht, run_underlying hu, sizeOf, typeInfo, zeroValue, hi, hz, Builtin.lenOf, hn, h63', h48', Question.forced, first_txt, h1, hfo, newRow, grownCap]
  congr 2
  apply Array.ext'
  simp [List.append_assoc]
theorem run_append_own_str (base : Nat) (t u ty e : TypeId) (i : TypeInfo) (z : Value) (bytes : Nat) (ht : P.underlying t = some (.slice e)) (hu : P.underlying u = some .string) (hi : P.info? e = some i) (hz : i.zero = some z)
    (h1 : i.size = 1) (hby : i.bytes = bytes) (hzs : z.cells.size = 1) (v : Value) (n : Nat) (xs : List Value) (hown : w.ownsRow base e 1 v n xs) (s : ByteArray)
    (h63 : n + s.size ≤ maxLen) (hbytes : (n + s.size) * bytes ≤ 140737488355328) (hbase : base ≤ w.heap.size) :
    ∃ v' w', (Builtin.append_ #[t, u] ty #[v, .string s]).run P w = .ok v' w' ∧ w'.ownsRow base e 1 v' (n + s.size) (xs ++ txt s) ∧ w.grownBy w' v.ownBlock ∧ (v'.ownBlock = v.ownBlock ∨ v'.ownBlock = some w.heap.size) := by
  subst hby
  have hsmall : n + s.size ≤ 9223372036854775807 := by simp only [maxLen] at h63; omega
  have hl := len_txt s
  have hxl : xs.length = n := by simpa using hown.1
  have hlen : (xs ++ txt s).length = (n + s.size) * 1 := by rw [List.length_append, hxl, hl]; omega
  have grown : ∀ (old : Nat), old < n + s.size → ∀ (row : Option Nat),
      (w.drew.alloc (.cells (xs.toArray ++ (txt s).toArray ++ Builtin.zeroCells z.cells (grownCap w (n + s.size) old e - (n + s.size))) e)).ownsRow base e 1
        (.slice (some ⟨w.heap.size, 0, none⟩) (n + s.size) (grownCap w (n + s.size) old e)) (n + s.size) (xs ++ txt s) ∧
      w.grownBy (w.drew.alloc (.cells (xs.toArray ++ (txt s).toArray ++ Builtin.zeroCells z.cells (grownCap w (n + s.size) old e - (n + s.size))) e)) row := by
    intro old ho row
    have hge := grownCap_ge w (n + s.size) old e
    have hcm : grownCap w (n + s.size) old e ≤ maxLen := grownCap_le_maxLen w (n + s.size) old e h63
    refine ⟨⟨hlen, .inr ⟨w.heap.size, _, _, rfl, hbase, heap_alloc_new w.drew _, hge, hcm, ?_, ?_⟩⟩, ⟨rfl, rfl, rfl, by simp, fun k hk _ => by first | exact heap_alloc_old w.drew _ k hk | exact heap_alloc_old w.drew _ hk⟩⟩
    · simp only [Array.size_append, List.size_toArray, size_zeroCells, hzs, hxl, hl]
      omega
    · simp only [Array.toList_append, List.append_assoc]
      rw [← List.append_assoc, ← hlen]
      exact List.take_left
  rcases hown.2 with ⟨rfl, rfl⟩ | ⟨g, cap, cur, rfl, hbg, hg, hnc, hcm, hcs, htake⟩
  · have hx : xs = [] := List.eq_nil_of_length_eq_zero hxl
    subst hx
    by_cases hm : s.size = 0
    · have hn : txt s = [] := List.eq_nil_of_length_eq_zero (by rw [hl, hm])
      refine ⟨.slice none 0 0, w, ?_, by rw [hm, hn]; exact World.ownsRow_nil w base e 1, ⟨rfl, rfl, rfl, Nat.le_refl _, fun _ _ _ => rfl⟩, Or.inl rfl⟩
      have hf := first_txt s
      rw [hm, hn] at hf
      simp [Builtin.append_, run_underlying ht, run_underlying hu, sizeOf, typeInfo, hi, Builtin.lenOf, hm, h1, hf]
    · have hr := run_append_nil_string (P := P) w t u ty e i z ht hu hi hz s (by omega) (by omega) (by have hb := hbytes; simp only [Nat.zero_add] at hb; omega)
      have hgr := grown 0 (by omega) (Value.ownBlock (.slice none 0 0))
      have he : (s.data.map fun b : UInt8 => Value.int .u8 b.toNat) = (txt s).toArray := by
        apply Array.ext'; simp [txt]
      rw [he] at hr
      simp only [Nat.zero_add, List.nil_append, Array.empty_append] at hgr ⊢
      exact ⟨_, _, hr, hgr.1, hgr.2, Or.inr rfl⟩
  · rw [Nat.mul_one] at hcs htake
    by_cases hroom : n + s.size ≤ cap
    · have hfit : n + s.size ≤ cur.size := by rw [hcs]; exact hroom
      have hr := run_append_room_str (P := P) (w := w) t u ty e i ht hu hi h1 g n cap cur hg s hroom hfit
      refine ⟨_, _, hr, ⟨hlen, .inr ⟨g, cap, _, rfl, hbg, setRow_heap w g cur _ e _ hg, hroom, hcm, ?_, ?_⟩⟩, ⟨rfl, rfl, rfl, by simp, fun k _ hk => setRow_other w g k _ (fun e => hk (by simp [Value.ownBlock, e]))⟩, Or.inl rfl⟩
      · simp only [List.size_toArray, List.length_append, List.length_take, List.length_drop, Array.length_toList, hl]
        omega
      · rw [htake, ← hlen]
        exact List.take_left
    · have holds : ∀ j u, xs[j]? = some u → w.cell? ((⟨g, 0, none⟩ : Addr).add j) = some u := hown.cells (g := g) rfl
      have hr := run_append_grow_str (P := P) (w := w) t u ty e i z ht hu hi hz h1 ⟨g, 0, none⟩ n cap xs hxl holds s (by omega) (by omega) (growslice_fits (by omega) hbytes)
      have hgr := grown cap (by omega) (Value.ownBlock (.slice (some ⟨g, 0, none⟩) n cap))
      exact ⟨_, _, hr, hgr.1, hgr.2, Or.inr rfl⟩
theorem m_appT {t u ty e bytes lo : Nat} {v : Value} {s : ByteArray} {rows : List (List Value)} {N : Value → World → XS → Prop} (own : Own w X lo e 1 v rows) (hX : ∀ k, X k → k < w.heap.size) (hlo : lo ≤ w.heap.size)
    (he : elemOk P t e 1 bytes = true) (hu : P.underlying u = some .string) (hb : (rows.length + s.size) * bytes ≤ 140737488355328) (hl : rows.length + s.size ≤ 2 ^ 63 - 1)
    (n : ∀ v' w' X', Chg (blk v) X w X' w' → Own w' X' lo e 1 v' (rows ++ (txt s).map fun x => [x]) → (v'.ownBlock = v.ownBlock ∨ ∃ g, v'.ownBlock = some g ∧ w.heap.size ≤ g) → N v' w' X') :
    eV P R X w true (Builtin.append_ #[t, u] ty #[v, .string s]) N := by
  obtain ⟨ht, hk0, hk1, z, hi, hz, hzs⟩ := elemOk_iff he
  intro wa hk
  have own := own.kp hk
  cases hq : P.info? e with
  | none => simp [hq] at hi
  | some ie =>
    cases hzz : ie.zero with
    | none => simp [hq, hzz] at hi
    | some z' =>
      simp only [hq, hzz, Option.bind_some, Option.map_some, Option.some.injEq, Prod.mk.injEq] at hi
      obtain ⟨h1, rfl, rfl⟩ := hi
      unfold effW
      obtain ⟨v', w', hr, how, hg, hat⟩ := run_append_own_str (P := P) (w := wa) lo t u ty e ie z' ie.bytes ht hu hq hzz h1 rfl hzs v rows.length rows.flatten own.2.1 s hl hb (Nat.le_trans hlo hk.size)
      simp only [vS, Sem.run_bind, hr, Result.andThen_ok, Sem.run_pure]
      have hfl : ((txt s).map fun x => [x]).flatten = txt s := by
        induction txt s with
        | nil => rfl
        | cons a l ih => simp [ih]
      refine ⟨⟨hg.os, hg.tape, hg.output, hg.size, fun k hkl hnx => hg.block k hkl fun e => hnx (own.2.2 k e.symm)⟩, n _ _ _ ?_ ⟨?_, ?_, ?_⟩ ?_⟩
      · exact ⟨hg.os.trans hk.os, hg.tape.trans hk.tape, hg.output.trans hk.output, Nat.le_trans hk.size hg.size,
          fun k hx hne => (hg.block k (Nat.lt_of_lt_of_le (hX k hx) hk.size) fun e => hne e.symm).trans (hk.block k hx), fun k h => .inl h,
          fun k h => h.elim (fun h => Nat.lt_of_lt_of_le (hX k h) (Nat.le_trans hk.size hg.size)) (fun h => h.2)⟩
      · intro r hr
        rcases List.mem_append.1 hr with h | h
        · exact own.1 r h
        · obtain ⟨x, _, rfl⟩ := List.mem_map.1 h; rfl
      · rw [List.length_append, List.length_map, len_txt, List.flatten_append, hfl]; exact how
      · intro g hgg
        rcases hat with h | h
        · exact .inl (own.2.2 g (h ▸ hgg))
        · rw [hgg] at h; cases h
          exact .inr ⟨Nat.le_refl _, (how.lt _ hgg).2⟩
      · rcases hat with h | h
        · exact .inl h
        · exact .inr ⟨_, h, hk.size⟩
theorem m_fun1 {f : FuncId} {a b : Value} {N : Value → World → XS → Prop} (h : eC P R X w m f #[a, b] N) : eF P R X w m (.func (.func f) #[a] #[]) #[b] N := by
  have e : ∀ wa, (callV (.func (.func f) #[a] #[]) #[b]).run P wa = (callFunc f #[a, b]).run P wa := by
    intro wa
    simp [callV, Deferred.ofValue, invoke]
  intro wa hk
  have := h wa hk
  rw [e wa]; exact this
end Go.Eng
set_option linter.unusedVariables false
set_option linter.unusedSimpArgs false
namespace Go.Eng
variable {P : Program} {R : Ending → World → Prop} {X : XS} {w : World} {m : Bool}
def Ow (w : World) (X : XS) (e k : Nat) (v : Value) (rows : List (List Value)) : Prop :=
  (∀ r ∈ rows, r.length = k) ∧ ((v = .slice none 0 0 ∧ rows = []) ∨ ∃ g off cap cur, v = .slice (some ⟨g, off, none⟩) rows.length cap ∧ X g ∧ w.heap[g]? = some (.cells cur e (0, 0)) ∧
    rows.length ≤ cap ∧ cap ≤ maxLen ∧ off + cap * k ≤ cur.size ∧ (cur.toList.drop off).take (rows.length * k) = rows.flatten)
theorem Ow.nil (w : World) (X : XS) (e k : Nat) : Ow w X e k (.slice none 0 0) [] := ⟨by simp, .inl ⟨rfl, rfl⟩⟩
theorem Own.ow {lo e k : Nat} {v : Value} {rows : List (List Value)} (h : Own w X lo e k v rows) : Ow w X e k v rows := by
  obtain ⟨h1, h2, h3⟩ := h
  refine ⟨h1, ?_⟩
  rcases h2.2 with ⟨rfl, hn⟩ | ⟨g, cap, cur, rfl, hb, hg, hnc, hcm, hcs, ht⟩
  · exact .inl ⟨rfl, List.eq_nil_of_length_eq_zero hn⟩
  · exact .inr ⟨g, 0, cap, cur, rfl, h3 g rfl, hg, hnc, hcm, by omega, by rw [List.drop_zero]; exact ht⟩
theorem Ow.sl {e k : Nat} {v : Value} {rows : List (List Value)} (h : Ow w X e k v rows) : Sl w X k v rows := by
  obtain ⟨h1, ⟨rfl, rfl⟩ | ⟨g, off, cap, cur, rfl, hx, hg, hnc, hcm, hcs, ht⟩⟩ := h
  · exact Sl.nil w X k
  · have hm : cap ≤ 2 ^ 63 - 1 := hcm
    refine ⟨h1, Nat.le_trans hnc hm, _, cap, rfl, fun _ => ⟨g, off, rfl, hx, cur, e, (0, 0), hg, fun j v hj => ?_⟩, by simp, hnc, hm⟩
    rw [← ht, List.getElem?_take, List.getElem?_drop] at hj
    split at hj
    · simpa using hj
    · cases hj
theorem Ow.one {e k : Nat} {v : Value} {rows : List (List Value)} (h : Ow w X e k v rows) : one v = true := h.sl.one
theorem Ow.mono {e k : Nat} {v : Value} {rows : List (List Value)} {Y : XS} (h : Ow w X e k v rows) (hs : ∀ k, X k → Y k) : Ow w Y e k v rows := by
  obtain ⟨h1, h | ⟨g, off, cap, cur, hv, hx, hr⟩⟩ := h
  · exact ⟨h1, .inl h⟩
  · exact ⟨h1, .inr ⟨g, off, cap, cur, hv, hs _ hx, hr⟩⟩
theorem Ow.mv {e k : Nat} {v : Value} {rows : List (List Value)} {w' : World} {Y : XS} (h : Ow w X e k v rows) (m : Mv X w Y w') : Ow w' Y e k v rows := by
  obtain ⟨h1, h | ⟨g, off, cap, cur, hv, hx, hg, hr⟩⟩ := h
  · exact ⟨h1, .inl h⟩
  · obtain ⟨m1, m2⟩ := m g hx (Array.getElem?_eq_some_iff.1 hg).1
    exact ⟨h1, .inr ⟨g, off, cap, cur, hv, m1, by rw [m2]; exact hg, hr⟩⟩
theorem Ow.kp {e k : Nat} {v : Value} {rows : List (List Value)} {w' : World} (h : Ow w X e k v rows) (hk : Kp X w w') : Ow w' X e k v rows := by
  obtain ⟨h1, h | ⟨g, off, cap, cur, hv, hx, hg, hr⟩⟩ := h
  · exact ⟨h1, .inl h⟩
  · exact ⟨h1, .inr ⟨g, off, cap, cur, hv, hx, by rw [hk.block g hx]; exact hg, hr⟩⟩
theorem Ow.inX {e k : Nat} {v : Value} {rows : List (List Value)} (h : Ow w X e k v rows) {g : Nat} (hg : v.ownBlock = some g) : X g ∧ g < w.heap.size := by
  obtain ⟨h1, ⟨rfl, _⟩ | ⟨g', off, cap, cur, rfl, hx, hb, hr⟩⟩ := h
  · cases hg
  · simp only [Value.ownBlock, Option.some.injEq] at hg; subst hg
    exact ⟨hx, (Array.getElem?_eq_some_iff.1 hb).1⟩
theorem Ow.tag {e k : Nat} {v : Value} {rows : List (List Value)} (h : Ow w X e k v rows) {g : Nat} (hg : v.ownBlock = some g) : ∃ cs : List Value, w.heap[g]? = some (.cells cs.toArray e (0, 0)) := by
  obtain ⟨h1, ⟨rfl, _⟩ | ⟨g', off, cap, cur, rfl, hx, hb, hr⟩⟩ := h
  · cases hg
  · simp only [Value.ownBlock, Option.some.injEq] at hg; subst hg
    exact ⟨cur.toList, by simpa using hb⟩
theorem Ow.neRow {Y : XS} {e e' k g : Nat} {v : Value} {rows : List (List Value)} {cs : List Value} (h : Ow w X e k v rows) (hr : RowIs w Y g cs e') (he : decide (e ≠ e') = true) : v.ownBlock ≠ some g := fun hg => by
  obtain ⟨c, h1⟩ := h.tag hg
  rw [hr.2] at h1
  simp only [Option.some.injEq, Obj.cells.injEq] at h1
  exact of_decide_eq_true he h1.2.1.symm
theorem Ow.chg {F X' : XS} {w' : World} {e k : Nat} {v : Value} {rows : List (List Value)} (h : Ow w X e k v rows) (c : Chg F X w X' w') (hd : ∀ g, v.ownBlock = some g → ¬ F g) : Ow w' X' e k v rows := by
  obtain ⟨h1, h | ⟨g, off, cap, cur, rfl, hx, hg, hr⟩⟩ := h
  · exact ⟨h1, .inl h⟩
  · exact ⟨h1, .inr ⟨g, off, cap, cur, rfl, c.sub g hx, by rw [c.block g hx (hd g rfl)]; exact hg, hr⟩⟩
theorem Ow.tight {e k : Nat} {v : Value} {rows : List (List Value)} (h : Ow w X e k v rows) : Ow w (blk v) e k v rows := by
  obtain ⟨h1, h | ⟨g, off, cap, cur, rfl, hx, hr⟩⟩ := h
  · exact ⟨h1, .inl h⟩
  · exact ⟨h1, .inr ⟨g, off, cap, cur, rfl, rfl, hr⟩⟩
theorem run_append_roomO (t ty e : TypeId) (i : TypeInfo) (ht : P.underlying t = some (.slice e)) (hi : P.info? e = some i)
    (g off sLen sCap : Nat) (cur : Array Value) (hg : w.heap[g]? = some (.cells cur e (0, 0)))
    (a : Addr) (m c : Nat) (news : List Value) (hl : news.length = m * i.size) (hnews : ∀ j u, news[j]? = some u → w.cell? (a.add j) = some u) (h1 : ∀ u ∈ news, u.oneCell' = true)
    (hroom : sLen + m ≤ sCap) (hfit : off + sLen * i.size + news.length ≤ cur.size) :
    (Builtin.append_ #[t, t] ty #[.slice (some ⟨g, off, none⟩) sLen sCap, .slice (some a) m c]).run P w =
      .ok (.slice (some ⟨g, off, none⟩) (sLen + m) sCap) (w.setRow g (cur.toList.take (off + sLen * i.size) ++ news ++ cur.toList.drop (off + sLen * i.size + news.length)).toArray) := by
  have hf := run_firstCells_some (P := P) w i.size m a m c news hl hnews
  have hst := run_storeCells_at P g (off + sLen * i.size) e news 0 cur w hg (by simpa using hfit) h1
  simp only [Nat.add_zero] at hst
  simp [Builtin.append_, run_underlying ht, sizeOf, typeInfo, hi, Builtin.lenOf, hroom, hf, Addr.add_lit, hst]
theorem run_append_noneO (t ty e : TypeId) (i : TypeInfo) (ht : P.underlying t = some (.slice e)) (hi : P.info? e = some i)
    (b : Addr) (sLen sCap : Nat) (hroom : sLen ≤ sCap) :
    (Builtin.append_ #[t, t] ty #[.slice (some b) sLen sCap, .slice none 0 0]).run P w = .ok (.slice (some b) sLen sCap) w := by
  simp [Builtin.append_, run_underlying ht, sizeOf, typeInfo, hi, Builtin.lenOf, hroom, Builtin.firstCells, storeCells]
theorem eV_apO {t ty e k bytes : Nat} {v s : Value} {rows rows2 : List (List Value)} {N : Value → World → XS → Prop}
    (he : elemOk P t e k bytes = true)
    (hX : ∀ k, X k → k < w.heap.size) (own : Ow w X e k v rows) (src : Sl w X k s rows2) (h1 : ∀ r ∈ rows2, ∀ u ∈ r, one u = true)
    (hb : (rows.length + rows2.length) * bytes ≤ 140737488355328) (hl : rows.length + rows2.length ≤ 2 ^ 63 - 1)
    (n : ∀ v' w' X', Chg (blk v) X w X' w' → Ow w' X' e k v' (rows ++ rows2) → (v'.ownBlock = v.ownBlock ∨ ∃ g, v'.ownBlock = some g ∧ w.heap.size ≤ g) → N v' w' X') :
    eV P R X w true (apS t e k bytes ty v s) N := by
  obtain ⟨hu, hk0, hk1, z, hi, hz2, hzs⟩ := elemOk_iff he
  obtain ⟨hr1, ⟨rfl, rfl⟩ | ⟨g, off, cap, cur, rfl, hx, hg, hnc, hcm, hcs, htk⟩⟩ := own
  · exact eV_append (rows := []) (rows2 := rows2) z hu hi hzs hk0 hX (Nat.zero_le _) (Own.nil w X 0 e k) src h1 hb hl fun v2 w2 X2 hg ho hat =>
      n v2 w2 X2 (hg.chg.mono fun k _ hk => hk.symm) ho.ow hat
  · intro wa hk
    have hg' : wa.heap[g]? = some (.cells cur e (0, 0)) := by rw [hk.block g hx]; exact hg
    have src := src.kp hk
    cases hq : P.info? e with
    | none => simp [hq] at hi
    | some ie =>
      cases hzz : ie.zero with
      | none => simp [hq, hzz] at hi
      | some z' =>
        simp only [hq, hzz, Option.bind_some, Option.map_some, Option.some.injEq, Prod.mk.injEq] at hi
        obtain ⟨rfl, rfl, rfl⟩ := hi
        unfold apS effW
        rcases src.src with ⟨rfl, rfl⟩ | ⟨a, c, rfl, hcell⟩
        · have hr := run_append_noneO (P := P) (w := wa) t ty e ie hu hq ⟨g, off, none⟩ rows.length cap hnc
          simp only [vS, Sem.run_bind, hr, Result.andThen_ok, Sem.run_pure]
          have hx' := Ext.refl wa
          have hs := Since.of_ext hX hk hx'
          refine ⟨Step.of_ext hx', n _ _ _ (Chg.of_since hs _) ?_ (.inl rfl)⟩
          rw [List.append_nil]
          exact ⟨hr1, .inr ⟨g, off, cap, cur, rfl, .inl hx, hg', hnc, hcm, hcs, htk⟩⟩
        · have hlen2 : rows2.flatten.length = rows2.length * ie.size := flat_len src.1
          have hlen1 : rows.flatten.length = rows.length * ie.size := flat_len hr1
          have hone : ∀ u ∈ rows2.flatten, u.oneCell' = true := fun u hu => by
            obtain ⟨r, hr, hur⟩ := List.mem_flatten.1 hu
            rw [← one_eq]; exact h1 r hr u hur
          have hrows : ∀ r ∈ rows ++ rows2, r.length = ie.size := fun r hr => by
            rcases List.mem_append.1 hr with h | h
            · exact hr1 r h
            · exact src.1 r h
          have hsumm : rows.length + rows2.length ≤ maxLen := hl
          by_cases hroom : rows.length + rows2.length ≤ cap
          · have hmul : (rows.length + rows2.length) * ie.size ≤ cap * ie.size := Nat.mul_le_mul_right _ hroom
            rw [Nat.add_mul] at hmul
            have hr := run_append_roomO (P := P) (w := wa) t ty e ie hu hq g off rows.length cap cur hg' a rows2.length c rows2.flatten hlen2 hcell hone hroom (by omega)
            simp only [vS, Sem.run_bind, hr, Result.andThen_ok, Sem.run_pure]
            have hoth : ∀ k, k ≠ g → (wa.setRow g (cur.toList.take (off + rows.length * ie.size) ++ rows2.flatten ++ cur.toList.drop (off + rows.length * ie.size + rows2.flatten.length)).toArray).heap[k]? = wa.heap[k]? := fun k hk => setRow_other wa g k _ hk
            refine ⟨⟨rfl, rfl, rfl, by simp, fun k hkl hnx => hoth k fun e => hnx (e ▸ hx)⟩, n _ _ _ ?_ ⟨hrows, .inr ⟨g, off, cap, _, by rw [List.length_append], .inl hx, setRow_heap wa g cur _ e _ hg', by rw [List.length_append]; exact hroom, hcm, ?_, ?_⟩⟩ (.inl rfl)⟩
            · exact ⟨hk.os, hk.tape, hk.output, by simpa using hk.size, fun k hx' hne => (hoth k fun e => hne (by rw [e]; rfl)).trans (hk.block k hx'), fun k h => .inl h,
                fun k h => h.elim (fun h => by have := hX k h; have := hk.size; simp; omega) (fun h => h.2)⟩
            · simp only [List.size_toArray, List.length_append, List.length_take, List.length_drop, Array.length_toList]
              omega
            · have hsz : off ≤ cur.toList.length := by rw [Array.length_toList (xs := cur)]; omega
              have e1 : (cur.toList.take (off + rows.length * ie.size)).drop off = rows.flatten := by
                rw [List.drop_take, show off + rows.length * ie.size - off = rows.length * ie.size by omega, htk]
              have hl1 : (cur.toList.take (off + rows.length * ie.size)).length = off + rows.length * ie.size := by rw [List.length_take, Array.length_toList (xs := cur)]; omega
              rw [List.append_assoc, List.drop_append_of_le_length (by omega), e1, List.length_append, Nat.add_mul, List.flatten_append, ← List.append_assoc, ← hlen1, ← hlen2, ← List.length_append]
              exact List.take_left
          · have holds : ∀ j u, rows.flatten[j]? = some u → wa.cell? ((⟨g, off, none⟩ : Addr).add j) = some u := fun j u hj => by
              rw [← htk, List.getElem?_take, List.getElem?_drop] at hj
              split at hj
              · rw [Addr.add_lit]
                simp only [World.cell?, hg']
                simpa using hj
              · cases hj
            have hr := run_append_grow (P := P) wa t ty e ie z' hu hq hzz ⟨g, off, none⟩ rows.length cap rows.flatten hlen1 holds a rows2.length c rows2.flatten hlen2 hcell (by omega) (by simp only [maxLen] at hsumm; omega) (growslice_fits (by omega) hb)
            simp only [vS, Sem.run_bind, hr, Result.andThen_ok, Sem.run_pure]
            have hge := grownCap_ge wa (rows.length + rows2.length) cap e
            have hcm : grownCap wa (rows.length + rows2.length) cap e ≤ maxLen := grownCap_le_maxLen wa _ cap e hsumm
            have hblk : ∀ k, k < wa.heap.size → (wa.drew.alloc (.cells (rows.flatten.toArray ++ rows2.flatten.toArray ++ Builtin.zeroCells z'.cells (grownCap wa (rows.length + rows2.length) cap e - (rows.length + rows2.length))) e)).heap[k]? = wa.heap[k]? := fun k hk => heap_alloc_old wa.drew _ hk
            refine ⟨⟨rfl, rfl, rfl, by simp, fun k hkl _ => hblk k hkl⟩, n _ _ _ ?_ ⟨hrows, .inr ⟨wa.heap.size, 0, _, _, by rw [List.length_append], .inr ⟨Nat.le_refl _, by simp⟩, heap_alloc_new wa.drew _, by rw [List.length_append]; exact hge, hcm, ?_, ?_⟩⟩ (.inr ⟨_, rfl, hk.size⟩)⟩
            · exact ⟨hk.os, hk.tape, hk.output, by have := hk.size; simp; omega, fun k hx' _ => (hblk k (Nat.lt_of_lt_of_le (hX k hx') hk.size)).trans (hk.block k hx'), fun k h => .inl h,
                fun k h => h.elim (fun h => by have := hX k h; have := hk.size; simp; omega) (fun h => h.2)⟩
            · simp only [Array.size_append, List.size_toArray, size_zeroCells, hzs, hlen1, hlen2, ← Nat.add_mul]
              rw [Nat.zero_add]
              apply Nat.mul_le_mul_right
              omega
            · simp only [Array.toList_append, List.drop_zero, List.append_assoc, List.flatten_append]
              rw [← List.append_assoc, List.length_append, Nat.add_mul, ← hlen1, ← hlen2, ← List.length_append]
              exact List.take_left
section
variable {t ty e k bytes : Nat} {v x s : Value} {rows rows2 : List (List Value)} {row : List Value} {N : Value → World → XS → Prop}
theorem m_apO1 (own : Ow w X e k v rows) (hX : ∀ k, X k → k < w.heap.size) (he : elemOk P t e k bytes = true) (hx : x.cells.toList = row) (hk : (row.length == k) = true)
    (h1 : row.all one = true) (hb : (rows.length + 1) * bytes ≤ 140737488355328) (hl : rows.length + 1 ≤ 2 ^ 63 - 1)
    (n : ∀ v' w' X', Chg (blk v) X w X' w' → Ow w' X' e k v' (rows ++ [row]) → (v'.ownBlock = v.ownBlock ∨ ∃ g, v'.ownBlock = some g ∧ w.heap.size ≤ g) → N v' w' X') :
    eV P R X w m (bsS t e k 1 #[(0, x)]) fun s w1 X1 => eV P R X1 w1 true (apS t e k bytes ty v s) N := by
  obtain ⟨hu, hk0, hk1, z, hi, hz2, hzs⟩ := elemOk_iff he
  have hk' : row.length = k := by simpa using hk
  have hxs : x.cells.size = k := by rw [← hk', ← hx, Array.length_toList]
  refine eV_slice (rows := [row]) x.cells z hX hu hz2 (by omega) (by omega) ?_ (by simpa using hk') rfl (by simpa using hx) fun s w1 X1 hs1 hso => ?_
  · simp only [Nat.one_mul]
    exact fill_one hxs (by simp)
  · refine eV_apO (rows2 := [row]) he hs1.has (own.mv hs1.mv) hso.sl (by simpa using h1) (by simpa using hb) (by simpa using hl) fun v2 w2 X2 hg ho hat => ?_
    refine n v2 w2 X2 ((Chg.of_since hs1 (blk v)).trans hg) ho ?_
    rcases hat with h | ⟨g, h, hge⟩
    · exact .inl h
    · exact .inr ⟨g, h, Nat.le_trans hs1.kp.size hge⟩
end
theorem flat_drop {k : Nat} : ∀ {rows : List (List Value)} (i : Nat), (∀ r ∈ rows, r.length = k) → (rows.drop i).flatten = rows.flatten.drop (i * k)
  | _, 0, _ => by simp
  | [], i + 1, _ => by simp
  | r :: rows, i + 1, h => by
    have hr := h r (by simp)
    rw [List.drop_succ_cons, flat_drop i fun x hx => h x (List.mem_cons_of_mem _ hx), List.flatten_cons, Nat.succ_mul, Nat.add_comm, ← List.drop_drop, List.drop_left' hr]
theorem flat_take {k : Nat} : ∀ {rows : List (List Value)} (i : Nat), (∀ r ∈ rows, r.length = k) → (rows.take i).flatten = rows.flatten.take (i * k)
  | _, 0, _ => by simp
  | [], i + 1, _ => by simp
  | r :: rows, i + 1, h => by
    have hr := h r (by simp)
    have e1 : r.take (k + i * k) = r := List.take_of_length_le (by omega)
    rw [List.take_succ_cons, List.flatten_cons, flat_take i fun x hx => h x (List.mem_cons_of_mem _ hx), List.flatten_cons, Nat.succ_mul, Nat.add_comm, List.take_append, hr, e1, show k + i * k - k = i * k by omega]
theorem m_slLoO {t e k : Nat} {v : Value} {z : Int} {i : Nat} {rows : List (List Value)} {N : Value → Prop} (h : Ow w X e k v rows) (hz : z = i) (hi : i < rows.length) (ht : P.underlying t = some (.slice (P.elem t)))
    (hs : (P.info? (P.elem t)).map (·.size) = some k)
    (n : ∀ v', Ow w X e k v' (rows.drop i) → v'.ownBlock = v.ownBlock → N v') : rdV P X w (Instr.sliceAt t v (some (.int .i64 z)) none none) N := by
  subst hz
  obtain ⟨h1, ⟨rfl, rfl⟩ | ⟨g, off, cap, cur, rfl, hx, hg, hnc, hcm, hcs, htk⟩⟩ := h
  · simp at hi
  · have hq : ∃ inf, P.info? (P.elem t) = some inf ∧ inf.size = k := by
      cases hq : P.info? (P.elem t) with
      | none => simp [hq] at hs
      | some inf => exact ⟨inf, rfl, by simpa [hq] using hs⟩
    obtain ⟨inf, hq, hsz⟩ := hq
    have hrun : ∀ wa : World, (Instr.sliceAt t (.slice (some ⟨g, off, none⟩) rows.length cap) (some (.int .i64 (i : Int))) none none).run P wa = .ok (.slice (some ⟨g, off + i * k, none⟩) (rows.drop i).length (cap - i)) wa := fun wa => by
      rw [run_sliceAt_slice wa t _ _ _ _ ht, run_slice_l wa t _ _ cap ht .i64 i (by omega) (by omega)]
      have hne : ¬ cap = i := by omega
      simp [sizeOf, typeInfo, hq, hsz, sliced, Addr.add_lit, hne]
    refine rdV_pure hrun (n _ ⟨fun r hr => h1 r (List.mem_of_mem_drop hr), .inr ⟨g, off + i * k, cap - i, cur, rfl, hx, hg, by rw [List.length_drop]; omega, by omega, ?_, ?_⟩⟩ rfl)
    · have : i * k + (cap - i) * k = cap * k := by rw [← Nat.add_mul]; congr 1; omega
      omega
    · rw [flat_drop i h1, ← htk, List.drop_take, List.drop_drop, List.length_drop, Nat.sub_mul]
theorem MapR.neRow {κ α : Type} [DecidableEq κ] {A F : XS} {kv : κ → Value} {rd : World → XS → Value → α → Prop} {l : List (κ × α)} {b g : Nat} {cs : List Value} {e : TypeId} (h : MapR w X A b kv rd l) (hr : RowIs w F g cs e) : b ≠ g := by
  rintro rfl
  obtain ⟨es, c, h1, _⟩ := h
  have := h1.2.1
  rw [hr.2] at this; cases this
theorem RowIs.neRow {F : XS} {b g : Nat} {cs cs' : List Value} {e e' : TypeId} (h : RowIs w X b cs e) (hr : RowIs w F g cs' e') (he : decide (e ≠ e') = true) : b ≠ g := by
  rintro rfl
  have := h.2
  rw [hr.2] at this
  simp only [Option.some.injEq, Obj.cells.injEq] at this
  exact of_decide_eq_true he this.2.1.symm
theorem MapR.neOw {κ α : Type} [DecidableEq κ] {A F : XS} {kv : κ → Value} {rd : World → XS → Value → α → Prop} {l : List (κ × α)} {b e k : Nat} {v : Value} {rows : List (List Value)} (h : MapR w X A b kv rd l) (hr : Ow w F e k v rows) : v.ownBlock ≠ some b := fun hg => by
  obtain ⟨cs, h2⟩ := hr.tag hg
  obtain ⟨es, c, h1, _⟩ := h
  have := h1.2.1
  rw [h2] at this; cases this
section
variable {t : TypeId}
theorem m_alloc {l : List Value} {N : Value → World → XS → Prop} (hX : ∀ k, X k → k < w.heap.size) (hz : (P.info? t).bind (·.zero) = some (.agg l.toArray))
    (n : ∀ b w' X', w.heap.size ≤ b → Since X w X' w' → RowIs w' X' b l t → N (ptr b 0) w' X') : eV P R X w m (Instr.alloc t true (.tuple #[])) N := by
  intro wa hk
  unfold effW
  have hzv : ∀ w, (zeroValue t).run P w = .ok (.agg l.toArray) w := by
    intro w
    cases hi : P.info? t with
    | none => simp [hi] at hz
    | some inf =>
      have hz' : inf.zero = some (.agg l.toArray) := by simpa [hi] using hz
      simp [zeroValue, typeInfo, hi, hz']
  have hr : (Instr.alloc t true (.tuple #[])).run P wa = .ok (ptr wa.heap.size 0) (wa.alloc (.cells l.toArray t)) := by simp [Instr.alloc, hzv, newVar, newRow, Value.cells]
  simp only [vS, Sem.run_bind, hr, Result.andThen_ok, Sem.run_pure]
  have hx : Ext wa (wa.alloc (.cells l.toArray t)) := Ext.alloc _ _
  exact ⟨Step.of_ext hx, n _ _ _ hk.size (Since.of_ext hX hk hx) ⟨.inr ⟨Nat.le_refl _, by simp⟩, by simpa using heap_alloc_new wa _⟩⟩
theorem m_makeSl0 {e k bytes c : Nat} {z : Int} {N : Value → World → XS → Prop} (hX : ∀ k, X k → k < w.heap.size) (he : elemOk P t e k bytes = true) (hz : z = c) (hc : c ≤ 2 ^ 32) (hb : bytes ≤ 1024) (hk : k ≤ 1024)
    (n : ∀ v w' X', Since X w X' w' → Own w' X' w.heap.size e k v [] → N v w' X') : eV P R X w m (Instr.makeSlice t (I 0) (I z)) N := by
  subst hz
  obtain ⟨hu, hk0, hk1, z, hi, hz2, hzs⟩ := elemOk_iff he
  intro wa hk'
  unfold effW
  cases hq : P.info? e with
  | none => simp [hq] at hi
  | some ie =>
    cases hzz : ie.zero with
    | none => simp [hq, hzz] at hi
    | some z' =>
      simp only [hq, hzz, Option.bind_some, Option.map_some, Option.some.injEq, Prod.mk.injEq] at hi
      obtain ⟨h1, h2, h3⟩ := hi
      have hbb : ie.bytes * c ≤ 281474976710656 := by
        have := Nat.mul_le_mul (show ie.bytes ≤ 1024 by omega) hc
        omega
      obtain ⟨w', hr, how, hg⟩ := run_make_own (P := P) wa w.heap.size t e ie z' k hu hq hzz h1 .i64 .i64 c hbb (by simp only [maxLen]; omega) hk'.size
      have hr' : (Instr.makeSlice t (I 0) (I (c : Int))).run P wa = .ok (.slice (some ⟨wa.heap.size, 0, none⟩) 0 c) w' := hr
      simp only [vS, Sem.run_bind, hr', Result.andThen_ok, Sem.run_pure]
      have hx : Ext wa w' := ⟨hg.os, hg.tape, hg.output, hg.size, fun k hk _ => hg.block k hk (by simp)⟩
      refine ⟨Step.of_ext hx, n _ _ _ (Since.of_ext hX hk' hx) ⟨by simp, how, fun g hgg => ?_⟩⟩
      simp only [Value.ownBlock, Option.some.injEq] at hgg
      subst hgg
      exact .inr ⟨Nat.le_refl _, (how.lt _ rfl).2⟩
end
structure Ft (w0 : World) (F0 : XS) (w : World) (X F : XS) : Prop where
  s : Since (out F0 w0) w0 X w
  inX : ∀ k, F k → X k
  v : ∀ k, F k → F0 k ∨ w0.heap.size ≤ k
section
variable {w0 w' : World} {F0 F F' G X' A : XS} {Q : Value → World → World → Prop} {N : Value → World → XS → Prop} {f : FuncId} {args : Array Value}
theorem Ft.init (h : ∀ k, F0 k → k < w.heap.size) : Ft w F0 w (old w) F0 := ⟨Since.out _ _, h, fun _ h => .inl h⟩
theorem Ft.since (h : Ft w0 F0 w X F) (hs : Since X w X' w') : Ft w0 F0 w' X' F := ⟨h.s.trans hs, fun k hk => hs.sub k (h.inX k hk), h.v⟩
theorem Ft.no (h : Ft w0 F0 w X F) {k : Nat} (hk : F k) (h0 : out F0 w0 k) : False := by
  rcases h.v k hk with h1 | h1
  · exact h0.2 h1
  · have := h0.1; omega
theorem Ft.chg (h : Ft w0 F0 w X F) (c : Chg G X w X' w') (hG : ∀ k, G k → F k) (hF : ∀ k, F' k → F k ∨ (X' k ∧ w.heap.size ≤ k)) : Ft w0 F0 w' X' F' := by
  refine ⟨h.s.chg c fun k h0 hk => h.no (hG k hk) h0, fun k hk => ?_, fun k hk => ?_⟩
  · rcases hF k hk with h1 | h1
    · exact c.sub k (h.inX k h1)
    · exact h1.1
  · rcases hF k hk with h1 | h1
    · exact h.v k h1
    · right; have := h1.2; have := h.s.kp.size; omega
theorem Ft.less (h : Ft w0 F0 w X F) (hF : ∀ k, F' k → F k) : Ft w0 F0 w X F' := ⟨h.s, fun k hk => h.inX k (hF k hk), fun k hk => h.v k (hF k hk)⟩
theorem Ft.more (h : Ft w0 F0 w X F) (hF : ∀ k, F' k → F k ∨ (X k ∧ w0.heap.size ≤ k)) : Ft w0 F0 w X F' := by
  refine ⟨h.s, fun k hk => ?_, fun k hk => ?_⟩
  · rcases hF k hk with h1 | h1
    · exact h.inX k h1
    · exact h1.1
  · rcases hF k hk with h1 | h1
    · exact h.v k h1
    · exact .inr h1.2
theorem Ft.call (hT : Ft w0 F0 w X F) (h : Ct P f args w X G Q) (hf : enters P f = true) (hG : ∀ k, G k → F k)
    (k : ∀ v wa w' X', Q v wa w' → w.heap.size ≤ wa.heap.size → (∀ k, made wa w' k → X' k) → Ft w0 F0 w' X' (fun k => F k ∨ made wa w' k) → Chg G X w X' w' → N v w' X') : eC P R X w true f args N := by
  refine r_ct h hf hT.s.has (fun q hq => hT.inX q (hG q hq)) fun v wa w' X' hq hle hin hkp hc => k v wa w' X' hq hle hin ?_ hc
  exact hT.chg hc hG fun q hq => hq.imp id fun hm => ⟨hin q hm, Nat.le_trans hle hm.1⟩
theorem Ft.fin {v : Value} {Q : Value → World → Prop} (h : Ft w0 F0 w X F) (hq : ∀ wa, Kp X w wa → Q v wa) : fin (Ret F0 w0 Q) X w v := fin_ret h.s hq
theorem Ft.grew (h : Ft w0 F0 w X F) {wa : World} (hk : Kp X w wa) (hF : ∀ k, F' k → F k) : ∀ k, F' k → F0 k ∨ made w0 wa k := fun k hk' => by
  rcases h.v k (hF k hk') with h1 | h1
  · exact .inl h1
  · exact .inr ⟨h1, Nat.lt_of_lt_of_le (h.s.has k (h.inX k (hF k hk'))) hk.size⟩
theorem Ft.since0 (h : Ft w0 nX w X F) : Since (Eng.old w0) w0 X w :=
  ⟨⟨h.s.kp.os, h.s.kp.tape, h.s.kp.output, h.s.kp.size, fun k hk' => h.s.kp.block k ⟨hk', fun h => h.elim⟩⟩, fun k hk' => h.s.sub k ⟨hk', fun h => h.elim⟩, h.s.has⟩
def New (w0 : World) (X : XS) : XS := fun k => X k ∧ w0.heap.size ≤ k
theorem Ft.new (h : Ft w0 F0 w X F) : Ft w0 F0 w X (fun k => F k ∨ New w0 X k) := h.more fun k hk => hk.imp id fun h => h
theorem Ft.new0 (h : Ft w0 nX w X F) : Ft w0 nX w X (New w0 X) := h.more fun k hk => .inr hk
theorem Chg.mvA (c : Chg G X w X' w') (h : ∀ k, A k → X k ∧ ¬ G k) : Mv A w A w' := fun k hk _ => ⟨hk, c.block k (h k hk).1 (h k hk).2⟩
theorem Kp.mvA (hk : Kp X w w') (h : ∀ k, A k → X k) : Mv A w A w' := fun k hk' _ => ⟨hk', hk.block k (h k hk')⟩
theorem Since.mvF (hs : Since X w X' w') (h : ∀ k, A k → X k) : Mv A w A w' := fun k hk' _ => ⟨hk', hs.kp.block k (h k hk')⟩
end
theorem m_apN {w0 : World} {t ty e k bytes : Nat} {v s : Value} {rows rows2 : List (List Value)} {N : Value → World → XS → Prop} (hT : Ft w0 nX w X (New w0 X)) (hO : Ow w (New w0 X) e k v rows) (he : elemOk P t e k bytes = true)
    (src : Sl w X k s rows2) (h1 : ∀ r ∈ rows2, ∀ u ∈ r, one u = true) (hb : (rows.length + rows2.length) * bytes ≤ 140737488355328) (hl : rows.length + rows2.length ≤ 2 ^ 63 - 1)
    (n : ∀ v' w' X', Ft w0 nX w' X' (New w0 X') → Ow w' (New w0 X') e k v' (rows ++ rows2) → Chg (blk v) X w X' w' → (v'.ownBlock = v.ownBlock ∨ ∃ g, v'.ownBlock = some g ∧ w.heap.size ≤ g) → N v' w' X') :
    eV P R X w true (apS t e k bytes ty v s) N := by
  refine eV_apO he hT.s.has (hO.mono hT.inX) src h1 hb hl fun v' w' X' c ho hat => ?_
  have hT' : Ft w0 nX w' X' (New w0 X') := Ft.new0 (F := New w0 X) (hT.chg c (fun k hk => (hO.inX hk).1) fun k hk => .inl hk)
  refine n v' w' X' hT' (ho.tight.mono fun k hk => ⟨(ho.inX hk).1, ?_⟩) c hat
  have hk' : v'.ownBlock = some k := hk
  rcases hat with e | ⟨g, e, hge⟩
  · exact (hO.inX (e ▸ hk')).1.2
  · rw [hk'] at e
    have : k = g := Option.some.inj e
    have := hT.s.kp.size
    omega
def Dj (A B : XS) : Prop := ∀ k, A k → B k → False
theorem Dj.symm {A B : XS} (h : Dj A B) : Dj B A := fun k a b => h k b a
theorem Dj.grow {A B B' C : XS} (h : Dj A B) (hB : ∀ k, B' k → B k ∨ C k) (hc : Dj A C) : Dj A B' := fun k a b => (hB k b).elim (h k a) (hc k a)
theorem Dj.less {A A' B B' : XS} (h : Dj A B) (ha : ∀ k, A' k → A k) (hb : ∀ k, B' k → B k) : Dj A' B' := fun k a b => h k (ha k a) (hb k b)
end Go.Eng
set_option linter.unusedVariables false
set_option linter.unusedSimpArgs false
namespace Go.Eng
variable {P : Program} {R : Ending → World → Prop} {X : XS} {w : World} {m : Bool}
def RowF (w : World) (X : XS) (b : Nat) (cs : List Value) (ty : TypeId) : Prop := X b ∧ w.heap[b]? = some (.cells cs.toArray ty (cs.length, cs.length + 1))
theorem RowF.cells {b : Nat} {cs : List Value} {ty : TypeId} (h : RowF w X b cs ty) : Cells w X b 0 cs := ⟨h.1, _, _, _, h.2, fun j v hj => by simpa using hj⟩
theorem RowF.since {b : Nat} {cs : List Value} {ty : TypeId} {Y : XS} {w' : World} (h : RowF w X b cs ty) (hs : Since X w Y w') : RowF w' Y b cs ty := ⟨hs.sub _ h.1, by rw [hs.kp.block b h.1]; exact h.2⟩
theorem heap_freeze (wa : World) (g n : Nat) (cs : Array Value) (e : TypeId) (h : wa.heap[g]? = some (.cells cs e (0, 0))) : (wa.freeze ⟨g, n, none⟩ 1).heap = wa.heap.setIfInBounds g (.cells cs e (n, n + 1)) := by
  unfold World.freeze
  rw [if_neg (by decide)]
  obtain ⟨hl, he⟩ := Array.getElem?_eq_some_iff.1 h
  apply Array.ext
  · simp
  · intro i h1 h2
    simp only [Array.getElem_modify, Array.getElem_setIfInBounds]
    split
    · rename_i hi; subst hi; rw [he]; simp
    · rename_i hi; exact (Array.getElem_setIfInBounds_ne (by simpa using h2) hi).symm
theorem m_convC {t e g n c : Nat} {cs : List Value} {N : Value → World → XS → Prop} (h : RowIs w X g cs e) (ht : P.underlying t = some (.slice e)) (he : P.underlying e = some (.int .u8)) (hX : ∀ k, X k → k < w.heap.size)
    (k : ∀ w' X', Chg (· = g) X w X' w' → RowF w' X' g cs e → N (.slice (some ⟨g, 0, none⟩) n c) w' X') : eV P R X w true (convert t t (.slice (some ⟨g, 0, none⟩) n c)) N := by
  intro wa hk
  have hb := (h.kp hk).2
  have hlt := (Array.getElem?_eq_some_iff.1 hb).1
  have hsh : wa.shape? g = some (e, cs.length) := by unfold World.shape?; rw [hb]; simp
  have hr : (convert t t (.slice (some ⟨g, 0, none⟩) n c)).run P wa = .ok (.slice (some ⟨g, 0, none⟩) n c) (wa.freeze ⟨g, cs.length, none⟩ 1) := by
    simp [convert, run_underlying ht, run_underlying he, markStringish, hsh]
  have hh := heap_freeze wa g cs.length cs.toArray e hb
  unfold effW
  simp only [vS, Sem.run_bind, hr, Result.andThen_ok, Sem.run_pure]
  have hos : (wa.freeze ⟨g, cs.length, none⟩ 1).os = wa.os := by unfold World.freeze; rw [if_neg (by decide)]
  have htp : (wa.freeze ⟨g, cs.length, none⟩ 1).tape = wa.tape := by unfold World.freeze; rw [if_neg (by decide)]
  have hop : (wa.freeze ⟨g, cs.length, none⟩ 1).output = wa.output := by unfold World.freeze; rw [if_neg (by decide)]
  have hsz : (wa.freeze ⟨g, cs.length, none⟩ 1).heap.size = wa.heap.size := by rw [hh]; simp
  have hblk : ∀ q, q ≠ g → (wa.freeze ⟨g, cs.length, none⟩ 1).heap[q]? = wa.heap[q]? := fun q hq => by rw [hh, Array.getElem?_setIfInBounds, if_neg (Ne.symm hq)]
  refine ⟨⟨hos, htp, hop, by rw [hsz]; exact Nat.le_refl _, fun q _ hx => hblk q fun e => hx (e ▸ h.1)⟩, k _ _ ?_ ⟨.inl h.1, by rw [hh, Array.getElem?_setIfInBounds, if_pos rfl, if_pos hlt]⟩⟩
  refine ⟨hos.trans hk.os, htp.trans hk.tape, hop.trans hk.output, by rw [hsz]; exact hk.size, fun q hx hne => (hblk q hne).trans (hk.block q hx), fun q h => .inl h, fun q h => ?_⟩
  rw [hsz]
  exact h.elim (fun h => Nat.lt_of_lt_of_le (hX q h) hk.size) (fun h => by have := h.2; rwa [hsz] at this)
theorem m_stF {t b o : Nat} {cs : List Value} {ty : TypeId} {v : Value} {N : Value → World → XS → Prop} (h : RowF w X b cs ty) (ht : (P.info? t).map (·.size) = some 1)
    (hl : o < cs.length) (h1 : one v = true) (hX : ∀ k, X k → k < w.heap.size)
    (n : ∀ w' X', Chg (· = b) X w X' w' → RowF w' X' b (cs.set o v) ty → N undef w' X') : eU P R X w true (st1 t 1 (ptr b o) v) N := by
  intro wa hk
  have hb : wa.heap[b]? = some (.cells cs.toArray ty (cs.length, cs.length + 1)) := by rw [hk.block b h.1]; exact h.2
  have hlt := (Array.getElem?_eq_some_iff.1 hb).1
  have hv : v.cells = #[v] := one_cells h1
  have hcell : wa.cell? ⟨b, o, none⟩ = some cs[o] := by simp [World.cell?, hb, hl]
  have hfro : wa.frozen? ⟨b, o, none⟩ = false := by simp [World.frozen?, hb]; omega
  have hst : (store ⟨b, o, none⟩ v).run P wa = .ok () (wa.setRow b (cs.toArray.setIfInBounds o v)) := by
    rw [run_store P wa _ v _ (by rw [← one_eq]; exact h1), hcell]
    simp [hfro, setCell_eq_setRow wa b o cs.toArray ty _ v hb]
  have hr : (Instr.storeAt t (ptr b o) v).run P wa = .ok () (wa.setRow b (cs.toArray.setIfInBounds o v)) := by
    cases hi : P.info? t with
    | none => simp [hi] at ht
    | some i =>
      simp only [hi, Option.map_some, Option.some.injEq] at ht
      simp [Instr.storeAt, Instr.sureAddr, ptrV, storeVar, sizeOf, typeInfo, hi, ht, hv, storeCells, Addr.add_lit]
      simpa using hst
  unfold st1 effW
  simp only [uS, Sem.run_bind, hr, Result.andThen_ok, Sem.run_pure]
  have hsz : (wa.setRow b (cs.toArray.setIfInBounds o v)).heap.size = wa.heap.size := by simp
  refine ⟨⟨rfl, rfl, rfl, by rw [hsz]; exact Nat.le_refl _, fun k _ hx => setRow_other wa b k _ fun e => hx (e ▸ h.1)⟩, n _ _ ?_ ⟨.inl h.1, ?_⟩⟩
  · refine ⟨hk.os, hk.tape, hk.output, by rw [hsz]; exact hk.size, fun k hx hne => ?_, fun k h => .inl h, fun k h => ?_⟩
    · rw [setRow_other wa b k _ hne, hk.block k hx]
    · rw [hsz]
      exact h.elim (fun h => Nat.lt_of_lt_of_le (hX k h) hk.size) (fun h => by have := h.2; rwa [hsz] at this)
  · have := setRow_heap wa b cs.toArray (cs.toArray.setIfInBounds o v) ty _ hb
    rw [this, List.length_set]
    simp
def strB (l : List Nat) : ByteArray := ⟨(l.map UInt8.ofNat).toArray⟩
theorem strB_size (l : List Nat) : (strB l).size = l.length := by simp [strB, ByteArray.size]
theorem m_toStr {src dst e b o cap len : Nat} {l : List Nat} {N : Value → World → XS → Prop} (hlen : len = l.length) (hc : Cells w X b o (l.map fun x : Nat => Value.int .u8 x)) (hs : P.underlying src = some (.slice e)) (he : P.underlying e = some (.int .u8)) (hd : P.underlying dst = some .string)
    (hX : ∀ k, X k → k < w.heap.size) (n : ∀ w' X', Since X w X' w' → N (.string (strB l)) w' X') : eV P R X w m (convert src dst (.slice (some ⟨b, o, none⟩) len cap)) N := by
  subst hlen
  intro wa hk
  have hr := run_convert_bytes_arg (P := P) wa src e hs he b o l.length cap (l.map fun x : Nat => (x : Int)) (by simp) (fun i hi => by
    have := (hc.kp hk).range i (.int .u8 ((l[i] : Nat) : Int)) (by simp [hi])
    rw [this]; simp [List.getD, hi]) dst hd
  have e1 : strOfNums (l.map fun x : Nat => (x : Int)) = strB l := by
    unfold strOfNums strB
    simp
  rw [e1] at hr
  unfold effW
  simp only [vS, Sem.run_bind, hr, Result.andThen_ok, Sem.run_pure]
  have hx := Ext.refl wa
  exact ⟨Step.of_ext hx, n _ _ (Since.of_ext hX hk hx)⟩
theorem r_strAdd {t : TypeId} {a b : ByteArray} {N : Value → Prop} (h : a.size + b.size ≤ 2 ^ 62) (k : N (.string (a ++ b))) : rdV P X w (binOp .add t (.string a) (.string b)) N :=
  rdV_pure (fun wa => by
    have := run_string_add_sum (P := P) wa a b (by omega)
    simp [binOp, this]) k
theorem m_cpy {t e k bytes ty : Nat} {s : Value} {rows : List (List Value)} {m' : Bool} {N : Value → World → XS → Prop} (hX : ∀ k, X k → k < w.heap.size) (he : elemOk P t e k bytes = true) (src : Sl w X k s rows) (h1 : ∀ r ∈ rows, ∀ u ∈ r, one u = true)
    (hb : rows.length * bytes ≤ 140737488355328) (hl : rows.length ≤ 2 ^ 63 - 1)
    (n : ∀ v w' X', Since X w X' w' → Ow w' (New w X') e k v rows → N v w' X') : eV P R X w m (bsS t e k 0 #[]) fun a w1 X1 => eV P R X1 w1 m' (apS t e k bytes ty a s) N := by
  obtain ⟨hu, hk0, hk1, z, hi, hz2, hzs⟩ := elemOk_iff he
  cases hq : P.info? e with
  | none => simp [hq] at hi
  | some ie =>
    cases hzz : ie.zero with
    | none => simp [hq, hzz] at hi
    | some z' =>
      simp only [hq, hzz, Option.bind_some, Option.map_some, Option.some.injEq, Prod.mk.injEq] at hi
      obtain ⟨rfl, rfl, rfl⟩ := hi
      intro wa hk
      have hr : (Instr.buildSlice t 0 #[]).run P wa = .ok (.slice (some ⟨wa.heap.size, 0, none⟩) 0 0) (wa.alloc (.cells #[] e)) := by
        simp [Instr.buildSlice, run_underlying hu, sizeOf, typeInfo, hq, Instr.fill, newRow]
        have hz0 : ∀ f : Nat → Value, Array.map f (Array.range 0) = #[] := fun f => Array.eq_empty_of_size_eq_zero (by simp)
        rw [hz0]
      unfold bsS effW
      simp only [vS, Sem.run_bind, hr, Result.andThen_ok, Sem.run_pure]
      have hx : Ext wa (wa.alloc (.cells #[] e)) := Ext.alloc _ _
      have hs1 := Since.of_ext hX hk hx
      refine ⟨Step.of_ext hx, ?_⟩
      intro wb hkb
      unfold apS effW
      have src2 := (src.since hs1).kp hkb
      have hnew : wb.heap[wa.heap.size]? = some (.cells #[] e (0, 0)) := by
        rw [hkb.block _ (.inr ⟨Nat.le_refl _, by simp⟩)]
        exact heap_alloc_new wa _
      have hsz := hkb.size
      have hsz1 := hs1.kp.size
      have hlta := (Array.getElem?_eq_some_iff.1 hnew).1
      rcases src2.src with ⟨rfl, rfl⟩ | ⟨a, c, rfl, hcell⟩
      · have hr2 := run_append_noneO (P := P) (w := wb) t ty e ie hu hq ⟨wa.heap.size, 0, none⟩ 0 0 (Nat.le_refl _)
        simp only [vS, Sem.run_bind, hr2, Result.andThen_ok, Sem.run_pure]
        have hs2 := Since.of_ext hs1.has hkb (Ext.refl wb)
        exact ⟨Step.of_ext (Ext.refl _), n _ _ _ (hs1.trans hs2) ⟨by simp, .inr ⟨wa.heap.size, 0, 0, #[], rfl, ⟨.inl (.inr ⟨Nat.le_refl _, by simp⟩), hk.size⟩, hnew, Nat.le_refl _, Nat.zero_le _, by simp, by simp⟩⟩⟩
      · have hlen2 : rows.flatten.length = rows.length * ie.size := flat_len src.1
        by_cases h0 : rows = []
        · subst h0
          have hr2 := run_append_roomO (P := P) (w := wb) t ty e ie hu hq wa.heap.size 0 0 0 #[] hnew a 0 c [] (by simp) (by simp) (by simp) (Nat.le_refl _) (by simp)
          have e0 : wb.setRow wa.heap.size (#[].toList.take (0 + 0 * ie.size) ++ [] ++ #[].toList.drop (0 + 0 * ie.size + ([] : List Value).length)).toArray = wb := by
            have := setRow_self wb wa.heap.size #[] e (0, 0) hnew
            simpa using this
          rw [e0] at hr2
          have hr3 : (Builtin.append_ #[t, t] ty #[.slice (some ⟨wa.heap.size, 0, none⟩) 0 0, .slice (some a) ([] : List (List Value)).length c]).run P wb = .ok (.slice (some ⟨wa.heap.size, 0, none⟩) 0 0) wb := hr2
          simp only [vS, Sem.run_bind, hr3, Result.andThen_ok, Sem.run_pure]
          have hs2 := Since.of_ext hs1.has hkb (Ext.refl wb)
          exact ⟨Step.of_ext (Ext.refl _), n _ _ _ (hs1.trans hs2) ⟨by simp, .inr ⟨wa.heap.size, 0, 0, #[], rfl, ⟨.inl (.inr ⟨Nat.le_refl _, by simp⟩), hk.size⟩, hnew, Nat.le_refl _, Nat.zero_le _, by simp, by simp⟩⟩⟩
        · have hpos : 0 < rows.length := List.length_pos_iff.2 h0
          have hr2 := run_append_grow (P := P) wb t ty e ie z' hu hq hzz ⟨wa.heap.size, 0, none⟩ 0 0 [] (by simp) (by simp) a rows.length c rows.flatten hlen2 hcell (by omega) (by omega) (growslice_fits (by omega) (by simpa using hb))
          simp only [Nat.zero_add] at hr2
          simp only [vS, Sem.run_bind, hr2, Result.andThen_ok, Sem.run_pure]
          have hge := grownCap_ge wb rows.length 0 e
          have hcm : grownCap wb rows.length 0 e ≤ maxLen := grownCap_le_maxLen wb _ 0 e hl
          have hx2 : Ext wb (wb.drew.alloc (.cells ([].toArray ++ rows.flatten.toArray ++ Builtin.zeroCells z'.cells (grownCap wb rows.length 0 e - rows.length)) e)) := ⟨rfl, rfl, rfl, by simp, fun k hk _ => heap_alloc_old wb.drew _ hk⟩
          have hs2 := Since.of_ext hs1.has hkb hx2
          have hin : w.heap.size ≤ wb.heap.size := Nat.le_trans hsz1 hsz
          refine ⟨Step.of_ext hx2, n _ _ _ (hs1.trans hs2) ⟨src.1, .inr ⟨wb.heap.size, 0, _, _, rfl, ⟨.inr ⟨Nat.le_refl _, by simp⟩, hin⟩, heap_alloc_new wb.drew _, hge, hcm, ?_, ?_⟩⟩⟩
          · simp only [Array.size_append, List.size_toArray, size_zeroCells, hzs, hlen2, List.length_nil, Nat.zero_add, ← Nat.add_mul]
            apply Nat.mul_le_mul_right
            omega
          · simp only [Array.toList_append, List.drop_zero, List.nil_append]
            rw [← hlen2]
            exact List.take_left
theorem m_stC {t b o o' : Nat} {cs : List Value} {ty : TypeId} {v : Value} {N : Value → World → XS → Prop} (h : RowIs w X b cs ty) (hoo : o' = o) (ht : (P.info? t).map (·.size) = some 1)
    (hl : o < cs.length) (h1 : one v = true) (hX : ∀ k, X k → k < w.heap.size)
    (n : ∀ w' X', Chg (· = b) X w X' w' → RowIs w' X' b (setL cs o [v]) ty → N undef w' X') : eU P R X w true (st1 t 1 (ptr b o') v) N := by
  subst hoo
  have hv := one_cells h1
  refine m_st1 h ht (by omega) (by rw [hv]; rfl) (by rw [hv]; simp [h1]) hX fun w' X' c hr => n w' X' c ?_
  rw [hv] at hr
  exact hr
theorem m_stN {t sz b o o' : Nat} {cs : List Value} {ty : TypeId} {v : Value} {N : Value → World → XS → Prop} (h : RowIs w X b cs ty) (hoo : o' = o) (ht : (P.info? t).map (·.size) = some sz)
    (hl : o + sz ≤ cs.length) (hv : v.cells.size = sz) (h1 : v.cells.toList.all one = true) (hX : ∀ k, X k → k < w.heap.size)
    (n : ∀ w' X', Chg (· = b) X w X' w' → RowIs w' X' b (setL cs o v.cells.toList) ty → N undef w' X') : eU P R X w true (st1 t sz (ptr b o') v) N := by
  subst hoo
  exact m_st1 h ht hl hv h1 hX n
end Go.Eng
namespace Go.Eng
variable {P : Program}
theorem sim0 {pl : Plan} {fn : Func} {args : Array Value} {w : World} (hn : fn.ntmps = pl.n) (hargs : args.size ≤ pl.n) (hbox : (pl.boxes.all fun p => decide (args.size ≤ p.1)) = true) :
    Sim pl [] .start (args0 args) (old w) w { tmps := args ++ Array.replicate (fn.ntmps - args.size) undef, defers := [] } w := by
  have hsize : (args ++ Array.replicate (fn.ntmps - args.size) undef).size = pl.n := by simp; omega
  have hget : ∀ s, s < pl.n → (args ++ Array.replicate (fn.ntmps - args.size) undef)[s]? = some (args0 args s) := by
    intro s hs
    rw [Array.getElem?_append]
    split
    · rename_i h1
      simp [args0, List.getD, h1]
    · rename_i h1
      rw [Array.getElem?_replicate, if_pos (by omega)]
      simp only [args0, List.getD]
      rw [List.getElem?_eq_none (by simpa using h1)]
      rfl
  have hnobox : ∀ b n, look pl.boxes b = some n → args0 args b = undef := by
    intro b n hb
    have h1 := List.all_eq_true.1 hbox _ (look_mem hb)
    simp only [decide_eq_true_eq] at h1
    simp only [args0, List.getD]
    rw [List.getElem?_eq_none (by simpa using h1)]
    rfl
  exact {
    size := hsize
    defers := rfl
    ext := Kp.refl _ _
    xlt := fun _ hk => hk
    glob := fun s hs => hget s (isGlob_spec hs).1
    sig := fun _ hp => (by cases hp)
    box := fun b n hb cells hc => by rw [hnobox b n hb] at hc; cases hc
    inj := fun b b' n n' hb hb' h1 => by rw [hnobox b n hb] at h1; cases h1
    conv := fun b n hb k hk => by
      have h1 := List.all_eq_true.1 hbox _ (look_mem hb)
      simp only [decide_eq_true_eq] at h1
      rw [Array.getElem?_append, if_neg (by omega), Array.getElem?_replicate] at hk
      split at hk
      · cases hk
      · cases hk
    live := fun _ hp => (by cases hp)
    ptr := fun _ hp => (by cases hp) }
theorem Sim.defs {pl : Plan} {ds ds' : List Deferred} {cs : CS} {env : Env} {X : XS} {w0 w : World} {a : Act} (h : Sim pl ds cs env X w0 a w) : Sim pl ds' cs env X w0 { a with defers := ds' } w :=
  ⟨h.size, rfl, h.ext, h.xlt, h.glob, h.sig, h.box, h.inj, h.conv, h.live, h.ptr⟩
def ftE (P : Program) (pl : Plan) (fn : Func) : Option FT :=
  if fn.ntmps == pl.n then match fn.body with
    | some (.seq (.region _ ops0 false) (.seq (.region _ ops1 false) rest)) => match ops1.toList with
      | [mk, df] => match mk.op, mk.guard, mk.dst, df.op, df.guard, df.dst with
        | .makeFunc (.func _) ⟨[]⟩ _, none, some d', .defer ⟨.value (.tmp d), ⟨[]⟩, _⟩, none, none => match cSeq P pl ops0 ops0.toList .start, cCode P pl rest, cRes P pl fn.results.toList with
          | some t0, some t2, some (r, n) => if d' == d && decide (d < pl.n) && (look pl.boxes d).isNone && !pl.isGlob d then some ⟨.seq (.reg t0) t2, r, n⟩ else none
          | _, _, _ => none
        | _, _, _, _, _, _ => none
      | _ => none
    | _ => none
  else none
def defG (fn : Func) : Option FuncId := match fn.body with
  | some (.seq _ (.seq (.region _ ops1 _) _)) => match ops1.toList with
    | [mk, _] => match mk.op with
      | .makeFunc (.func g) _ _ => some g
      | _ => none
    | _ => none
  | _ => none
def Idle (P : Program) (g : FuncId) : Prop := enters P g = true ∧ ∀ caps w, CallsD P g caps .returning w fun e u' w' => (∃ x, e = .returned x) ∧ u' = .returning ∧ w' = w
theorem Sim.aside {pl : Plan} {ds : List Deferred} {env : Env} {X : XS} {w0 w : World} {a : Act} {d : Nat} {v : Value} (h : Sim pl ds .start env X w0 a w) (hd : d < pl.n) (hb : look pl.boxes d = none) (hg : pl.isGlob d = false) :
    Sim pl ds .start env X w0 (a.put (some d) v) w := by
  have ne : ∀ b n, look pl.boxes b = some n → b ≠ d := fun b n hb' e => by rw [e, hb] at hb'; cases hb'
  have hsz : d < a.tmps.size := by rw [h.size]; exact hd
  exact {
    size := by simp [Act.put, h.size]
    defers := h.defers
    ext := h.ext
    xlt := h.xlt
    glob := fun s hs => by
      have hs' : s ≠ d := fun e => by rw [e, hg] at hs; cases hs
      rw [put_ne _ _ _ _ hs']; exact h.glob s hs
    sig := fun _ hp => (by cases hp)
    box := fun b n hb' cells hc => by
      obtain ⟨k, ty, h1, h2⟩ := h.box b n hb' cells hc
      exact ⟨k, ty, by rw [put_ne _ _ _ _ (ne b n hb')]; exact h1, h2⟩
    inj := fun b b' n n' h1 h2 h3 h4 k h5 h6 => h.inj b b' n n' h1 h2 h3 h4 k (by rwa [put_ne _ _ _ _ (ne b n h1)] at h5) (by rwa [put_ne _ _ _ _ (ne b' n' h2)] at h6)
    conv := fun b n hb' k hk => h.conv b n hb' k (by rwa [put_ne _ _ _ _ (ne b n hb')] at hk)
    live := fun _ hp => (by cases hp)
    ptr := fun _ hp => (by cases hp) }
theorem calls_of_vcE {f : FuncId} {fn : Func} {pl : Plan} {args : Array Value} {w : World} {R : Ending → World → Prop} {V : Prop} (hf : P.funcs[f]? = some fn)
    (hs : (decide (args.size ≤ pl.n) && pl.boxes.all fun p => decide (args.size ≤ p.1)) = true) (hno : ∀ g, defG fn = some g → Idle P g) (hR : ∀ ch w, ¬ R (.panicked ch) w) (hv : V = denO P (ftE P pl fn) R args w) (h : V) : Calls P f args w R := by
  subst hv
  unfold denO at h
  simp only [Bool.and_eq_true, decide_eq_true_eq] at hs
  split at h
  case h_2 => exact h.elim
  rename_i ft hc
  unfold ftE at hc
  split at hc
  case isFalse => cases hc
  rename_i hn
  have hn' : fn.ntmps = pl.n := by simpa using hn
  split at hc
  case h_2 => cases hc
  rename_i _ id0 ops0 id1 ops1 rest hb
  split at hc
  case h_2 => cases hc
  rename_i _ mk df hops
  split at hc
  case h_2 => cases hc
  rename_i _ _ _ _ _ _ g capsO d' d tys hmop hmg hmd hdop hdg hdd
  split at hc
  case h_2 => cases hc
  rename_i _ _ _ t0 t2 r nd hc0 hc2 hres
  split at hc
  case isFalse => cases hc
  rename_i hcond
  simp only [Bool.and_eq_true, beq_iff_eq, Bool.not_eq_true', decide_eq_true_eq, Option.isNone_iff_eq_none] at hcond
  obtain ⟨⟨⟨hd', hdn⟩, hdb⟩, hdgl⟩ := hcond
  subst hd'
  injection hc with hc
  subst hc
  have hG : defG fn = some g := by unfold defG; rw [hb]; simp [hops, hmop]
  obtain ⟨hent, hidle⟩ := hno g hG
  have hsim := sim0 (w := w) hn' hs.1 (by simpa using hs.2)
  refine calls_of_wp_defers hf hb ?_
  let K := endK ⟨.seq (.reg t0) t2, r, nd⟩ R
  have hKp : ∀ ch env X w0 w', Kp X w0 w' → K (.panic ch) env w0 X → False := fun ch env X w0 w' hk hq => hR _ _ (hq w' hk)
  have h0 : denL P (fun ch => K (.panic ch)) (fun e w X => den P t2 K e w X) t0 (args0 args) w (old w) := h
  refine wp_seq (wp_region_list (seq_ok (P := P) (pl := pl) (ds := []) ?_ ?_ ops0.toList .start t0 _ _ _ _ _ hc0 hsim h0))
  case refine_2 => exact fun ch a' w' env' X' w0' _ hk hq => (hKp _ _ _ _ _ hk hq).elim
  intro cs1 a1 w1 env1 X1 w01 hs1 hd1
  replace hs1 := hs1.drop
  show (Code.seq (Code.region id1 ops1 false) rest).wp P (bodyPostD P fn R) a1 w1
  refine wp_seq (wp_region_list ?_)
  rw [hops]
  have hw1 : Region.wanted mk (yielded ops1 a1.tmps) = true := by simp [Region.wanted, hmg]
  have hrun1 : (execOp a1.eval mk).run P w1 = .ok (.value (.func (.func g) #[] (capsO.map a1.eval))) w1 := by
    simp [execOp, hmop, Instr.makeFunc]
  generalize capsO.map a1.eval = caps at hrun1
  unfold wpList
  rw [if_pos hw1]
  left
  unfold Oper.wp
  rw [hrun1, Oper.upon_value, hmd]
  have hs2 := hs1.aside (v := .func (.func g) #[] caps) hdn hdb hdgl
  have hev : (a1.put (some d') (.func (.func g) #[] caps)).eval (.tmp d') = .func (.func g) #[] caps := by
    have : d' < a1.tmps.size := by rw [hs1.size]; exact hdn
    simp [Act.eval, Act.put, Array.getD_eq_getD_getElem?, this]
  generalize a1.put (some d') (.func (.func g) #[] caps) = a2 at hs2 hev
  have hrun : (execOp a2.eval df).run P w1 = .ok (.defer { target := .fn (.func g) caps, args := #[] }) w1 := by
    simp [execOp, hdop, resolve, hev, Deferred.ofValue]
  unfold wpList
  have hw : Region.wanted df (yielded ops1 a2.tmps) = true := by simp [Region.wanted, hdg]
  rw [if_pos hw]
  left
  unfold Oper.wp
  rw [hrun, Oper.upon_defer, hdd]
  show rest.wp P (bodyPostD P fn R) { a2 with defers := { target := .fn (.func g) caps, args := #[] } :: a2.defers } w1
  rw [hs2.defers]
  have hs3 := hs2.defs (ds' := [{ target := .fn (.func g) caps, args := #[] }])
  refine wp_mono (code_ok (pl := pl) (ds := [{ target := .fn (.func g) caps, args := #[] }]) rest t2 K env1 X1 w01 _ w1 hc2 hs3 hd1) fun ex a' w' hq => ?_
  have done : (∃ env X w0, Sim pl [{ target := .fn (.func g) caps, args := #[] }] .start env X w0 a' w' ∧ K .ret env w0 X) → Leaves P fn a'.tmps R a'.defers .returning w' := by
    rintro ⟨e, X', w0', h5, h6⟩
    have h6' : chk (nd.all fun b => isA (e b)) (∀ wa, Kp X' w0' wa → R (.returned (resV r e)) wa) := h6
    obtain ⟨h7, h8⟩ := chk_iff.1 h6'
    rw [h5.defers]
    refine leaves_cons (by simp) (f := g) (args := caps) ?_ ?_
    · simp only [invoke]
      have := run_enters hent (#[] ++ caps) w'
      simpa using this
    · refine (hidle caps w').mono ?_
      rintro _ _ w'' ⟨⟨x, rfl⟩, rfl, rfl⟩
      exact ⟨_, res_run h5 hres (List.all_eq_true.1 h7), h8 w'' h5.ext⟩
  cases ex with
  | normal => exact done hq
  | ret => exact done hq
  | panic ch => obtain ⟨h5, e, X', w0', h6, h7⟩ := hq; exact (hKp _ _ _ _ _ h6 h7).elim
  | exit i => obtain ⟨e, X', w0', h5, h6⟩ := hq; exact h6.elim
  | goto i => obtain ⟨e, X', w0', h5, h6⟩ := hq; exact h6.elim
  | outgrown => exact hq.elim
end Go.Eng
namespace Go.Proofs.YtpdkoaklobnegaaGreat
open Go.Eng
set_option maxRecDepth 100000
noncomputable def pl_racelaw22_SinkOnce : Plan := ⟨189, [(13, (Tryz.prog.cellsOf 48))], [86, 114], [0, 1, 2, 6, 7, 8, 9, 10, 11, 12, 14, 15, 16, 17, 19, 40, 44, 56, 60, 65, 74, 123, 141, 145, 173], [23, 24, 25, 26, 28, 29, 30, 31, 33, 34, 35, 37, 38, 39, 53, 54, 55, 104, 105, 106, 107, 108, 109, 110, 111, 113, 115, 116, 120, 121, 122, 127, 128, 129, 130, 132, 133, 134, 135, 136, 137, 138, 139, 140, 151, 152, 153, 154, 155, 156, 158, 159, 160, 161, 162, 163, 164, 165, 166, 167, 168, 169, 170, 171, 172, 175, 176, 177, 178, 179, 180, 182, 183, 184, 185, 186, 187], [10, 11]⟩
def vc_racelaw22_SinkOnce (R : Ending → World → Prop) (w0 : World) (X0 : XS) (p0 : Int) (p1 p2 : Value) : Prop :=
 (eC Tryz.prog R X0 w0 true 9 #[] fun x18_4 w_5 X_6 =>
 rdV Tryz.prog X_6 w_5 (Op.unary UnOp.not x18_4) fun x19_7 =>
 (condW x19_7
 (fin R X_6 w_5 (B false))
 ((rdV Tryz.prog X_6 w_5 (lnS 22 3 p1) fun x21_11 =>
 rdV Tryz.prog X_6 w_5 (binOp .gtr 3 x21_11 (I 200)) fun x22_12 =>
 un (gSel x22_12 false p2) fun u_13 =>
 jn (fun (x25_14 : Value) (w_15 : World) (X_16 : XS) =>
 grdW Tryz.prog X_16 w_15 x22_12 false (vS (binOp .gtr 3 x25_14 (I 20000))) fun x26_18 =>
 rdW Tryz.prog X_16 w_15 (pickN x22_12 (B true) x26_18) fun x27_19 =>
 un (gSel x27_19 false p2) fun u_20 =>
 grdW Tryz.prog X_16 w_15 x27_19 false (vS (lnS 23 3 u_20)) fun x30_21 =>
 grdW Tryz.prog X_16 w_15 x27_19 false (vS (binOp .gtr 3 x30_21 (I 40))) fun x31_22 =>
 rdW Tryz.prog X_16 w_15 (pickN x27_19 (B true) x31_22) fun x32_23 =>
 un (gSel x32_23 false (I p0)) fun u_24 =>
 grdW Tryz.prog X_16 w_15 x32_23 false (vS (binOp .lss 3 u_24 (I 0))) fun x35_25 =>
 rdW Tryz.prog X_16 w_15 (pickN x32_23 (B true) x35_25) fun x36_26 =>
 un (gSel x36_26 false (I p0)) fun u_27 =>
 grdW Tryz.prog X_16 w_15 x36_26 false (vS (binOp .gtr 3 u_27 (I 1000))) fun x39_28 =>
 rdW Tryz.prog X_16 w_15 (pickN x36_26 (B true) x39_28) fun x40_29 =>
 (condW x40_29
 (eC Tryz.prog R X_16 w_15 true 9 #[] fun x41_31 w_32 X_33 =>
 (fin R X_33 w_32 x41_31))
 ((eC Tryz.prog R X_16 w_15 true 11 #[] fun x42_35 w_36 X_37 =>
 (rdV Tryz.prog X_37 w_36 (binS .eql 26 (.tmp 43) (.const (.pointer none)) x42_35 (.pointer none)) fun x44_40 =>
 (condW x44_40
 (fin R X_37 w_36 (B false))
 ((eC Tryz.prog R X_37 w_36 true 12 #[x42_35, (I 64), (I p0)] fun x48_43 w_44 X_45 =>
 rdV Tryz.prog X_45 w_44 (Instr.extract x48_43 0) fun x49_46 =>
 rdV Tryz.prog X_45 w_44 (Instr.extract x48_43 1) fun x50_47 =>
 (rdV Tryz.prog X_45 w_44 (binS .eql 28 (.tmp 51) (.const (.pointer none)) x49_46 (.pointer none)) fun x52_50 =>
 un (gSel x52_50 false x50_47) fun u_51 =>
 grdW Tryz.prog X_45 w_44 x52_50 false (vS (binS .neq 29 (.tmp 54) (.const (I 0)) u_51 (I 0))) fun x55_52 =>
 rdW Tryz.prog X_45 w_44 (pickN x52_50 (B true) x55_52) fun x56_53 =>
 (condW x56_53
 (fin R X_45 w_44 (B false))
 (((((jn (fun (y10_206 : Value) (w_207 : World) (X_208 : XS) =>
 (eC Tryz.prog R X_208 w_207 true 9 #[] fun x174_211 w_212 X_213 =>
 un (gSel x174_211 true x49_46) fun u_214 =>
 jn (fun (x177_215 : Value) (w_216 : World) (X_217 : XS) =>
 grdW Tryz.prog X_217 w_216 x174_211 true (vS (fdV 35 0 0 1 x177_215)) fun x178_219 =>
 un (gSel x174_211 true y10_206) fun u_220 =>
 grdW Tryz.prog X_217 w_216 x174_211 true (vS (binS .eql 3 (.tmp 178) (.tmp 179) x178_219 u_220)) fun x180_221 =>
 rdW Tryz.prog X_217 w_216 (pickN x174_211 x180_221 (B false)) fun x181_222 =>
 un (gSel x181_222 true x49_46) fun u_223 =>
 jn (fun (x184_224 : Value) (w_225 : World) (X_226 : XS) =>
 grdW Tryz.prog X_226 w_225 x181_222 true (vS (lnS 63 3 x184_224)) fun x185_228 =>
 un (gSel x181_222 true y10_206) fun u_229 =>
 grdW Tryz.prog X_226 w_225 x181_222 true (vS (binS .eql 3 (.tmp 185) (.tmp 186) x185_228 u_229)) fun x187_230 =>
 rdW Tryz.prog X_226 w_225 (pickN x181_222 x187_230 (B false)) fun x188_231 =>
 (fin R X_226 w_225 x188_231)) fun k_227 =>
 (gE x181_222 true (eC Tryz.prog R X_217 w_216 true 21 #[u_223] k_227) (k_227 undef w_216 X_217))) fun k_218 =>
 (gE x174_211 true (eC Tryz.prog R X_213 w_212 true 19 #[u_214] k_218) (k_218 undef w_212 X_213)))) fun k_209 =>
 lp2 X_45 w_44 (I 0) (I 0) 11 10 fun J_59 n_60 v_64 v_65 w_62 X_63 =>
 rdV Tryz.prog X_63 w_62 (lnS 22 3 p1) fun x59_68 =>
 rdV Tryz.prog X_63 w_62 (binOp .lss 3 v_64 x59_68) fun x60_69 =>
 (condW x60_69
 (((jn (fun (y10_201 : Value) (w_202 : World) (X_203 : XS) =>
 (rdV Tryz.prog X_203 w_202 (binOp .add 3 v_64 (I 1)) fun x62_205 =>
 nx2 J_59 n_60 x62_205 y10_201 w_202 X_203)) fun k_204 =>
 rdV Tryz.prog X_63 w_62 (lnS 23 3 p2) fun x64_74 =>
 rdV Tryz.prog X_63 w_62 (binS .eql 3 (.tmp 64) (.const (I 0)) x64_74 (I 0)) fun x65_75 =>
 (condW x65_75
 (k_209 v_65 w_62 X_63)
 ((rdV Tryz.prog X_63 w_62 (ixS 22 1 p1 v_64) fun x68_77 =>
 rdV Tryz.prog X_63 w_62 (ld1 3 x68_77) fun x69_78 =>
 rdV Tryz.prog X_63 w_62 (lnS 23 3 p2) fun x71_79 =>
 rdV Tryz.prog X_63 w_62 (binOp .rem 3 x69_78 x71_79) fun x72_80 =>
 ((jn (fun (y12_85 : Value) =>
 rdV Tryz.prog X_63 w_62 (binOp .add 3 y12_85 (I 1)) fun x79_88 =>
 eC Tryz.prog R X_63 w_62 true 13 #[y12_85, x79_88, (.string { data := #[97] })] fun x80_89 w_90 X_91 =>
 un (Value.agg (Value.cells x80_89)) fun u_92 =>
 chk (List.length (Array.toList (Value.cells x80_89)) == 36) (chk (List.all (Array.toList (Value.cells x80_89)) one) ((rdV Tryz.prog X_91 w_90 (ixS 23 4 p2 y12_85) fun x83_94 =>
 rdV Tryz.prog X_91 w_90 (ldA 53 4 x83_94) fun x84_95 =>
 eV Tryz.prog R X_91 w_90 true (bsS 23 53 4 1 #[(0, x84_95)]) fun x85_96 w_97 X_98 =>
 chk (isA u_92) (un (Value.agg (List.toArray (setL (Array.toList (Value.cells u_92)) 20 [x85_96]))) fun u_99 =>
 chk (one x85_96) ((eC Tryz.prog R X_98 w_97 true 14 #[x49_46] fun x88_101 w_102 X_103 =>
 (chk (isA u_99) (un (subOf u_99 0 36) fun u_105 =>
 eC Tryz.prog R X_103 w_102 true 15 #[x49_46, u_105] fun x92_106 w_107 X_108 =>
 rdV Tryz.prog X_108 w_107 (Instr.extract x92_106 0) fun x93_109 =>
 rdV Tryz.prog X_108 w_107 (Instr.extract x92_106 1) fun x94_110 =>
 (eC Tryz.prog R X_108 w_107 true 16 #[x49_46] fun _ w_113 X_114 =>
 (rdV Tryz.prog X_114 w_113 (ixS 23 4 p2 y12_85) fun x99_116 =>
 rdV Tryz.prog X_114 w_113 (fld 53 0 0 1 x99_116) fun x100_117 =>
 rdV Tryz.prog X_114 w_113 (ld1 9 x100_117) fun x101_118 =>
 rdV Tryz.prog X_114 w_113 (lnT 9 3 x101_118) fun x102_119 =>
 rdV Tryz.prog X_114 w_113 (binOp .geq 3 x102_119 (I 1)) fun x103_120 =>
 un (gSel x103_120 true p2) fun u_121 =>
 un (gSel x103_120 true y12_85) fun u_122 =>
 grdW Tryz.prog X_114 w_113 x103_120 true (vS (ixS 23 4 u_121 u_122)) fun x107_123 =>
 grdW Tryz.prog X_114 w_113 x103_120 true (vS (fld 53 0 0 1 x107_123)) fun x108_124 =>
 grdW Tryz.prog X_114 w_113 x103_120 true (vS (ld1 9 x108_124)) fun x109_125 =>
 grdW Tryz.prog X_114 w_113 x103_120 true (vS (lnT 9 3 x109_125)) fun x110_126 =>
 grdW Tryz.prog X_114 w_113 x103_120 true (vS (binOp .leq 3 x110_126 (I 24))) fun x111_127 =>
 rdW Tryz.prog X_114 w_113 (pickN x103_120 x111_127 (B false)) fun x112_128 =>
 chk (isA u_99) (un (cellOf u_99 0) fun u_129 =>
 un (gSel x112_128 true u_129) fun u_130 =>
 grdW Tryz.prog X_114 w_113 x112_128 true (vS (binS .eql 3 (.tmp 115) (.const (I 12)) u_130 (I 12))) fun x116_131 =>
 rdW Tryz.prog X_114 w_113 (pickN x112_128 x116_131 (B false)) fun x117_132 =>
 (rdV Tryz.prog X_114 w_113 (binS .neq 29 (.tmp 118) (.const (I 0)) x94_110 (I 0)) fun x119_135 =>
 un (gSel x119_135 false x49_46) fun u_136 =>
 jn (fun (x122_137 : Value) (w_138 : World) (X_139 : XS) =>
 rdW Tryz.prog X_139 w_138 (pickN x119_135 (B true) x122_137) fun x123_141 =>
 (condW x123_141
 (fin R X_139 w_138 (B false))
 ((rdV Tryz.prog X_139 w_138 (binS .eql 3 (.tmp 124) (.tmp 125) y12_85 v_65) fun x126_145 =>
 un (gSel x126_145 true x93_109) fun u_146 =>
 grdW Tryz.prog X_139 w_138 x126_145 true (vS (lnS 56 3 u_146)) fun x129_147 =>
 grdW Tryz.prog X_139 w_138 x126_145 true (vS (binS .eql 3 (.tmp 129) (.const (I 1)) x129_147 (I 1))) fun x130_148 =>
 rdW Tryz.prog X_139 w_138 (pickN x126_145 x130_148 (B false)) fun x131_149 =>
 un (gSel x131_149 true x93_109) fun u_150 =>
 grdW Tryz.prog X_139 w_138 x131_149 true (vS (ixS 56 36 u_150 (I 0))) fun x134_151 =>
 grdW Tryz.prog X_139 w_138 x131_149 true (vS (fld 48 7 9 3 x134_151)) fun x135_152 =>
 grdW Tryz.prog X_139 w_138 x131_149 true (vS (fld 35 0 0 1 x135_152)) fun x136_153 =>
 grdW Tryz.prog X_139 w_138 x131_149 true (vS (ld1 3 x136_153)) fun x137_154 =>
 un (gSel x131_149 true y12_85) fun u_155 =>
 grdW Tryz.prog X_139 w_138 x131_149 true (vS (binOp .add 3 u_155 (I 1))) fun x139_156 =>
 grdW Tryz.prog X_139 w_138 x131_149 true (vS (binS .eql 3 (.tmp 137) (.tmp 139) x137_154 x139_156)) fun x140_157 =>
 rdW Tryz.prog X_139 w_138 (pickN x131_149 x140_157 (B false)) fun x141_158 =>
 (condW x141_158
 (rdV Tryz.prog X_139 w_138 (binOp .add 3 v_65 (I 1)) fun x143_160 =>
 (rdV Tryz.prog X_139 w_138 (Op.unary UnOp.not x117_132) fun x145_163 =>
 (condW x145_163
 (fin R X_139 w_138 (B false))
 (k_204 x143_160 w_138 X_139))))
 ((eC Tryz.prog R X_139 w_138 true 14 #[x49_46] fun x147_166 w_167 X_168 =>
 eC Tryz.prog R X_168 w_167 true 18 #[x147_166, x88_101] fun x149_169 w_170 X_171 =>
 rdV Tryz.prog X_171 w_170 (Op.unary UnOp.not x149_169) fun x150_172 =>
 un (gSel x150_172 false x49_46) fun u_173 =>
 jn (fun (x153_174 : Value) (w_175 : World) (X_176 : XS) =>
 grdW Tryz.prog X_176 w_175 x150_172 false (vS (fdV 35 0 0 1 x153_174)) fun x154_178 =>
 un (gSel x150_172 false v_65) fun u_179 =>
 grdW Tryz.prog X_176 w_175 x150_172 false (vS (binS .neq 3 (.tmp 154) (.tmp 155) x154_178 u_179)) fun x156_180 =>
 rdW Tryz.prog X_176 w_175 (pickN x150_172 (B true) x156_180) fun x157_181 =>
 un (gSel x157_181 false y12_85) fun u_182 =>
 un (gSel x157_181 false v_65) fun u_183 =>
 grdW Tryz.prog X_176 w_175 x157_181 false (vS (binS .eql 3 (.tmp 159) (.tmp 160) u_182 u_183)) fun x161_184 =>
 un (gSel x157_181 false x161_184) fun u_185 =>
 un (gSel u_185 true x93_109) fun u_186 =>
 grdW Tryz.prog X_176 w_175 u_185 true (vS (lnS 56 3 u_186)) fun x164_187 =>
 grdW Tryz.prog X_176 w_175 u_185 true (vS (binS .eql 3 (.tmp 164) (.const (I 1)) x164_187 (I 1))) fun x165_188 =>
 grdW Tryz.prog X_176 w_175 x157_181 false (pickN u_185 x165_188 (B false)) fun x166_189 =>
 un (gSel x157_181 false x166_189) fun u_190 =>
 un (gSel u_190 true x42_35) fun u_191 =>
 jn (fun (x169_192 : Value) (w_193 : World) (X_194 : XS) =>
 grdW Tryz.prog X_194 w_193 u_190 true (vS (lnS 36 3 x169_192)) fun x170_196 =>
 grdW Tryz.prog X_194 w_193 u_190 true (vS (binOp .lss 3 x170_196 (I 64))) fun x171_197 =>
 grdW Tryz.prog X_194 w_193 x157_181 false (pickN u_190 x171_197 (B false)) fun x172_198 =>
 rdW Tryz.prog X_194 w_193 (pickN x157_181 (B true) x172_198) fun x173_199 =>
 (condW x173_199
 (fin R X_194 w_193 (B false))
 (k_204 v_65 w_193 X_194))) fun k_195 =>
 (gE u_190 true (eC Tryz.prog R X_176 w_175 true 20 #[u_191] k_195) (k_195 undef w_175 X_176))) fun k_177 =>
 (gE x150_172 false (eC Tryz.prog R X_171 w_170 true 19 #[u_173] k_177) (k_177 undef w_170 X_171))))))))) fun k_140 =>
 (gE x119_135 false (eC Tryz.prog R X_114 w_113 true 17 #[u_136] k_140) (k_140 undef w_113 X_114))))))))))))))) fun k_86 =>
 rdV Tryz.prog X_63 w_62 (binOp .lss 3 x72_80 (I 0)) fun x74_83 =>
 (condW x74_83
 (rdV Tryz.prog X_63 w_62 (Op.unary UnOp.neg x72_80) fun x76_84 =>
 (k_86 x76_84))
 (k_86 x72_80))))))))))
 (k_209 v_65 w_62 X_63))))))))))))))))) fun k_17 =>
 (gE x22_12 false (eC Tryz.prog R X_6 w_5 true 10 #[u_13, (I 20000)] k_17) (k_17 undef w_5 X_6))))))
theorem ok_racelaw22_SinkOnce {R : Ending → World → Prop} {w0 : World} {p0 : Int} {p1 p2 : Value} (h : vc_racelaw22_SinkOnce R w0 (old w0) p0 p1 p2) : Calls Tryz.prog 3 #[(I p0), p1, p2] w0 R :=
  calls_of_vc (pl := pl_racelaw22_SinkOnce) Tryz.func3 (by kernel_rfl) (by kernel_rfl) h
noncomputable def pl_racelaw22_first : Plan := ⟨94, [], [], [0, 1, 2, 3, 4, 5, 6, 7, 8, 11, 22], [19, 20, 21, 39, 40, 41, 43, 44, 45, 46, 48, 49, 50, 51, 52, 53, 55, 56, 57, 58, 59, 60, 61, 63, 64, 65, 66, 68, 69, 70, 71, 72, 73, 74, 76, 77, 78, 79, 81, 82, 83, 84, 85, 86, 88, 89, 90, 91, 92], []⟩
def vc_racelaw22_first (R : Ending → World → Prop) (w0 : World) (X0 : XS) : Prop :=
 (eC Tryz.prog R X0 w0 true 11 #[] fun x9_3 w_4 X_5 =>
 (rdV Tryz.prog X_5 w_4 (binS .eql 26 (.tmp 10) (.const (.pointer none)) x9_3 (.pointer none)) fun x11_8 =>
 (condW x11_8
 (fin R X_5 w_4 (B false))
 ((eC Tryz.prog R X_5 w_4 true 12 #[x9_3, (I 4096), (I 0)] fun x14_11 w_12 X_13 =>
 rdV Tryz.prog X_13 w_12 (Instr.extract x14_11 0) fun x15_14 =>
 rdV Tryz.prog X_13 w_12 (Instr.extract x14_11 1) fun x16_15 =>
 (rdV Tryz.prog X_13 w_12 (binS .eql 28 (.tmp 17) (.const (.pointer none)) x15_14 (.pointer none)) fun x18_18 =>
 un (gSel x18_18 false x16_15) fun u_19 =>
 grdW Tryz.prog X_13 w_12 x18_18 false (vS (binS .neq 29 (.tmp 20) (.const (I 0)) u_19 (I 0))) fun x21_20 =>
 rdW Tryz.prog X_13 w_12 (pickN x18_18 (B true) x21_20) fun x22_21 =>
 (condW x22_21
 (fin R X_13 w_12 (B false))
 ((eC Tryz.prog R X_13 w_12 true 13 #[(I 0), (I 5), (.string { data := #[97] })] fun x25_24 w_25 X_26 =>
 eC Tryz.prog R X_26 w_25 true 15 #[x15_14, x25_24] fun x26_27 w_28 X_29 =>
 rdV Tryz.prog X_29 w_28 (Instr.extract x26_27 0) fun x27_30 =>
 rdV Tryz.prog X_29 w_28 (Instr.extract x26_27 1) fun x28_31 =>
 (eC Tryz.prog R X_29 w_28 true 13 #[(I 4), (I 7), (.string { data := #[98] })] fun x31_33 w_34 X_35 =>
 eC Tryz.prog R X_35 w_34 true 15 #[x15_14, x31_33] fun x32_36 w_37 X_38 =>
 rdV Tryz.prog X_38 w_37 (Instr.extract x32_36 0) fun x33_39 =>
 rdV Tryz.prog X_38 w_37 (Instr.extract x32_36 1) fun x34_40 =>
 (eC Tryz.prog R X_38 w_37 true 14 #[x15_14] fun x36_42 w_43 X_44 =>
 (rdV Tryz.prog X_44 w_43 (binS .eql 29 (.tmp 37) (.const (I 0)) x28_31 (I 0)) fun x38_46 =>
 un (gSel x38_46 true x34_40) fun u_47 =>
 grdW Tryz.prog X_44 w_43 x38_46 true (vS (binS .eql 29 (.tmp 40) (.const (I 0)) u_47 (I 0))) fun x41_48 =>
 rdW Tryz.prog X_44 w_43 (pickN x38_46 x41_48 (B false)) fun x42_49 =>
 un (gSel x42_49 true x27_30) fun u_50 =>
 grdW Tryz.prog X_44 w_43 x42_49 true (vS (lnS 56 3 u_50)) fun x45_51 =>
 grdW Tryz.prog X_44 w_43 x42_49 true (vS (binS .eql 3 (.tmp 45) (.const (I 1)) x45_51 (I 1))) fun x46_52 =>
 rdW Tryz.prog X_44 w_43 (pickN x42_49 x46_52 (B false)) fun x47_53 =>
 un (gSel x47_53 true x27_30) fun u_54 =>
 grdW Tryz.prog X_44 w_43 x47_53 true (vS (ixS 56 36 u_54 (I 0))) fun x50_55 =>
 grdW Tryz.prog X_44 w_43 x47_53 true (vS (fld 48 0 0 1 x50_55)) fun x51_56 =>
 grdW Tryz.prog X_44 w_43 x47_53 true (vS (ld1 3 x51_56)) fun x52_57 =>
 grdW Tryz.prog X_44 w_43 x47_53 true (vS (binS .eql 3 (.tmp 52) (.const (I 14)) x52_57 (I 14))) fun x53_58 =>
 rdW Tryz.prog X_44 w_43 (pickN x47_53 x53_58 (B false)) fun x54_59 =>
 un (gSel x54_59 true x27_30) fun u_60 =>
 grdW Tryz.prog X_44 w_43 x54_59 true (vS (ixS 56 36 u_60 (I 0))) fun x57_61 =>
 grdW Tryz.prog X_44 w_43 x54_59 true (vS (fld 48 7 9 3 x57_61)) fun x58_62 =>
 grdW Tryz.prog X_44 w_43 x54_59 true (vS (fld 35 0 0 1 x58_62)) fun x59_63 =>
 grdW Tryz.prog X_44 w_43 x54_59 true (vS (ld1 3 x59_63)) fun x60_64 =>
 grdW Tryz.prog X_44 w_43 x54_59 true (vS (binS .eql 3 (.tmp 60) (.const (I 5)) x60_64 (I 5))) fun x61_65 =>
 rdW Tryz.prog X_44 w_43 (pickN x54_59 x61_65 (B false)) fun x62_66 =>
 un (gSel x62_66 true x33_39) fun u_67 =>
 grdW Tryz.prog X_44 w_43 x62_66 true (vS (lnS 56 3 u_67)) fun x65_68 =>
 grdW Tryz.prog X_44 w_43 x62_66 true (vS (binS .eql 3 (.tmp 65) (.const (I 1)) x65_68 (I 1))) fun x66_69 =>
 rdW Tryz.prog X_44 w_43 (pickN x62_66 x66_69 (B false)) fun x67_70 =>
 un (gSel x67_70 true x33_39) fun u_71 =>
 grdW Tryz.prog X_44 w_43 x67_70 true (vS (ixS 56 36 u_71 (I 0))) fun x70_72 =>
 grdW Tryz.prog X_44 w_43 x67_70 true (vS (fld 48 7 9 3 x70_72)) fun x71_73 =>
 grdW Tryz.prog X_44 w_43 x67_70 true (vS (fld 35 0 0 1 x71_73)) fun x72_74 =>
 grdW Tryz.prog X_44 w_43 x67_70 true (vS (ld1 3 x72_74)) fun x73_75 =>
 grdW Tryz.prog X_44 w_43 x67_70 true (vS (binS .eql 3 (.tmp 73) (.const (I 5)) x73_75 (I 5))) fun x74_76 =>
 rdW Tryz.prog X_44 w_43 (pickN x67_70 x74_76 (B false)) fun x75_77 =>
 un (gSel x75_77 true x36_42) fun u_78 =>
 grdW Tryz.prog X_44 w_43 x75_77 true (vS (lnS 54 3 u_78)) fun x78_79 =>
 grdW Tryz.prog X_44 w_43 x75_77 true (vS (binS .eql 3 (.tmp 78) (.const (I 1)) x78_79 (I 1))) fun x79_80 =>
 rdW Tryz.prog X_44 w_43 (pickN x75_77 x79_80 (B false)) fun x80_81 =>
 un (gSel x80_81 true x36_42) fun u_82 =>
 grdW Tryz.prog X_44 w_43 x80_81 true (vS (ixS 54 4 u_82 (I 0))) fun x83_83 =>
 grdW Tryz.prog X_44 w_43 x80_81 true (vS (fld 74 0 0 1 x83_83)) fun x84_84 =>
 grdW Tryz.prog X_44 w_43 x80_81 true (vS (ld1 9 x84_84)) fun x85_85 =>
 grdW Tryz.prog X_44 w_43 x80_81 true (vS (binS .eql 9 (.tmp 85) (.const (.string { data := #[97] })) x85_85 (.string { data := #[97] }))) fun x86_86 =>
 rdW Tryz.prog X_44 w_43 (pickN x80_81 x86_86 (B false)) fun x87_87 =>
 un (gSel x87_87 true x15_14) fun u_88 =>
 jn (fun (x90_89 : Value) (w_90 : World) (X_91 : XS) =>
 grdW Tryz.prog X_91 w_90 x87_87 true (vS (fdV 35 0 0 1 x90_89)) fun x91_93 =>
 grdW Tryz.prog X_91 w_90 x87_87 true (vS (binS .eql 3 (.tmp 91) (.const (I 5)) x91_93 (I 5))) fun x92_94 =>
 rdW Tryz.prog X_91 w_90 (pickN x87_87 x92_94 (B false)) fun x93_95 =>
 (fin R X_91 w_90 x93_95)) fun k_92 =>
 (gE x87_87 true (eC Tryz.prog R X_44 w_43 true 19 #[u_88] k_92) (k_92 undef w_43 X_44))))))))))))))
theorem ok_racelaw22_first {R : Ending → World → Prop} {w0 : World} (h : vc_racelaw22_first R w0 (old w0)) : Calls Tryz.prog 9 #[] w0 R :=
  calls_of_vc (pl := pl_racelaw22_first) Tryz.func9 (by kernel_rfl) (by kernel_rfl) h
noncomputable def pl_raceref_WeighWrites : Plan := ⟨38, [], [], [0, 1, 4, 5, 6, 15], [11, 12, 13, 14, 18], [5, 6]⟩
def vc_raceref_WeighWrites (R : Ending → World → Prop) (w0 : World) (X0 : XS) (p0 : Value) (p1 : Int) : Prop :=
 (((lp2 X0 w0 (I 0) (I 0) 6 5 fun J_6 n_7 v_11 v_12 w_9 X_10 =>
 rdV Tryz.prog X_10 w_9 (lnS 23 3 p0) fun x9_15 =>
 rdV Tryz.prog X_10 w_9 (binOp .lss 3 v_11 x9_15) fun x10_16 =>
 un (gSel x10_16 true v_12) fun u_17 =>
 un (gSel x10_16 true (I p1)) fun u_18 =>
 grdW Tryz.prog X_10 w_9 x10_16 true (vS (binOp .leq 3 u_17 u_18)) fun x14_19 =>
 rdW Tryz.prog X_10 w_9 (pickN x10_16 x14_19 (B false)) fun x15_20 =>
 (condW x15_20
 ((rdV Tryz.prog X_10 w_9 (ixS 23 4 p0 v_11) fun x21_23 =>
 rdV Tryz.prog X_10 w_9 (fld 53 0 0 1 x21_23) fun x22_24 =>
 rdV Tryz.prog X_10 w_9 (ld1 9 x22_24) fun x23_25 =>
 rdV Tryz.prog X_10 w_9 (lnT 9 3 x23_25) fun x24_26 =>
 rdV Tryz.prog X_10 w_9 (binOp .add 3 (I 1) x24_26) fun x25_27 =>
 rdV Tryz.prog X_10 w_9 (ixS 23 4 p0 v_11) fun x30_28 =>
 rdV Tryz.prog X_10 w_9 (fld 53 1 1 3 x30_28) fun x31_29 =>
 rdV Tryz.prog X_10 w_9 (fld 51 2 2 1 x31_29) fun x32_30 =>
 rdV Tryz.prog X_10 w_9 (ld1 9 x32_30) fun x33_31 =>
 rdV Tryz.prog X_10 w_9 (lnT 9 3 x33_31) fun x34_32 =>
 eC Tryz.prog R X_10 w_9 false 40 #[v_12, x25_27, (I p1)] fun x27_33 w_34 X_35 =>
 eC Tryz.prog R X_35 w_34 true 40 #[x27_33, x34_32, (I p1)] fun x36_36 w_37 X_38 =>
 ((rdV Tryz.prog X_38 w_37 (binOp .add 3 v_11 (I 1)) fun x17_39 =>
 nx2 J_6 n_7 x17_39 x36_36 w_37 X_38))))
 (fin R X_10 w_9 v_12)))))
theorem ok_raceref_WeighWrites {R : Ending → World → Prop} {w0 : World} {p0 : Value} {p1 : Int} (h : vc_raceref_WeighWrites R w0 (old w0) p0 p1) : Calls Tryz.prog 10 #[p0, (I p1)] w0 R :=
  calls_of_vc (pl := pl_raceref_WeighWrites) Tryz.func10 (by kernel_rfl) (by kernel_rfl) h
noncomputable def pl_disk_New : Plan := ⟨4, [], [], [0], [], []⟩
def vc_disk_New (R : Ending → World → Prop) (w0 : World) (X0 : XS) : Prop :=
 (eV Tryz.prog R X0 w0 true (Instr.makeMap 104 none) fun x1_3 w_4 X_5 =>
 rdV Tryz.prog X_5 w_4 (bld 106 #[x1_3, (I 0), (I 0), (I 0), (B false)] #[(0, x1_3)]) fun x2_6 =>
 eV Tryz.prog R X_5 w_4 true (Instr.box 106 x2_6) fun x3_7 w_8 X_9 =>
 (fin R X_9 w_8 x3_7))
theorem ok_disk_New {R : Ending → World → Prop} {w0 : World} (h : vc_disk_New R w0 (old w0)) : Calls Tryz.prog 11 #[] w0 R :=
  calls_of_vc (pl := pl_disk_New) Tryz.func11 (by kernel_rfl) (by kernel_rfl) h
noncomputable def pl_sink_Open : Plan := ⟨87, [(15, (Tryz.prog.cellsOf 117))], [62, 66, 73], [0, 1, 2, 6, 7, 8, 9, 10, 11, 12, 13, 16, 22, 30, 45, 70, 72, 83, 85], [19, 20, 21, 61, 63, 64, 65, 67, 68, 69], [11, 12]⟩
def vc_sink_Open (R : Ending → World → Prop) (w0 : World) (X0 : XS) (p0 : Value) (p1 p2 : Int) : Prop :=
 (rdV Tryz.prog X0 w0 (binOp .lss 3 (I p2) (I 0)) fun x18_4 =>
 un (gSel x18_4 false (I p2)) fun u_5 =>
 grdW Tryz.prog X0 w0 x18_4 false (vS (binOp .gtr 3 u_5 (I 1000))) fun x21_6 =>
 rdW Tryz.prog X0 w0 (pickN x18_4 (B true) x21_6) fun x22_7 =>
 (condW x22_7
 ((fin R X0 w0 (Value.tuple #[(.pointer none), (I 1)])))
 ((eC Tryz.prog R X0 w0 true 41 #[p0, (.string { data := #[115, 105, 110, 107] }), (I p1)] fun x26_10 w_11 X_12 =>
 rdV Tryz.prog X_12 w_11 (Instr.extract x26_10 0) fun x27_13 =>
 rdV Tryz.prog X_12 w_11 (Instr.extract x26_10 1) fun x28_14 =>
 (rdV Tryz.prog X_12 w_11 (binS .neq 29 (.tmp 29) (.const (I 0)) x28_14 (I 0)) fun x30_17 =>
 (condW x30_17
 ((fin R X_12 w_11 (Value.tuple #[(.pointer none), x28_14])))
 ((eV Tryz.prog R X_12 w_11 true (Instr.makeMap 110 none) fun x34_20 w_21 X_22 =>
 rdV Tryz.prog X_22 w_21 (bld 112 #[x27_13, (I p2), (I 0), (B false), x34_20, (I 0), (I 0), (I 0), (.slice none 0 0)] #[(0, x27_13), (1, (I p2)), (4, x34_20)]) fun x35_23 =>
 eV Tryz.prog R X_22 w_21 true (Instr.box 112 x35_23) fun x36_24 w_25 X_26 =>
 (eC Tryz.prog R X_26 w_25 true 42 #[x27_13] fun x38_28 w_29 X_30 =>
 rdV Tryz.prog X_30 w_29 (binS .eql 3 (.tmp 38) (.const (I 1)) x38_28 (I 1)) fun x39_31 =>
 (eC Tryz.prog R X_30 w_29 true 42 #[x27_13] fun x41_34 w_35 X_36 =>
 (lp2 X_36 w_35 x41_34 x39_31 12 11 fun J_38 n_39 v_43 v_44 w_41 X_42 =>
 eC Tryz.prog R X_42 w_41 true 43 #[x27_13] fun x44_47 w_48 X_49 =>
 rdV Tryz.prog X_49 w_48 (binOp .lss 3 v_43 x44_47) fun x45_50 =>
 (condW x45_50
 (((jn (fun (y11_95 : Value) (w_96 : World) (X_97 : XS) =>
 (rdV Tryz.prog X_97 w_96 (binOp .add 3 v_43 (I 1)) fun x47_99 =>
 nx2 J_38 n_39 x47_99 y11_95 w_96 X_97)) fun k_98 =>
 eC Tryz.prog R X_49 w_48 true 44 #[x27_13, v_43] fun x51_54 w_55 X_56 =>
 rdV Tryz.prog X_56 w_55 (Instr.extract x51_54 0) fun x52_57 =>
 rdV Tryz.prog X_56 w_55 (Instr.extract x51_54 1) fun _ =>
 (eC Tryz.prog R X_56 w_55 true 45 #[x52_57] fun x56_60 w_61 X_62 =>
 rdV Tryz.prog X_62 w_61 (Instr.extract x56_60 0) fun x57_63 =>
 rdV Tryz.prog X_62 w_61 (Instr.extract x56_60 1) fun x58_64 =>
 un (Value.agg (Value.cells x57_63)) fun u_65 =>
 chk (List.length (Array.toList (Value.cells x57_63)) == 29) (chk (List.all (Array.toList (Value.cells x57_63)) one) ((rdV Tryz.prog X_62 w_61 (binS .neq 29 (.tmp 59) (.const (I 0)) x58_64 (I 0)) fun x60_68 =>
 chk (isA u_65) (un (cellOf u_65 0) fun u_69 =>
 un (gSel x60_68 false u_69) fun u_70 =>
 grdW Tryz.prog X_62 w_61 x60_68 false (vS (binS .neq 3 (.tmp 63) (.const (I 11)) u_70 (I 11))) fun x64_71 =>
 un (gSel x60_68 false x64_71) fun u_72 =>
 un (gSel u_72 true u_69) fun u_73 =>
 grdW Tryz.prog X_62 w_61 u_72 true (vS (binS .neq 3 (.tmp 67) (.const (I 12)) u_73 (I 12))) fun x68_74 =>
 grdW Tryz.prog X_62 w_61 x60_68 false (pickN u_72 x68_74 (B false)) fun x69_75 =>
 rdW Tryz.prog X_62 w_61 (pickN x60_68 (B true) x69_75) fun x70_76 =>
 (condW x70_76
 ((fin R X_62 w_61 (Value.tuple #[(.pointer none), (I 13)])))
 ((rdV Tryz.prog X_62 w_61 (Op.unary UnOp.not v_44) fun x72_80 =>
 (condW x72_80
 (chk (isA u_65) (rdV Tryz.prog X_62 w_61 (binS .eql 3 (.tmp 74) (.const (I 12)) u_69 (I 12)) fun x75_82 =>
 (chk (isA u_65) (un (subOf u_65 0 29) fun u_84 =>
 eC Tryz.prog R X_62 w_61 true 46 #[x36_24, u_84, x75_82] fun _ w_86 X_87 =>
 (k_98 x75_82 w_86 X_87)))))
 ((chk (isA u_65) (un (subOf u_65 0 29) fun u_89 =>
 eC Tryz.prog R X_62 w_61 true 47 #[x36_24, u_89] fun x82_90 w_91 X_92 =>
 rdV Tryz.prog X_92 w_91 (Op.unary UnOp.not x82_90) fun x83_93 =>
 (condW x83_93
 ((fin R X_92 w_91 (Value.tuple #[(.pointer none), (I 13)])))
 (k_98 v_44 w_91 X_92)))))))))))))))))
 (((rdV Tryz.prog X_49 w_48 (Op.unary UnOp.not v_44) fun x85_102 =>
 (condW x85_102
 ((fin R X_49 w_48 (Value.tuple #[(.pointer none), (I 13)])))
 (((fin R X_49 w_48 (Value.tuple #[x36_24, (I 0)]))))))))))))))))))))
theorem ok_sink_Open {R : Ending → World → Prop} {w0 : World} {p0 : Value} {p1 p2 : Int} (h : vc_sink_Open R w0 (old w0) p0 p1 p2) : Calls Tryz.prog 12 #[p0, (I p1), (I p2)] w0 R :=
  calls_of_vc (pl := pl_sink_Open) Tryz.func12 (by kernel_rfl) (by kernel_rfl) h
noncomputable def pl_racelaw22_apply : Plan := ⟨23, [(6, (Tryz.prog.cellsOf 48)), (7, (Tryz.prog.cellsOf 48))], [21], [0, 1, 2, 18], [], []⟩
def vc_racelaw22_apply (R : Ending → World → Prop) (w0 : World) (X0 : XS) (p0 p1 : Int) (p2 : ByteArray) : Prop :=
 (rdV Tryz.prog X0 w0 (bld 33 #[(I 1), (I 1), (I p1)] #[(0, (I 1)), (1, (I 1)), (2, (I p1))]) fun x9_3 =>
 rdV Tryz.prog X0 w0 (bld 35 #[(I p1), (I 0), (I 1)] #[(0, (I p1)), (2, (I 1))]) fun x11_4 =>
 rdV Tryz.prog X0 w0 (bld 51 #[(I 1), (.float .f64 4607182418800017408), (.string ⟨#[]⟩)] #[(0, (I 1)), (1, (.float .f64 4607182418800017408))]) fun x13_5 =>
 un (cellOf x13_5 0) fun u_6 =>
 un (cellOf x13_5 1) fun u_7 =>
 un (cellOf x13_5 2) fun u_8 =>
 rdV Tryz.prog X0 w0 (bld 53 #[(.string p2), u_6, u_7, u_8] #[(0, (.string p2)), (1, x13_5)]) fun x14_9 =>
 eV Tryz.prog R X0 w0 true (bsS 23 53 4 1 #[(0, x14_9)]) fun x15_10 w_11 X_12 =>
 un (cellOf x9_3 0) fun u_13 =>
 un (cellOf x9_3 1) fun u_14 =>
 un (cellOf x9_3 2) fun u_15 =>
 un (cellOf x11_4 0) fun u_16 =>
 un (cellOf x11_4 1) fun u_17 =>
 un (cellOf x11_4 2) fun u_18 =>
 rdV Tryz.prog X_12 w_11 (bld 48 #[(I 12), (I 31), (I 32), u_13, u_14, u_15, (I 0), (I 0), (I 0), u_16, u_17, u_18, (I 0), (I 0), (I 0), (B false), (I 0), (I 0), (.slice none 0 0), (.slice none 0 0), x15_10, (.slice none 0 0), (.slice none 0 0), (.slice none 0 0), (I 0), (I 0), (.float .f64 0), (.float .f64 0), (I 0), (I 0), (I 0), (I 0), (I 0), (I 0), (.slice none 0 0), (.slice none 0 0)] #[(0, (I 12)), (1, (I 31)), (2, (I 32)), (3, x9_3), (7, x11_4), (14, x15_10)]) fun x16_19 =>
 un (Value.agg (Value.cells x16_19)) fun u_20 =>
 chk (List.length (Array.toList (Value.cells x16_19)) == 36) (chk (List.all (Array.toList (Value.cells x16_19)) one) (((jn (fun (y7_26 : Value) =>
 chk (isA y7_26) (un (subOf y7_26 0 36) fun u_29 =>
 un (Value.agg (Value.cells u_29)) fun u_30 =>
 chk (List.length (Array.toList (Value.cells u_29)) == 36) (chk (List.all (Array.toList (Value.cells u_29)) one) (un (subOf u_30 0 36) fun u_31 =>
 chk (List.all [u_30] isA) (fin R X_12 w_11 u_31))))) fun k_27 =>
 rdV Tryz.prog X_12 w_11 (binOp .gtr 3 (I p0) (I 0)) fun x18_23 =>
 (condW x18_23
 (rdV Tryz.prog X_12 w_11 (bld 35 #[(I p0), (I 0), (I 1)] #[(0, (I p0)), (2, (I 1))]) fun x20_24 =>
 chk (isA u_20) (un (Value.agg (List.toArray (setL (Array.toList (Value.cells u_20)) 12 (Array.toList (Value.cells x20_24))))) fun u_25 =>
 chk (List.length (Array.toList (Value.cells x20_24)) == 3) (chk (List.all (Array.toList (Value.cells x20_24)) one) (k_27 u_25))))
 (k_27 u_20)))))))
theorem ok_racelaw22_apply {R : Ending → World → Prop} {w0 : World} {p0 p1 : Int} {p2 : ByteArray} (h : vc_racelaw22_apply R w0 (old w0) p0 p1 p2) : Calls Tryz.prog 13 #[(I p0), (I p1), (.string p2)] w0 R :=
  calls_of_vc (pl := pl_racelaw22_apply) Tryz.func13 (by kernel_rfl) (by kernel_rfl) h
noncomputable def pl_sink_Node_Pairs : Plan := ⟨30, [], [], [0, 2, 3, 5, 11, 12, 13, 14], [], [3, 13]⟩
def vc_sink_Node_Pairs (R : Ending → World → Prop) (w0 : World) (X0 : XS) (p0 : Value) : Prop :=
 ((rdW Tryz.prog X0 w0 (nilN p0) fun x7_5 =>
 rdV Tryz.prog X0 w0 (fld 112 4 4 1 x7_5) fun x8_6 =>
 rdV Tryz.prog X0 w0 (ld1 110 x8_6) fun x9_7 =>
 eC Tryz.prog R X0 w0 true 49 #[x9_7] fun x10_8 w_9 X_10 =>
 eC Tryz.prog R X_10 w_9 true 48 #[x10_8] fun x11_11 w_12 X_13 =>
 rdV Tryz.prog X_13 w_12 (lnS 36 3 x11_11) fun x12_14 =>
 (lp2 X_13 w_12 (I 0) (.slice none 0 0) 13 3 fun J_16 n_17 v_21 v_22 w_19 X_20 =>
 rdV Tryz.prog X_20 w_19 (binOp .lss 3 v_21 x12_14) fun x14_24 =>
 (condW x14_24
 ((rdV Tryz.prog X_20 w_19 (ixS 36 1 x11_11 v_21) fun x15_29 =>
 rdV Tryz.prog X_20 w_19 (ld1 9 x15_29) fun x16_30 =>
 (rdW Tryz.prog X_20 w_19 (nilN p0) fun x20_31 =>
 rdV Tryz.prog X_20 w_19 (fld 112 4 4 1 x20_31) fun x21_32 =>
 rdV Tryz.prog X_20 w_19 (ld1 110 x21_32) fun x22_33 =>
 rdV Tryz.prog X_20 w_19 (Instr.lookup 110 x22_33 x16_30 false) fun x24_34 =>
 un (cellOf x24_34 0) fun u_35 =>
 un (cellOf x24_34 1) fun u_36 =>
 un (cellOf x24_34 2) fun u_37 =>
 rdV Tryz.prog X_20 w_19 (bld 74 #[x16_30, u_35, u_36, u_37] #[(0, x16_30), (1, x24_34)]) fun x25_38 =>
 eV Tryz.prog R X_20 w_19 true (bsS 54 74 4 1 #[(0, x25_38)]) fun x26_39 w_40 X_41 =>
 eV Tryz.prog R X_41 w_40 true (apS 54 74 4 48 54 v_22 x26_39) fun x27_42 w_43 X_44 =>
 ((rdV Tryz.prog X_44 w_43 (binOp .add 3 v_21 (I 1)) fun x28_45 =>
 nx2 J_16 n_17 x28_45 x27_42 w_43 X_44)))))
 (fin R X_20 w_19 v_22)))))
theorem ok_sink_Node_Pairs {R : Ending → World → Prop} {w0 : World} {p0 : Value} (h : vc_sink_Node_Pairs R w0 (old w0) p0) : Calls Tryz.prog 14 #[p0] w0 R :=
  calls_of_vc (pl := pl_sink_Node_Pairs) Tryz.func14 (by kernel_rfl) (by kernel_rfl) h
noncomputable def pl_sink_Node_Down : Plan := ⟨7, [], [], [0, 2], [], []⟩
def vc_sink_Node_Down (R : Ending → World → Prop) (w0 : World) (X0 : XS) (p0 : Value) : Prop :=
 (rdW Tryz.prog X0 w0 (nilN p0) fun x4_3 =>
 rdV Tryz.prog X0 w0 (fld 112 3 3 1 x4_3) fun x5_4 =>
 rdV Tryz.prog X0 w0 (ld1 4 x5_4) fun x6_5 =>
 (fin R X0 w0 x6_5))
theorem ok_sink_Node_Down {R : Ending → World → Prop} {w0 : World} {p0 : Value} (h : vc_sink_Node_Down R w0 (old w0) p0) : Calls Tryz.prog 17 #[p0] w0 R :=
  calls_of_vc (pl := pl_sink_Node_Down) Tryz.func17 (by kernel_rfl) (by kernel_rfl) h
noncomputable def pl_raceref_Pairs : Plan := ⟨42, [], [], [0, 1, 4, 5, 10, 14, 41], [28, 29, 30, 31, 32, 33, 34, 35, 36, 37, 38, 39, 40], [5]⟩
def vc_raceref_Pairs (R : Ending → World → Prop) (w0 : World) (X0 : XS) (p0 p1 : Value) : Prop :=
 (rdV Tryz.prog X0 w0 (lnS 54 3 p0) fun x7_4 =>
 rdV Tryz.prog X0 w0 (lnS 54 3 p1) fun x9_5 =>
 rdV Tryz.prog X0 w0 (binS .neq 3 (.tmp 7) (.tmp 9) x7_4 x9_5) fun x10_6 =>
 (condW x10_6
 (fin R X0 w0 (B false))
 (((lp1 X0 w0 (I 0) 5 fun J_11 n_12 v_16 w_14 X_15 =>
 rdV Tryz.prog X_15 w_14 (lnS 54 3 p0) fun x13_19 =>
 rdV Tryz.prog X_15 w_14 (binOp .lss 3 v_16 x13_19) fun x14_20 =>
 (condW x14_20
 ((rdV Tryz.prog X_15 w_14 (ixS 54 4 p0 v_16) fun x19_24 =>
 rdV Tryz.prog X_15 w_14 (fld 74 0 0 1 x19_24) fun x20_25 =>
 rdV Tryz.prog X_15 w_14 (ld1 9 x20_25) fun x21_26 =>
 rdV Tryz.prog X_15 w_14 (ixS 54 4 p1 v_16) fun x24_27 =>
 rdV Tryz.prog X_15 w_14 (fld 74 0 0 1 x24_27) fun x25_28 =>
 rdV Tryz.prog X_15 w_14 (ld1 9 x25_28) fun x26_29 =>
 rdV Tryz.prog X_15 w_14 (binS .neq 9 (.tmp 21) (.tmp 26) x21_26 x26_29) fun x27_30 =>
 un (gSel x27_30 false p0) fun u_31 =>
 un (gSel x27_30 false v_16) fun u_32 =>
 grdW Tryz.prog X_15 w_14 x27_30 false (vS (ixS 54 4 u_31 u_32)) fun x31_33 =>
 grdW Tryz.prog X_15 w_14 x27_30 false (vS (fld 74 1 1 3 x31_33)) fun x32_34 =>
 grdW Tryz.prog X_15 w_14 x27_30 false (vS (ldA 51 3 x32_34)) fun x33_35 =>
 un (gSel x27_30 false p1) fun u_36 =>
 grdW Tryz.prog X_15 w_14 x27_30 false (vS (ixS 54 4 u_36 u_32)) fun x36_37 =>
 grdW Tryz.prog X_15 w_14 x27_30 false (vS (fld 74 1 1 3 x36_37)) fun x37_38 =>
 grdW Tryz.prog X_15 w_14 x27_30 false (vS (ldA 51 3 x37_38)) fun x38_39 =>
 jn (fun (x39_40 : Value) (w_41 : World) (X_42 : XS) =>
 grdW Tryz.prog X_42 w_41 x27_30 false (vS (Op.unary UnOp.not x39_40)) fun x40_44 =>
 rdW Tryz.prog X_42 w_41 (pickN x27_30 (B true) x40_44) fun x41_45 =>
 (condW x41_45
 (fin R X_42 w_41 (B false))
 (((rdV Tryz.prog X_42 w_41 (binOp .add 3 v_16 (I 1)) fun x16_47 =>
 nx1 J_11 n_12 x16_47 w_41 X_42))))) fun k_43 =>
 (gE x27_30 false (eC Tryz.prog R X_15 w_14 true 25 #[x33_35, x38_39] k_43) (k_43 undef w_14 X_15))))
 (fin R X_15 w_14 (B true))))))))
theorem ok_raceref_Pairs {R : Ending → World → Prop} {w0 : World} {p0 p1 : Value} (h : vc_raceref_Pairs R w0 (old w0) p0 p1) : Calls Tryz.prog 18 #[p0, p1] w0 R :=
  calls_of_vc (pl := pl_raceref_Pairs) Tryz.func18 (by kernel_rfl) (by kernel_rfl) h
noncomputable def pl_sink_Node_High : Plan := ⟨7, [(2, (Tryz.prog.cellsOf 35))], [], [0], [], []⟩
def vc_sink_Node_High (R : Ending → World → Prop) (w0 : World) (X0 : XS) (p0 : Value) : Prop :=
 (rdW Tryz.prog X0 w0 (nilN p0) fun x4_3 =>
 rdV Tryz.prog X0 w0 (fld 112 5 5 3 x4_3) fun x5_4 =>
 rdV Tryz.prog X0 w0 (ldA 35 3 x5_4) fun x6_5 =>
 un (Value.agg (Value.cells x6_5)) fun u_6 =>
 chk (List.length (Array.toList (Value.cells x6_5)) == 3) (chk (List.all (Array.toList (Value.cells x6_5)) one) (un (subOf u_6 0 3) fun u_7 =>
 chk (List.all [u_6] isA) (fin R X0 w0 u_7))))
theorem ok_sink_Node_High {R : Ending → World → Prop} {w0 : World} {p0 : Value} (h : vc_sink_Node_High R w0 (old w0) p0) : Calls Tryz.prog 19 #[p0] w0 R :=
  calls_of_vc (pl := pl_sink_Node_High) Tryz.func19 (by kernel_rfl) (by kernel_rfl) h
noncomputable def pl_disk_Disk_List : Plan := ⟨9, [], [], [0, 2], [], []⟩
def vc_disk_Disk_List (R : Ending → World → Prop) (w0 : World) (X0 : XS) (p0 : Value) : Prop :=
 (rdW Tryz.prog X0 w0 (nilN p0) fun x4_3 =>
 rdV Tryz.prog X0 w0 (fld 106 0 0 1 x4_3) fun x5_4 =>
 rdV Tryz.prog X0 w0 (ld1 104 x5_4) fun x6_5 =>
 eC Tryz.prog R X0 w0 true 59 #[x6_5] fun x7_6 w_7 X_8 =>
 eC Tryz.prog R X_8 w_7 true 48 #[x7_6] fun x8_9 w_10 X_11 =>
 (fin R X_11 w_10 x8_9))
theorem ok_disk_Disk_List {R : Ending → World → Prop} {w0 : World} {p0 : Value} (h : vc_disk_Disk_List R w0 (old w0) p0) : Calls Tryz.prog 20 #[p0] w0 R :=
  calls_of_vc (pl := pl_disk_Disk_List) Tryz.func20 (by kernel_rfl) (by kernel_rfl) h
noncomputable def pl_sink_Node_Applied : Plan := ⟨25, [(5, (Tryz.prog.cellsOf 73))], [15, 18], [0, 2, 3, 9, 10, 11, 12], [], [3, 11]⟩
def vc_sink_Node_Applied (R : Ending → World → Prop) (w0 : World) (X0 : XS) (p0 : Value) : Prop :=
 ((rdW Tryz.prog X0 w0 (nilN p0) fun x7_5 =>
 rdV Tryz.prog X0 w0 (fld 112 6 8 1 x7_5) fun x8_6 =>
 rdV Tryz.prog X0 w0 (ld1 63 x8_6) fun x9_7 =>
 rdV Tryz.prog X0 w0 (lnS 63 3 x9_7) fun x10_8 =>
 (lp2 X0 w0 (I 0) (.slice none 0 0) 11 3 fun J_10 n_11 v_15 v_16 w_13 X_14 =>
 rdV Tryz.prog X_14 w_13 (binOp .lss 3 v_15 x10_8) fun x12_18 =>
 (condW x12_18
 ((rdV Tryz.prog X_14 w_13 (ixS 63 7 x9_7 v_15) fun x13_23 =>
 rdV Tryz.prog X_14 w_13 (ldA 73 7 x13_23) fun x14_24 =>
 un (Value.agg (Value.cells x14_24)) fun u_25 =>
 chk (List.length (Array.toList (Value.cells x14_24)) == 7) (chk (List.all (Array.toList (Value.cells x14_24)) one) ((chk (isA u_25) (un (cellOf u_25 6) fun u_27 =>
 eC Tryz.prog R X_14 w_13 true 60 #[u_27] fun x17_28 w_29 X_30 =>
 un (Value.agg (List.toArray (setL (Array.toList (Value.cells u_25)) 6 [x17_28]))) fun u_31 =>
 chk (one x17_28) ((chk (isA u_31) (un (subOf u_31 0 7) fun u_32 =>
 eV Tryz.prog R X_30 w_29 true (bsS 63 73 7 1 #[(0, u_32)]) fun x21_33 w_34 X_35 =>
 eV Tryz.prog R X_35 w_34 true (apS 63 73 7 72 63 v_16 x21_33) fun x22_36 w_37 X_38 =>
 ((rdV Tryz.prog X_38 w_37 (binOp .add 3 v_15 (I 1)) fun x23_39 =>
 nx2 J_10 n_11 x23_39 x22_36 w_37 X_38)))))))))))
 (fin R X_14 w_13 v_16)))))
theorem ok_sink_Node_Applied {R : Ending → World → Prop} {w0 : World} {p0 : Value} (h : vc_sink_Node_Applied R w0 (old w0) p0) : Calls Tryz.prog 21 #[p0] w0 R :=
  calls_of_vc (pl := pl_sink_Node_Applied) Tryz.func21 (by kernel_rfl) (by kernel_rfl) h
noncomputable def pl_raceref_Value : Plan := ⟨24, [(2, (Tryz.prog.cellsOf 51)), (3, (Tryz.prog.cellsOf 51))], [5, 7, 11, 13, 18, 20], [0, 1, 4], [10, 12, 14, 15, 17, 19, 21, 22], []⟩
def vc_raceref_Value (R : Ending → World → Prop) (w0 : World) (X0 : XS) (p0_0 : Int) (p0_1 : Nat) (p0_2 : ByteArray) (p1_0 : Int) (p1_1 : Nat) (p1_2 : ByteArray) : Prop :=
 (rdV Tryz.prog X0 w0 (binS .eql 3 (.tmp 6) (.tmp 8) (I p0_0) (I p1_0)) fun x9_3 =>
 un (gSel x9_3 true (.string p0_2)) fun u_4 =>
 un (gSel x9_3 true (.string p1_2)) fun u_5 =>
 grdW Tryz.prog X0 w0 x9_3 true (vS (binS .eql 9 (.tmp 12) (.tmp 14) u_4 u_5)) fun x15_6 =>
 rdW Tryz.prog X0 w0 (pickN x9_3 x15_6 (B false)) fun x16_7 =>
 un (gSel x16_7 true (.float .f64 p0_1)) fun u_8 =>
 un (gSel x16_7 true (.float .f64 p1_1)) fun u_9 =>
 jn (fun (x22_10 : Value) (w_11 : World) (X_12 : XS) =>
 rdW Tryz.prog X_12 w_11 (pickN x16_7 x22_10 (B false)) fun x23_14 =>
 (fin R X_12 w_11 x23_14)) fun k_13 =>
 (gE x16_7 true (eC Tryz.prog R X0 w0 true 63 #[u_8, u_9] k_13) (k_13 undef w0 X0)))
theorem ok_raceref_Value {R : Ending → World → Prop} {w0 : World} {p0_0 : Int} {p0_1 : Nat} {p0_2 : ByteArray} {p1_0 : Int} {p1_1 : Nat} {p1_2 : ByteArray} (h : vc_raceref_Value R w0 (old w0) p0_0 p0_1 p0_2 p1_0 p1_1 p1_2) : Calls Tryz.prog 25 #[(.agg #[(I p0_0), (.float .f64 p0_1), (.string p0_2)]), (.agg #[(I p1_0), (.float .f64 p1_1), (.string p1_2)])] w0 R :=
  calls_of_vc (pl := pl_raceref_Value) Tryz.func25 (by kernel_rfl) (by kernel_rfl) h
noncomputable def pl_raceref_few : Plan := ⟨20, [], [], [0, 1, 2, 6, 14], [10, 11, 12, 13], []⟩
def vc_raceref_few (R : Ending → World → Prop) (w0 : World) (X0 : XS) (p0 p1 p2 : Int) : Prop :=
 (rdV Tryz.prog X0 w0 (binOp .gtr 3 (I p1) (I p2)) fun x9_4 =>
 un (gSel x9_4 false (I p0)) fun u_5 =>
 un (gSel x9_4 false (I p2)) fun u_6 =>
 grdW Tryz.prog X0 w0 x9_4 false (vS (binOp .gtr 3 u_5 u_6)) fun x13_7 =>
 rdW Tryz.prog X0 w0 (pickN x9_4 (B true) x13_7) fun x14_8 =>
 (condW x14_8
 (rdV Tryz.prog X0 w0 (binOp .add 3 (I p2) (I 1)) fun x16_10 =>
 (fin R X0 w0 x16_10))
 ((rdV Tryz.prog X0 w0 (binOp .add 3 (I p0) (I p1)) fun x19_12 =>
 (fin R X0 w0 x19_12)))))
theorem ok_raceref_few {R : Ending → World → Prop} {w0 : World} {p0 p1 p2 : Int} (h : vc_raceref_few R w0 (old w0) p0 p1 p2) : Calls Tryz.prog 40 #[(I p0), (I p1), (I p2)] w0 R :=
  calls_of_vc (pl := pl_raceref_few) Tryz.func40 (by kernel_rfl) (by kernel_rfl) h
noncomputable def pl_wal_Open : Plan := ⟨79, [], [], [0, 1, 2, 6, 7, 9, 10, 12, 13, 14, 15, 16, 22, 26, 33, 42, 43, 44, 45, 52, 58, 66, 70, 76], [29, 30, 31], [44]⟩
def vc_wal_Open (R : Ending → World → Prop) (w0 : World) (X0 : XS) (p0 : Value) (p1 : ByteArray) (p2 : Int) : Prop :=
 (eC Tryz.prog R X0 w0 true 79 #[(.string p1), (I 1)] fun x19_3 w_4 X_5 =>
 rdV Tryz.prog X_5 w_4 (Instr.extract x19_3 0) fun _ =>
 rdV Tryz.prog X_5 w_4 (Instr.extract x19_3 1) fun x21_7 =>
 (rdV Tryz.prog X_5 w_4 (binS .neq 29 (.tmp 23) (.const (I 0)) x21_7 (I 0)) fun x24_11 =>
 (condW x24_11
 ((fin R X_5 w_4 (Value.tuple #[(.pointer none), x21_7])))
 (rdV Tryz.prog X_5 w_4 (binOp .lss 3 (I p2) (I 64)) fun x28_14 =>
 un (gSel x28_14 false (I p2)) fun u_15 =>
 grdW Tryz.prog X_5 w_4 x28_14 false (vS (binOp .gtr 3 u_15 (I 262144))) fun x31_16 =>
 rdW Tryz.prog X_5 w_4 (pickN x28_14 (B true) x31_16) fun x32_17 =>
 (condW x32_17
 ((fin R X_5 w_4 (Value.tuple #[(.pointer none), (I 1)])))
 (eC Tryz.prog R X_5 w_4 true 80 #[p0] fun x35_20 w_21 X_22 =>
 (condW x35_20
 ((fin R X_22 w_21 (Value.tuple #[(.pointer none), (I 12)])))
 (((rdV Tryz.prog X_22 w_21 (bld 158 #[p0, (.string p1), (I p2), (.slice none 0 0), (I 0)] #[(0, p0), (1, (.string p1)), (2, (I p2))]) fun x39_25 =>
 eV Tryz.prog R X_22 w_21 true (Instr.box 158 x39_25) fun x40_26 w_27 X_28 =>
 (eC Tryz.prog R X_28 w_27 true 20 #[p0] fun x42_31 w_32 X_33 =>
 rdV Tryz.prog X_33 w_32 (lnS 36 3 x42_31) fun x43_34 =>
 (lp1 X_33 w_32 (I 0) 44 fun J_36 n_37 v_41 w_39 X_40 =>
 rdV Tryz.prog X_40 w_39 (binOp .lss 3 v_41 x43_34) fun x45_43 =>
 (condW x45_43
 (((jn (fun (w_64 : World) (X_65 : XS) =>
 (rdV Tryz.prog X_65 w_64 (binOp .add 3 v_41 (I 1)) fun x60_67 =>
 nx1 J_36 n_37 x60_67 w_64 X_65)) fun k_66 =>
 rdV Tryz.prog X_40 w_39 (ixS 36 1 x42_31 v_41) fun x46_48 =>
 rdV Tryz.prog X_40 w_39 (ld1 9 x46_48) fun x47_49 =>
 (eC Tryz.prog R X_40 w_39 true 81 #[(.string p1), x47_49] fun x50_51 w_52 X_53 =>
 (rdV Tryz.prog X_53 w_52 (binS .eql 3 (.tmp 51) (.const (I 0)) x50_51 (I 0)) fun x52_56 =>
 (condW x52_56
 (k_66 w_52 X_53)
 ((eC Tryz.prog R X_53 w_52 true 82 #[x40_26, x50_51, x47_49] fun x56_58 w_59 X_60 =>
 (rdV Tryz.prog X_60 w_59 (binS .neq 29 (.tmp 57) (.const (I 0)) x56_58 (I 0)) fun x58_62 =>
 (condW x58_62
 ((fin R X_60 w_59 (Value.tuple #[(.pointer none), x56_58])))
 (k_66 w_59 X_60)))))))))))
 (((rdW Tryz.prog X_40 w_39 (nilN x40_26) fun x62_70 =>
 rdV Tryz.prog X_40 w_39 (fld 158 3 3 1 x62_70) fun x63_71 =>
 rdV Tryz.prog X_40 w_39 (ld1 156 x63_71) fun x64_72 =>
 rdV Tryz.prog X_40 w_39 (lnS 156 3 x64_72) fun x65_73 =>
 rdV Tryz.prog X_40 w_39 (binS .eql 3 (.tmp 65) (.const (I 0)) x65_73 (I 0)) fun x66_74 =>
 (condW x66_74
 (eC Tryz.prog R X_40 w_39 true 83 #[x40_26, (I 1)] fun x68_77 w_78 X_79 =>
 (rdV Tryz.prog X_79 w_78 (binS .neq 29 (.tmp 69) (.const (I 0)) x68_77 (I 0)) fun x70_81 =>
 (condW x70_81
 ((fin R X_79 w_78 (Value.tuple #[(.pointer none), x68_77])))
 (((fin R X_79 w_78 (Value.tuple #[x40_26, (I 0)])))))))
 ((eC Tryz.prog R X_40 w_39 true 84 #[x40_26] fun x74_86 w_87 X_88 =>
 (rdV Tryz.prog X_88 w_87 (binS .neq 29 (.tmp 75) (.const (I 0)) x74_86 (I 0)) fun x76_90 =>
 (condW x76_90
 ((fin R X_88 w_87 (Value.tuple #[(.pointer none), x74_86])))
 (((fin R X_88 w_87 (Value.tuple #[x40_26, (I 0)])))))))))))))))))))))))))
theorem ok_wal_Open {R : Ending → World → Prop} {w0 : World} {p0 : Value} {p1 : ByteArray} {p2 : Int} (h : vc_wal_Open R w0 (old w0) p0 p1 p2) : Calls Tryz.prog 41 #[p0, (.string p1), (I p2)] w0 R :=
  calls_of_vc (pl := pl_wal_Open) Tryz.func41 (by kernel_rfl) (by kernel_rfl) h
noncomputable def pl_wal_Log_First : Plan := ⟨12, [], [], [0, 2], [], []⟩
def vc_wal_Log_First (R : Ending → World → Prop) (w0 : World) (X0 : XS) (p0 : Value) : Prop :=
 (rdW Tryz.prog X0 w0 (nilN p0) fun x4_3 =>
 rdV Tryz.prog X0 w0 (fld 158 3 3 1 x4_3) fun x5_4 =>
 rdV Tryz.prog X0 w0 (ld1 156 x5_4) fun x6_5 =>
 rdV Tryz.prog X0 w0 (ixS 156 1 x6_5 (I 0)) fun x7_6 =>
 rdV Tryz.prog X0 w0 (ld1 164 x7_6) fun x8_7 =>
 rdW Tryz.prog X0 w0 (nilN x8_7) fun x9_8 =>
 rdV Tryz.prog X0 w0 (fld 163 0 0 1 x9_8) fun x10_9 =>
 rdV Tryz.prog X0 w0 (ld1 3 x10_9) fun x11_10 =>
 (fin R X0 w0 x11_10))
theorem ok_wal_Log_First {R : Ending → World → Prop} {w0 : World} {p0 : Value} (h : vc_wal_Log_First R w0 (old w0) p0) : Calls Tryz.prog 42 #[p0] w0 R :=
  calls_of_vc (pl := pl_wal_Log_First) Tryz.func42 (by kernel_rfl) (by kernel_rfl) h
noncomputable def pl_wal_Log_Next : Plan := ⟨15, [], [], [0, 2], [], []⟩
def vc_wal_Log_Next (R : Ending → World → Prop) (w0 : World) (X0 : XS) (p0 : Value) : Prop :=
 (eC Tryz.prog R X0 w0 true 85 #[p0] fun x4_3 w_4 X_5 =>
 rdW Tryz.prog X_5 w_4 (nilN x4_3) fun x5_6 =>
 rdV Tryz.prog X_5 w_4 (fld 163 0 0 1 x5_6) fun x6_7 =>
 rdV Tryz.prog X_5 w_4 (ld1 3 x6_7) fun x7_8 =>
 eC Tryz.prog R X_5 w_4 false 85 #[p0] fun x9_9 w_10 X_11 =>
 rdW Tryz.prog X_11 w_10 (nilN x9_9) fun x10_12 =>
 rdV Tryz.prog X_11 w_10 (fld 163 1 1 1 x10_12) fun x11_13 =>
 rdV Tryz.prog X_11 w_10 (ld1 161 x11_13) fun x12_14 =>
 rdV Tryz.prog X_11 w_10 (lnS 161 3 x12_14) fun x13_15 =>
 rdV Tryz.prog X_11 w_10 (binOp .add 3 x7_8 x13_15) fun x14_16 =>
 (fin R X_11 w_10 x14_16))
theorem ok_wal_Log_Next {R : Ending → World → Prop} {w0 : World} {p0 : Value} (h : vc_wal_Log_Next R w0 (old w0) p0) : Calls Tryz.prog 43 #[p0] w0 R :=
  calls_of_vc (pl := pl_wal_Log_Next) Tryz.func43 (by kernel_rfl) (by kernel_rfl) h
noncomputable def pl_maps_Keys_map_string_api_Value_string_api_Value : Plan := ⟨4, [], [], [0, 1, 2], [], []⟩
def vc_maps_Keys_map_string_api_Value_string_api_Value (R : Ending → World → Prop) (w0 : World) (X0 : XS) (p0 : Value) : Prop :=
 eV Tryz.prog R X0 w0 true (Instr.box 110 p0) fun x1_2 w_3 X_4 =>
 (rdV Tryz.prog X_4 w_3 (Instr.makeFunc (Fn.func 98) #[] #[x1_2]) fun x3_6 =>
 (fin R X_4 w_3 x3_6))
theorem ok_maps_Keys_map_string_api_Value_string_api_Value {R : Ending → World → Prop} {w0 : World} {p0 : Value} (h : vc_maps_Keys_map_string_api_Value_string_api_Value R w0 (old w0) p0) : Calls Tryz.prog 49 #[p0] w0 R :=
  calls_of_vc (pl := pl_maps_Keys_map_string_api_Value_string_api_Value) Tryz.func49 (by kernel_rfl) (by kernel_rfl) h
noncomputable def pl_msgs_May : Plan := ⟨34, [(1, (Tryz.prog.cellsOf 48)), (3, (Tryz.prog.cellsOf 48))], [14, 19], [0, 2, 4, 10, 13], [18, 20, 21, 22, 24, 25, 26, 27, 29, 30, 31, 32], []⟩
def vc_msgs_May (R : Ending → World → Prop) (w0 : World) (X0 : XS) (p0_0 p0_1 p0_2 p0_3 p0_4 p0_5 p0_6 p0_7 p0_8 p0_9 p0_10 p0_11 p0_12 p0_13 p0_14 : Int) (p0_15 : Bool) (p0_16 p0_17 : Int) (p0_18 p0_19 p0_20 p0_21 p0_22 p0_23 : Value) (p0_24 p0_25 : Int) (p0_26 p0_27 : Nat) (p0_28 p0_29 p0_30 p0_31 p0_32 p0_33 : Int) (p0_34 p0_35 : Value) : Prop :=
 (eC Tryz.prog R X0 w0 true 99 #[(.agg #[(I p0_0), (I p0_1), (I p0_2), (I p0_3), (I p0_4), (I p0_5), (I p0_6), (I p0_7), (I p0_8), (I p0_9), (I p0_10), (I p0_11), (I p0_12), (I p0_13), (I p0_14), (B p0_15), (I p0_16), (I p0_17), p0_18, p0_19, p0_20, p0_21, p0_22, p0_23, (I p0_24), (I p0_25), (.float .f64 p0_26), (.float .f64 p0_27), (I p0_28), (I p0_29), (I p0_30), (I p0_31), (I p0_32), (I p0_33), p0_34, p0_35])] fun x7_3 w_4 X_5 =>
 rdV Tryz.prog X_5 w_4 (Instr.extract x7_3 0) fun x8_6 =>
 rdV Tryz.prog X_5 w_4 (Instr.extract x7_3 1) fun x9_7 =>
 un (Value.agg (Value.cells x8_6)) fun u_8 =>
 chk (List.length (Array.toList (Value.cells x8_6)) == 36) (chk (List.all (Array.toList (Value.cells x8_6)) one) ((rdV Tryz.prog X_5 w_4 (Op.unary UnOp.not x9_7) fun x12_12 =>
 (condW x12_12
 (fin R X_5 w_4 (I 7))
 (eC Tryz.prog R X_5 w_4 true 100 #[(I p0_1)] fun x16_15 w_16 X_17 =>
 rdV Tryz.prog X_17 w_16 (Op.unary UnOp.not x16_15) fun x17_18 =>
 un (gSel x17_18 false (I p0_2)) fun u_19 =>
 jn (fun (x21_20 : Value) (w_21 : World) (X_22 : XS) =>
 grdW Tryz.prog X_22 w_21 x17_18 false (vS (Op.unary UnOp.not x21_20)) fun x22_24 =>
 rdW Tryz.prog X_22 w_21 (pickN x17_18 (B true) x22_24) fun x23_25 =>
 chk (isA u_8) (un (subOf u_8 0 36) fun u_26 =>
 un (gSel x23_25 false u_26) fun u_27 =>
 jn (fun (x26_28 : Value) (w_29 : World) (X_30 : XS) =>
 grdW Tryz.prog X_30 w_29 x23_25 false (vS (Op.unary UnOp.not x26_28)) fun x27_32 =>
 rdW Tryz.prog X_30 w_29 (pickN x23_25 (B true) x27_32) fun x28_33 =>
 un (gSel x28_33 false (.agg #[(I p0_0), (I p0_1), (I p0_2), (I p0_3), (I p0_4), (I p0_5), (I p0_6), (I p0_7), (I p0_8), (I p0_9), (I p0_10), (I p0_11), (I p0_12), (I p0_13), (I p0_14), (B p0_15), (I p0_16), (I p0_17), p0_18, p0_19, p0_20, p0_21, p0_22, p0_23, (I p0_24), (I p0_25), (.float .f64 p0_26), (.float .f64 p0_27), (I p0_28), (I p0_29), (I p0_30), (I p0_31), (I p0_32), (I p0_33), p0_34, p0_35])) fun u_34 =>
 jn (fun (x31_35 : Value) (w_36 : World) (X_37 : XS) =>
 grdW Tryz.prog X_37 w_36 x28_33 false (vS (Op.unary UnOp.not x31_35)) fun x32_39 =>
 rdW Tryz.prog X_37 w_36 (pickN x28_33 (B true) x32_39) fun x33_40 =>
 (condW x33_40
 (fin R X_37 w_36 (I 4))
 (fin R X_37 w_36 (I 0)))) fun k_38 =>
 (gE x28_33 false (eC Tryz.prog R X_30 w_29 true 102 #[u_34] k_38) (k_38 undef w_29 X_30))) fun k_31 =>
 (gE x23_25 false (eC Tryz.prog R X_22 w_21 true 101 #[u_27] k_31) (k_31 undef w_21 X_22)))) fun k_23 =>
 (gE x17_18 false (eC Tryz.prog R X_17 w_16 true 100 #[u_19] k_23) (k_23 undef w_16 X_17))))))))
theorem ok_msgs_May {R : Ending → World → Prop} {w0 : World} {p0_0 p0_1 p0_2 p0_3 p0_4 p0_5 p0_6 p0_7 p0_8 p0_9 p0_10 p0_11 p0_12 p0_13 p0_14 : Int} {p0_15 : Bool} {p0_16 p0_17 : Int} {p0_18 p0_19 p0_20 p0_21 p0_22 p0_23 : Value} {p0_24 p0_25 : Int} {p0_26 p0_27 : Nat} {p0_28 p0_29 p0_30 p0_31 p0_32 p0_33 : Int} {p0_34 p0_35 : Value} (h : vc_msgs_May R w0 (old w0) p0_0 p0_1 p0_2 p0_3 p0_4 p0_5 p0_6 p0_7 p0_8 p0_9 p0_10 p0_11 p0_12 p0_13 p0_14 p0_15 p0_16 p0_17 p0_18 p0_19 p0_20 p0_21 p0_22 p0_23 p0_24 p0_25 p0_26 p0_27 p0_28 p0_29 p0_30 p0_31 p0_32 p0_33 p0_34 p0_35) : Calls Tryz.prog 52 #[(.agg #[(I p0_0), (I p0_1), (I p0_2), (I p0_3), (I p0_4), (I p0_5), (I p0_6), (I p0_7), (I p0_8), (I p0_9), (I p0_10), (I p0_11), (I p0_12), (I p0_13), (I p0_14), (B p0_15), (I p0_16), (I p0_17), p0_18, p0_19, p0_20, p0_21, p0_22, p0_23, (I p0_24), (I p0_25), (.float .f64 p0_26), (.float .f64 p0_27), (I p0_28), (I p0_29), (I p0_30), (I p0_31), (I p0_32), (I p0_33), p0_34, p0_35])] w0 R :=
  calls_of_vc (pl := pl_msgs_May) Tryz.func52 (by kernel_rfl) (by kernel_rfl) h
noncomputable def pl_hlc_Compare : Plan := ⟨37, [(2, (Tryz.prog.cellsOf 35)), (3, (Tryz.prog.cellsOf 35))], [7, 9, 11, 13, 20, 22, 25, 27], [0, 1, 4, 5, 6, 15, 19, 29, 33], [], []⟩
def vc_hlc_Compare (R : Ending → World → Prop) (w0 : World) (X0 : XS) (p0_0 p0_1 p0_2 p1_0 p1_1 p1_2 : Int) : Prop :=
 (((jn (fun (y5_9 y6_10 : Value) =>
 (rdV Tryz.prog X0 w0 (binOp .lss 3 y5_9 y6_10) fun x32_15 =>
 (condW x32_15
 ((fin R X0 w0 (I (-1))))
 (rdV Tryz.prog X0 w0 (binOp .gtr 3 y5_9 y6_10) fun x36_18 =>
 (condW x36_18
 (fin R X0 w0 (I 1))
 (fin R X0 w0 (I 0))))))) fun k_11 =>
 rdV Tryz.prog X0 w0 (binS .neq 3 (.tmp 16) (.tmp 17) (I p0_0) (I p1_0)) fun x18_6 =>
 (condW x18_6
 (k_11 (I p0_0) (I p1_0))
 (rdV Tryz.prog X0 w0 (binS .neq 3 (.tmp 21) (.tmp 23) (I p0_1) (I p1_1)) fun x24_8 =>
 (condW x24_8
 (k_11 (I p0_1) (I p1_1))
 (k_11 (I p0_2) (I p1_2))))))))
theorem ok_hlc_Compare {R : Ending → World → Prop} {w0 : World} {p0_0 p0_1 p0_2 p1_0 p1_1 p1_2 : Int} (h : vc_hlc_Compare R w0 (old w0) p0_0 p0_1 p0_2 p1_0 p1_1 p1_2) : Calls Tryz.prog 53 #[(.agg #[(I p0_0), (I p0_1), (I p0_2)]), (.agg #[(I p1_0), (I p1_1), (I p1_2)])] w0 R :=
  calls_of_vc (pl := pl_hlc_Compare) Tryz.func53 (by kernel_rfl) (by kernel_rfl) h
noncomputable def pl_sink_Node_keep : Plan := ⟨36, [(3, (Tryz.prog.cellsOf 117))], [], [0, 1, 4, 5, 6, 7, 8, 15, 26], [], []⟩
def vc_sink_Node_keep (R : Ending → World → Prop) (w0 : World) (X0 : XS) (p0 : Value) (p1_0 p1_1 p1_2 p1_3 p1_4 p1_5 p1_6 p1_7 p1_8 p1_9 : Int) (p1_10 : Bool) (p1_11 : Int) (p1_12 : Nat) (p1_13 p1_14 p1_15 p1_16 : Value) (p1_17 p1_18 : Int) (p1_19 p1_20 : Nat) (p1_21 p1_22 p1_23 p1_24 p1_25 p1_26 : Int) (p1_27 p1_28 : Value) : Prop :=
 (eC Tryz.prog R X0 w0 true 91 #[(.agg #[(I p1_0), (I p1_1), (I p1_2), (I p1_3), (I p1_4), (I p1_5), (I p1_6), (I p1_7), (I p1_8), (I p1_9), (B p1_10), (I p1_11), (.float .f64 p1_12), p1_13, p1_14, p1_15, p1_16, (I p1_17), (I p1_18), (.float .f64 p1_19), (.float .f64 p1_20), (I p1_21), (I p1_22), (I p1_23), (I p1_24), (I p1_25), (I p1_26), p1_27, p1_28])] fun x11_3 w_4 X_5 =>
 rdV Tryz.prog X_5 w_4 (Instr.extract x11_3 0) fun x12_6 =>
 rdV Tryz.prog X_5 w_4 (Instr.extract x11_3 1) fun x13_7 =>
 (((jn (fun (y7_20 y8_21 : Value) (w_22 : World) (X_23 : XS) =>
 (jn (fun (y7_34 : Value) (w_35 : World) (X_36 : XS) =>
 eC Tryz.prog R X_36 w_35 true 57 #[p0, y7_34] fun x35_39 w_40 X_41 =>
 (fin R X_41 w_40 (Value.tuple #[y8_21, x35_39]))) fun k_37 =>
 rdV Tryz.prog X_23 w_22 (binS .eql 29 (.tmp 25) (.const (I 0)) y7_20 (I 0)) fun x26_27 =>
 (condW x26_27
 (rdW Tryz.prog X_23 w_22 (nilN p0) fun x28_28 =>
 rdV Tryz.prog X_23 w_22 (fld 112 0 0 1 x28_28) fun x29_29 =>
 rdV Tryz.prog X_23 w_22 (ld1 107 x29_29) fun x30_30 =>
 eC Tryz.prog R X_23 w_22 true 104 #[x30_30] fun x31_31 w_32 X_33 =>
 (k_37 x31_31 w_32 X_33))
 (k_37 y7_20 w_22 X_23)))) fun k_24 =>
 rdV Tryz.prog X_5 w_4 (binS .eql 29 (.tmp 14) (.const (I 0)) x13_7 (I 0)) fun x15_11 =>
 (condW x15_11
 (rdW Tryz.prog X_5 w_4 (nilN p0) fun x18_12 =>
 rdV Tryz.prog X_5 w_4 (fld 112 0 0 1 x18_12) fun x19_13 =>
 rdV Tryz.prog X_5 w_4 (ld1 107 x19_13) fun x20_14 =>
 eC Tryz.prog R X_5 w_4 true 103 #[x20_14, x12_6] fun x22_15 w_16 X_17 =>
 rdV Tryz.prog X_17 w_16 (Instr.extract x22_15 0) fun x23_18 =>
 rdV Tryz.prog X_17 w_16 (Instr.extract x22_15 1) fun x24_19 =>
 (k_24 x24_19 x23_18 w_16 X_17))
 (k_24 x13_7 (I 0) w_4 X_5))))))
theorem ok_sink_Node_keep {R : Ending → World → Prop} {w0 : World} {p0 : Value} {p1_0 p1_1 p1_2 p1_3 p1_4 p1_5 p1_6 p1_7 p1_8 p1_9 : Int} {p1_10 : Bool} {p1_11 : Int} {p1_12 : Nat} {p1_13 p1_14 p1_15 p1_16 : Value} {p1_17 p1_18 : Int} {p1_19 p1_20 : Nat} {p1_21 p1_22 p1_23 p1_24 p1_25 p1_26 : Int} {p1_27 p1_28 : Value} (h : vc_sink_Node_keep R w0 (old w0) p0 p1_0 p1_1 p1_2 p1_3 p1_4 p1_5 p1_6 p1_7 p1_8 p1_9 p1_10 p1_11 p1_12 p1_13 p1_14 p1_15 p1_16 p1_17 p1_18 p1_19 p1_20 p1_21 p1_22 p1_23 p1_24 p1_25 p1_26 p1_27 p1_28) : Calls Tryz.prog 54 #[p0, (.agg #[(I p1_0), (I p1_1), (I p1_2), (I p1_3), (I p1_4), (I p1_5), (I p1_6), (I p1_7), (I p1_8), (I p1_9), (B p1_10), (I p1_11), (.float .f64 p1_12), p1_13, p1_14, p1_15, p1_16, (I p1_17), (I p1_18), (.float .f64 p1_19), (.float .f64 p1_20), (I p1_21), (I p1_22), (I p1_23), (I p1_24), (I p1_25), (I p1_26), p1_27, p1_28])] w0 R :=
  calls_of_vc (pl := pl_sink_Node_keep) Tryz.func54 (by kernel_rfl) (by kernel_rfl) h
noncomputable def pl_sink_Node_apply : Plan := ⟨53, [(5, (Tryz.prog.cellsOf 33)), (6, (Tryz.prog.cellsOf 35)), (9, (Tryz.prog.cellsOf 53))], [16, 17, 24, 30, 32], [0, 1, 2, 3, 10, 11, 12, 13, 19], [], [12]⟩
def vc_sink_Node_apply (R : Ending → World → Prop) (w0 : World) (X0 : XS) (p0 : Value) (p1_0 p1_1 p1_2 p2_0 p2_1 p2_2 : Int) (p3 : Value) : Prop :=
 (rdV Tryz.prog X0 w0 (lnS 23 3 p3) fun x11_4 =>
 (lp1 X0 w0 (I 0) 12 fun J_6 n_7 v_11 w_9 X_10 =>
 rdV Tryz.prog X_10 w_9 (binOp .lss 3 v_11 x11_4) fun x13_13 =>
 (condW x13_13
 (((jn (fun (w_39 : World) (X_40 : XS) =>
 (rdV Tryz.prog X_40 w_39 (binOp .add 3 v_11 (I 1)) fun x34_42 =>
 nx1 J_6 n_7 x34_42 w_39 X_40)) fun k_41 =>
 rdV Tryz.prog X_10 w_9 (ixS 23 4 p3 v_11) fun x14_18 =>
 rdV Tryz.prog X_10 w_9 (ldA 53 4 x14_18) fun x15_19 =>
 un (Value.agg (Value.cells x15_19)) fun u_20 =>
 chk (List.length (Array.toList (Value.cells x15_19)) == 4) (chk (List.all (Array.toList (Value.cells x15_19)) one) ((chk (isA u_20) (un (cellOf u_20 1) fun u_23 =>
 rdV Tryz.prog X_10 w_9 (binS .eql 3 (.tmp 18) (.const (I 0)) u_23 (I 0)) fun x19_24 =>
 (condW x19_24
 (rdW Tryz.prog X_10 w_9 (nilN p0) fun x21_26 =>
 rdV Tryz.prog X_10 w_9 (fld 112 4 4 1 x21_26) fun x22_27 =>
 rdV Tryz.prog X_10 w_9 (ld1 110 x22_27) fun x23_28 =>
 chk (isA u_20) (un (cellOf u_20 0) fun u_29 =>
 eV Tryz.prog R X_10 w_9 true (Builtin.delete_ #[110, 9] 0 #[x23_28, u_29]) fun _ w_30 X_31 =>
 (k_41 w_30 X_31)))
 ((rdW Tryz.prog X_10 w_9 (nilN p0) fun x27_32 =>
 rdV Tryz.prog X_10 w_9 (fld 112 4 4 1 x27_32) fun x28_33 =>
 rdV Tryz.prog X_10 w_9 (ld1 110 x28_33) fun x29_34 =>
 chk (isA u_20) (un (cellOf u_20 0) fun u_35 =>
 un (subOf u_20 1 3) fun u_36 =>
 eU Tryz.prog R X_10 w_9 true (Instr.mapUpdate 110 x29_34 u_35 u_36) fun _ w_37 X_38 =>
 (k_41 w_37 X_38))))))))))))
 (((rdW Tryz.prog X_10 w_9 (nilN p0) fun x37_44 =>
 rdV Tryz.prog X_10 w_9 (fld 112 5 5 3 x37_44) fun x38_45 =>
 eU Tryz.prog R X_10 w_9 true (st1 35 3 x38_45 (.agg #[(I p2_0), (I p2_1), (I p2_2)])) fun _ w_46 X_47 =>
 (rdW Tryz.prog X_47 w_46 (nilN p0) fun x41_48 =>
 rdV Tryz.prog X_47 w_46 (fld 112 6 8 1 x41_48) fun x42_49 =>
 rdV Tryz.prog X_47 w_46 (ld1 63 x42_49) fun x43_50 =>
 eC Tryz.prog R X_47 w_46 false 60 #[p3] fun x47_51 w_52 X_53 =>
 rdV Tryz.prog X_53 w_52 (bld 73 #[(I p1_0), (I p1_1), (I p1_2), (I p2_0), (I p2_1), (I p2_2), x47_51] #[(0, (.agg #[(I p1_0), (I p1_1), (I p1_2)])), (1, (.agg #[(I p2_0), (I p2_1), (I p2_2)])), (2, x47_51)]) fun x48_54 =>
 eV Tryz.prog R X_53 w_52 false (bsS 63 73 7 1 #[(0, x48_54)]) fun x49_55 w_56 X_57 =>
 eV Tryz.prog R X_57 w_56 true (apS 63 73 7 72 63 x43_50 x49_55) fun x50_58 w_59 X_60 =>
 rdW Tryz.prog X_60 w_59 (nilN p0) fun x51_61 =>
 rdV Tryz.prog X_60 w_59 (fld 112 6 8 1 x51_61) fun x52_62 =>
 eU Tryz.prog R X_60 w_59 true (st1 63 1 x52_62 x50_58) fun _ w_63 X_64 =>
 fin R X_64 w_63 (Value.tuple #[]))))))))
theorem ok_sink_Node_apply {R : Ending → World → Prop} {w0 : World} {p0 : Value} {p1_0 p1_1 p1_2 p2_0 p2_1 p2_2 : Int} {p3 : Value} (h : vc_sink_Node_apply R w0 (old w0) p0 p1_0 p1_1 p1_2 p2_0 p2_1 p2_2 p3) : Calls Tryz.prog 55 #[p0, (.agg #[(I p1_0), (I p1_1), (I p1_2)]), (.agg #[(I p2_0), (I p2_1), (I p2_2)]), p3] w0 R :=
  calls_of_vc (pl := pl_sink_Node_apply) Tryz.func55 (by kernel_rfl) (by kernel_rfl) h
noncomputable def pl_sink_Node_fall : Plan := ⟨23, [], [], [0, 1, 4, 6], [], []⟩
def vc_sink_Node_fall (R : Ending → World → Prop) (w0 : World) (X0 : XS) (p0 : Value) (p1 : Int) : Prop :=
 ((jn (fun (w_28 : World) (X_29 : XS) =>
 (fin R X_29 w_28 (I p1))) fun k_30 =>
 rdV Tryz.prog X0 w0 (binS .eql 29 (.tmp 5) (.const (I 12)) (I p1) (I 12)) fun x6_4 =>
 (condW x6_4
 (rdW Tryz.prog X0 w0 (nilN p0) fun x8_6 =>
 rdV Tryz.prog X0 w0 (fld 112 3 3 1 x8_6) fun x9_7 =>
 eU Tryz.prog R X0 w0 true (st1 4 1 x9_7 (B true)) fun _ w_8 X_9 =>
 (rdV Tryz.prog X_9 w_8 (bld 35 #[(I 0), (I 0), (I 0)] #[]) fun x13_11 =>
 rdW Tryz.prog X_9 w_8 (nilN p0) fun x14_12 =>
 rdV Tryz.prog X_9 w_8 (fld 112 5 5 3 x14_12) fun x15_13 =>
 eU Tryz.prog R X_9 w_8 true (st1 35 3 x15_13 x13_11) fun _ w_14 X_15 =>
 rdW Tryz.prog X_15 w_14 (nilN p0) fun x16_16 =>
 rdV Tryz.prog X_15 w_14 (fld 112 4 4 1 x16_16) fun x17_17 =>
 eU Tryz.prog R X_15 w_14 true (st1 110 1 x17_17 (Value.map none)) fun _ w_18 X_19 =>
 rdW Tryz.prog X_19 w_18 (nilN p0) fun x18_20 =>
 rdV Tryz.prog X_19 w_18 (fld 112 6 8 1 x18_20) fun x19_21 =>
 eU Tryz.prog R X_19 w_18 true (st1 63 1 x19_21 (.slice none 0 0)) fun _ w_22 X_23 =>
 (rdV Tryz.prog X_23 w_22 (bld 184 #[] #[]) fun x20_24 =>
 rdV Tryz.prog X_23 w_22 (Instr.makeInterface 184 x20_24) fun x21_25 =>
 eV Tryz.prog R X_23 w_22 true (Instr.panic x21_25) fun _ w_26 X_27 =>
 (k_30 w_26 X_27))))
 (k_30 w0 X0))))
theorem ok_sink_Node_fall {R : Ending → World → Prop} {w0 : World} {p0 : Value} {p1 : Int} (h : vc_sink_Node_fall R w0 (old w0) p0 p1) : Calls Tryz.prog 57 #[p0, (I p1)] w0 R :=
  calls_of_vc (pl := pl_sink_Node_fall) Tryz.func57 (by kernel_rfl) (by kernel_rfl) h
noncomputable def pl_wal_Log_Trim : Plan := ⟨55, [], [], [0, 1, 4, 5, 24, 45], [12, 13, 14, 15, 16, 17, 18, 19, 20, 21, 22, 23], []⟩
def vc_wal_Log_Trim (R : Ending → World → Prop) (w0 : World) (X0 : XS) (p0 : Value) (p1 : Int) : Prop :=
 (lp0 X0 w0 fun J_4 n_5 w_7 X_8 =>
 rdW Tryz.prog X_8 w_7 (nilN p0) fun x7_11 =>
 rdV Tryz.prog X_8 w_7 (fld 158 3 3 1 x7_11) fun x8_12 =>
 rdV Tryz.prog X_8 w_7 (ld1 156 x8_12) fun x9_13 =>
 rdV Tryz.prog X_8 w_7 (lnS 156 3 x9_13) fun x10_14 =>
 rdV Tryz.prog X_8 w_7 (binOp .gtr 3 x10_14 (I 1)) fun x11_15 =>
 un (gSel x11_15 true p0) fun u_16 =>
 grdW Tryz.prog X_8 w_7 x11_15 true (nilN u_16) fun x14_17 =>
 grdW Tryz.prog X_8 w_7 x11_15 true (vS (fld 158 3 3 1 x14_17)) fun x15_18 =>
 grdW Tryz.prog X_8 w_7 x11_15 true (vS (ld1 156 x15_18)) fun x16_19 =>
 grdW Tryz.prog X_8 w_7 x11_15 true (vS (ixS 156 1 x16_19 (I 1))) fun x17_20 =>
 grdW Tryz.prog X_8 w_7 x11_15 true (vS (ld1 164 x17_20)) fun x18_21 =>
 grdW Tryz.prog X_8 w_7 x11_15 true (nilN x18_21) fun x19_22 =>
 grdW Tryz.prog X_8 w_7 x11_15 true (vS (fld 163 0 0 1 x19_22)) fun x20_23 =>
 grdW Tryz.prog X_8 w_7 x11_15 true (vS (ld1 3 x20_23)) fun x21_24 =>
 un (gSel x11_15 true (I p1)) fun u_25 =>
 grdW Tryz.prog X_8 w_7 x11_15 true (vS (binOp .leq 3 x21_24 u_25)) fun x23_26 =>
 rdW Tryz.prog X_8 w_7 (pickN x11_15 x23_26 (B false)) fun x24_27 =>
 (condW x24_27
 ((rdW Tryz.prog X_8 w_7 (nilN p0) fun x26_31 =>
 rdV Tryz.prog X_8 w_7 (fld 158 0 0 1 x26_31) fun x27_32 =>
 rdV Tryz.prog X_8 w_7 (ld1 26 x27_32) fun x28_33 =>
 rdW Tryz.prog X_8 w_7 (nilN p0) fun x30_34 =>
 rdV Tryz.prog X_8 w_7 (fld 158 1 1 1 x30_34) fun x31_35 =>
 rdV Tryz.prog X_8 w_7 (ld1 9 x31_35) fun x32_36 =>
 rdW Tryz.prog X_8 w_7 (nilN p0) fun x34_37 =>
 rdV Tryz.prog X_8 w_7 (fld 158 3 3 1 x34_37) fun x35_38 =>
 rdV Tryz.prog X_8 w_7 (ld1 156 x35_38) fun x36_39 =>
 rdV Tryz.prog X_8 w_7 (ixS 156 1 x36_39 (I 0)) fun x37_40 =>
 rdV Tryz.prog X_8 w_7 (ld1 164 x37_40) fun x38_41 =>
 rdW Tryz.prog X_8 w_7 (nilN x38_41) fun x39_42 =>
 rdV Tryz.prog X_8 w_7 (fld 163 0 0 1 x39_42) fun x40_43 =>
 rdV Tryz.prog X_8 w_7 (ld1 3 x40_43) fun x41_44 =>
 eC Tryz.prog R X_8 w_7 false 106 #[x32_36, x41_44] fun x42_45 w_46 X_47 =>
 eC Tryz.prog R X_47 w_46 true 105 #[x28_33, x42_45] fun x43_48 w_49 X_50 =>
 (rdV Tryz.prog X_50 w_49 (binS .neq 29 (.tmp 44) (.const (I 0)) x43_48 (I 0)) fun x45_52 =>
 (condW x45_52
 (fin R X_50 w_49 x43_48)
 ((rdW Tryz.prog X_50 w_49 (nilN p0) fun x49_54 =>
 rdV Tryz.prog X_50 w_49 (fld 158 3 3 1 x49_54) fun x50_55 =>
 rdV Tryz.prog X_50 w_49 (ld1 156 x50_55) fun x51_56 =>
 rdV Tryz.prog X_50 w_49 (Instr.sliceAt 156 x51_56 (some (I 1)) none none) fun x52_57 =>
 rdW Tryz.prog X_50 w_49 (nilN p0) fun x53_58 =>
 rdV Tryz.prog X_50 w_49 (fld 158 3 3 1 x53_58) fun x54_59 =>
 eU Tryz.prog R X_50 w_49 true (st1 156 1 x54_59 x52_57) fun _ w_60 X_61 =>
 (nx0 J_4 n_5 w_60 X_61)))))))
 (fin R X_8 w_7 (I 0))))
theorem ok_wal_Log_Trim {R : Ending → World → Prop} {w0 : World} {p0 : Value} {p1 : Int} (h : vc_wal_Log_Trim R w0 (old w0) p0 p1) : Calls Tryz.prog 58 #[p0, (I p1)] w0 R :=
  calls_of_vc (pl := pl_wal_Log_Trim) Tryz.func58 (by kernel_rfl) (by kernel_rfl) h
noncomputable def pl_maps_Keys_map_string_disk_file_string_disk_file : Plan := ⟨4, [], [], [0, 1, 2], [], []⟩
def vc_maps_Keys_map_string_disk_file_string_disk_file (R : Ending → World → Prop) (w0 : World) (X0 : XS) (p0 : Value) : Prop :=
 eV Tryz.prog R X0 w0 true (Instr.box 104 p0) fun x1_2 w_3 X_4 =>
 (rdV Tryz.prog X_4 w_3 (Instr.makeFunc (Fn.func 107) #[] #[x1_2]) fun x3_6 =>
 (fin R X_4 w_3 x3_6))
theorem ok_maps_Keys_map_string_disk_file_string_disk_file {R : Ending → World → Prop} {w0 : World} {p0 : Value} (h : vc_maps_Keys_map_string_disk_file_string_disk_file R w0 (old w0) p0) : Calls Tryz.prog 59 #[p0] w0 R :=
  calls_of_vc (pl := pl_maps_Keys_map_string_disk_file_string_disk_file) Tryz.func59 (by kernel_rfl) (by kernel_rfl) h
noncomputable def pl_slices_Clone_sl_api_Write_api_Write : Plan := ⟨8, [], [], [0, 2, 4], [], []⟩
def vc_slices_Clone_sl_api_Write_api_Write (R : Ending → World → Prop) (w0 : World) (X0 : XS) (p0 : Value) : Prop :=
 (rdV Tryz.prog X0 w0 (binS .eql 23 (.tmp 3) (.const (.slice none 0 0)) p0 (.slice none 0 0)) fun x4_4 =>
 (condW x4_4
 (fin R X0 w0 (.slice none 0 0))
 (eV Tryz.prog R X0 w0 true (bsS 23 53 4 0 #[]) fun x5_7 w_8 X_9 =>
 eV Tryz.prog R X_9 w_8 true (apS 23 53 4 48 23 x5_7 p0) fun x7_10 w_11 X_12 =>
 (fin R X_12 w_11 x7_10))))
theorem ok_slices_Clone_sl_api_Write_api_Write {R : Ending → World → Prop} {w0 : World} {p0 : Value} (h : vc_slices_Clone_sl_api_Write_api_Write R w0 (old w0) p0) : Calls Tryz.prog 60 #[p0] w0 R :=
  calls_of_vc (pl := pl_slices_Clone_sl_api_Write_api_Write) Tryz.func60 (by kernel_rfl) (by kernel_rfl) h
noncomputable def pl_slices_Contains_sl_string_string : Plan := ⟨9, [], [], [0, 1, 4], [], []⟩
def vc_slices_Contains_sl_string_string (R : Ending → World → Prop) (w0 : World) (X0 : XS) (p0 : Value) (p1 : ByteArray) : Prop :=
 (eC Tryz.prog R X0 w0 true 371 #[p0, (.string p1)] fun x7_3 w_4 X_5 =>
 rdV Tryz.prog X_5 w_4 (binOp .geq 3 x7_3 (I 0)) fun x8_6 =>
 (fin R X_5 w_4 x8_6))
theorem ok_slices_Contains_sl_string_string {R : Ending → World → Prop} {w0 : World} {p0 : Value} {p1 : ByteArray} (h : vc_slices_Contains_sl_string_string R w0 (old w0) p0 p1) : Calls Tryz.prog 351 #[p0, (.string p1)] w0 R :=
  calls_of_vc (pl := pl_slices_Contains_sl_string_string) Tryz.func351 (by kernel_rfl) (by kernel_rfl) h
noncomputable def pl_mvcc_Store_Newest : Plan := ⟨9, [(4, (Tryz.prog.cellsOf 266))], [], [0, 1], [], []⟩
def vc_mvcc_Store_Newest (R : Ending → World → Prop) (w0 : World) (X0 : XS) (p0 : Value) (p1 : ByteArray) : Prop :=
 (rdV Tryz.prog X0 w0 (bld 35 #[(I 0), (I 0), (I 0)] #[]) fun x7_3 =>
 eC Tryz.prog R X0 w0 true 372 #[p0, (.string p1), x7_3, (B true)] fun x8_4 w_5 X_6 =>
 un (Value.agg (Value.cells x8_4)) fun u_7 =>
 chk (List.length (Array.toList (Value.cells x8_4)) == 7) (chk (List.all (Array.toList (Value.cells x8_4)) one) (un (subOf u_7 0 7) fun u_8 =>
 chk (List.all [u_7] isA) (fin R X_6 w_5 u_8))))
theorem ok_mvcc_Store_Newest {R : Ending → World → Prop} {w0 : World} {p0 : Value} {p1 : ByteArray} (h : vc_mvcc_Store_Newest R w0 (old w0) p0 p1) : Calls Tryz.prog 352 #[p0, (.string p1)] w0 R :=
  calls_of_vc (pl := pl_mvcc_Store_Newest) Tryz.func352 (by kernel_rfl) (by kernel_rfl) h
noncomputable def pl_slices_Clone_sl_string_string : Plan := ⟨8, [], [], [0, 2, 4], [], []⟩
def vc_slices_Clone_sl_string_string (R : Ending → World → Prop) (w0 : World) (X0 : XS) (p0 : Value) : Prop :=
 (rdV Tryz.prog X0 w0 (binS .eql 36 (.tmp 3) (.const (.slice none 0 0)) p0 (.slice none 0 0)) fun x4_4 =>
 (condW x4_4
 (fin R X0 w0 (.slice none 0 0))
 (eV Tryz.prog R X0 w0 true (bsS 36 9 1 0 #[]) fun x5_7 w_8 X_9 =>
 eV Tryz.prog R X_9 w_8 true (apS 36 9 1 16 36 x5_7 p0) fun x7_10 w_11 X_12 =>
 (fin R X_12 w_11 x7_10))))
theorem ok_slices_Clone_sl_string_string {R : Ending → World → Prop} {w0 : World} {p0 : Value} (h : vc_slices_Clone_sl_string_string R w0 (old w0) p0) : Calls Tryz.prog 353 #[p0] w0 R :=
  calls_of_vc (pl := pl_slices_Clone_sl_string_string) Tryz.func353 (by kernel_rfl) (by kernel_rfl) h
noncomputable def pl_slices_ContainsFunc_sl_api_Write_api_Write : Plan := ⟨9, [], [], [0, 1, 4], [], []⟩
def vc_slices_ContainsFunc_sl_api_Write_api_Write (R : Ending → World → Prop) (w0 : World) (X0 : XS) (p0 p1 : Value) : Prop :=
 (eC Tryz.prog R X0 w0 true 379 #[p0, p1] fun x7_3 w_4 X_5 =>
 rdV Tryz.prog X_5 w_4 (binOp .geq 3 x7_3 (I 0)) fun x8_6 =>
 (fin R X_5 w_4 x8_6))
theorem ok_slices_ContainsFunc_sl_api_Write_api_Write {R : Ending → World → Prop} {w0 : World} {p0 p1 : Value} (h : vc_slices_ContainsFunc_sl_api_Write_api_Write R w0 (old w0) p0 p1) : Calls Tryz.prog 369 #[p0, p1] w0 R :=
  calls_of_vc (pl := pl_slices_ContainsFunc_sl_api_Write_api_Write) Tryz.func369 (by kernel_rfl) (by kernel_rfl) h
noncomputable def pl_mvcc_writes_c1 : Plan := ⟨8, [(2, (Tryz.prog.cellsOf 53))], [4], [0, 1, 3], [], []⟩
def vc_mvcc_writes_c1 (R : Ending → World → Prop) (w0 : World) (X0 : XS) (p0_0 : ByteArray) (_p0_1 : Int) (_p0_2 : Nat) (_p0_3 : ByteArray) (c0 : Value) : Prop :=
 (rdV Tryz.prog X0 w0 (ld1 9 c0) fun x6_3 =>
 rdV Tryz.prog X0 w0 (binS .eql 9 (.tmp 5) (.tmp 6) (.string p0_0) x6_3) fun x7_4 =>
 (fin R X0 w0 x7_4))
theorem ok_mvcc_writes_c1 {R : Ending → World → Prop} {w0 : World} {p0_0 : ByteArray} {p0_1 : Int} {p0_2 : Nat} {p0_3 : ByteArray} {c0 : Value} (h : vc_mvcc_writes_c1 R w0 (old w0) p0_0 p0_1 p0_2 p0_3 c0) : Calls Tryz.prog 370 #[(.agg #[(.string p0_0), (I p0_1), (.float .f64 p0_2), (.string p0_3)]), c0] w0 R :=
  calls_of_vc (pl := pl_mvcc_writes_c1) Tryz.func370 (by kernel_rfl) (by kernel_rfl) h
noncomputable def pl_slices_Index_sl_string_string : Plan := ⟨19, [], [], [0, 1, 4, 5, 7, 8, 9, 16], [], [8]⟩
def vc_slices_Index_sl_string_string (R : Ending → World → Prop) (w0 : World) (X0 : XS) (p0 : Value) (p1 : ByteArray) : Prop :=
 (rdV Tryz.prog X0 w0 (lnS 36 3 p0) fun x7_4 =>
 (lp1 X0 w0 (I 0) 8 fun J_6 n_7 v_11 w_9 X_10 =>
 rdV Tryz.prog X_10 w_9 (binOp .lss 3 v_11 x7_4) fun x9_13 =>
 (condW x9_13
 (((rdV Tryz.prog X_10 w_9 (ixS 36 1 p0 v_11) fun x14_19 =>
 rdV Tryz.prog X_10 w_9 (ld1 9 x14_19) fun x15_20 =>
 rdV Tryz.prog X_10 w_9 (binS .eql 9 (.tmp 11) (.tmp 15) (.string p1) x15_20) fun x16_21 =>
 (condW x16_21
 (fin R X_10 w_9 v_11)
 (((rdV Tryz.prog X_10 w_9 (binOp .add 3 v_11 (I 1)) fun x18_23 =>
 nx1 J_6 n_7 x18_23 w_9 X_10)))))))
 ((((fin R X_10 w_9 (I (-1)))))))))
theorem ok_slices_Index_sl_string_string {R : Ending → World → Prop} {w0 : World} {p0 : Value} {p1 : ByteArray} (h : vc_slices_Index_sl_string_string R w0 (old w0) p0 p1) : Calls Tryz.prog 371 #[p0, (.string p1)] w0 R :=
  calls_of_vc (pl := pl_slices_Index_sl_string_string) Tryz.func371 (by kernel_rfl) (by kernel_rfl) h
noncomputable def pl_mvcc_Store_newest : Plan := ⟨41, [(6, (Tryz.prog.cellsOf 35)), (8, (Tryz.prog.cellsOf 266)), (9, (Tryz.prog.cellsOf 266)), (11, (Tryz.prog.cellsOf 337))], [27, 33, 35, 37, 38], [0, 1, 2, 3, 19, 20, 21, 22, 32], [26, 28, 29, 30, 31], [9, 21]⟩
def vc_mvcc_Store_newest (R : Ending → World → Prop) (w0 : World) (X0 : XS) (p0 : Value) (p1 : ByteArray) (p2_0 p2_1 p2_2 : Int) (p3 : Bool) : Prop :=
 (rdV Tryz.prog X0 w0 (bld 266 #[(.string p1), (I 0), (.float .f64 0), (.string ⟨#[]⟩), (I 0), (I 0), (I 0)] #[(0, (.string p1))]) fun x13_3 =>
 un (Value.agg (Value.cells x13_3)) fun u_4 =>
 chk (List.length (Array.toList (Value.cells x13_3)) == 7) (chk (List.all (Array.toList (Value.cells x13_3)) one) ((rdW Tryz.prog X0 w0 (nilN p0) fun x15_7 =>
 rdV Tryz.prog X0 w0 (fld 382 0 0 1 x15_7) fun x16_8 =>
 rdV Tryz.prog X0 w0 (ld1 379 x16_8) fun x17_9 =>
 rdV Tryz.prog X0 w0 (Instr.lookup 379 x17_9 (.string p1) false) fun x19_10 =>
 rdV Tryz.prog X0 w0 (lnS 286 3 x19_10) fun x20_11 =>
 (lp2 X0 w0 (I 0) u_4 21 9 fun J_13 n_14 v_18 v_19 w_16 X_17 =>
 rdV Tryz.prog X_17 w_16 (binOp .lss 3 v_18 x20_11) fun x22_21 =>
 (condW x22_21
 (((jn (fun (y9_42 : Value) (w_43 : World) (X_44 : XS) =>
 (rdV Tryz.prog X_44 w_43 (binOp .add 3 v_18 (I 1)) fun x39_46 =>
 nx2 J_13 n_14 x39_46 y9_42 w_43 X_44)) fun k_45 =>
 rdV Tryz.prog X_17 w_16 (ixS 286 6 x19_10 v_18) fun x23_26 =>
 rdV Tryz.prog X_17 w_16 (ldA 337 6 x23_26) fun x24_27 =>
 un (Value.agg (Value.cells x24_27)) fun u_28 =>
 chk (List.length (Array.toList (Value.cells x24_27)) == 6) (chk (List.all (Array.toList (Value.cells x24_27)) one) ((chk (isA u_28) (un (subOf u_28 0 3) fun u_30 =>
 un (gSel (B p3) false u_30) fun u_31 =>
 un (gSel (B p3) false (.agg #[(I p2_0), (I p2_1), (I p2_2)])) fun u_32 =>
 jn (fun (x30_33 : Value) (w_34 : World) (X_35 : XS) =>
 grdW Tryz.prog X_35 w_34 (B p3) false (vS (binOp .leq 3 x30_33 (I 0))) fun x31_37 =>
 rdW Tryz.prog X_35 w_34 (pickN (B p3) (B true) x31_37) fun x32_38 =>
 (condW x32_38
 (chk (isA u_28) (chk (isA v_19) (un (subOf u_28 3 3) fun u_39 =>
 un (Value.agg (List.toArray (setL (Array.toList (Value.cells v_19)) 1 (Array.toList (Value.cells u_39))))) fun u_40 =>
 chk (List.length (Array.toList (Value.cells u_39)) == 3) (chk (List.all (Array.toList (Value.cells u_39)) one) (un (Value.agg (List.toArray (setL (Array.toList (Value.cells u_40)) 4 (Array.toList (Value.cells u_30))))) fun u_41 =>
 chk (List.length (Array.toList (Value.cells u_30)) == 3) (chk (List.all (Array.toList (Value.cells u_30)) one) (k_45 u_41 w_34 X_35)))))))
 (k_45 v_19 w_34 X_35))) fun k_36 =>
 (gE (B p3) false (eC Tryz.prog R X_17 w_16 true 53 #[u_31, u_32] k_36) (k_36 undef w_16 X_17)))))))))
 (((chk (isA v_19) (un (subOf v_19 0 7) fun u_48 =>
 un (Value.agg (Value.cells u_48)) fun u_49 =>
 chk (List.length (Array.toList (Value.cells u_48)) == 7) (chk (List.all (Array.toList (Value.cells u_48)) one) (un (subOf u_49 0 7) fun u_50 =>
 chk (List.all [u_49] isA) (fin R X_17 w_16 u_50)))))))))))))
theorem ok_mvcc_Store_newest {R : Ending → World → Prop} {w0 : World} {p0 : Value} {p1 : ByteArray} {p2_0 p2_1 p2_2 : Int} {p3 : Bool} (h : vc_mvcc_Store_newest R w0 (old w0) p0 p1 p2_0 p2_1 p2_2 p3) : Calls Tryz.prog 372 #[p0, (.string p1), (.agg #[(I p2_0), (I p2_1), (I p2_2)]), (B p3)] w0 R :=
  calls_of_vc (pl := pl_mvcc_Store_newest) Tryz.func372 (by kernel_rfl) (by kernel_rfl) h
noncomputable def pl_slices_IndexFunc_sl_api_Write_api_Write : Plan := ⟨19, [], [], [0, 1, 4, 5, 7, 8, 9, 16], [], [8]⟩
def vc_slices_IndexFunc_sl_api_Write_api_Write (R : Ending → World → Prop) (w0 : World) (X0 : XS) (p0 p1 : Value) : Prop :=
 (rdV Tryz.prog X0 w0 (lnS 23 3 p0) fun x7_4 =>
 (lp1 X0 w0 (I 0) 8 fun J_6 n_7 v_11 w_9 X_10 =>
 rdV Tryz.prog X_10 w_9 (binOp .lss 3 v_11 x7_4) fun x9_13 =>
 (condW x9_13
 (((rdV Tryz.prog X_10 w_9 (ixS 23 4 p0 v_11) fun x14_19 =>
 rdV Tryz.prog X_10 w_9 (ldA 53 4 x14_19) fun x15_20 =>
 eF Tryz.prog R X_10 w_9 true p1 #[x15_20] fun x16_21 w_22 X_23 =>
 (condW x16_21
 (fin R X_23 w_22 v_11)
 (((rdV Tryz.prog X_23 w_22 (binOp .add 3 v_11 (I 1)) fun x18_25 =>
 nx1 J_6 n_7 x18_25 w_22 X_23)))))))
 ((((fin R X_10 w_9 (I (-1)))))))))
theorem ok_slices_IndexFunc_sl_api_Write_api_Write {R : Ending → World → Prop} {w0 : World} {p0 p1 : Value} (h : vc_slices_IndexFunc_sl_api_Write_api_Write R w0 (old w0) p0 p1) : Calls Tryz.prog 379 #[p0, p1] w0 R :=
  calls_of_vc (pl := pl_slices_IndexFunc_sl_api_Write_api_Write) Tryz.func379 (by kernel_rfl) (by kernel_rfl) h
noncomputable def pl_raceref_Bits : Plan := ⟨10, [], [], [0, 1, 4], [], []⟩
def vc_raceref_Bits (R : Ending → World → Prop) (w0 : World) (X0 : XS) (p0 p1 : Nat) : Prop :=
 (eC Tryz.prog R X0 w0 true 111 #[(.float .f64 p0)] fun x6_3 w_4 X_5 =>
 eC Tryz.prog R X_5 w_4 true 111 #[(.float .f64 p1)] fun x8_6 w_7 X_8 =>
 rdV Tryz.prog X_8 w_7 (binS .eql 196 (.tmp 6) (.tmp 8) x6_3 x8_6) fun x9_9 =>
 (fin R X_8 w_7 x9_9))
theorem ok_raceref_Bits {R : Ending → World → Prop} {w0 : World} {p0 p1 : Nat} (h : vc_raceref_Bits R w0 (old w0) p0 p1) : Calls Tryz.prog 63 #[(.float .f64 p0), (.float .f64 p1)] w0 R :=
  calls_of_vc (pl := pl_raceref_Bits) Tryz.func63 (by kernel_rfl) (by kernel_rfl) h
noncomputable def pl_disk_name : Plan := ⟨11, [], [], [0, 2], [6, 7, 8, 9], []⟩
def vc_disk_name (R : Ending → World → Prop) (w0 : World) (X0 : XS) (p0 : ByteArray) : Prop :=
 (rdV Tryz.prog X0 w0 (lnT 9 3 (.string p0)) fun x4_3 =>
 rdV Tryz.prog X0 w0 (binOp .geq 3 x4_3 (I 1)) fun x5_4 =>
 un (gSel x5_4 true (.string p0)) fun u_5 =>
 grdW Tryz.prog X0 w0 x5_4 true (vS (lnT 9 3 u_5)) fun x8_6 =>
 grdW Tryz.prog X0 w0 x5_4 true (vS (binOp .leq 3 x8_6 (I 20))) fun x9_7 =>
 rdW Tryz.prog X0 w0 (pickN x5_4 x9_7 (B false)) fun x10_8 =>
 (fin R X0 w0 x10_8))
theorem ok_disk_name {R : Ending → World → Prop} {w0 : World} {p0 : ByteArray} (h : vc_disk_name R w0 (old w0) p0) : Calls Tryz.prog 73 #[(.string p0)] w0 R :=
  calls_of_vc (pl := pl_disk_name) Tryz.func73 (by kernel_rfl) (by kernel_rfl) h
noncomputable def pl_wal_Name : Plan := ⟨24, [], [], [0, 1, 4, 5, 6, 14], [9, 10, 11, 12, 17, 18, 19], []⟩
def vc_wal_Name (R : Ending → World → Prop) (w0 : World) (X0 : XS) (p0 : ByteArray) (p1 : Int) : Prop :=
 (rdV Tryz.prog X0 w0 (binS .eql 9 (.tmp 7) (.const (.string { data := #[] })) (.string p0) (.string { data := #[] })) fun x8_5 =>
 un (gSel x8_5 false (.string p0)) fun u_6 =>
 grdW Tryz.prog X0 w0 x8_5 false (vS (lnT 9 3 u_6)) fun x11_7 =>
 grdW Tryz.prog X0 w0 x8_5 false (vS (binOp .gtr 3 x11_7 (I 11))) fun x12_8 =>
 rdW Tryz.prog X0 w0 (pickN x8_5 (B true) x12_8) fun x13_9 =>
 (condW x13_9
 ((fin R X0 w0 (Value.tuple #[(.string { data := #[] }), (I 10)])))
 (rdV Tryz.prog X0 w0 (binOp .lss 3 (I p1) (I 1)) fun x16_12 =>
 un (gSel x16_12 false (I p1)) fun u_13 =>
 grdW Tryz.prog X0 w0 x16_12 false (vS (binOp .gtr 3 u_13 (I 99999999))) fun x19_14 =>
 rdW Tryz.prog X0 w0 (pickN x16_12 (B true) x19_14) fun x20_15 =>
 (condW x20_15
 ((fin R X0 w0 (Value.tuple #[(.string { data := #[] }), (I 1)])))
 (((eC Tryz.prog R X0 w0 true 106 #[(.string p0), (I p1)] fun x23_18 w_19 X_20 =>
 (fin R X_20 w_19 (Value.tuple #[x23_18, (I 0)])))))))))
theorem ok_wal_Name {R : Ending → World → Prop} {w0 : World} {p0 : ByteArray} {p1 : Int} (h : vc_wal_Name R w0 (old w0) p0 p1) : Calls Tryz.prog 79 #[(.string p0), (I p1)] w0 R :=
  calls_of_vc (pl := pl_wal_Name) Tryz.func79 (by kernel_rfl) (by kernel_rfl) h
noncomputable def pl_disk_Disk_Down : Plan := ⟨7, [], [], [0, 2], [], []⟩
def vc_disk_Disk_Down (R : Ending → World → Prop) (w0 : World) (X0 : XS) (p0 : Value) : Prop :=
 (rdW Tryz.prog X0 w0 (nilN p0) fun x4_3 =>
 rdV Tryz.prog X0 w0 (fld 106 4 4 1 x4_3) fun x5_4 =>
 rdV Tryz.prog X0 w0 (ld1 4 x5_4) fun x6_5 =>
 (fin R X0 w0 x6_5))
theorem ok_disk_Disk_Down {R : Ending → World → Prop} {w0 : World} {p0 : Value} (h : vc_disk_Disk_Down R w0 (old w0) p0) : Calls Tryz.prog 80 #[p0] w0 R :=
  calls_of_vc (pl := pl_disk_Disk_Down) Tryz.func80 (by kernel_rfl) (by kernel_rfl) h
noncomputable def pl_wal_Log_roll : Plan := ⟨32, [], [], [0, 1, 4, 5, 18], [], []⟩
def vc_wal_Log_roll (R : Ending → World → Prop) (w0 : World) (X0 : XS) (p0 : Value) (p1 : Int) : Prop :=
 (rdW Tryz.prog X0 w0 (nilN p0) fun x7_3 =>
 rdV Tryz.prog X0 w0 (fld 158 0 0 1 x7_3) fun x8_4 =>
 rdV Tryz.prog X0 w0 (ld1 26 x8_4) fun x9_5 =>
 rdW Tryz.prog X0 w0 (nilN p0) fun x11_6 =>
 rdV Tryz.prog X0 w0 (fld 158 1 1 1 x11_6) fun x12_7 =>
 rdV Tryz.prog X0 w0 (ld1 9 x12_7) fun x13_8 =>
 eC Tryz.prog R X0 w0 false 106 #[x13_8, (I p1)] fun x15_9 w_10 X_11 =>
 eC Tryz.prog R X_11 w_10 true 140 #[x9_5, x15_9] fun x16_12 w_13 X_14 =>
 ((jn (fun (w_35 : World) (X_36 : XS) =>
 (fin R X_36 w_35 x16_12)) fun k_37 =>
 rdV Tryz.prog X_14 w_13 (binS .eql 29 (.tmp 17) (.const (I 0)) x16_12 (I 0)) fun x18_17 =>
 (condW x18_17
 (rdW Tryz.prog X_14 w_13 (nilN p0) fun x21_18 =>
 rdV Tryz.prog X_14 w_13 (fld 158 3 3 1 x21_18) fun x22_19 =>
 rdV Tryz.prog X_14 w_13 (ld1 156 x22_19) fun x23_20 =>
 rdV Tryz.prog X_14 w_13 (bld 163 #[(I p1), (.slice none 0 0), (I 0)] #[(0, (I p1))]) fun x25_21 =>
 eV Tryz.prog R X_14 w_13 true (Instr.box 163 x25_21) fun x26_22 w_23 X_24 =>
 eV Tryz.prog R X_24 w_23 true (bsS 156 164 1 1 #[(0, x26_22)]) fun x27_25 w_26 X_27 =>
 eV Tryz.prog R X_27 w_26 true (apS 156 164 1 8 156 x23_20 x27_25) fun x28_28 w_29 X_30 =>
 rdW Tryz.prog X_30 w_29 (nilN p0) fun x29_31 =>
 rdV Tryz.prog X_30 w_29 (fld 158 3 3 1 x29_31) fun x30_32 =>
 eU Tryz.prog R X_30 w_29 true (st1 156 1 x30_32 x28_28) fun _ w_33 X_34 =>
 (k_37 w_33 X_34))
 (k_37 w_13 X_14)))))
theorem ok_wal_Log_roll {R : Ending → World → Prop} {w0 : World} {p0 : Value} {p1 : Int} (h : vc_wal_Log_roll R w0 (old w0) p0 p1) : Calls Tryz.prog 83 #[p0, (I p1)] w0 R :=
  calls_of_vc (pl := pl_wal_Log_roll) Tryz.func83 (by kernel_rfl) (by kernel_rfl) h
noncomputable def pl_wal_Log_last : Plan := ⟨15, [], [], [0, 2], [], []⟩
def vc_wal_Log_last (R : Ending → World → Prop) (w0 : World) (X0 : XS) (p0 : Value) : Prop :=
 (rdW Tryz.prog X0 w0 (nilN p0) fun x4_3 =>
 rdV Tryz.prog X0 w0 (fld 158 3 3 1 x4_3) fun x5_4 =>
 rdV Tryz.prog X0 w0 (ld1 156 x5_4) fun x6_5 =>
 rdW Tryz.prog X0 w0 (nilN p0) fun x8_6 =>
 rdV Tryz.prog X0 w0 (fld 158 3 3 1 x8_6) fun x9_7 =>
 rdV Tryz.prog X0 w0 (ld1 156 x9_7) fun x10_8 =>
 rdV Tryz.prog X0 w0 (lnS 156 3 x10_8) fun x11_9 =>
 rdV Tryz.prog X0 w0 (binOp .sub 3 x11_9 (I 1)) fun x12_10 =>
 rdV Tryz.prog X0 w0 (ixS 156 1 x6_5 x12_10) fun x13_11 =>
 rdV Tryz.prog X0 w0 (ld1 164 x13_11) fun x14_12 =>
 (fin R X0 w0 x14_12))
theorem ok_wal_Log_last {R : Ending → World → Prop} {w0 : World} {p0 : Value} (h : vc_wal_Log_last R w0 (old w0) p0) : Calls Tryz.prog 85 #[p0] w0 R :=
  calls_of_vc (pl := pl_wal_Log_last) Tryz.func85 (by kernel_rfl) (by kernel_rfl) h
noncomputable def pl_recs_walk : Plan := ⟨183, [], [], [0, 1, 4, 13, 14, 21, 30, 78, 95, 102, 119, 138, 145, 169], [], []⟩
def vc_recs_walk (R : Ending → World → Prop) (w0 : World) (X0 : XS) (p0 p1 : Value) : Prop :=
 rdW Tryz.prog X0 w0 (nilN p1) fun x7_2 =>
 rdV Tryz.prog X0 w0 (fld 117 0 0 1 x7_2) fun x8_3 =>
 eC Tryz.prog R X0 w0 true 142 #[p0, x8_3] fun _ w_5 X_6 =>
 (rdW Tryz.prog X_6 w_5 (nilN p1) fun x11_8 =>
 rdV Tryz.prog X_6 w_5 (fld 117 0 0 1 x11_8) fun x12_9 =>
 rdV Tryz.prog X_6 w_5 (ld1 3 x12_9) fun x13_10 =>
 ((jn (fun (w_206 : World) (X_207 : XS) =>
 fin R X_207 w_206 (Value.tuple #[])) fun k_208 =>
 rdV Tryz.prog X_6 w_5 (binS .eql 3 (.tmp 13) (.const (I 1)) x13_10 (I 1)) fun x15_13 =>
 (condW x15_13
 (rdW Tryz.prog X_6 w_5 (nilN p1) fun x18_14 =>
 rdV Tryz.prog X_6 w_5 (fld 117 11 17 12 x18_14) fun x19_15 =>
 eC Tryz.prog R X_6 w_5 true 143 #[p0, x19_15] fun _ w_17 X_18 =>
 (k_208 w_17 X_18))
 ((jn (fun (y21_25 : Value) =>
 condW y21_25
 (rdW Tryz.prog X_6 w_5 (nilN p1) fun x27_27 =>
 rdV Tryz.prog X_6 w_5 (fld 117 5 11 1 x27_27) fun x28_28 =>
 eC Tryz.prog R X_6 w_5 true 142 #[p0, x28_28] fun _ w_30 X_31 =>
 (k_208 w_30 X_31))
 (rdV Tryz.prog X_6 w_5 (binS .eql 3 (.tmp 13) (.const (I 3)) x13_10 (I 3)) fun x31_33 =>
 (condW x31_33
 (rdW Tryz.prog X_6 w_5 (nilN p1) fun x33_35 =>
 rdV Tryz.prog X_6 w_5 (fld 117 1 1 3 x33_35) fun x34_36 =>
 rdV Tryz.prog X_6 w_5 (ldA 33 3 x34_36) fun x35_37 =>
 rdW Tryz.prog X_6 w_5 (nilN p1) fun x37_38 =>
 rdV Tryz.prog X_6 w_5 (fld 117 2 4 3 x37_38) fun x38_39 =>
 rdV Tryz.prog X_6 w_5 (ldA 35 3 x38_39) fun x39_40 =>
 rdW Tryz.prog X_6 w_5 (nilN p1) fun x41_41 =>
 rdV Tryz.prog X_6 w_5 (fld 117 7 13 1 x41_41) fun x42_42 =>
 rdV Tryz.prog X_6 w_5 (ld1 36 x42_42) fun x43_43 =>
 rdW Tryz.prog X_6 w_5 (nilN p1) fun x45_44 =>
 rdV Tryz.prog X_6 w_5 (fld 117 8 14 1 x45_44) fun x46_45 =>
 rdV Tryz.prog X_6 w_5 (ld1 23 x46_45) fun x47_46 =>
 un (cellOf x35_37 0) fun u_47 =>
 un (cellOf x35_37 1) fun u_48 =>
 un (cellOf x35_37 2) fun u_49 =>
 un (cellOf x39_40 0) fun u_50 =>
 un (cellOf x39_40 1) fun u_51 =>
 un (cellOf x39_40 2) fun u_52 =>
 rdV Tryz.prog X_6 w_5 (bld 229 #[u_47, u_48, u_49, u_50, u_51, u_52, x43_43, x47_46] #[(0, x35_37), (1, x39_40), (2, x43_43), (3, x47_46)]) fun x48_53 =>
 eV Tryz.prog R X_6 w_5 false (Instr.alloc 229 true (Value.tuple #[])) fun x4_54 w_55 X_56 =>
 eU Tryz.prog R X_56 w_55 true (st1 229 8 x4_54 x48_53) fun _ w_57 X_58 =>
 (eC Tryz.prog R X_58 w_57 true 144 #[p0, x4_54] fun _ w_61 X_62 =>
 (rdV Tryz.prog X_62 w_61 (fld 229 0 0 3 x4_54) fun x55_64 =>
 rdV Tryz.prog X_62 w_61 (ldA 33 3 x55_64) fun x56_65 =>
 rdV Tryz.prog X_62 w_61 (fld 229 1 3 3 x4_54) fun x57_66 =>
 rdV Tryz.prog X_62 w_61 (ldA 35 3 x57_66) fun x58_67 =>
 rdV Tryz.prog X_62 w_61 (fld 229 2 6 1 x4_54) fun x59_68 =>
 rdV Tryz.prog X_62 w_61 (ld1 36 x59_68) fun x60_69 =>
 rdV Tryz.prog X_62 w_61 (fld 229 3 7 1 x4_54) fun x61_70 =>
 rdV Tryz.prog X_62 w_61 (ld1 23 x61_70) fun x62_71 =>
 rdW Tryz.prog X_62 w_61 (nilN p1) fun x63_72 =>
 rdV Tryz.prog X_62 w_61 (fld 117 1 1 3 x63_72) fun x64_73 =>
 eU Tryz.prog R X_62 w_61 true (st1 33 3 x64_73 x56_65) fun _ w_74 X_75 =>
 rdW Tryz.prog X_75 w_74 (nilN p1) fun x65_76 =>
 rdV Tryz.prog X_75 w_74 (fld 117 2 4 3 x65_76) fun x66_77 =>
 eU Tryz.prog R X_75 w_74 true (st1 35 3 x66_77 x58_67) fun _ w_78 X_79 =>
 rdW Tryz.prog X_79 w_78 (nilN p1) fun x67_80 =>
 rdV Tryz.prog X_79 w_78 (fld 117 7 13 1 x67_80) fun x68_81 =>
 eU Tryz.prog R X_79 w_78 true (st1 36 1 x68_81 x60_69) fun _ w_82 X_83 =>
 rdW Tryz.prog X_83 w_82 (nilN p1) fun x69_84 =>
 rdV Tryz.prog X_83 w_82 (fld 117 8 14 1 x69_84) fun x70_85 =>
 eU Tryz.prog R X_83 w_82 true (st1 23 1 x70_85 x62_71) fun _ w_86 X_87 =>
 (rdW Tryz.prog X_87 w_86 (nilN p1) fun x73_88 =>
 rdV Tryz.prog X_87 w_86 (fld 117 9 15 1 x73_88) fun x74_89 =>
 rdV Tryz.prog X_87 w_86 (Instr.makeFunc (Fn.func 142) #[p0] #[]) fun x76_90 =>
 eC Tryz.prog R X_87 w_86 true 145 #[p0, x74_89, x76_90] fun _ w_92 X_93 =>
 (k_208 w_92 X_93)))))
 (rdV Tryz.prog X_6 w_5 (binS .eql 3 (.tmp 13) (.const (I 4)) x13_10 (I 4)) fun x79_95 =>
 (condW x79_95
 (rdW Tryz.prog X_6 w_5 (nilN p1) fun x82_97 =>
 rdV Tryz.prog X_6 w_5 (fld 117 1 1 3 x82_97) fun x83_98 =>
 eC Tryz.prog R X_6 w_5 true 146 #[p0, x83_98] fun _ w_100 X_101 =>
 (rdW Tryz.prog X_101 w_100 (nilN p1) fun x87_103 =>
 rdV Tryz.prog X_101 w_100 (fld 117 4 10 1 x87_103) fun x88_104 =>
 eC Tryz.prog R X_101 w_100 true 147 #[p0, x88_104] fun _ w_106 X_107 =>
 (rdW Tryz.prog X_107 w_106 (nilN p1) fun x92_108 =>
 rdV Tryz.prog X_107 w_106 (fld 117 2 4 3 x92_108) fun x93_109 =>
 eC Tryz.prog R X_107 w_106 true 148 #[p0, x93_109] fun _ w_111 X_112 =>
 (k_208 w_111 X_112))))
 (rdV Tryz.prog X_6 w_5 (binS .eql 3 (.tmp 13) (.const (I 5)) x13_10 (I 5)) fun x96_114 =>
 (condW x96_114
 (rdW Tryz.prog X_6 w_5 (nilN p1) fun x99_115 =>
 rdV Tryz.prog X_6 w_5 (fld 117 2 4 3 x99_115) fun x100_116 =>
 eC Tryz.prog R X_6 w_5 true 148 #[p0, x100_116] fun _ w_118 X_119 =>
 (k_208 w_118 X_119))
 (rdV Tryz.prog X_6 w_5 (binS .eql 3 (.tmp 13) (.const (I 6)) x13_10 (I 6)) fun x103_121 =>
 (condW x103_121
 (rdW Tryz.prog X_6 w_5 (nilN p1) fun x106_123 =>
 rdV Tryz.prog X_6 w_5 (fld 117 6 12 1 x106_123) fun x107_124 =>
 eC Tryz.prog R X_6 w_5 true 149 #[p0, x107_124] fun _ w_126 X_127 =>
 (rdW Tryz.prog X_127 w_126 (nilN p1) fun x111_129 =>
 rdV Tryz.prog X_127 w_126 (fld 117 5 11 1 x111_129) fun x112_130 =>
 eC Tryz.prog R X_127 w_126 true 142 #[p0, x112_130] fun _ w_132 X_133 =>
 (rdW Tryz.prog X_133 w_132 (nilN p1) fun x116_134 =>
 rdV Tryz.prog X_133 w_132 (fld 117 2 4 3 x116_134) fun x117_135 =>
 eC Tryz.prog R X_133 w_132 true 148 #[p0, x117_135] fun _ w_137 X_138 =>
 (k_208 w_137 X_138))))
 (rdV Tryz.prog X_6 w_5 (binS .eql 3 (.tmp 13) (.const (I 9)) x13_10 (I 9)) fun x120_140 =>
 (condW x120_140
 (rdW Tryz.prog X_6 w_5 (nilN p1) fun x123_142 =>
 rdV Tryz.prog X_6 w_5 (fld 117 1 1 3 x123_142) fun x124_143 =>
 eC Tryz.prog R X_6 w_5 true 146 #[p0, x124_143] fun _ w_145 X_146 =>
 (rdW Tryz.prog X_146 w_145 (nilN p1) fun x128_148 =>
 rdV Tryz.prog X_146 w_145 (fld 117 2 4 3 x128_148) fun x129_149 =>
 eC Tryz.prog R X_146 w_145 true 148 #[p0, x129_149] fun _ w_151 X_152 =>
 (rdW Tryz.prog X_152 w_151 (nilN p1) fun x133_153 =>
 rdV Tryz.prog X_152 w_151 (fld 117 9 15 1 x133_153) fun x134_154 =>
 rdV Tryz.prog X_152 w_151 (Instr.makeFunc (Fn.func 142) #[p0] #[]) fun x136_155 =>
 eC Tryz.prog R X_152 w_151 true 145 #[p0, x134_154, x136_155] fun _ w_157 X_158 =>
 (k_208 w_157 X_158))))
 (rdV Tryz.prog X_6 w_5 (binS .eql 3 (.tmp 13) (.const (I 10)) x13_10 (I 10)) fun x139_160 =>
 (condW x139_160
 (rdW Tryz.prog X_6 w_5 (nilN p1) fun x142_161 =>
 rdV Tryz.prog X_6 w_5 (fld 117 1 1 3 x142_161) fun x143_162 =>
 eC Tryz.prog R X_6 w_5 true 146 #[p0, x143_162] fun _ w_164 X_165 =>
 (k_208 w_164 X_165))
 (rdV Tryz.prog X_6 w_5 (binS .eql 3 (.tmp 13) (.const (I 11)) x13_10 (I 11)) fun x146_167 =>
 (condW x146_167
 (rdW Tryz.prog X_6 w_5 (nilN p1) fun x149_169 =>
 rdV Tryz.prog X_6 w_5 (fld 117 3 7 3 x149_169) fun x150_170 =>
 eC Tryz.prog R X_6 w_5 true 148 #[p0, x150_170] fun _ w_172 X_173 =>
 (rdW Tryz.prog X_173 w_172 (nilN p1) fun x154_175 =>
 rdV Tryz.prog X_173 w_172 (fld 117 2 4 3 x154_175) fun x155_176 =>
 eC Tryz.prog R X_173 w_172 true 148 #[p0, x155_176] fun _ w_178 X_179 =>
 (rdW Tryz.prog X_179 w_178 (nilN p1) fun x159_181 =>
 rdV Tryz.prog X_179 w_178 (fld 117 1 1 3 x159_181) fun x160_182 =>
 eC Tryz.prog R X_179 w_178 true 146 #[p0, x160_182] fun _ w_184 X_185 =>
 (rdW Tryz.prog X_185 w_184 (nilN p1) fun x164_186 =>
 rdV Tryz.prog X_185 w_184 (fld 117 8 14 1 x164_186) fun x165_187 =>
 rdV Tryz.prog X_185 w_184 (Instr.makeFunc (Fn.func 151) #[p0] #[]) fun x167_188 =>
 eC Tryz.prog R X_185 w_184 true 150 #[p0, x165_187, x167_188] fun _ w_190 X_191 =>
 (k_208 w_190 X_191)))))
 (rdV Tryz.prog X_6 w_5 (binS .eql 3 (.tmp 13) (.const (I 12)) x13_10 (I 12)) fun x170_193 =>
 (condW x170_193
 (rdW Tryz.prog X_6 w_5 (nilN p1) fun x173_195 =>
 rdV Tryz.prog X_6 w_5 (fld 117 2 4 3 x173_195) fun x174_196 =>
 eC Tryz.prog R X_6 w_5 true 148 #[p0, x174_196] fun _ w_198 X_199 =>
 (rdW Tryz.prog X_199 w_198 (nilN p1) fun x178_200 =>
 rdV Tryz.prog X_199 w_198 (fld 117 10 16 1 x178_200) fun x179_201 =>
 rdV Tryz.prog X_199 w_198 (Instr.makeFunc (Fn.func 153) #[p0] #[]) fun x181_202 =>
 eC Tryz.prog R X_199 w_198 true 152 #[p0, x179_201, x181_202] fun _ w_204 X_205 =>
 (k_208 w_204 X_205)))
 (k_208 w_5 X_6)))))))))))))))))) fun k_26 =>
 rdV Tryz.prog X_6 w_5 (binS .eql 3 (.tmp 13) (.const (I 2)) x13_10 (I 2)) fun x22_21 =>
 (condW x22_21
 (k_26 x22_21)
 (rdV Tryz.prog X_6 w_5 (binS .eql 3 (.tmp 13) (.const (I 7)) x13_10 (I 7)) fun x23_23 =>
 (condW x23_23
 (k_26 x23_23)
 (rdV Tryz.prog X_6 w_5 (binS .eql 3 (.tmp 13) (.const (I 8)) x13_10 (I 8)) fun x24_24 =>
 (k_26 x24_24)))))))))))
theorem ok_recs_walk {R : Ending → World → Prop} {w0 : World} {p0 p1 : Value} (h : vc_recs_walk R w0 (old w0) p0 p1) : Calls Tryz.prog 89 #[p0, p1] w0 R :=
  calls_of_vc (pl := pl_recs_walk) Tryz.func89 (by kernel_rfl) (by kernel_rfl) h
noncomputable def pl_recs_Encode : Plan := ⟨23, [], [], [0, 1, 2, 3, 4, 5, 6, 10, 21], [], []⟩
def vc_recs_Encode (R : Ending → World → Prop) (w0 : World) (X0 : XS) (p0_0 p0_1 p0_2 p0_3 p0_4 p0_5 p0_6 p0_7 p0_8 p0_9 : Int) (p0_10 : Bool) (p0_11 : Int) (p0_12 : Nat) (p0_13 p0_14 p0_15 p0_16 : Value) (p0_17 p0_18 : Int) (p0_19 p0_20 : Nat) (p0_21 p0_22 p0_23 p0_24 p0_25 p0_26 : Int) (p0_27 p0_28 : Value) : Prop :=
 eV Tryz.prog R X0 w0 true (Instr.box 117 (.agg #[(I p0_0), (I p0_1), (I p0_2), (I p0_3), (I p0_4), (I p0_5), (I p0_6), (I p0_7), (I p0_8), (I p0_9), (B p0_10), (I p0_11), (.float .f64 p0_12), p0_13, p0_14, p0_15, p0_16, (I p0_17), (I p0_18), (.float .f64 p0_19), (.float .f64 p0_20), (I p0_21), (I p0_22), (I p0_23), (I p0_24), (I p0_25), (I p0_26), p0_27, p0_28])) fun x1_2 w_3 X_4 =>
 (rdV Tryz.prog X_4 w_3 (ldA 117 29 x1_2) fun x7_7 =>
 eC Tryz.prog R X_4 w_3 true 155 #[x7_7] fun x8_8 w_9 X_10 =>
 (rdV Tryz.prog X_10 w_9 (binS .neq 29 (.tmp 9) (.const (I 0)) x8_8 (I 0)) fun x10_12 =>
 (condW x10_12
 ((fin R X_10 w_9 (Value.tuple #[(.slice none 0 0), x8_8])))
 ((eC Tryz.prog R X_10 w_9 true 156 #[] fun x12_15 w_16 X_17 =>
 (rdV Tryz.prog X_17 w_16 (bld 175 #[x12_15, (.pointer none)] #[(0, x12_15)]) fun x14_19 =>
 eV Tryz.prog R X_17 w_16 true (Instr.box 175 x14_19) fun x15_20 w_21 X_22 =>
 eC Tryz.prog R X_22 w_21 true 89 #[x15_20, x1_2] fun _ w_24 X_25 =>
 (eC Tryz.prog R X_25 w_24 true 157 #[x12_15] fun x18_27 w_28 X_29 =>
 (rdV Tryz.prog X_29 w_28 (lnS 95 3 x18_27) fun x20_32 =>
 rdV Tryz.prog X_29 w_28 (binOp .gtr 3 x20_32 (I 262144)) fun x21_33 =>
 (condW x21_33
 ((fin R X_29 w_28 (Value.tuple #[(.slice none 0 0), (I 2)])))
 (((fin R X_29 w_28 (Value.tuple #[x18_27, (I 0)])))))))))))))
theorem ok_recs_Encode {R : Ending → World → Prop} {w0 : World} {p0_0 p0_1 p0_2 p0_3 p0_4 p0_5 p0_6 p0_7 p0_8 p0_9 : Int} {p0_10 : Bool} {p0_11 : Int} {p0_12 : Nat} {p0_13 p0_14 p0_15 p0_16 : Value} {p0_17 p0_18 : Int} {p0_19 p0_20 : Nat} {p0_21 p0_22 p0_23 p0_24 p0_25 p0_26 : Int} {p0_27 p0_28 : Value} (h : vc_recs_Encode R w0 (old w0) p0_0 p0_1 p0_2 p0_3 p0_4 p0_5 p0_6 p0_7 p0_8 p0_9 p0_10 p0_11 p0_12 p0_13 p0_14 p0_15 p0_16 p0_17 p0_18 p0_19 p0_20 p0_21 p0_22 p0_23 p0_24 p0_25 p0_26 p0_27 p0_28) : Calls Tryz.prog 91 #[(.agg #[(I p0_0), (I p0_1), (I p0_2), (I p0_3), (I p0_4), (I p0_5), (I p0_6), (I p0_7), (I p0_8), (I p0_9), (B p0_10), (I p0_11), (.float .f64 p0_12), p0_13, p0_14, p0_15, p0_16, (I p0_17), (I p0_18), (.float .f64 p0_19), (.float .f64 p0_20), (I p0_21), (I p0_22), (I p0_23), (I p0_24), (I p0_25), (I p0_26), p0_27, p0_28])] w0 R :=
  calls_of_vc (pl := pl_recs_Encode) Tryz.func91 (by kernel_rfl) (by kernel_rfl) h
noncomputable def pl_msgs_without : Plan := ⟨98, [(1, (Tryz.prog.cellsOf 48)), (2, (Tryz.prog.cellsOf 48)), (4, (Tryz.prog.cellsOf 35))], [6, 13, 14, 15, 16, 17, 22, 23, 24, 25, 26, 27, 32, 33, 34, 35, 36, 37, 38, 43, 44, 45, 46, 47, 52, 53, 54, 55, 60, 61, 65, 66, 67, 68, 71, 72, 73, 77, 78, 81, 87, 88, 89, 90, 96], [0, 3, 7, 9, 18, 28, 39, 48, 56, 62, 69, 74, 79, 82, 91, 93], [], []⟩
def vc_msgs_without (R : Ending → World → Prop) (w0 : World) (X0 : XS) (p0_0 p0_1 p0_2 p0_3 p0_4 p0_5 p0_6 p0_7 p0_8 p0_9 p0_10 p0_11 p0_12 p0_13 p0_14 : Int) (p0_15 : Bool) (p0_16 p0_17 : Int) (p0_18 p0_19 p0_20 p0_21 p0_22 p0_23 : Value) (p0_24 p0_25 : Int) (p0_26 p0_27 : Nat) (p0_28 p0_29 p0_30 p0_31 p0_32 p0_33 : Int) (p0_34 p0_35 : Value) : Prop :=
 (rdV Tryz.prog X0 w0 (bld 35 #[(I 0), (I 0), (I 0)] #[]) fun x5_3 =>
 un (Value.agg (Value.cells x5_3)) fun u_4 =>
 chk (List.length (Array.toList (Value.cells x5_3)) == 3) (chk (List.all (Array.toList (Value.cells x5_3)) one) ((((jn (fun (y1_91 : Value) =>
 (chk (isA y1_91) (un (subOf y1_91 0 36) fun u_94 =>
 un (Value.agg (Value.cells u_94)) fun u_95 =>
 chk (List.length (Array.toList (Value.cells u_94)) == 36) (chk (List.all (Array.toList (Value.cells u_94)) one) ((un (subOf u_95 0 36) fun u_96 =>
 chk (List.all [u_95] isA) (fin R X0 w0 (Value.tuple #[u_96, (B true)])))))))) fun k_92 =>
 rdV Tryz.prog X0 w0 (binS .eql 3 (.tmp 7) (.const (I 1)) (I p0_0) (I 1)) fun x10_9 =>
 (condW x10_9
 (rdV Tryz.prog X0 w0 (bld 33 #[(I 0), (I 0), (I 0)] #[]) fun x11_10 =>
 chk (isA u_4) (un (Value.agg (List.toArray (setL [(I p0_0), (I p0_1), (I p0_2), (I p0_3), (I p0_4), (I p0_5), (I p0_6), (I p0_7), (I p0_8), (I p0_9), (I p0_10), (I p0_11), (I p0_12), (I p0_13), (I p0_14), (B p0_15), (I p0_16), (I p0_17), p0_18, p0_19, p0_20, p0_21, p0_22, p0_23, (I p0_24), (I p0_25), (.float .f64 p0_26), (.float .f64 p0_27), (I p0_28), (I p0_29), (I p0_30), (I p0_31), (I p0_32), (I p0_33), p0_34, p0_35] 3 (Array.toList (Value.cells x11_10))))) fun u_11 =>
 chk (List.length (Array.toList (Value.cells x11_10)) == 3) (chk (List.all (Array.toList (Value.cells x11_10)) one) (un (Value.agg (List.toArray (setL (Array.toList (Value.cells u_11)) 6 [(I 0)]))) fun u_12 =>
 un (Value.agg (List.toArray (setL (Array.toList (Value.cells u_12)) 7 [(I 0)]))) fun u_13 =>
 un (subOf u_4 0 3) fun u_14 =>
 un (Value.agg (List.toArray (setL (Array.toList (Value.cells u_13)) 9 (Array.toList (Value.cells u_14))))) fun u_15 =>
 chk (List.length (Array.toList (Value.cells u_14)) == 3) (chk (List.all (Array.toList (Value.cells u_14)) one) (un (Value.agg (List.toArray (setL (Array.toList (Value.cells u_15)) 18 [(.slice none 0 0)]))) fun u_16 =>
 (k_92 u_16)))))))
 (rdV Tryz.prog X0 w0 (binS .eql 3 (.tmp 7) (.const (I 2)) (I p0_0) (I 2)) fun x19_18 =>
 (condW x19_18
 (rdV Tryz.prog X0 w0 (bld 33 #[(I 0), (I 0), (I 0)] #[]) fun x20_19 =>
 chk (isA u_4) (un (Value.agg (List.toArray (setL [(I p0_0), (I p0_1), (I p0_2), (I p0_3), (I p0_4), (I p0_5), (I p0_6), (I p0_7), (I p0_8), (I p0_9), (I p0_10), (I p0_11), (I p0_12), (I p0_13), (I p0_14), (B p0_15), (I p0_16), (I p0_17), p0_18, p0_19, p0_20, p0_21, p0_22, p0_23, (I p0_24), (I p0_25), (.float .f64 p0_26), (.float .f64 p0_27), (I p0_28), (I p0_29), (I p0_30), (I p0_31), (I p0_32), (I p0_33), p0_34, p0_35] 3 (Array.toList (Value.cells x20_19))))) fun u_20 =>
 chk (List.length (Array.toList (Value.cells x20_19)) == 3) (chk (List.all (Array.toList (Value.cells x20_19)) one) (un (Value.agg (List.toArray (setL (Array.toList (Value.cells u_20)) 6 [(I 0)]))) fun u_21 =>
 un (Value.agg (List.toArray (setL (Array.toList (Value.cells u_21)) 8 [(I 0)]))) fun u_22 =>
 un (subOf u_4 0 3) fun u_23 =>
 un (Value.agg (List.toArray (setL (Array.toList (Value.cells u_22)) 9 (Array.toList (Value.cells u_23))))) fun u_24 =>
 chk (List.length (Array.toList (Value.cells u_23)) == 3) (chk (List.all (Array.toList (Value.cells u_23)) one) (un (Value.agg (List.toArray (setL (Array.toList (Value.cells u_24)) 19 [(.slice none 0 0)]))) fun u_25 =>
 un (Value.agg (List.toArray (setL (Array.toList (Value.cells u_25)) 22 [(.slice none 0 0)]))) fun u_26 =>
 (k_92 u_26)))))))
 (rdV Tryz.prog X0 w0 (binS .eql 3 (.tmp 7) (.const (I 3)) (I p0_0) (I 3)) fun x29_28 =>
 (condW x29_28
 (rdV Tryz.prog X0 w0 (bld 33 #[(I 0), (I 0), (I 0)] #[]) fun x30_29 =>
 chk (isA u_4) (un (Value.agg (List.toArray (setL [(I p0_0), (I p0_1), (I p0_2), (I p0_3), (I p0_4), (I p0_5), (I p0_6), (I p0_7), (I p0_8), (I p0_9), (I p0_10), (I p0_11), (I p0_12), (I p0_13), (I p0_14), (B p0_15), (I p0_16), (I p0_17), p0_18, p0_19, p0_20, p0_21, p0_22, p0_23, (I p0_24), (I p0_25), (.float .f64 p0_26), (.float .f64 p0_27), (I p0_28), (I p0_29), (I p0_30), (I p0_31), (I p0_32), (I p0_33), p0_34, p0_35] 3 (Array.toList (Value.cells x30_29))))) fun u_30 =>
 chk (List.length (Array.toList (Value.cells x30_29)) == 3) (chk (List.all (Array.toList (Value.cells x30_29)) one) (un (Value.agg (List.toArray (setL (Array.toList (Value.cells u_30)) 6 [(I 0)]))) fun u_31 =>
 un (Value.agg (List.toArray (setL (Array.toList (Value.cells u_31)) 7 [(I 0)]))) fun u_32 =>
 un (subOf u_4 0 3) fun u_33 =>
 un (Value.agg (List.toArray (setL (Array.toList (Value.cells u_32)) 9 (Array.toList (Value.cells u_33))))) fun u_34 =>
 chk (List.length (Array.toList (Value.cells u_33)) == 3) (chk (List.all (Array.toList (Value.cells u_33)) one) (un (Value.agg (List.toArray (setL (Array.toList (Value.cells u_34)) 19 [(.slice none 0 0)]))) fun u_35 =>
 un (Value.agg (List.toArray (setL (Array.toList (Value.cells u_35)) 20 [(.slice none 0 0)]))) fun u_36 =>
 un (Value.agg (List.toArray (setL (Array.toList (Value.cells u_36)) 21 [(.slice none 0 0)]))) fun u_37 =>
 (k_92 u_37)))))))
 (rdV Tryz.prog X0 w0 (binS .eql 3 (.tmp 7) (.const (I 4)) (I p0_0) (I 4)) fun x40_39 =>
 (condW x40_39
 (rdV Tryz.prog X0 w0 (bld 33 #[(I 0), (I 0), (I 0)] #[]) fun x41_40 =>
 chk (isA u_4) (un (Value.agg (List.toArray (setL [(I p0_0), (I p0_1), (I p0_2), (I p0_3), (I p0_4), (I p0_5), (I p0_6), (I p0_7), (I p0_8), (I p0_9), (I p0_10), (I p0_11), (I p0_12), (I p0_13), (I p0_14), (B p0_15), (I p0_16), (I p0_17), p0_18, p0_19, p0_20, p0_21, p0_22, p0_23, (I p0_24), (I p0_25), (.float .f64 p0_26), (.float .f64 p0_27), (I p0_28), (I p0_29), (I p0_30), (I p0_31), (I p0_32), (I p0_33), p0_34, p0_35] 3 (Array.toList (Value.cells x41_40))))) fun u_41 =>
 chk (List.length (Array.toList (Value.cells x41_40)) == 3) (chk (List.all (Array.toList (Value.cells x41_40)) one) (un (Value.agg (List.toArray (setL (Array.toList (Value.cells u_41)) 6 [(I 0)]))) fun u_42 =>
 un (Value.agg (List.toArray (setL (Array.toList (Value.cells u_42)) 8 [(I 0)]))) fun u_43 =>
 un (subOf u_4 0 3) fun u_44 =>
 un (Value.agg (List.toArray (setL (Array.toList (Value.cells u_43)) 9 (Array.toList (Value.cells u_44))))) fun u_45 =>
 chk (List.length (Array.toList (Value.cells u_44)) == 3) (chk (List.all (Array.toList (Value.cells u_44)) one) (un (Value.agg (List.toArray (setL (Array.toList (Value.cells u_45)) 22 [(.slice none 0 0)]))) fun u_46 =>
 (k_92 u_46)))))))
 (rdV Tryz.prog X0 w0 (binS .eql 3 (.tmp 7) (.const (I 5)) (I p0_0) (I 5)) fun x49_48 =>
 (condW x49_48
 (rdV Tryz.prog X0 w0 (bld 33 #[(I 0), (I 0), (I 0)] #[]) fun x50_49 =>
 chk (isA u_4) (un (Value.agg (List.toArray (setL [(I p0_0), (I p0_1), (I p0_2), (I p0_3), (I p0_4), (I p0_5), (I p0_6), (I p0_7), (I p0_8), (I p0_9), (I p0_10), (I p0_11), (I p0_12), (I p0_13), (I p0_14), (B p0_15), (I p0_16), (I p0_17), p0_18, p0_19, p0_20, p0_21, p0_22, p0_23, (I p0_24), (I p0_25), (.float .f64 p0_26), (.float .f64 p0_27), (I p0_28), (I p0_29), (I p0_30), (I p0_31), (I p0_32), (I p0_33), p0_34, p0_35] 3 (Array.toList (Value.cells x50_49))))) fun u_50 =>
 chk (List.length (Array.toList (Value.cells x50_49)) == 3) (chk (List.all (Array.toList (Value.cells x50_49)) one) (un (Value.agg (List.toArray (setL (Array.toList (Value.cells u_50)) 6 [(I 0)]))) fun u_51 =>
 un (Value.agg (List.toArray (setL (Array.toList (Value.cells u_51)) 15 [(B false)]))) fun u_52 =>
 un (subOf u_4 0 3) fun u_53 =>
 un (Value.agg (List.toArray (setL (Array.toList (Value.cells u_52)) 9 (Array.toList (Value.cells u_53))))) fun u_54 =>
 chk (List.length (Array.toList (Value.cells u_53)) == 3) (chk (List.all (Array.toList (Value.cells u_53)) one) (k_92 u_54))))))
 ((jn (fun (y56_59 : Value) =>
 condW y56_59
 (rdV Tryz.prog X0 w0 (bld 33 #[(I 0), (I 0), (I 0)] #[]) fun x59_61 =>
 un (Value.agg (List.toArray (setL [(I p0_0), (I p0_1), (I p0_2), (I p0_3), (I p0_4), (I p0_5), (I p0_6), (I p0_7), (I p0_8), (I p0_9), (I p0_10), (I p0_11), (I p0_12), (I p0_13), (I p0_14), (B p0_15), (I p0_16), (I p0_17), p0_18, p0_19, p0_20, p0_21, p0_22, p0_23, (I p0_24), (I p0_25), (.float .f64 p0_26), (.float .f64 p0_27), (I p0_28), (I p0_29), (I p0_30), (I p0_31), (I p0_32), (I p0_33), p0_34, p0_35] 3 (Array.toList (Value.cells x59_61))))) fun u_62 =>
 chk (List.length (Array.toList (Value.cells x59_61)) == 3) (chk (List.all (Array.toList (Value.cells x59_61)) one) (un (Value.agg (List.toArray (setL (Array.toList (Value.cells u_62)) 6 [(I 0)]))) fun u_63 =>
 (k_92 u_63))))
 (rdV Tryz.prog X0 w0 (binS .eql 3 (.tmp 7) (.const (I 8)) (I p0_0) (I 8)) fun x63_65 =>
 (condW x63_65
 (chk (isA u_4) (un (subOf u_4 0 3) fun u_66 =>
 un (Value.agg (List.toArray (setL [(I p0_0), (I p0_1), (I p0_2), (I p0_3), (I p0_4), (I p0_5), (I 0), (I p0_7), (I p0_8), (I p0_9), (I p0_10), (I p0_11), (I p0_12), (I p0_13), (I p0_14), (B p0_15), (I 0), (I 0), p0_18, p0_19, p0_20, p0_21, p0_22, p0_23, (I p0_24), (I p0_25), (.float .f64 p0_26), (.float .f64 p0_27), (I p0_28), (I p0_29), (I p0_30), (I p0_31), (I p0_32), (I p0_33), p0_34, p0_35] 9 (Array.toList (Value.cells u_66))))) fun u_67 =>
 chk (List.length (Array.toList (Value.cells u_66)) == 3) (chk (List.all (Array.toList (Value.cells u_66)) one) (k_92 u_67))))
 (rdV Tryz.prog X0 w0 (binS .eql 3 (.tmp 7) (.const (I 9)) (I p0_0) (I 9)) fun x70_69 =>
 (condW x70_69
 ((k_92 (.agg #[(I p0_0), (I p0_1), (I p0_2), (I p0_3), (I p0_4), (I p0_5), (I 0), (I p0_7), (I p0_8), (I p0_9), (I p0_10), (I p0_11), (I p0_12), (I p0_13), (I p0_14), (B p0_15), (I 0), (I p0_17), p0_18, p0_19, p0_20, p0_21, p0_22, (.slice none 0 0), (I p0_24), (I p0_25), (.float .f64 p0_26), (.float .f64 p0_27), (I p0_28), (I p0_29), (I p0_30), (I p0_31), (I p0_32), (I p0_33), p0_34, p0_35])))
 (rdV Tryz.prog X0 w0 (binS .eql 3 (.tmp 7) (.const (I 10)) (I p0_0) (I 10)) fun x75_71 =>
 (condW x75_71
 (rdV Tryz.prog X0 w0 (bld 46 #[(I 0), (I 0), (.float .f64 0), (.float .f64 0), (I 0), (I 0), (I 0), (I 0), (I 0), (I 0), (.slice none 0 0), (.slice none 0 0)] #[]) fun x76_72 =>
 un (Value.agg (List.toArray (setL [(I p0_0), (I p0_1), (I p0_2), (I p0_3), (I p0_4), (I p0_5), (I 0), (I p0_7), (I p0_8), (I p0_9), (I p0_10), (I p0_11), (I p0_12), (I p0_13), (I p0_14), (B p0_15), (I p0_16), (I p0_17), p0_18, p0_19, p0_20, p0_21, p0_22, p0_23, (I p0_24), (I p0_25), (.float .f64 p0_26), (.float .f64 p0_27), (I p0_28), (I p0_29), (I p0_30), (I p0_31), (I p0_32), (I p0_33), p0_34, p0_35] 24 (Array.toList (Value.cells x76_72))))) fun u_73 =>
 chk (List.length (Array.toList (Value.cells x76_72)) == 12) (chk (List.all (Array.toList (Value.cells x76_72)) one) (k_92 u_73)))
 (rdV Tryz.prog X0 w0 (binS .eql 3 (.tmp 7) (.const (I 11)) (I p0_0) (I 11)) fun x80_75 =>
 (condW x80_75
 ((k_92 (.agg #[(I p0_0), (I p0_1), (I p0_2), (I p0_3), (I p0_4), (I p0_5), (I 0), (I p0_7), (I p0_8), (I p0_9), (I p0_10), (I p0_11), (I p0_12), (I p0_13), (I p0_14), (B p0_15), (I p0_16), (I p0_17), p0_18, p0_19, p0_20, p0_21, p0_22, p0_23, (I p0_24), (I p0_25), (.float .f64 p0_26), (.float .f64 p0_27), (I p0_28), (I p0_29), (I p0_30), (I p0_31), (I p0_32), (I p0_33), p0_34, p0_35])))
 (rdV Tryz.prog X0 w0 (binS .eql 3 (.tmp 7) (.const (I 12)) (I p0_0) (I 12)) fun x83_77 =>
 (condW x83_77
 (chk (isA u_4) (rdV Tryz.prog X0 w0 (bld 33 #[(I 0), (I 0), (I 0)] #[]) fun x86_78 =>
 un (subOf u_4 0 3) fun u_79 =>
 un (Value.agg (List.toArray (setL [(I p0_0), (I p0_1), (I p0_2), (I p0_3), (I p0_4), (I p0_5), (I p0_6), (I p0_7), (I p0_8), (I p0_9), (I p0_10), (I p0_11), (I p0_12), (I p0_13), (I p0_14), (B p0_15), (I p0_16), (I p0_17), p0_18, p0_19, p0_20, p0_21, p0_22, p0_23, (I p0_24), (I p0_25), (.float .f64 p0_26), (.float .f64 p0_27), (I p0_28), (I p0_29), (I p0_30), (I p0_31), (I p0_32), (I p0_33), p0_34, p0_35] 12 (Array.toList (Value.cells u_79))))) fun u_80 =>
 chk (List.length (Array.toList (Value.cells u_79)) == 3) (chk (List.all (Array.toList (Value.cells u_79)) one) (un (Value.agg (List.toArray (setL (Array.toList (Value.cells u_80)) 9 (Array.toList (Value.cells u_79))))) fun u_81 =>
 chk (List.length (Array.toList (Value.cells u_79)) == 3) (chk (List.all (Array.toList (Value.cells u_79)) one) (un (Value.agg (List.toArray (setL (Array.toList (Value.cells u_81)) 3 (Array.toList (Value.cells x86_78))))) fun u_82 =>
 chk (List.length (Array.toList (Value.cells x86_78)) == 3) (chk (List.all (Array.toList (Value.cells x86_78)) one) (un (Value.agg (List.toArray (setL (Array.toList (Value.cells u_82)) 20 [(.slice none 0 0)]))) fun u_83 =>
 (k_92 u_83)))))))))
 (rdV Tryz.prog X0 w0 (binS .eql 3 (.tmp 7) (.const (I 13)) (I p0_0) (I 13)) fun x92_85 =>
 (condW x92_85
 ((k_92 (.agg #[(I p0_0), (I p0_1), (I p0_2), (I p0_3), (I p0_4), (I p0_5), (I p0_6), (I p0_7), (I p0_8), (I p0_9), (I p0_10), (I p0_11), (I p0_12), (I p0_13), (I p0_14), (B p0_15), (I p0_16), (I p0_17), p0_18, p0_19, p0_20, p0_21, p0_22, p0_23, (I p0_24), (I p0_25), (.float .f64 p0_26), (.float .f64 p0_27), (I p0_28), (I p0_29), (I p0_30), (I p0_31), (I p0_32), (I p0_33), p0_34, p0_35])))
 (rdV Tryz.prog X0 w0 (binS .eql 3 (.tmp 7) (.const (I 14)) (I p0_0) (I 14)) fun x94_87 =>
 (condW x94_87
 (chk (isA u_4) (un (subOf u_4 0 3) fun u_88 =>
 un (Value.agg (List.toArray (setL [(I p0_0), (I p0_1), (I p0_2), (I p0_3), (I p0_4), (I p0_5), (I p0_6), (I p0_7), (I p0_8), (I p0_9), (I p0_10), (I p0_11), (I p0_12), (I p0_13), (I p0_14), (B p0_15), (I p0_16), (I p0_17), p0_18, p0_19, p0_20, p0_21, p0_22, p0_23, (I p0_24), (I p0_25), (.float .f64 p0_26), (.float .f64 p0_27), (I p0_28), (I p0_29), (I p0_30), (I p0_31), (I p0_32), (I p0_33), p0_34, p0_35] 9 (Array.toList (Value.cells u_88))))) fun u_89 =>
 chk (List.length (Array.toList (Value.cells u_88)) == 3) (chk (List.all (Array.toList (Value.cells u_88)) one) (k_92 u_89))))
 (chk (List.all [(I p0_0), (I p0_1), (I p0_2), (I p0_3), (I p0_4), (I p0_5), (I p0_6), (I p0_7), (I p0_8), (I p0_9), (I p0_10), (I p0_11), (I p0_12), (I p0_13), (I p0_14), (B p0_15), (I p0_16), (I p0_17), p0_18, p0_19, p0_20, p0_21, p0_22, p0_23, (I p0_24), (I p0_25), (.float .f64 p0_26), (.float .f64 p0_27), (I p0_28), (I p0_29), (I p0_30), (I p0_31), (I p0_32), (I p0_33), p0_34, p0_35] one) ((fin R X0 w0 (Value.tuple #[(.agg #[(I p0_0), (I p0_1), (I p0_2), (I p0_3), (I p0_4), (I p0_5), (I p0_6), (I p0_7), (I p0_8), (I p0_9), (I p0_10), (I p0_11), (I p0_12), (I p0_13), (I p0_14), (B p0_15), (I p0_16), (I p0_17), p0_18, p0_19, p0_20, p0_21, p0_22, p0_23, (I p0_24), (I p0_25), (.float .f64 p0_26), (.float .f64 p0_27), (I p0_28), (I p0_29), (I p0_30), (I p0_31), (I p0_32), (I p0_33), p0_34, p0_35]), (B false)]))))))))))))))))))) fun k_60 =>
 rdV Tryz.prog X0 w0 (binS .eql 3 (.tmp 7) (.const (I 6)) (I p0_0) (I 6)) fun x57_57 =>
 (condW x57_57
 (k_60 x57_57)
 (rdV Tryz.prog X0 w0 (binS .eql 3 (.tmp 7) (.const (I 7)) (I p0_0) (I 7)) fun x58_58 =>
 (k_60 x58_58))))))))))))))))))))
theorem ok_msgs_without {R : Ending → World → Prop} {w0 : World} {p0_0 p0_1 p0_2 p0_3 p0_4 p0_5 p0_6 p0_7 p0_8 p0_9 p0_10 p0_11 p0_12 p0_13 p0_14 : Int} {p0_15 : Bool} {p0_16 p0_17 : Int} {p0_18 p0_19 p0_20 p0_21 p0_22 p0_23 : Value} {p0_24 p0_25 : Int} {p0_26 p0_27 : Nat} {p0_28 p0_29 p0_30 p0_31 p0_32 p0_33 : Int} {p0_34 p0_35 : Value} (h : vc_msgs_without R w0 (old w0) p0_0 p0_1 p0_2 p0_3 p0_4 p0_5 p0_6 p0_7 p0_8 p0_9 p0_10 p0_11 p0_12 p0_13 p0_14 p0_15 p0_16 p0_17 p0_18 p0_19 p0_20 p0_21 p0_22 p0_23 p0_24 p0_25 p0_26 p0_27 p0_28 p0_29 p0_30 p0_31 p0_32 p0_33 p0_34 p0_35) : Calls Tryz.prog 99 #[(.agg #[(I p0_0), (I p0_1), (I p0_2), (I p0_3), (I p0_4), (I p0_5), (I p0_6), (I p0_7), (I p0_8), (I p0_9), (I p0_10), (I p0_11), (I p0_12), (I p0_13), (I p0_14), (B p0_15), (I p0_16), (I p0_17), p0_18, p0_19, p0_20, p0_21, p0_22, p0_23, (I p0_24), (I p0_25), (.float .f64 p0_26), (.float .f64 p0_27), (I p0_28), (I p0_29), (I p0_30), (I p0_31), (I p0_32), (I p0_33), p0_34, p0_35])] w0 R :=
  calls_of_vc (pl := pl_msgs_without) Tryz.func99 (by kernel_rfl) (by kernel_rfl) h
noncomputable def pl_msgs_Node : Plan := ⟨21, [], [], [0, 2], [5, 6, 7, 8, 9, 10, 11, 13, 14, 15, 17, 18, 19], []⟩
def vc_msgs_Node (R : Ending → World → Prop) (w0 : World) (X0 : XS) (p0 : Int) : Prop :=
 (eC Tryz.prog R X0 w0 true 163 #[(I p0)] fun x4_3 w_4 X_5 =>
 un (gSel x4_3 false (I p0)) fun u_6 =>
 grdW Tryz.prog X_5 w_4 x4_3 false (vS (binOp .gtr 3 u_6 (I 20))) fun x7_7 =>
 un (gSel x4_3 false x7_7) fun u_8 =>
 un (gSel u_8 true (I p0)) fun u_9 =>
 grdW Tryz.prog X_5 w_4 u_8 true (vS (binOp .leq 3 u_9 (I 22))) fun x10_10 =>
 grdW Tryz.prog X_5 w_4 x4_3 false (pickN u_8 x10_10 (B false)) fun x11_11 =>
 rdW Tryz.prog X_5 w_4 (pickN x4_3 (B true) x11_11) fun x12_12 =>
 un (gSel x12_12 false (I p0)) fun u_13 =>
 grdW Tryz.prog X_5 w_4 x12_12 false (vS (binS .eql 3 (.tmp 14) (.const (I 31)) u_13 (I 31))) fun x15_14 =>
 rdW Tryz.prog X_5 w_4 (pickN x12_12 (B true) x15_14) fun x16_15 =>
 un (gSel x16_15 false (I p0)) fun u_16 =>
 grdW Tryz.prog X_5 w_4 x16_15 false (vS (binS .eql 3 (.tmp 18) (.const (I 32)) u_16 (I 32))) fun x19_17 =>
 rdW Tryz.prog X_5 w_4 (pickN x16_15 (B true) x19_17) fun x20_18 =>
 (fin R X_5 w_4 x20_18))
theorem ok_msgs_Node {R : Ending → World → Prop} {w0 : World} {p0 : Int} (h : vc_msgs_Node R w0 (old w0) p0) : Calls Tryz.prog 100 #[(I p0)] w0 R :=
  calls_of_vc (pl := pl_msgs_Node) Tryz.func100 (by kernel_rfl) (by kernel_rfl) h
noncomputable def pl_msgs_zero : Plan := ⟨132, [(1, (Tryz.prog.cellsOf 48)), (3, (Tryz.prog.cellsOf 46))], [6, 8, 13, 18, 23, 28, 34, 40, 45, 50, 54, 55, 59, 60, 65, 66, 72, 73, 79, 85, 91, 97, 107, 110, 114, 118, 122, 126], [0, 2, 4, 5], [12, 14, 15, 17, 19, 20, 22, 24, 25, 27, 29, 30, 31, 33, 35, 36, 37, 39, 41, 42, 44, 46, 47, 49, 51, 52, 58, 61, 62, 64, 67, 68, 69, 71, 74, 75, 76, 78, 80, 81, 82, 84, 86, 87, 88, 90, 92, 93, 94, 96, 98, 99, 100, 103, 104, 106, 108, 109, 111, 112, 113, 115, 116, 117, 119, 120, 121, 123, 124, 125, 127, 128, 129, 130], []⟩
def vc_msgs_zero (R : Ending → World → Prop) (w0 : World) (X0 : XS) (_p0_0 _p0_1 _p0_2 p0_3 p0_4 p0_5 p0_6 p0_7 p0_8 p0_9 p0_10 p0_11 p0_12 p0_13 p0_14 : Int) (p0_15 : Bool) (p0_16 p0_17 : Int) (p0_18 p0_19 p0_20 p0_21 p0_22 p0_23 : Value) (p0_24 p0_25 : Int) (p0_26 p0_27 : Nat) (p0_28 p0_29 p0_30 p0_31 p0_32 p0_33 : Int) (p0_34 p0_35 : Value) : Prop :=
 (chk (List.all [(I p0_24), (I p0_25), (.float .f64 p0_26), (.float .f64 p0_27), (I p0_28), (I p0_29), (I p0_30), (I p0_31), (I p0_32), (I p0_33), p0_34, p0_35] one) ((rdV Tryz.prog X0 w0 (bld 33 #[(I 0), (I 0), (I 0)] #[]) fun x10_4 =>
 rdV Tryz.prog X0 w0 (binS .eql 33 (.tmp 9) (.tmp 10) (.agg #[(I p0_3), (I p0_4), (I p0_5)]) x10_4) fun x11_5 =>
 un (gSel x11_5 true (I p0_6)) fun u_6 =>
 grdW Tryz.prog X0 w0 x11_5 true (vS (binS .eql 3 (.tmp 14) (.const (I 0)) u_6 (I 0))) fun x15_7 =>
 rdW Tryz.prog X0 w0 (pickN x11_5 x15_7 (B false)) fun x16_8 =>
 un (gSel x16_8 true (I p0_7)) fun u_9 =>
 grdW Tryz.prog X0 w0 x16_8 true (vS (binS .eql 3 (.tmp 19) (.const (I 0)) u_9 (I 0))) fun x20_10 =>
 rdW Tryz.prog X0 w0 (pickN x16_8 x20_10 (B false)) fun x21_11 =>
 un (gSel x21_11 true (I p0_8)) fun u_12 =>
 grdW Tryz.prog X0 w0 x21_11 true (vS (binS .eql 29 (.tmp 24) (.const (I 0)) u_12 (I 0))) fun x25_13 =>
 rdW Tryz.prog X0 w0 (pickN x21_11 x25_13 (B false)) fun x26_14 =>
 un (gSel x26_14 true (.agg #[(I p0_9), (I p0_10), (I p0_11)])) fun u_15 =>
 grdW Tryz.prog X0 w0 x26_14 true (vS (bld 35 #[(I 0), (I 0), (I 0)] #[])) fun x30_16 =>
 grdW Tryz.prog X0 w0 x26_14 true (vS (binS .eql 35 (.tmp 29) (.tmp 30) u_15 x30_16)) fun x31_17 =>
 rdW Tryz.prog X0 w0 (pickN x26_14 x31_17 (B false)) fun x32_18 =>
 un (gSel x32_18 true (.agg #[(I p0_12), (I p0_13), (I p0_14)])) fun u_19 =>
 grdW Tryz.prog X0 w0 x32_18 true (vS (bld 35 #[(I 0), (I 0), (I 0)] #[])) fun x36_20 =>
 grdW Tryz.prog X0 w0 x32_18 true (vS (binS .eql 35 (.tmp 35) (.tmp 36) u_19 x36_20)) fun x37_21 =>
 rdW Tryz.prog X0 w0 (pickN x32_18 x37_21 (B false)) fun x38_22 =>
 un (gSel x38_22 true (B p0_15)) fun u_23 =>
 grdW Tryz.prog X0 w0 x38_22 true (vS (Op.unary UnOp.not u_23)) fun x42_24 =>
 rdW Tryz.prog X0 w0 (pickN x38_22 x42_24 (B false)) fun x43_25 =>
 un (gSel x43_25 true (I p0_16)) fun u_26 =>
 grdW Tryz.prog X0 w0 x43_25 true (vS (binS .eql 3 (.tmp 46) (.const (I 0)) u_26 (I 0))) fun x47_27 =>
 rdW Tryz.prog X0 w0 (pickN x43_25 x47_27 (B false)) fun x48_28 =>
 un (gSel x48_28 true (I p0_17)) fun u_29 =>
 grdW Tryz.prog X0 w0 x48_28 true (vS (binS .eql 3 (.tmp 51) (.const (I 0)) u_29 (I 0))) fun x52_30 =>
 rdW Tryz.prog X0 w0 (pickN x48_28 x52_30 (B false)) fun x53_31 =>
 (rdV Tryz.prog X0 w0 (binS .eql 3 (.tmp 56) (.const (I 0)) (I p0_24) (I 0)) fun x57_33 =>
 un (gSel x57_33 true (I p0_25)) fun u_34 =>
 grdW Tryz.prog X0 w0 x57_33 true (vS (binS .eql 3 (.tmp 61) (.const (I 0)) u_34 (I 0))) fun x62_35 =>
 rdW Tryz.prog X0 w0 (pickN x57_33 x62_35 (B false)) fun x63_36 =>
 un (gSel x63_36 true (.float .f64 p0_26)) fun u_37 =>
 jn (fun (x68_38 : Value) (w_39 : World) (X_40 : XS) =>
 grdW Tryz.prog X_40 w_39 x63_36 true (vS (binS .eql 196 (.tmp 68) (.const (Value.int IntKind.u64 0)) x68_38 (Value.int IntKind.u64 0))) fun x69_42 =>
 rdW Tryz.prog X_40 w_39 (pickN x63_36 x69_42 (B false)) fun x70_43 =>
 un (gSel x70_43 true (.float .f64 p0_27)) fun u_44 =>
 jn (fun (x75_45 : Value) (w_46 : World) (X_47 : XS) =>
 grdW Tryz.prog X_47 w_46 x70_43 true (vS (binS .eql 196 (.tmp 75) (.const (Value.int IntKind.u64 0)) x75_45 (Value.int IntKind.u64 0))) fun x76_49 =>
 rdW Tryz.prog X_47 w_46 (pickN x70_43 x76_49 (B false)) fun x77_50 =>
 un (gSel x77_50 true (.agg #[(I p0_28), (I p0_29), (I p0_30)])) fun u_51 =>
 grdW Tryz.prog X_47 w_46 x77_50 true (vS (bld 35 #[(I 0), (I 0), (I 0)] #[])) fun x81_52 =>
 grdW Tryz.prog X_47 w_46 x77_50 true (vS (binS .eql 35 (.tmp 80) (.tmp 81) u_51 x81_52)) fun x82_53 =>
 rdW Tryz.prog X_47 w_46 (pickN x77_50 x82_53 (B false)) fun x83_54 =>
 un (gSel x83_54 true (.agg #[(I p0_31), (I p0_32), (I p0_33)])) fun u_55 =>
 grdW Tryz.prog X_47 w_46 x83_54 true (vS (bld 35 #[(I 0), (I 0), (I 0)] #[])) fun x87_56 =>
 grdW Tryz.prog X_47 w_46 x83_54 true (vS (binS .eql 35 (.tmp 86) (.tmp 87) u_55 x87_56)) fun x88_57 =>
 rdW Tryz.prog X_47 w_46 (pickN x83_54 x88_57 (B false)) fun x89_58 =>
 un (gSel x89_58 true p0_34) fun u_59 =>
 grdW Tryz.prog X_47 w_46 x89_58 true (vS (lnS 43 3 u_59)) fun x93_60 =>
 grdW Tryz.prog X_47 w_46 x89_58 true (vS (binS .eql 3 (.tmp 93) (.const (I 0)) x93_60 (I 0))) fun x94_61 =>
 rdW Tryz.prog X_47 w_46 (pickN x89_58 x94_61 (B false)) fun x95_62 =>
 un (gSel x95_62 true p0_35) fun u_63 =>
 grdW Tryz.prog X_47 w_46 x95_62 true (vS (lnS 44 3 u_63)) fun x99_64 =>
 grdW Tryz.prog X_47 w_46 x95_62 true (vS (binS .eql 3 (.tmp 99) (.const (I 0)) x99_64 (I 0))) fun x100_65 =>
 rdW Tryz.prog X_47 w_46 (pickN x95_62 x100_65 (B false)) fun x101_66 =>
 (un (gSel x53_31 true x101_66) fun u_68 =>
 rdW Tryz.prog X_47 w_46 (pickN x53_31 u_68 (B false)) fun x105_69 =>
 un (gSel x105_69 true p0_18) fun u_70 =>
 grdW Tryz.prog X_47 w_46 x105_69 true (vS (lnS 36 3 u_70)) fun x109_71 =>
 un (gSel x105_69 true p0_19) fun u_72 =>
 grdW Tryz.prog X_47 w_46 x105_69 true (vS (lnS 37 3 u_72)) fun x112_73 =>
 grdW Tryz.prog X_47 w_46 x105_69 true (vS (binOp .add 3 x109_71 x112_73)) fun x113_74 =>
 un (gSel x105_69 true p0_20) fun u_75 =>
 grdW Tryz.prog X_47 w_46 x105_69 true (vS (lnS 23 3 u_75)) fun x116_76 =>
 grdW Tryz.prog X_47 w_46 x105_69 true (vS (binOp .add 3 x113_74 x116_76)) fun x117_77 =>
 un (gSel x105_69 true p0_21) fun u_78 =>
 grdW Tryz.prog X_47 w_46 x105_69 true (vS (lnS 22 3 u_78)) fun x120_79 =>
 grdW Tryz.prog X_47 w_46 x105_69 true (vS (binOp .add 3 x117_77 x120_79)) fun x121_80 =>
 un (gSel x105_69 true p0_22) fun u_81 =>
 grdW Tryz.prog X_47 w_46 x105_69 true (vS (lnS 38 3 u_81)) fun x124_82 =>
 grdW Tryz.prog X_47 w_46 x105_69 true (vS (binOp .add 3 x121_80 x124_82)) fun x125_83 =>
 un (gSel x105_69 true p0_23) fun u_84 =>
 grdW Tryz.prog X_47 w_46 x105_69 true (vS (lnS 39 3 u_84)) fun x128_85 =>
 grdW Tryz.prog X_47 w_46 x105_69 true (vS (binOp .add 3 x125_83 x128_85)) fun x129_86 =>
 grdW Tryz.prog X_47 w_46 x105_69 true (vS (binS .eql 3 (.tmp 129) (.const (I 0)) x129_86 (I 0))) fun x130_87 =>
 rdW Tryz.prog X_47 w_46 (pickN x105_69 x130_87 (B false)) fun x131_88 =>
 (fin R X_47 w_46 x131_88))) fun k_48 =>
 (gE x70_43 true (eC Tryz.prog R X_40 w_39 true 111 #[u_44] k_48) (k_48 undef w_39 X_40))) fun k_41 =>
 (gE x63_36 true (eC Tryz.prog R X0 w0 true 111 #[u_37] k_41) (k_41 undef w0 X0))))))
theorem ok_msgs_zero {R : Ending → World → Prop} {w0 : World} {p0_0 p0_1 p0_2 p0_3 p0_4 p0_5 p0_6 p0_7 p0_8 p0_9 p0_10 p0_11 p0_12 p0_13 p0_14 : Int} {p0_15 : Bool} {p0_16 p0_17 : Int} {p0_18 p0_19 p0_20 p0_21 p0_22 p0_23 : Value} {p0_24 p0_25 : Int} {p0_26 p0_27 : Nat} {p0_28 p0_29 p0_30 p0_31 p0_32 p0_33 : Int} {p0_34 p0_35 : Value} (h : vc_msgs_zero R w0 (old w0) p0_0 p0_1 p0_2 p0_3 p0_4 p0_5 p0_6 p0_7 p0_8 p0_9 p0_10 p0_11 p0_12 p0_13 p0_14 p0_15 p0_16 p0_17 p0_18 p0_19 p0_20 p0_21 p0_22 p0_23 p0_24 p0_25 p0_26 p0_27 p0_28 p0_29 p0_30 p0_31 p0_32 p0_33 p0_34 p0_35) : Calls Tryz.prog 101 #[(.agg #[(I p0_0), (I p0_1), (I p0_2), (I p0_3), (I p0_4), (I p0_5), (I p0_6), (I p0_7), (I p0_8), (I p0_9), (I p0_10), (I p0_11), (I p0_12), (I p0_13), (I p0_14), (B p0_15), (I p0_16), (I p0_17), p0_18, p0_19, p0_20, p0_21, p0_22, p0_23, (I p0_24), (I p0_25), (.float .f64 p0_26), (.float .f64 p0_27), (I p0_28), (I p0_29), (I p0_30), (I p0_31), (I p0_32), (I p0_33), p0_34, p0_35])] w0 R :=
  calls_of_vc (pl := pl_msgs_zero) Tryz.func101 (by kernel_rfl) (by kernel_rfl) h
noncomputable def pl_msgs_fields : Plan := ⟨95, [(1, (Tryz.prog.cellsOf 48))], [3, 17, 21, 26, 31, 36, 42, 46, 51, 57, 61, 66, 67, 68, 70, 76, 81, 83, 85, 87, 92], [0, 2, 4, 5, 15, 40, 55, 74, 79, 90], [20, 22, 23, 25, 27, 28, 30, 32, 33, 35, 37, 38, 45, 47, 48, 50, 52, 53, 60, 62, 63, 65, 69, 71, 72], []⟩
def vc_msgs_fields (R : Ending → World → Prop) (w0 : World) (X0 : XS) (p0_0 p0_1 p0_2 p0_3 p0_4 p0_5 p0_6 p0_7 p0_8 p0_9 p0_10 p0_11 p0_12 p0_13 p0_14 : Int) (p0_15 : Bool) (p0_16 p0_17 : Int) (p0_18 p0_19 p0_20 p0_21 p0_22 p0_23 : Value) (p0_24 p0_25 : Int) (p0_26 p0_27 : Nat) (p0_28 p0_29 p0_30 p0_31 p0_32 p0_33 : Int) (p0_34 p0_35 : Value) : Prop :=
 (((jn (fun (y5_19 : Value) =>
 condW y5_19
 (eC Tryz.prog R X0 w0 true 164 #[(.agg #[(I p0_0), (I p0_1), (I p0_2), (I p0_3), (I p0_4), (I p0_5), (I p0_6), (I p0_7), (I p0_8), (I p0_9), (I p0_10), (I p0_11), (I p0_12), (I p0_13), (I p0_14), (B p0_15), (I p0_16), (I p0_17), p0_18, p0_19, p0_20, p0_21, p0_22, p0_23, (I p0_24), (I p0_25), (.float .f64 p0_26), (.float .f64 p0_27), (I p0_28), (I p0_29), (I p0_30), (I p0_31), (I p0_32), (I p0_33), p0_34, p0_35])] fun x14_22 w_23 X_24 =>
 (fin R X_24 w_23 x14_22))
 (rdV Tryz.prog X0 w0 (binS .eql 3 (.tmp 4) (.const (I 8)) (I p0_0) (I 8)) fun x16_26 =>
 (condW x16_26
 (eC Tryz.prog R X0 w0 true 163 #[(I p0_6)] fun x19_28 w_29 X_30 =>
 un (gSel x19_28 true (I p0_16)) fun u_31 =>
 grdW Tryz.prog X_30 w_29 x19_28 true (vS (binOp .geq 3 u_31 (I 1))) fun x23_32 =>
 rdW Tryz.prog X_30 w_29 (pickN x19_28 x23_32 (B false)) fun x24_33 =>
 un (gSel x24_33 true (I p0_17)) fun u_34 =>
 grdW Tryz.prog X_30 w_29 x24_33 true (vS (binOp .geq 3 u_34 (I 0))) fun x28_35 =>
 rdW Tryz.prog X_30 w_29 (pickN x24_33 x28_35 (B false)) fun x29_36 =>
 un (gSel x29_36 true (I p0_17)) fun u_37 =>
 grdW Tryz.prog X_30 w_29 x29_36 true (vS (binOp .leq 3 u_37 (I 8))) fun x33_38 =>
 rdW Tryz.prog X_30 w_29 (pickN x29_36 x33_38 (B false)) fun x34_39 =>
 un (gSel x34_39 true (.agg #[(I p0_9), (I p0_10), (I p0_11)])) fun u_40 =>
 jn (fun (x38_41 : Value) (w_42 : World) (X_43 : XS) =>
 rdW Tryz.prog X_43 w_42 (pickN x34_39 x38_41 (B false)) fun x39_45 =>
 (fin R X_43 w_42 x39_45)) fun k_44 =>
 (gE x34_39 true (eC Tryz.prog R X_30 w_29 true 165 #[u_40] k_44) (k_44 undef w_29 X_30)))
 (rdV Tryz.prog X0 w0 (binS .eql 3 (.tmp 4) (.const (I 9)) (I p0_0) (I 9)) fun x41_47 =>
 (condW x41_47
 (eC Tryz.prog R X0 w0 true 163 #[(I p0_6)] fun x44_49 w_50 X_51 =>
 un (gSel x44_49 true (I p0_16)) fun u_52 =>
 grdW Tryz.prog X_51 w_50 x44_49 true (vS (binOp .geq 3 u_52 (I 1))) fun x48_53 =>
 rdW Tryz.prog X_51 w_50 (pickN x44_49 x48_53 (B false)) fun x49_54 =>
 un (gSel x49_54 true p0_23) fun u_55 =>
 jn (fun (x53_56 : Value) (w_57 : World) (X_58 : XS) =>
 rdW Tryz.prog X_58 w_57 (pickN x49_54 x53_56 (B false)) fun x54_60 =>
 (fin R X_58 w_57 x54_60)) fun k_59 =>
 (gE x49_54 true (eC Tryz.prog R X_51 w_50 true 166 #[u_55] k_59) (k_59 undef w_50 X_51)))
 (rdV Tryz.prog X0 w0 (binS .eql 3 (.tmp 4) (.const (I 10)) (I p0_0) (I 10)) fun x56_62 =>
 (condW x56_62
 (eC Tryz.prog R X0 w0 true 163 #[(I p0_6)] fun x59_64 w_65 X_66 =>
 un (gSel x59_64 true (.agg #[(I p0_24), (I p0_25), (.float .f64 p0_26), (.float .f64 p0_27), (I p0_28), (I p0_29), (I p0_30), (I p0_31), (I p0_32), (I p0_33), p0_34, p0_35])) fun u_67 =>
 jn (fun (x63_68 : Value) (w_69 : World) (X_70 : XS) =>
 rdW Tryz.prog X_70 w_69 (pickN x59_64 x63_68 (B false)) fun x64_72 =>
 un (gSel x64_72 true (I p0_24)) fun u_73 =>
 un (gSel x64_72 true (I p0_6)) fun u_74 =>
 grdW Tryz.prog X_70 w_69 x64_72 true (vS (binS .eql 3 (.tmp 69) (.tmp 71) u_73 u_74)) fun x72_75 =>
 rdW Tryz.prog X_70 w_69 (pickN x64_72 x72_75 (B false)) fun x73_76 =>
 (fin R X_70 w_69 x73_76)) fun k_71 =>
 (gE x59_64 true (eC Tryz.prog R X_66 w_65 true 167 #[u_67] k_71) (k_71 undef w_65 X_66)))
 (rdV Tryz.prog X0 w0 (binS .eql 3 (.tmp 4) (.const (I 11)) (I p0_0) (I 11)) fun x75_78 =>
 (condW x75_78
 (eC Tryz.prog R X0 w0 true 163 #[(I p0_6)] fun x78_80 w_81 X_82 =>
 (fin R X_82 w_81 x78_80))
 (rdV Tryz.prog X0 w0 (binS .eql 3 (.tmp 4) (.const (I 12)) (I p0_0) (I 12)) fun x80_84 =>
 (condW x80_84
 (eC Tryz.prog R X0 w0 true 168 #[(.agg #[(I p0_12), (I p0_13), (I p0_14)]), (.agg #[(I p0_9), (I p0_10), (I p0_11)]), (.agg #[(I p0_3), (I p0_4), (I p0_5)]), p0_20] fun x89_86 w_87 X_88 =>
 (fin R X_88 w_87 x89_86))
 (rdV Tryz.prog X0 w0 (binS .eql 3 (.tmp 4) (.const (I 14)) (I p0_0) (I 14)) fun x91_90 =>
 (condW x91_90
 (eC Tryz.prog R X0 w0 true 165 #[(.agg #[(I p0_9), (I p0_10), (I p0_11)])] fun x94_92 w_93 X_94 =>
 (fin R X_94 w_93 x94_92))
 (fin R X0 w0 (B true))))))))))))))) fun k_20 =>
 rdV Tryz.prog X0 w0 (binS .eql 3 (.tmp 4) (.const (I 1)) (I p0_0) (I 1)) fun x6_7 =>
 (condW x6_7
 (k_20 x6_7)
 (rdV Tryz.prog X0 w0 (binS .eql 3 (.tmp 4) (.const (I 2)) (I p0_0) (I 2)) fun x7_9 =>
 (condW x7_9
 (k_20 x7_9)
 (rdV Tryz.prog X0 w0 (binS .eql 3 (.tmp 4) (.const (I 3)) (I p0_0) (I 3)) fun x8_11 =>
 (condW x8_11
 (k_20 x8_11)
 (rdV Tryz.prog X0 w0 (binS .eql 3 (.tmp 4) (.const (I 4)) (I p0_0) (I 4)) fun x9_13 =>
 (condW x9_13
 (k_20 x9_13)
 (rdV Tryz.prog X0 w0 (binS .eql 3 (.tmp 4) (.const (I 5)) (I p0_0) (I 5)) fun x10_15 =>
 (condW x10_15
 (k_20 x10_15)
 (rdV Tryz.prog X0 w0 (binS .eql 3 (.tmp 4) (.const (I 6)) (I p0_0) (I 6)) fun x11_17 =>
 (condW x11_17
 (k_20 x11_17)
 (rdV Tryz.prog X0 w0 (binS .eql 3 (.tmp 4) (.const (I 7)) (I p0_0) (I 7)) fun x12_18 =>
 (k_20 x12_18))))))))))))))))
theorem ok_msgs_fields {R : Ending → World → Prop} {w0 : World} {p0_0 p0_1 p0_2 p0_3 p0_4 p0_5 p0_6 p0_7 p0_8 p0_9 p0_10 p0_11 p0_12 p0_13 p0_14 : Int} {p0_15 : Bool} {p0_16 p0_17 : Int} {p0_18 p0_19 p0_20 p0_21 p0_22 p0_23 : Value} {p0_24 p0_25 : Int} {p0_26 p0_27 : Nat} {p0_28 p0_29 p0_30 p0_31 p0_32 p0_33 : Int} {p0_34 p0_35 : Value} (h : vc_msgs_fields R w0 (old w0) p0_0 p0_1 p0_2 p0_3 p0_4 p0_5 p0_6 p0_7 p0_8 p0_9 p0_10 p0_11 p0_12 p0_13 p0_14 p0_15 p0_16 p0_17 p0_18 p0_19 p0_20 p0_21 p0_22 p0_23 p0_24 p0_25 p0_26 p0_27 p0_28 p0_29 p0_30 p0_31 p0_32 p0_33 p0_34 p0_35) : Calls Tryz.prog 102 #[(.agg #[(I p0_0), (I p0_1), (I p0_2), (I p0_3), (I p0_4), (I p0_5), (I p0_6), (I p0_7), (I p0_8), (I p0_9), (I p0_10), (I p0_11), (I p0_12), (I p0_13), (I p0_14), (B p0_15), (I p0_16), (I p0_17), p0_18, p0_19, p0_20, p0_21, p0_22, p0_23, (I p0_24), (I p0_25), (.float .f64 p0_26), (.float .f64 p0_27), (I p0_28), (I p0_29), (I p0_30), (I p0_31), (I p0_32), (I p0_33), p0_34, p0_35])] w0 R :=
  calls_of_vc (pl := pl_msgs_fields) Tryz.func102 (by kernel_rfl) (by kernel_rfl) h
noncomputable def pl_wal_Log_Append : Plan := ⟨90, [], [], [0, 1, 4, 5, 6, 7, 8, 9, 10, 12, 15, 19, 31, 35, 41, 66], [], []⟩
def vc_wal_Log_Append (R : Ending → World → Prop) (w0 : World) (X0 : XS) (p0 p1 : Value) : Prop :=
 (eC Tryz.prog R X0 w0 true 43 #[p0] fun x14_3 w_4 X_5 =>
 (rdV Tryz.prog X_5 w_4 (lnS 95 3 p1) fun x17_9 =>
 rdV Tryz.prog X_5 w_4 (binOp .gtr 3 x17_9 (I 262144)) fun x18_10 =>
 (condW x18_10
 ((fin R X_5 w_4 (Value.tuple #[(I 0), (I 2)])))
 (rdV Tryz.prog X_5 w_4 (binOp .gtr 3 x14_3 (I 99999999)) fun x21_13 =>
 (condW x21_13
 ((fin R X_5 w_4 (Value.tuple #[(I 0), (I 1)])))
 ((((jn (fun (w_42 : World) (X_43 : XS) =>
 eC Tryz.prog R X_43 w_42 true 85 #[p0] fun x44_46 w_47 X_48 =>
 (eC Tryz.prog R X_48 w_47 true 169 #[p1] fun x47_50 w_51 X_52 =>
 rdV Tryz.prog X_52 w_51 (Instr.extract x47_50 0) fun x48_53 =>
 rdV Tryz.prog X_52 w_51 (Instr.extract x47_50 1) fun _ =>
 (rdW Tryz.prog X_52 w_51 (nilN p0) fun x51_57 =>
 rdV Tryz.prog X_52 w_51 (fld 158 0 0 1 x51_57) fun x52_58 =>
 rdV Tryz.prog X_52 w_51 (ld1 26 x52_58) fun x53_59 =>
 rdW Tryz.prog X_52 w_51 (nilN p0) fun x55_60 =>
 rdV Tryz.prog X_52 w_51 (fld 158 1 1 1 x55_60) fun x56_61 =>
 rdV Tryz.prog X_52 w_51 (ld1 9 x56_61) fun x57_62 =>
 rdW Tryz.prog X_52 w_51 (nilN x44_46) fun x59_63 =>
 rdV Tryz.prog X_52 w_51 (fld 163 0 0 1 x59_63) fun x60_64 =>
 rdV Tryz.prog X_52 w_51 (ld1 3 x60_64) fun x61_65 =>
 eC Tryz.prog R X_52 w_51 false 106 #[x57_62, x61_65] fun x62_66 w_67 X_68 =>
 eC Tryz.prog R X_68 w_67 true 170 #[x53_59, x62_66, x48_53] fun x64_69 w_70 X_71 =>
 (rdV Tryz.prog X_71 w_70 (binS .neq 29 (.tmp 65) (.const (I 0)) x64_69 (I 0)) fun x66_73 =>
 (condW x66_73
 ((fin R X_71 w_70 (Value.tuple #[(I 0), x64_69])))
 ((rdW Tryz.prog X_71 w_70 (nilN x44_46) fun x70_76 =>
 rdV Tryz.prog X_71 w_70 (fld 163 1 1 1 x70_76) fun x71_77 =>
 rdV Tryz.prog X_71 w_70 (ld1 161 x71_77) fun x72_78 =>
 eV Tryz.prog R X_71 w_70 false (bsS 95 5 1 0 #[]) fun x73_79 w_80 X_81 =>
 eV Tryz.prog R X_81 w_80 false (apS 95 5 1 1 95 x73_79 p1) fun x75_82 w_83 X_84 =>
 eV Tryz.prog R X_84 w_83 false (bsS 161 95 1 1 #[(0, x75_82)]) fun x76_85 w_86 X_87 =>
 eV Tryz.prog R X_87 w_86 true (apS 161 95 1 24 161 x72_78 x76_85) fun x77_88 w_89 X_90 =>
 rdW Tryz.prog X_90 w_89 (nilN x44_46) fun x78_91 =>
 rdV Tryz.prog X_90 w_89 (fld 163 1 1 1 x78_91) fun x79_92 =>
 eU Tryz.prog R X_90 w_89 true (st1 161 1 x79_92 x77_88) fun _ w_93 X_94 =>
 (rdW Tryz.prog X_94 w_93 (nilN x44_46) fun x81_96 =>
 rdV Tryz.prog X_94 w_93 (fld 163 2 2 1 x81_96) fun x82_97 =>
 rdV Tryz.prog X_94 w_93 (ld1 3 x82_97) fun x83_98 =>
 rdV Tryz.prog X_94 w_93 (lnS 95 3 x48_53) fun x85_99 =>
 rdV Tryz.prog X_94 w_93 (binOp .add 3 x83_98 x85_99) fun x86_100 =>
 rdW Tryz.prog X_94 w_93 (nilN x44_46) fun x87_101 =>
 rdV Tryz.prog X_94 w_93 (fld 163 2 2 1 x87_101) fun x88_102 =>
 eU Tryz.prog R X_94 w_93 true (st1 3 1 x88_102 x86_100) fun _ w_103 X_104 =>
 ((fin R X_104 w_103 (Value.tuple #[x14_3, (I 0)]))))))))))) fun k_44 =>
 rdW Tryz.prog X_5 w_4 (nilN p0) fun x28_17 =>
 rdV Tryz.prog X_5 w_4 (fld 158 2 2 1 x28_17) fun x29_18 =>
 rdV Tryz.prog X_5 w_4 (ld1 3 x29_18) fun x30_19 =>
 eC Tryz.prog R X_5 w_4 false 85 #[p0] fun x23_20 w_21 X_22 =>
 rdW Tryz.prog X_22 w_21 (nilN x23_20) fun x24_23 =>
 rdV Tryz.prog X_22 w_21 (fld 163 2 2 1 x24_23) fun x25_24 =>
 rdV Tryz.prog X_22 w_21 (ld1 3 x25_24) fun x26_25 =>
 rdV Tryz.prog X_22 w_21 (binOp .geq 3 x26_25 x30_19) fun x31_26 =>
 (condW x31_26
 (eC Tryz.prog R X_22 w_21 true 104 #[p0] fun x33_29 w_30 X_31 =>
 (rdV Tryz.prog X_31 w_30 (binS .neq 29 (.tmp 34) (.const (I 0)) x33_29 (I 0)) fun x35_33 =>
 (condW x35_33
 ((fin R X_31 w_30 (Value.tuple #[(I 0), x33_29])))
 ((eC Tryz.prog R X_31 w_30 true 83 #[p0, x14_3] fun x39_36 w_37 X_38 =>
 (rdV Tryz.prog X_38 w_37 (binS .neq 29 (.tmp 40) (.const (I 0)) x39_36 (I 0)) fun x41_40 =>
 (condW x41_40
 ((fin R X_38 w_37 (Value.tuple #[(I 0), x39_36])))
 (k_44 w_37 X_38))))))))
 (k_44 w_21 X_22)))))))))))
theorem ok_wal_Log_Append {R : Ending → World → Prop} {w0 : World} {p0 p1 : Value} (h : vc_wal_Log_Append R w0 (old w0) p0 p1) : Calls Tryz.prog 103 #[p0, p1] w0 R :=
  calls_of_vc (pl := pl_wal_Log_Append) Tryz.func103 (by kernel_rfl) (by kernel_rfl) h
noncomputable def pl_wal_Log_Sync : Plan := ⟨28, [], [], [0, 2, 3, 20], [], []⟩
def vc_wal_Log_Sync (R : Ending → World → Prop) (w0 : World) (X0 : XS) (p0 : Value) : Prop :=
 (rdW Tryz.prog X0 w0 (nilN p0) fun x5_3 =>
 rdV Tryz.prog X0 w0 (fld 158 0 0 1 x5_3) fun x6_4 =>
 rdV Tryz.prog X0 w0 (ld1 26 x6_4) fun x7_5 =>
 rdW Tryz.prog X0 w0 (nilN p0) fun x9_6 =>
 rdV Tryz.prog X0 w0 (fld 158 1 1 1 x9_6) fun x10_7 =>
 rdV Tryz.prog X0 w0 (ld1 9 x10_7) fun x11_8 =>
 eC Tryz.prog R X0 w0 false 85 #[p0] fun x13_9 w_10 X_11 =>
 rdW Tryz.prog X_11 w_10 (nilN x13_9) fun x14_12 =>
 rdV Tryz.prog X_11 w_10 (fld 163 0 0 1 x14_12) fun x15_13 =>
 rdV Tryz.prog X_11 w_10 (ld1 3 x15_13) fun x16_14 =>
 eC Tryz.prog R X_11 w_10 false 106 #[x11_8, x16_14] fun x17_15 w_16 X_17 =>
 eC Tryz.prog R X_17 w_16 true 171 #[x7_5, x17_15] fun x18_18 w_19 X_20 =>
 ((jn (fun (w_32 : World) (X_33 : XS) =>
 (fin R X_33 w_32 x18_18)) fun k_34 =>
 rdV Tryz.prog X_20 w_19 (binS .eql 29 (.tmp 19) (.const (I 0)) x18_18 (I 0)) fun x20_23 =>
 (condW x20_23
 (eC Tryz.prog R X_20 w_19 true 43 #[p0] fun x23_24 w_25 X_26 =>
 rdV Tryz.prog X_26 w_25 (binOp .sub 3 x23_24 (I 1)) fun x24_27 =>
 rdW Tryz.prog X_26 w_25 (nilN p0) fun x25_28 =>
 rdV Tryz.prog X_26 w_25 (fld 158 4 4 1 x25_28) fun x26_29 =>
 eU Tryz.prog R X_26 w_25 true (st1 3 1 x26_29 x24_27) fun _ w_30 X_31 =>
 (k_34 w_30 X_31))
 (k_34 w_19 X_20)))))
theorem ok_wal_Log_Sync {R : Ending → World → Prop} {w0 : World} {p0 : Value} (h : vc_wal_Log_Sync R w0 (old w0) p0) : Calls Tryz.prog 104 #[p0] w0 R :=
  calls_of_vc (pl := pl_wal_Log_Sync) Tryz.func104 (by kernel_rfl) (by kernel_rfl) h
noncomputable def pl_disk_Disk_Remove : Plan := ⟨11, [], [], [0, 1, 2, 3, 4], [], []⟩
def vc_disk_Disk_Remove (R : Ending → World → Prop) (w0 : World) (X0 : XS) (p0 : Value) (p1 : ByteArray) : Prop :=
 eV Tryz.prog R X0 w0 true (Instr.box 26 p0) fun x2_2 w_3 X_4 =>
 eV Tryz.prog R X_4 w_3 true (Instr.box 9 (.string p1)) fun x3_5 w_6 X_7 =>
 (rdV Tryz.prog X_7 w_6 (ld1 26 x2_2) fun x5_9 =>
 rdV Tryz.prog X_7 w_6 (ld1 26 x2_2) fun x6_10 =>
 rdV Tryz.prog X_7 w_6 (ld1 9 x3_5) fun x7_11 =>
 rdV Tryz.prog X_7 w_6 (Instr.makeFunc (Fn.func 174) #[] #[x2_2, x3_5]) fun x9_12 =>
 eC Tryz.prog R X_7 w_6 false 173 #[x6_10, x7_11] fun x8_13 w_14 X_15 =>
 eC Tryz.prog R X_15 w_14 true 172 #[x5_9, x8_13, x9_12] fun x10_16 w_17 X_18 =>
 (fin R X_18 w_17 x10_16))
theorem ok_disk_Disk_Remove {R : Ending → World → Prop} {w0 : World} {p0 : Value} {p1 : ByteArray} (h : vc_disk_Disk_Remove R w0 (old w0) p0 p1) : Calls Tryz.prog 105 #[p0, (.string p1)] w0 R :=
  calls_of_vc (pl := pl_disk_Disk_Remove) Tryz.func105 (by kernel_rfl) (by kernel_rfl) h
noncomputable def pl_wal_file : Plan := ⟨29, [], [], [0, 1, 4, 5, 6, 10], [], [1, 6]⟩
def vc_wal_file (R : Ending → World → Prop) (w0 : World) (X0 : XS) (p0 : ByteArray) (p1 : Int) : Prop :=
 (eV Tryz.prog R X0 w0 true (bsS 95 5 1 8 #[(0, (Value.int IntKind.u8 48)), (1, (Value.int IntKind.u8 48)), (2, (Value.int IntKind.u8 48)), (3, (Value.int IntKind.u8 48)), (4, (Value.int IntKind.u8 48)), (5, (Value.int IntKind.u8 48)), (6, (Value.int IntKind.u8 48)), (7, (Value.int IntKind.u8 48))]) fun x7_3 w_4 X_5 =>
 eV Tryz.prog R X_5 w_4 true (convert 95 95 x7_3) fun x8_6 w_7 X_8 =>
 ((lp2 X_8 w_7 (I 7) (I p1) 6 1 fun J_12 n_13 v_17 v_18 w_15 X_16 =>
 rdV Tryz.prog X_16 w_15 (binOp .geq 3 v_17 (I 0)) fun x10_21 =>
 (condW x10_21
 ((rdV Tryz.prog X_16 w_15 (ixS 95 1 x8_6 v_17) fun x15_25 =>
 rdV Tryz.prog X_16 w_15 (ld1 5 x15_25) fun x16_26 =>
 rdV Tryz.prog X_16 w_15 (binOp .rem 3 v_18 (I 10)) fun x18_27 =>
 rdV Tryz.prog X_16 w_15 (cvI IntKind.u8 3 5 x18_27) fun x19_28 =>
 rdV Tryz.prog X_16 w_15 (binOp .add 5 x16_26 x19_28) fun x20_29 =>
 rdV Tryz.prog X_16 w_15 (ixS 95 1 x8_6 v_17) fun x21_30 =>
 eU Tryz.prog R X_16 w_15 true (st1 5 1 x21_30 x20_29) fun _ w_31 X_32 =>
 (rdV Tryz.prog X_32 w_31 (binOp .quo 3 v_18 (I 10)) fun x23_33 =>
 ((rdV Tryz.prog X_32 w_31 (binOp .sub 3 v_17 (I 1)) fun x12_34 =>
 nx2 J_12 n_13 x12_34 x23_33 w_31 X_32)))))
 (((rdV Tryz.prog X_16 w_15 (binOp .add 9 (.string p0) (.string { data := #[46] })) fun x25_36 =>
 eV Tryz.prog R X_16 w_15 true (convert 95 9 x8_6) fun x27_37 w_38 X_39 =>
 rdV Tryz.prog X_39 w_38 (binOp .add 9 x25_36 x27_37) fun x28_40 =>
 (fin R X_39 w_38 x28_40))))))))
theorem ok_wal_file {R : Ending → World → Prop} {w0 : World} {p0 : ByteArray} {p1 : Int} (h : vc_wal_file R w0 (old w0) p0 p1) : Calls Tryz.prog 106 #[(.string p0), (I p1)] w0 R :=
  calls_of_vc (pl := pl_wal_file) Tryz.func106 (by kernel_rfl) (by kernel_rfl) h
noncomputable def pl_disk_Disk_Create : Plan := ⟨29, [], [], [0, 1, 2, 3, 4, 5, 6, 10, 18], [], []⟩
def vc_disk_Disk_Create (R : Ending → World → Prop) (w0 : World) (X0 : XS) (p0 : Value) (p1 : ByteArray) : Prop :=
 eV Tryz.prog R X0 w0 true (Instr.box 26 p0) fun x2_2 w_3 X_4 =>
 eV Tryz.prog R X_4 w_3 true (Instr.box 9 (.string p1)) fun x3_5 w_6 X_7 =>
 (((jn (fun (y5_32 : Value) (w_33 : World) (X_34 : XS) =>
 (rdV Tryz.prog X_34 w_33 (ld1 26 x2_2) fun x25_37 =>
 rdV Tryz.prog X_34 w_33 (Instr.makeFunc (Fn.func 204) #[] #[x2_2, x3_5]) fun x27_38 =>
 eC Tryz.prog R X_34 w_33 true 172 #[x25_37, y5_32, x27_38] fun x28_39 w_40 X_41 =>
 (fin R X_41 w_40 x28_39))) fun k_35 =>
 rdV Tryz.prog X_7 w_6 (ld1 9 x3_5) fun x7_12 =>
 eC Tryz.prog R X_7 w_6 true 73 #[x7_12] fun x8_13 w_14 X_15 =>
 rdV Tryz.prog X_15 w_14 (Op.unary UnOp.not x8_13) fun x9_16 =>
 (condW x9_16
 (k_35 (I 10) w_14 X_15)
 (rdV Tryz.prog X_15 w_14 (ld1 26 x2_2) fun x11_18 =>
 rdW Tryz.prog X_15 w_14 (nilN x11_18) fun x12_19 =>
 rdV Tryz.prog X_15 w_14 (fld 106 0 0 1 x12_19) fun x13_20 =>
 rdV Tryz.prog X_15 w_14 (ld1 104 x13_20) fun x14_21 =>
 rdV Tryz.prog X_15 w_14 (ld1 9 x3_5) fun x15_22 =>
 rdV Tryz.prog X_15 w_14 (Instr.lookup 104 x14_21 x15_22 false) fun x16_23 =>
 rdV Tryz.prog X_15 w_14 (binS .neq 135 (.tmp 16) (.const (.pointer none)) x16_23 (.pointer none)) fun x17_24 =>
 (condW x17_24
 (k_35 (I 9) w_14 X_15)
 (rdV Tryz.prog X_15 w_14 (ld1 26 x2_2) fun x19_26 =>
 rdW Tryz.prog X_15 w_14 (nilN x19_26) fun x20_27 =>
 rdV Tryz.prog X_15 w_14 (fld 106 0 0 1 x20_27) fun x21_28 =>
 rdV Tryz.prog X_15 w_14 (ld1 104 x21_28) fun x22_29 =>
 rdV Tryz.prog X_15 w_14 (Builtin.len_ #[104] 3 #[x22_29]) fun x23_30 =>
 rdV Tryz.prog X_15 w_14 (binOp .geq 3 x23_30 (I 64)) fun x24_31 =>
 (condW x24_31
 (k_35 (I 3) w_14 X_15)
 (k_35 (I 0) w_14 X_15)))))))))
theorem ok_disk_Disk_Create {R : Ending → World → Prop} {w0 : World} {p0 : Value} {p1 : ByteArray} (h : vc_disk_Disk_Create R w0 (old w0) p0 p1) : Calls Tryz.prog 140 #[p0, (.string p1)] w0 R :=
  calls_of_vc (pl := pl_disk_Disk_Create) Tryz.func140 (by kernel_rfl) (by kernel_rfl) h
noncomputable def pl_coder_Coder_Int : Plan := ⟨26, [], [], [0, 1, 8], [], []⟩
def vc_coder_Coder_Int (R : Ending → World → Prop) (w0 : World) (X0 : XS) (p0 p1 : Value) : Prop :=
 rdW Tryz.prog X0 w0 (nilN p0) fun x5_3 =>
 rdV Tryz.prog X0 w0 (fld 175 0 0 1 x5_3) fun x6_4 =>
 rdV Tryz.prog X0 w0 (ld1 173 x6_4) fun x7_5 =>
 rdV Tryz.prog X0 w0 (binS .neq 173 (.tmp 7) (.const (.pointer none)) x7_5 (.pointer none)) fun x8_6 =>
 (condW x8_6
 (rdW Tryz.prog X0 w0 (nilN p0) fun x10_8 =>
 rdV Tryz.prog X0 w0 (fld 175 0 0 1 x10_8) fun x11_9 =>
 rdV Tryz.prog X0 w0 (ld1 173 x11_9) fun x12_10 =>
 rdW Tryz.prog X0 w0 (nilN p1) fun x14_11 =>
 rdV Tryz.prog X0 w0 (ld1 3 x14_11) fun x15_12 =>
 eC Tryz.prog R X0 w0 true 206 #[x12_10, x15_12] fun _ w_14 X_15 =>
 (fin R X_15 w_14 (Value.tuple #[])))
 ((rdW Tryz.prog X0 w0 (nilN p0) fun x19_17 =>
 rdV Tryz.prog X0 w0 (fld 175 1 1 1 x19_17) fun x20_18 =>
 rdV Tryz.prog X0 w0 (ld1 169 x20_18) fun x21_19 =>
 eC Tryz.prog R X0 w0 true 207 #[x21_19] fun x22_20 w_21 X_22 =>
 rdW Tryz.prog X_22 w_21 (nilN p1) fun x23_23 =>
 eU Tryz.prog R X_22 w_21 true (st1 3 1 x23_23 x22_20) fun _ w_24 X_25 =>
 (eC Tryz.prog R X_25 w_24 true 208 #[p0] fun _ w_27 X_28 =>
 fin R X_28 w_27 (Value.tuple #[])))))
theorem ok_coder_Coder_Int {R : Ending → World → Prop} {w0 : World} {p0 p1 : Value} (h : vc_coder_Coder_Int R w0 (old w0) p0 p1) : Calls Tryz.prog 142 #[p0, p1] w0 R :=
  calls_of_vc (pl := pl_coder_Coder_Int) Tryz.func142 (by kernel_rfl) (by kernel_rfl) h
noncomputable def pl_coder_Coder_Txn : Plan := ⟨19, [], [], [0, 1], [], []⟩
def vc_coder_Coder_Txn (R : Ending → World → Prop) (w0 : World) (X0 : XS) (p0 p1 : Value) : Prop :=
 rdW Tryz.prog X0 w0 (nilN p1) fun x6_2 =>
 rdV Tryz.prog X0 w0 (fld 33 0 0 1 x6_2) fun x7_3 =>
 eC Tryz.prog R X0 w0 true 142 #[p0, x7_3] fun _ w_5 X_6 =>
 (rdW Tryz.prog X_6 w_5 (nilN p1) fun x11_8 =>
 rdV Tryz.prog X_6 w_5 (fld 33 1 1 1 x11_8) fun x12_9 =>
 eC Tryz.prog R X_6 w_5 true 142 #[p0, x12_9] fun _ w_11 X_12 =>
 (rdW Tryz.prog X_12 w_11 (nilN p1) fun x16_13 =>
 rdV Tryz.prog X_12 w_11 (fld 33 2 2 1 x16_13) fun x17_14 =>
 eC Tryz.prog R X_12 w_11 true 142 #[p0, x17_14] fun _ w_16 X_17 =>
 fin R X_17 w_16 (Value.tuple #[])))
theorem ok_coder_Coder_Txn {R : Ending → World → Prop} {w0 : World} {p0 p1 : Value} (h : vc_coder_Coder_Txn R w0 (old w0) p0 p1) : Calls Tryz.prog 146 #[p0, p1] w0 R :=
  calls_of_vc (pl := pl_coder_Coder_Txn) Tryz.func146 (by kernel_rfl) (by kernel_rfl) h
noncomputable def pl_coder_Coder_Stamp : Plan := ⟨19, [], [], [0, 1], [], []⟩
def vc_coder_Coder_Stamp (R : Ending → World → Prop) (w0 : World) (X0 : XS) (p0 p1 : Value) : Prop :=
 rdW Tryz.prog X0 w0 (nilN p1) fun x6_2 =>
 rdV Tryz.prog X0 w0 (fld 35 0 0 1 x6_2) fun x7_3 =>
 eC Tryz.prog R X0 w0 true 142 #[p0, x7_3] fun _ w_5 X_6 =>
 (rdW Tryz.prog X_6 w_5 (nilN p1) fun x11_8 =>
 rdV Tryz.prog X_6 w_5 (fld 35 1 1 1 x11_8) fun x12_9 =>
 eC Tryz.prog R X_6 w_5 true 142 #[p0, x12_9] fun _ w_11 X_12 =>
 (rdW Tryz.prog X_12 w_11 (nilN p1) fun x16_13 =>
 rdV Tryz.prog X_12 w_11 (fld 35 2 2 1 x16_13) fun x17_14 =>
 eC Tryz.prog R X_12 w_11 true 142 #[p0, x17_14] fun _ w_16 X_17 =>
 fin R X_17 w_16 (Value.tuple #[])))
theorem ok_coder_Coder_Stamp {R : Ending → World → Prop} {w0 : World} {p0 p1 : Value} (h : vc_coder_Coder_Stamp R w0 (old w0) p0 p1) : Calls Tryz.prog 148 #[p0, p1] w0 R :=
  calls_of_vc (pl := pl_coder_Coder_Stamp) Tryz.func148 (by kernel_rfl) (by kernel_rfl) h
noncomputable def pl_coder_List_api_Write : Plan := ⟨63, [(8, (Tryz.prog.cellsOf 53))], [], [0, 1, 2, 6, 7, 17, 38, 39, 40, 46], [], [39]⟩
def vc_coder_List_api_Write (R : Ending → World → Prop) (w0 : World) (X0 : XS) (p0 p1 p2 : Value) : Prop :=
 rdW Tryz.prog X0 w0 (nilN p1) fun x10_2 =>
 rdV Tryz.prog X0 w0 (ld1 23 x10_2) fun x11_3 =>
 rdV Tryz.prog X0 w0 (lnS 23 3 x11_3) fun x12_4 =>
 ((jn (fun (y6_37 : Value) (w_38 : World) (X_39 : XS) =>
 (lp1 X_39 w_38 (I 0) 39 fun J_43 n_44 v_48 w_46 X_47 =>
 rdV Tryz.prog X_47 w_46 (binOp .lss 3 v_48 y6_37) fun x40_50 =>
 (condW x40_50
 ((((jn (fun (w_73 : World) (X_74 : XS) =>
 rdW Tryz.prog X_74 w_73 (nilN p1) fun x57_76 =>
 rdV Tryz.prog X_74 w_73 (ld1 23 x57_76) fun x58_77 =>
 rdV Tryz.prog X_74 w_73 (ixS 23 4 x58_77 v_48) fun x60_78 =>
 eF Tryz.prog R X_74 w_73 true p2 #[x60_78] fun _ w_80 X_81 =>
 ((rdV Tryz.prog X_81 w_80 (binOp .add 3 v_48 (I 1)) fun x62_82 =>
 nx1 J_43 n_44 x62_82 w_80 X_81))) fun k_75 =>
 rdW Tryz.prog X_47 w_46 (nilN p0) fun x43_57 =>
 rdV Tryz.prog X_47 w_46 (fld 175 0 0 1 x43_57) fun x44_58 =>
 rdV Tryz.prog X_47 w_46 (ld1 173 x44_58) fun x45_59 =>
 rdV Tryz.prog X_47 w_46 (binS .eql 173 (.tmp 45) (.const (.pointer none)) x45_59 (.pointer none)) fun x46_60 =>
 (condW x46_60
 ((rdW Tryz.prog X_47 w_46 (nilN p1) fun x49_62 =>
 rdV Tryz.prog X_47 w_46 (ld1 23 x49_62) fun x50_63 =>
 eV Tryz.prog R X_47 w_46 false (bsS 23 53 4 1 #[(0, (.agg #[(.string { data := #[] }), (I 0), (.float .f64 0), (.string { data := #[] })]))]) fun x52_64 w_65 X_66 =>
 eV Tryz.prog R X_66 w_65 true (apS 23 53 4 48 23 x50_63 x52_64) fun x53_67 w_68 X_69 =>
 rdW Tryz.prog X_69 w_68 (nilN p1) fun x54_70 =>
 eU Tryz.prog R X_69 w_68 true (st1 23 1 x54_70 x53_67) fun _ w_71 X_72 =>
 (k_75 w_71 X_72)))
 (k_75 w_46 X_47))))))
 (fin R X_47 w_46 (Value.tuple #[]))))) fun k_40 =>
 rdW Tryz.prog X0 w0 (nilN p0) fun x14_7 =>
 rdV Tryz.prog X0 w0 (fld 175 0 0 1 x14_7) fun x15_8 =>
 rdV Tryz.prog X0 w0 (ld1 173 x15_8) fun x16_9 =>
 rdV Tryz.prog X0 w0 (binS .neq 173 (.tmp 16) (.const (.pointer none)) x16_9 (.pointer none)) fun x17_10 =>
 (condW x17_10
 (rdW Tryz.prog X0 w0 (nilN p0) fun x19_11 =>
 rdV Tryz.prog X0 w0 (fld 175 0 0 1 x19_11) fun x20_12 =>
 rdV Tryz.prog X0 w0 (ld1 173 x20_12) fun x21_13 =>
 eC Tryz.prog R X0 w0 true 206 #[x21_13, x12_4] fun _ w_15 X_16 =>
 (k_40 x12_4 w_15 X_16))
 (rdW Tryz.prog X0 w0 (nilN p0) fun x25_18 =>
 rdV Tryz.prog X0 w0 (fld 175 1 1 1 x25_18) fun x26_19 =>
 rdV Tryz.prog X0 w0 (ld1 169 x26_19) fun x27_20 =>
 rdW Tryz.prog X0 w0 (nilN p0) fun x29_21 =>
 rdV Tryz.prog X0 w0 (fld 175 1 1 1 x29_21) fun x30_22 =>
 rdV Tryz.prog X0 w0 (ld1 169 x30_22) fun x31_23 =>
 eC Tryz.prog R X0 w0 false 216 #[x31_23] fun x32_24 w_25 X_26 =>
 eC Tryz.prog R X_26 w_25 true 215 #[x27_20, x32_24] fun x33_27 w_28 X_29 =>
 (eC Tryz.prog R X_29 w_28 true 208 #[p0] fun _ w_32 X_33 =>
 (rdW Tryz.prog X_33 w_32 (nilN p1) fun x37_34 =>
 eU Tryz.prog R X_33 w_32 true (st1 23 1 x37_34 (.slice none 0 0)) fun _ w_35 X_36 =>
 (k_40 x33_27 w_35 X_36)))))))
theorem ok_coder_List_api_Write {R : Ending → World → Prop} {w0 : World} {p0 p1 p2 : Value} (h : vc_coder_List_api_Write R w0 (old w0) p0 p1 p2) : Calls Tryz.prog 150 #[p0, p1, p2] w0 R :=
  calls_of_vc (pl := pl_coder_List_api_Write) Tryz.func150 (by kernel_rfl) (by kernel_rfl) h
noncomputable def pl_coder_Coder_Write : Plan := ⟨14, [], [], [0, 1], [], []⟩
def vc_coder_Coder_Write (R : Ending → World → Prop) (w0 : World) (X0 : XS) (p0 p1 : Value) : Prop :=
 rdW Tryz.prog X0 w0 (nilN p1) fun x6_2 =>
 rdV Tryz.prog X0 w0 (fld 53 0 0 1 x6_2) fun x7_3 =>
 eC Tryz.prog R X0 w0 true 214 #[p0, x7_3] fun _ w_5 X_6 =>
 (rdW Tryz.prog X_6 w_5 (nilN p1) fun x11_7 =>
 rdV Tryz.prog X_6 w_5 (fld 53 1 1 3 x11_7) fun x12_8 =>
 eC Tryz.prog R X_6 w_5 true 221 #[p0, x12_8] fun _ w_10 X_11 =>
 fin R X_11 w_10 (Value.tuple #[]))
theorem ok_coder_Coder_Write {R : Ending → World → Prop} {w0 : World} {p0 p1 : Value} (h : vc_coder_Coder_Write R w0 (old w0) p0 p1) : Calls Tryz.prog 151 #[p0, p1] w0 R :=
  calls_of_vc (pl := pl_coder_Coder_Write) Tryz.func151 (by kernel_rfl) (by kernel_rfl) h
noncomputable def pl_coder_List_api_Pair : Plan := ⟨63, [(8, (Tryz.prog.cellsOf 74))], [], [0, 1, 2, 6, 7, 17, 38, 39, 40, 46], [], [39]⟩
def vc_coder_List_api_Pair (R : Ending → World → Prop) (w0 : World) (X0 : XS) (p0 p1 p2 : Value) : Prop :=
 rdW Tryz.prog X0 w0 (nilN p1) fun x10_2 =>
 rdV Tryz.prog X0 w0 (ld1 54 x10_2) fun x11_3 =>
 rdV Tryz.prog X0 w0 (lnS 54 3 x11_3) fun x12_4 =>
 ((jn (fun (y6_37 : Value) (w_38 : World) (X_39 : XS) =>
 (lp1 X_39 w_38 (I 0) 39 fun J_43 n_44 v_48 w_46 X_47 =>
 rdV Tryz.prog X_47 w_46 (binOp .lss 3 v_48 y6_37) fun x40_50 =>
 (condW x40_50
 ((((jn (fun (w_73 : World) (X_74 : XS) =>
 rdW Tryz.prog X_74 w_73 (nilN p1) fun x57_76 =>
 rdV Tryz.prog X_74 w_73 (ld1 54 x57_76) fun x58_77 =>
 rdV Tryz.prog X_74 w_73 (ixS 54 4 x58_77 v_48) fun x60_78 =>
 eF Tryz.prog R X_74 w_73 true p2 #[x60_78] fun _ w_80 X_81 =>
 ((rdV Tryz.prog X_81 w_80 (binOp .add 3 v_48 (I 1)) fun x62_82 =>
 nx1 J_43 n_44 x62_82 w_80 X_81))) fun k_75 =>
 rdW Tryz.prog X_47 w_46 (nilN p0) fun x43_57 =>
 rdV Tryz.prog X_47 w_46 (fld 175 0 0 1 x43_57) fun x44_58 =>
 rdV Tryz.prog X_47 w_46 (ld1 173 x44_58) fun x45_59 =>
 rdV Tryz.prog X_47 w_46 (binS .eql 173 (.tmp 45) (.const (.pointer none)) x45_59 (.pointer none)) fun x46_60 =>
 (condW x46_60
 ((rdW Tryz.prog X_47 w_46 (nilN p1) fun x49_62 =>
 rdV Tryz.prog X_47 w_46 (ld1 54 x49_62) fun x50_63 =>
 eV Tryz.prog R X_47 w_46 false (bsS 54 74 4 1 #[(0, (.agg #[(.string { data := #[] }), (I 0), (.float .f64 0), (.string { data := #[] })]))]) fun x52_64 w_65 X_66 =>
 eV Tryz.prog R X_66 w_65 true (apS 54 74 4 48 54 x50_63 x52_64) fun x53_67 w_68 X_69 =>
 rdW Tryz.prog X_69 w_68 (nilN p1) fun x54_70 =>
 eU Tryz.prog R X_69 w_68 true (st1 54 1 x54_70 x53_67) fun _ w_71 X_72 =>
 (k_75 w_71 X_72)))
 (k_75 w_46 X_47))))))
 (fin R X_47 w_46 (Value.tuple #[]))))) fun k_40 =>
 rdW Tryz.prog X0 w0 (nilN p0) fun x14_7 =>
 rdV Tryz.prog X0 w0 (fld 175 0 0 1 x14_7) fun x15_8 =>
 rdV Tryz.prog X0 w0 (ld1 173 x15_8) fun x16_9 =>
 rdV Tryz.prog X0 w0 (binS .neq 173 (.tmp 16) (.const (.pointer none)) x16_9 (.pointer none)) fun x17_10 =>
 (condW x17_10
 (rdW Tryz.prog X0 w0 (nilN p0) fun x19_11 =>
 rdV Tryz.prog X0 w0 (fld 175 0 0 1 x19_11) fun x20_12 =>
 rdV Tryz.prog X0 w0 (ld1 173 x20_12) fun x21_13 =>
 eC Tryz.prog R X0 w0 true 206 #[x21_13, x12_4] fun _ w_15 X_16 =>
 (k_40 x12_4 w_15 X_16))
 (rdW Tryz.prog X0 w0 (nilN p0) fun x25_18 =>
 rdV Tryz.prog X0 w0 (fld 175 1 1 1 x25_18) fun x26_19 =>
 rdV Tryz.prog X0 w0 (ld1 169 x26_19) fun x27_20 =>
 rdW Tryz.prog X0 w0 (nilN p0) fun x29_21 =>
 rdV Tryz.prog X0 w0 (fld 175 1 1 1 x29_21) fun x30_22 =>
 rdV Tryz.prog X0 w0 (ld1 169 x30_22) fun x31_23 =>
 eC Tryz.prog R X0 w0 false 216 #[x31_23] fun x32_24 w_25 X_26 =>
 eC Tryz.prog R X_26 w_25 true 215 #[x27_20, x32_24] fun x33_27 w_28 X_29 =>
 (eC Tryz.prog R X_29 w_28 true 208 #[p0] fun _ w_32 X_33 =>
 (rdW Tryz.prog X_33 w_32 (nilN p1) fun x37_34 =>
 eU Tryz.prog R X_33 w_32 true (st1 54 1 x37_34 (.slice none 0 0)) fun _ w_35 X_36 =>
 (k_40 x33_27 w_35 X_36)))))))
theorem ok_coder_List_api_Pair {R : Ending → World → Prop} {w0 : World} {p0 p1 p2 : Value} (h : vc_coder_List_api_Pair R w0 (old w0) p0 p1 p2) : Calls Tryz.prog 152 #[p0, p1, p2] w0 R :=
  calls_of_vc (pl := pl_coder_List_api_Pair) Tryz.func152 (by kernel_rfl) (by kernel_rfl) h
noncomputable def pl_coder_Coder_Pair : Plan := ⟨14, [], [], [0, 1], [], []⟩
def vc_coder_Coder_Pair (R : Ending → World → Prop) (w0 : World) (X0 : XS) (p0 p1 : Value) : Prop :=
 rdW Tryz.prog X0 w0 (nilN p1) fun x6_2 =>
 rdV Tryz.prog X0 w0 (fld 74 0 0 1 x6_2) fun x7_3 =>
 eC Tryz.prog R X0 w0 true 214 #[p0, x7_3] fun _ w_5 X_6 =>
 (rdW Tryz.prog X_6 w_5 (nilN p1) fun x11_7 =>
 rdV Tryz.prog X_6 w_5 (fld 74 1 1 3 x11_7) fun x12_8 =>
 eC Tryz.prog R X_6 w_5 true 221 #[p0, x12_8] fun _ w_10 X_11 =>
 fin R X_11 w_10 (Value.tuple #[]))
theorem ok_coder_Coder_Pair {R : Ending → World → Prop} {w0 : World} {p0 p1 : Value} (h : vc_coder_Coder_Pair R w0 (old w0) p0 p1) : Calls Tryz.prog 153 #[p0, p1] w0 R :=
  calls_of_vc (pl := pl_coder_Coder_Pair) Tryz.func153 (by kernel_rfl) (by kernel_rfl) h
noncomputable def pl_recs_May : Plan := ⟨22, [(1, (Tryz.prog.cellsOf 117)), (3, (Tryz.prog.cellsOf 117))], [], [0, 2, 4, 10, 13], [17, 18, 19, 20], []⟩
def vc_recs_May (R : Ending → World → Prop) (w0 : World) (X0 : XS) (p0_0 p0_1 p0_2 p0_3 p0_4 p0_5 p0_6 p0_7 p0_8 p0_9 : Int) (p0_10 : Bool) (p0_11 : Int) (p0_12 : Nat) (p0_13 p0_14 p0_15 p0_16 : Value) (p0_17 p0_18 : Int) (p0_19 p0_20 : Nat) (p0_21 p0_22 p0_23 p0_24 p0_25 p0_26 : Int) (p0_27 p0_28 : Value) : Prop :=
 (eC Tryz.prog R X0 w0 true 222 #[(.agg #[(I p0_0), (I p0_1), (I p0_2), (I p0_3), (I p0_4), (I p0_5), (I p0_6), (I p0_7), (I p0_8), (I p0_9), (B p0_10), (I p0_11), (.float .f64 p0_12), p0_13, p0_14, p0_15, p0_16, (I p0_17), (I p0_18), (.float .f64 p0_19), (.float .f64 p0_20), (I p0_21), (I p0_22), (I p0_23), (I p0_24), (I p0_25), (I p0_26), p0_27, p0_28])] fun x7_3 w_4 X_5 =>
 rdV Tryz.prog X_5 w_4 (Instr.extract x7_3 0) fun x8_6 =>
 rdV Tryz.prog X_5 w_4 (Instr.extract x7_3 1) fun x9_7 =>
 un (Value.agg (Value.cells x8_6)) fun u_8 =>
 chk (List.length (Array.toList (Value.cells x8_6)) == 29) (chk (List.all (Array.toList (Value.cells x8_6)) one) ((rdV Tryz.prog X_5 w_4 (Op.unary UnOp.not x9_7) fun x12_12 =>
 (condW x12_12
 (fin R X_5 w_4 (I 7))
 (chk (isA u_8) (un (subOf u_8 0 29) fun u_15 =>
 eC Tryz.prog R X_5 w_4 true 223 #[u_15] fun x15_16 w_17 X_18 =>
 rdV Tryz.prog X_18 w_17 (Op.unary UnOp.not x15_16) fun x16_19 =>
 un (gSel x16_19 false (.agg #[(I p0_0), (I p0_1), (I p0_2), (I p0_3), (I p0_4), (I p0_5), (I p0_6), (I p0_7), (I p0_8), (I p0_9), (B p0_10), (I p0_11), (.float .f64 p0_12), p0_13, p0_14, p0_15, p0_16, (I p0_17), (I p0_18), (.float .f64 p0_19), (.float .f64 p0_20), (I p0_21), (I p0_22), (I p0_23), (I p0_24), (I p0_25), (I p0_26), p0_27, p0_28])) fun u_20 =>
 jn (fun (x19_21 : Value) (w_22 : World) (X_23 : XS) =>
 grdW Tryz.prog X_23 w_22 x16_19 false (vS (Op.unary UnOp.not x19_21)) fun x20_25 =>
 rdW Tryz.prog X_23 w_22 (pickN x16_19 (B true) x20_25) fun x21_26 =>
 (condW x21_26
 (fin R X_23 w_22 (I 4))
 (fin R X_23 w_22 (I 0)))) fun k_24 =>
 (gE x16_19 false (eC Tryz.prog R X_18 w_17 true 224 #[u_20] k_24) (k_24 undef w_17 X_18)))))))))
theorem ok_recs_May {R : Ending → World → Prop} {w0 : World} {p0_0 p0_1 p0_2 p0_3 p0_4 p0_5 p0_6 p0_7 p0_8 p0_9 : Int} {p0_10 : Bool} {p0_11 : Int} {p0_12 : Nat} {p0_13 p0_14 p0_15 p0_16 : Value} {p0_17 p0_18 : Int} {p0_19 p0_20 : Nat} {p0_21 p0_22 p0_23 p0_24 p0_25 p0_26 : Int} {p0_27 p0_28 : Value} (h : vc_recs_May R w0 (old w0) p0_0 p0_1 p0_2 p0_3 p0_4 p0_5 p0_6 p0_7 p0_8 p0_9 p0_10 p0_11 p0_12 p0_13 p0_14 p0_15 p0_16 p0_17 p0_18 p0_19 p0_20 p0_21 p0_22 p0_23 p0_24 p0_25 p0_26 p0_27 p0_28) : Calls Tryz.prog 155 #[(.agg #[(I p0_0), (I p0_1), (I p0_2), (I p0_3), (I p0_4), (I p0_5), (I p0_6), (I p0_7), (I p0_8), (I p0_9), (B p0_10), (I p0_11), (.float .f64 p0_12), p0_13, p0_14, p0_15, p0_16, (I p0_17), (I p0_18), (.float .f64 p0_19), (.float .f64 p0_20), (I p0_21), (I p0_22), (I p0_23), (I p0_24), (I p0_25), (I p0_26), p0_27, p0_28])] w0 R :=
  calls_of_vc (pl := pl_recs_May) Tryz.func155 (by kernel_rfl) (by kernel_rfl) h
noncomputable def pl_wire_NewWriter : Plan := ⟨3, [], [], [0], [], []⟩
def vc_wire_NewWriter (R : Ending → World → Prop) (w0 : World) (X0 : XS) : Prop :=
 (rdV Tryz.prog X0 w0 (bld 308 #[(.slice none 0 0)] #[]) fun x1_3 =>
 eV Tryz.prog R X0 w0 true (Instr.box 308 x1_3) fun x2_4 w_5 X_6 =>
 (fin R X_6 w_5 x2_4))
theorem ok_wire_NewWriter {R : Ending → World → Prop} {w0 : World} (h : vc_wire_NewWriter R w0 (old w0)) : Calls Tryz.prog 156 #[] w0 R :=
  calls_of_vc (pl := pl_wire_NewWriter) Tryz.func156 (by kernel_rfl) (by kernel_rfl) h
noncomputable def pl_wire_Writer_Bytes : Plan := ⟨9, [], [], [0, 2], [], []⟩
def vc_wire_Writer_Bytes (R : Ending → World → Prop) (w0 : World) (X0 : XS) (p0 : Value) : Prop :=
 (eV Tryz.prog R X0 w0 true (bsS 95 5 1 0 #[]) fun x3_3 w_4 X_5 =>
 rdW Tryz.prog X_5 w_4 (nilN p0) fun x5_6 =>
 rdV Tryz.prog X_5 w_4 (fld 308 0 0 1 x5_6) fun x6_7 =>
 rdV Tryz.prog X_5 w_4 (ld1 95 x6_7) fun x7_8 =>
 eV Tryz.prog R X_5 w_4 true (apS 95 5 1 1 95 x3_3 x7_8) fun x8_9 w_10 X_11 =>
 (fin R X_11 w_10 x8_9))
theorem ok_wire_Writer_Bytes {R : Ending → World → Prop} {w0 : World} {p0 : Value} (h : vc_wire_Writer_Bytes R w0 (old w0) p0) : Calls Tryz.prog 157 #[p0] w0 R :=
  calls_of_vc (pl := pl_wire_Writer_Bytes) Tryz.func157 (by kernel_rfl) (by kernel_rfl) h
noncomputable def pl_datum_May : Plan := ⟨41, [(1, (Tryz.prog.cellsOf 51))], [4, 8, 14, 20, 24, 27, 36], [0, 2, 3, 9, 10, 18, 32], [13, 15, 16, 23, 25, 26, 28, 29, 30, 35, 37, 38, 39], []⟩
def vc_datum_May (R : Ending → World → Prop) (w0 : World) (X0 : XS) (p0_0 : Int) (p0_1 : Nat) (p0_2 : ByteArray) : Prop :=
 (eC Tryz.prog R X0 w0 true 111 #[(.float .f64 p0_1)] fun x6_3 w_4 X_5 =>
 rdV Tryz.prog X_5 w_4 (binS .eql 196 (.tmp 6) (.const (Value.int IntKind.u64 0)) x6_3 (Value.int IntKind.u64 0)) fun x7_6 =>
 ((rdV Tryz.prog X_5 w_4 (binS .eql 3 (.tmp 9) (.const (I 0)) (I p0_0) (I 0)) fun x11_11 =>
 (condW x11_11
 (un (gSel x7_6 true (.string p0_2)) fun u_13 =>
 grdW Tryz.prog X_5 w_4 x7_6 true (vS (binS .eql 9 (.tmp 15) (.const (.string { data := #[] })) u_13 (.string { data := #[] }))) fun x16_14 =>
 rdW Tryz.prog X_5 w_4 (pickN x7_6 x16_14 (B false)) fun x17_15 =>
 (fin R X_5 w_4 x17_15))
 (rdV Tryz.prog X_5 w_4 (binS .eql 3 (.tmp 9) (.const (I 1)) (I p0_0) (I 1)) fun x19_17 =>
 (condW x19_17
 (rdV Tryz.prog X_5 w_4 (binS .eql 9 (.tmp 21) (.const (.string { data := #[] })) (.string p0_2) (.string { data := #[] })) fun x22_19 =>
 un (gSel x22_19 true (.float .f64 p0_1)) fun u_20 =>
 jn (fun (x26_21 : Value) (w_22 : World) (X_23 : XS) =>
 jn (fun (x29_25 : Value) (w_26 : World) (X_27 : XS) =>
 grdW Tryz.prog X_27 w_26 x22_19 true (vS (binS .eql 196 (.tmp 26) (.tmp 29) x26_21 x29_25)) fun x30_29 =>
 rdW Tryz.prog X_27 w_26 (pickN x22_19 x30_29 (B false)) fun x31_30 =>
 (fin R X_27 w_26 x31_30)) fun k_28 =>
 (gE x22_19 true (eC Tryz.prog R X_23 w_22 true 225 #[u_20] k_28) (k_28 undef w_22 X_23))) fun k_24 =>
 (gE x22_19 true (eC Tryz.prog R X_5 w_4 false 111 #[u_20] k_24) (k_24 undef w_4 X_5)))
 (rdV Tryz.prog X_5 w_4 (binS .eql 3 (.tmp 9) (.const (I 2)) (I p0_0) (I 2)) fun x33_32 =>
 (condW x33_32
 (un (gSel x7_6 true (.string p0_2)) fun u_34 =>
 grdW Tryz.prog X_5 w_4 x7_6 true (vS (lnT 9 3 u_34)) fun x38_35 =>
 grdW Tryz.prog X_5 w_4 x7_6 true (vS (binOp .leq 3 x38_35 (I 64))) fun x39_36 =>
 rdW Tryz.prog X_5 w_4 (pickN x7_6 x39_36 (B false)) fun x40_37 =>
 (fin R X_5 w_4 x40_37))
 (fin R X_5 w_4 (B false))))))))))
theorem ok_datum_May {R : Ending → World → Prop} {w0 : World} {p0_0 : Int} {p0_1 : Nat} {p0_2 : ByteArray} (h : vc_datum_May R w0 (old w0) p0_0 p0_1 p0_2) : Calls Tryz.prog 158 #[(.agg #[(I p0_0), (.float .f64 p0_1), (.string p0_2)])] w0 R :=
  calls_of_vc (pl := pl_datum_May) Tryz.func158 (by kernel_rfl) (by kernel_rfl) h
noncomputable def pl_msgs_ranges : Plan := ⟨9, [], [], [0, 2], [5, 6, 7], []⟩
def vc_msgs_ranges (R : Ending → World → Prop) (w0 : World) (X0 : XS) (p0 : Int) : Prop :=
 (rdV Tryz.prog X0 w0 (binOp .geq 3 (I p0) (I 1)) fun x4_3 =>
 un (gSel x4_3 true (I p0)) fun u_4 =>
 grdW Tryz.prog X0 w0 x4_3 true (vS (binOp .leq 3 u_4 (I 12))) fun x7_5 =>
 rdW Tryz.prog X0 w0 (pickN x4_3 x7_5 (B false)) fun x8_6 =>
 (fin R X0 w0 x8_6))
theorem ok_msgs_ranges {R : Ending → World → Prop} {w0 : World} {p0 : Int} (h : vc_msgs_ranges R w0 (old w0) p0) : Calls Tryz.prog 163 #[(I p0)] w0 R :=
  calls_of_vc (pl := pl_msgs_ranges) Tryz.func163 (by kernel_rfl) (by kernel_rfl) h
noncomputable def pl_hlc_May : Plan := ⟨31, [(1, (Tryz.prog.cellsOf 35))], [3, 7, 12, 17, 22, 27], [0, 2], [6, 8, 9, 11, 13, 14, 16, 18, 19, 21, 23, 24, 26, 28, 29], []⟩
def vc_hlc_May (R : Ending → World → Prop) (w0 : World) (X0 : XS) (p0_0 p0_1 p0_2 : Int) : Prop :=
 (rdV Tryz.prog X0 w0 (binOp .geq 3 (I p0_0) (I 0)) fun x5_3 =>
 un (gSel x5_3 true (I p0_0)) fun u_4 =>
 grdW Tryz.prog X0 w0 x5_3 true (vS (binOp .leq 3 u_4 (I 281474976710656))) fun x9_5 =>
 rdW Tryz.prog X0 w0 (pickN x5_3 x9_5 (B false)) fun x10_6 =>
 un (gSel x10_6 true (I p0_1)) fun u_7 =>
 grdW Tryz.prog X0 w0 x10_6 true (vS (binOp .geq 3 u_7 (I 0))) fun x14_8 =>
 rdW Tryz.prog X0 w0 (pickN x10_6 x14_8 (B false)) fun x15_9 =>
 un (gSel x15_9 true (I p0_1)) fun u_10 =>
 grdW Tryz.prog X0 w0 x15_9 true (vS (binOp .leq 3 u_10 (I 65535))) fun x19_11 =>
 rdW Tryz.prog X0 w0 (pickN x15_9 x19_11 (B false)) fun x20_12 =>
 un (gSel x20_12 true (I p0_2)) fun u_13 =>
 grdW Tryz.prog X0 w0 x20_12 true (vS (binOp .geq 3 u_13 (I 0))) fun x24_14 =>
 rdW Tryz.prog X0 w0 (pickN x20_12 x24_14 (B false)) fun x25_15 =>
 un (gSel x25_15 true (I p0_2)) fun u_16 =>
 grdW Tryz.prog X0 w0 x25_15 true (vS (binOp .leq 3 u_16 (I 63))) fun x29_17 =>
 rdW Tryz.prog X0 w0 (pickN x25_15 x29_17 (B false)) fun x30_18 =>
 (fin R X0 w0 x30_18))
theorem ok_hlc_May {R : Ending → World → Prop} {w0 : World} {p0_0 p0_1 p0_2 : Int} (h : vc_hlc_May R w0 (old w0) p0_0 p0_1 p0_2) : Calls Tryz.prog 165 #[(.agg #[(I p0_0), (I p0_1), (I p0_2)])] w0 R :=
  calls_of_vc (pl := pl_hlc_May) Tryz.func165 (by kernel_rfl) (by kernel_rfl) h
noncomputable def pl_recs_StateMay : Plan := ⟨87, [(7, (Tryz.prog.cellsOf 288)), (9, (Tryz.prog.cellsOf 229)), (13, (Tryz.prog.cellsOf 53))], [49, 61, 73, 81], [0, 1, 2, 4, 5, 11, 29, 39, 42, 43, 44, 45, 52, 55, 56, 57, 58, 62, 63, 64, 65, 71, 74, 75, 76, 77, 84], [18, 19, 20, 21, 22, 24, 25, 26, 27, 28], [44, 57, 64, 76]⟩
def vc_recs_StateMay (R : Ending → World → Prop) (w0 : World) (X0 : XS) (p0_0 p0_1 : Int) (p0_2 p0_3 : Nat) (p0_4 p0_5 p0_6 p0_7 p0_8 p0_9 : Int) (p0_10 p0_11 : Value) : Prop :=
 eV Tryz.prog R X0 w0 true (Instr.box 46 (.agg #[(I p0_0), (I p0_1), (.float .f64 p0_2), (.float .f64 p0_3), (I p0_4), (I p0_5), (I p0_6), (I p0_7), (I p0_8), (I p0_9), p0_10, p0_11])) fun x1_2 w_3 X_4 =>
 (rdV Tryz.prog X_4 w_3 (fld 46 0 0 4 x1_2) fun x14_7 =>
 rdV Tryz.prog X_4 w_3 (ldA 42 4 x14_7) fun x15_8 =>
 eC Tryz.prog R X_4 w_3 true 245 #[x15_8] fun x16_9 w_10 X_11 =>
 rdV Tryz.prog X_11 w_10 (Op.unary UnOp.not x16_9) fun x17_12 =>
 grdW Tryz.prog X_11 w_10 x17_12 false (vS (fld 46 1 4 3 x1_2)) fun x19_13 =>
 grdW Tryz.prog X_11 w_10 x17_12 false (vS (ldA 35 3 x19_13)) fun x20_14 =>
 jn (fun (x21_15 : Value) (w_16 : World) (X_17 : XS) =>
 grdW Tryz.prog X_17 w_16 x17_12 false (vS (Op.unary UnOp.not x21_15)) fun x22_19 =>
 rdW Tryz.prog X_17 w_16 (pickN x17_12 (B true) x22_19) fun x23_20 =>
 grdW Tryz.prog X_17 w_16 x23_20 false (vS (fld 46 2 7 3 x1_2)) fun x25_21 =>
 grdW Tryz.prog X_17 w_16 x23_20 false (vS (ldA 35 3 x25_21)) fun x26_22 =>
 jn (fun (x27_23 : Value) (w_24 : World) (X_25 : XS) =>
 grdW Tryz.prog X_25 w_24 x23_20 false (vS (Op.unary UnOp.not x27_23)) fun x28_27 =>
 rdW Tryz.prog X_25 w_24 (pickN x23_20 (B true) x28_27) fun x29_28 =>
 (condW x29_28
 (fin R X_25 w_24 (B false))
 ((rdV Tryz.prog X_25 w_24 (fld 46 3 10 1 x1_2) fun x31_32 =>
 rdV Tryz.prog X_25 w_24 (ld1 43 x31_32) fun x32_33 =>
 rdV Tryz.prog X_25 w_24 (fld 46 4 11 1 x1_2) fun x33_34 =>
 rdV Tryz.prog X_25 w_24 (ld1 44 x33_34) fun x34_35 =>
 eC Tryz.prog R X_25 w_24 true 246 #[x32_33, x34_35] fun x35_36 w_37 X_38 =>
 rdV Tryz.prog X_38 w_37 (Instr.extract x35_36 0) fun _ =>
 rdV Tryz.prog X_38 w_37 (Instr.extract x35_36 1) fun x37_40 =>
 (rdV Tryz.prog X_38 w_37 (binS .neq 29 (.tmp 38) (.const (I 0)) x37_40 (I 0)) fun x39_42 =>
 (condW x39_42
 (fin R X_38 w_37 (B false))
 ((rdV Tryz.prog X_38 w_37 (Instr.makeFunc (Fn.func 247) #[] #[x1_2]) fun x40_45 =>
 (rdV Tryz.prog X_38 w_37 (fld 46 3 10 1 x1_2) fun x41_48 =>
 rdV Tryz.prog X_38 w_37 (ld1 43 x41_48) fun x42_49 =>
 rdV Tryz.prog X_38 w_37 (lnS 43 3 x42_49) fun x43_50 =>
 (lp1 X_38 w_37 (I 0) 44 fun J_52 n_53 v_57 w_55 X_56 =>
 rdV Tryz.prog X_56 w_55 (binOp .lss 3 v_57 x43_50) fun x45_59 =>
 (condW x45_59
 ((rdV Tryz.prog X_56 w_55 (ixS 43 2 x42_49 v_57) fun x46_64 =>
 rdV Tryz.prog X_56 w_55 (ldA 288 2 x46_64) fun x47_65 =>
 un (Value.agg (Value.cells x47_65)) fun u_66 =>
 chk (List.length (Array.toList (Value.cells x47_65)) == 2) (chk (List.all (Array.toList (Value.cells x47_65)) one) ((chk (isA u_66) (un (cellOf u_66 0) fun u_68 =>
 eF Tryz.prog R X_56 w_55 true x40_45 #[u_68] fun x51_69 w_70 X_71 =>
 rdV Tryz.prog X_71 w_70 (Op.unary UnOp.not x51_69) fun x52_72 =>
 (condW x52_72
 (fin R X_71 w_70 (B false))
 (((rdV Tryz.prog X_71 w_70 (binOp .add 3 v_57 (I 1)) fun x53_74 =>
 nx1 J_52 n_53 x53_74 w_70 X_71))))))))))
 (((rdV Tryz.prog X_56 w_55 (fld 46 4 11 1 x1_2) fun x54_77 =>
 rdV Tryz.prog X_56 w_55 (ld1 44 x54_77) fun x55_78 =>
 rdV Tryz.prog X_56 w_55 (lnS 44 3 x55_78) fun x56_79 =>
 (lp3 X_56 w_55 (I 0) undef undef 57 76 64 fun J_81 n_82 v_86 _ _ w_84 X_85 =>
 rdV Tryz.prog X_85 w_84 (binOp .lss 3 v_86 x56_79) fun x58_90 =>
 (condW x58_90
 ((rdV Tryz.prog X_85 w_84 (ixS 44 8 x55_78 v_86) fun x59_95 =>
 rdV Tryz.prog X_85 w_84 (ldA 229 8 x59_95) fun x60_96 =>
 un (Value.agg (Value.cells x60_96)) fun u_97 =>
 chk (List.length (Array.toList (Value.cells x60_96)) == 8) (chk (List.all (Array.toList (Value.cells x60_96)) one) ((chk (isA u_97) (un (cellOf u_97 6) fun u_100 =>
 rdV Tryz.prog X_85 w_84 (lnS 36 3 u_100) fun x63_101 =>
 (lp1 X_85 w_84 (I 0) 64 fun J_103 n_104 v_108 w_106 X_107 =>
 rdV Tryz.prog X_107 w_106 (binOp .lss 3 v_108 x63_101) fun x65_110 =>
 (condW x65_110
 ((rdV Tryz.prog X_107 w_106 (ixS 36 1 u_100 v_108) fun x66_115 =>
 rdV Tryz.prog X_107 w_106 (ld1 9 x66_115) fun x67_116 =>
 (eF Tryz.prog R X_107 w_106 true x40_45 #[x67_116] fun x70_118 w_119 X_120 =>
 rdV Tryz.prog X_120 w_119 (Op.unary UnOp.not x70_118) fun x71_121 =>
 (condW x71_121
 (fin R X_120 w_119 (B false))
 (((rdV Tryz.prog X_120 w_119 (binOp .add 3 v_108 (I 1)) fun x72_123 =>
 nx1 J_103 n_104 x72_123 w_119 X_120)))))))
 (((chk (isA u_97) (un (cellOf u_97 7) fun u_125 =>
 rdV Tryz.prog X_107 w_106 (lnS 23 3 u_125) fun x75_126 =>
 (lp1 X_107 w_106 (I 0) 76 fun J_128 n_129 v_133 w_131 X_132 =>
 rdV Tryz.prog X_132 w_131 (binOp .lss 3 v_133 x75_126) fun x77_135 =>
 (condW x77_135
 ((rdV Tryz.prog X_132 w_131 (ixS 23 4 u_125 v_133) fun x78_140 =>
 rdV Tryz.prog X_132 w_131 (ldA 53 4 x78_140) fun x79_141 =>
 un (Value.agg (Value.cells x79_141)) fun u_142 =>
 chk (List.length (Array.toList (Value.cells x79_141)) == 4) (chk (List.all (Array.toList (Value.cells x79_141)) one) ((chk (isA u_142) (un (cellOf u_142 0) fun u_144 =>
 eF Tryz.prog R X_132 w_131 true x40_45 #[u_144] fun x83_145 w_146 X_147 =>
 rdV Tryz.prog X_147 w_146 (Op.unary UnOp.not x83_145) fun x84_148 =>
 (condW x84_148
 (fin R X_147 w_146 (B false))
 (((rdV Tryz.prog X_147 w_146 (binOp .add 3 v_133 (I 1)) fun x85_150 =>
 nx1 J_128 n_129 x85_150 w_146 X_147))))))))))
 ((((rdV Tryz.prog X_132 w_131 (binOp .add 3 v_86 (I 1)) fun x86_151 =>
 nx3 J_81 n_82 x86_151 v_133 v_108 w_131 X_132))))))))))))))))))
 (fin R X_85 w_84 (B true)))))))))))))))))) fun k_26 =>
 (gE x23_20 false (eC Tryz.prog R X_17 w_16 true 165 #[x26_22] k_26) (k_26 undef w_16 X_17))) fun k_18 =>
 (gE x17_12 false (eC Tryz.prog R X_11 w_10 true 165 #[x20_14] k_18) (k_18 undef w_10 X_11)))
theorem ok_recs_StateMay {R : Ending → World → Prop} {w0 : World} {p0_0 p0_1 : Int} {p0_2 p0_3 : Nat} {p0_4 p0_5 p0_6 p0_7 p0_8 p0_9 : Int} {p0_10 p0_11 : Value} (h : vc_recs_StateMay R w0 (old w0) p0_0 p0_1 p0_2 p0_3 p0_4 p0_5 p0_6 p0_7 p0_8 p0_9 p0_10 p0_11) : Calls Tryz.prog 167 #[(.agg #[(I p0_0), (I p0_1), (.float .f64 p0_2), (.float .f64 p0_3), (I p0_4), (I p0_5), (I p0_6), (I p0_7), (I p0_8), (I p0_9), p0_10, p0_11])] w0 R :=
  calls_of_vc (pl := pl_recs_StateMay) Tryz.func167 (by kernel_rfl) (by kernel_rfl) h
noncomputable def pl_recs_Apply : Plan := ⟨29, [(4, (Tryz.prog.cellsOf 35)), (5, (Tryz.prog.cellsOf 35)), (6, (Tryz.prog.cellsOf 33))], [], [0, 1, 2, 3, 8, 22], [12, 13, 14, 15, 16, 18, 19, 20, 21], []⟩
def vc_recs_Apply (R : Ending → World → Prop) (w0 : World) (X0 : XS) (p0_0 p0_1 p0_2 p1_0 p1_1 p1_2 p2_0 p2_1 p2_2 : Int) (p3 : Value) : Prop :=
 (eC Tryz.prog R X0 w0 true 165 #[(.agg #[(I p0_0), (I p0_1), (I p0_2)])] fun x10_4 w_5 X_6 =>
 rdV Tryz.prog X_6 w_5 (Op.unary UnOp.not x10_4) fun x11_7 =>
 un (gSel x11_7 false (.agg #[(I p0_0), (I p0_1), (I p0_2)])) fun u_8 =>
 un (gSel x11_7 false (.agg #[(I p1_0), (I p1_1), (I p1_2)])) fun u_9 =>
 jn (fun (x15_10 : Value) (w_11 : World) (X_12 : XS) =>
 grdW Tryz.prog X_12 w_11 x11_7 false (vS (binOp .geq 3 x15_10 (I 0))) fun x16_14 =>
 rdW Tryz.prog X_12 w_11 (pickN x11_7 (B true) x16_14) fun x17_15 =>
 un (gSel x17_15 false p3) fun u_16 =>
 grdW Tryz.prog X_12 w_11 x17_15 false (vS (lnS 23 3 u_16)) fun x20_17 =>
 grdW Tryz.prog X_12 w_11 x17_15 false (vS (binS .eql 3 (.tmp 20) (.const (I 0)) x20_17 (I 0))) fun x21_18 =>
 rdW Tryz.prog X_12 w_11 (pickN x17_15 (B true) x21_18) fun x22_19 =>
 (condW x22_19
 (fin R X_12 w_11 (B false))
 ((rdV Tryz.prog X_12 w_11 (bld 229 #[(I p2_0), (I p2_1), (I p2_2), (I p1_0), (I p1_1), (I p1_2), (.slice none 0 0), p3] #[(0, (.agg #[(I p2_0), (I p2_1), (I p2_2)])), (1, (.agg #[(I p1_0), (I p1_1), (I p1_2)])), (3, p3)]) fun x26_22 =>
 eC Tryz.prog R X_12 w_11 true 250 #[x26_22] fun x27_23 w_24 X_25 =>
 rdV Tryz.prog X_25 w_24 (binS .eql 29 (.tmp 27) (.const (I 0)) x27_23 (I 0)) fun x28_26 =>
 (fin R X_25 w_24 x28_26))))) fun k_13 =>
 (gE x11_7 false (eC Tryz.prog R X_6 w_5 true 53 #[u_8, u_9] k_13) (k_13 undef w_5 X_6)))
theorem ok_recs_Apply {R : Ending → World → Prop} {w0 : World} {p0_0 p0_1 p0_2 p1_0 p1_1 p1_2 p2_0 p2_1 p2_2 : Int} {p3 : Value} (h : vc_recs_Apply R w0 (old w0) p0_0 p0_1 p0_2 p1_0 p1_1 p1_2 p2_0 p2_1 p2_2 p3) : Calls Tryz.prog 168 #[(.agg #[(I p0_0), (I p0_1), (I p0_2)]), (.agg #[(I p1_0), (I p1_1), (I p1_2)]), (.agg #[(I p2_0), (I p2_1), (I p2_2)]), p3] w0 R :=
  calls_of_vc (pl := pl_recs_Apply) Tryz.func168 (by kernel_rfl) (by kernel_rfl) h
noncomputable def pl_frame_Frame : Plan := ⟨27, [], [], [0, 2, 3, 4, 7], [], []⟩
def vc_frame_Frame (R : Ending → World → Prop) (w0 : World) (X0 : XS) (p0 : Value) : Prop :=
 (rdV Tryz.prog X0 w0 (lnS 95 3 p0) fun x6_4 =>
 rdV Tryz.prog X0 w0 (binOp .gtr 3 x6_4 (I 262144)) fun x7_5 =>
 (condW x7_5
 ((fin R X0 w0 (Value.tuple #[(.slice none 0 0), (I 2)])))
 ((rdV Tryz.prog X0 w0 (lnS 95 3 p0) fun x9_8 =>
 rdV Tryz.prog X0 w0 (binOp .add 3 x9_8 (I 12)) fun x10_9 =>
 eV Tryz.prog R X0 w0 true (Instr.makeSlice 95 (I 0) x10_9) fun x11_10 w_11 X_12 =>
 rdV Tryz.prog X_12 w_11 (lnS 95 3 p0) fun x13_13 =>
 rdV Tryz.prog X_12 w_11 (cvI IntKind.u32 3 281 x13_13) fun x14_14 =>
 eC Tryz.prog R X_12 w_11 true 251 #[x11_10, x14_14] fun x15_15 w_16 X_17 =>
 (eC Tryz.prog R X_17 w_16 true 203 #[x15_15] fun x18_19 w_20 X_21 =>
 eC Tryz.prog R X_21 w_20 true 251 #[x15_15, x18_19] fun x19_22 w_23 X_24 =>
 (eV Tryz.prog R X_24 w_23 true (apS 95 5 1 1 95 x19_22 p0) fun x22_26 w_27 X_28 =>
 (eC Tryz.prog R X_28 w_27 true 203 #[p0] fun x25_30 w_31 X_32 =>
 eC Tryz.prog R X_32 w_31 true 251 #[x22_26, x25_30] fun x26_33 w_34 X_35 =>
 (fin R X_35 w_34 (Value.tuple #[x26_33, (I 0)])))))))))
theorem ok_frame_Frame {R : Ending → World → Prop} {w0 : World} {p0 : Value} (h : vc_frame_Frame R w0 (old w0) p0) : Calls Tryz.prog 169 #[p0] w0 R :=
  calls_of_vc (pl := pl_frame_Frame) Tryz.func169 (by kernel_rfl) (by kernel_rfl) h
noncomputable def pl_disk_Disk_Append : Plan := ⟨53, [], [], [0, 1, 2, 6, 7, 8, 15, 20, 23, 52], [], []⟩
def vc_disk_Disk_Append (R : Ending → World → Prop) (w0 : World) (X0 : XS) (p0 : Value) (p1 : ByteArray) (p2 : Value) : Prop :=
 (rdW Tryz.prog X0 w0 (nilN p0) fun x10_3 =>
 rdV Tryz.prog X0 w0 (fld 106 0 0 1 x10_3) fun x11_4 =>
 rdV Tryz.prog X0 w0 (ld1 104 x11_4) fun x12_5 =>
 rdV Tryz.prog X0 w0 (Instr.lookup 104 x12_5 (.string p1) false) fun x14_6 =>
 (rdW Tryz.prog X0 w0 (nilN p0) fun x17_10 =>
 rdV Tryz.prog X0 w0 (fld 106 4 4 1 x17_10) fun x18_11 =>
 rdV Tryz.prog X0 w0 (ld1 4 x18_11) fun x19_12 =>
 (condW x19_12
 (fin R X0 w0 (I 12))
 (rdV Tryz.prog X0 w0 (binS .eql 135 (.tmp 21) (.const (.pointer none)) x14_6 (.pointer none)) fun x22_15 =>
 (condW x22_15
 (fin R X0 w0 (I 8))
 (rdV Tryz.prog X0 w0 (lnS 95 3 p2) fun x25_18 =>
 rdW Tryz.prog X0 w0 (nilN p0) fun x27_19 =>
 rdV Tryz.prog X0 w0 (fld 106 1 1 1 x27_19) fun x28_20 =>
 rdV Tryz.prog X0 w0 (ld1 3 x28_20) fun x29_21 =>
 rdV Tryz.prog X0 w0 (binOp .sub 3 (I 4194304) x29_21) fun x30_22 =>
 rdV Tryz.prog X0 w0 (binOp .gtr 3 x25_18 x30_22) fun x31_23 =>
 (condW x31_23
 (fin R X0 w0 (I 11))
 (((eC Tryz.prog R X0 w0 true 252 #[p0] fun x33_26 w_27 X_28 =>
 (rdW Tryz.prog X_28 w_27 (nilN x14_6) fun x36_30 =>
 rdV Tryz.prog X_28 w_27 (fld 141 0 0 1 x36_30) fun x37_31 =>
 rdV Tryz.prog X_28 w_27 (ld1 95 x37_31) fun x38_32 =>
 eV Tryz.prog R X_28 w_27 true (apS 95 5 1 1 95 x38_32 p2) fun x40_33 w_34 X_35 =>
 rdW Tryz.prog X_35 w_34 (nilN x14_6) fun x41_36 =>
 rdV Tryz.prog X_35 w_34 (fld 141 0 0 1 x41_36) fun x42_37 =>
 eU Tryz.prog R X_35 w_34 true (st1 95 1 x42_37 x40_33) fun _ w_38 X_39 =>
 (rdW Tryz.prog X_39 w_38 (nilN p0) fun x44_41 =>
 rdV Tryz.prog X_39 w_38 (fld 106 1 1 1 x44_41) fun x45_42 =>
 rdV Tryz.prog X_39 w_38 (ld1 3 x45_42) fun x46_43 =>
 rdV Tryz.prog X_39 w_38 (lnS 95 3 p2) fun x48_44 =>
 rdV Tryz.prog X_39 w_38 (binOp .add 3 x46_43 x48_44) fun x49_45 =>
 rdW Tryz.prog X_39 w_38 (nilN p0) fun x50_46 =>
 rdV Tryz.prog X_39 w_38 (fld 106 1 1 1 x50_46) fun x51_47 =>
 eU Tryz.prog R X_39 w_38 true (st1 3 1 x51_47 x49_45) fun _ w_48 X_49 =>
 ((condW x33_26
 (fin R X_49 w_48 (I 12))
 (fin R X_49 w_48 (I 0))))))))))))))))
theorem ok_disk_Disk_Append {R : Ending → World → Prop} {w0 : World} {p0 : Value} {p1 : ByteArray} {p2 : Value} (h : vc_disk_Disk_Append R w0 (old w0) p0 p1 p2) : Calls Tryz.prog 170 #[p0, (.string p1), p2] w0 R :=
  calls_of_vc (pl := pl_disk_Disk_Append) Tryz.func170 (by kernel_rfl) (by kernel_rfl) h
noncomputable def pl_disk_Disk_Sync : Plan := ⟨11, [], [], [0, 1, 2, 3, 4], [], []⟩
def vc_disk_Disk_Sync (R : Ending → World → Prop) (w0 : World) (X0 : XS) (p0 : Value) (p1 : ByteArray) : Prop :=
 eV Tryz.prog R X0 w0 true (Instr.box 26 p0) fun x2_2 w_3 X_4 =>
 eV Tryz.prog R X_4 w_3 true (Instr.box 9 (.string p1)) fun x3_5 w_6 X_7 =>
 (rdV Tryz.prog X_7 w_6 (ld1 26 x2_2) fun x5_9 =>
 rdV Tryz.prog X_7 w_6 (ld1 26 x2_2) fun x6_10 =>
 rdV Tryz.prog X_7 w_6 (ld1 9 x3_5) fun x7_11 =>
 rdV Tryz.prog X_7 w_6 (Instr.makeFunc (Fn.func 253) #[] #[x2_2, x3_5]) fun x9_12 =>
 eC Tryz.prog R X_7 w_6 false 173 #[x6_10, x7_11] fun x8_13 w_14 X_15 =>
 eC Tryz.prog R X_15 w_14 true 172 #[x5_9, x8_13, x9_12] fun x10_16 w_17 X_18 =>
 (fin R X_18 w_17 x10_16))
theorem ok_disk_Disk_Sync {R : Ending → World → Prop} {w0 : World} {p0 : Value} {p1 : ByteArray} (h : vc_disk_Disk_Sync R w0 (old w0) p0 p1) : Calls Tryz.prog 171 #[p0, (.string p1)] w0 R :=
  calls_of_vc (pl := pl_disk_Disk_Sync) Tryz.func171 (by kernel_rfl) (by kernel_rfl) h
noncomputable def pl_disk_Disk_write : Plan := ⟨21, [], [], [0, 1, 2, 6, 7, 12, 16], [], []⟩
def vc_disk_Disk_write (R : Ending → World → Prop) (w0 : World) (X0 : XS) (p0 : Value) (p1 : Int) (p2 : Value) : Prop :=
 (rdW Tryz.prog X0 w0 (nilN p0) fun x9_5 =>
 rdV Tryz.prog X0 w0 (fld 106 4 4 1 x9_5) fun x10_6 =>
 rdV Tryz.prog X0 w0 (ld1 4 x10_6) fun x11_7 =>
 (condW x11_7
 (fin R X0 w0 (I 12))
 (rdV Tryz.prog X0 w0 (binS .neq 29 (.tmp 13) (.const (I 0)) (I p1) (I 0)) fun x14_10 =>
 (condW x14_10
 (fin R X0 w0 (I p1))
 (eC Tryz.prog R X0 w0 true 252 #[p0] fun x18_13 w_14 X_15 =>
 (condW x18_13
 (fin R X_15 w_14 (I 12))
 (((eF Tryz.prog R X_15 w_14 true p2 #[] fun _ w_19 X_20 =>
 (fin R X_20 w_19 (I 0)))))))))))
theorem ok_disk_Disk_write {R : Ending → World → Prop} {w0 : World} {p0 : Value} {p1 : Int} {p2 : Value} (h : vc_disk_Disk_write R w0 (old w0) p0 p1 p2) : Calls Tryz.prog 172 #[p0, (I p1), p2] w0 R :=
  calls_of_vc (pl := pl_disk_Disk_write) Tryz.func172 (by kernel_rfl) (by kernel_rfl) h
noncomputable def pl_disk_Disk_has : Plan := ⟨12, [], [], [0, 1, 4, 11], [], []⟩
def vc_disk_Disk_has (R : Ending → World → Prop) (w0 : World) (X0 : XS) (p0 : Value) (p1 : ByteArray) : Prop :=
 (rdW Tryz.prog X0 w0 (nilN p0) fun x6_4 =>
 rdV Tryz.prog X0 w0 (fld 106 0 0 1 x6_4) fun x7_5 =>
 rdV Tryz.prog X0 w0 (ld1 104 x7_5) fun x8_6 =>
 rdV Tryz.prog X0 w0 (Instr.lookup 104 x8_6 (.string p1) false) fun x10_7 =>
 rdV Tryz.prog X0 w0 (binS .eql 135 (.tmp 10) (.const (.pointer none)) x10_7 (.pointer none)) fun x11_8 =>
 (condW x11_8
 (fin R X0 w0 (I 8))
 (fin R X0 w0 (I 0))))
theorem ok_disk_Disk_has {R : Ending → World → Prop} {w0 : World} {p0 : Value} {p1 : ByteArray} (h : vc_disk_Disk_has R w0 (old w0) p0 p1) : Calls Tryz.prog 173 #[p0, (.string p1)] w0 R :=
  calls_of_vc (pl := pl_disk_Disk_has) Tryz.func173 (by kernel_rfl) (by kernel_rfl) h
noncomputable def pl_disk_Disk_Remove_c1 : Plan := ⟨5, [], [], [0, 1], [], []⟩
def vc_disk_Disk_Remove_c1 (R : Ending → World → Prop) (w0 : World) (X0 : XS) (c0 c1 : Value) : Prop :=
 rdV Tryz.prog X0 w0 (ld1 26 c0) fun x2_1 =>
 rdV Tryz.prog X0 w0 (ld1 9 c1) fun x3_2 =>
 eC Tryz.prog R X0 w0 true 175 #[x2_1, x3_2] fun _ w_4 X_5 =>
 fin R X_5 w_4 (Value.tuple #[])
theorem ok_disk_Disk_Remove_c1 {R : Ending → World → Prop} {w0 : World} {c0 c1 : Value} (h : vc_disk_Disk_Remove_c1 R w0 (old w0) c0 c1) : Calls Tryz.prog 174 #[c0, c1] w0 R :=
  calls_of_vc (pl := pl_disk_Disk_Remove_c1) Tryz.func174 (by kernel_rfl) (by kernel_rfl) h
noncomputable def pl_disk_Disk_drop : Plan := ⟨30, [], [], [0, 1, 4, 12], [], []⟩
def vc_disk_Disk_drop (R : Ending → World → Prop) (w0 : World) (X0 : XS) (p0 : Value) (p1 : ByteArray) : Prop :=
 rdW Tryz.prog X0 w0 (nilN p0) fun x6_2 =>
 rdV Tryz.prog X0 w0 (fld 106 0 0 1 x6_2) fun x7_3 =>
 rdV Tryz.prog X0 w0 (ld1 104 x7_3) fun x8_4 =>
 rdV Tryz.prog X0 w0 (Instr.lookup 104 x8_4 (.string p1) false) fun x10_5 =>
 (rdV Tryz.prog X0 w0 (binS .neq 135 (.tmp 11) (.const (.pointer none)) x10_5 (.pointer none)) fun x12_7 =>
 (condW x12_7
 (rdW Tryz.prog X0 w0 (nilN p0) fun x14_9 =>
 rdV Tryz.prog X0 w0 (fld 106 1 1 1 x14_9) fun x15_10 =>
 rdV Tryz.prog X0 w0 (ld1 3 x15_10) fun x16_11 =>
 rdW Tryz.prog X0 w0 (nilN x10_5) fun x18_12 =>
 rdV Tryz.prog X0 w0 (fld 141 0 0 1 x18_12) fun x19_13 =>
 rdV Tryz.prog X0 w0 (ld1 95 x19_13) fun x20_14 =>
 rdV Tryz.prog X0 w0 (lnS 95 3 x20_14) fun x21_15 =>
 rdV Tryz.prog X0 w0 (binOp .sub 3 x16_11 x21_15) fun x22_16 =>
 rdW Tryz.prog X0 w0 (nilN p0) fun x23_17 =>
 rdV Tryz.prog X0 w0 (fld 106 1 1 1 x23_17) fun x24_18 =>
 eU Tryz.prog R X0 w0 true (st1 3 1 x24_18 x22_16) fun _ w_19 X_20 =>
 (rdW Tryz.prog X_20 w_19 (nilN p0) fun x26_21 =>
 rdV Tryz.prog X_20 w_19 (fld 106 0 0 1 x26_21) fun x27_22 =>
 rdV Tryz.prog X_20 w_19 (ld1 104 x27_22) fun x28_23 =>
 eV Tryz.prog R X_20 w_19 true (Builtin.delete_ #[104, 9] 0 #[x28_23, (.string p1)]) fun _ w_24 X_25 =>
 fin R X_25 w_24 (Value.tuple #[])))
 (fin R X0 w0 (Value.tuple #[]))))
theorem ok_disk_Disk_drop {R : Ending → World → Prop} {w0 : World} {p0 : Value} {p1 : ByteArray} (h : vc_disk_Disk_drop R w0 (old w0) p0 p1) : Calls Tryz.prog 175 #[p0, (.string p1)] w0 R :=
  calls_of_vc (pl := pl_disk_Disk_drop) Tryz.func175 (by kernel_rfl) (by kernel_rfl) h
noncomputable def pl_frame_Sum : Plan := ⟨54, [], [], [0, 2, 3, 5, 6, 8, 11, 12, 13, 14, 15, 22, 23, 36, 37, 38, 39], [], [3, 14, 22, 38]⟩
def vc_frame_Sum (R : Ending → World → Prop) (w0 : World) (X0 : XS) (p0 : Value) : Prop :=
 ((rdV Tryz.prog X0 w0 (lnS 95 3 p0) fun x10_5 =>
 rdV Tryz.prog X0 w0 (binOp .lss 3 x10_5 (I 64)) fun x11_6 =>
 (condW x11_6
 (rdV Tryz.prog X0 w0 (lnS 95 3 p0) fun x13_9 =>
 (lp3 X0 w0 (I 0) undef (Value.int IntKind.u32 4294967295) 14 22 3 fun J_11 n_12 v_16 _ v_18 w_14 X_15 =>
 rdV Tryz.prog X_15 w_14 (binOp .lss 3 v_16 x13_9) fun x15_20 =>
 (condW x15_20
 ((rdV Tryz.prog X_15 w_14 (ixS 95 1 p0 v_16) fun x16_25 =>
 rdV Tryz.prog X_15 w_14 (ld1 5 x16_25) fun x17_26 =>
 (rdV Tryz.prog X_15 w_14 (cvI IntKind.u32 5 281 x17_26) fun x20_28 =>
 rdV Tryz.prog X_15 w_14 (binOp .xor 281 v_18 x20_28) fun x21_29 =>
 ((lp2 X_15 w_14 (I 0) x21_29 22 3 fun J_32 n_33 v_37 v_38 w_35 X_36 =>
 rdV Tryz.prog X_36 w_35 (binOp .lss 3 v_37 (I 8)) fun x23_40 =>
 (condW x23_40
 ((rdV Tryz.prog X_36 w_35 (binOp .shr 281 v_38 (Value.int IntKind.u64 1)) fun x25_44 =>
 rdV Tryz.prog X_36 w_35 (binOp .and 281 v_38 (Value.int IntKind.u32 1)) fun x27_45 =>
 rdV Tryz.prog X_36 w_35 (Op.unary UnOp.neg x27_45) fun x28_46 =>
 rdV Tryz.prog X_36 w_35 (binOp .and 281 (Value.int IntKind.u32 2197175160) x28_46) fun x29_47 =>
 rdV Tryz.prog X_36 w_35 (binOp .xor 281 x25_44 x29_47) fun x30_48 =>
 ((rdV Tryz.prog X_36 w_35 (binOp .add 3 v_37 (I 1)) fun x31_49 =>
 nx2 J_32 n_33 x31_49 x30_48 w_35 X_36))))
 ((((rdV Tryz.prog X_36 w_35 (binOp .add 3 v_16 (I 1)) fun x32_50 =>
 nx3 J_11 n_12 x32_50 v_37 v_38 w_35 X_36))))))))))
 (rdV Tryz.prog X_15 w_14 (Op.unary UnOp.xor v_18) fun x34_52 =>
 (fin R X_15 w_14 x34_52)))))
 ((eC Tryz.prog R X0 w0 true 287 #[] fun x35_54 w_55 X_56 =>
 eV Tryz.prog R X_56 w_55 true (Instr.alloc 353 true (Value.tuple #[])) fun x6_57 w_58 X_59 =>
 eU Tryz.prog R X_59 w_58 true (st1 353 256 x6_57 x35_54) fun _ w_60 X_61 =>
 (rdV Tryz.prog X_61 w_60 (lnS 95 3 p0) fun x37_64 =>
 (lp2 X_61 w_60 (I 0) (Value.int IntKind.u32 4294967295) 38 3 fun J_66 n_67 v_71 v_72 w_69 X_70 =>
 rdV Tryz.prog X_70 w_69 (binOp .lss 3 v_71 x37_64) fun x39_74 =>
 (condW x39_74
 ((rdV Tryz.prog X_70 w_69 (ixS 95 1 p0 v_71) fun x40_79 =>
 rdV Tryz.prog X_70 w_69 (ld1 5 x40_79) fun x41_80 =>
 (rdV Tryz.prog X_70 w_69 (binOp .shr 281 v_72 (Value.int IntKind.u64 8)) fun x43_81 =>
 rdV Tryz.prog X_70 w_69 (cvI IntKind.u8 281 5 v_72) fun x45_82 =>
 rdV Tryz.prog X_70 w_69 (binOp .xor 5 x45_82 x41_80) fun x47_83 =>
 rdV Tryz.prog X_70 w_69 (Instr.indexAt 353 x6_57 x47_83) fun x48_84 =>
 rdV Tryz.prog X_70 w_69 (ld1 281 x48_84) fun x49_85 =>
 rdV Tryz.prog X_70 w_69 (binOp .xor 281 x43_81 x49_85) fun x50_86 =>
 ((rdV Tryz.prog X_70 w_69 (binOp .add 3 v_71 (I 1)) fun x51_87 =>
 nx2 J_66 n_67 x51_87 x50_86 w_69 X_70)))))
 (rdV Tryz.prog X_70 w_69 (Op.unary UnOp.xor v_72) fun x53_89 =>
 (fin R X_70 w_69 x53_89))))))))))
theorem ok_frame_Sum {R : Ending → World → Prop} {w0 : World} {p0 : Value} (h : vc_frame_Sum R w0 (old w0) p0) : Calls Tryz.prog 203 #[p0] w0 R :=
  calls_of_vc (pl := pl_frame_Sum) Tryz.func203 (by kernel_rfl) (by kernel_rfl) h
noncomputable def pl_disk_Disk_Create_c1 : Plan := ⟨9, [], [], [0, 1], [], []⟩
def vc_disk_Disk_Create_c1 (R : Ending → World → Prop) (w0 : World) (X0 : XS) (c0 c1 : Value) : Prop :=
 rdV Tryz.prog X0 w0 (ld1 26 c0) fun x2_1 =>
 rdW Tryz.prog X0 w0 (nilN x2_1) fun x3_2 =>
 rdV Tryz.prog X0 w0 (fld 106 0 0 1 x3_2) fun x4_3 =>
 rdV Tryz.prog X0 w0 (ld1 104 x4_3) fun x5_4 =>
 rdV Tryz.prog X0 w0 (ld1 9 c1) fun x6_5 =>
 rdV Tryz.prog X0 w0 (bld 141 #[(.slice none 0 0), (I 0)] #[]) fun x7_6 =>
 eV Tryz.prog R X0 w0 false (Instr.box 141 x7_6) fun x8_7 w_8 X_9 =>
 eU Tryz.prog R X_9 w_8 true (Instr.mapUpdate 104 x5_4 x6_5 x8_7) fun _ w_10 X_11 =>
 fin R X_11 w_10 (Value.tuple #[])
theorem ok_disk_Disk_Create_c1 {R : Ending → World → Prop} {w0 : World} {c0 c1 : Value} (h : vc_disk_Disk_Create_c1 R w0 (old w0) c0 c1) : Calls Tryz.prog 204 #[c0, c1] w0 R :=
  calls_of_vc (pl := pl_disk_Disk_Create_c1) Tryz.func204 (by kernel_rfl) (by kernel_rfl) h
noncomputable def pl_wire_Writer_Int : Plan := ⟨39, [], [], [0, 1, 4, 9, 13], [], [4]⟩
def vc_wire_Writer_Int (R : Ending → World → Prop) (w0 : World) (X0 : XS) (p0 : Value) (p1 : Int) : Prop :=
 rdV Tryz.prog X0 w0 (cvI IntKind.u64 3 196 (I p1)) fun x6_2 =>
 rdV Tryz.prog X0 w0 (binOp .shl 196 x6_2 (Value.int IntKind.u64 1)) fun x7_3 =>
 ((jn (fun (y4_8 : Value) =>
 lp1 X0 w0 y4_8 4 fun J_12 n_13 v_17 w_15 X_16 =>
 rdV Tryz.prog X_16 w_15 (binOp .geq 196 v_17 (Value.int IntKind.u64 128)) fun x13_20 =>
 (condW x13_20
 ((rdW Tryz.prog X_16 w_15 (nilN p0) fun x16_23 =>
 rdV Tryz.prog X_16 w_15 (fld 308 0 0 1 x16_23) fun x17_24 =>
 rdV Tryz.prog X_16 w_15 (ld1 95 x17_24) fun x18_25 =>
 rdV Tryz.prog X_16 w_15 (cvI IntKind.u8 196 5 v_17) fun x20_26 =>
 rdV Tryz.prog X_16 w_15 (binOp .or 5 x20_26 (Value.int IntKind.u8 128)) fun x21_27 =>
 eV Tryz.prog R X_16 w_15 true (bsS 95 5 1 1 #[(0, x21_27)]) fun x22_28 w_29 X_30 =>
 eV Tryz.prog R X_30 w_29 true (apS 95 5 1 1 95 x18_25 x22_28) fun x23_31 w_32 X_33 =>
 rdW Tryz.prog X_33 w_32 (nilN p0) fun x24_34 =>
 rdV Tryz.prog X_33 w_32 (fld 308 0 0 1 x24_34) fun x25_35 =>
 eU Tryz.prog R X_33 w_32 true (st1 95 1 x25_35 x23_31) fun _ w_36 X_37 =>
 (rdV Tryz.prog X_37 w_36 (binOp .shr 196 v_17 (Value.int IntKind.u64 7)) fun x27_38 =>
 (nx1 J_12 n_13 x27_38 w_36 X_37))))
 (((rdW Tryz.prog X_16 w_15 (nilN p0) fun x30_39 =>
 rdV Tryz.prog X_16 w_15 (fld 308 0 0 1 x30_39) fun x31_40 =>
 rdV Tryz.prog X_16 w_15 (ld1 95 x31_40) fun x32_41 =>
 rdV Tryz.prog X_16 w_15 (cvI IntKind.u8 196 5 v_17) fun x34_42 =>
 eV Tryz.prog R X_16 w_15 true (bsS 95 5 1 1 #[(0, x34_42)]) fun x35_43 w_44 X_45 =>
 eV Tryz.prog R X_45 w_44 true (apS 95 5 1 1 95 x32_41 x35_43) fun x36_46 w_47 X_48 =>
 rdW Tryz.prog X_48 w_47 (nilN p0) fun x37_49 =>
 rdV Tryz.prog X_48 w_47 (fld 308 0 0 1 x37_49) fun x38_50 =>
 eU Tryz.prog R X_48 w_47 true (st1 95 1 x38_50 x36_46) fun _ w_51 X_52 =>
 fin R X_52 w_51 (Value.tuple #[])))))) fun k_9 =>
 rdV Tryz.prog X0 w0 (binOp .lss 3 (I p1) (I 0)) fun x9_6 =>
 (condW x9_6
 (rdV Tryz.prog X0 w0 (Op.unary UnOp.xor x7_3) fun x11_7 =>
 (k_9 x11_7))
 (k_9 x7_3))))
theorem ok_wire_Writer_Int {R : Ending → World → Prop} {w0 : World} {p0 : Value} {p1 : Int} (h : vc_wire_Writer_Int R w0 (old w0) p0 p1) : Calls Tryz.prog 206 #[p0, (I p1)] w0 R :=
  calls_of_vc (pl := pl_wire_Writer_Int) Tryz.func206 (by kernel_rfl) (by kernel_rfl) h
noncomputable def pl_coder_Coder_Text : Plan := ⟨26, [], [], [0, 1, 8], [], []⟩
def vc_coder_Coder_Text (R : Ending → World → Prop) (w0 : World) (X0 : XS) (p0 p1 : Value) : Prop :=
 rdW Tryz.prog X0 w0 (nilN p0) fun x5_3 =>
 rdV Tryz.prog X0 w0 (fld 175 0 0 1 x5_3) fun x6_4 =>
 rdV Tryz.prog X0 w0 (ld1 173 x6_4) fun x7_5 =>
 rdV Tryz.prog X0 w0 (binS .neq 173 (.tmp 7) (.const (.pointer none)) x7_5 (.pointer none)) fun x8_6 =>
 (condW x8_6
 (rdW Tryz.prog X0 w0 (nilN p0) fun x10_8 =>
 rdV Tryz.prog X0 w0 (fld 175 0 0 1 x10_8) fun x11_9 =>
 rdV Tryz.prog X0 w0 (ld1 173 x11_9) fun x12_10 =>
 rdW Tryz.prog X0 w0 (nilN p1) fun x14_11 =>
 rdV Tryz.prog X0 w0 (ld1 9 x14_11) fun x15_12 =>
 eC Tryz.prog R X0 w0 true 291 #[x12_10, x15_12] fun _ w_14 X_15 =>
 (fin R X_15 w_14 (Value.tuple #[])))
 ((rdW Tryz.prog X0 w0 (nilN p0) fun x19_17 =>
 rdV Tryz.prog X0 w0 (fld 175 1 1 1 x19_17) fun x20_18 =>
 rdV Tryz.prog X0 w0 (ld1 169 x20_18) fun x21_19 =>
 eC Tryz.prog R X0 w0 true 292 #[x21_19, (I 262144)] fun x22_20 w_21 X_22 =>
 rdW Tryz.prog X_22 w_21 (nilN p1) fun x23_23 =>
 eU Tryz.prog R X_22 w_21 true (st1 9 1 x23_23 x22_20) fun _ w_24 X_25 =>
 (eC Tryz.prog R X_25 w_24 true 208 #[p0] fun _ w_27 X_28 =>
 fin R X_28 w_27 (Value.tuple #[])))))
theorem ok_coder_Coder_Text {R : Ending → World → Prop} {w0 : World} {p0 p1 : Value} (h : vc_coder_Coder_Text R w0 (old w0) p0 p1) : Calls Tryz.prog 214 #[p0, p1] w0 R :=
  calls_of_vc (pl := pl_coder_Coder_Text) Tryz.func214 (by kernel_rfl) (by kernel_rfl) h
noncomputable def pl_wire_Writer_Float : Plan := ⟨23, [], [], [0, 1, 4, 7, 8], [], [4, 7]⟩
def vc_wire_Writer_Float (R : Ending → World → Prop) (w0 : World) (X0 : XS) (p0 : Value) (p1 : Nat) : Prop :=
 eC Tryz.prog R X0 w0 true 225 #[(.float .f64 p1)] fun x6_2 w_3 X_4 =>
 ((lp2 X_4 w_3 (I 0) x6_2 7 4 fun J_7 n_8 v_12 v_13 w_10 X_11 =>
 rdV Tryz.prog X_11 w_10 (binOp .lss 3 v_12 (I 8)) fun x8_15 =>
 (condW x8_15
 ((rdW Tryz.prog X_11 w_10 (nilN p0) fun x11_20 =>
 rdV Tryz.prog X_11 w_10 (fld 308 0 0 1 x11_20) fun x12_21 =>
 rdV Tryz.prog X_11 w_10 (ld1 95 x12_21) fun x13_22 =>
 rdV Tryz.prog X_11 w_10 (cvI IntKind.u8 196 5 v_13) fun x15_23 =>
 eV Tryz.prog R X_11 w_10 true (bsS 95 5 1 1 #[(0, x15_23)]) fun x16_24 w_25 X_26 =>
 eV Tryz.prog R X_26 w_25 true (apS 95 5 1 1 95 x13_22 x16_24) fun x17_27 w_28 X_29 =>
 rdW Tryz.prog X_29 w_28 (nilN p0) fun x18_30 =>
 rdV Tryz.prog X_29 w_28 (fld 308 0 0 1 x18_30) fun x19_31 =>
 eU Tryz.prog R X_29 w_28 true (st1 95 1 x19_31 x17_27) fun _ w_32 X_33 =>
 (rdV Tryz.prog X_33 w_32 (binOp .shr 196 v_13 (Value.int IntKind.u64 8)) fun x21_34 =>
 ((rdV Tryz.prog X_33 w_32 (binOp .add 3 v_12 (I 1)) fun x22_35 =>
 nx2 J_7 n_8 x22_35 x21_34 w_32 X_33)))))
 (fin R X_11 w_10 (Value.tuple #[])))))
theorem ok_wire_Writer_Float {R : Ending → World → Prop} {w0 : World} {p0 : Value} {p1 : Nat} (h : vc_wire_Writer_Float R w0 (old w0) p0 p1) : Calls Tryz.prog 219 #[p0, (.float .f64 p1)] w0 R :=
  calls_of_vc (pl := pl_wire_Writer_Float) Tryz.func219 (by kernel_rfl) (by kernel_rfl) h
noncomputable def pl_coder_Coder_Value : Plan := ⟨26, [], [], [0, 1, 8], [], []⟩
def vc_coder_Coder_Value (R : Ending → World → Prop) (w0 : World) (X0 : XS) (p0 p1 : Value) : Prop :=
 rdW Tryz.prog X0 w0 (nilN p0) fun x5_3 =>
 rdV Tryz.prog X0 w0 (fld 175 0 0 1 x5_3) fun x6_4 =>
 rdV Tryz.prog X0 w0 (ld1 173 x6_4) fun x7_5 =>
 rdV Tryz.prog X0 w0 (binS .neq 173 (.tmp 7) (.const (.pointer none)) x7_5 (.pointer none)) fun x8_6 =>
 (condW x8_6
 (rdW Tryz.prog X0 w0 (nilN p0) fun x10_8 =>
 rdV Tryz.prog X0 w0 (fld 175 0 0 1 x10_8) fun x11_9 =>
 rdV Tryz.prog X0 w0 (ld1 173 x11_9) fun x12_10 =>
 rdW Tryz.prog X0 w0 (nilN p1) fun x14_11 =>
 rdV Tryz.prog X0 w0 (ldA 51 3 x14_11) fun x15_12 =>
 eC Tryz.prog R X0 w0 true 296 #[x12_10, x15_12] fun _ w_14 X_15 =>
 (fin R X_15 w_14 (Value.tuple #[])))
 ((rdW Tryz.prog X0 w0 (nilN p0) fun x19_17 =>
 rdV Tryz.prog X0 w0 (fld 175 1 1 1 x19_17) fun x20_18 =>
 rdV Tryz.prog X0 w0 (ld1 169 x20_18) fun x21_19 =>
 eC Tryz.prog R X0 w0 true 297 #[x21_19] fun x22_20 w_21 X_22 =>
 rdW Tryz.prog X_22 w_21 (nilN p1) fun x23_23 =>
 eU Tryz.prog R X_22 w_21 true (st1 51 3 x23_23 x22_20) fun _ w_24 X_25 =>
 (eC Tryz.prog R X_25 w_24 true 208 #[p0] fun _ w_27 X_28 =>
 fin R X_28 w_27 (Value.tuple #[])))))
theorem ok_coder_Coder_Value {R : Ending → World → Prop} {w0 : World} {p0 p1 : Value} (h : vc_coder_Coder_Value R w0 (old w0) p0 p1) : Calls Tryz.prog 221 #[p0, p1] w0 R :=
  calls_of_vc (pl := pl_coder_Coder_Value) Tryz.func221 (by kernel_rfl) (by kernel_rfl) h
end Go.Proofs.YtpdkoaklobnegaaGreat
