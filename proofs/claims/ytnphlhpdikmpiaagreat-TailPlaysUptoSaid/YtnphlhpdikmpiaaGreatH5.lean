/-
  Part 5 of the proof: what the last text leans on.
-/
import Derived.Laws.Pointers
import Derived.Shelf.SlSortCmp.WholeK
import Derived.Shelf.SlSortCmp.NoneTotal
import Derived.Test.YtnphlhpdikmpiaaGreatH4
namespace Go.Eng
open Go.Sort Go.Shelf Go.RowKit Go.Proofs
variable {P : Program} {ρ : Ren} {α : Type}
def Grew (W w' : World) : Prop := ∃ os', w' = Go.Sort.grow W os'
theorem flat_get [Inhabited α] {enc : α → List Value} {k : Nat} (hk : ∀ x, (enc x).length = k) (h0 : 0 < k) : ∀ (l : List α) (t : Nat), t < l.length * k → ((l.map enc).flatten)[t]? = some ((enc l[t / k]!)[t % k]!)
  | [], t, h => by simp at h
  | x :: l, t, h => by
    rw [List.map_cons, List.flatten_cons]
    by_cases ht : t < k
    · rw [List.getElem?_append_left (by rw [hk]; exact ht), Nat.div_eq_of_lt ht, Nat.mod_eq_of_lt ht]
      have : t < (enc x).length := by rw [hk]; exact ht
      simp [this]
    · obtain ⟨s, rfl⟩ : ∃ s, t = s + k := ⟨t - k, by omega⟩
      rw [List.getElem?_append_right (by rw [hk]; omega), hk, Nat.add_sub_cancel, Nat.add_div_right _ h0, Nat.add_mod_right]
      have hs : s < l.length * k := by rw [List.length_cons, Nat.succ_mul] at h; omega
      rw [flat_get hk h0 l s hs]
      simp
theorem flatK_list [Inhabited α] {enc : α → List Value} {k : Nat} (hk : ∀ x, (enc x).length = k) (h0 : 0 < k) (l : List α) : (flatK enc k l.toArray).toList = (l.map enc).flatten := by
  have hl : ((l.map enc).flatten).length = l.length * k := by
    rw [flat_len (k := k) (by intro r hr; obtain ⟨x, _, rfl⟩ := List.mem_map.1 hr; exact hk x)]; simp
  apply List.ext_getElem?
  intro t
  by_cases ht : t < l.length * k
  · rw [flat_get hk h0 l t ht]
    have h1 : t < (flatK enc k l.toArray).size := by simpa using ht
    have h2 := get_flatK enc k l.toArray t (by simpa using ht)
    rw [getElem!_pos (flatK enc k l.toArray) t h1] at h2
    rw [Array.getElem?_toList, Array.getElem?_eq_getElem h1, h2]
    simp
  · rw [List.getElem?_eq_none (by simp; omega), List.getElem?_eq_none (by omega)]
theorem putCells_list (F cs : Array Value) (h : F.size ≤ cs.size) : (putCells id 0 F cs).toList = F.toList ++ cs.toList.drop F.size := by
  apply List.ext_getElem?
  intro t
  unfold putCells
  rw [Array.getElem?_toList, Array.getElem?_mapIdx]
  by_cases ht : t < F.size
  · rw [List.getElem?_append_left (by simpa using ht), Array.getElem?_eq_getElem (by omega)]
    simp [ht]
  · rw [List.getElem?_append_right (by simpa using (by omega : F.size ≤ t)), List.getElem?_drop]
    simp only [Array.length_toList, Array.getElem?_toList]
    rw [show F.size + (t - F.size) = t by omega]
    cases cs[t]? with
    | none => rfl
    | some x => simp; intro h; omega
theorem ct_sort [Inhabited α] (L : SlLaysF0.n6 P ρ) {k : Nat} (h0 : 0 < k) {e : TypeId} (aE : ∀ w, (isAgg (ρ.t 24)).run P w = .ok true w) (zE : ∀ w, (Go.sizeOf (ρ.t 24)).run P w = .ok k w) {enc : α → List Value} (hk : ∀ x, (enc x).length = k)
    (h1 : ∀ x, ∀ v ∈ enc x, v.oneCell' = true) {cf : α → α → Int} (hO : SWO (ltOf cf)) {g : Nat} (eg : ∀ args w, (callFunc g args).run P w = .ok (.enter g args) w)
    (hcmp : ∀ x y W, Calls P g #[.agg (enc x).toArray, .agg (enc y).toArray] W fun e w' => e = .returned (.int .i64 (cf x y)) ∧ Grew W w')
    {w : World} {X : XS} {lo : Nat} {v : Value} {xs : List α} (own : Own w X lo e k v (xs.map enc)) (hb : xs.length < 2 ^ 61) :
    Ct P (ρ.f 6) #[v, .func (.func g) #[] #[]] w X (blk v) fun r _ w' => r = .tuple #[] ∧ ∃ ys : List α, ys.Perm xs ∧ ys.Pairwise (fun a b => ltOf cf b a = false) ∧ Own w' (blk v) lo e k v (ys.map enc) := by
  intro w0 hkp
  have own0 := own.mv hkp.mv
  have emp : ∀ (p : Option Addr) (cap : Nat), v = .slice p 0 cap → xs = [] → Calls P (ρ.f 6) #[v, .func (.func g) #[] #[]] w0 (Ret (blk v) w0 fun r w' => r = .tuple #[] ∧ ∃ ys : List α, ys.Perm xs ∧ ys.Pairwise (fun a b => ltOf cf b a = false) ∧ Own w' (blk v) lo e k v (ys.map enc)) := by
    intro p cap hv hx
    have ho : Own w0 (blk v) lo e k v (xs.map enc) := ⟨own0.1, own0.2.1, fun _ hg => hg⟩
    subst hx
    rw [hv] at ho ⊢
    exact (AnyF.slices_SortFunc_none L p cap (.func (.func g) #[] #[]) w0).mono fun e w' ⟨he, hw⟩ => ⟨_, he, by subst hw; exact ⟨rfl, rfl, rfl, Nat.le_refl _, fun _ _ _ => rfl⟩, rfl, [], List.Perm.refl _, List.Pairwise.nil, by subst hw; exact ho⟩
  rcases own0.row with ⟨hv, he⟩ | ⟨b, cap, cs, hv, hlo, hrow, hnc, hcm, hcl, htk⟩
  · exact emp none 0 hv (by simpa using he)
  · rw [List.length_map] at hv hnc htk
    by_cases hx : xs = []
    · exact emp _ cap (by rw [hv, hx]; rfl) hx
    have hH : HoldsK enc k w0 b 0 xs.toArray := by
      intro j hj
      have hj' : j < xs.length * k := by simpa using hj
      have hlt : j < cs.length := by
        rw [hcl]; exact Nat.lt_of_lt_of_le hj' (Nat.mul_le_mul_right _ hnc)
      have hf := flat_get hk h0 xs j hj'
      rw [← htk, List.getElem?_take_of_lt hj'] at hf
      refine ⟨?_, ?_⟩
      · unfold World.cell?
        rw [hrow.2]
        simp only [Nat.zero_add, Option.isSome_none, Bool.false_eq_true, if_false, id]
        rw [get_flatK enc k _ _ (by simpa using hj')]
        simpa using hf
      · unfold World.frozen?
        rw [hrow.2]; simp
    have hc := AnyQ.slices_SortFunc L k aE zE enc hk h1 cf hO g #[] b 0 cap xs.toArray w0 eg (fun m os dk _ x y => (hcmp x y _).mono fun _ _ ⟨he, os', hw⟩ => ⟨he, 0, os', by rw [hw]; rfl⟩) hH hrow.lt (by simp; omega)
    rw [show xs.toArray.size = xs.length by simp] at hc
    rw [hv]
    refine hc.mono ?_
    rintro _ w' ⟨rfl, d', n, os, hp, hs, rfl⟩
    obtain ⟨hps, _, hpp⟩ := hp
    have hps : d'.size = xs.length := by simpa using hps
    have hblk : ∀ q, q < w0.heap.size → ¬ blk (.slice (some ⟨b, 0, none⟩) xs.length cap) q → q ≠ b := fun q _ hq e => hq (by rw [e]; rfl)
    have hbl := hrow.lt
    have hheap : (sortWorldK enc k w0 b 0 n d' os).heap = (w0.heap.modify b (onCells (putCells id 0 (flatK enc k d')))) ++ os := rfl
    have hF : (flatK enc k d').toList = (d'.toList.map enc).flatten := by
      have := flatK_list hk h0 d'.toList
      simpa using this
    have hFs : (flatK enc k d').size = xs.length * k := by rw [size_flatK, hps]
    refine ⟨_, rfl, ⟨rfl, rfl, rfl, ?_, ?_⟩, rfl, d'.toList, ?_, ?_, ?_⟩
    · rw [hheap]; simp
    · intro q hq hn
      have hne := hblk q hq hn
      rw [hheap, Array.getElem?_append_left (by simpa using hq), Array.getElem?_modify, if_neg (Ne.symm hne)]
    · have h3 : (d'.extract 0 xs.length) = d' := by rw [← hps]; simp
      have h4 : (xs.toArray.extract 0 xs.length) = xs.toArray := by simp
      rw [h3, h4] at hpp
      simpa using hpp
    · rw [List.pairwise_iff_getElem]
      intro i j hi hj hij
      have := hs i j (Nat.zero_le _) hij (by rw [← hps]; simpa using hj)
      rw [getElem!_pos d' j (by simpa using hj), getElem!_pos d' i (by simpa using hi)] at this
      simpa using this
    · have hnew : (sortWorldK enc k w0 b 0 n d' os).heap[b]? = some (.cells (putCells id 0 (flatK enc k d') cs.toArray) e (0, 0)) := by
        rw [hheap, Array.getElem?_append_left (by simpa using hbl), Array.getElem?_modify, if_pos rfl, hrow.2]
        rfl
      have hle : xs.length * k ≤ cs.length := by rw [hcl]; exact Nat.mul_le_mul_right _ hnc
      have hpl := putCells_list (flatK enc k d') cs.toArray (by rw [hFs]; simpa using hle)
      have hrow' : RowIs (sortWorldK enc k w0 b 0 n d' os) (blk (.slice (some ⟨b, 0, none⟩) xs.length cap)) b (putCells id 0 (flatK enc k d') cs.toArray).toList e := ⟨rfl, by rw [hnew]⟩
      refine Own.of_row hrow' hlo (by intro r hr; obtain ⟨x, _, rfl⟩ := List.mem_map.1 hr; exact hk x) (by simpa using hps) hnc hcm ?_ ?_
      · rw [hpl, List.length_append, List.length_drop, Array.length_toList, hFs]; simp; omega
      · rw [hpl, List.take_append_of_le_length (by simp [hps]), List.take_of_length_le (by simp [hps]), hF]
def litOk (P : Program) (t e k : Nat) : Bool := match P.underlying t, P.info? e with
  | some (.slice e'), some i => e' == e && i.size == k && (match i.zero with | some z => z.cells.size == k | none => false) && decide (0 < k) && decide (k ≤ 2 ^ 20)
  | _, _ => false
theorem litOk_iff {t e k : Nat} (h : litOk P t e k = true) : P.underlying t = some (.slice e) ∧ 0 < k ∧ k ≤ 2 ^ 20 ∧ ∃ z : Value, (P.info? e).bind (fun i => i.zero.map fun z => (i.size, z)) = some (k, z) := by
  unfold litOk at h
  split at h
  · rename_i e' i hu hi
    simp only [Bool.and_eq_true, beq_iff_eq, decide_eq_true_eq] at h
    obtain ⟨⟨⟨⟨rfl, h2⟩, h4⟩, h5⟩, h6⟩ := h
    cases hz : i.zero with
    | none => simp [hz] at h4
    | some z => exact ⟨hu, h5, h6, z, by simp [hi, hz, h2]⟩
  · cases h
section
variable {w : World} {X : XS} {R : Ending → World → Prop} {t e k : Nat} {m : Bool} {N : Value → World → XS → Prop}
theorem m_bs1 {l : List Value} (hX : ∀ k, X k → k < w.heap.size) (he : litOk P t e k = true) (hk : (l.length == k) = true)
    (n : ∀ v w' X', Since X w X' w' → Own w' X' w.heap.size e k v [l] → N v w' X') : eV P R X w m (bsS t e k 1 #[(0, .agg l.toArray)]) N := by
  obtain ⟨hu, h0, h1, z, hz⟩ := litOk_iff he
  have hk' : l.length = k := by simpa using hk
  refine eV_slice (rows := [l]) l.toArray z hX hu hz (by omega) (by omega) ?_ (by simpa using hk') rfl (by simp) n
  simp only [Nat.one_mul]
  exact fill_one (x := .agg l.toArray) (by simpa [Value.cells] using hk') (by simp)
theorem m_bs1s {x : Value} (hX : ∀ k, X k → k < w.heap.size) (he : litOk P t e k = true) (ho : one x = true) (hk : (k == 1) = true)
    (n : ∀ v w' X', Since X w X' w' → Own w' X' w.heap.size e k v [[x]] → N v w' X') : eV P R X w m (bsS t e k 1 #[(0, x)]) N := by
  obtain ⟨hu, h0, h1, z, hz⟩ := litOk_iff he
  have hk' : 1 = k := by simpa using (beq_iff_eq.1 hk).symm
  have hc := one_cells ho
  refine eV_slice (rows := [[x]]) x.cells z hX hu hz (by omega) (by omega) ?_ (by simpa using hk') rfl (by rw [hc]; rfl) n
  simp only [Nat.one_mul]
  exact fill_one (by rw [hc]; simpa using hk') (by simp)
end
def isPtr (P : Program) (t : TypeId) : Bool := match P.underlying t with
  | some (.pointer _) => true
  | _ => false
theorem isPtr_iff {t : TypeId} (h : isPtr P t = true) : P.underlying t = some (.pointer (P.pointee t)) := by
  unfold isPtr at h
  split at h
  · rename_i e he; simp [Program.pointee, he]
  · cases h
section
variable {w : World} {X : XS} {N : Value → Prop} {t : TypeId} {xo yo : Operand}
theorem m_pnilF {a : Addr} (ht : isPtr P t = true) (k : N (.bool false)) : rdV P X w (binS .eql t xo yo (.pointer (some a)) (.pointer none)) N := rdV_pnil (p := some a) (isPtr_iff ht) k
theorem m_pnilT (ht : isPtr P t = true) (k : N (.bool true)) : rdV P X w (binS .eql t xo yo (.pointer none) (.pointer none)) N := rdV_pnil (p := none) (isPtr_iff ht) k
end
end Go.Eng
