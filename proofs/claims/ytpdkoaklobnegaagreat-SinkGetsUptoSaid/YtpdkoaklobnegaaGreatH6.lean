/-
  Part 6 of the proof: what the last text leans on.
-/
import Derived.Shelf.SlIter.Nil
import Derived.Shelf.SortM.Plain
import Derived.Shelf.SortM.SortNone
import Derived.Ground.GgzProg
import Derived.Ground.SlgmProg
import Derived.Shelf.SlGeneric
import Derived.Test.YtpdkoaklobnegaaGreatProg
import Derived.Test.YtpdkoaklobnegaaGreatH5
namespace Go.Proofs
open Go.Shelf
def Tryz.sortedS_ren : Go.Shelf.Ren := ⟨fun | 6 => 48 | 8 => 96 | 9 => 97 | 11 => 160 | 13 => 162 | 12 => 161 | 23 => 236 | 24 => 237 | 14 => 227 | 15 => 228 | 16 => 229 | 17 => 230 | 18 => 231 | 19 => 232 | 20 => 233 | 21 => 234 | 22 => 235 | 25 => 306 | 26 => 307 | 27 => 308 | 28 => 309 | 29 => 310 | 30 => 311 | 31 => 349 | n => n, fun | 26 => 9 | 28 => 124 | 24 => 36 | 0 => 0 | 3 => 3 | 37 => 256 | 48 => 281 | 50 => 196 | 4 => 4 | 40 => 312 | 39 => 311 | 45 => 317 | 5 => 5 | 9 => 9 | 51 => 370 | 55 => 225 | 57 => 403 | 58 => 404 | 33 => 150 | n => n, fun | n => n⟩
theorem Tryz.sortedS : Go.Proofs.SlLaysZ.n6 Tryz.prog Tryz.sortedS_ren := {
  mixed := by kernel_rfl
  f6 := ⟨Tryz.f48.name, by decide, Tryz.func48.trans (congrArg some (by kernel_rfl))⟩
  f8 := ⟨Tryz.f96.name, by decide, Tryz.func96.trans (congrArg some (by kernel_rfl))⟩
  f11 := ⟨Tryz.f160.name, by decide, Tryz.func160.trans (congrArg some (by kernel_rfl))⟩
  t0 := Tryz.underlying0
  a0 := Tryz.isAgg0
  z0 := Tryz.sizeOf0
  v0 := Tryz.zeroValue0
  t24 := Tryz.underlying36
  a24 := Tryz.isAgg36
  z24 := Tryz.sizeOf36
  v24 := Tryz.zeroValue36
  t26 := Tryz.underlying9
  a26 := Tryz.isAgg9
  z26 := Tryz.sizeOf9
  v26 := Tryz.zeroValue9
  t28 := Tryz.underlying124
  a28 := Tryz.isAgg124
  z28 := Tryz.sizeOf124
  v28 := Tryz.zeroValue124
  i26 := by kernel_rfl }
def Tryz.sortS_ren : Go.Shelf.Ren := ⟨fun | 6 => 97 | 8 => 162 | 9 => 161 | 19 => 236 | 20 => 237 | 21 => 227 | 22 => 228 | 23 => 229 | 24 => 230 | 25 => 231 | 26 => 232 | 27 => 233 | 28 => 234 | 29 => 235 | 36 => 306 | 31 => 307 | 32 => 308 | 37 => 309 | 38 => 310 | 39 => 311 | 41 => 349 | n => n, fun | 27 => 36 | 29 => 9 | 3 => 3 | 32 => 256 | 26 => 36 | 0 => 0 | 44 => 281 | 46 => 196 | 4 => 4 | 36 => 312 | 35 => 311 | 41 => 317 | 5 => 5 | 9 => 9 | 53 => 370 | 57 => 225 | 63 => 403 | 64 => 404 | n => n, fun | n => n⟩
theorem Tryz.sortS : Go.Proofs.SlLaysM.n6 Tryz.prog Tryz.sortS_ren := {
  mixed := by kernel_rfl
  f6 := ⟨Tryz.f97.name, by decide, Tryz.func97.trans (congrArg some (by kernel_rfl))⟩
  f8 := Tryz.func162.trans (congrArg some (by kernel_rfl))
  f9 := ⟨Tryz.f161.name, by decide, Tryz.func161.trans (congrArg some (by kernel_rfl))⟩
  f19 := Tryz.func236.trans (congrArg some (by kernel_rfl))
  f20 := Tryz.func237.trans (congrArg some (by kernel_rfl))
  f21 := ⟨Tryz.f227.name, by decide, Tryz.func227.trans (congrArg some (by kernel_rfl))⟩
  f22 := ⟨Tryz.f228.name, by decide, Tryz.func228.trans (congrArg some (by kernel_rfl))⟩
  f23 := ⟨Tryz.f229.name, by decide, Tryz.func229.trans (congrArg some (by kernel_rfl))⟩
  f24 := ⟨Tryz.f230.name, by decide, Tryz.func230.trans (congrArg some (by kernel_rfl))⟩
  f25 := ⟨Tryz.f231.name, by decide, Tryz.func231.trans (congrArg some (by kernel_rfl))⟩
  f26 := ⟨Tryz.f232.name, by decide, Tryz.func232.trans (congrArg some (by kernel_rfl))⟩
  f27 := ⟨Tryz.f233.name, by decide, Tryz.func233.trans (congrArg some (by kernel_rfl))⟩
  f28 := ⟨Tryz.f234.name, by decide, Tryz.func234.trans (congrArg some (by kernel_rfl))⟩
  f29 := ⟨Tryz.f235.name, by decide, Tryz.func235.trans (congrArg some (by kernel_rfl))⟩
  f31 := Tryz.func307.trans (congrArg some (by kernel_rfl))
  f32 := Tryz.func308.trans (congrArg some (by kernel_rfl))
  f36 := ⟨Tryz.f306.name, by decide, Tryz.func306.trans (congrArg some (by kernel_rfl))⟩
  f37 := ⟨Tryz.f309.name, by decide, Tryz.func309.trans (congrArg some (by kernel_rfl))⟩
  f38 := ⟨Tryz.f310.name, by decide, Tryz.func310.trans (congrArg some (by kernel_rfl))⟩
  f39 := ⟨Tryz.f311.name, by decide, Tryz.func311.trans (congrArg some (by kernel_rfl))⟩
  f41 := ⟨Tryz.f349.name, by decide, Tryz.func349.trans (congrArg some (by kernel_rfl))⟩
  t0 := Tryz.underlying0
  a0 := Tryz.isAgg0
  z0 := Tryz.sizeOf0
  v0 := Tryz.zeroValue0
  t3 := Tryz.underlying3
  a3 := Tryz.isAgg3
  z3 := Tryz.sizeOf3
  v3 := Tryz.zeroValue3
  t4 := Tryz.underlying4
  a4 := Tryz.isAgg4
  z4 := Tryz.sizeOf4
  v4 := Tryz.zeroValue4
  t5 := Tryz.underlying5
  a5 := Tryz.isAgg5
  z5 := Tryz.sizeOf5
  v5 := Tryz.zeroValue5
  t9 := Tryz.underlying9
  a9 := Tryz.isAgg9
  z9 := Tryz.sizeOf9
  v9 := Tryz.zeroValue9
  t26 := Tryz.underlying36
  a26 := Tryz.isAgg36
  z26 := Tryz.sizeOf36
  v26 := Tryz.zeroValue36
  t27 := Tryz.underlying36
  a27 := Tryz.isAgg36
  z27 := Tryz.sizeOf36
  v27 := Tryz.zeroValue36
  t29 := Tryz.underlying9
  a29 := Tryz.isAgg9
  z29 := Tryz.sizeOf9
  v29 := Tryz.zeroValue9
  t32 := Tryz.underlying256
  a32 := Tryz.isAgg256
  z32 := Tryz.sizeOf256
  v32 := Tryz.zeroValue256
  t35 := Tryz.underlying311
  a35 := Tryz.isAgg311
  z35 := Tryz.sizeOf311
  v35 := Tryz.zeroValue311
  t36 := Tryz.underlying312
  a36 := Tryz.isAgg312
  z36 := Tryz.sizeOf312
  v36 := Tryz.zeroValue312
  t41 := Tryz.underlying317
  a41 := Tryz.isAgg317
  z41 := Tryz.sizeOf317
  v41 := Tryz.zeroValue317
  t44 := Tryz.underlying281
  a44 := Tryz.isAgg281
  z44 := Tryz.sizeOf281
  v44 := Tryz.zeroValue281
  t46 := Tryz.underlying196
  a46 := Tryz.isAgg196
  z46 := Tryz.sizeOf196
  v46 := Tryz.zeroValue196
  t53 := Tryz.underlying370
  a53 := Tryz.isAgg370
  z53 := Tryz.sizeOf370
  v53 := Tryz.zeroValue370
  t57 := Tryz.underlying225
  a57 := Tryz.isAgg225
  z57 := Tryz.sizeOf225
  v57 := Tryz.zeroValue225
  t63 := Tryz.underlying403
  a63 := Tryz.isAgg403
  z63 := Tryz.sizeOf403
  v63 := Tryz.zeroValue403
  t64 := Tryz.underlying404
  a64 := Tryz.isAgg404
  z64 := Tryz.sizeOf404
  v64 := Tryz.zeroValue404 }
def Tryz.keysV_ren : Go.Shelf.Ren := ⟨fun | 7 => 49 | 10 => 98 | n => n, fun | 23 => 110 | 26 => 9 | 3 => 51 | 28 => 124 | 0 => 0 | 27 => 123 | 33 => 150 | 4 => 4 | n => n, fun | n => n⟩
theorem Tryz.keysV : Go.Proofs.SlLaysZ.n7 Tryz.prog Tryz.keysV_ren := {
  mixed := by kernel_rfl
  f7 := ⟨Tryz.f49.name, by decide, Tryz.func49.trans (congrArg some (by kernel_rfl))⟩
  f10 := ⟨Tryz.f98.name, by decide, Tryz.func98.trans (congrArg some (by kernel_rfl))⟩
  t0 := Tryz.underlying0
  a0 := Tryz.isAgg0
  z0 := Tryz.sizeOf0
  v0 := Tryz.zeroValue0
  t4 := Tryz.underlying4
  a4 := Tryz.isAgg4
  z4 := Tryz.sizeOf4
  v4 := Tryz.zeroValue4
  t23 := Tryz.underlying110
  a23 := Tryz.isAgg110
  z23 := Tryz.sizeOf110
  v23 := Tryz.zeroValue110
  t26 := Tryz.underlying9
  a26 := Tryz.isAgg9
  z26 := Tryz.sizeOf9
  v26 := Tryz.zeroValue9
  t27 := Tryz.underlying123
  a27 := Tryz.isAgg123
  z27 := Tryz.sizeOf123
  v27 := Tryz.zeroValue123
  t28 := Tryz.underlying124
  a28 := Tryz.isAgg124
  z28 := Tryz.sizeOf124
  v28 := Tryz.zeroValue124
  t33 := Tryz.underlying150
  a33 := Tryz.isAgg150
  z33 := Tryz.sizeOf150
  v33 := Tryz.zeroValue150 }
def Tryz.keysF_ren : Go.Shelf.Ren := ⟨fun | 7 => 59 | 10 => 107 | n => n, fun | 23 => 104 | 26 => 9 | 3 => 135 | 28 => 124 | 0 => 0 | 27 => 123 | 33 => 150 | 4 => 4 | n => n, fun | n => n⟩
theorem Tryz.keysF : Go.Proofs.SlLaysZ.n7 Tryz.prog Tryz.keysF_ren := {
  mixed := by kernel_rfl
  f7 := ⟨Tryz.f59.name, by decide, Tryz.func59.trans (congrArg some (by kernel_rfl))⟩
  f10 := ⟨Tryz.f107.name, by decide, Tryz.func107.trans (congrArg some (by kernel_rfl))⟩
  t0 := Tryz.underlying0
  a0 := Tryz.isAgg0
  z0 := Tryz.sizeOf0
  v0 := Tryz.zeroValue0
  t4 := Tryz.underlying4
  a4 := Tryz.isAgg4
  z4 := Tryz.sizeOf4
  v4 := Tryz.zeroValue4
  t23 := Tryz.underlying104
  a23 := Tryz.isAgg104
  z23 := Tryz.sizeOf104
  v23 := Tryz.zeroValue104
  t26 := Tryz.underlying9
  a26 := Tryz.isAgg9
  z26 := Tryz.sizeOf9
  v26 := Tryz.zeroValue9
  t27 := Tryz.underlying123
  a27 := Tryz.isAgg123
  z27 := Tryz.sizeOf123
  v27 := Tryz.zeroValue123
  t28 := Tryz.underlying124
  a28 := Tryz.isAgg124
  z28 := Tryz.sizeOf124
  v28 := Tryz.zeroValue124
  t33 := Tryz.underlying150
  a33 := Tryz.isAgg150
  z33 := Tryz.sizeOf150
  v33 := Tryz.zeroValue150 }
end Go.Proofs
namespace Go.Proofs.YtpdkoaklobnegaaGreat
open Go.Eng Go.RowKit Go.Maps Go.Sort Go.Shelf Go.Proofs
set_option maxRecDepth 100000
set_option maxHeartbeats 1000000
set_option linter.unusedVariables false
set_option linter.unusedSimpArgs false
theorem insert_perm {H : Type} (x : Lit × DataW H) : ∀ l : List (Lit × DataW H), (DataW.insert x l).Perm (x :: l)
  | [] => List.Perm.refl _
  | y :: r => by
    unfold DataW.insert
    split
    · exact List.Perm.refl _
    · exact ((insert_perm x r).cons y).trans (List.Perm.swap x y r)
theorem inserts_perm {H : Type} : ∀ l : List (Lit × DataW H), (l.foldr DataW.insert []).Perm l
  | [] => List.Perm.refl _
  | x :: l => (insert_perm x _).trans ((inserts_perm l).cons x)
def RT : Value → Option (DataW Unit × List MemPlace) := fun _ => some (.lit (.bool true), [])
theorem owns_of_map {P : Program} {w : World} {X : XS} {b kt c : Nat} {es : List (Ent ByteArray)} (h : MapIs w X b Value.string es c) (hk : P.underlying kt = some .string) (hs : ∀ x ∈ es, x.1.size ≤ 2 ^ 40) (hl : es.length ≤ 2 ^ 40) :
    ∃ D0 : DataW Unit, w.ownsMap P kt RT b es.length D0 ∧ Maps.size D0 = es.length ∧ (strKeys D0).Perm (es.map fun x => x.1.data.toList) := by
  have hmx : (2 : Nat) ^ 40 ≤ maxLen := by decide
  have hkey : ∀ x ∈ es, keyOf P kt (.string x.1) = some (.string x.1.data.toList) := fun x hx => by
    unfold keyOf mapKey
    rw [hk]
    simp [Nat.le_trans (hs x hx) hmx]
  have hrd : ∀ x ∈ es, WideElems.rd P kt RT (ent Value.string x) = some (.string x.1.data.toList, .lit (.bool true)) := fun x hx => by
    unfold WideElems.rd ent RT
    simp [hkey x hx]
  have hmap : (es.map (ent Value.string)).map (WideElems.rg P kt RT) = es.map fun x => ((.string x.1.data.toList : Lit), (.lit (.bool true) : DataW Unit)) := by
    rw [List.map_map]
    apply List.map_congr_left
    intro x hx
    simp only [Function.comp, WideElems.rg, hrd x hx, Option.getD_some]
  refine ⟨.map (((es.map (ent Value.string)).map (WideElems.rg P kt RT)).foldr DataW.insert []), ⟨_, c, h.2.1, ⟨?_, ⟨?_, ?_, ?_⟩, ?_⟩, by simp, by simp⟩, ?_, ?_⟩
  · simpa using Nat.le_trans hl hmx
  · intro x hx
    simp only [List.toList_toArray, List.mem_map] at hx
    obtain ⟨y, hy, rfl⟩ := hx
    exact h.2.2.2.2 y hy
  · have := h.2.2.2.1
    simpa [List.map_map, Function.comp_def, ent] using this
  · have h1 := h.2.2.1
    have e : ((es.map (ent Value.string)).toArray.toList.map (·.key)) = (es.map (·.1)).map Value.string := by simp [List.map_map, Function.comp_def, ent]
    rw [e]
    exact List.Pairwise.map Value.string (fun a b hab e => hab (by cases e; rfl)) h1
  · intro x hx
    simp only [List.toList_toArray, List.mem_map] at hx
    obtain ⟨y, hy, rfl⟩ := hx
    exact ⟨_, hrd y hy⟩
  · show List.length _ = _
    rw [(inserts_perm _).length_eq]; simp
  · show (List.map _ _).Perm _
    refine ((inserts_perm _).map _).trans ?_
    rw [hmap, List.map_map]
    exact List.Perm.refl _
def leB (x y : List UInt8) : Bool := decide (x ≤ y)
def bl (s : ByteArray) : List UInt8 := s.data.toList
theorem bl_mk (s : ByteArray) : (⟨(bl s).toArray⟩ : ByteArray) = s := by unfold bl; simp
def sortB (ks : List ByteArray) : List ByteArray := ((ks.map bl).mergeSort leB).map fun x => ⟨x.toArray⟩
theorem leB_trans : ∀ a b c : List UInt8, leB a b = true → leB b c = true → leB a c = true := fun a b c h1 h2 => by
  unfold leB at *
  simp only [decide_eq_true_eq] at *
  exact List.le_trans h1 h2
theorem leB_total : ∀ a b : List UInt8, (leB a b || leB b a) = true := fun a b => by
  unfold leB
  rcases List.le_total a b with h | h <;> simp [h]
theorem leB_anti : ∀ a b : List UInt8, leB a b = true → leB b a = true → a = b := fun a b h1 h2 => by
  unfold leB at *
  simp only [decide_eq_true_eq] at *
  exact List.le_antisymm h1 h2
theorem pw_unique : ∀ {l l' : List (List UInt8)}, l.Perm l' → l.Pairwise (fun a b => leB a b = true) → l'.Pairwise (fun a b => leB a b = true) → l = l'
  | [], l', hp, _, _ => (List.Perm.nil_eq hp)
  | a :: l, [], hp, _, _ => absurd hp.length_eq (by simp)
  | a :: l, b :: l', hp, h1, h2 => by
    have h1' := List.pairwise_cons.1 h1
    have h2' := List.pairwise_cons.1 h2
    have hab : a = b := by
      have ha : a ∈ b :: l' := hp.mem_iff.1 (by simp)
      have hb : b ∈ a :: l := hp.mem_iff.2 (by simp)
      rcases List.mem_cons.1 ha with e | ha
      · exact e
      · rcases List.mem_cons.1 hb with e | hb
        · exact e.symm
        · exact leB_anti a b (h1'.1 b hb) (h2'.1 a ha)
    subst hab
    rw [pw_unique (List.Perm.cons_inv hp) h1'.2 h2'.2]
theorem sort_perm {l l' : List (List UInt8)} (h : l.Perm l') : l.mergeSort leB = l'.mergeSort leB :=
  pw_unique (((List.mergeSort_perm l leB).trans h).trans (List.mergeSort_perm l' leB).symm) (List.pairwise_mergeSort leB_trans leB_total l) (List.pairwise_mergeSort leB_trans leB_total l')
theorem sortB_perm (ks : List ByteArray) : (sortB ks).Perm ks := by
  have h := (List.mergeSort_perm (ks.map bl) leB).map fun x => (⟨x.toArray⟩ : ByteArray)
  rw [List.map_map] at h
  have e : (ks.map ((fun x => (⟨x.toArray⟩ : ByteArray)) ∘ bl)) = ks := by
    conv => rhs; rw [← List.map_id ks]
    apply List.map_congr_left
    intro x _
    exact bl_mk x
  rw [e] at h
  exact h
theorem sortS_in (m : Nat) : AnyZ.SortsIn Tryz.prog Tryz.sortedS_ren Fence.wide m :=
  ⟨fun blk off cap ss W hH hblk hsz => callsIn_wide.2 (AnyM.slices_Sort_string Tryz.sortS blk off cap ss W hH hblk hsz),
   fun p cap W => callsIn_wide.2 (AnyM.slices_Sort_string_none Tryz.sortS p cap W)⟩
theorem d_sorted {g : FuncId} {lb : Array Value} {w : World} {X A : XS} {mb : Nat} {α : Type} {rd : World → XS → Value → α → Prop} {l : List (ByteArray × α)} (h : MapR w X A mb Value.string rd l) (eg : enters Tryz.prog g = true)
    (hs : ∀ x ∈ l, x.1.size ≤ 2 ^ 40) (hl : l.length ≤ 2 ^ 40)
    (hg : ∀ wa, Kp X w wa → ∀ (nn : Nat) (D0 : DataW Unit), wa.ownsMap Tryz.prog 9 RT mb nn D0 → SeqGives Fence.wide 2 Tryz.prog g lb encStr (fun ss => ss.Perm (strKeys D0)) (Maps.size D0) wa) :
    Ct Tryz.prog 48 #[.func (.func g) #[] lb] w X nX fun v wa w' => Own w' (made wa w') wa.heap.size 9 1 v ((sortB (l.map (·.1))).map S1) := by
  intro wa hk
  obtain ⟨es, c, h1, h2⟩ := h
  have hkeys := h2.keys
  have hlen : es.length = l.length := by have := congrArg List.length hkeys; simpa using this
  obtain ⟨D0, hown, hsz, hperm⟩ := owns_of_map (P := Tryz.prog) (h1.kp hk) (kt := 9) (by kernel_rfl) (fun x hx => by
    have : x.1 ∈ l.map (·.1) := by rw [← hkeys]; exact List.mem_map.2 ⟨x, hx, rfl⟩
    obtain ⟨y, hy, e⟩ := List.mem_map.1 this
    rw [← e]; exact hs y hy) (by omega)
  have hmx : (2 : Nat) ^ 40 ≤ maxLen := by decide
  have hS := callsIn_wide.1 (AnyZ.sorted_in Tryz.sortedS Fence.wide 5 trivial trivial trivial trivial rfl (by omega) (sortS_in _) (fun args w => run_enters (by kernel_rfl) args w) g lb trivial (fun args w => run_enters eg args w) _ _ (by omega) (by omega) wa (hg wa hk _ D0 hown))
  refine hS.mono ?_
  rintro e w' ⟨v, ss, rfl, hp, hrow, hnil, hb⟩
  have hx : Ext wa w' := ⟨hb.os, hb.tape, hb.output, hb.size, fun k hk' _ => hb.block k hk'⟩
  refine ⟨v, rfl, hx, ?_⟩
  have e1 : ss.mergeSort (fun x y => decide (x ≤ y)) = (l.map fun x => bl x.1).mergeSort leB := by
    have hp2 : ss.Perm (l.map fun x => bl x.1) := by
      refine hp.trans (hperm.trans ?_)
      have : (es.map fun x => x.1.data.toList) = (l.map fun x => bl x.1) := by
        have := congrArg (List.map bl) hkeys
        simpa [List.map_map, Function.comp_def, bl] using this
      rw [this]
    exact sort_perm hp2
  have e2 : ((ss.mergeSort (fun x y => decide (x ≤ y))).map encStr) = ((sortB (l.map (·.1))).map S1).flatten := by
    rw [e1]
    unfold sortB
    rw [List.map_map, List.map_map]
    have e3 : ∀ q : List (List UInt8), q.map encStr = (q.map (S1 ∘ fun x => (⟨x.toArray⟩ : ByteArray))).flatten := fun q => by
      induction q with
      | nil => rfl
      | cons a q ih => simp only [List.map_cons, List.flatten_cons, ← ih]; rfl
    exact e3 _
  have hlen2 : ss.length = ((sortB (l.map (·.1))).map S1).length := by
    rw [List.length_map, (sortB_perm _).length_eq, List.length_map, ← hlen]
    have := hp.length_eq
    rw [this, hperm.length_eq, List.length_map]
  refine ⟨fun r hr => by obtain ⟨x, _, rfl⟩ := List.mem_map.1 hr; rfl, ?_, fun q hq => ⟨?_, ?_⟩⟩
  · rw [← hlen2, ← e2]; exact hrow
  · exact (hrow.lt _ hq).1
  · exact (hrow.lt _ hq).2
end Go.Proofs.YtpdkoaklobnegaaGreat
namespace Go.Proofs.YtpdkoaklobnegaaGreat
open Go.Eng Go.Maps Go.Shelf
set_option maxRecDepth 100000
set_option maxHeartbeats 1000000
set_option linter.unusedVariables false
set_option linter.unusedSimpArgs false
attribute [local irreducible] un jn chk fld ld1 ldA st1 ixS lnS lnT bld cvI cvF ixA bsS apS rdV rdW grdW eW eV eU eC eF gE condW fin pickN nilN binS vS lp0 lp1 lp2 lp3 lp4 lp5 lp6 lp7 nx0 nx1 nx2 nx3 nx4 nx5 nx6 nx7
theorem d_keysF {w : World} {X : XS} {mb : Nat} : Ct Tryz.prog 59 #[.map (some mb)] w X nX fun v wa w' => ∃ bx, v = .func (.func 107) #[] #[ptr bx 0] ∧ RowIs w' (made wa w') bx [.map (some mb)] 104 := by
  intro w0 hk
  apply ok_maps_Keys_map_string_disk_file_string_disk_file; unfold vc_maps_Keys_map_string_disk_file_string_disk_file
  have hs := Since.init w0
  refine m_boxS rfl hs.has fun bx w1 X1 hbx hs1 hrow => ?_
  repeat' first | (with_reducible apply m_mkFun)
  exact fin_ret0 hs1 fun wa hk9 => ⟨bx, rfl, ⟨hbx, (hrow.kp hk9).lt⟩, (hrow.kp hk9).2⟩
theorem d_keysV {w : World} {X : XS} {mb : Nat} : Ct Tryz.prog 49 #[.map (some mb)] w X nX fun v wa w' => ∃ bx, v = .func (.func 98) #[] #[ptr bx 0] ∧ RowIs w' (made wa w') bx [.map (some mb)] 110 := by
  intro w0 hk
  apply ok_maps_Keys_map_string_api_Value_string_api_Value; unfold vc_maps_Keys_map_string_api_Value_string_api_Value
  have hs := Since.init w0
  refine m_boxS rfl hs.has fun bx w1 X1 hbx hs1 hrow => ?_
  repeat' first | (with_reducible apply m_mkFun)
  exact fin_ret0 hs1 fun wa hk9 => ⟨bx, rfl, ⟨hbx, (hrow.kp hk9).lt⟩, (hrow.kp hk9).2⟩
theorem d_sortedF {w : World} {X A : XS} {mb bx : Nat} {α : Type} {rd : World → XS → Value → α → Prop} {l : List (ByteArray × α)} (h : MapR w X A mb Value.string rd l) (hb : RowIs w X bx [.map (some mb)] 104)
    (hs : ∀ x ∈ l, x.1.size ≤ 2 ^ 40) (hl : l.length ≤ 2 ^ 40) :
    Ct Tryz.prog 48 #[.func (.func 107) #[] #[ptr bx 0]] w X nX fun v wa w' => Own w' (made wa w') wa.heap.size 9 1 v ((sortB (l.map (·.1))).map S1) :=
  d_sorted h (by kernel_rfl) hs hl fun wa hk nn D0 hown =>
    AnyZ.keys_gives (ρ := Tryz.keysF_ren) { Tryz.keysF with } Fence.wide _ trivial rfl (by omega) bx mb nn D0 wa (hb.kp hk).lt (by have := (hb.kp hk).2; simp [World.cell?, this]) hown
theorem d_sortedV {w : World} {X A : XS} {mb bx : Nat} {α : Type} {rd : World → XS → Value → α → Prop} {l : List (ByteArray × α)} (h : MapR w X A mb Value.string rd l) (hb : RowIs w X bx [.map (some mb)] 110)
    (hs : ∀ x ∈ l, x.1.size ≤ 2 ^ 40) (hl : l.length ≤ 2 ^ 40) :
    Ct Tryz.prog 48 #[.func (.func 98) #[] #[ptr bx 0]] w X nX fun v wa w' => Own w' (made wa w') wa.heap.size 9 1 v ((sortB (l.map (·.1))).map S1) :=
  d_sorted h (by kernel_rfl) hs hl fun wa hk nn D0 hown =>
    AnyZ.keys_gives (ρ := Tryz.keysV_ren) { Tryz.keysV with } Fence.wide _ trivial rfl (by omega) bx mb nn D0 wa (hb.kp hk).lt (by have := (hb.kp hk).2; simp [World.cell?, this]) hown
theorem d_disk_List {w : World} {X F : XS} {db : Nat} {m : DM} (h : Dk w F db m) (hF : FX F X w) (hs : ∀ x ∈ m.fs, x.1.size ≤ 2 ^ 40) (hl : m.fs.length ≤ 2 ^ 40) :
    Ct Tryz.prog 20 #[ptr db 0] w X nX fun v wa w' => Own w' (made wa w') wa.heap.size 9 1 v ((sortB (m.fs.map (·.1))).map S1) := by
  intro w0 hk
  obtain ⟨mb, l, h0, hz⟩ := h.mv (hF.mv hk)
  have hX := fun k hk' => (hF.kp hk k hk').1
  have hb := h0.box.mv (Mv.sub hX)
  have hm := h0.map.mv rdF_mv (Mv.sub hX) (A' := nX) fun _ h => h.elim
  have hfs := h0.fs
  apply ok_disk_Disk_List; unfold vc_disk_Disk_List
  have hs0 := Since.init w0
  repeat' first | with_reducible apply r_nil | ((with_reducible apply m_fld1); (· exact qF); (· kernel_rfl); (· rfl); intro _ _ _) | ((with_reducible apply m_ld1); (· exact qF); (· exact qM); (· kernel_rfl); (· rfl))
  refine r_ct0 d_keysF (by kernel_rfl) hs0.has ?_
  rintro _ wa w1 X1 ⟨bx, rfl, hrow⟩ hle hin hs1
  have hm1 := hm.mv rdF_mv hs1.mv (A' := nX) fun _ h => h.elim
  refine r_ct0 (d_sortedF hm1 (hrow.mono hin) (fun x hx => hs (x.1, x.2.er) (by rw [hfs]; exact List.mem_map.2 ⟨x, hx, rfl⟩)) (by rw [hfs, List.length_map] at hl; exact hl)) (by kernel_rfl) hs1.has ?_
  rintro v wa2 w2 X2 ho hle2 hin2 hs2
  have hsz1 := hs1.kp.size
  refine fin_ret0 (hs1.trans hs2) fun wa9 hk9 => ?_
  have ho2 : Own w2 X2 w0.heap.size 9 1 v ((sortB (l.map (·.1))).map S1) := ho.up hin2 (by omega)
  have e : m.fs.map (·.1) = l.map (·.1) := by rw [hfs, List.map_map]; rfl
  rw [e]
  exact (ho2.kp hk9).tight
end Go.Proofs.YtpdkoaklobnegaaGreat
namespace Go.Proofs.YtpdkoaklobnegaaGreat
open Go.Eng
set_option maxRecDepth 100000
set_option maxHeartbeats 1000000
set_option linter.unusedVariables false
set_option linter.unusedSimpArgs false
attribute [local irreducible] un jn chk fld ld1 ldA st1 ixS lnS lnT bld cvI cvF ixA bsS apS rdV rdW grdW eW eV eU eC eF gE condW fin pickN nilN binS vS lp0 lp1 lp2 lp3 lp4 lp5 lp6 lp7 nx0 nx1 nx2 nx3 nx4 nx5 nx6 nx7
@[ext] structure Entr where
  txn : Txn
  stamp : Stamp
  writes : List KV
  deriving DecidableEq
structure SM where
  every : Int
  since : Int
  down : Bool
  pairs : List (ByteArray × Val)
  high : Stamp
  done : List Entr
def applyW (p : List (ByteArray × Val)) (x : KV) : List (ByteArray × Val) := if x.val.kind = 0 then delM x.key p else putM x.key x.val p
def SM.apply (s : SM) (t : Txn) (st : Stamp) (l : List KV) : SM := { s with pairs := l.foldl applyW s.pairs, high := st, done := s.done ++ [⟨t, st, l⟩] }
abbrev Entr.l (e : Entr) (vw : Value) : List Value := [I e.txn.coord, I e.txn.life, I e.txn.sq, I e.stamp.wall, I e.stamp.logic, I e.stamp.node, vw]
def rdVal : World → XS → Value → Val → Prop := fun _ _ v x => v = x.v
theorem rdVal_mv : MovesV rdVal := fun _ _ _ _ _ _ h _ => h
structure SkL (w : World) (F : XS) (nb lb mb : Nat) (av : Value) (es : List (Value × Entr)) (s : SM) : Prop where
  done : s.done = es.map (·.2)
  box : RowIs w F nb [ptr lb 0, I s.every, I s.since, B s.down, .map (some mb), I s.high.wall, I s.high.logic, I s.high.node, av] 112
  map : MapR w F nX mb Value.string rdVal s.pairs
  ow : Ow w F 73 7 av (es.map fun x => x.2.l x.1)
  ws : ∀ x ∈ es, Ow w F 53 4 x.1 (x.2.writes.map KV.l)
section
variable {w w' : World} {X X' F F' G : XS} {nb lb mb : Nat} {av av' : Value} {es : List (Value × Entr)} {s s' : SM}
theorem SkL.mv (h : SkL w F nb lb mb av es s) (v : Mv F w F' w') : SkL w' F' nb lb mb av es s :=
  ⟨h.done, h.box.mv v, h.map.mv rdVal_mv v (fun _ h => h.elim), h.ow.mv v, fun x hx => (h.ws x hx).mv v⟩
theorem SkL.setMap (h : SkL w F nb lb mb av es s) (hX : ∀ k, F k → X k) (c : Chg (· = mb) X w X' w') {p : List (ByteArray × Val)} (hm : MapR w' X' nX mb Value.string rdVal p) : SkL w' F nb lb mb av es { s with pairs := p } := by
  have mv : ∀ {A : XS}, (∀ k, A k → F k ∧ k ≠ mb) → Mv A w F w' := fun hA k hk _ => ⟨(hA k hk).1, c.block k (hX k (hA k hk).1) (hA k hk).2⟩
  refine ⟨h.done, ?_, ?_, ?_, fun x hx => ?_⟩
  · exact h.box.own.mv (mv fun k hk => by subst hk; exact ⟨h.box.1, (h.map.neRow h.box).symm⟩)
  · obtain ⟨e, c', h1, h2⟩ := hm
    exact ⟨e, c', ⟨h.map.x.1, h1.2⟩, h2⟩
  · exact h.ow.tight.mv (mv fun k hk => ⟨(h.ow.inX hk).1, fun e => h.map.neOw h.ow (e ▸ hk)⟩)
  · exact (h.ws x hx).tight.mv (mv fun k hk => ⟨((h.ws x hx).inX hk).1, fun e => h.map.neOw (h.ws x hx) (e ▸ hk)⟩)
theorem SkL.setBox (h : SkL w F nb lb mb av es s) (hX : ∀ k, F k → X k) (c : Chg (· = nb) X w X' w') (s' : SM) (hp : s'.pairs = s.pairs) (hd : s'.done = s.done)
    (hr : RowIs w' X' nb [ptr lb 0, I s'.every, I s'.since, B s'.down, .map (some mb), I s'.high.wall, I s'.high.logic, I s'.high.node, av] 112) : SkL w' F nb lb mb av es s' := by
  have mv : ∀ {A : XS}, (∀ k, A k → F k ∧ k ≠ nb) → Mv A w F w' := fun hA k hk _ => ⟨(hA k hk).1, c.block k (hX k (hA k hk).1) (hA k hk).2⟩
  refine ⟨hd.trans h.done, ⟨h.box.1, hr.2⟩, ?_, ?_, fun x hx => ?_⟩
  · rw [hp]; exact h.map.own.mv rdVal_mv (mv fun k hk => by subst hk; exact ⟨h.map.x.1, h.map.neRow h.box⟩) fun _ h => h.elim
  · exact h.ow.tight.mv (mv fun k hk => ⟨(h.ow.inX hk).1, fun e => h.ow.neRow h.box (by kernel_rfl) (e ▸ hk)⟩)
  · exact (h.ws x hx).tight.mv (mv fun k hk => ⟨((h.ws x hx).inX hk).1, fun e => (h.ws x hx).neRow h.box (by kernel_rfl) (e ▸ hk)⟩)
theorem SkL.more (h : SkL w F nb lb mb av es s) (hX : FX F X w) (c : Chg G X w X' w') (hG : ∀ k, G k → k = nb ∨ av.ownBlock = some k) (hFF : ∀ k, F k → F' k) {vw : Value} {e : Entr}
    (hr : RowIs w' F' nb [ptr lb 0, I s.every, I s.since, B s.down, .map (some mb), I s.high.wall, I s.high.logic, I s.high.node, av'] 112)
    (ho : Ow w' F' 73 7 av' ((es ++ [(vw, e)]).map fun x => x.2.l x.1)) (hw : Ow w' F' 53 4 vw (e.writes.map KV.l)) :
    SkL w' F' nb lb mb av' (es ++ [(vw, e)]) { s with done := s.done ++ [e] } := by
  have mv : ∀ {A : XS}, (∀ k, A k → F k ∧ k ≠ nb ∧ av.ownBlock ≠ some k) → Mv A w F' w' := fun hA k hk _ => by
    obtain ⟨a1, a2, a3⟩ := hA k hk
    exact ⟨hFF k a1, c.block k (hX k a1).1 fun hg => (hG k hg).elim a2 a3⟩
  refine ⟨by rw [List.map_append, ← h.done]; rfl, hr, ?_, ho, fun x hx => ?_⟩
  · exact h.map.own.mv rdVal_mv (mv fun k hk => by subst hk; exact ⟨h.map.x.1, h.map.neRow h.box, h.map.neOw h.ow⟩) fun _ h => h.elim
  · rcases List.mem_append.1 hx with hx | hx
    · refine (h.ws x hx).tight.mv (mv fun k hk => ⟨((h.ws x hx).inX hk).1, fun e => (h.ws x hx).neRow h.box (by kernel_rfl) (e ▸ hk), fun e => ?_⟩)
      obtain ⟨c1, h1⟩ := (h.ws x hx).tag hk
      obtain ⟨c2, h2⟩ := h.ow.tag e
      rw [h1] at h2; simp at h2
    · simp only [List.mem_singleton] at hx; subst hx; exact hw
end
theorem c_sink_fall {nb : Nat} {e : Int} (h : e ≠ 12) : Pure Tryz.prog 57 #[ptr nb 0, I e] (I e) := by
  intro w0
  apply ok_sink_Node_fall; unfold vc_sink_Node_fall
  have hs := Since.init w0
  repeat' first | ((with_reducible refine r_eqlF ?_ ?_); (· omega)) | with_reducible (first | apply condW_F | apply jn_of) | ((with_reducible refine fin_pure hs ?_); rfl)
theorem m_mapDelV {R : Ending → World → Prop} {w : World} {X : XS} {mb : Nat} {l : List (ByteArray × Val)} {k : ByteArray} {N : Value → World → XS → Prop} (h : MapR w X nX mb Value.string rdVal l) (hX : ∀ k, X k → k < w.heap.size)
    (n : ∀ w' X', Chg (· = mb) X w X' w' → MapR w' X' nX mb Value.string rdVal (delM k l) → N (.tuple #[]) w' X') :
    eV Tryz.prog R X w true (Builtin.delete_ #[110, 9] 0 #[.map (some mb), .string k]) N :=
  m_mapDel (kt := 9) (et := 51) h rdVal_mv (fun _ h => h.elim) (key_string (by kernel_rfl)) (by kernel_rfl) hX n
theorem m_mapPutV {R : Ending → World → Prop} {w : World} {X : XS} {mb : Nat} {l : List (ByteArray × Val)} {k : ByteArray} {x : Val} {v : Value} {N : Value → World → XS → Prop} (h : MapR w X nX mb Value.string rdVal l) (hv : v = x.v) (hX : ∀ k, X k → k < w.heap.size)
    (n : ∀ w' X', Chg (· = mb) X w X' w' → MapR w' X' nX mb Value.string rdVal (putM k x l) → N undef w' X') :
    eU Tryz.prog R X w true (Instr.mapUpdate 110 (.map (some mb)) (.string k) v) N :=
  m_mapPut (kt := 9) (et := 51) h rdVal_mv (show rdVal _ _ v x from hv) (fun _ h => h.elim) (key_string (by kernel_rfl)) (by kernel_rfl) hX n
theorem d_sink_apply {w : World} {X F S : XS} {nb lb mb : Nat} {av : Value} {es : List (Value × Entr)} {s : SM} {t : Txn} {st : Stamp} {vw : Value} {l : List KV} (h : SkL w F nb lb mb av es s) (hF : FX F X w) (hw : Sl w S 4 vw (l.map KV.l)) (hS : ∀ k, S k → X k ∧ ¬ F k)
    (hl : l.length ≤ 2 ^ 30) (hd : s.done.length ≤ 2 ^ 30) :
    Ct Tryz.prog 55 #[ptr nb 0, t.v, st.v, vw] w X F fun v wa w' => v = .tuple #[] ∧ ∃ F' av' es', (∀ k, F' k → F k ∨ made wa w' k) ∧ SkL w' F' nb lb mb av' es' (s.apply t st l) := by
  intro w0 hk
  replace h := h.mv (hF.mv hk)
  have hT := hF.ft hk
  have hF0 : FX F (old w0) w0 := hF.kp hk
  have hw0 : Sl w0 (out F w0) 4 vw (l.map KV.l) := hw.mv fun k hk' hl' => ⟨⟨Nat.lt_of_lt_of_le hl' hk.size, (hS k hk').2⟩, hk.block k (hS k hk').1⟩
  have ov := hw0.one
  apply ok_sink_Node_apply; unfold vc_sink_Node_apply
  repeat' first | ((with_reducible apply m_lnS); (· exact qO); (· kernel_rfl))
  refine lp1_of (fun n a w X => ∃ i : Nat, a = I (i : Nat) ∧ n = l.length - i ∧ i ≤ l.length ∧ Ft w0 F w X F ∧ SkL w F nb lb mb av es { s with pairs := (l.take i).foldl applyW s.pairs }) l.length ⟨0, rfl, rfl, Nat.zero_le _, hT, h⟩ ?_
  clear hT h
  rintro n a w X ⟨i, rfl, rfl, hi, hT, h⟩
  have hb := h.box.mv (Mv.sub hT.inX)
  have hm := h.map.mv rdVal_mv (Mv.sub hT.inX) (A' := nX) fun _ h => h.elim
  have hwc : Sl w X 4 vw (l.map KV.l) := hw0.mv hT.s.mv
  rcases at_or l i with ⟨hlt, x, hx, hdr⟩ | ⟨hge, hdr⟩
  · have hfold : (l.take (i + 1)).foldl applyW s.pairs = applyW ((l.take i).foldl applyW s.pairs) x := by rw [List.take_add_one, hx]; simp
    repeat' first | ((with_reducible refine r_lssT ?_ ?_); (· omega)) | with_reducible (first | apply condW_T | apply condW_F) | ((with_reducible apply un_cell); (· rfl)) | ((with_reducible apply m_sub); (· exact qN)) | with_reducible (first | apply un_box | apply r_nil) | (with_reducible apply r_eql <;> intro _) | ((with_reducible apply m_fld1); (· exact qF); (· kernel_rfl); (· rfl); intro _ _ _) | ((with_reducible apply m_ld1); (· exact qF); (· exact qM); (· kernel_rfl); (· rfl)) | ((with_reducible apply m_ldA); (· exact qF); (· exact qM); (· kernel_rfl); (· rfl)) | ((with_reducible apply m_ixS); (· exact qO); (try (case hz => rfl)); (case hr => exact qR); (try (case hz => omega)); (case ht => kernel_rfl); (case hs => kernel_rfl); intro _ _ _) | ((with_reducible apply m_chkc); (case h => exact qE)) | ((with_reducible apply chk_T); (· exact qC)) | with_reducible apply jn_of
    · refine m_mapDelV hm hT.s.has fun w1 X1 c hm1 => ?_
      have h1 := h.setMap hT.inX c hm1
      have hT1 : Ft w0 F w1 X1 F := hT.chg c (fun k hk' => by subst hk'; exact h.map.x.1) fun k hk' => .inl hk'
      have e : delM x.key ((l.take i).foldl applyW s.pairs) = (l.take (i + 1)).foldl applyW s.pairs := by rw [hfold]; unfold applyW; rw [if_pos (by assumption)]
      have h1' : SkL w1 F nb lb mb av es { s with pairs := delM x.key ((l.take i).foldl applyW s.pairs) } := h1
      rw [e] at h1'
      repeat' first | ((with_reducible apply r_add); (· omega); (· omega))
      exact nx1_of (l.length - (i + 1)) (by omega) ⟨i + 1, by simp, rfl, by omega, hT1, h1'⟩
    · refine m_mapPutV hm (x := x.val) rfl hT.s.has fun w1 X1 c hm1 => ?_
      have h1 := h.setMap hT.inX c hm1
      have hT1 : Ft w0 F w1 X1 F := hT.chg c (fun k hk' => by subst hk'; exact h.map.x.1) fun k hk' => .inl hk'
      have e : putM x.key x.val ((l.take i).foldl applyW s.pairs) = (l.take (i + 1)).foldl applyW s.pairs := by rw [hfold]; unfold applyW; rw [if_neg (by assumption)]
      have h1' : SkL w1 F nb lb mb av es { s with pairs := putM x.key x.val ((l.take i).foldl applyW s.pairs) } := h1
      rw [e] at h1'
      repeat' first | ((with_reducible apply r_add); (· omega); (· omega))
      exact nx1_of (l.length - (i + 1)) (by omega) ⟨i + 1, by simp, rfl, by omega, hT1, h1'⟩
  · have hil : i = l.length := by omega
    subst hil
    rw [List.take_length] at h hb
    repeat' first | ((with_reducible refine r_lssF ?_ ?_); (· omega)) | with_reducible (first | apply condW_F | apply r_nil) | ((with_reducible apply m_fld); (· exact qF); (· kernel_rfl); (· rfl); (· exact qN); intro _ _ _)
    refine m_stN (o := 5) hb (by omega) (by kernel_rfl) (by simp) rfl rfl hT.s.has fun w1 X1 c1 hr1 => ?_
    have hT1 : Ft w0 F w1 X1 F := hT.chg c1 (fun k hk' => by subst hk'; exact h.box.1) fun k hk' => .inl hk'
    have h1 := h.setBox hT.inX c1 { s with pairs := l.foldl applyW s.pairs, high := st } rfl rfl hr1
    have hb1 := h1.box.mv (Mv.sub hT1.inX)
    have oa := h1.ow.one
    repeat' first | with_reducible apply r_nil | ((with_reducible apply m_fld1); (· exact qF); (· kernel_rfl); (· rfl); intro _ _ _) | ((with_reducible apply m_ld1); (· exact qF); (· exact qM); (· kernel_rfl); (· rfl))
    refine r_ct0 (d_clone_writes (hw0.mv hT1.s.mv) (by omega)) (by kernel_rfl) hT1.s.has ?_
    rintro vc wa2 w2 X2 hoc hle2 hin2 hs2
    have hT2 := hT1.since hs2
    have h2 : SkL w2 F nb lb mb av es _ := h1.mv (hs2.mvF hT1.inX)
    have hb2 := h2.box.mv (Mv.sub hT2.inX)
    have hoc2 : Ow w2 (fun k => X2 k ∧ w1.heap.size ≤ k) 53 4 vc (l.map KV.l) := hoc.ow.mono fun k hk' => ⟨hin2 k hk', Nat.le_trans hle2 hk'.1⟩
    have ovc := hoc2.one
    obtain ⟨xb, xn, xc, rfl⟩ := hoc2.sl.form
    have hel : es.length = s.done.length := by have := congrArg List.length h2.done; simpa using this.symm
    repeat' first | ((with_reducible apply r_bld); (· kernel_rfl))
    refine m_apO1 (bytes := 72) (row := (⟨t, st, l⟩ : Entr).l (.slice xb xn xc)) (h2.ow.mono hT2.inX) hT2.s.has (by kernel_rfl) rfl rfl (by simp [ovc]; exact ⟨rfl, rfl, rfl, rfl, rfl, rfl⟩) (by simp; omega) (by simp; omega) fun av' w3 X3 c3 ho3 hat3 => ?_
    have hne3 : ∀ q, blk av q → q ≠ nb := fun q hq e => h2.ow.neRow h2.box (by kernel_rfl) (by rw [← e]; exact hq)
    have hb3 : RowIs w3 X3 nb [ptr lb 0, I s.every, I s.since, B s.down, .map (some mb), I st.wall, I st.logic, I st.node, av] 112 := ⟨c3.sub _ hb2.1, by rw [c3.block _ hb2.1 fun hq => hne3 _ hq rfl]; exact hb2.2⟩
    repeat' first | with_reducible apply r_nil | ((with_reducible apply m_fld1); (· exact qF); (· kernel_rfl); (· rfl); intro _ _ _)
    refine m_stC (o := 8) hb3 (by omega) (by kernel_rfl) (by simp) ho3.one c3.has fun w4 X4 c4 hr4 => ?_
    have cc : Chg (fun k => k = nb ∨ av.ownBlock = some k) X2 w2 X4 w4 := (c3.mono fun k _ hk' => .inr hk').trans (c4.mono fun k _ hk' => .inl hk')
    have havF : ∀ q, blk av q → F q := fun q hq => (h2.ow.inX hq).1
    have hnew : ∀ k, (X2 k ∧ w1.heap.size ≤ k) → (X4 k ∧ w0.heap.size ≤ k) := fun k hk' => ⟨c4.sub _ (c3.sub _ hk'.1), by have := hT1.s.kp.size; omega⟩
    have hT4 : Ft w0 F w4 X4 (fun k => F k ∨ (X4 k ∧ w0.heap.size ≤ k)) := (hT2.chg (F' := F) cc (fun k hk' => by
      rcases hk' with rfl | hk'
      · exact h2.box.1
      · exact havF _ hk') fun k hk' => .inl hk').more fun k hk' => hk'
    have hin4 : ∀ g, av'.ownBlock = some g → F g ∨ (X4 g ∧ w0.heap.size ≤ g) := fun g hg => by
      rcases hat3 with e | ⟨g', e, hge⟩
      · exact .inl (havF _ (e.symm.trans hg))
      · rw [hg] at e
        have : g = g' := Option.some.inj e
        subst this
        exact .inr ⟨c4.sub _ (ho3.inX hg).1, by have := hT2.s.kp.size; omega⟩
    have hne4 : ∀ q, blk av' q → q ≠ nb := fun q hq e => ho3.neRow hb3 (by kernel_rfl) (by rw [← e]; exact hq)
    have hcv : ∀ q, blk (.slice xb xn xc) q → (F q ∨ (X4 q ∧ w0.heap.size ≤ q)) ∧ w4.heap[q]? = w2.heap[q]? := fun q hq => by
      have h1 := (hoc2.inX hq).1
      have hns : q ≠ nb := fun e => hoc2.neRow h2.box (by kernel_rfl) (by rw [← e]; exact hq)
      have hnr : ¬ blk av q := fun hq2 => by
        obtain ⟨c1, e1⟩ := hoc2.tag hq
        obtain ⟨c2, e2⟩ := h2.ow.tag hq2
        rw [e1] at e2; simp at e2
      exact ⟨.inr (hnew _ h1), by rw [c4.block q (c3.sub _ h1.1) hns, c3.block q h1.1 hnr]⟩
    have hL4 := h2.more (F' := fun k => F k ∨ (X4 k ∧ w0.heap.size ≤ k)) (av' := av') (vw := .slice xb xn xc) (e := ⟨t, st, l⟩) (hT2.fx fun _ h => h) cc (fun k hk' => hk') (fun k hk' => .inl hk') ⟨.inl h2.box.1, hr4.2⟩ ?_ ?_
    · exact hT4.fin fun wa hk9 => ⟨rfl, _, av', _, hT4.grew hk9 fun _ h => h, hL4.mv (hk9.mvA hT4.inX)⟩
    · rw [List.map_append]
      exact ho3.tight.mv fun k hk' hl' => ⟨hin4 k hk', c4.block k (ho3.inX hk').1 (hne4 k hk')⟩
    · exact hoc2.tight.mv fun k hk' hl' => hcv k hk'
end Go.Proofs.YtpdkoaklobnegaaGreat
namespace Go.Proofs.YtpdkoaklobnegaaGreat
open Go.Eng
set_option maxRecDepth 100000
set_option maxHeartbeats 1000000
set_option linter.unusedVariables false
set_option linter.unusedSimpArgs false
attribute [local irreducible] un jn chk fld ld1 ldA st1 ixS lnS lnT bld cvI cvF ixA bsS apS rdV rdW grdW eW eV eU eC eF gE condW fin pickN nilN binS vS lp0 lp1 lp2 lp3 lp4 lp5 lp6 lp7 nx0 nx1 nx2 nx3 nx4 nx5 nx6 nx7
def SM.get (s : SM) (k : ByteArray) : Val := (getM k s.pairs).getD Val.zero
def SM.list (s : SM) : List KV := (sortB (s.pairs.map (·.1))).map fun k => ⟨k, s.get k⟩
theorem m_getV {w : World} {X : XS} {mb : Nat} {l : List (ByteArray × Val)} {k : ByteArray} {N : Value → Prop} (h : MapR w X nX mb Value.string rdVal l) (n : N ((getM k l).getD Val.zero).v) :
    rdV Tryz.prog X w (Instr.lookup 110 (.map (some mb)) (.string k) false) N :=
  m_mapGet1 (kt := 9) (et := 51) Val.zero.v h (key_string (by kernel_rfl)) (by kernel_rfl) (by kernel_rfl) (fun v a h1 h2 => by
    have h2 : v = a.v := h2
    subst h2; rw [h1] at n; exact n) fun h1 => by rw [h1] at n; exact n
section
variable {w : World} {X F : XS} {nb lb mb : Nat} {av : Value} {es : List (Value × Entr)} {s : SM}
theorem d_sink_Get {k : ByteArray} (h : SkL w F nb lb mb av es s) (hF : FX F X w) : Ct Tryz.prog 26 #[ptr nb 0, .string k] w X nX fun v wa w' => v = (s.get k).v := by
  intro w0 hk
  replace h := h.mv (hF.mv hk)
  have hX := fun k hk' => (hF.kp hk k hk').1
  have hb := h.box.mv (Mv.sub hX)
  have hm := h.map.mv rdVal_mv (Mv.sub hX) (A' := nX) fun _ h => h.elim
  apply ok_sink_Node_Get; unfold vc_sink_Node_Get
  have hs := Since.init w0
  repeat' first | ((with_reducible apply m_sub); (· exact qN)) | with_reducible (first | apply un_box | apply r_nil) | ((with_reducible apply m_fld1); (· exact qF); (· kernel_rfl); (· rfl); intro _ _ _) | ((with_reducible apply m_ld1); (· exact qF); (· exact qM); (· kernel_rfl); (· rfl)) | ((with_reducible apply m_chkc); (case h => exact qE)) | ((with_reducible apply chk_T); (· exact qC)) | (refine m_getV hm ?_) | ((first | (with_reducible refine fin_ret0 hs ?_) | (with_reducible refine fin_ret0 (hs0.trans hs) ?_)); intro wa hk; rfl)
theorem d_sink_High (h : SkL w F nb lb mb av es s) (hF : FX F X w) : Ct Tryz.prog 19 #[ptr nb 0] w X nX fun v wa w' => v = s.high.v := by
  intro w0 hk
  replace h := h.mv (hF.mv hk)
  have hX := fun k hk' => (hF.kp hk k hk').1
  have hb := h.box.mv (Mv.sub hX)
  apply ok_sink_Node_High; unfold vc_sink_Node_High
  have hs := Since.init w0
  repeat' first | ((with_reducible apply m_sub); (· exact qN)) | with_reducible (first | apply un_box | apply r_nil) | ((with_reducible apply m_fld); (· exact qF); (· kernel_rfl); (· rfl); (· exact qN); intro _ _ _) | ((with_reducible apply m_ldA); (· exact qF); (· exact qM); (· kernel_rfl); (· rfl)) | ((with_reducible apply m_chkc); (case h => exact qE)) | ((with_reducible apply chk_T); (· exact qC)) | ((first | (with_reducible refine fin_ret0 hs ?_) | (with_reducible refine fin_ret0 (hs0.trans hs) ?_)); intro wa hk; rfl)
theorem d_sink_Pairs (h : SkL w F nb lb mb av es s) (hF : FX F X w) (hsz : ∀ x ∈ s.pairs, x.1.size ≤ 2 ^ 40) (hlen : s.pairs.length ≤ 2 ^ 30) :
    Ct Tryz.prog 14 #[ptr nb 0] w X nX fun v wa w' => Own w' (made wa w') wa.heap.size 74 4 v (s.list.map KV.l) := by
  intro w0 hk
  replace h := h.mv (hF.mv hk)
  have hX := fun k hk' => (hF.kp hk k hk').1
  have hb := h.box.mv (Mv.sub hX)
  have hm := h.map.mv rdVal_mv (Mv.sub hX) (A' := nX) fun _ h => h.elim
  apply ok_sink_Node_Pairs; unfold vc_sink_Node_Pairs
  have hs := Since.init w0
  repeat' first | with_reducible apply r_nil | ((with_reducible apply m_fld1); (· exact qF); (· kernel_rfl); (· rfl); intro _ _ _) | ((with_reducible apply m_ld1); (· exact qF); (· exact qM); (· kernel_rfl); (· rfl))
  refine r_ct0 d_keysV (by kernel_rfl) hs.has ?_
  rintro _ wa w1 X1 ⟨bx, rfl, hrow⟩ hle hin hs1
  have hm1 := hm.mv rdVal_mv hs1.mv (A' := nX) fun _ h => h.elim
  refine r_ct0 (d_sortedV hm1 (hrow.mono hin) hsz (by omega)) (by kernel_rfl) hs1.has ?_
  rintro v wa2 w2 X2 ho hle2 hin2 hs2
  have hsz1 := hs1.kp.size
  replace hs := hs1.trans hs2
  have hks : (sortB (s.pairs.map (·.1))).length = s.pairs.length := by rw [(sortB_perm _).length_eq, List.length_map]
  have e : s.list = (sortB (s.pairs.map (·.1))).map fun k => ⟨k, s.get k⟩ := rfl
  rw [e]
  generalize sortB (s.pairs.map (·.1)) = ks at ho hks ⊢
  have hsl := (ho.sl.mono hin2)
  have hm2 := hm.mv rdVal_mv hs.mv (A' := nX) fun _ h => h.elim
  repeat' first | ((with_reducible apply m_lnS); (· exact qO); (· kernel_rfl))
  refine lp2_of (fun n a acc w X => ∃ i : Nat, a = I (i : Nat) ∧ n = ks.length - i ∧ i ≤ ks.length ∧ Since X2 w2 X w ∧ Own w X w2.heap.size 74 4 acc (((ks.take i).map fun k => (⟨k, s.get k⟩ : KV)).map KV.l)) ks.length ⟨0, rfl, rfl, Nat.zero_le _, Since.refl' hs.has, Own.nil _ _ _ _ _⟩ ?_
  rintro n a acc w X ⟨i, rfl, rfl, hi, hs3, hacc⟩
  have hsA := hs.trans hs3
  rcases at_or ks i with ⟨hlt, x, hx, hd⟩ | ⟨hge, hd⟩
  · have hsl3 := hsl.since hs3
    have hb3 := hb.since hsA
    have hm3 := hm2.mv rdVal_mv hs3.mv (A' := nX) fun _ h => h.elim
    have hvl : ((ks.take i).map fun k => (⟨k, s.get k⟩ : KV)).length = i := by simp; omega
    repeat' first | ((with_reducible refine r_lssT ?_ ?_); (· omega)) | with_reducible apply condW_T | ((with_reducible apply un_cell); (· rfl)) | with_reducible apply r_nil | ((with_reducible apply m_fld1); (· exact qF); (· kernel_rfl); (· rfl); intro _ _ _) | ((with_reducible apply m_ld1); (· exact qF); (· exact qM); (· kernel_rfl); (· rfl)) | ((with_reducible apply m_ixS); (· exact qO); (try (case hz => rfl)); (case hr => exact qR); (try (case hz => omega)); (case ht => kernel_rfl); (case hs => kernel_rfl); intro _ _ _) | ((with_reducible apply r_bld); (· kernel_rfl)) | (refine m_getV hm3 ?_)
    refine m_app1a hacc hs3 hs.has (by kernel_rfl) rfl rfl (by simp; omega) (by simp; omega) fun acc' w4 X4 hs4 ho4 hc4 hat4 => ?_
    repeat' first | ((with_reducible apply r_add); (· omega); (· omega))
    refine nx2_of (ks.length - (i + 1)) (by omega) ⟨i + 1, by simp, rfl, by omega, hs4, ?_⟩
    rw [List.take_add_one, hx, List.map_append, List.map_append]
    exact ho4
  · have hil : i = ks.length := by omega
    subst hil
    rw [List.take_length] at hacc
    repeat' first | ((with_reducible refine r_lssF ?_ ?_); (· omega)) | with_reducible apply condW_F
    exact fin_ret0 hsA fun wa9 hk9 => by
      have h9 := (hacc.kp hk9).low (lo' := w0.heap.size) (by have := hs.kp.size; omega)
      exact h9.tight
end
end Go.Proofs.YtpdkoaklobnegaaGreat
namespace Go.Proofs.YtpdkoaklobnegaaGreat
open Go.Eng
set_option maxRecDepth 100000
set_option maxHeartbeats 1000000
set_option linter.unusedVariables false
set_option linter.unusedSimpArgs false
attribute [local irreducible] un jn chk fld ld1 ldA st1 ixS lnS lnT bld cvI cvF ixA bsS apS rdV rdW grdW eW eV eU eC eF gE condW fin pickN nilN binS vS lp0 lp1 lp2 lp3 lp4 lp5 lp6 lp7 nx0 nx1 nx2 nx3 nx4 nx5 nx6 nx7
theorem d_sink_Applied {w : World} {X F : XS} {nb lb mb : Nat} {av : Value} {es : List (Value × Entr)} {s : SM} (h : SkL w F nb lb mb av es s) (hF : FX F X w) (hl : s.done.length ≤ 2 ^ 30) (hwl : ∀ x ∈ s.done, x.writes.length ≤ 2 ^ 30) :
    Ct Tryz.prog 21 #[ptr nb 0] w X nX fun v wa w' => ∃ es' : List (Value × Entr), es'.map (·.2) = s.done ∧ Own w' (made wa w') wa.heap.size 73 7 v (es'.map fun x => x.2.l x.1) ∧
      ∀ x ∈ es', Own w' (made wa w') wa.heap.size 53 4 x.1 (x.2.writes.map KV.l) := by
  intro w0 hk
  replace h := h.mv (hF.mv hk)
  have hX := fun k hk' => (hF.kp hk k hk').1
  have hb := h.box.mv (Mv.sub hX)
  have ha := (h.ow.mono hX).sl
  have hdone := h.done
  have hel : es.length = s.done.length := by rw [hdone, List.length_map]
  apply ok_sink_Node_Applied; unfold vc_sink_Node_Applied
  have hs := Since.init w0
  repeat' first | with_reducible apply r_nil | ((with_reducible apply m_fld1); (· exact qF); (· kernel_rfl); (· rfl); intro _ _ _) | ((with_reducible apply m_ld1); (· exact qF); (· exact qM); (· kernel_rfl); (· rfl)) | ((with_reducible apply m_lnS); (· exact qO); (· kernel_rfl))
  refine lp2_of (fun n a acc w X => ∃ (i : Nat) (es' : List (Value × Entr)), a = I (i : Nat) ∧ n = es.length - i ∧ i ≤ es.length ∧ es'.map (·.2) = (es.take i).map (·.2) ∧ Since (old w0) w0 X w ∧
    Own w X w0.heap.size 73 7 acc (es'.map fun x => x.2.l x.1) ∧ ∀ x ∈ es', Own w X w0.heap.size 53 4 x.1 (x.2.writes.map KV.l)) es.length ⟨0, [], rfl, rfl, Nat.zero_le _, rfl, hs, Own.nil _ _ _ _ _, by simp⟩ ?_
  clear hs
  rintro n a acc w X ⟨i, es', rfl, rfl, hi, hes, hs, hacc, hws⟩
  have hel' : es'.length = i := by have := congrArg List.length hes; simpa [Nat.min_eq_left hi] using this
  rcases at_or es i with ⟨hlt, x, hx, hd⟩ | ⟨hge, hd⟩
  · have ha3 := ha.since hs
    have hxm := List.mem_of_getElem? hx
    have hwx := ((h.ws x hxm).mono hX).sl.since hs
    have o1 := hwx.one
    repeat' first | ((with_reducible refine r_lssT ?_ ?_); (· omega)) | with_reducible apply condW_T | ((with_reducible apply un_cell); (· rfl)) | with_reducible apply un_box | ((with_reducible apply m_ldA); (· exact qF); (· exact qM); (· kernel_rfl); (· rfl)) | ((with_reducible apply m_ixS); (· exact qO); (try (case hz => rfl)); (case hr => exact qR); (try (case hz => omega)); (case ht => kernel_rfl); (case hs => kernel_rfl); intro _ _ _) | ((with_reducible apply m_chkc); (case h => exact qE)) | ((with_reducible apply chk_T); (· exact qC))
    refine r_ct0 (d_clone_writes hwx (by have := hwl x.2 (by rw [hdone]; exact List.mem_map.2 ⟨x, hxm, rfl⟩); omega)) (by kernel_rfl) hs.has ?_
    rintro vc wa2 w2 X2 hoc hle2 hin2 hs2
    have hz := hs.kp.size
    have hoc2 : Own w2 X2 w0.heap.size 53 4 vc (x.2.writes.map KV.l) := hoc.up hin2 (by omega)
    have hacc2 := hacc.since hs2
    replace hs := hs.trans hs2
    have ovc := hoc2.sl.one
    obtain ⟨xb, xn, xc, rfl⟩ := hoc2.sl.form
    repeat' first | ((with_reducible apply m_sub); (· exact qN)) | ((with_reducible apply m_set); (· exact qN)) | ((with_reducible apply chk_T); (· exact qC)) | ((with_reducible apply r_add); (· omega); (· omega)) | ((with_reducible apply m_app1a); (case own => first | assumption | exact Own.since (by assumption) (by assumption)); (case hs => assumption); (case h0 => first | exact fun _ h => h | exact hs0.has); (case he => kernel_rfl); (case hk => rfl); (case h1 => exact qE); (case hb => (simp only [List.length_map, List.length_take, List.length_append, List.length_cons, List.length_nil]; omega)); (case hl => (simp only [List.length_map, List.length_take, List.length_append, List.length_cons, List.length_nil]; omega)); intro acc w X hs1 ho hc hat; replace hs := hs1)
    have far : ∀ {v : Value} {rows : List (List Value)}, Own w2 X2 w0.heap.size 53 4 v rows → Own w X w0.heap.size 53 4 v rows := fun hv => hv.chg hc fun g hg hb' => by
      obtain ⟨c1, e1⟩ := hv.ow.tag hg
      obtain ⟨c2, e2⟩ := hacc2.ow.tag hb'
      rw [e1] at e2; simp at e2
    refine nx2_of (es.length - (i + 1)) (by omega) ⟨i + 1, es' ++ [(.slice xb xn xc, x.2)], by simp, rfl, by omega, ?_, hs, ?_, fun y hy => ?_⟩
    · rw [List.take_add_one, hx, List.map_append, hes]; simp
    · rw [List.map_append]; exact ho
    · rcases List.mem_append.1 hy with hy | hy
      · exact far ((hws y hy).since hs2)
      · simp only [List.mem_singleton] at hy; subst hy; exact far hoc2
  · have hil : i = es.length := by omega
    subst hil
    rw [List.take_length, ← hdone] at hes
    repeat' first | ((with_reducible refine r_lssF ?_ ?_); (· omega)) | with_reducible apply condW_F
    exact fin_ret0 hs fun wa9 hk9 => ⟨es', hes, (hacc.kp hk9).tight, fun x hx => ((hws x hx).kp hk9).tight⟩
def LD.keep (x : LD) (e : Nat) (bs : List Nat) : LD × Nat × Nat :=
  if e ≠ 0 then (x, 0, e) else
    let r := x.append bs
    if r.2.2 ≠ 0 then r else (r.1.sync.1, r.2.1, r.1.sync.2)
def Snk (w : World) (F : XS) (nb lb db : Nat) (s : SM) (L : LM) (m : DM) : Prop :=
  ∃ FN FG mb av es, Dj FN FG ∧ (∀ k, FN k → F k) ∧ (∀ k, FG k → F k) ∧ SkL w FN nb lb mb av es s ∧ Lg w FG lb db L m
theorem Snk.mv {w w' : World} {F : XS} {nb lb db : Nat} {s : SM} {L : LM} {m : DM} (h : Snk w F nb lb db s L m) (v : Mv F w F w') : Snk w' F nb lb db s L m := by
  obtain ⟨FN, FG, mb, av, es, hd, h1, h2, h3, h4⟩ := h
  exact ⟨FN, FG, mb, av, es, hd, h1, h2, h3.mv fun k hk hl => ⟨hk, (v k (h1 k hk) hl).2⟩, h4.mv fun k hk hl => ⟨hk, (v k (h2 k hk) hl).2⟩⟩
theorem Snk.mono {w : World} {F F' : XS} {nb lb db : Nat} {s : SM} {L : LM} {m : DM} (h : Snk w F nb lb db s L m) (hs : ∀ k, F k → F' k) : Snk w F' nb lb db s L m := by
  obtain ⟨FN, FG, mb, av, es, hd, h1, h2, h3, h4⟩ := h
  exact ⟨FN, FG, mb, av, es, hd, fun k hk => hs k (h1 k hk), fun k hk => hs k (h2 k hk), h3, h4⟩
theorem d_sink_keep {w : World} {X F : XS} {nb lb db e : Nat} {s : SM} {L : LM} {m : DM} {r : Rec} {vr vw vp vq vh vd : Value} {bs : List Nat} (h : Snk w F nb lb db s L m) (hL : LOK L) (hsl : L.segs.length ≤ 2 ^ 29) (hF : FX F X w)
    (henc : ∀ wa, Kp X w wa → Ct Tryz.prog 91 #[r.v vr vw vp vq vh vd] wa (out F wa) nX fun v wb w' => if e ≠ 0 then v = .tuple #[.slice none 0 0, I e] else ∃ vb, v = .tuple #[vb, I 0] ∧ Own w' (made wb w') wb.heap.size 5 1 vb (bs.map U1))
    (h1 : Eng.one vr = true) (h2 : Eng.one vw = true) (h3 : Eng.one vp = true) (h4 : Eng.one vq = true) (h5 : Eng.one vh = true) (h6 : Eng.one vd = true)
    (hlk : LOK (LD.append ⟨L, m⟩ bs).1.L) (hdn : (LD.keep ⟨L, m⟩ e bs).2.2 ≠ 12) :
    Ct Tryz.prog 54 #[ptr nb 0, r.v vr vw vp vq vh vd] w X F fun v wa w' => v = .tuple #[I (LD.keep ⟨L, m⟩ e bs).2.1, I (LD.keep ⟨L, m⟩ e bs).2.2] ∧
      ∃ F', (∀ k, F' k → F k ∨ made wa w' k) ∧ Snk w' F' nb lb db s (LD.keep ⟨L, m⟩ e bs).1.L (LD.keep ⟨L, m⟩ e bs).1.m := by
  intro w0 hk
  obtain ⟨FN, FG, mb, av, es, hdj, hN, hG, hs0, hg⟩ := h.mv (hF.mv hk)
  have hT := hF.ft hk
  have hF0 : FX F (old w0) w0 := hF.kp hk
  have hb := hs0.box.mv (Mv.sub fun k hk' => hT.inX k (hN k hk'))
  generalize hr : LD.keep ⟨L, m⟩ e bs = q at hdn ⊢
  unfold LD.keep at hr
  dsimp only at hr
  apply ok_sink_Node_keep; unfold vc_sink_Node_keep
  refine r_ct0 ((henc w0 hk).since (hT.s)) (by kernel_rfl) hT.s.has ?_
  rintro ve wa1 w1 X1 hq hle1 hin1 hs1
  have hT1 := hT.since hs1
  have hb1 := hb.since hs1
  have hS : ∀ (x : LD) (F1 : XS) (w2 : World) (X2 : XS), Ft w0 F w2 X2 F1 → Snk w2 F1 nb lb db s x.L x.m → ∀ wa, Kp X2 w2 wa → ∃ F', (∀ k, F' k → F k ∨ made w0 wa k) ∧ Snk wa F' nb lb db s x.L x.m := fun x F1 w2 X2 hT2 h2 wa hk9 => ⟨F1, hT2.grew hk9 fun _ h => h, h2.mv (hk9.mvA hT2.inX)⟩
  have hs01 : SkL w1 FN nb lb mb av es s := hs0.mv (hs1.mvF fun k hk' => hT.inX k (hN k hk'))
  have hg1 : Lg w1 FG lb db L m := hg.mv (hs1.mvF fun k hk' => hT.inX k (hG k hk'))
  by_cases he : e ≠ 0
  · rw [if_pos he] at hq hr
    subst hq; subst hr
    dsimp only at hdn ⊢
    repeat' first | ((with_reducible refine r_eqlF ?_ ?_); (· omega)) | with_reducible apply condW_F | ((with_reducible apply m_ext); (· rfl)) | with_reducible apply jn_of | (refine r_pure (c_sink_fall (e := (e : Int)) (by omega)) (by kernel_rfl) hT1.s.has fun w2 X2 hs2 => ?_)
    exact (hT1.since hs2).fin fun wa hk9 => ⟨rfl, hS ⟨L, m⟩ F _ _ (hT1.since hs2) ⟨FN, FG, mb, av, es, hdj, hN, hG, hs01.mv (hs2.mvF fun k hk' => hT1.inX k (hN k hk')), hg1.mv (hs2.mvF fun k hk' => hT1.inX k (hG k hk'))⟩ wa hk9⟩
  · rw [if_neg he] at hq hr
    obtain ⟨vb, rfl, hob⟩ := hq
    have ovb := hob.sl.one
    repeat' first | ((with_reducible refine r_eqlT ?_ ?_); (· omega)) | with_reducible (first | apply condW_T | apply r_nil) | ((with_reducible apply m_fld1); (· exact qF); (· kernel_rfl); (· rfl); intro _ _ _) | ((with_reducible apply m_ld1); (· exact qF); (· exact qM); (· kernel_rfl); (· rfl)) | ((with_reducible apply m_ext); (· rfl)) | with_reducible apply jn_of
    have hFG : FX FG X1 w1 := hT1.fx hG
    refine hT1.call (d_wal_Append hg1 hL (by omega) hFG hob.sl fun k hk' => ⟨hin1 k hk', fun hf => ?_⟩) (by kernel_rfl) hG fun v wa2 w2 X2 hq hle2 hin2 hT2 hc2 => ?_
    · have := (hF0 k (hG k hf)).2
      have := hk'.1
      omega
    obtain ⟨rfl, FG2, hFG2, hg2⟩ := hq
    generalize hap : LD.append ⟨L, m⟩ bs = ap at hr hlk hg2 ⊢
    have hs02 : SkL w2 FN nb lb mb av es s := hs01.mv (hc2.mvA fun k hk' => ⟨hT1.inX k (hN k hk'), fun hf => hdj k hk' hf⟩)
    have hdj2 : Dj FN FG2 := fun k a b => (hFG2 k b).elim (hdj k a) fun hm => by
      have := (hT1.fx hN k a).2; have := hm.1; omega
    have hN2 : ∀ k, FN k → F k ∨ made wa2 w2 k := fun k hk' => .inl (hN k hk')
    have hG2 : ∀ k, FG2 k → F k ∨ made wa2 w2 k := fun k hk' => (hFG2 k hk').imp (hG k) id
    have hb2 := hs02.box.mv (Mv.sub fun k hk' => hT2.inX k (hN2 k hk'))
    by_cases hz : ap.2.2 ≠ 0
    · rw [if_pos hz] at hr
      subst hr
      repeat' first | ((with_reducible refine r_eqlF ?_ ?_); (· omega)) | with_reducible apply condW_F | ((with_reducible apply m_ext); (· rfl)) | with_reducible apply jn_of | (refine r_pure (c_sink_fall (e := (ap.2.2 : Int)) (by omega)) (by kernel_rfl) hT2.s.has fun w3 X3 hs3 => ?_)
      exact (hT2.since hs3).fin fun wa hk9 => ⟨rfl, hS ap.1 _ _ _ (hT2.since hs3) ⟨FN, FG2, mb, av, es, hdj2, hN2, hG2, hs02.mv (hs3.mvF fun k hk' => hT2.inX k (hN2 k hk')), hg2.mv (hs3.mvF fun k hk' => hT2.inX k (hG2 k hk'))⟩ wa hk9⟩
    · rw [if_neg hz] at hr
      have hz0 : (ap.2.2 : Int) = 0 := by omega
      repeat' first | ((with_reducible refine r_eqlT ?_ ?_); (· omega)) | with_reducible (first | apply condW_T | apply r_nil) | ((with_reducible apply m_fld1); (· exact qF); (· kernel_rfl); (· rfl); intro _ _ _) | ((with_reducible apply m_ld1); (· exact qF); (· exact qM); (· kernel_rfl); (· rfl)) | ((with_reducible apply m_ext); (· rfl)) | with_reducible apply jn_of
      refine hT2.call (d_wal_Sync hg2 hlk (hT2.fx hG2)) (by kernel_rfl) hG2 fun v wa3 w3 X3 hq hle3 hin3 hT3 hc3 => ?_
      obtain ⟨rfl, FG3, hFG3, hg3⟩ := hq
      have eap : ap.1 = ⟨ap.1.L, ap.1.m⟩ := rfl
      rw [eap] at hr
      subst hr
      generalize hsy : LD.sync ⟨ap.1.L, ap.1.m⟩ = sy at hdn hg3 ⊢
      have hs03 : SkL w3 FN nb lb mb av es s := hs02.mv (hc3.mvA fun k hk' => ⟨hT2.inX k (hN2 k hk'), fun hf => hdj2 k hk' hf⟩)
      have hdj3 : Dj FN FG3 := fun k a b => (hFG3 k b).elim (hdj2 k a) fun hm => by
        have := (hT2.fx hN2 k a).2; have := hm.1; omega
      have hN3 : ∀ k, FN k → (F k ∨ made wa2 w2 k) ∨ made wa3 w3 k := fun k hk' => .inl (hN2 k hk')
      have hG3 : ∀ k, FG3 k → (F k ∨ made wa2 w2 k) ∨ made wa3 w3 k := fun k hk' => (hFG3 k hk').imp (hG2 k) id
      repeat' first | (refine r_pure (c_sink_fall (e := (sy.2 : Int)) (by have : sy.2 ≠ 12 := hdn; omega)) (by kernel_rfl) hT3.s.has fun w4 X4 hs4 => ?_)
      exact (hT3.since hs4).fin fun wa hk9 => ⟨rfl, hS sy.1 _ _ _ (hT3.since hs4) ⟨FN, FG3, mb, av, es, hdj3, hN3, hG3, hs03.mv (hs4.mvF fun k hk' => hT3.inX k (hN3 k hk')), hg3.mv (hs4.mvF fun k hk' => hT3.inX k (hG3 k hk'))⟩ wa hk9⟩
end Go.Proofs.YtpdkoaklobnegaaGreat
