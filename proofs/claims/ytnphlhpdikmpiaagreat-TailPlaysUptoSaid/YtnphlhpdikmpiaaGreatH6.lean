/-
  Part 6 of the proof: what the last text leans on.
-/
import Derived.WalkKit
import Derived.Test.YtnphlhpdikmpiaaGreatH5
namespace Go.Proofs.YtnphlhpdikmpiaaGreat
open Go.Eng Go.RowKit Go.Sort
set_option maxRecDepth 100000
set_option maxHeartbeats 1000000
theorem less_calls (a b : Txn) (W : World) : Calls Tryz.prog 48 #[a.v, b.v] W fun e w' => e = .returned (.bool (a.less b)) ∧ Grew W w' := by
  go_enter Tryz.func48, Tryz.ntmps48
  go_wp2
  all_goals go_ret
  all_goals refine ⟨?_, _, by rw [alloc_eq_grow, alloc_eq_grow, grow_grow]⟩
  all_goals simp_all [Txn.less]
abbrev pend8 (a : Txn) (s : Stamp) (vr vw : Value) : Value := .agg #[I a.coord, I a.life, I a.sq, I s.wall, I s.logic, I s.node, vr, vw]
theorem open1_calls (a b : Txn) (s s' : Stamp) (b1 b2 b3 b4 : Option Addr) (n1 n2 n3 n4 c1 c2 c3 c4 : Nat) (W : World) : Calls Tryz.prog 47 #[pend8 a s (.slice b1 n1 c1) (.slice b2 n2 c2), pend8 b s' (.slice b3 n3 c3) (.slice b4 n4 c4)] W
    fun e w' => e = .returned (I (if a.less b then -1 else 1)) ∧ Grew W w' := by
  have hcon := less_calls a b
  change ∀ W', Calls Tryz.prog 48 #[.agg #[I a.coord, I a.life, I a.sq], .agg #[I b.coord, I b.life, I b.sq]] W' _ at hcon
  generalize a.less b = r at hcon ⊢
  go_enter Tryz.func47, Tryz.ntmps47
  go_wp2_with (go_at_call 48; refine (hcon _).mono ?_; rintro e w' ⟨rfl, os, rfl⟩)
  all_goals go_ret
  all_goals refine ⟨?_, _, by rw [alloc_eq_grow, alloc_eq_grow, grow_grow, grow_grow]⟩
  all_goals simp_all
theorem Txn.less_iff {a b : Txn} : a.less b = true ↔ a.coord < b.coord ∨ a.coord = b.coord ∧ (a.life < b.life ∨ a.life = b.life ∧ a.sq < b.sq) := by
  unfold Txn.less
  split
  · simp; omega
  · split
    · simp; omega
    · simp; omega
theorem Txn.less_irrefl (a : Txn) : a.less a = false := by
  rw [← Bool.not_eq_true, Txn.less_iff]; omega
theorem Txn.less_trans {a b c : Txn} (h1 : a.less b = true) (h2 : b.less c = true) : a.less c = true := by
  rw [Txn.less_iff] at *; omega
theorem Txn.less_ntrans {a b c : Txn} (h1 : a.less b = false) (h2 : b.less c = false) : a.less c = false := by
  rw [← Bool.not_eq_true, Txn.less_iff] at *; omega
theorem Txn.less_total {a b : Txn} (h1 : a.less b = false) (h2 : b.less a = false) : a = b := by
  rw [← Bool.not_eq_true, Txn.less_iff] at *
  cases a; cases b; simp only [Txn.mk.injEq] at *; omega
end Go.Proofs.YtnphlhpdikmpiaaGreat
