/-
  Part 3 of the proof: what the last text leans on.
-/
import Derived.Test.YtnphlhpdikmpiaaGreatH2
namespace Go.Proofs.YtnphlhpdikmpiaaGreat
open Go.Eng
set_option maxRecDepth 100000
set_option maxHeartbeats 1000000
set_option linter.unusedVariables false
set_option linter.unusedSimpArgs false
attribute [local irreducible] un jn chk fld ld1 ldA st1 ixS lnS lnT bld cvI cvF ixA bsS apS rdV rdW grdW eW eV eU eC eF gE condW fin pickN nilN binS vS lp0 lp1 lp2 lp3 lp4 lp5 lp6 lp7 nx0 nx1 nx2 nx3 nx4 nx5 nx6 nx7
theorem d_raceref_Texts {w : World} {X : XS} {a b : Value} {xs ys : List BA} (ha : Sl w X 1 a (xs.map S1)) (hb : Sl w X 1 b (ys.map S1)) :
    Ct Tryz.prog 38 #[a, b] w X nX fun v _ _ => v = B (decide (xs = ys)) := by
    intro w0 hk
    replace ha := ha.mv hk.mvo
    replace hb := hb.mv hk.mvo
    have hla := ha.len'
    apply ok_raceref_Texts; unfold vc_raceref_Texts
    have hs := Since.init w0
    repeat' first
      | with_reducible apply condW_T
      | with_reducible apply condW_F
      | (with_reducible apply r_neq <;> intro _)
      | ((with_reducible apply m_lnS); (· (first | assumption | exact Own.sl (by assumption))); (· kernel_rfl))
      | ((first | (with_reducible refine fin_ret0 hs ?_) | (with_reducible refine fin_ret0 (hs0.trans hs) ?_)); intro wa hk; (simp only [B, Value.bool.injEq]; symm; rw [decide_eq_false_iff_not]; rintro rfl; omega))
    have hlen : xs.length = ys.length := by omega
    refine lp1_of (fun n a w X => ∃ i : Nat, a = I (i : Nat) ∧ n = (xs).length - i ∧ i ≤ (xs).length ∧ Since (old w0) w0 X w ∧ (xs = ys ↔ xs.drop i = ys.drop i)) (xs).length ⟨0, rfl, rfl, Nat.zero_le _, hs, by simp⟩ ?_
    rintro n a w X ⟨i, rfl, rfl, hi, hs, hw⟩
    rcases at_or (xs) i with ⟨hlt, x, hx, hd⟩ | ⟨hge, hd⟩
    · obtain ⟨y, hy, hdy⟩ := at_drop (xs := ys) (i := i) (by omega)
      repeat' first
        | ((with_reducible refine r_lssT ?_ ?_); (· omega))
        | with_reducible apply condW_T
        | with_reducible apply condW_F
        | (with_reducible apply r_sneq <;> intro _)
        | ((with_reducible apply m_ld1); (· (first | assumption | exact RowIs.cells (by assumption))); (· (first | exact Mv.refl _ _ | exact Since.mv (by assumption) | exact Since.mv (Since.trans (by assumption) (by assumption)))); (· kernel_rfl); (· rfl))
        | ((with_reducible apply m_lnS); (· (first | assumption | exact Own.sl (by assumption))); (· kernel_rfl))
        | ((with_reducible apply m_ixS); (· (first | assumption | exact Own.sl (by assumption))); (try (case hz => rfl)); (case hr => first | assumption | exact List.getElem?_eq_getElem (by omega)); (try (case hz => omega)); (case ht => kernel_rfl); (case hs => kernel_rfl); intro _ _ _)
        | ((with_reducible apply r_add); (· omega); (· omega))
        | ((first | (with_reducible refine fin_ret0 hs ?_) | (with_reducible refine fin_ret0 (hs0.trans hs) ?_)); intro wa hk; (simp_all [decide_true]))
        | ((with_reducible refine nx1_of ((xs).length - (i + 1)) ?_ ?_); (· omega); exact ⟨i + 1, by simp, rfl, by omega, hs, by simp_all [decide_true]⟩)
    · have hdy := List.drop_of_length_le (l := ys) (i := i) (by omega)
      repeat' first
        | ((with_reducible refine r_lssF ?_ ?_); (· omega))
        | with_reducible apply condW_F
        | ((with_reducible apply m_lnS); (· (first | assumption | exact Own.sl (by assumption))); (· kernel_rfl))
        | ((first | (with_reducible refine fin_ret0 hs ?_) | (with_reducible refine fin_ret0 (hs0.trans hs) ?_)); intro wa hk; simp_all)
theorem d_raceref_Ints {w : World} {X : XS} {a b : Value} {xs ys : List Int} (ha : Sl w X 1 a (xs.map I1)) (hb : Sl w X 1 b (ys.map I1)) :
    Ct Tryz.prog 40 #[a, b] w X nX fun v _ _ => v = B (decide (xs = ys)) := by
    intro w0 hk
    replace ha := ha.mv hk.mvo
    replace hb := hb.mv hk.mvo
    have hla := ha.len'
    apply ok_raceref_Ints; unfold vc_raceref_Ints
    have hs := Since.init w0
    repeat' first
      | with_reducible apply condW_T
      | with_reducible apply condW_F
      | (with_reducible apply r_neq <;> intro _)
      | ((with_reducible apply m_lnS); (· (first | assumption | exact Own.sl (by assumption))); (· kernel_rfl))
      | ((first | (with_reducible refine fin_ret0 hs ?_) | (with_reducible refine fin_ret0 (hs0.trans hs) ?_)); intro wa hk; (simp only [B, Value.bool.injEq]; symm; rw [decide_eq_false_iff_not]; rintro rfl; omega))
    have hlen : xs.length = ys.length := by omega
    refine lp1_of (fun n a w X => ∃ i : Nat, a = I (i : Nat) ∧ n = (xs).length - i ∧ i ≤ (xs).length ∧ Since (old w0) w0 X w ∧ (xs = ys ↔ xs.drop i = ys.drop i)) (xs).length ⟨0, rfl, rfl, Nat.zero_le _, hs, by simp⟩ ?_
    rintro n a w X ⟨i, rfl, rfl, hi, hs, hw⟩
    rcases at_or (xs) i with ⟨hlt, x, hx, hd⟩ | ⟨hge, hd⟩
    · obtain ⟨y, hy, hdy⟩ := at_drop (xs := ys) (i := i) (by omega)
      repeat' first
        | ((with_reducible refine r_lssT ?_ ?_); (· omega))
        | with_reducible apply condW_T
        | with_reducible apply condW_F
        | (with_reducible apply r_neq <;> intro _)
        | ((with_reducible apply m_ld1); (· (first | assumption | exact RowIs.cells (by assumption))); (· (first | exact Mv.refl _ _ | exact Since.mv (by assumption) | exact Since.mv (Since.trans (by assumption) (by assumption)))); (· kernel_rfl); (· rfl))
        | ((with_reducible apply m_lnS); (· (first | assumption | exact Own.sl (by assumption))); (· kernel_rfl))
        | ((with_reducible apply m_ixS); (· (first | assumption | exact Own.sl (by assumption))); (try (case hz => rfl)); (case hr => first | assumption | exact List.getElem?_eq_getElem (by omega)); (try (case hz => omega)); (case ht => kernel_rfl); (case hs => kernel_rfl); intro _ _ _)
        | ((with_reducible apply r_add); (· omega); (· omega))
        | ((first | (with_reducible refine fin_ret0 hs ?_) | (with_reducible refine fin_ret0 (hs0.trans hs) ?_)); intro wa hk; (simp_all [decide_true]))
        | ((with_reducible refine nx1_of ((xs).length - (i + 1)) ?_ ?_); (· omega); exact ⟨i + 1, by simp, rfl, by omega, hs, by simp_all [decide_true]⟩)
    · have hdy := List.drop_of_length_le (l := ys) (i := i) (by omega)
      repeat' first
        | ((with_reducible refine r_lssF ?_ ?_); (· omega))
        | with_reducible apply condW_F
        | ((with_reducible apply m_lnS); (· (first | assumption | exact Own.sl (by assumption))); (· kernel_rfl))
        | ((first | (with_reducible refine fin_ret0 hs ?_) | (with_reducible refine fin_ret0 (hs0.trans hs) ?_)); intro wa hk; simp_all)
theorem d_raceref_Writes {w : World} {X : XS} {a b : Value} {xs ys : List KV} (ha : Sl w X 4 a (xs.map KV.l)) (hb : Sl w X 4 b (ys.map KV.l)) :
    Ct Tryz.prog 39 #[a, b] w X nX fun v _ _ => v = B (decide (xs = ys)) := by
    intro w0 hk
    replace ha := ha.mv hk.mvo
    replace hb := hb.mv hk.mvo
    have hla := ha.len'
    apply ok_raceref_Writes; unfold vc_raceref_Writes
    have hs := Since.init w0
    repeat' first
      | with_reducible apply condW_T
      | with_reducible apply condW_F
      | (with_reducible apply r_neq <;> intro _)
      | ((with_reducible apply m_lnS); (· (first | assumption | exact Own.sl (by assumption))); (· kernel_rfl))
      | ((first | (with_reducible refine fin_ret0 hs ?_) | (with_reducible refine fin_ret0 (hs0.trans hs) ?_)); intro wa hk; (simp only [B, Value.bool.injEq]; symm; rw [decide_eq_false_iff_not]; rintro rfl; omega))
    have hlen : xs.length = ys.length := by omega
    refine lp1_of (fun n a w X => ∃ i : Nat, a = I (i : Nat) ∧ n = (xs).length - i ∧ i ≤ (xs).length ∧ Since (old w0) w0 X w ∧ (xs = ys ↔ xs.drop i = ys.drop i)) (xs).length ⟨0, rfl, rfl, Nat.zero_le _, hs, by simp⟩ ?_
    rintro n a w X ⟨i, rfl, rfl, hi, hs, hw⟩
    rcases at_or (xs) i with ⟨hlt, x, hx, hd⟩ | ⟨hge, hd⟩
    · obtain ⟨y, hy, hdy⟩ := at_drop (xs := ys) (i := i) (by omega)
      repeat' first
        | ((with_reducible refine r_lssT ?_ ?_); (· omega))
        | with_reducible apply condW_T
        | with_reducible apply condW_F
        | with_reducible apply un_selF
        | with_reducible apply un_selTF
        | with_reducible apply grdV_onF
        | with_reducible apply grdW_offF
        | with_reducible apply rdW_pickT
        | with_reducible apply rdW_pickF
        | with_reducible apply gE_F
        | with_reducible apply gE_TF
        | with_reducible apply r_notT
        | with_reducible apply r_notF
        | (with_reducible apply r_sneq <;> intro _)
        | ((with_reducible apply m_fld1); (· (first | assumption | exact RowIs.cells (by assumption))); (· kernel_rfl); (· rfl); intro _ _ _)
        | ((with_reducible apply m_fld); (· (first | assumption | exact RowIs.cells (by assumption))); (· kernel_rfl); (· rfl); (· (simp only [Value.cells, List.toList_toArray, List.take_succ_cons, List.drop_succ_cons, List.take_zero, List.drop_zero, List.take_nil, setL, List.length_cons, List.length_nil, List.cons_append, List.nil_append, Nat.reduceAdd, Nat.zero_add]; try rfl)); intro _ _ _)
        | ((with_reducible apply m_ld1); (· (first | assumption | exact RowIs.cells (by assumption))); (· (first | exact Mv.refl _ _ | exact Since.mv (by assumption) | exact Since.mv (Since.trans (by assumption) (by assumption)))); (· kernel_rfl); (· rfl))
        | ((with_reducible apply m_ldA); (· (first | assumption | exact RowIs.cells (by assumption))); (· (first | exact Mv.refl _ _ | exact Since.mv (by assumption) | exact Since.mv (Since.trans (by assumption) (by assumption)))); (· kernel_rfl); (· rfl))
        | ((with_reducible apply m_lnS); (· (first | assumption | exact Own.sl (by assumption))); (· kernel_rfl))
        | ((with_reducible apply m_ixS); (· (first | assumption | exact Own.sl (by assumption))); (try (case hz => rfl)); (case hr => first | assumption | exact List.getElem?_eq_getElem (by omega)); (try (case hz => omega)); (case ht => kernel_rfl); (case hs => kernel_rfl); intro _ _ _)
        | ((with_reducible apply r_add); (· omega); (· omega))
        | with_reducible apply jn_of
        | ((with_reducible refine r_pureB (c_raceref_Value _ _) ?_ hs.has ?_ ?_); (· kernel_rfl); all_goals (intro _ w X hs1; replace hs := hs.trans hs1))
        | ((first | (with_reducible refine fin_ret0 hs ?_) | (with_reducible refine fin_ret0 (hs0.trans hs) ?_)); intro wa hk; (simp_all [KV.ext_iff, Val.ext_iff]))
        | ((with_reducible refine nx1_of ((xs).length - (i + 1)) ?_ ?_); (· omega); exact ⟨i + 1, by simp, rfl, by omega, hs, by simp_all [KV.ext_iff, Val.ext_iff]⟩)
    · have hdy := List.drop_of_length_le (l := ys) (i := i) (by omega)
      repeat' first
        | ((with_reducible refine r_lssF ?_ ?_); (· omega))
        | with_reducible apply condW_F
        | ((with_reducible apply m_lnS); (· (first | assumption | exact Own.sl (by assumption))); (· kernel_rfl))
        | ((first | (with_reducible refine fin_ret0 hs ?_) | (with_reducible refine fin_ret0 (hs0.trans hs) ?_)); intro wa hk; simp_all)
theorem d_raceref_Pairs {w : World} {X : XS} {a b : Value} {xs ys : List KV} (ha : Sl w X 4 a (xs.map KV.l)) (hb : Sl w X 4 b (ys.map KV.l)) :
    Ct Tryz.prog 41 #[a, b] w X nX fun v _ _ => v = B (decide (xs = ys)) := by
    intro w0 hk
    replace ha := ha.mv hk.mvo
    replace hb := hb.mv hk.mvo
    have hla := ha.len'
    apply ok_raceref_Pairs; unfold vc_raceref_Pairs
    have hs := Since.init w0
    repeat' first
      | with_reducible apply condW_T
      | with_reducible apply condW_F
      | (with_reducible apply r_neq <;> intro _)
      | ((with_reducible apply m_lnS); (· (first | assumption | exact Own.sl (by assumption))); (· kernel_rfl))
      | ((first | (with_reducible refine fin_ret0 hs ?_) | (with_reducible refine fin_ret0 (hs0.trans hs) ?_)); intro wa hk; (simp only [B, Value.bool.injEq]; symm; rw [decide_eq_false_iff_not]; rintro rfl; omega))
    have hlen : xs.length = ys.length := by omega
    refine lp1_of (fun n a w X => ∃ i : Nat, a = I (i : Nat) ∧ n = (xs).length - i ∧ i ≤ (xs).length ∧ Since (old w0) w0 X w ∧ (xs = ys ↔ xs.drop i = ys.drop i)) (xs).length ⟨0, rfl, rfl, Nat.zero_le _, hs, by simp⟩ ?_
    rintro n a w X ⟨i, rfl, rfl, hi, hs, hw⟩
    rcases at_or (xs) i with ⟨hlt, x, hx, hd⟩ | ⟨hge, hd⟩
    · obtain ⟨y, hy, hdy⟩ := at_drop (xs := ys) (i := i) (by omega)
      repeat' first
        | ((with_reducible refine r_lssT ?_ ?_); (· omega))
        | with_reducible apply condW_T
        | with_reducible apply condW_F
        | with_reducible apply un_selF
        | with_reducible apply un_selTF
        | with_reducible apply grdV_onF
        | with_reducible apply grdW_offF
        | with_reducible apply rdW_pickT
        | with_reducible apply rdW_pickF
        | with_reducible apply gE_F
        | with_reducible apply gE_TF
        | with_reducible apply r_notT
        | with_reducible apply r_notF
        | (with_reducible apply r_sneq <;> intro _)
        | ((with_reducible apply m_fld1); (· (first | assumption | exact RowIs.cells (by assumption))); (· kernel_rfl); (· rfl); intro _ _ _)
        | ((with_reducible apply m_fld); (· (first | assumption | exact RowIs.cells (by assumption))); (· kernel_rfl); (· rfl); (· (simp only [Value.cells, List.toList_toArray, List.take_succ_cons, List.drop_succ_cons, List.take_zero, List.drop_zero, List.take_nil, setL, List.length_cons, List.length_nil, List.cons_append, List.nil_append, Nat.reduceAdd, Nat.zero_add]; try rfl)); intro _ _ _)
        | ((with_reducible apply m_ld1); (· (first | assumption | exact RowIs.cells (by assumption))); (· (first | exact Mv.refl _ _ | exact Since.mv (by assumption) | exact Since.mv (Since.trans (by assumption) (by assumption)))); (· kernel_rfl); (· rfl))
        | ((with_reducible apply m_ldA); (· (first | assumption | exact RowIs.cells (by assumption))); (· (first | exact Mv.refl _ _ | exact Since.mv (by assumption) | exact Since.mv (Since.trans (by assumption) (by assumption)))); (· kernel_rfl); (· rfl))
        | ((with_reducible apply m_lnS); (· (first | assumption | exact Own.sl (by assumption))); (· kernel_rfl))
        | ((with_reducible apply m_ixS); (· (first | assumption | exact Own.sl (by assumption))); (try (case hz => rfl)); (case hr => first | assumption | exact List.getElem?_eq_getElem (by omega)); (try (case hz => omega)); (case ht => kernel_rfl); (case hs => kernel_rfl); intro _ _ _)
        | ((with_reducible apply r_add); (· omega); (· omega))
        | with_reducible apply jn_of
        | ((with_reducible refine r_pureB (c_raceref_Value _ _) ?_ hs.has ?_ ?_); (· kernel_rfl); all_goals (intro _ w X hs1; replace hs := hs.trans hs1))
        | ((first | (with_reducible refine fin_ret0 hs ?_) | (with_reducible refine fin_ret0 (hs0.trans hs) ?_)); intro wa hk; (simp_all [KV.ext_iff, Val.ext_iff]))
        | ((with_reducible refine nx1_of ((xs).length - (i + 1)) ?_ ?_); (· omega); exact ⟨i + 1, by simp, rfl, by omega, hs, by simp_all [KV.ext_iff, Val.ext_iff]⟩)
    · have hdy := List.drop_of_length_le (l := ys) (i := i) (by omega)
      repeat' first
        | ((with_reducible refine r_lssF ?_ ?_); (· omega))
        | with_reducible apply condW_F
        | ((with_reducible apply m_lnS); (· (first | assumption | exact Own.sl (by assumption))); (· kernel_rfl))
        | ((first | (with_reducible refine fin_ret0 hs ?_) | (with_reducible refine fin_ret0 (hs0.trans hs) ?_)); intro wa hk; simp_all)
theorem d_raceref_Pending {w : World} {X : XS} {p q : Pend} {vr vw ur uw : Value} (h1 : Sl w X 1 vr (p.reads.map S1)) (h2 : Sl w X 4 vw (p.writes.map KV.l))
    (h3 : Sl w X 1 ur (q.reads.map S1)) (h4 : Sl w X 4 uw (q.writes.map KV.l)) :
    Ct Tryz.prog 51 #[p.v vr vw, q.v ur uw] w X nX fun v _ _ => v = B (decide (p = q)) := by
  intro w0 hk
  replace h1 := h1.mv hk.mvo
  replace h2 := h2.mv hk.mvo
  replace h3 := h3.mv hk.mvo
  replace h4 := h4.mv hk.mvo
  apply ok_raceref_Pending; unfold vc_raceref_Pending
  have hs := Since.init w0
  repeat' first
    | with_reducible apply un_selT
    | with_reducible apply un_selFT
    | with_reducible apply grdV_onT
    | with_reducible apply grdW_offT
    | with_reducible apply rdW_pickT
    | with_reducible apply rdW_pickF
    | with_reducible apply gE_T
    | with_reducible apply gE_FT
    | ((with_reducible refine r_eqS _ _ ?_ ?_ ?_); (· kernel_rfl); all_goals intros)
    | ((with_reducible refine r_eqT _ _ ?_ ?_ ?_); (· kernel_rfl); all_goals intros)
    | with_reducible apply jn_of
    | ((first | (with_reducible refine fin_ret0 hs ?_) | (with_reducible refine fin_ret0 (hs0.trans hs) ?_)); intro wa hk; simp_all [Pend.ext_iff])
    | (refine r_ct0B (d_raceref_Texts  (by first | assumption | exact Sl.mv (by assumption) (by (first | exact Mv.refl _ _ | exact Since.mv (by assumption) | exact Since.mv (Since.trans (by assumption) (by assumption)))) | exact Pends.mv (by assumption) (by (first | exact Mv.refl _ _ | exact Since.mv (by assumption) | exact Since.mv (Since.trans (by assumption) (by assumption)))) | exact Hists.mv (by assumption) (by (first | exact Mv.refl _ _ | exact Since.mv (by assumption) | exact Since.mv (Since.trans (by assumption) (by assumption)))) | exact Rec.at.mv (by assumption) (by (first | exact Mv.refl _ _ | exact Since.mv (by assumption) | exact Since.mv (Since.trans (by assumption) (by assumption)))) | exact Own.sl (by assumption) | exact Cells.mv (by assumption) (by (first | exact Mv.refl _ _ | exact Since.mv (by assumption) | exact Since.mv (Since.trans (by assumption) (by assumption)))) | exact Cells.mv (RowIs.cells (by assumption)) (by (first | exact Mv.refl _ _ | exact Since.mv (by assumption) | exact Since.mv (Since.trans (by assumption) (by assumption)))) | omega) (by first | assumption | exact Sl.mv (by assumption) (by (first | exact Mv.refl _ _ | exact Since.mv (by assumption) | exact Since.mv (Since.trans (by assumption) (by assumption)))) | exact Pends.mv (by assumption) (by (first | exact Mv.refl _ _ | exact Since.mv (by assumption) | exact Since.mv (Since.trans (by assumption) (by assumption)))) | exact Hists.mv (by assumption) (by (first | exact Mv.refl _ _ | exact Since.mv (by assumption) | exact Since.mv (Since.trans (by assumption) (by assumption)))) | exact Rec.at.mv (by assumption) (by (first | exact Mv.refl _ _ | exact Since.mv (by assumption) | exact Since.mv (Since.trans (by assumption) (by assumption)))) | exact Own.sl (by assumption) | exact Cells.mv (by assumption) (by (first | exact Mv.refl _ _ | exact Since.mv (by assumption) | exact Since.mv (Since.trans (by assumption) (by assumption)))) | exact Cells.mv (RowIs.cells (by assumption)) (by (first | exact Mv.refl _ _ | exact Since.mv (by assumption) | exact Since.mv (Since.trans (by assumption) (by assumption)))) | omega)) (by kernel_rfl) hs.has ?_ ?_ <;> (intro _ w X hs1; replace hs := hs.trans hs1))
    | (refine r_ct0B (d_raceref_Writes  (by first | assumption | exact Sl.mv (by assumption) (by (first | exact Mv.refl _ _ | exact Since.mv (by assumption) | exact Since.mv (Since.trans (by assumption) (by assumption)))) | exact Pends.mv (by assumption) (by (first | exact Mv.refl _ _ | exact Since.mv (by assumption) | exact Since.mv (Since.trans (by assumption) (by assumption)))) | exact Hists.mv (by assumption) (by (first | exact Mv.refl _ _ | exact Since.mv (by assumption) | exact Since.mv (Since.trans (by assumption) (by assumption)))) | exact Rec.at.mv (by assumption) (by (first | exact Mv.refl _ _ | exact Since.mv (by assumption) | exact Since.mv (Since.trans (by assumption) (by assumption)))) | exact Own.sl (by assumption) | exact Cells.mv (by assumption) (by (first | exact Mv.refl _ _ | exact Since.mv (by assumption) | exact Since.mv (Since.trans (by assumption) (by assumption)))) | exact Cells.mv (RowIs.cells (by assumption)) (by (first | exact Mv.refl _ _ | exact Since.mv (by assumption) | exact Since.mv (Since.trans (by assumption) (by assumption)))) | omega) (by first | assumption | exact Sl.mv (by assumption) (by (first | exact Mv.refl _ _ | exact Since.mv (by assumption) | exact Since.mv (Since.trans (by assumption) (by assumption)))) | exact Pends.mv (by assumption) (by (first | exact Mv.refl _ _ | exact Since.mv (by assumption) | exact Since.mv (Since.trans (by assumption) (by assumption)))) | exact Hists.mv (by assumption) (by (first | exact Mv.refl _ _ | exact Since.mv (by assumption) | exact Since.mv (Since.trans (by assumption) (by assumption)))) | exact Rec.at.mv (by assumption) (by (first | exact Mv.refl _ _ | exact Since.mv (by assumption) | exact Since.mv (Since.trans (by assumption) (by assumption)))) | exact Own.sl (by assumption) | exact Cells.mv (by assumption) (by (first | exact Mv.refl _ _ | exact Since.mv (by assumption) | exact Since.mv (Since.trans (by assumption) (by assumption)))) | exact Cells.mv (RowIs.cells (by assumption)) (by (first | exact Mv.refl _ _ | exact Since.mv (by assumption) | exact Since.mv (Since.trans (by assumption) (by assumption)))) | omega)) (by kernel_rfl) hs.has ?_ ?_ <;> (intro _ w X hs1; replace hs := hs.trans hs1))
theorem d_raceref_Pendings {w : World} {X : XS} {a b : Value} {xs ys : List Pend} (ha : Pends w X a xs) (hb : Pends w X b ys) :
    Ct Tryz.prog 20 #[a, b] w X nX fun v _ _ => v = B (decide (xs = ys)) := by
    intro w0 hk
    replace ha := ha.mv hk.mvo
    replace hb := hb.mv hk.mvo
    have hla := ha.len
    apply ok_raceref_Pendings; unfold vc_raceref_Pendings
    have hs := Since.init w0
    repeat' first
      | with_reducible apply condW_T
      | with_reducible apply condW_F
      | (with_reducible apply r_neq <;> intro _)
      | ((with_reducible apply m_lnR); (· assumption); (· kernel_rfl))
      | ((first | (with_reducible refine fin_ret0 hs ?_) | (with_reducible refine fin_ret0 (hs0.trans hs) ?_)); intro wa hk; (simp only [B, Value.bool.injEq]; symm; rw [decide_eq_false_iff_not]; rintro rfl; omega))
    have hlen : xs.length = ys.length := by omega
    refine lp1_of (fun n a w X => ∃ i : Nat, a = I (i : Nat) ∧ n = (xs).length - i ∧ i ≤ (xs).length ∧ Since (old w0) w0 X w ∧ (xs = ys ↔ xs.drop i = ys.drop i)) (xs).length ⟨0, rfl, rfl, Nat.zero_le _, hs, by simp⟩ ?_
    rintro n a w X ⟨i, rfl, rfl, hi, hs, hw⟩
    rcases at_or (xs) i with ⟨hlt, x, hx, hd⟩ | ⟨hge, hd⟩
    · obtain ⟨y, hy, hdy⟩ := at_drop (xs := ys) (i := i) (by omega)
      repeat' first
        | ((with_reducible refine r_lssT ?_ ?_); (· omega))
        | with_reducible apply condW_T
        | with_reducible apply condW_F
        | with_reducible apply r_notT
        | with_reducible apply r_notF
        | ((with_reducible apply m_ldA); (· (first | assumption | exact RowIs.cells (by assumption))); (· (first | exact Mv.refl _ _ | exact Since.mv (by assumption) | exact Since.mv (Since.trans (by assumption) (by assumption)))); (· kernel_rfl); (· rfl))
        | ((with_reducible apply m_lnR); (· assumption); (· kernel_rfl))
        | ((with_reducible apply m_ixP); (· assumption); (try (case hz => rfl)); (case hr => first | assumption | exact List.getElem?_eq_getElem (by omega)); (try (case hz => omega)); (case ht => kernel_rfl); (case hs => kernel_rfl); intros)
        | ((with_reducible apply r_add); (· omega); (· omega))
        | ((first | (with_reducible refine fin_ret0 hs ?_) | (with_reducible refine fin_ret0 (hs0.trans hs) ?_)); intro wa hk; (simp_all [decide_true]))
        | ((with_reducible refine nx1_of ((xs).length - (i + 1)) ?_ ?_); (· omega); exact ⟨i + 1, by simp, rfl, by omega, hs, by simp_all [decide_true]⟩)
        | (refine r_ct0B (d_raceref_Pending  (by first | assumption | exact Sl.mv (by assumption) (by (first | exact Mv.refl _ _ | exact Since.mv (by assumption) | exact Since.mv (Since.trans (by assumption) (by assumption)))) | exact Pends.mv (by assumption) (by (first | exact Mv.refl _ _ | exact Since.mv (by assumption) | exact Since.mv (Since.trans (by assumption) (by assumption)))) | exact Hists.mv (by assumption) (by (first | exact Mv.refl _ _ | exact Since.mv (by assumption) | exact Since.mv (Since.trans (by assumption) (by assumption)))) | exact Rec.at.mv (by assumption) (by (first | exact Mv.refl _ _ | exact Since.mv (by assumption) | exact Since.mv (Since.trans (by assumption) (by assumption)))) | exact Own.sl (by assumption) | exact Cells.mv (by assumption) (by (first | exact Mv.refl _ _ | exact Since.mv (by assumption) | exact Since.mv (Since.trans (by assumption) (by assumption)))) | exact Cells.mv (RowIs.cells (by assumption)) (by (first | exact Mv.refl _ _ | exact Since.mv (by assumption) | exact Since.mv (Since.trans (by assumption) (by assumption)))) | omega) (by first | assumption | exact Sl.mv (by assumption) (by (first | exact Mv.refl _ _ | exact Since.mv (by assumption) | exact Since.mv (Since.trans (by assumption) (by assumption)))) | exact Pends.mv (by assumption) (by (first | exact Mv.refl _ _ | exact Since.mv (by assumption) | exact Since.mv (Since.trans (by assumption) (by assumption)))) | exact Hists.mv (by assumption) (by (first | exact Mv.refl _ _ | exact Since.mv (by assumption) | exact Since.mv (Since.trans (by assumption) (by assumption)))) | exact Rec.at.mv (by assumption) (by (first | exact Mv.refl _ _ | exact Since.mv (by assumption) | exact Since.mv (Since.trans (by assumption) (by assumption)))) | exact Own.sl (by assumption) | exact Cells.mv (by assumption) (by (first | exact Mv.refl _ _ | exact Since.mv (by assumption) | exact Since.mv (Since.trans (by assumption) (by assumption)))) | exact Cells.mv (RowIs.cells (by assumption)) (by (first | exact Mv.refl _ _ | exact Since.mv (by assumption) | exact Since.mv (Since.trans (by assumption) (by assumption)))) | omega) (by first | assumption | exact Sl.mv (by assumption) (by (first | exact Mv.refl _ _ | exact Since.mv (by assumption) | exact Since.mv (Since.trans (by assumption) (by assumption)))) | exact Pends.mv (by assumption) (by (first | exact Mv.refl _ _ | exact Since.mv (by assumption) | exact Since.mv (Since.trans (by assumption) (by assumption)))) | exact Hists.mv (by assumption) (by (first | exact Mv.refl _ _ | exact Since.mv (by assumption) | exact Since.mv (Since.trans (by assumption) (by assumption)))) | exact Rec.at.mv (by assumption) (by (first | exact Mv.refl _ _ | exact Since.mv (by assumption) | exact Since.mv (Since.trans (by assumption) (by assumption)))) | exact Own.sl (by assumption) | exact Cells.mv (by assumption) (by (first | exact Mv.refl _ _ | exact Since.mv (by assumption) | exact Since.mv (Since.trans (by assumption) (by assumption)))) | exact Cells.mv (RowIs.cells (by assumption)) (by (first | exact Mv.refl _ _ | exact Since.mv (by assumption) | exact Since.mv (Since.trans (by assumption) (by assumption)))) | omega) (by first | assumption | exact Sl.mv (by assumption) (by (first | exact Mv.refl _ _ | exact Since.mv (by assumption) | exact Since.mv (Since.trans (by assumption) (by assumption)))) | exact Pends.mv (by assumption) (by (first | exact Mv.refl _ _ | exact Since.mv (by assumption) | exact Since.mv (Since.trans (by assumption) (by assumption)))) | exact Hists.mv (by assumption) (by (first | exact Mv.refl _ _ | exact Since.mv (by assumption) | exact Since.mv (Since.trans (by assumption) (by assumption)))) | exact Rec.at.mv (by assumption) (by (first | exact Mv.refl _ _ | exact Since.mv (by assumption) | exact Since.mv (Since.trans (by assumption) (by assumption)))) | exact Own.sl (by assumption) | exact Cells.mv (by assumption) (by (first | exact Mv.refl _ _ | exact Since.mv (by assumption) | exact Since.mv (Since.trans (by assumption) (by assumption)))) | exact Cells.mv (RowIs.cells (by assumption)) (by (first | exact Mv.refl _ _ | exact Since.mv (by assumption) | exact Since.mv (Since.trans (by assumption) (by assumption)))) | omega)) (by kernel_rfl) hs.has ?_ ?_ <;> (intro _ w X hs1; replace hs := hs.trans hs1))
    · have hdy := List.drop_of_length_le (l := ys) (i := i) (by omega)
      repeat' first
        | ((with_reducible refine r_lssF ?_ ?_); (· omega))
        | with_reducible apply condW_F
        | ((with_reducible apply m_lnR); (· assumption); (· kernel_rfl))
        | ((first | (with_reducible refine fin_ret0 hs ?_) | (with_reducible refine fin_ret0 (hs0.trans hs) ?_)); intro wa hk; simp_all)
end Go.Proofs.YtnphlhpdikmpiaaGreat
namespace Go.Proofs.YtnphlhpdikmpiaaGreat
open Go.Eng
set_option maxRecDepth 100000
set_option maxHeartbeats 1000000
set_option linter.unusedVariables false
set_option linter.unusedSimpArgs false
attribute [local irreducible] un jn chk fld ld1 ldA st1 ixS lnS lnT bld cvI cvF ixA bsS apS rdV rdW grdW eW eV eU eC eF gE condW fin pickN nilN binS vS lp0 lp1 lp2 lp3 lp4 lp5 lp6 lp7 nx0 nx1 nx2 nx3 nx4 nx5 nx6 nx7
abbrev AnInt : Value → World → World → Prop := fun v _ _ => ∃ n : Int, v = I n
theorem d_raceref_few (a b c : Int) (w : World) (X : XS) : Ct Tryz.prog 52 #[I a, I b, I c] w X nX AnInt := by
  intro w0 hk
  apply ok_raceref_few; unfold vc_raceref_few
  have hs := Since.init w0
  repeat' first
    | with_reducible apply condW_T
    | with_reducible apply condW_F
    | with_reducible apply un_selF
    | with_reducible apply un_selTF
    | with_reducible apply grdV_onF
    | with_reducible apply grdW_offF
    | with_reducible apply rdW_pickT
    | with_reducible apply rdW_pickF
    | (with_reducible apply r_gtr <;> intro _)
    | ((first | (with_reducible refine fin_ret0 hs ?_) | (with_reducible refine fin_ret0 (hs0.trans hs) ?_)); intro wa hk; exact ⟨_, rfl⟩)
    | with_reducible apply rdV_add
theorem d_raceref_WeighTexts {w : World} {X : XS} {a : Value} {xs : List BA} {most : Int} (ha : Sl w X 1 a (xs.map S1)) :
    Ct Tryz.prog 53 #[a, I most] w X nX AnInt := by
  intro w0 hk
  replace ha := ha.mv hk.mvo
  have hla := ha.len'
  apply ok_raceref_WeighTexts; unfold vc_raceref_WeighTexts
  have hs := Since.init w0
  refine lp2_of (fun n a b w X => ∃ (i : Nat) (s : Int), a = I i ∧ b = I s ∧ n = (xs).length - i ∧ i ≤ (xs).length ∧ Since (old w0) w0 X w) (xs).length ⟨0, _, rfl, rfl, rfl, Nat.zero_le _, hs⟩ ?_
  rintro n a b w X ⟨i, s, rfl, rfl, rfl, hi, hs⟩
  repeat' first
    | with_reducible apply condW_T
    | with_reducible apply condW_F
    | with_reducible apply un_selT
    | with_reducible apply un_selFT
    | with_reducible apply grdV_onT
    | with_reducible apply grdW_offT
    | with_reducible apply rdW_pickT
    | with_reducible apply rdW_pickF
    | (with_reducible apply r_lss <;> intro _)
    | (with_reducible apply r_leq <;> intro _)
    | ((with_reducible apply m_ld1); (· (first | assumption | exact RowIs.cells (by assumption))); (· (first | exact Mv.refl _ _ | exact Since.mv (by assumption) | exact Since.mv (Since.trans (by assumption) (by assumption)))); (· kernel_rfl); (· rfl))
    | ((with_reducible apply m_lnS); (· (first | assumption | exact Own.sl (by assumption))); (· kernel_rfl))
    | ((with_reducible apply r_lnT); (· kernel_rfl))
    | ((with_reducible apply m_ixS); (· (first | assumption | exact Own.sl (by assumption))); (try (case hz => rfl)); (case hr => first | assumption | exact List.getElem?_eq_getElem (by omega)); (try (case hz => omega)); (case ht => kernel_rfl); (case hs => kernel_rfl); intro _ _ _)
    | ((with_reducible apply r_add); (· omega); (· omega))
    | ((first | (with_reducible refine fin_ret0 hs ?_) | (with_reducible refine fin_ret0 (hs0.trans hs) ?_)); intro wa hk; exact ⟨_, rfl⟩)
    | (refine r_ct0I (d_raceref_few  _ _ _ _ _) (by kernel_rfl) hs.has ?_; intro n1 w X hs1; replace hs := hs.trans hs1)
    | ((with_reducible refine nx2_of ((xs).length - (i + 1)) ?_ ?_); (· omega); exact ⟨i + 1, _, by simp, rfl, rfl, by omega, hs⟩)
    | with_reducible apply rdV_add
theorem d_raceref_WeighWrites {w : World} {X : XS} {a : Value} {xs : List KV} {most : Int} (ha : Sl w X 4 a (xs.map KV.l)) :
    Ct Tryz.prog 54 #[a, I most] w X nX AnInt := by
  intro w0 hk
  replace ha := ha.mv hk.mvo
  have hla := ha.len'
  apply ok_raceref_WeighWrites; unfold vc_raceref_WeighWrites
  have hs := Since.init w0
  refine lp2_of (fun n a b w X => ∃ (i : Nat) (s : Int), a = I i ∧ b = I s ∧ n = (xs).length - i ∧ i ≤ (xs).length ∧ Since (old w0) w0 X w) (xs).length ⟨0, _, rfl, rfl, rfl, Nat.zero_le _, hs⟩ ?_
  rintro n a b w X ⟨i, s, rfl, rfl, rfl, hi, hs⟩
  repeat' first
    | with_reducible apply condW_T
    | with_reducible apply condW_F
    | with_reducible apply un_selT
    | with_reducible apply un_selFT
    | with_reducible apply grdV_onT
    | with_reducible apply grdW_offT
    | with_reducible apply rdW_pickT
    | with_reducible apply rdW_pickF
    | (with_reducible apply r_lss <;> intro _)
    | (with_reducible apply r_leq <;> intro _)
    | ((with_reducible apply m_fld1); (· (first | assumption | exact RowIs.cells (by assumption))); (· kernel_rfl); (· rfl); intro _ _ _)
    | ((with_reducible apply m_fld); (· (first | assumption | exact RowIs.cells (by assumption))); (· kernel_rfl); (· rfl); (· (simp only [Value.cells, List.toList_toArray, List.take_succ_cons, List.drop_succ_cons, List.take_zero, List.drop_zero, List.take_nil, setL, List.length_cons, List.length_nil, List.cons_append, List.nil_append, Nat.reduceAdd, Nat.zero_add]; try rfl)); intro _ _ _)
    | ((with_reducible apply m_ld1); (· (first | assumption | exact RowIs.cells (by assumption))); (· (first | exact Mv.refl _ _ | exact Since.mv (by assumption) | exact Since.mv (Since.trans (by assumption) (by assumption)))); (· kernel_rfl); (· rfl))
    | ((with_reducible apply m_lnS); (· (first | assumption | exact Own.sl (by assumption))); (· kernel_rfl))
    | ((with_reducible apply r_lnT); (· kernel_rfl))
    | ((with_reducible apply m_ixS); (· (first | assumption | exact Own.sl (by assumption))); (try (case hz => rfl)); (case hr => first | assumption | exact List.getElem?_eq_getElem (by omega)); (try (case hz => omega)); (case ht => kernel_rfl); (case hs => kernel_rfl); intro _ _ _)
    | ((with_reducible apply r_add); (· omega); (· omega))
    | ((first | (with_reducible refine fin_ret0 hs ?_) | (with_reducible refine fin_ret0 (hs0.trans hs) ?_)); intro wa hk; exact ⟨_, rfl⟩)
    | (refine r_ct0I (d_raceref_few  _ _ _ _ _) (by kernel_rfl) hs.has ?_; intro n1 w X hs1; replace hs := hs.trans hs1)
    | ((with_reducible refine nx2_of ((xs).length - (i + 1)) ?_ ?_); (· omega); exact ⟨i + 1, _, by simp, rfl, rfl, by omega, hs⟩)
    | with_reducible apply rdV_add
theorem d_raceref_WeighPendings {w : World} {X : XS} {a : Value} {xs : List Pend} {most : Int} (ha : Pends w X a xs) :
    Ct Tryz.prog 80 #[a, I most] w X nX AnInt := by
  intro w0 hk
  replace ha := ha.mv hk.mvo
  have hla := ha.len
  apply ok_raceref_WeighPendings; unfold vc_raceref_WeighPendings
  have hs := Since.init w0
  refine lp2_of (fun n a b w X => ∃ (i : Nat) (s : Int), a = I i ∧ b = I s ∧ n = (xs).length - i ∧ i ≤ (xs).length ∧ Since (old w0) w0 X w) (xs).length ⟨0, _, rfl, rfl, rfl, Nat.zero_le _, hs⟩ ?_
  rintro n a b w X ⟨i, s, rfl, rfl, rfl, hi, hs⟩
  repeat' first
    | with_reducible apply condW_T
    | with_reducible apply condW_F
    | with_reducible apply un_selT
    | with_reducible apply un_selFT
    | with_reducible apply grdV_onT
    | with_reducible apply grdW_offT
    | with_reducible apply rdW_pickT
    | with_reducible apply rdW_pickF
    | (with_reducible apply r_lss <;> intro _)
    | (with_reducible apply r_leq <;> intro _)
    | ((with_reducible apply m_fld1); (· (first | assumption | exact RowIs.cells (by assumption))); (· kernel_rfl); (· rfl); intro _ _ _)
    | ((with_reducible apply m_ld1); (· (first | assumption | exact RowIs.cells (by assumption))); (· (first | exact Mv.refl _ _ | exact Since.mv (by assumption) | exact Since.mv (Since.trans (by assumption) (by assumption)))); (· kernel_rfl); (· rfl))
    | ((with_reducible apply m_lnR); (· assumption); (· kernel_rfl))
    | ((with_reducible apply m_ixP); (· assumption); (try (case hz => rfl)); (case hr => first | assumption | exact List.getElem?_eq_getElem (by omega)); (try (case hz => omega)); (case ht => kernel_rfl); (case hs => kernel_rfl); intros)
    | ((with_reducible apply r_add); (· omega); (· omega))
    | ((first | (with_reducible refine fin_ret0 hs ?_) | (with_reducible refine fin_ret0 (hs0.trans hs) ?_)); intro wa hk; exact ⟨_, rfl⟩)
    | (refine r_ct0I (d_raceref_few  _ _ _ _ _) (by kernel_rfl) hs.has ?_; intro n1 w X hs1; replace hs := hs.trans hs1)
    | (refine r_ct0I (d_raceref_WeighTexts  (by first | assumption | exact Sl.mv (by assumption) (by (first | exact Mv.refl _ _ | exact Since.mv (by assumption) | exact Since.mv (Since.trans (by assumption) (by assumption)))) | exact Pends.mv (by assumption) (by (first | exact Mv.refl _ _ | exact Since.mv (by assumption) | exact Since.mv (Since.trans (by assumption) (by assumption)))) | exact Hists.mv (by assumption) (by (first | exact Mv.refl _ _ | exact Since.mv (by assumption) | exact Since.mv (Since.trans (by assumption) (by assumption)))) | exact Rec.at.mv (by assumption) (by (first | exact Mv.refl _ _ | exact Since.mv (by assumption) | exact Since.mv (Since.trans (by assumption) (by assumption)))) | exact Own.sl (by assumption) | exact Cells.mv (by assumption) (by (first | exact Mv.refl _ _ | exact Since.mv (by assumption) | exact Since.mv (Since.trans (by assumption) (by assumption)))) | exact Cells.mv (RowIs.cells (by assumption)) (by (first | exact Mv.refl _ _ | exact Since.mv (by assumption) | exact Since.mv (Since.trans (by assumption) (by assumption)))) | omega)) (by kernel_rfl) hs.has ?_; intro n1 w X hs1; replace hs := hs.trans hs1)
    | (refine r_ct0I (d_raceref_WeighWrites  (by first | assumption | exact Sl.mv (by assumption) (by (first | exact Mv.refl _ _ | exact Since.mv (by assumption) | exact Since.mv (Since.trans (by assumption) (by assumption)))) | exact Pends.mv (by assumption) (by (first | exact Mv.refl _ _ | exact Since.mv (by assumption) | exact Since.mv (Since.trans (by assumption) (by assumption)))) | exact Hists.mv (by assumption) (by (first | exact Mv.refl _ _ | exact Since.mv (by assumption) | exact Since.mv (Since.trans (by assumption) (by assumption)))) | exact Rec.at.mv (by assumption) (by (first | exact Mv.refl _ _ | exact Since.mv (by assumption) | exact Since.mv (Since.trans (by assumption) (by assumption)))) | exact Own.sl (by assumption) | exact Cells.mv (by assumption) (by (first | exact Mv.refl _ _ | exact Since.mv (by assumption) | exact Since.mv (Since.trans (by assumption) (by assumption)))) | exact Cells.mv (RowIs.cells (by assumption)) (by (first | exact Mv.refl _ _ | exact Since.mv (by assumption) | exact Since.mv (Since.trans (by assumption) (by assumption)))) | omega)) (by kernel_rfl) hs.has ?_; intro n1 w X hs1; replace hs := hs.trans hs1)
    | ((with_reducible refine nx2_of ((xs).length - (i + 1)) ?_ ?_); (· omega); exact ⟨i + 1, _, by simp, rfl, rfl, by omega, hs⟩)
    | with_reducible apply rdV_add
theorem d_raceref_WeighHistories {w : World} {X : XS} {a : Value} {xs : List Hist} {most : Int} (ha : Hists w X a xs) :
    Ct Tryz.prog 79 #[a, I most] w X nX AnInt := by
  intro w0 hk
  replace ha := ha.mv hk.mvo
  have hla := ha.len
  apply ok_raceref_WeighHistories; unfold vc_raceref_WeighHistories
  have hs := Since.init w0
  refine lp3_of (fun n a _ b w X => ∃ (i : Nat) (s : Int), a = I i ∧ b = I s ∧ n = xs.length - i ∧ i ≤ xs.length ∧ Since (old w0) w0 X w) xs.length ⟨0, _, rfl, rfl, rfl, Nat.zero_le _, hs⟩ ?_
  rintro n a a2 b w X ⟨i, s, rfl, rfl, rfl, hi, hs⟩
  repeat' first
    | with_reducible apply condW_T
    | with_reducible apply condW_F
    | with_reducible apply un_selT
    | with_reducible apply un_selFT
    | with_reducible apply grdV_onT
    | with_reducible apply grdW_offT
    | with_reducible apply rdW_pickT
    | with_reducible apply rdW_pickF
    | (with_reducible apply r_lss <;> intro _)
    | (with_reducible apply r_leq <;> intro _)
    | ((with_reducible apply m_fld1); (· (first | assumption | exact RowIs.cells (by assumption))); (· kernel_rfl); (· rfl); intro _ _ _)
    | ((with_reducible apply m_ld1); (· (first | assumption | exact RowIs.cells (by assumption))); (· (first | exact Mv.refl _ _ | exact Since.mv (by assumption) | exact Since.mv (Since.trans (by assumption) (by assumption)))); (· kernel_rfl); (· rfl))
    | ((with_reducible apply m_lnR); (· assumption); (· kernel_rfl))
    | ((with_reducible apply r_lnT); (· kernel_rfl))
    | ((with_reducible apply m_ixH); (· assumption); (try (case hz => rfl)); (case hr => first | assumption | exact List.getElem?_eq_getElem (by omega)); (try (case hz => omega)); (case ht => kernel_rfl); (case hs => kernel_rfl); intros)
    | ((first | (with_reducible refine fin_ret0 hs ?_) | (with_reducible refine fin_ret0 (hs0.trans hs) ?_)); intro wa hk; exact ⟨_, rfl⟩)
    | (refine r_ct0I (d_raceref_few  _ _ _ _ _) (by kernel_rfl) hs.has ?_; intro n1 w X hs1; replace hs := hs.trans hs1)
    | with_reducible apply rdV_add
  have hlt : i < xs.length := by omega
  obtain ⟨x, hx, hd⟩ := at_drop hlt
  refine lp2_of (fun n a b w X => ∃ (k : Nat) (s : Int), a = I k ∧ b = I s ∧ n = x.vers.length - k ∧ k ≤ x.vers.length ∧ Since (old w0) w0 X w) x.vers.length ⟨0, _, rfl, rfl, rfl, Nat.zero_le _, hs⟩ ?_
  rintro n a b w X ⟨k, s, rfl, rfl, rfl, hk, hs⟩
  repeat' first
    | with_reducible apply condW_T
    | with_reducible apply condW_F
    | with_reducible apply un_selT
    | with_reducible apply un_selFT
    | with_reducible apply grdV_onT
    | with_reducible apply grdW_offT
    | with_reducible apply rdW_pickT
    | with_reducible apply rdW_pickF
    | (with_reducible apply r_lss <;> intro _)
    | (with_reducible apply r_leq <;> intro _)
    | ((with_reducible apply m_fld1); (· (first | assumption | exact RowIs.cells (by assumption))); (· kernel_rfl); (· rfl); intro _ _ _)
    | ((with_reducible apply m_fld); (· (first | assumption | exact RowIs.cells (by assumption))); (· kernel_rfl); (· rfl); (· (simp only [Value.cells, List.toList_toArray, List.take_succ_cons, List.drop_succ_cons, List.take_zero, List.drop_zero, List.take_nil, setL, List.length_cons, List.length_nil, List.cons_append, List.nil_append, Nat.reduceAdd, Nat.zero_add]; try rfl)); intro _ _ _)
    | ((with_reducible apply m_ld1); (· (first | assumption | exact RowIs.cells (by assumption))); (· (first | exact Mv.refl _ _ | exact Since.mv (by assumption) | exact Since.mv (Since.trans (by assumption) (by assumption)))); (· kernel_rfl); (· rfl))
    | ((with_reducible apply m_lnS); (· (first | assumption | exact Own.sl (by assumption))); (· kernel_rfl))
    | ((with_reducible apply r_lnT); (· kernel_rfl))
    | ((with_reducible apply m_ixS); (· (first | assumption | exact Own.sl (by assumption))); (try (case hz => rfl)); (case hr => first | assumption | exact List.getElem?_eq_getElem (by omega)); (try (case hz => omega)); (case ht => kernel_rfl); (case hs => kernel_rfl); intro _ _ _)
    | ((with_reducible apply m_ixH); (· assumption); (try (case hz => rfl)); (case hr => first | assumption | exact List.getElem?_eq_getElem (by omega)); (try (case hz => omega)); (case ht => kernel_rfl); (case hs => kernel_rfl); intros)
    | ((with_reducible apply r_add); (· omega); (· omega))
    | (refine r_ct0I (d_raceref_few  _ _ _ _ _) (by kernel_rfl) hs.has ?_; intro n1 w X hs1; replace hs := hs.trans hs1)
    | ((with_reducible refine nx3_of ((xs).length - (i + 1)) ?_ ?_); (· omega); exact ⟨i + 1, _, by simp, rfl, rfl, by omega, hs⟩)
    | ((with_reducible refine nx2_of (x.vers.length - (k + 1)) ?_ ?_); (· omega); exact ⟨k + 1, _, by simp, rfl, rfl, by omega, hs⟩)
    | (have hl9 := Sl.len' ‹Sl w0 (old w0) 6 _ (List.map Ver.l x.vers)›; (with_reducible apply r_add); (· omega); (· omega))
    | with_reducible apply rdV_add
theorem d_raceref_WeighState {w : World} {X : XS} {s : State} {vh vp : Value} {most : Int} (ha : Hists w X vh s.hists) (hb : Pends w X vp s.pend) :
    Ct Tryz.prog 55 #[s.v vh vp, I most] w X nX AnInt := by
  intro w0 hk
  replace ha := ha.mv hk.mvo
  replace hb := hb.mv hk.mvo
  apply ok_raceref_WeighState; unfold vc_raceref_WeighState
  have hs := Since.init w0
  repeat' first
    | ((first | (with_reducible refine fin_ret0 hs ?_) | (with_reducible refine fin_ret0 (hs0.trans hs) ?_)); intro wa hk; exact ⟨_, rfl⟩)
    | (refine r_ct0I (d_raceref_few  _ _ _ _ _) (by kernel_rfl) hs.has ?_; intro n1 w X hs1; replace hs := hs.trans hs1)
    | (refine r_ct0I (d_raceref_WeighHistories  (by first | assumption | exact Sl.mv (by assumption) (by (first | exact Mv.refl _ _ | exact Since.mv (by assumption) | exact Since.mv (Since.trans (by assumption) (by assumption)))) | exact Pends.mv (by assumption) (by (first | exact Mv.refl _ _ | exact Since.mv (by assumption) | exact Since.mv (Since.trans (by assumption) (by assumption)))) | exact Hists.mv (by assumption) (by (first | exact Mv.refl _ _ | exact Since.mv (by assumption) | exact Since.mv (Since.trans (by assumption) (by assumption)))) | exact Rec.at.mv (by assumption) (by (first | exact Mv.refl _ _ | exact Since.mv (by assumption) | exact Since.mv (Since.trans (by assumption) (by assumption)))) | exact Own.sl (by assumption) | exact Cells.mv (by assumption) (by (first | exact Mv.refl _ _ | exact Since.mv (by assumption) | exact Since.mv (Since.trans (by assumption) (by assumption)))) | exact Cells.mv (RowIs.cells (by assumption)) (by (first | exact Mv.refl _ _ | exact Since.mv (by assumption) | exact Since.mv (Since.trans (by assumption) (by assumption)))) | omega)) (by kernel_rfl) hs.has ?_; intro n1 w X hs1; replace hs := hs.trans hs1)
    | (refine r_ct0I (d_raceref_WeighPendings  (by first | assumption | exact Sl.mv (by assumption) (by (first | exact Mv.refl _ _ | exact Since.mv (by assumption) | exact Since.mv (Since.trans (by assumption) (by assumption)))) | exact Pends.mv (by assumption) (by (first | exact Mv.refl _ _ | exact Since.mv (by assumption) | exact Since.mv (Since.trans (by assumption) (by assumption)))) | exact Hists.mv (by assumption) (by (first | exact Mv.refl _ _ | exact Since.mv (by assumption) | exact Since.mv (Since.trans (by assumption) (by assumption)))) | exact Rec.at.mv (by assumption) (by (first | exact Mv.refl _ _ | exact Since.mv (by assumption) | exact Since.mv (Since.trans (by assumption) (by assumption)))) | exact Own.sl (by assumption) | exact Cells.mv (by assumption) (by (first | exact Mv.refl _ _ | exact Since.mv (by assumption) | exact Since.mv (Since.trans (by assumption) (by assumption)))) | exact Cells.mv (RowIs.cells (by assumption)) (by (first | exact Mv.refl _ _ | exact Since.mv (by assumption) | exact Since.mv (Since.trans (by assumption) (by assumption)))) | omega)) (by kernel_rfl) hs.has ?_; intro n1 w X hs1; replace hs := hs.trans hs1)
theorem d_raceref_WeighRec {w : World} {X : XS} {r : Rec} {vr vw vp vq vh vd : Value} {most : Int} (ha : r.at w X vr vw vp vq vh vd) :
    Ct Tryz.prog 21 #[r.v vr vw vp vq vh vd, I most] w X nX AnInt := by
  intro w0 hk
  obtain ⟨h1, h2, h3, h4, h5, h6⟩ := ha.mv hk.mvo
  have hla := h4.len'
  apply ok_raceref_WeighRec; unfold vc_raceref_WeighRec
  have hs := Since.init w0
  repeat' first
    | ((with_reducible apply m_lnS); (· (first | assumption | exact Own.sl (by assumption))); (· kernel_rfl))
    | (with_reducible apply r_min)
    | (refine r_ct0I (d_raceref_few  _ _ _ _ _) (by kernel_rfl) hs.has ?_; intro n1 w X hs1; replace hs := hs.trans hs1)
    | (refine r_ct0I (d_raceref_WeighTexts  (by first | assumption | exact Sl.mv (by assumption) (by (first | exact Mv.refl _ _ | exact Since.mv (by assumption) | exact Since.mv (Since.trans (by assumption) (by assumption)))) | exact Pends.mv (by assumption) (by (first | exact Mv.refl _ _ | exact Since.mv (by assumption) | exact Since.mv (Since.trans (by assumption) (by assumption)))) | exact Hists.mv (by assumption) (by (first | exact Mv.refl _ _ | exact Since.mv (by assumption) | exact Since.mv (Since.trans (by assumption) (by assumption)))) | exact Rec.at.mv (by assumption) (by (first | exact Mv.refl _ _ | exact Since.mv (by assumption) | exact Since.mv (Since.trans (by assumption) (by assumption)))) | exact Own.sl (by assumption) | exact Cells.mv (by assumption) (by (first | exact Mv.refl _ _ | exact Since.mv (by assumption) | exact Since.mv (Since.trans (by assumption) (by assumption)))) | exact Cells.mv (RowIs.cells (by assumption)) (by (first | exact Mv.refl _ _ | exact Since.mv (by assumption) | exact Since.mv (Since.trans (by assumption) (by assumption)))) | omega)) (by kernel_rfl) hs.has ?_; intro n1 w X hs1; replace hs := hs.trans hs1)
    | (refine r_ct0I (d_raceref_WeighWrites  (by first | assumption | exact Sl.mv (by assumption) (by (first | exact Mv.refl _ _ | exact Since.mv (by assumption) | exact Since.mv (Since.trans (by assumption) (by assumption)))) | exact Pends.mv (by assumption) (by (first | exact Mv.refl _ _ | exact Since.mv (by assumption) | exact Since.mv (Since.trans (by assumption) (by assumption)))) | exact Hists.mv (by assumption) (by (first | exact Mv.refl _ _ | exact Since.mv (by assumption) | exact Since.mv (Since.trans (by assumption) (by assumption)))) | exact Rec.at.mv (by assumption) (by (first | exact Mv.refl _ _ | exact Since.mv (by assumption) | exact Since.mv (Since.trans (by assumption) (by assumption)))) | exact Own.sl (by assumption) | exact Cells.mv (by assumption) (by (first | exact Mv.refl _ _ | exact Since.mv (by assumption) | exact Since.mv (Since.trans (by assumption) (by assumption)))) | exact Cells.mv (RowIs.cells (by assumption)) (by (first | exact Mv.refl _ _ | exact Since.mv (by assumption) | exact Since.mv (Since.trans (by assumption) (by assumption)))) | omega)) (by kernel_rfl) hs.has ?_; intro n1 w X hs1; replace hs := hs.trans hs1)
    | with_reducible apply rdV_add
  refine lp2_of (fun n a b w X => ∃ (i : Nat) (s : Int), a = I i ∧ b = I s ∧ n = (r.pairs).length - i ∧ i ≤ (r.pairs).length ∧ Since (old w0) w0 X w) (r.pairs).length ⟨0, _, rfl, rfl, rfl, Nat.zero_le _, hs⟩ ?_
  rintro n a b w X ⟨i, s, rfl, rfl, rfl, hi, hs⟩
  repeat' first
    | with_reducible apply condW_T
    | with_reducible apply condW_F
    | with_reducible apply un_selT
    | with_reducible apply un_selFT
    | with_reducible apply grdV_onT
    | with_reducible apply grdW_offT
    | with_reducible apply rdW_pickT
    | with_reducible apply rdW_pickF
    | (with_reducible apply r_lss <;> intro _)
    | (with_reducible apply r_leq <;> intro _)
    | ((with_reducible apply m_fld1); (· (first | assumption | exact RowIs.cells (by assumption))); (· kernel_rfl); (· rfl); intro _ _ _)
    | ((with_reducible apply m_fld); (· (first | assumption | exact RowIs.cells (by assumption))); (· kernel_rfl); (· rfl); (· (simp only [Value.cells, List.toList_toArray, List.take_succ_cons, List.drop_succ_cons, List.take_zero, List.drop_zero, List.take_nil, setL, List.length_cons, List.length_nil, List.cons_append, List.nil_append, Nat.reduceAdd, Nat.zero_add]; try rfl)); intro _ _ _)
    | ((with_reducible apply m_ld1); (· (first | assumption | exact RowIs.cells (by assumption))); (· (first | exact Mv.refl _ _ | exact Since.mv (by assumption) | exact Since.mv (Since.trans (by assumption) (by assumption)))); (· kernel_rfl); (· rfl))
    | ((with_reducible apply m_lnS); (· (first | assumption | exact Own.sl (by assumption))); (· kernel_rfl))
    | ((with_reducible apply r_lnT); (· kernel_rfl))
    | ((with_reducible apply m_ixS); (· (first | assumption | exact Own.sl (by assumption))); (try (case hz => rfl)); (case hr => first | assumption | exact List.getElem?_eq_getElem (by omega)); (try (case hz => omega)); (case ht => kernel_rfl); (case hs => kernel_rfl); intro _ _ _)
    | ((with_reducible apply r_add); (· omega); (· omega))
    | ((first | (with_reducible refine fin_ret0 hs ?_) | (with_reducible refine fin_ret0 (hs0.trans hs) ?_)); intro wa hk; exact ⟨_, rfl⟩)
    | (refine r_ct0I (d_raceref_few  _ _ _ _ _) (by kernel_rfl) hs.has ?_; intro n1 w X hs1; replace hs := hs.trans hs1)
    | (refine r_ct0I (d_raceref_WeighState  (s := r.state) (by first | assumption | exact Sl.mv (by assumption) (by (first | exact Mv.refl _ _ | exact Since.mv (by assumption) | exact Since.mv (Since.trans (by assumption) (by assumption)))) | exact Pends.mv (by assumption) (by (first | exact Mv.refl _ _ | exact Since.mv (by assumption) | exact Since.mv (Since.trans (by assumption) (by assumption)))) | exact Hists.mv (by assumption) (by (first | exact Mv.refl _ _ | exact Since.mv (by assumption) | exact Since.mv (Since.trans (by assumption) (by assumption)))) | exact Rec.at.mv (by assumption) (by (first | exact Mv.refl _ _ | exact Since.mv (by assumption) | exact Since.mv (Since.trans (by assumption) (by assumption)))) | exact Own.sl (by assumption) | exact Cells.mv (by assumption) (by (first | exact Mv.refl _ _ | exact Since.mv (by assumption) | exact Since.mv (Since.trans (by assumption) (by assumption)))) | exact Cells.mv (RowIs.cells (by assumption)) (by (first | exact Mv.refl _ _ | exact Since.mv (by assumption) | exact Since.mv (Since.trans (by assumption) (by assumption)))) | omega) (by first | assumption | exact Sl.mv (by assumption) (by (first | exact Mv.refl _ _ | exact Since.mv (by assumption) | exact Since.mv (Since.trans (by assumption) (by assumption)))) | exact Pends.mv (by assumption) (by (first | exact Mv.refl _ _ | exact Since.mv (by assumption) | exact Since.mv (Since.trans (by assumption) (by assumption)))) | exact Hists.mv (by assumption) (by (first | exact Mv.refl _ _ | exact Since.mv (by assumption) | exact Since.mv (Since.trans (by assumption) (by assumption)))) | exact Rec.at.mv (by assumption) (by (first | exact Mv.refl _ _ | exact Since.mv (by assumption) | exact Since.mv (Since.trans (by assumption) (by assumption)))) | exact Own.sl (by assumption) | exact Cells.mv (by assumption) (by (first | exact Mv.refl _ _ | exact Since.mv (by assumption) | exact Since.mv (Since.trans (by assumption) (by assumption)))) | exact Cells.mv (RowIs.cells (by assumption)) (by (first | exact Mv.refl _ _ | exact Since.mv (by assumption) | exact Since.mv (Since.trans (by assumption) (by assumption)))) | omega)) (by kernel_rfl) hs.has ?_; intro n1 w X hs1; replace hs := hs.trans hs1)
    | ((with_reducible refine nx2_of ((r.pairs).length - (i + 1)) ?_ ?_); (· omega); exact ⟨i + 1, _, by simp, rfl, rfl, by omega, hs⟩)
    | with_reducible apply rdV_add
theorem d_racelaw18_Few {w : World} {X : XS} {a : Value} {xs : List Rec} (ha : Rws w X 29 a Rec.rd xs) :
    Ct Tryz.prog 6 #[a] w X nX fun v _ _ => ∃ b : Bool, v = B b := by
  intro w0 hk
  replace ha := ha.mv Rec.mv hk.mvo
  have hla := ha.len
  apply ok_racelaw18_Few; unfold vc_racelaw18_Few
  have hs := Since.init w0
  refine lp2_of (fun n a b w X => ∃ (i : Nat) (s : Int), a = I i ∧ b = I s ∧ n = (xs).length - i ∧ i ≤ (xs).length ∧ Since (old w0) w0 X w) (xs).length ⟨0, _, rfl, rfl, rfl, Nat.zero_le _, hs⟩ ?_
  rintro n a b w X ⟨i, s, rfl, rfl, rfl, hi, hs⟩
  repeat' first
    | with_reducible apply condW_T
    | with_reducible apply condW_F
    | with_reducible apply un_selT
    | with_reducible apply un_selFT
    | with_reducible apply grdV_onT
    | with_reducible apply grdW_offT
    | with_reducible apply rdW_pickT
    | with_reducible apply rdW_pickF
    | (with_reducible apply r_lss <;> intro _)
    | (with_reducible apply r_leq <;> intro _)
    | ((with_reducible apply m_ldA); (· (first | assumption | exact RowIs.cells (by assumption))); (· (first | exact Mv.refl _ _ | exact Since.mv (by assumption) | exact Since.mv (Since.trans (by assumption) (by assumption)))); (· kernel_rfl); (· rfl))
    | ((with_reducible apply m_lnR); (· assumption); (· kernel_rfl))
    | ((with_reducible apply m_ixRec); (· assumption); (try (case hz => rfl)); (case hr => first | assumption | exact List.getElem?_eq_getElem (by omega)); (try (case hz => omega)); (case ht => kernel_rfl); (case hs => kernel_rfl); intros)
    | ((with_reducible apply r_add); (· omega); (· omega))
    | ((first | (with_reducible refine fin_ret0 hs ?_) | (with_reducible refine fin_ret0 (hs0.trans hs) ?_)); intro wa hk; exact ⟨_, rfl⟩)
    | (refine r_ct0I (d_raceref_WeighRec  (by first | assumption | exact Sl.mv (by assumption) (by (first | exact Mv.refl _ _ | exact Since.mv (by assumption) | exact Since.mv (Since.trans (by assumption) (by assumption)))) | exact Pends.mv (by assumption) (by (first | exact Mv.refl _ _ | exact Since.mv (by assumption) | exact Since.mv (Since.trans (by assumption) (by assumption)))) | exact Hists.mv (by assumption) (by (first | exact Mv.refl _ _ | exact Since.mv (by assumption) | exact Since.mv (Since.trans (by assumption) (by assumption)))) | exact Rec.at.mv (by assumption) (by (first | exact Mv.refl _ _ | exact Since.mv (by assumption) | exact Since.mv (Since.trans (by assumption) (by assumption)))) | exact Own.sl (by assumption) | exact Cells.mv (by assumption) (by (first | exact Mv.refl _ _ | exact Since.mv (by assumption) | exact Since.mv (Since.trans (by assumption) (by assumption)))) | exact Cells.mv (RowIs.cells (by assumption)) (by (first | exact Mv.refl _ _ | exact Since.mv (by assumption) | exact Since.mv (Since.trans (by assumption) (by assumption)))) | omega)) (by kernel_rfl) hs.has ?_; intro n1 w X hs1; replace hs := hs.trans hs1)
    | ((with_reducible refine nx2_of ((xs).length - (i + 1)) ?_ ?_); (· omega); exact ⟨i + 1, _, by simp, rfl, rfl, by omega, hs⟩)
    | with_reducible apply rdV_add
end Go.Proofs.YtnphlhpdikmpiaaGreat
namespace Go.Proofs.YtnphlhpdikmpiaaGreat
open Go.Eng
set_option maxRecDepth 100000
set_option maxHeartbeats 1000000
set_option linter.unusedVariables false
set_option linter.unusedSimpArgs false
attribute [local irreducible] un jn chk fld ld1 ldA st1 ixS lnS lnT bld cvI cvF ixA bsS apS rdV rdW grdW eW eV eU eC eF gE condW fin pickN nilN binS vS lp0 lp1 lp2 lp3 lp4 lp5 lp6 lp7 nx0 nx1 nx2 nx3 nx4 nx5 nx6 nx7
def goodKey (s : BA) : Bool := decide ((s.size : Int) ≥ 1) && decide ((s.size : Int) ≤ 24)
theorem c_datum_Key (s : BA) : Pure Tryz.prog 134 #[.string s] (B (goodKey s)) := by
  intro w0
  apply ok_datum_Key; unfold vc_datum_Key
  have hs := Since.init w0
  repeat' first
    | with_reducible apply un_selT
    | with_reducible apply un_selFT
    | with_reducible apply grdV_onT
    | with_reducible apply grdW_offT
    | with_reducible apply rdW_pickT
    | with_reducible apply rdW_pickF
    | (with_reducible apply r_leq <;> intro _)
    | (with_reducible apply r_geq <;> intro _)
    | ((with_reducible apply r_lnT); (· kernel_rfl))
    | ((with_reducible refine fin_pure hs ?_); simp_all [goodKey] <;> omega)
theorem c_place_In (r : Rng) (x : Nat) : Pure Tryz.prog 128 #[r.v, .float .f64 x] (B ((fgt x r.lo || feq x r.lo) && flt x r.hi)) := by
  intro w0
  apply ok_place_In; unfold vc_place_In
  have hs := Since.init w0
  repeat' first
    | with_reducible apply un_selT
    | with_reducible apply un_selFT
    | with_reducible apply grdV_onT
    | with_reducible apply grdW_offT
    | with_reducible apply rdW_pickT
    | with_reducible apply rdW_pickF
    | (with_reducible apply r_flss <;> intro _)
    | (with_reducible apply r_fgeq <;> intros)
    | ((with_reducible refine fin_pure hs ?_); (simp_all <;> grind))
def canon (x : Nat) : Nat := if feq x x then x else 9221120237041090560
theorem c_num_Canon (x : Nat) : Pure Tryz.prog 160 #[.float .f64 x] (.float .f64 (canon x)) := by
  intro w0
  apply ok_num_Canon; unfold vc_num_Canon
  have hs := Since.init w0
  repeat' first
    | with_reducible apply condW_T
    | with_reducible apply condW_F
    | (with_reducible apply r_fneq <;> intro _)
    | ((with_reducible refine fin_pure hs ?_); simp_all [canon])
    | ((with_reducible refine eC_val (v := .float .f64 9221120237041090560) ?_ hs.has ?_); (· intro wa; kernel_rfl); intro w X hs1; replace hs := hs.trans hs1)
theorem c_num_Bits (x : Nat) : Pure Tryz.prog 149 #[.float .f64 x] (.int .u64 (canon x)) := by
  intro w0
  apply ok_num_Bits; unfold vc_num_Bits
  have hs := Since.init w0
  repeat' first
    | ((with_reducible refine r_pure (c_num_Canon _) ?_ hs.has ?_); (· kernel_rfl); intro w X hs1; replace hs := hs.trans hs1)
    | ((with_reducible refine fin_pure hs ?_); rfl)
    | ((with_reducible refine eC_val (run_bits _) hs.has ?_); intro w X hs1; replace hs := hs.trans hs1)
def land (a b : Int) : Int := IntKind.u64.wrap (BitVec.ofInt IntKind.u64.bits a &&& BitVec.ofInt IntKind.u64.bits b).toNat
def ixor (a b : Int) : Int := IntKind.u64.wrap (BitVec.ofInt IntKind.u64.bits a ^^^ BitVec.ofInt IntKind.u64.bits b).toNat
def ishr (a n : Int) : Int := a.fdiv (2 ^ min n.toNat IntKind.u64.bits)
def imul (a b : Int) : Int := IntKind.u64.wrap (a * b)
theorem r_land {P : Program} {X : XS} {w : World} {N : Value → Prop} {t : TypeId} {a b : Int} (h : N (.int .u64 (land a b))) : rdV P X w (binOp .and t (.int .u64 a) (.int .u64 b)) N := rdV_and h
theorem r_ixor {P : Program} {X : XS} {w : World} {N : Value → Prop} {t : TypeId} {a b : Int} (h : N (.int .u64 (ixor a b))) : rdV P X w (binOp .xor t (.int .u64 a) (.int .u64 b)) N := rdV_xor h
theorem r_ishr {P : Program} {X : XS} {w : World} {N : Value → Prop} {t : TypeId} {a b : Int} (hb : ¬ b < 0) (h : N (.int .u64 (ishr a b))) : rdV P X w (binOp .shr t (.int .u64 a) (.int .u64 b)) N := rdV_shr hb h
theorem r_imul {P : Program} {X : XS} {w : World} {N : Value → Prop} {t : TypeId} {a b : Int} (h : N (.int .u64 (imul a b))) : rdV P X w (binOp .mul t (.int .u64 a) (.int .u64 b)) N := rdV_mul h
def cls (x : Nat) : Int :=
  let b : Int := canon x
  let e := land (ishr b 52) 2047
  let f := land b 4503599627370495
  if e = 2047 ∧ f ≠ 0 then 0 else
    let k := if e = 2047 then 8 else if e > 0 then 7 else if f > 0 then 6 else 5
    if land b 9223372036854775808 ≠ 0 then 9 - k else k
theorem c_num_Class (x : Nat) : Pure Tryz.prog 132 #[.float .f64 x] (I (cls x)) := by
  intro w0
  apply ok_num_Class; unfold vc_num_Class
  have hs := Since.init w0
  repeat' first
    | with_reducible apply condW_T
    | with_reducible apply condW_F
    | with_reducible apply un_selT
    | with_reducible apply un_selFT
    | with_reducible apply grdV_onT
    | with_reducible apply grdW_offT
    | with_reducible apply rdW_pickT
    | with_reducible apply rdW_pickF
    | (with_reducible apply r_eql <;> intro _)
    | (with_reducible apply r_neq <;> intro _)
    | (with_reducible apply r_gtr <;> intro _)
    | ((with_reducible apply r_sub); (· omega); (· omega))
    | with_reducible apply jn_of
    | ((with_reducible refine r_pure (c_num_Bits _) ?_ hs.has ?_); (· kernel_rfl); intro w X hs1; replace hs := hs.trans hs1)
    | ((with_reducible refine fin_pure hs ?_); (simp only [cls] at *; grind))
    | with_reducible apply r_land
    | ((with_reducible apply r_ishr); (· omega))
def one64 : Nat := 4607182418800017408
def isPoint (x : Nat) : Bool := decide (cls x ≥ 5) && (flt x one64 || feq x one64)
theorem c_place_point (x : Nat) : Pure Tryz.prog 133 #[.float .f64 x] (B (isPoint x)) := by
  intro w0
  apply ok_place_point; unfold vc_place_point
  have hs := Since.init w0
  repeat' first
    | with_reducible apply un_selT
    | with_reducible apply un_selFT
    | with_reducible apply grdV_onT
    | with_reducible apply grdW_offT
    | with_reducible apply rdW_pickT
    | with_reducible apply rdW_pickF
    | (with_reducible apply r_geq <;> intro _)
    | (with_reducible apply r_fleq <;> intros)
    | ((with_reducible refine r_pure (c_num_Class _) ?_ hs.has ?_); (· kernel_rfl); intro w X hs1; replace hs := hs.trans hs1)
    | ((with_reducible refine fin_pure hs ?_); (simp_all [isPoint, one64] <;> grind))
def toPoint (x : Nat) : Nat × Int := if cls x = 4 then (0, 0) else if isPoint x then (x, 0) else (0, 1)
theorem c_place_Point (x : Nat) : Pure Tryz.prog 107 #[.float .f64 x] (.tuple #[.float .f64 (toPoint x).1, I (toPoint x).2]) := by
  intro w0
  apply ok_place_Point; unfold vc_place_Point
  have hs := Since.init w0
  repeat' first
    | with_reducible apply condW_T
    | with_reducible apply condW_F
    | with_reducible apply r_notT
    | with_reducible apply r_notF
    | (with_reducible apply r_eql <;> intro _)
    | ((with_reducible refine r_pure (c_num_Class _) ?_ hs.has ?_); (· kernel_rfl); intro w X hs1; replace hs := hs.trans hs1)
    | ((with_reducible refine r_pureB (c_place_point _) ?_ hs.has ?_ ?_); (· kernel_rfl); all_goals (intro _ w X hs1; replace hs := hs.trans hs1))
    | ((with_reducible refine fin_pure hs ?_); (simp_all [toPoint] <;> grind))
def Rng.may (r : Rng) : Bool := decide (r.id ≥ 1) && decide (r.id ≤ 12) && decide (r.epoch ≥ 0) && isPoint r.lo && isPoint r.hi && flt r.lo r.hi
theorem c_place_May (r : Rng) : Pure Tryz.prog 125 #[r.v] (B r.may) := by
  intro w0
  apply ok_place_May; unfold vc_place_May
  have hs := Since.init w0
  repeat' first
    | with_reducible apply un_selT
    | with_reducible apply un_selFT
    | with_reducible apply grdV_onT
    | with_reducible apply grdW_offT
    | with_reducible apply rdW_pickT
    | with_reducible apply rdW_pickF
    | with_reducible apply gE_T
    | with_reducible apply gE_FT
    | (with_reducible apply r_leq <;> intro _)
    | (with_reducible apply r_geq <;> intro _)
    | (with_reducible apply r_flss <;> intro _)
    | with_reducible apply jn_of
    | ((with_reducible refine r_pureB (c_place_point _) ?_ hs.has ?_ ?_); (· kernel_rfl); all_goals (intro _ w X hs1; replace hs := hs.trans hs1))
    | ((with_reducible refine fin_pure hs ?_); (simp_all [Rng.may] <;> omega))
def Val.may (v : Val) : Bool :=
  if v.kind = 0 then decide (v.num = 0) && decide (v.text = ⟨#[]⟩)
  else if v.kind = 1 then decide (v.text = ⟨#[]⟩) && decide (v.num = canon v.num)
  else if v.kind = 2 then decide (v.num = 0) && decide ((v.text.size : Int) ≤ 64)
  else false
theorem c_datum_May (v : Val) : Pure Tryz.prog 131 #[v.v] (B v.may) := by
  intro w0
  apply ok_datum_May; unfold vc_datum_May
  have hs := Since.init w0
  repeat' first
    | with_reducible apply condW_T
    | with_reducible apply condW_F
    | with_reducible apply un_selT
    | with_reducible apply un_selFT
    | with_reducible apply grdV_onT
    | with_reducible apply grdW_offT
    | with_reducible apply rdW_pickT
    | with_reducible apply rdW_pickF
    | with_reducible apply gE_T
    | with_reducible apply gE_FT
    | (with_reducible apply r_eql <;> intro _)
    | (with_reducible apply r_leq <;> intro _)
    | (with_reducible apply r_seql <;> intro _)
    | ((with_reducible apply r_lnT); (· kernel_rfl))
    | with_reducible apply jn_of
    | ((with_reducible refine r_pure (c_num_Bits _) ?_ hs.has ?_); (· kernel_rfl); intro w X hs1; replace hs := hs.trans hs1)
    | ((with_reducible refine fin_pure hs ?_); (simp_all [Val.may] <;> omega))
    | ((with_reducible refine eC_val (run_bits _) hs.has ?_); intro w X hs1; replace hs := hs.trans hs1)
def hstep (h : Int) (b : UInt8) : Int := imul (ixor h (IntKind.u64.wrap b.toNat)) 1099511628211
def hmix (h : Int) : Nat → Int
  | 0 => h
  | 1 => imul (ixor h (ishr h 33)) 18397679294719823053
  | _ => let g := imul (ixor h (ishr h 33)) 18397679294719823053; imul (ixor g (ishr g 33)) 14181476777654086739
def hashOf (s : BA) : Int := let h := hmix (s.data.toList.foldl hstep 14695981039346656037) 2; ixor h (ishr h 33)
theorem c_place_Hash (s : BA) (hbig : s.size ≤ 2 ^ 62) : Pure Tryz.prog 85 #[.string s] (.int .u64 (hashOf s)) := by
  intro w0
  have hsz := size_list s
  apply ok_place_Hash; unfold vc_place_Hash
  have hs := Since.init w0
  repeat' first
    | ((with_reducible apply r_lnT); (· kernel_rfl))
  refine lp2_of (fun n a b w X => ∃ (i : Nat) (h : Int), a = I i ∧ b = .int .u64 h ∧ n = s.data.toList.length - i ∧ i ≤ s.data.toList.length ∧ Since (old w0) w0 X w ∧
    s.data.toList.foldl hstep 14695981039346656037 = (s.data.toList.drop i).foldl hstep h) s.data.toList.length ?_ ?_
  · exact ⟨0, 14695981039346656037, rfl, rfl, rfl, Nat.zero_le _, hs, by rw [List.drop_zero]⟩
  rintro n a b w X ⟨i, h, rfl, rfl, rfl, hi, hs, hw⟩
  rcases at_or s.data.toList i with ⟨hlt, x, hx, hd⟩ | ⟨hge, hd⟩
  · repeat' first
      | ((with_reducible refine r_lssT ?_ ?_); (· omega))
      | with_reducible apply condW_T
      | ((with_reducible apply r_add); (· omega); (· omega))
      | ((with_reducible apply r_cvI); (· kernel_rfl); (· kernel_rfl))
      | ((with_reducible apply r_ixT); (try (case hz => rfl)); (case hb => assumption); (try (case hz => omega)); (case ht => kernel_rfl))
      | with_reducible apply r_ixor
      | with_reducible apply r_imul
      | ((with_reducible refine nx2_of ((s.data.toList).length - (i + 1)) ?_ ?_); (· omega); exact ⟨i + 1, _, by simp, rfl, rfl, by omega, hs, by rw [hw, hd, List.foldl_cons]; rfl⟩)
  · repeat' first
      | ((with_reducible refine r_lssF ?_ ?_); (· omega))
      | with_reducible apply condW_F
      | ((with_reducible apply r_bld); (· kernel_rfl))
    rw [hd] at hw
    refine lp2_of (fun n a b w X => ∃ (i : Nat), a = I i ∧ b = .int .u64 (hmix h i) ∧ n = 2 - i ∧ i ≤ 2 ∧ Since (old w0) w0 X w) 2 ⟨0, rfl, rfl, rfl, Nat.zero_le _, hs⟩ ?_
    rintro n a b w X ⟨i, rfl, rfl, rfl, hi, hs⟩
    obtain rfl | rfl | rfl : i = 0 ∨ i = 1 ∨ i = 2 := by omega
    · repeat' first
        | ((with_reducible refine r_lssT ?_ ?_); (· omega))
        | with_reducible apply condW_T
        | ((with_reducible apply r_add); (· omega); (· omega))
        | ((with_reducible apply r_ixA); (· kernel_rfl); (· kernel_rfl); (try (case hz => rfl)); (case hn => omega); (case hl => rfl))
        | (with_reducible apply r_ixor)
        | (with_reducible apply r_imul)
        | ((with_reducible apply r_ishr); (· omega))
        | ((with_reducible refine nx2_of 1 ?_ ?_); (· omega); exact ⟨1, rfl, rfl, rfl, by omega, hs⟩)
    · repeat' first
        | ((with_reducible refine r_lssT ?_ ?_); (· omega))
        | with_reducible apply condW_T
        | ((with_reducible apply r_add); (· omega); (· omega))
        | ((with_reducible apply r_ixA); (· kernel_rfl); (· kernel_rfl); (try (case hz => rfl)); (case hn => omega); (case hl => rfl))
        | (with_reducible apply r_ixor)
        | (with_reducible apply r_imul)
        | ((with_reducible apply r_ishr); (· omega))
        | ((with_reducible refine nx2_of 0 ?_ ?_); (· omega); exact ⟨2, rfl, rfl, rfl, by omega, hs⟩)
    · repeat' first
        | ((with_reducible refine r_lssF ?_ ?_); (· omega))
        | with_reducible apply condW_F
        | ((with_reducible refine fin_pure hs ?_); (simp only [hashOf, hw]; rfl))
        | (with_reducible apply r_ixor)
        | ((with_reducible apply r_ishr); (· omega))
theorem place_some (n : Int) : ∃ r, floatBits .quo .f64 (floatOfInt .f64 n) 4845873199050653696 = some r := by
  have hn : (Ieee.double.read (floatOfInt .f64 n)).isNaN = false := read_nearest _ _ _ _
  have hd : Ieee.double.read 4845873199050653696 = .number false 4503599627370496 1 := by kernel_rfl
  show ∃ r, ((Ieee.double.read (floatOfInt .f64 n)).quotient _ (Ieee.double.read 4845873199050653696)).map _ = some r
  rw [hd]
  cases hr : Ieee.double.read (floatOfInt .f64 n) with
  | number s m p => simp [Ieee.Datum.quotient]
  | infinity s => simp [Ieee.Datum.quotient]
  | nan s f => rw [hr] at hn; simp [Ieee.Datum.isNaN] at hn
def placeOf (s : BA) : Nat := (floatBits .quo .f64 (floatOfInt .f64 (ishr (hashOf s) 11)) 4845873199050653696).getD 0
theorem placeOf_eq (s : BA) : floatBits .quo .f64 (floatOfInt .f64 (ishr (hashOf s) 11)) 4845873199050653696 = some (placeOf s) := by
  obtain ⟨r, hr⟩ := place_some (ishr (hashOf s) 11)
  rw [placeOf, hr]; rfl
theorem c_place_Of (s : BA) (hbig : s.size ≤ 2 ^ 62) : Pure Tryz.prog 64 #[.string s] (.float .f64 (placeOf s)) := by
  intro w0
  apply ok_place_Of; unfold vc_place_Of
  have hs := Since.init w0
  repeat' first
    | ((with_reducible apply r_cvF); (· kernel_rfl); (· kernel_rfl))
    | ((with_reducible refine r_pure (c_place_Hash _ (by first | assumption | omega)) ?_ hs.has ?_); (· kernel_rfl); intro w X hs1; replace hs := hs.trans hs1)
    | ((with_reducible refine fin_pure hs ?_); rfl)
    | ((with_reducible apply r_ishr); (· omega))
    | ((with_reducible apply r_fop); (· exact placeOf_eq s))
end Go.Proofs.YtnphlhpdikmpiaaGreat
namespace Go.Proofs.YtnphlhpdikmpiaaGreat
open Go.Eng
set_option maxRecDepth 100000
set_option maxHeartbeats 1000000
set_option linter.unusedVariables false
set_option linter.unusedSimpArgs false
attribute [local irreducible] un jn chk fld ld1 ldA st1 ixS lnS lnT bld cvI cvF ixA bsS apS rdV rdW grdW eW eV eU eC eF gE condW fin pickN nilN binS vS lp0 lp1 lp2 lp3 lp4 lp5 lp6 lp7 nx0 nx1 nx2 nx3 nx4 nx5 nx6 nx7
def rising (l : List BA) : Bool := chain goodKey tlt none l
def rises (l : List BA) : Bool := rising l && decide ((l.length : Int) ≤ 16)
theorem d_mvcc_rise {w : World} {X : XS} {a : Value} {xs : List BA} (ha : Sl w X 1 a (xs.map S1)) :
    Ct Tryz.prog 129 #[a] w X nX fun v _ _ => v = B (rises xs) := by
  intro w0 hk
  replace ha := ha.mv hk.mvo
  have hla := ha.len'
  apply ok_mvcc_rise; unfold vc_mvcc_rise
  have hs := Since.init w0
  repeat' first
    | ((with_reducible apply m_lnS); (· (first | assumption | exact Own.sl (by assumption))); (· kernel_rfl))
  refine lp1_of (fun n a w X => ∃ i : Nat, a = I (i : Nat) ∧ n = (xs).length - i ∧ i ≤ (xs).length ∧ Since (old w0) w0 X w ∧ chain goodKey tlt none xs = chain goodKey tlt (prevOf xs i) (xs.drop i)) (xs).length ⟨0, rfl, rfl, Nat.zero_le _, hs, by simp [prevOf]⟩ ?_
  rintro n a w X ⟨i, rfl, rfl, hi, hs, hw⟩
  rcases at_or (xs) i with ⟨hlt, x, hx, hd⟩ | ⟨hge, hd⟩
  · rcases at_prev hlt with ⟨h0, hp⟩ | ⟨h0, y, hy, hp⟩ <;> rw [hp, hd, chain] at hw <;> clear hd
    · repeat' first
        | ((with_reducible refine r_lssT ?_ ?_); (· omega))
        | ((with_reducible refine r_gtrF ?_ ?_); (· omega))
        | with_reducible apply condW_T
        | with_reducible apply condW_F
        | with_reducible apply un_selF
        | with_reducible apply un_selTF
        | with_reducible apply un_selFT
        | with_reducible apply un_selU
        | with_reducible apply grdV_onF
        | with_reducible apply grdW_onF
        | with_reducible apply grdW_offT
        | with_reducible apply grdW_offF
        | with_reducible apply grdW_U
        | with_reducible apply rdW_pickT
        | with_reducible apply rdW_pickF
        | with_reducible apply r_notT
        | with_reducible apply r_notF
        | ((with_reducible apply m_ld1); (· (first | assumption | exact RowIs.cells (by assumption))); (· (first | exact Mv.refl _ _ | exact Since.mv (by assumption) | exact Since.mv (Since.trans (by assumption) (by assumption)))); (· kernel_rfl); (· rfl))
        | ((with_reducible apply m_ixS); (· (first | assumption | exact Own.sl (by assumption))); (try (case hz => rfl)); (case hr => first | assumption | exact List.getElem?_eq_getElem (by omega)); (try (case hz => omega)); (case ht => kernel_rfl); (case hs => kernel_rfl); intro _ _ _)
        | ((with_reducible apply r_add); (· omega); (· omega))
        | ((with_reducible refine r_pureB (c_datum_Key _) ?_ hs.has ?_ ?_); (· kernel_rfl); all_goals (intro _ w X hs1; replace hs := hs.trans hs1))
        | ((first | (with_reducible refine fin_ret0 hs ?_) | (with_reducible refine fin_ret0 (hs0.trans hs) ?_)); intro wa hk; simp_all [rises, rising, chain])
        | ((with_reducible refine nx1_of ((xs).length - (i + 1)) ?_ ?_); (· omega); exact ⟨i + 1, by simp, rfl, by omega, hs, by rw [hw, prevOf_succ hx]; simp [*]⟩)
    · repeat' first
        | ((with_reducible refine r_lssT ?_ ?_); (· omega))
        | ((with_reducible refine r_gtrT ?_ ?_); (· omega))
        | with_reducible apply condW_T
        | with_reducible apply condW_F
        | with_reducible apply un_selT
        | with_reducible apply un_selF
        | with_reducible apply un_selTF
        | with_reducible apply un_selU
        | with_reducible apply grdV_onT
        | with_reducible apply grdV_onF
        | with_reducible apply grdW_onF
        | with_reducible apply grdW_offF
        | with_reducible apply grdW_U
        | with_reducible apply rdW_pickT
        | with_reducible apply rdW_pickF
        | with_reducible apply r_notT
        | with_reducible apply r_notF
        | (with_reducible apply r_sgeq <;> intro _)
        | ((with_reducible apply m_ld1); (· (first | assumption | exact RowIs.cells (by assumption))); (· (first | exact Mv.refl _ _ | exact Since.mv (by assumption) | exact Since.mv (Since.trans (by assumption) (by assumption)))); (· kernel_rfl); (· rfl))
        | ((with_reducible apply m_ixS); (· (first | assumption | exact Own.sl (by assumption))); (try (case hz => rfl)); (case hr => first | assumption | exact List.getElem?_eq_getElem (by omega)); (try (case hz => omega)); (case ht => kernel_rfl); (case hs => kernel_rfl); intro _ _ _)
        | ((with_reducible apply r_add); (· omega); (· omega))
        | ((with_reducible apply r_sub); (· omega); (· omega))
        | ((with_reducible refine r_pureB (c_datum_Key _) ?_ hs.has ?_ ?_); (· kernel_rfl); all_goals (intro _ w X hs1; replace hs := hs.trans hs1))
        | ((first | (with_reducible refine fin_ret0 hs ?_) | (with_reducible refine fin_ret0 (hs0.trans hs) ?_)); intro wa hk; simp_all [rises, rising, chain])
        | ((with_reducible refine nx1_of ((xs).length - (i + 1)) ?_ ?_); (· omega); exact ⟨i + 1, by simp, rfl, by omega, hs, by rw [hw, prevOf_succ hx]; simp [*]⟩)
  · repeat' first
      | ((with_reducible refine r_lssF ?_ ?_); (· omega))
      | with_reducible apply condW_F
      | (with_reducible apply r_leq <;> intro _)
      | ((with_reducible apply m_lnS); (· (first | assumption | exact Own.sl (by assumption))); (· kernel_rfl))
      | ((first | (with_reducible refine fin_ret0 hs ?_) | (with_reducible refine fin_ret0 (hs0.trans hs) ?_)); intro wa hk; simp_all [rises, rising, chain] <;> omega)
def rowsOk (l : List KV) : Bool := rises (l.map (·.key)) && l.all (·.val.may)
theorem d_mvcc_writeKeys {w : World} {X : XS} {a : Value} {xs : List KV} (ha : Sl w X 4 a (xs.map KV.l)) (hb : xs.length ≤ 2 ^ 40) :
    Ct Tryz.prog 130 #[a] w X nX fun v wa w' => Own w' (made wa w') wa.heap.size 9 1 v ((xs.map (·.key)).map S1) := by
  intro w0 hk
  replace ha := ha.mv hk.mvo
  have hla := ha.len'
  apply ok_mvcc_writeKeys; unfold vc_mvcc_writeKeys
  have hs := Since.init w0
  repeat' first
    | ((with_reducible apply m_lnS); (· (first | assumption | exact Own.sl (by assumption))); (· kernel_rfl))
  refine lp2_of (fun n a b w X => ∃ i : Nat, a = I i ∧ n = xs.length - i ∧ i ≤ xs.length ∧ Since (old w0) w0 X w ∧ Own w X w0.heap.size 9 1 b (((xs.take i).map (·.key)).map S1)) xs.length ⟨0, rfl, rfl, Nat.zero_le _, hs, Own.nil _ _ _ _ _⟩ ?_
  rintro n a b w X ⟨i, rfl, rfl, hi, hs, ho⟩
  rcases at_or (xs) i with ⟨hlt, x, hx, hd⟩ | ⟨hge, hd⟩
  · repeat' first
      | ((with_reducible refine r_lssT ?_ ?_); (· omega))
      | with_reducible apply condW_T
      | ((with_reducible apply un_cell); (· rfl))
      | with_reducible apply un_box
      | ((with_reducible apply m_ldA); (· (first | assumption | exact RowIs.cells (by assumption))); (· (first | exact Mv.refl _ _ | exact Since.mv (by assumption) | exact Since.mv (Since.trans (by assumption) (by assumption)))); (· kernel_rfl); (· rfl))
      | ((with_reducible apply m_ixS); (· (first | assumption | exact Own.sl (by assumption))); (try (case hz => rfl)); (case hr => first | assumption | exact List.getElem?_eq_getElem (by omega)); (try (case hz => omega)); (case ht => kernel_rfl); (case hs => kernel_rfl); intro _ _ _)
      | ((with_reducible apply m_chkc); (case h => (repeat' first | with_reducible apply all_one_cons | with_reducible exact all_one_nil | assumption | rfl | exact Sl.one (by assumption) | exact Rws.one (by assumption) | exact Sl.one (Own.sl (by assumption)))))
      | ((with_reducible apply chk_T); (· first | rfl | assumption | exact Sl.one (by assumption) | exact Rws.one (by assumption)))
      | ((with_reducible apply r_add); (· omega); (· omega))
      | ((with_reducible apply m_app1s); (case own => first | assumption | exact Own.since (by assumption) (by assumption)); (case hs => assumption); (case h0 => first | exact fun _ h => h | exact hs0.has); (case he => kernel_rfl); (case hk => rfl); (case ho => first | rfl | assumption); (case hb => (simp only [List.length_map, List.length_take, List.length_append, List.length_cons, List.length_nil]; omega)); (case hl => (simp only [List.length_map, List.length_take, List.length_append, List.length_cons, List.length_nil]; omega)); intro acc w X hs1 ho hc hat; replace hs := hs1)
      | ((with_reducible refine nx2_of ((xs).length - (i + 1)) ?_ ?_); (· omega); exact ⟨i + 1, by simp, rfl, by omega, hs, by rw [List.take_add_one, hx]; simpa using ho⟩)
  · repeat' first
      | ((with_reducible refine r_lssF ?_ ?_); (· omega))
      | with_reducible apply condW_F
      | ((first | (with_reducible refine fin_ret0 hs ?_) | (with_reducible refine fin_ret0 (hs0.trans hs) ?_)); intro wa hk; (rw [List.take_of_length_le hge] at ho; exact (ho.kp hk).tight))
def Pend.err (p : Pend) : Int :=
  if !p.txn.may then 4 else if !p.stamp.may || decide (p.stamp = .zero) then 17
  else if !rises p.reads || !rises (p.writes.map (·.key)) then 4
  else if p.writes.all (·.val.may) then 0 else 4
theorem d_mvcc_PendingMay {w : World} {X : XS} {p : Pend} {vr vw : Value} (h1 : Sl w X 1 vr (p.reads.map S1)) (h2 : Sl w X 4 vw (p.writes.map KV.l)) (hb : p.writes.length ≤ 2 ^ 40) :
    Ct Tryz.prog 103 #[p.v vr vw] w X nX fun v _ _ => v = I p.err := by
  intro w0 hk
  replace h1 := h1.mv hk.mvo
  replace h2 := h2.mv hk.mvo
  have hla := h2.len'
  apply ok_mvcc_PendingMay; unfold vc_mvcc_PendingMay
  have hs := Since.init w0
  repeat' first
    | with_reducible apply condW_T
    | with_reducible apply condW_F
    | with_reducible apply un_selF
    | with_reducible apply un_selTF
    | with_reducible apply grdV_onF
    | with_reducible apply grdW_offF
    | with_reducible apply rdW_pickT
    | with_reducible apply rdW_pickF
    | with_reducible apply gE_F
    | with_reducible apply gE_TF
    | with_reducible apply r_notT
    | with_reducible apply r_notF
    | ((with_reducible apply m_lnS); (· (first | assumption | exact Own.sl (by assumption))); (· kernel_rfl))
    | ((with_reducible apply r_bld); (· kernel_rfl))
    | ((with_reducible refine r_eqS0 _ ?_ ?_ ?_); (· kernel_rfl); all_goals intros)
    | with_reducible apply jn_of
    | ((with_reducible refine r_pureB (c_hlc_May _) ?_ hs.has ?_ ?_); (· kernel_rfl); all_goals (intro _ w X hs1; replace hs := hs.trans hs1))
    | ((with_reducible refine r_pureB (c_mvcc_TxnMay _) ?_ hs.has ?_ ?_); (· kernel_rfl); all_goals (intro _ w X hs1; replace hs := hs.trans hs1))
    | ((first | (with_reducible refine fin_ret0 hs ?_) | (with_reducible refine fin_ret0 (hs0.trans hs) ?_)); intro wa hk; simp_all [Pend.err])
    | (refine r_ct0B (d_mvcc_rise  (by first | assumption | exact Sl.mv (by assumption) (by (first | exact Mv.refl _ _ | exact Since.mv (by assumption) | exact Since.mv (Since.trans (by assumption) (by assumption)))) | exact Pends.mv (by assumption) (by (first | exact Mv.refl _ _ | exact Since.mv (by assumption) | exact Since.mv (Since.trans (by assumption) (by assumption)))) | exact Hists.mv (by assumption) (by (first | exact Mv.refl _ _ | exact Since.mv (by assumption) | exact Since.mv (Since.trans (by assumption) (by assumption)))) | exact Rec.at.mv (by assumption) (by (first | exact Mv.refl _ _ | exact Since.mv (by assumption) | exact Since.mv (Since.trans (by assumption) (by assumption)))) | exact Own.sl (by assumption) | exact Cells.mv (by assumption) (by (first | exact Mv.refl _ _ | exact Since.mv (by assumption) | exact Since.mv (Since.trans (by assumption) (by assumption)))) | exact Cells.mv (RowIs.cells (by assumption)) (by (first | exact Mv.refl _ _ | exact Since.mv (by assumption) | exact Since.mv (Since.trans (by assumption) (by assumption)))) | omega)) (by kernel_rfl) hs.has ?_ ?_ <;> (intro _ w X hs1; replace hs := hs.trans hs1))
    | (refine r_ct0 (d_mvcc_writeKeys  (by first | assumption | exact Sl.mv (by assumption) (by (first | exact Mv.refl _ _ | exact Since.mv (by assumption) | exact Since.mv (Since.trans (by assumption) (by assumption)))) | exact Pends.mv (by assumption) (by (first | exact Mv.refl _ _ | exact Since.mv (by assumption) | exact Since.mv (Since.trans (by assumption) (by assumption)))) | exact Hists.mv (by assumption) (by (first | exact Mv.refl _ _ | exact Since.mv (by assumption) | exact Since.mv (Since.trans (by assumption) (by assumption)))) | exact Rec.at.mv (by assumption) (by (first | exact Mv.refl _ _ | exact Since.mv (by assumption) | exact Since.mv (Since.trans (by assumption) (by assumption)))) | exact Own.sl (by assumption) | exact Cells.mv (by assumption) (by (first | exact Mv.refl _ _ | exact Since.mv (by assumption) | exact Since.mv (Since.trans (by assumption) (by assumption)))) | exact Cells.mv (RowIs.cells (by assumption)) (by (first | exact Mv.refl _ _ | exact Since.mv (by assumption) | exact Since.mv (Since.trans (by assumption) (by assumption)))) | omega) (by first | assumption | exact Sl.mv (by assumption) (by (first | exact Mv.refl _ _ | exact Since.mv (by assumption) | exact Since.mv (Since.trans (by assumption) (by assumption)))) | exact Pends.mv (by assumption) (by (first | exact Mv.refl _ _ | exact Since.mv (by assumption) | exact Since.mv (Since.trans (by assumption) (by assumption)))) | exact Hists.mv (by assumption) (by (first | exact Mv.refl _ _ | exact Since.mv (by assumption) | exact Since.mv (Since.trans (by assumption) (by assumption)))) | exact Rec.at.mv (by assumption) (by (first | exact Mv.refl _ _ | exact Since.mv (by assumption) | exact Since.mv (Since.trans (by assumption) (by assumption)))) | exact Own.sl (by assumption) | exact Cells.mv (by assumption) (by (first | exact Mv.refl _ _ | exact Since.mv (by assumption) | exact Since.mv (Since.trans (by assumption) (by assumption)))) | exact Cells.mv (RowIs.cells (by assumption)) (by (first | exact Mv.refl _ _ | exact Since.mv (by assumption) | exact Since.mv (Since.trans (by assumption) (by assumption)))) | omega)) (by kernel_rfl) hs.has ?_; rintro v1 wa w X ho1 hle hin hs1; have hlo := Nat.le_trans hs.kp.size hle; replace hs := hs.trans hs1; replace ho1 := ho1.up hin hlo)
  refine lp1_of (fun n a w X => ∃ i : Nat, a = I (i : Nat) ∧ n = (p.writes).length - i ∧ i ≤ (p.writes).length ∧ Since (old w0) w0 X w ∧ p.writes.all (·.val.may) = (p.writes.drop i).all (·.val.may)) (p.writes).length ⟨0, rfl, rfl, Nat.zero_le _, hs, by simp⟩ ?_
  rintro n a w X ⟨i, rfl, rfl, hi, hs, hw⟩
  rcases at_or (p.writes) i with ⟨hlt, x, hx, hd⟩ | ⟨hge, hd⟩
  · repeat' first
      | ((with_reducible refine r_lssT ?_ ?_); (· omega))
      | with_reducible apply condW_T
      | with_reducible apply condW_F
      | ((with_reducible apply m_sub); (· (simp only [Value.cells, List.toList_toArray, List.take_succ_cons, List.drop_succ_cons, List.take_zero, List.drop_zero, List.take_nil, setL, List.length_cons, List.length_nil, List.cons_append, List.nil_append, Nat.reduceAdd, Nat.zero_add]; try rfl)))
      | with_reducible apply un_box
      | with_reducible apply r_notT
      | with_reducible apply r_notF
      | ((with_reducible apply m_ldA); (· (first | assumption | exact RowIs.cells (by assumption))); (· (first | exact Mv.refl _ _ | exact Since.mv (by assumption) | exact Since.mv (Since.trans (by assumption) (by assumption)))); (· kernel_rfl); (· rfl))
      | ((with_reducible apply m_ixS); (· (first | assumption | exact Own.sl (by assumption))); (try (case hz => rfl)); (case hr => first | assumption | exact List.getElem?_eq_getElem (by omega)); (try (case hz => omega)); (case ht => kernel_rfl); (case hs => kernel_rfl); intro _ _ _)
      | ((with_reducible apply m_chkc); (case h => (repeat' first | with_reducible apply all_one_cons | with_reducible exact all_one_nil | assumption | rfl | exact Sl.one (by assumption) | exact Rws.one (by assumption) | exact Sl.one (Own.sl (by assumption)))))
      | ((with_reducible apply chk_T); (· first | rfl | assumption | exact Sl.one (by assumption) | exact Rws.one (by assumption)))
      | ((with_reducible apply r_add); (· omega); (· omega))
      | ((with_reducible refine r_pureB (c_datum_May _) ?_ hs.has ?_ ?_); (· kernel_rfl); all_goals (intro _ w X hs1; replace hs := hs.trans hs1))
      | ((first | (with_reducible refine fin_ret0 hs ?_) | (with_reducible refine fin_ret0 (hs0.trans hs) ?_)); intro wa hk; simp_all [Pend.err])
      | ((with_reducible refine nx1_of ((p.writes).length - (i + 1)) ?_ ?_); (· omega); exact ⟨i + 1, by simp, rfl, by omega, hs, by rw [hw, hd]; simp [*]⟩)
  · repeat' first
      | ((with_reducible refine r_lssF ?_ ?_); (· omega))
      | with_reducible apply condW_F
      | ((first | (with_reducible refine fin_ret0 hs ?_) | (with_reducible refine fin_ret0 (hs0.trans hs) ?_)); intro wa hk; simp_all [Pend.err])
def partsOk (l : List Int) : Bool := chain (fun n => decide (n ≥ 1) && decide (n ≤ 12)) (fun a b => decide (a < b)) none l && decide (l ≠ [])
theorem d_recs_Parts {w : World} {X : XS} {a : Value} {xs : List Int} (ha : Sl w X 1 a (xs.map I1)) :
    Ct Tryz.prog 104 #[a] w X nX fun v _ _ => v = B (partsOk xs) := by
  intro w0 hk
  replace ha := ha.mv hk.mvo
  have hla := ha.len'
  apply ok_recs_Parts; unfold vc_recs_Parts
  have hs := Since.init w0
  repeat' first
    | ((with_reducible apply m_lnS); (· (first | assumption | exact Own.sl (by assumption))); (· kernel_rfl))
  refine lp1_of (fun n a w X => ∃ i : Nat, a = I (i : Nat) ∧ n = (xs).length - i ∧ i ≤ (xs).length ∧ Since (old w0) w0 X w ∧ chain (fun n => decide (n ≥ 1) && decide (n ≤ 12)) (fun a b => decide (a < b)) none xs = chain (fun n => decide (n ≥ 1) && decide (n ≤ 12)) (fun a b => decide (a < b)) (prevOf xs i) (xs.drop i)) (xs).length ⟨0, rfl, rfl, Nat.zero_le _, hs, by simp [prevOf]⟩ ?_
  rintro n a w X ⟨i, rfl, rfl, hi, hs, hw⟩
  rcases at_or (xs) i with ⟨hlt, x, hx, hd⟩ | ⟨hge, hd⟩
  · rcases at_prev hlt with ⟨h0, hp⟩ | ⟨h0, y, hy, hp⟩ <;> rw [hp, hd, chain] at hw <;> clear hd
    · repeat' first
        | ((with_reducible refine r_lssT ?_ ?_); (· omega))
        | ((with_reducible refine r_gtrF ?_ ?_); (· omega))
        | with_reducible apply condW_T
        | with_reducible apply condW_F
        | with_reducible apply un_selF
        | with_reducible apply un_selTF
        | with_reducible apply un_selFT
        | with_reducible apply un_selU
        | with_reducible apply grdV_onF
        | with_reducible apply grdW_onF
        | with_reducible apply grdW_offT
        | with_reducible apply grdW_offF
        | with_reducible apply grdW_U
        | with_reducible apply rdW_pickT
        | with_reducible apply rdW_pickF
        | (with_reducible apply r_lss <;> intro _)
        | (with_reducible apply r_gtr <;> intro _)
        | ((with_reducible apply m_ld1); (· (first | assumption | exact RowIs.cells (by assumption))); (· (first | exact Mv.refl _ _ | exact Since.mv (by assumption) | exact Since.mv (Since.trans (by assumption) (by assumption)))); (· kernel_rfl); (· rfl))
        | ((with_reducible apply m_ixS); (· (first | assumption | exact Own.sl (by assumption))); (try (case hz => rfl)); (case hr => first | assumption | exact List.getElem?_eq_getElem (by omega)); (try (case hz => omega)); (case ht => kernel_rfl); (case hs => kernel_rfl); intro _ _ _)
        | ((with_reducible apply r_add); (· omega); (· omega))
        | ((first | (with_reducible refine fin_ret0 hs ?_) | (with_reducible refine fin_ret0 (hs0.trans hs) ?_)); intro wa hk; (simp_all [partsOk, chain] <;> omega))
        | ((with_reducible refine nx1_of ((xs).length - (i + 1)) ?_ ?_); (· omega); exact ⟨i + 1, by simp, rfl, by omega, hs, by rw [hw, prevOf_succ hx]; simp_all <;> omega⟩)
    · repeat' first
        | ((with_reducible refine r_lssT ?_ ?_); (· omega))
        | ((with_reducible refine r_gtrT ?_ ?_); (· omega))
        | with_reducible apply condW_T
        | with_reducible apply condW_F
        | with_reducible apply un_selT
        | with_reducible apply un_selF
        | with_reducible apply un_selTF
        | with_reducible apply un_selU
        | with_reducible apply grdV_onT
        | with_reducible apply grdV_onF
        | with_reducible apply grdW_onF
        | with_reducible apply grdW_offF
        | with_reducible apply grdW_U
        | with_reducible apply rdW_pickT
        | with_reducible apply rdW_pickF
        | (with_reducible apply r_lss <;> intro _)
        | (with_reducible apply r_gtr <;> intro _)
        | (with_reducible apply r_geq <;> intro _)
        | ((with_reducible apply m_ld1); (· (first | assumption | exact RowIs.cells (by assumption))); (· (first | exact Mv.refl _ _ | exact Since.mv (by assumption) | exact Since.mv (Since.trans (by assumption) (by assumption)))); (· kernel_rfl); (· rfl))
        | ((with_reducible apply m_ixS); (· (first | assumption | exact Own.sl (by assumption))); (try (case hz => rfl)); (case hr => first | assumption | exact List.getElem?_eq_getElem (by omega)); (try (case hz => omega)); (case ht => kernel_rfl); (case hs => kernel_rfl); intro _ _ _)
        | ((with_reducible apply r_add); (· omega); (· omega))
        | ((with_reducible apply r_sub); (· omega); (· omega))
        | ((first | (with_reducible refine fin_ret0 hs ?_) | (with_reducible refine fin_ret0 (hs0.trans hs) ?_)); intro wa hk; (simp_all [partsOk, chain] <;> omega))
        | ((with_reducible refine nx1_of ((xs).length - (i + 1)) ?_ ?_); (· omega); exact ⟨i + 1, by simp, rfl, by omega, hs, by rw [hw, prevOf_succ hx]; simp_all <;> omega⟩)
  · repeat' first
      | ((with_reducible refine r_lssF ?_ ?_); (· omega))
      | with_reducible apply condW_F
      | (with_reducible apply r_gtr <;> intro _)
      | ((with_reducible apply m_lnS); (· (first | assumption | exact Own.sl (by assumption))); (· kernel_rfl))
      | ((first | (with_reducible refine fin_ret0 hs ?_) | (with_reducible refine fin_ret0 (hs0.trans hs) ?_)); intro wa hk; (simp_all [partsOk, chain] <;> grind))
def pairsOk (l : List KV) : Bool := chain (fun x => goodKey x.key && x.val.may && decide (x.val.kind ≠ 0)) (fun a b => tlt a.key b.key) none l
theorem d_recs_pairs {w : World} {X : XS} {a : Value} {xs : List KV} (ha : Sl w X 4 a (xs.map KV.l)) :
    Ct Tryz.prog 111 #[a] w X nX fun v _ _ => v = B (pairsOk xs) := by
  intro w0 hk
  replace ha := ha.mv hk.mvo
  have hla := ha.len'
  apply ok_recs_pairs; unfold vc_recs_pairs
  have hs := Since.init w0
  repeat' first
    | ((with_reducible apply m_lnS); (· (first | assumption | exact Own.sl (by assumption))); (· kernel_rfl))
  refine lp1_of (fun n a w X => ∃ i : Nat, a = I (i : Nat) ∧ n = (xs).length - i ∧ i ≤ (xs).length ∧ Since (old w0) w0 X w ∧ pairsOk xs = chain (fun x => goodKey x.key && x.val.may && decide (x.val.kind ≠ 0)) (fun a b => tlt a.key b.key) (prevOf xs i) (xs.drop i)) (xs).length ⟨0, rfl, rfl, Nat.zero_le _, hs, by simp [prevOf, pairsOk]⟩ ?_
  rintro n a w X ⟨i, rfl, rfl, hi, hs, hw⟩
  rcases at_or (xs) i with ⟨hlt, x, hx, hd⟩ | ⟨hge, hd⟩
  · rcases at_prev hlt with ⟨h0, hp⟩ | ⟨h0, y, hy, hp⟩ <;> rw [hp, hd, chain] at hw <;> clear hd
    · repeat' first
        | ((with_reducible refine r_lssT ?_ ?_); (· omega))
        | ((with_reducible refine r_gtrF ?_ ?_); (· omega))
        | with_reducible apply condW_T
        | with_reducible apply condW_F
        | ((with_reducible apply un_cell); (· rfl))
        | ((with_reducible apply m_sub); (· (simp only [Value.cells, List.toList_toArray, List.take_succ_cons, List.drop_succ_cons, List.take_zero, List.drop_zero, List.take_nil, setL, List.length_cons, List.length_nil, List.cons_append, List.nil_append, Nat.reduceAdd, Nat.zero_add]; try rfl)))
        | with_reducible apply un_box
        | with_reducible apply un_selF
        | with_reducible apply un_selTF
        | with_reducible apply un_selFT
        | with_reducible apply un_selU
        | with_reducible apply grdV_onF
        | with_reducible apply grdW_onF
        | with_reducible apply grdW_offT
        | with_reducible apply grdW_offF
        | with_reducible apply grdW_U
        | with_reducible apply rdW_pickT
        | with_reducible apply rdW_pickF
        | with_reducible apply gE_F
        | with_reducible apply gE_TF
        | with_reducible apply r_notT
        | with_reducible apply r_notF
        | (with_reducible apply r_eql <;> intro _)
        | ((with_reducible apply m_ldA); (· (first | assumption | exact RowIs.cells (by assumption))); (· (first | exact Mv.refl _ _ | exact Since.mv (by assumption) | exact Since.mv (Since.trans (by assumption) (by assumption)))); (· kernel_rfl); (· rfl))
        | ((with_reducible apply m_ixS); (· (first | assumption | exact Own.sl (by assumption))); (try (case hz => rfl)); (case hr => first | assumption | exact List.getElem?_eq_getElem (by omega)); (try (case hz => omega)); (case ht => kernel_rfl); (case hs => kernel_rfl); intro _ _ _)
        | ((with_reducible apply m_chkc); (case h => (repeat' first | with_reducible apply all_one_cons | with_reducible exact all_one_nil | assumption | rfl | exact Sl.one (by assumption) | exact Rws.one (by assumption) | exact Sl.one (Own.sl (by assumption)))))
        | ((with_reducible apply chk_T); (· first | rfl | assumption | exact Sl.one (by assumption) | exact Rws.one (by assumption)))
        | ((with_reducible apply r_add); (· omega); (· omega))
        | with_reducible apply jn_of
        | ((with_reducible refine r_pureB (c_datum_May _) ?_ hs.has ?_ ?_); (· kernel_rfl); all_goals (intro _ w X hs1; replace hs := hs.trans hs1))
        | ((with_reducible refine r_pureB (c_datum_Key _) ?_ hs.has ?_ ?_); (· kernel_rfl); all_goals (intro _ w X hs1; replace hs := hs.trans hs1))
        | ((first | (with_reducible refine fin_ret0 hs ?_) | (with_reducible refine fin_ret0 (hs0.trans hs) ?_)); intro wa hk; (simp_all [chain] <;> omega))
        | ((with_reducible refine nx1_of ((xs).length - (i + 1)) ?_ ?_); (· omega); exact ⟨i + 1, by simp, rfl, by omega, hs, by rw [hw, prevOf_succ hx]; simp_all <;> omega⟩)
    · repeat' first
        | ((with_reducible refine r_lssT ?_ ?_); (· omega))
        | ((with_reducible refine r_gtrT ?_ ?_); (· omega))
        | with_reducible apply condW_T
        | with_reducible apply condW_F
        | ((with_reducible apply un_cell); (· rfl))
        | ((with_reducible apply m_sub); (· (simp only [Value.cells, List.toList_toArray, List.take_succ_cons, List.drop_succ_cons, List.take_zero, List.drop_zero, List.take_nil, setL, List.length_cons, List.length_nil, List.cons_append, List.nil_append, Nat.reduceAdd, Nat.zero_add]; try rfl)))
        | with_reducible apply un_box
        | with_reducible apply un_selT
        | with_reducible apply un_selF
        | with_reducible apply un_selTF
        | with_reducible apply un_selU
        | with_reducible apply grdV_onT
        | with_reducible apply grdV_onF
        | with_reducible apply grdW_onF
        | with_reducible apply grdW_offF
        | with_reducible apply grdW_U
        | with_reducible apply rdW_pickT
        | with_reducible apply rdW_pickF
        | with_reducible apply gE_F
        | with_reducible apply gE_TF
        | with_reducible apply r_notT
        | with_reducible apply r_notF
        | (with_reducible apply r_eql <;> intro _)
        | (with_reducible apply r_sgeq <;> intro _)
        | ((with_reducible apply m_fld1); (· (first | assumption | exact RowIs.cells (by assumption))); (· kernel_rfl); (· rfl); intro _ _ _)
        | ((with_reducible apply m_ld1); (· (first | assumption | exact RowIs.cells (by assumption))); (· (first | exact Mv.refl _ _ | exact Since.mv (by assumption) | exact Since.mv (Since.trans (by assumption) (by assumption)))); (· kernel_rfl); (· rfl))
        | ((with_reducible apply m_ldA); (· (first | assumption | exact RowIs.cells (by assumption))); (· (first | exact Mv.refl _ _ | exact Since.mv (by assumption) | exact Since.mv (Since.trans (by assumption) (by assumption)))); (· kernel_rfl); (· rfl))
        | ((with_reducible apply m_ixS); (· (first | assumption | exact Own.sl (by assumption))); (try (case hz => rfl)); (case hr => first | assumption | exact List.getElem?_eq_getElem (by omega)); (try (case hz => omega)); (case ht => kernel_rfl); (case hs => kernel_rfl); intro _ _ _)
        | ((with_reducible apply m_chkc); (case h => (repeat' first | with_reducible apply all_one_cons | with_reducible exact all_one_nil | assumption | rfl | exact Sl.one (by assumption) | exact Rws.one (by assumption) | exact Sl.one (Own.sl (by assumption)))))
        | ((with_reducible apply chk_T); (· first | rfl | assumption | exact Sl.one (by assumption) | exact Rws.one (by assumption)))
        | ((with_reducible apply r_add); (· omega); (· omega))
        | ((with_reducible apply r_sub); (· omega); (· omega))
        | with_reducible apply jn_of
        | ((with_reducible refine r_pureB (c_datum_May _) ?_ hs.has ?_ ?_); (· kernel_rfl); all_goals (intro _ w X hs1; replace hs := hs.trans hs1))
        | ((with_reducible refine r_pureB (c_datum_Key _) ?_ hs.has ?_ ?_); (· kernel_rfl); all_goals (intro _ w X hs1; replace hs := hs.trans hs1))
        | ((first | (with_reducible refine fin_ret0 hs ?_) | (with_reducible refine fin_ret0 (hs0.trans hs) ?_)); intro wa hk; (simp_all [chain] <;> omega))
        | ((with_reducible refine nx1_of ((xs).length - (i + 1)) ?_ ?_); (· omega); exact ⟨i + 1, by simp, rfl, by omega, hs, by rw [hw, prevOf_succ hx]; simp_all <;> omega⟩)
  · repeat' first
      | ((with_reducible refine r_lssF ?_ ?_); (· omega))
      | with_reducible apply condW_F
      | ((first | (with_reducible refine fin_ret0 hs ?_) | (with_reducible refine fin_ret0 (hs0.trans hs) ?_)); intro wa hk; (simp_all [chain] <;> grind))
end Go.Proofs.YtnphlhpdikmpiaaGreat
namespace Go.Proofs.YtnphlhpdikmpiaaGreat
open Go.Eng
set_option maxRecDepth 100000
set_option maxHeartbeats 1000000
set_option linter.unusedVariables false
set_option linter.unusedSimpArgs false
attribute [local irreducible] un jn chk fld ld1 ldA st1 ixS lnS lnT bld cvI cvF ixA bsS apS rdV rdW grdW eW eV eU eC eF gE condW fin pickN nilN binS vS lp0 lp1 lp2 lp3 lp4 lp5 lp6 lp7 nx0 nx1 nx2 nx3 nx4 nx5 nx6 nx7
abbrev Rng.zero : Rng := ⟨0, 0, 0, 0⟩
abbrev State.zero : State := ⟨.zero, .zero, .zero, [], []⟩
def State.isZero (s : State) : Bool := decide (s.range = .zero) && decide (s.floor = .zero) && decide (s.closed = .zero) && decide (s.hists = []) && decide (s.pend = [])
theorem d_recs_zeroState {w : World} {X : XS} {s : State} {vh vp : Value} (h1 : Hists w X vh s.hists) (h2 : Pends w X vp s.pend) :
    Ct Tryz.prog 101 #[s.v vh vp] w X nX fun v _ _ => v = B s.isZero := by
  intro w0 hk
  replace h1 := h1.mv hk.mvo
  replace h2 := h2.mv hk.mvo
  apply ok_recs_zeroState; unfold vc_recs_zeroState
  have hs := Since.init w0
  repeat' first
    | with_reducible apply un_selT
    | with_reducible apply un_selFT
    | with_reducible apply grdV_onT
    | with_reducible apply grdW_offT
    | with_reducible apply rdW_pickT
    | with_reducible apply rdW_pickF
    | with_reducible apply gE_T
    | with_reducible apply gE_FT
    | (with_reducible apply r_eql <;> intro _)
    | ((with_reducible apply m_lnR); (· assumption); (· kernel_rfl))
    | ((with_reducible apply r_bld); (· kernel_rfl))
    | ((with_reducible refine r_eqS0 _ ?_ ?_ ?_); (· kernel_rfl); all_goals intros)
    | with_reducible apply jn_of
    | ((first | (with_reducible refine fin_ret0 hs ?_) | (with_reducible refine fin_ret0 (hs0.trans hs) ?_)); intro wa hk; (simp_all [State.isZero, Rng.ext_iff]))
    | ((with_reducible refine eC_val (run_bits _) hs.has ?_); intro w X hs1; replace hs := hs.trans hs1)
def Rec.isZero (r : Rec) : Bool := decide (r.txn = .zero) && decide (r.stamp = .zero) && decide (r.prev = .zero) && !r.commit && decide (r.n = 0) && decide (r.point = 0) &&
  decide (r.reads = []) && decide (r.writes = []) && decide (r.parts = []) && decide (r.pairs = []) && r.state.isZero
theorem d_recs_zero {w : World} {X : XS} {r : Rec} {vr vw vp vq vh vd : Value} (h : r.at w X vr vw vp vq vh vd) :
    Ct Tryz.prog 82 #[r.v vr vw vp vq vh vd] w X nX fun v _ _ => v = B r.isZero := by
  intro w0 hk
  obtain ⟨h1, h2, h3, h4, h5, h6⟩ := h.mv hk.mvo
  apply ok_recs_zero; unfold vc_recs_zero
  have hs := Since.init w0
  cases hc : r.commit <;>
  repeat' first
    | with_reducible apply un_selT
    | with_reducible apply un_selFT
    | with_reducible apply grdV_onT
    | with_reducible apply grdW_offT
    | with_reducible apply rdW_pickT
    | with_reducible apply rdW_pickF
    | with_reducible apply gE_T
    | with_reducible apply gE_FT
    | with_reducible apply r_notT
    | with_reducible apply r_notF
    | (with_reducible apply r_eql <;> intro _)
    | ((with_reducible apply m_lnS); (· (first | assumption | exact Own.sl (by assumption))); (· kernel_rfl))
    | ((with_reducible apply r_bld); (· kernel_rfl))
    | ((with_reducible refine r_eqS0 _ ?_ ?_ ?_); (· kernel_rfl); all_goals intros)
    | ((with_reducible refine r_eqT0 _ ?_ ?_ ?_); (· kernel_rfl); all_goals intros)
    | with_reducible apply jn_of
    | ((first | (with_reducible refine fin_ret0 hs ?_) | (with_reducible refine fin_ret0 (hs0.trans hs) ?_)); intro wa hk; (simp_all [Rec.isZero]))
    | ((with_reducible refine eC_val (run_bits _) hs.has ?_); intro w X hs1; replace hs := hs.trans hs1)
    | (refine r_ct0B (d_recs_zeroState  (s := r.state) (by first | assumption | exact Sl.mv (by assumption) (by (first | exact Mv.refl _ _ | exact Since.mv (by assumption) | exact Since.mv (Since.trans (by assumption) (by assumption)))) | exact Pends.mv (by assumption) (by (first | exact Mv.refl _ _ | exact Since.mv (by assumption) | exact Since.mv (Since.trans (by assumption) (by assumption)))) | exact Hists.mv (by assumption) (by (first | exact Mv.refl _ _ | exact Since.mv (by assumption) | exact Since.mv (Since.trans (by assumption) (by assumption)))) | exact Rec.at.mv (by assumption) (by (first | exact Mv.refl _ _ | exact Since.mv (by assumption) | exact Since.mv (Since.trans (by assumption) (by assumption)))) | exact Own.sl (by assumption) | exact Cells.mv (by assumption) (by (first | exact Mv.refl _ _ | exact Since.mv (by assumption) | exact Since.mv (Since.trans (by assumption) (by assumption)))) | exact Cells.mv (RowIs.cells (by assumption)) (by (first | exact Mv.refl _ _ | exact Since.mv (by assumption) | exact Since.mv (Since.trans (by assumption) (by assumption)))) | omega) (by first | assumption | exact Sl.mv (by assumption) (by (first | exact Mv.refl _ _ | exact Since.mv (by assumption) | exact Since.mv (Since.trans (by assumption) (by assumption)))) | exact Pends.mv (by assumption) (by (first | exact Mv.refl _ _ | exact Since.mv (by assumption) | exact Since.mv (Since.trans (by assumption) (by assumption)))) | exact Hists.mv (by assumption) (by (first | exact Mv.refl _ _ | exact Since.mv (by assumption) | exact Since.mv (Since.trans (by assumption) (by assumption)))) | exact Rec.at.mv (by assumption) (by (first | exact Mv.refl _ _ | exact Since.mv (by assumption) | exact Since.mv (Since.trans (by assumption) (by assumption)))) | exact Own.sl (by assumption) | exact Cells.mv (by assumption) (by (first | exact Mv.refl _ _ | exact Since.mv (by assumption) | exact Since.mv (Since.trans (by assumption) (by assumption)))) | exact Cells.mv (RowIs.cells (by assumption)) (by (first | exact Mv.refl _ _ | exact Since.mv (by assumption) | exact Since.mv (Since.trans (by assumption) (by assumption)))) | omega)) (by kernel_rfl) hs.has ?_ ?_ <;> (intro _ w X hs1; replace hs := hs.trans hs1))
def Rec.strip (r : Rec) : Rec × Bool :=
  if r.kind = 1 then ({ r with state := .zero }, true)
  else if r.kind = 2 ∨ r.kind = 7 ∨ r.kind = 8 then ({ r with n := 0 }, true)
  else if r.kind = 3 then ({ r with txn := .zero, stamp := .zero, reads := [], writes := [], parts := [] }, true)
  else if r.kind = 4 then ({ r with txn := .zero, commit := false, stamp := .zero }, true)
  else if r.kind = 5 then ({ r with stamp := .zero }, true)
  else if r.kind = 6 then ({ r with point := 0, n := 0, stamp := .zero }, true)
  else if r.kind = 9 then ({ r with txn := .zero, stamp := .zero, parts := [] }, true)
  else if r.kind = 10 then ({ r with txn := .zero }, true)
  else if r.kind = 11 then ({ r with prev := .zero, stamp := .zero, txn := .zero, writes := [] }, true)
  else if r.kind = 12 then ({ r with stamp := .zero, pairs := [] }, true)
  else (r, false)
theorem d_recs_without {w : World} {X : XS} {r : Rec} {vr vw vp vq vh vd : Value} (h : r.at w X vr vw vp vq vh vd) :
    Ct Tryz.prog 81 #[r.v vr vw vp vq vh vd] w X nX fun v _ _ => ∃ vr' vw' vp' vq' vh' vd', v = .tuple #[r.strip.1.v vr' vw' vp' vq' vh' vd', B r.strip.2] ∧
      r.strip.1.at w X vr' vw' vp' vq' vh' vd' := by
  intro w0 hk
  obtain ⟨h1, h2, h3, h4, h5, h6⟩ := h
  have o1 := h1.one
  have o2 := h2.one
  have o3 := h3.one
  have o4 := h4.one
  have o5 := h5.one
  have o6 := h6.one
  apply ok_recs_without; unfold vc_recs_without
  have hs := Since.init w0
  have n1 : Sl w X 1 (.slice none 0 0) (([] : List BA).map S1) := Sl.nil _ _ _
  have n2 : Sl w X 4 (.slice none 0 0) (([] : List KV).map KV.l) := Sl.nil _ _ _
  have n3 : Sl w X 1 (.slice none 0 0) (([] : List Int).map I1) := Sl.nil _ _ _
  have n4 : Hists w X (.slice none 0 0) [] := Rws.nil _ _ _
  have n5 : Pends w X (.slice none 0 0) [] := Rws.nil _ _ _
  repeat' first
    | with_reducible apply condW_T
    | with_reducible apply condW_F
    | ((with_reducible apply m_sub); (· (simp only [Value.cells, List.toList_toArray, List.take_succ_cons, List.drop_succ_cons, List.take_zero, List.drop_zero, List.take_nil, setL, List.length_cons, List.length_nil, List.cons_append, List.nil_append, Nat.reduceAdd, Nat.zero_add]; try rfl)))
    | ((with_reducible apply m_set); (· (simp only [Value.cells, List.toList_toArray, List.take_succ_cons, List.drop_succ_cons, List.take_zero, List.drop_zero, List.take_nil, setL, List.length_cons, List.length_nil, List.cons_append, List.nil_append, Nat.reduceAdd, Nat.zero_add]; try rfl)))
    | with_reducible apply un_box
    | (with_reducible apply r_eql <;> intro _)
    | ((with_reducible apply r_bld); (· kernel_rfl))
    | ((with_reducible apply m_chkc); (case h => (repeat' first | with_reducible apply all_one_cons | with_reducible exact all_one_nil | assumption | rfl | exact Sl.one (by assumption) | exact Rws.one (by assumption) | exact Sl.one (Own.sl (by assumption)))))
    | ((with_reducible apply m_chkl); (case h => (repeat' first | with_reducible apply all_one_cons | with_reducible exact all_one_nil | assumption | rfl | exact Sl.one (by assumption) | exact Rws.one (by assumption) | exact Sl.one (Own.sl (by assumption)))))
    | ((with_reducible apply chk_T); (· first | rfl | assumption | exact Sl.one (by assumption) | exact Rws.one (by assumption)))
    | with_reducible apply jn_of
  all_goals
    refine fin_ret0 hs ?_
    intro wa hk9
    unfold Rec.strip
    repeat (first | rw [if_pos (by omega)] | rw [if_neg (by omega)])
    exact ⟨_, _, _, _, _, _, rfl, by assumption, by assumption, by assumption, by assumption, by assumption, by assumption⟩
end Go.Proofs.YtnphlhpdikmpiaaGreat
namespace Go.Proofs.YtnphlhpdikmpiaaGreat
open Go.Eng
set_option maxRecDepth 100000
set_option maxHeartbeats 1000000
set_option linter.unusedVariables false
set_option linter.unusedSimpArgs false
attribute [local irreducible] un jn chk fld ld1 ldA st1 ixS lnS lnT bld cvI cvF ixA bsS apS rdV rdW grdW eW eV eU eC eF gE condW fin pickN nilN binS vS lp0 lp1 lp2 lp3 lp4 lp5 lp6 lp7 nx0 nx1 nx2 nx3 nx4 nx5 nx6 nx7
theorem d_clone_texts {w : World} {X : XS} {a : Value} {xs : List BA} (ha : Sl w X 1 a (xs.map S1)) (hb : xs.length ≤ 2 ^ 40) :
    Ct Tryz.prog 59 #[a] w X nX fun v wa w' => Own w' (made wa w') wa.heap.size 9 1 v (xs.map S1) := by
    intro w0 hk
    replace ha := ha.mv hk.mvo
    apply ok_slices_Clone_sl_string_string; unfold vc_slices_Clone_sl_string_string
    have hs := Since.init w0
    repeat' first
      | with_reducible apply condW_T
      | with_reducible apply condW_F
      | ((with_reducible apply m_snil); (· (first | assumption | exact Own.sl (by assumption))); (· kernel_rfl); all_goals intros)
      | ((with_reducible apply m_bs0); (case hX => exact hs.has); (case hu => kernel_rfl); (case hz => kernel_rfl); intro acc w X hs1 ho; replace hs := hs.trans hs1)
      | ((first | (with_reducible refine fin_ret0 hs ?_) | (with_reducible refine fin_ret0 (hs0.trans hs) ?_)); intro wa hk; (first | (rename_i h1 h2; (first | (rw [h2]) | skip); exact Own.nil _ _ _ _ _) | exact (ho.kp hk).tight))
      | ((with_reducible apply m_appS); (case own => assumption); (case hs => assumption); (case h0 => exact fun _ h => h); (case he => kernel_rfl); (case src => exact Sl.mv ha (Since.mv hs)); (case h1 => simp [one]); (case hb => simp; omega); (case hl => simp; omega); intro acc w X hs1 ho hc hat; replace hs := hs1; rw [List.nil_append] at ho)
theorem d_clone_writes {w : World} {X : XS} {a : Value} {xs : List KV} (ha : Sl w X 4 a (xs.map KV.l)) (hb : xs.length ≤ 2 ^ 40) :
    Ct Tryz.prog 60 #[a] w X nX fun v wa w' => Own w' (made wa w') wa.heap.size 66 4 v (xs.map KV.l) := by
    intro w0 hk
    replace ha := ha.mv hk.mvo
    apply ok_slices_Clone_sl_api_Write_api_Write; unfold vc_slices_Clone_sl_api_Write_api_Write
    have hs := Since.init w0
    repeat' first
      | with_reducible apply condW_T
      | with_reducible apply condW_F
      | ((with_reducible apply m_snil); (· (first | assumption | exact Own.sl (by assumption))); (· kernel_rfl); all_goals intros)
      | ((with_reducible apply m_bs0); (case hX => exact hs.has); (case hu => kernel_rfl); (case hz => kernel_rfl); intro acc w X hs1 ho; replace hs := hs.trans hs1)
      | ((first | (with_reducible refine fin_ret0 hs ?_) | (with_reducible refine fin_ret0 (hs0.trans hs) ?_)); intro wa hk; (first | (rename_i h1 h2; (first | (rw [h2]) | skip); exact Own.nil _ _ _ _ _) | exact (ho.kp hk).tight))
      | ((with_reducible apply m_appS); (case own => assumption); (case hs => assumption); (case h0 => exact fun _ h => h); (case he => kernel_rfl); (case src => exact Sl.mv ha (Since.mv hs)); (case h1 => simp [one]); (case hb => simp; omega); (case hl => simp; omega); intro acc w X hs1 ho hc hat; replace hs := hs1; rw [List.nil_append] at ho)
theorem d_clone_versions {w : World} {X : XS} {a : Value} {xs : List Ver} (ha : Sl w X 6 a (xs.map Ver.l)) (hb : xs.length ≤ 2 ^ 40) :
    Ct Tryz.prog 145 #[a] w X nX fun v wa w' => Own w' (made wa w') wa.heap.size 144 6 v (xs.map Ver.l) := by
    intro w0 hk
    replace ha := ha.mv hk.mvo
    apply ok_slices_Clone_sl_api_Version_api_Version; unfold vc_slices_Clone_sl_api_Version_api_Version
    have hs := Since.init w0
    repeat' first
      | with_reducible apply condW_T
      | with_reducible apply condW_F
      | ((with_reducible apply m_snil); (· (first | assumption | exact Own.sl (by assumption))); (· kernel_rfl); all_goals intros)
      | ((with_reducible apply m_bs0); (case hX => exact hs.has); (case hu => kernel_rfl); (case hz => kernel_rfl); intro acc w X hs1 ho; replace hs := hs.trans hs1)
      | ((first | (with_reducible refine fin_ret0 hs ?_) | (with_reducible refine fin_ret0 (hs0.trans hs) ?_)); intro wa hk; (first | (rename_i h1 h2; (first | (rw [h2]) | skip); exact Own.nil _ _ _ _ _) | exact (ho.kp hk).tight))
      | ((with_reducible apply m_appS); (case own => assumption); (case hs => assumption); (case h0 => exact fun _ h => h); (case he => kernel_rfl); (case src => exact Sl.mv ha (Since.mv hs)); (case h1 => simp [one]); (case hb => simp; omega); (case hl => simp; omega); intro acc w X hs1 ho hc hat; replace hs := hs1; rw [List.nil_append] at ho)
theorem d_index_texts {w : World} {X : XS} {a : Value} {xs : List BA} {k : BA} (ha : Sl w X 1 a (xs.map S1)) :
    Ct Tryz.prog 169 #[a, .string k] w X nX fun v _ _ => v = I (idxOf (fun x => decide (k = x)) xs) := by
  intro w0 hk
  replace ha := ha.mv hk.mvo
  have hla := ha.len'
  apply ok_slices_Index_sl_string_string; unfold vc_slices_Index_sl_string_string
  have hs := Since.init w0
  repeat' first
    | ((with_reducible apply m_lnS); (· (first | assumption | exact Own.sl (by assumption))); (· kernel_rfl))
  refine lp1_of (fun n a w X => ∃ i : Nat, a = I (i : Nat) ∧ n = (xs).length - i ∧ i ≤ (xs).length ∧ Since (old w0) w0 X w ∧ (∀ (j : Nat) x, j < i → xs[j]? = some x → decide (k = x) = false)) (xs).length ⟨0, rfl, rfl, Nat.zero_le _, hs, by simp⟩ ?_
  rintro n a w X ⟨i, rfl, rfl, hi, hs, hw⟩
  rcases at_or (xs) i with ⟨hlt, x, hx, hd⟩ | ⟨hge, hd⟩
  · repeat' first
      | ((with_reducible refine r_lssT ?_ ?_); (· omega))
      | with_reducible apply condW_T
      | with_reducible apply condW_F
      | (with_reducible apply r_seql <;> intro _)
      | ((with_reducible apply m_ld1); (· (first | assumption | exact RowIs.cells (by assumption))); (· (first | exact Mv.refl _ _ | exact Since.mv (by assumption) | exact Since.mv (Since.trans (by assumption) (by assumption)))); (· kernel_rfl); (· rfl))
      | ((with_reducible apply m_ixS); (· (first | assumption | exact Own.sl (by assumption))); (try (case hz => rfl)); (case hr => first | assumption | exact List.getElem?_eq_getElem (by omega)); (try (case hz => omega)); (case ht => kernel_rfl); (case hs => kernel_rfl); intro _ _ _)
      | ((with_reducible apply r_add); (· omega); (· omega))
      | ((first | (with_reducible refine fin_ret0 hs ?_) | (with_reducible refine fin_ret0 (hs0.trans hs) ?_)); intro wa hk; (rw [idxOf_at hw hx (by simpa)]))
      | ((with_reducible refine nx1_of ((xs).length - (i + 1)) ?_ ?_); (· omega); exact ⟨i + 1, by simp, rfl, by omega, hs, fun j y hj hy => by rcases Nat.lt_succ_iff_lt_or_eq.1 hj with h | h; exact hw j y h hy; subst h; rw [hx] at hy; cases hy; simpa⟩)
  · repeat' first
      | ((with_reducible refine r_lssF ?_ ?_); (· omega))
      | with_reducible apply condW_F
      | ((first | (with_reducible refine fin_ret0 hs ?_) | (with_reducible refine fin_ret0 (hs0.trans hs) ?_)); intro wa hk; (rw [idxOf_none fun j x hj hx => hw j x (by omega) hx]))
theorem d_contains_texts {w : World} {X : XS} {a : Value} {xs : List BA} {k : BA} (ha : Sl w X 1 a (xs.map S1)) :
    Ct Tryz.prog 158 #[a, .string k] w X nX fun v _ _ => v = B (xs.any fun x => decide (k = x)) := by
  intro w0 hk
  replace ha := ha.mv hk.mvo
  apply ok_slices_Contains_sl_string_string; unfold vc_slices_Contains_sl_string_string
  have hs := Since.init w0
  repeat' first
    | (with_reducible apply r_geq <;> intro _)
    | ((first | (with_reducible refine fin_ret0 hs ?_) | (with_reducible refine fin_ret0 (hs0.trans hs) ?_)); intro wa hk; (rw [← idxOf_any]; simp [*]))
    | (refine r_ct0V (d_index_texts  (by first | assumption | exact Sl.mv (by assumption) (by (first | exact Mv.refl _ _ | exact Since.mv (by assumption) | exact Since.mv (Since.trans (by assumption) (by assumption)))) | exact Pends.mv (by assumption) (by (first | exact Mv.refl _ _ | exact Since.mv (by assumption) | exact Since.mv (Since.trans (by assumption) (by assumption)))) | exact Hists.mv (by assumption) (by (first | exact Mv.refl _ _ | exact Since.mv (by assumption) | exact Since.mv (Since.trans (by assumption) (by assumption)))) | exact Rec.at.mv (by assumption) (by (first | exact Mv.refl _ _ | exact Since.mv (by assumption) | exact Since.mv (Since.trans (by assumption) (by assumption)))) | exact Own.sl (by assumption) | exact Cells.mv (by assumption) (by (first | exact Mv.refl _ _ | exact Since.mv (by assumption) | exact Since.mv (Since.trans (by assumption) (by assumption)))) | exact Cells.mv (RowIs.cells (by assumption)) (by (first | exact Mv.refl _ _ | exact Since.mv (by assumption) | exact Since.mv (Since.trans (by assumption) (by assumption)))) | omega)) (by kernel_rfl) hs.has ?_; intro w X hs1; replace hs := hs.trans hs1)
theorem d_indexFunc_writes {w : World} {X : XS} {a : Value} {xs : List KV} {f : FuncId} {cs : List Value} {p : KV → Bool} (ha : Sl w X 4 a (xs.map KV.l)) (hX : ∀ k, X k → k < w.heap.size) (hf : enters Tryz.prog f = true)
    (hp : ∀ x, Ct Tryz.prog f ((.agg x.l.toArray) :: cs).toArray w X nX fun v _ _ => v = B (p x)) :
    Ct Tryz.prog 172 #[a, .func (.func f) #[] cs.toArray] w X nX fun v _ _ => v = I (idxOf p xs) := by
  intro w0 hk
  replace ha := ha.mv hk.mvo
  replace hp := fun x => ((hp x).kp hk).old fun k hx => Nat.lt_of_lt_of_le (hX k hx) hk.size
  have hla := ha.len'
  apply ok_slices_IndexFunc_sl_api_Write_api_Write; unfold vc_slices_IndexFunc_sl_api_Write_api_Write
  have hs := Since.init w0
  repeat' first
    | ((with_reducible apply m_lnS); (· (first | assumption | exact Own.sl (by assumption))); (· kernel_rfl))
  refine lp1_of (fun n a w X => ∃ i : Nat, a = I (i : Nat) ∧ n = (xs).length - i ∧ i ≤ (xs).length ∧ Since (old w0) w0 X w ∧ (∀ (j : Nat) x, j < i → xs[j]? = some x → p x = false)) (xs).length ⟨0, rfl, rfl, Nat.zero_le _, hs, by simp⟩ ?_
  rintro n a w X ⟨i, rfl, rfl, hi, hs, hw⟩
  rcases at_or (xs) i with ⟨hlt, x, hx, hd⟩ | ⟨hge, hd⟩
  · repeat' first
      | ((with_reducible refine r_lssT ?_ ?_); (· omega))
      | with_reducible apply condW_T
      | with_reducible apply condW_F
      | ((with_reducible apply m_ldA); (· (first | assumption | exact RowIs.cells (by assumption))); (· (first | exact Mv.refl _ _ | exact Since.mv (by assumption) | exact Since.mv (Since.trans (by assumption) (by assumption)))); (· kernel_rfl); (· rfl))
      | ((with_reducible apply m_ixS); (· (first | assumption | exact Own.sl (by assumption))); (try (case hz => rfl)); (case hr => first | assumption | exact List.getElem?_eq_getElem (by omega)); (try (case hz => omega)); (case ht => kernel_rfl); (case hs => kernel_rfl); intro _ _ _)
      | ((with_reducible apply r_add); (· omega); (· omega))
      | ((with_reducible apply m_fun); (· rfl))
      | ((first | (with_reducible refine fin_ret0 hs ?_) | (with_reducible refine fin_ret0 (hs0.trans hs) ?_)); intro wa hk; (rw [idxOf_at hw hx ‹_›]))
      | ((with_reducible refine nx1_of ((xs).length - (i + 1)) ?_ ?_); (· omega); exact ⟨i + 1, by simp, rfl, by omega, hs, fun j y hj hy => by rcases Nat.lt_succ_iff_lt_or_eq.1 hj with h | h; exact hw j y h hy; subst h; rw [hx] at hy; cases hy; assumption⟩)
      | (refine r_ct0B ((hp x).since hs) hf hs.has ?_ ?_ <;> (intro _ w X hs1; replace hs := hs.trans hs1))
  · repeat' first
      | ((with_reducible refine r_lssF ?_ ?_); (· omega))
      | with_reducible apply condW_F
      | ((first | (with_reducible refine fin_ret0 hs ?_) | (with_reducible refine fin_ret0 (hs0.trans hs) ?_)); intro wa hk; (rw [idxOf_none fun j x hj hx => hw j x (by omega) hx]))
theorem d_containsFunc_writes {w : World} {X : XS} {a : Value} {xs : List KV} {f : FuncId} {cs : List Value} {p : KV → Bool} (ha : Sl w X 4 a (xs.map KV.l)) (hX : ∀ k, X k → k < w.heap.size) (hf : enters Tryz.prog f = true)
    (hp : ∀ x, Ct Tryz.prog f ((.agg x.l.toArray) :: cs).toArray w X nX fun v _ _ => v = B (p x)) :
    Ct Tryz.prog 167 #[a, .func (.func f) #[] cs.toArray] w X nX fun v _ _ => v = B (xs.any p) := by
  intro w0 hk
  replace ha := ha.mv hk.mvo
  replace hp := fun x => ((hp x).kp hk).old fun k hx => Nat.lt_of_lt_of_le (hX k hx) hk.size
  apply ok_slices_ContainsFunc_sl_api_Write_api_Write; unfold vc_slices_ContainsFunc_sl_api_Write_api_Write
  have hs := Since.init w0
  repeat' first
    | (with_reducible apply r_geq <;> intro _)
    | ((first | (with_reducible refine fin_ret0 hs ?_) | (with_reducible refine fin_ret0 (hs0.trans hs) ?_)); intro wa hk; (rw [← idxOf_any]; simp [*]))
    | (refine r_ct0V (d_indexFunc_writes ha hs.has hf hp) (by kernel_rfl) hs.has ?_; intro w X hs1; replace hs := hs.trans hs1)
end Go.Proofs.YtnphlhpdikmpiaaGreat
namespace Go.Proofs.YtnphlhpdikmpiaaGreat
open Go.Eng
set_option maxRecDepth 100000
set_option maxHeartbeats 1000000
set_option linter.unusedVariables false
set_option linter.unusedSimpArgs false
attribute [local irreducible] un jn chk fld ld1 ldA st1 ixS lnS lnT bld cvI cvF ixA bsS apS rdV rdW grdW eW eV eU eC eF gE condW fin pickN nilN binS vS lp0 lp1 lp2 lp3 lp4 lp5 lp6 lp7 nx0 nx1 nx2 nx3 nx4 nx5 nx6 nx7
def tle (a b : BA) : Bool := tlt a b || decide (a = b)
def versFrom : Stamp → List Ver → Bool
  | _, [] => true
  | s, v :: r => v.stamp.may && decide (v.stamp.cmp s > 0) && v.val.may && versFrom v.stamp r
def Hist.ok (h : Hist) (ahead : BA) : Bool := goodKey h.key && !tle h.key ahead && decide (h.vers ≠ []) && versFrom .zero h.vers
theorem d_mvcc_history {w : World} {X : XS} {h : Hist} {vv : Value} {ahead : BA} (ha : Sl w X 6 vv (h.vers.map Ver.l)) :
    Ct Tryz.prog 144 #[.agg (h.l vv).toArray, .string ahead] w X nX fun v _ _ => v = B (h.ok ahead) := by
  intro w0 hk
  replace ha := ha.mv hk.mvo
  have hla := ha.len'
  apply ok_mvcc_history; unfold vc_mvcc_history
  have hs := Since.init w0
  repeat' first
    | with_reducible apply condW_T
    | with_reducible apply condW_F
    | with_reducible apply un_box
    | with_reducible apply un_selF
    | with_reducible apply un_selTF
    | with_reducible apply grdV_onF
    | with_reducible apply grdW_offF
    | with_reducible apply rdW_pickT
    | with_reducible apply rdW_pickF
    | with_reducible apply r_notT
    | with_reducible apply r_notF
    | (with_reducible apply r_eql <;> intro _)
    | (with_reducible apply r_sleq <;> intros)
    | ((with_reducible apply m_lnS); (· (first | assumption | exact Own.sl (by assumption))); (· kernel_rfl))
    | ((with_reducible apply r_bld); (· kernel_rfl))
    | ((with_reducible apply m_chkc); (case h => (repeat' first | with_reducible apply all_one_cons | with_reducible exact all_one_nil | assumption | rfl | exact Sl.one (by assumption) | exact Rws.one (by assumption) | exact Sl.one (Own.sl (by assumption)))))
    | ((with_reducible apply chk_T); (· first | rfl | assumption | exact Sl.one (by assumption) | exact Rws.one (by assumption)))
    | ((with_reducible refine r_pureB (c_datum_Key _) ?_ hs.has ?_ ?_); (· kernel_rfl); all_goals (intro _ w X hs1; replace hs := hs.trans hs1))
    | ((first | (with_reducible refine fin_ret0 hs ?_) | (with_reducible refine fin_ret0 (hs0.trans hs) ?_)); intro wa hk; (simp_all [Hist.ok, tle] <;> grind))
  refine lp2_of (fun n a b w X => ∃ (i : Nat) (s : Stamp), a = I i ∧ b = s.v ∧ n = h.vers.length - i ∧ i ≤ h.vers.length ∧ Since (old w0) w0 X w ∧ versFrom .zero h.vers = versFrom s (h.vers.drop i)) h.vers.length
    ⟨0, .zero, rfl, rfl, rfl, Nat.zero_le _, hs, by simp⟩ ?_
  rintro n a b w X ⟨i, s, rfl, rfl, rfl, hi, hs, hw⟩
  have hne : h.vers ≠ [] := by intro e; simp_all
  rcases at_or (h.vers) i with ⟨hlt, x, hx, hd⟩ | ⟨hge, hd⟩
  · rw [hd, versFrom] at hw
    clear hd
    repeat' first
      | ((with_reducible refine r_lssT ?_ ?_); (· omega))
      | with_reducible apply condW_T
      | with_reducible apply condW_F
      | ((with_reducible apply m_sub); (· (simp only [Value.cells, List.toList_toArray, List.take_succ_cons, List.drop_succ_cons, List.take_zero, List.drop_zero, List.take_nil, setL, List.length_cons, List.length_nil, List.cons_append, List.nil_append, Nat.reduceAdd, Nat.zero_add]; try rfl)))
      | with_reducible apply un_box
      | with_reducible apply un_selF
      | with_reducible apply un_selTF
      | with_reducible apply grdV_onF
      | with_reducible apply grdW_offF
      | with_reducible apply rdW_pickT
      | with_reducible apply rdW_pickF
      | with_reducible apply gE_F
      | with_reducible apply gE_TF
      | with_reducible apply r_notT
      | with_reducible apply r_notF
      | (with_reducible apply r_leq <;> intro _)
      | ((with_reducible apply m_ldA); (· (first | assumption | exact RowIs.cells (by assumption))); (· (first | exact Mv.refl _ _ | exact Since.mv (by assumption) | exact Since.mv (Since.trans (by assumption) (by assumption)))); (· kernel_rfl); (· rfl))
      | ((with_reducible apply m_ixS); (· (first | assumption | exact Own.sl (by assumption))); (try (case hz => rfl)); (case hr => first | assumption | exact List.getElem?_eq_getElem (by omega)); (try (case hz => omega)); (case ht => kernel_rfl); (case hs => kernel_rfl); intro _ _ _)
      | ((with_reducible apply m_chkc); (case h => (repeat' first | with_reducible apply all_one_cons | with_reducible exact all_one_nil | assumption | rfl | exact Sl.one (by assumption) | exact Rws.one (by assumption) | exact Sl.one (Own.sl (by assumption)))))
      | ((with_reducible apply chk_T); (· first | rfl | assumption | exact Sl.one (by assumption) | exact Rws.one (by assumption)))
      | ((with_reducible apply r_add); (· omega); (· omega))
      | with_reducible apply jn_of
      | ((with_reducible refine r_pure (c_hlc_Compare _ _) ?_ hs.has ?_); (· kernel_rfl); intro w X hs1; replace hs := hs.trans hs1)
      | ((with_reducible refine r_pureB (c_hlc_May _) ?_ hs.has ?_ ?_); (· kernel_rfl); all_goals (intro _ w X hs1; replace hs := hs.trans hs1))
      | ((with_reducible refine r_pureB (c_datum_May _) ?_ hs.has ?_ ?_); (· kernel_rfl); all_goals (intro _ w X hs1; replace hs := hs.trans hs1))
      | ((first | (with_reducible refine fin_ret0 hs ?_) | (with_reducible refine fin_ret0 (hs0.trans hs) ?_)); intro wa hk; (simp_all [Hist.ok, tle] <;> grind))
      | ((with_reducible refine nx2_of ((h.vers).length - (i + 1)) ?_ ?_); (· omega); exact ⟨i + 1, x.stamp, by simp, rfl, rfl, by omega, hs, by simp_all⟩)
  · repeat' first
      | ((with_reducible refine r_lssF ?_ ?_); (· omega))
      | with_reducible apply condW_F
      | ((first | (with_reducible refine fin_ret0 hs ?_) | (with_reducible refine fin_ret0 (hs0.trans hs) ?_)); intro wa hk; (simp_all [Hist.ok, tle, versFrom] <;> grind))
def Pend.has (p : Pend) (k : BA) : Bool := p.writes.any fun w => decide (w.key = k)
theorem d_mvcc_writes_c1 {w : World} {X : XS} {x : KV} {k : BA} {b : Nat} (h : Cells w X b 0 [.string k]) :
    Ct Tryz.prog 168 #[.agg x.l.toArray, ptr b 0] w X nX fun v _ _ => v = B (decide (x.key = k)) := by
  intro w0 hk
  replace h := h.mv hk.mvo
  apply ok_mvcc_writes_c1; unfold vc_mvcc_writes_c1
  have hs := Since.init w0
  repeat' first
    | (with_reducible apply r_seql <;> intro _)
    | ((with_reducible apply m_ld1); (· (first | assumption | exact RowIs.cells (by assumption))); (· (first | exact Mv.refl _ _ | exact Since.mv (by assumption) | exact Since.mv (Since.trans (by assumption) (by assumption)))); (· kernel_rfl); (· rfl))
    | ((first | (with_reducible refine fin_ret0 hs ?_) | (with_reducible refine fin_ret0 (hs0.trans hs) ?_)); intro wa hk; simp_all)
theorem d_mvcc_writes {w : World} {X : XS} {p : Pend} {vr vw : Value} {k : BA} (hX : ∀ k, X k → k < w.heap.size) (h2 : Sl w X 4 vw (p.writes.map KV.l)) :
    Ct Tryz.prog 157 #[p.v vr vw, .string k] w X nX fun v _ _ => v = B (p.has k) := by
  intro w0 hk
  replace h2 := h2.mv hk.mvo
  apply ok_mvcc_writes; unfold vc_mvcc_writes
  have hs := Since.init w0
  repeat' first
    | ((with_reducible apply m_boxS); (case ho => rfl); (case hX => exact hs.has); intro bx w X hbx hs1 hrow; have hs0 := hs.trans hs1; replace hs := Since.refl' hs1.has)
    | (with_reducible apply m_mkFun)
    | ((first | (with_reducible refine fin_ret0 hs ?_) | (with_reducible refine fin_ret0 (hs0.trans hs) ?_)); intro wa hk; (simp [Pend.has]))
    | (refine r_ct0V (d_containsFunc_writes (p := fun x => decide (x.key = k)) (h2.mv (Since.mv (hs0.trans hs))) hs.has (by kernel_rfl) fun x => d_mvcc_writes_c1 (x := x) (by first | exact hrow.cells)) (by kernel_rfl) hs.has ?_; intro w X hs1; replace hs := hs.trans hs1)
end Go.Proofs.YtnphlhpdikmpiaaGreat
namespace Go.Proofs.YtnphlhpdikmpiaaGreat
open Go.Eng
set_option maxRecDepth 100000
set_option maxHeartbeats 1000000
set_option linter.unusedVariables false
set_option linter.unusedSimpArgs false
attribute [local irreducible] un jn chk fld ld1 ldA st1 ixS lnS lnT bld cvI cvF ixA bsS apS rdV rdW grdW eW eV eU eC eF gE condW fin pickN nilN binS vS lp0 lp1 lp2 lp3 lp4 lp5 lp6 lp7 nx0 nx1 nx2 nx3 nx4 nx5 nx6 nx7
theorem key_txn : KeyOf Tryz.prog 39 (fun k : Txn => k.v) :=
  key_ints (n := 3) (by kernel_rfl) (fun k : Txn => [k.coord, k.life, k.sq]) (fun _ => rfl) (fun a b h => by
    simp only [List.cons.injEq, and_true] at h
    exact Txn.ext h.1 h.2.1 h.2.2)
theorem key_text : KeyOf Tryz.prog 9 (fun s : BA => Value.string s) := key_string (by kernel_rfl)
def rdVers (w : World) (A : XS) (v : Value) (l : List Ver) : Prop := Sl w A 6 v (l.map Ver.l)
def rdPend (w : World) (A : XS) (v : Value) (p : Pend) : Prop := ∃ vr vw, v = p.v vr vw ∧ Sl w A 1 vr (p.reads.map S1) ∧ Sl w A 4 vw (p.writes.map KV.l)
theorem rdVers.mv : MovesV rdVers := fun _ _ _ _ _ _ h m => Sl.mv h m
theorem rdPend.mv : MovesV rdPend := fun _ _ _ _ _ _ ⟨vr, vw, h, h1, h2⟩ m => ⟨vr, vw, h, h1.mv m, h2.mv m⟩
structure StoreIs (w : World) (X A : XS) (sb kb pb : Nat) (hm : List (BA × List Ver)) (pm : List (Txn × Pend)) (low : Stamp) : Prop where
  box : RowIs w X sb [.map (some kb), .map (some pb), I low.wall, I low.logic, I low.node] 204
  keys : MapR w X A kb (fun s : BA => Value.string s) rdVers hm
  pend : MapR w X A pb (fun k : Txn => k.v) rdPend pm
  sub : ∀ k, A k → X k
  off : ∀ k, A k → k ≠ sb ∧ k ≠ kb ∧ k ≠ pb
theorem StoreIs.mv {w w' : World} {X Y A : XS} {sb kb pb : Nat} {hm : List (BA × List Ver)} {pm : List (Txn × Pend)} {low : Stamp} (h : StoreIs w X A sb kb pb hm pm low)
    (hX : ∀ k, X k → k < w.heap.size) (m : Mv X w Y w') : StoreIs w' Y A sb kb pb hm pm low := by
  have ma : Mv A w A w' := fun k hk hl => ⟨hk, (m k (h.sub k hk) hl).2⟩
  exact ⟨h.box.mv m, h.keys.mv rdVers.mv m ma, h.pend.mv rdPend.mv m ma, fun k hk => (m k (h.sub k hk) (hX k (h.sub k hk))).1, h.off⟩
theorem r_versOf {w : World} {X A : XS} {kb : Nat} {hm : List (BA × List Ver)} {k : BA} {N : Value → Prop} {w0 : World} {X0 : XS} (h : MapR w0 X0 A kb (fun s : BA => Value.string s) rdVers hm) (hA : ∀ k, A k → X0 k) (m : Mv X0 w0 X w)
    (n : ∀ v, Sl w0 X0 6 v (((getM k hm).getD []).map Ver.l) → N v) : rdV Tryz.prog X w (Instr.lookup 201 (.map (some kb)) (.string k) false) N := by
  have h' : MapR w X A kb (fun s : BA => Value.string s) rdVers hm := h.mv rdVers.mv m fun k hk hl => ⟨hk, (m k (hA k hk) hl).2⟩
  obtain ⟨es, c, h1, h2⟩ := h
  have m' : Mv A w0 A w := fun k hk hl => ⟨hk, (m k (hA k hk) hl).2⟩
  refine m_mapGet1 (et := 140) (A := X) (rd := fun w X v l => Sl w0 A 6 v (l.map Ver.l)) (l := hm) (.slice none 0 0) ?_ key_text (by kernel_rfl) (by kernel_rfl) (fun v a hg hr => ?_) fun hg => ?_
  · exact ⟨es, c, h1.mv m, by
      clear h1 h' n
      induction es generalizing hm with
      | nil => cases hm <;> first | trivial | exact h2.elim
      | cons e es ih => cases hm with
        | nil => exact h2.elim
        | cons x l => exact ⟨h2.1, h2.2.1, ih h2.2.2⟩⟩
  · exact n v (by rw [hg]; exact Sl.mv hr (Mv.sub hA))
  · exact n _ (by rw [hg]; exact Sl.nil _ _ _)
def Pend.clash (x q : Pend) : Bool := x.writes.any (fun w => q.has w.key || q.reads.any fun k => decide (w.key = k)) || x.reads.any fun k => q.has k
def newestOf (l : List Ver) (at' : Stamp) (all : Bool) : Val × Stamp := l.foldl (fun s v => if all || decide (v.stamp.cmp at' ≤ 0) then (v.val, v.stamp) else s) (.zero, .zero)
def versOf (hm : List (BA × List Ver)) (k : BA) : List Ver := (getM k hm).getD []
abbrev seenV (k : BA) (s : Val × Stamp) : Value := .agg #[.string k, I s.1.kind, .float .f64 s.1.num, .string s.1.text, I s.2.wall, I s.2.logic, I s.2.node]
theorem d_mvcc_newest {w : World} {X A : XS} {sb kb pb : Nat} {hm : List (BA × List Ver)} {pm : List (Txn × Pend)} {low at' : Stamp} {k : BA} {all : Bool}
    (h : StoreIs w X A sb kb pb hm pm low) (hX : ∀ k, X k → k < w.heap.size) :
    Ct Tryz.prog 170 #[ptr sb 0, .string k, at'.v, B all] w X nX fun v _ _ => v = seenV k (newestOf (versOf hm k) at' all) := by
  intro w0 hk
  replace h := h.mv hX hk.mvo
  have hbx := h.box
  have hkm := h.keys
  apply ok_mvcc_Store_newest; unfold vc_mvcc_Store_newest
  have hs := Since.init w0
  repeat' first
    | with_reducible apply un_box
    | with_reducible apply r_nil
    | ((with_reducible apply m_fld1); (· (first | assumption | exact RowIs.cells (by assumption))); (· kernel_rfl); (· rfl); intro _ _ _)
    | ((with_reducible apply m_ld1); (· (first | assumption | exact RowIs.cells (by assumption))); (· (first | exact Mv.refl _ _ | exact Since.mv (by assumption) | exact Since.mv (Since.trans (by assumption) (by assumption)))); (· kernel_rfl); (· rfl))
    | ((with_reducible apply r_bld); (· kernel_rfl))
    | ((with_reducible apply m_chkc); (case h => (repeat' first | with_reducible apply all_one_cons | with_reducible exact all_one_nil | assumption | rfl | exact Sl.one (by assumption) | exact Rws.one (by assumption) | exact Sl.one (Own.sl (by assumption)))))
    | ((with_reducible apply chk_T); (· first | rfl | assumption | exact Sl.one (by assumption) | exact Rws.one (by assumption)))
  refine r_versOf hkm h.sub (Mv.refl _ _) fun vv hvv => ?_
  show rdV _ _ _ _ _
  have hvs : versOf hm k = (getM k hm).getD [] := rfl
  rw [← hvs] at hvv
  generalize versOf hm k = vs at hvv
  have hla := hvv.len'
  repeat' first
    | ((with_reducible apply m_lnS); (· (first | assumption | exact Own.sl (by assumption))); (· kernel_rfl))
  refine lp2_of (fun n a b w X => ∃ (i : Nat) (s : Val × Stamp), a = I i ∧ b = seenV k s ∧ n = vs.length - i ∧ i ≤ vs.length ∧ Since (old w0) w0 X w ∧
    newestOf vs at' all = (vs.drop i).foldl (fun s v => if all || decide (v.stamp.cmp at' ≤ 0) then (v.val, v.stamp) else s) s) vs.length ⟨0, (.zero, .zero), rfl, rfl, rfl, Nat.zero_le _, hs, by rw [List.drop_zero]; rfl⟩ ?_
  rintro n a b w X ⟨i, s, rfl, rfl, rfl, hi, hs, hw⟩
  rcases at_or (vs) i with ⟨hlt, x, hx, hd⟩ | ⟨hge, hd⟩
  · rw [hd, List.foldl_cons] at hw
    cases all
    · repeat' first
        | ((with_reducible refine r_lssT ?_ ?_); (· omega))
        | with_reducible apply condW_T
        | with_reducible apply condW_F
        | ((with_reducible apply m_sub); (· (simp only [Value.cells, List.toList_toArray, List.take_succ_cons, List.drop_succ_cons, List.take_zero, List.drop_zero, List.take_nil, setL, List.length_cons, List.length_nil, List.cons_append, List.nil_append, Nat.reduceAdd, Nat.zero_add]; try rfl)))
        | ((with_reducible apply m_set); (· (simp only [Value.cells, List.toList_toArray, List.take_succ_cons, List.drop_succ_cons, List.take_zero, List.drop_zero, List.take_nil, setL, List.length_cons, List.length_nil, List.cons_append, List.nil_append, Nat.reduceAdd, Nat.zero_add]; try rfl)))
        | with_reducible apply un_box
        | with_reducible apply un_selF
        | with_reducible apply grdV_onF
        | with_reducible apply rdW_pickF
        | with_reducible apply gE_F
        | (with_reducible apply r_leq <;> intro _)
        | ((with_reducible apply m_ldA); (· (first | assumption | exact RowIs.cells (by assumption))); (· (first | exact Mv.refl _ _ | exact Since.mv (by assumption) | exact Since.mv (Since.trans (by assumption) (by assumption)))); (· kernel_rfl); (· rfl))
        | ((with_reducible apply m_ixS); (· (first | assumption | exact Own.sl (by assumption))); (try (case hz => rfl)); (case hr => first | assumption | exact List.getElem?_eq_getElem (by omega)); (try (case hz => omega)); (case ht => kernel_rfl); (case hs => kernel_rfl); intro _ _ _)
        | ((with_reducible apply m_chkc); (case h => (repeat' first | with_reducible apply all_one_cons | with_reducible exact all_one_nil | assumption | rfl | exact Sl.one (by assumption) | exact Rws.one (by assumption) | exact Sl.one (Own.sl (by assumption)))))
        | ((with_reducible apply chk_T); (· first | rfl | assumption | exact Sl.one (by assumption) | exact Rws.one (by assumption)))
        | ((with_reducible apply r_add); (· omega); (· omega))
        | with_reducible apply jn_of
        | ((with_reducible refine r_pure (c_hlc_Compare _ _) ?_ hs.has ?_); (· kernel_rfl); intro w X hs1; replace hs := hs.trans hs1)
        | ((with_reducible refine nx2_of ((vs).length - (i + 1)) ?_ ?_); (· omega); exact ⟨i + 1, (x.val, x.stamp), by simp, rfl, rfl, by omega, hs, by rw [hw]; simp [*]⟩)
        | ((with_reducible refine nx2_of ((vs).length - (i + 1)) ?_ ?_); (· omega); exact ⟨i + 1, s, by simp, rfl, rfl, by omega, hs, by rw [hw]; simp [*]⟩)
    · repeat' first
        | ((with_reducible refine r_lssT ?_ ?_); (· omega))
        | with_reducible apply condW_T
        | ((with_reducible apply m_sub); (· (simp only [Value.cells, List.toList_toArray, List.take_succ_cons, List.drop_succ_cons, List.take_zero, List.drop_zero, List.take_nil, setL, List.length_cons, List.length_nil, List.cons_append, List.nil_append, Nat.reduceAdd, Nat.zero_add]; try rfl)))
        | ((with_reducible apply m_set); (· (simp only [Value.cells, List.toList_toArray, List.take_succ_cons, List.drop_succ_cons, List.take_zero, List.drop_zero, List.take_nil, setL, List.length_cons, List.length_nil, List.cons_append, List.nil_append, Nat.reduceAdd, Nat.zero_add]; try rfl)))
        | with_reducible apply un_box
        | with_reducible apply un_selTF
        | with_reducible apply grdW_offF
        | with_reducible apply rdW_pickT
        | with_reducible apply gE_TF
        | ((with_reducible apply m_ldA); (· (first | assumption | exact RowIs.cells (by assumption))); (· (first | exact Mv.refl _ _ | exact Since.mv (by assumption) | exact Since.mv (Since.trans (by assumption) (by assumption)))); (· kernel_rfl); (· rfl))
        | ((with_reducible apply m_ixS); (· (first | assumption | exact Own.sl (by assumption))); (try (case hz => rfl)); (case hr => first | assumption | exact List.getElem?_eq_getElem (by omega)); (try (case hz => omega)); (case ht => kernel_rfl); (case hs => kernel_rfl); intro _ _ _)
        | ((with_reducible apply m_chkc); (case h => (repeat' first | with_reducible apply all_one_cons | with_reducible exact all_one_nil | assumption | rfl | exact Sl.one (by assumption) | exact Rws.one (by assumption) | exact Sl.one (Own.sl (by assumption)))))
        | ((with_reducible apply chk_T); (· first | rfl | assumption | exact Sl.one (by assumption) | exact Rws.one (by assumption)))
        | ((with_reducible apply r_add); (· omega); (· omega))
        | with_reducible apply jn_of
        | ((with_reducible refine nx2_of ((vs).length - (i + 1)) ?_ ?_); (· omega); exact ⟨i + 1, (x.val, x.stamp), by simp, rfl, rfl, by omega, hs, by rw [hw]; simp [*]⟩)
  · repeat' first
      | ((with_reducible refine r_lssF ?_ ?_); (· omega))
      | with_reducible apply condW_F
      | ((with_reducible apply m_sub); (· (simp only [Value.cells, List.toList_toArray, List.take_succ_cons, List.drop_succ_cons, List.take_zero, List.drop_zero, List.take_nil, setL, List.length_cons, List.length_nil, List.cons_append, List.nil_append, Nat.reduceAdd, Nat.zero_add]; try rfl)))
      | with_reducible apply un_box
      | ((with_reducible apply m_chkc); (case h => (repeat' first | with_reducible apply all_one_cons | with_reducible exact all_one_nil | assumption | rfl | exact Sl.one (by assumption) | exact Rws.one (by assumption) | exact Sl.one (Own.sl (by assumption)))))
      | ((with_reducible apply chk_T); (· first | rfl | assumption | exact Sl.one (by assumption) | exact Rws.one (by assumption)))
      | ((first | (with_reducible refine fin_ret0 hs ?_) | (with_reducible refine fin_ret0 (hs0.trans hs) ?_)); intro wa hk; (rw [hw, hd]; rfl))
theorem d_mvcc_Newest {w : World} {X A : XS} {sb kb pb : Nat} {hm : List (BA × List Ver)} {pm : List (Txn × Pend)} {low : Stamp} {k : BA}
    (h : StoreIs w X A sb kb pb hm pm low) (hX : ∀ k, X k → k < w.heap.size) :
    Ct Tryz.prog 159 #[ptr sb 0, .string k] w X nX fun v _ _ => v = seenV k (newestOf (versOf hm k) .zero true) := by
  intro w0 hk
  replace h := h.mv hX hk.mvo
  apply ok_mvcc_Store_Newest; unfold vc_mvcc_Store_Newest
  have hs := Since.init w0
  repeat' first
    | ((with_reducible apply m_sub); (· (simp only [Value.cells, List.toList_toArray, List.take_succ_cons, List.drop_succ_cons, List.take_zero, List.drop_zero, List.take_nil, setL, List.length_cons, List.length_nil, List.cons_append, List.nil_append, Nat.reduceAdd, Nat.zero_add]; try rfl)))
    | with_reducible apply un_box
    | ((with_reducible apply r_bld); (· kernel_rfl))
    | ((with_reducible apply m_chkc); (case h => (repeat' first | with_reducible apply all_one_cons | with_reducible exact all_one_nil | assumption | rfl | exact Sl.one (by assumption) | exact Rws.one (by assumption) | exact Sl.one (Own.sl (by assumption)))))
    | ((with_reducible apply chk_T); (· first | rfl | assumption | exact Sl.one (by assumption) | exact Rws.one (by assumption)))
    | ((first | (with_reducible refine fin_ret0 hs ?_) | (with_reducible refine fin_ret0 (hs0.trans hs) ?_)); intro wa hk; rfl)
    | (refine r_ct0V (d_mvcc_newest (at' := .zero) h hs.has) (by kernel_rfl) hs.has ?_; intro w X hs1; replace hs := hs.trans hs1)
def oldFor (hm : List (BA × List Ver)) (x : Pend) : Bool := x.writes.any fun w => decide ((newestOf (versOf hm w.key) .zero true).2.cmp x.stamp ≥ 0)
theorem d_mvcc_old {w : World} {X A : XS} {sb kb pb : Nat} {hm : List (BA × List Ver)} {pm : List (Txn × Pend)} {low : Stamp} {x : Pend} {vr vw : Value}
    (h : StoreIs w X A sb kb pb hm pm low) (hX : ∀ k, X k → k < w.heap.size) (h2 : Sl w X 4 vw (x.writes.map KV.l)) :
    Ct Tryz.prog 147 #[ptr sb 0, x.v vr vw] w X nX fun v _ _ => v = B (oldFor hm x) := by
  intro w0 hk
  replace h := h.mv hX hk.mvo
  replace h2 := h2.mv hk.mvo
  have hla := h2.len'
  apply ok_mvcc_Store_old; unfold vc_mvcc_Store_old
  have hs := Since.init w0
  repeat' first
    | ((with_reducible apply m_lnS); (· (first | assumption | exact Own.sl (by assumption))); (· kernel_rfl))
  refine lp1_of (fun n a w X => ∃ i : Nat, a = I (i : Nat) ∧ n = (x.writes).length - i ∧ i ≤ (x.writes).length ∧ Since (old w0) w0 X w ∧ oldFor hm x = (x.writes.drop i).any (fun w => decide ((newestOf (versOf hm w.key) .zero true).2.cmp x.stamp ≥ 0))) (x.writes).length ⟨0, rfl, rfl, Nat.zero_le _, hs, by simp [oldFor]⟩ ?_
  rintro n a w X ⟨i, rfl, rfl, hi, hs, hw⟩
  rcases at_or (x.writes) i with ⟨hlt, y, hy, hd⟩ | ⟨hge, hd⟩
  · rw [hd, List.any_cons] at hw
    repeat' first
      | ((with_reducible refine r_lssT ?_ ?_); (· omega))
      | with_reducible apply condW_T
      | with_reducible apply condW_F
      | ((with_reducible apply un_cell); (· rfl))
      | with_reducible apply un_box
      | (with_reducible apply r_geq <;> intro _)
      | ((with_reducible apply m_ldA); (· (first | assumption | exact RowIs.cells (by assumption))); (· (first | exact Mv.refl _ _ | exact Since.mv (by assumption) | exact Since.mv (Since.trans (by assumption) (by assumption)))); (· kernel_rfl); (· rfl))
      | ((with_reducible apply m_ixS); (· (first | assumption | exact Own.sl (by assumption))); (try (case hz => rfl)); (case hr => first | assumption | exact List.getElem?_eq_getElem (by omega)); (try (case hz => omega)); (case ht => kernel_rfl); (case hs => kernel_rfl); intro _ _ _)
      | ((with_reducible apply m_chkc); (case h => (repeat' first | with_reducible apply all_one_cons | with_reducible exact all_one_nil | assumption | rfl | exact Sl.one (by assumption) | exact Rws.one (by assumption) | exact Sl.one (Own.sl (by assumption)))))
      | ((with_reducible apply chk_T); (· first | rfl | assumption | exact Sl.one (by assumption) | exact Rws.one (by assumption)))
      | ((with_reducible apply r_add); (· omega); (· omega))
      | ((with_reducible apply r_fdVn); (case hf => kernel_rfl); (case hg => kernel_rfl); (case hlen => rfl); (case hl => (simp only [Value.cells, List.toList_toArray, List.take_succ_cons, List.drop_succ_cons, List.take_zero, List.drop_zero, List.take_nil, setL, List.length_cons, List.length_nil, List.cons_append, List.nil_append, Nat.reduceAdd, Nat.zero_add]; try rfl)))
      | ((with_reducible refine r_pure (c_hlc_Compare _ _) ?_ hs.has ?_); (· kernel_rfl); intro w X hs1; replace hs := hs.trans hs1)
      | ((first | (with_reducible refine fin_ret0 hs ?_) | (with_reducible refine fin_ret0 (hs0.trans hs) ?_)); intro wa hk; simp_all)
      | ((with_reducible refine nx1_of ((x.writes).length - (i + 1)) ?_ ?_); (· omega); exact ⟨i + 1, by simp, rfl, by omega, hs, by rw [hw]; simp [*]⟩)
      | (refine r_ct0V (d_mvcc_Newest (h.mv (fun _ h => h) (Since.mv hs)) hs.has) (by kernel_rfl) hs.has ?_; intro w X hs1; replace hs := hs.trans hs1)
  · repeat' first
      | ((with_reducible refine r_lssF ?_ ?_); (· omega))
      | with_reducible apply condW_F
      | ((first | (with_reducible refine fin_ret0 hs ?_) | (with_reducible refine fin_ret0 (hs0.trans hs) ?_)); intro wa hk; simp_all)
end Go.Proofs.YtnphlhpdikmpiaaGreat
namespace Go.Proofs.YtnphlhpdikmpiaaGreat
open Go.Eng
set_option maxRecDepth 100000
set_option maxHeartbeats 1000000
set_option linter.unusedVariables false
set_option linter.unusedSimpArgs false
attribute [local irreducible] un jn chk fld ld1 ldA st1 ixS lnS lnT bld cvI cvF ixA bsS apS rdV rdW grdW eW eV eU eC eF gE condW fin pickN nilN binS vS lp0 lp1 lp2 lp3 lp4 lp5 lp6 lp7 nx0 nx1 nx2 nx3 nx4 nx5 nx6 nx7
theorem d_mvcc_locked {w : World} {X A : XS} {sb kb pb : Nat} {hm : List (BA × List Ver)} {pm : List (Txn × Pend)} {low : Stamp} {x : Pend} {vr vw : Value}
    (h : StoreIs w X A sb kb pb hm pm low) (hX : ∀ k, X k → k < w.heap.size) (h1 : Sl w X 1 vr (x.reads.map S1)) (h2 : Sl w X 4 vw (x.writes.map KV.l)) :
    Ct Tryz.prog 146 #[ptr sb 0, x.v vr vw] w X nX fun v _ _ => v = B (pm.any fun q => x.clash q.2) := by
  intro w0 hk
  replace h := h.mv hX hk.mvo
  replace h1 := h1.mv hk.mvo
  replace h2 := h2.mv hk.mvo
  have hbx := h.box
  have hl1 := h1.len'
  have hl2 := h2.len'
  apply ok_mvcc_Store_locked; unfold vc_mvcc_Store_locked
  have hs := Since.init w0
  repeat' first
    | with_reducible apply r_nil
    | ((with_reducible apply m_fld1); (· (first | assumption | exact RowIs.cells (by assumption))); (· kernel_rfl); (· rfl); intro _ _ _)
    | ((with_reducible apply m_ld1); (· (first | assumption | exact RowIs.cells (by assumption))); (· (first | exact Mv.refl _ _ | exact Since.mv (by assumption) | exact Since.mv (Since.trans (by assumption) (by assumption)))); (· kernel_rfl); (· rfl))
  refine m_range (kt := 39) (et := 87) h.pend rdPend.mv h.sub (by kernel_rfl) hs.has fun r w X hr hs1 hit => ?_
  replace hs := hs.trans hs1
  refine lp2_of (fun n _ _ w X => ∃ left, n = left.length ∧ Since (old w0) w0 X w ∧ ItR w X A r pb (fun k : Txn => k.v) rdPend pm left ∧ (pm.any fun q => x.clash q.2) = left.any fun q => x.clash q.2)
    pm.length ⟨pm, rfl, hs, hit, rfl⟩ ?_
  rintro n a b w X ⟨left, rfl, hs, hit, hw⟩
  refine m_next hit rdPend.mv (fun k hk => ⟨hs.sub k (h.sub k hk), fun e => by have : k < w0.heap.size := h.sub k hk; omega⟩) hs.has (fun e0 w X hs1 => ?_) fun kx q v hmem w1 X1 hc hrd hit1 he => ?_
  · replace hs := hs.trans hs1
    repeat' first
      | with_reducible apply condW_F
      | ((with_reducible apply m_ext); (· rfl))
      | ((first | (with_reducible refine fin_ret0 hs ?_) | (with_reducible refine fin_ret0 (hs0.trans hs) ?_)); intro wa hk; (rw [hw, e0]; rfl))
  · have hs0 := hs.chg hc fun k hk e => by have : k < w0.heap.size := hk; omega
    obtain ⟨ur, uw, rfl, q1, q2⟩ := hrd
    have hA1 : ∀ k, A k → X1 k := fun k hk => hs0.sub k (h.sub k hk)
    replace q1 := q1.mv (Mv.sub hA1)
    replace q2 := q2.mv (Mv.sub hA1)
    have o1 := q1.one
    have o2 := q2.one
    rw [any_split _ hit.nodup hmem] at hw
    replace hs := Since.refl' hs0.has
    repeat' first
      | with_reducible apply condW_T
      | ((with_reducible apply m_ext); (· rfl))
    refine m_entry hs.has he fun w X hs1 => ?_
    replace hs := hs.trans hs1
    repeat' first
      | with_reducible apply un_box
      | ((with_reducible apply m_lnS); (· (first | assumption | exact Own.sl (by assumption))); (· kernel_rfl))
      | ((with_reducible apply m_ext); (· rfl))
      | ((with_reducible apply m_chkc); (case h => (repeat' first | with_reducible apply all_one_cons | with_reducible exact all_one_nil | assumption | rfl | exact Sl.one (by assumption) | exact Rws.one (by assumption) | exact Sl.one (Own.sl (by assumption)))))
      | ((with_reducible apply chk_T); (· first | rfl | assumption | exact Sl.one (by assumption) | exact Rws.one (by assumption)))
    refine lp1_of (fun n a w X => ∃ i : Nat, a = I (i : Nat) ∧ n = x.writes.length - i ∧ i ≤ x.writes.length ∧ Since X1 w1 X w ∧
      (x.writes.any (fun w => q.has w.key || q.reads.any fun k => decide (w.key = k)) = (x.writes.drop i).any (fun w => q.has w.key || q.reads.any fun k => decide (w.key = k)))) x.writes.length
      ⟨0, rfl, rfl, Nat.zero_le _, hs, by simp⟩ ?_
    rintro n a w X ⟨i, rfl, rfl, hi, hs, hw2⟩
    rcases at_or (x.writes) i with ⟨hlt, y, hy, hd⟩ | ⟨hge, hd⟩
    · rw [hd, List.any_cons] at hw2
      repeat' first
        | ((with_reducible refine r_lssT ?_ ?_); (· omega))
        | with_reducible apply condW_T
        | with_reducible apply condW_F
        | ((with_reducible apply un_cell); (· rfl))
        | ((with_reducible apply m_sub); (· (simp only [Value.cells, List.toList_toArray, List.take_succ_cons, List.drop_succ_cons, List.take_zero, List.drop_zero, List.take_nil, setL, List.length_cons, List.length_nil, List.cons_append, List.nil_append, Nat.reduceAdd, Nat.zero_add]; try rfl)))
        | with_reducible apply un_box
        | with_reducible apply un_selF
        | with_reducible apply un_selTF
        | with_reducible apply rdW_pickT
        | with_reducible apply rdW_pickF
        | with_reducible apply gE_F
        | with_reducible apply gE_TF
        | ((with_reducible apply m_ldA); (· (first | assumption | exact RowIs.cells (by assumption))); (· (first | exact Mv.refl _ _ | exact Since.mv (by assumption) | exact Since.mv (Since.trans (by assumption) (by assumption)))); (· kernel_rfl); (· rfl))
        | ((with_reducible apply m_ixS); (· (first | assumption | exact Own.sl (by assumption))); (try (case hz => rfl)); (case hr => first | assumption | exact List.getElem?_eq_getElem (by omega)); (try (case hz => omega)); (case ht => kernel_rfl); (case hs => kernel_rfl); intro _ _ _)
        | ((with_reducible apply m_chkc); (case h => (repeat' first | with_reducible apply all_one_cons | with_reducible exact all_one_nil | assumption | rfl | exact Sl.one (by assumption) | exact Rws.one (by assumption) | exact Sl.one (Own.sl (by assumption)))))
        | ((with_reducible apply chk_T); (· first | rfl | assumption | exact Sl.one (by assumption) | exact Rws.one (by assumption)))
        | ((with_reducible apply r_add); (· omega); (· omega))
        | with_reducible apply jn_of
        | ((first | (with_reducible refine fin_ret0 hs ?_) | (with_reducible refine fin_ret0 (hs0.trans hs) ?_)); intro wa hk; (rw [hw]; simp [Pend.clash, hw2, *]))
        | ((with_reducible refine nx1_of ((x.writes).length - (i + 1)) ?_ ?_); (· omega); exact ⟨i + 1, by simp, rfl, by omega, hs, by rw [hw2]; simp [*]⟩)
        | (refine r_ct0B (d_mvcc_writes  (p := q) hs.has (by first | assumption | exact Sl.mv (by assumption) (by (first | exact Mv.refl _ _ | exact Since.mv (by assumption) | exact Since.mv (Since.trans (by assumption) (by assumption)))) | exact Pends.mv (by assumption) (by (first | exact Mv.refl _ _ | exact Since.mv (by assumption) | exact Since.mv (Since.trans (by assumption) (by assumption)))) | exact Hists.mv (by assumption) (by (first | exact Mv.refl _ _ | exact Since.mv (by assumption) | exact Since.mv (Since.trans (by assumption) (by assumption)))) | exact Rec.at.mv (by assumption) (by (first | exact Mv.refl _ _ | exact Since.mv (by assumption) | exact Since.mv (Since.trans (by assumption) (by assumption)))) | exact Own.sl (by assumption) | exact Cells.mv (by assumption) (by (first | exact Mv.refl _ _ | exact Since.mv (by assumption) | exact Since.mv (Since.trans (by assumption) (by assumption)))) | exact Cells.mv (RowIs.cells (by assumption)) (by (first | exact Mv.refl _ _ | exact Since.mv (by assumption) | exact Since.mv (Since.trans (by assumption) (by assumption)))) | omega)) (by kernel_rfl) hs.has ?_ ?_ <;> (intro _ w X hs1; replace hs := hs.trans hs1))
        | (refine r_ct0B (d_contains_texts  (by first | assumption | exact Sl.mv (by assumption) (by (first | exact Mv.refl _ _ | exact Since.mv (by assumption) | exact Since.mv (Since.trans (by assumption) (by assumption)))) | exact Pends.mv (by assumption) (by (first | exact Mv.refl _ _ | exact Since.mv (by assumption) | exact Since.mv (Since.trans (by assumption) (by assumption)))) | exact Hists.mv (by assumption) (by (first | exact Mv.refl _ _ | exact Since.mv (by assumption) | exact Since.mv (Since.trans (by assumption) (by assumption)))) | exact Rec.at.mv (by assumption) (by (first | exact Mv.refl _ _ | exact Since.mv (by assumption) | exact Since.mv (Since.trans (by assumption) (by assumption)))) | exact Own.sl (by assumption) | exact Cells.mv (by assumption) (by (first | exact Mv.refl _ _ | exact Since.mv (by assumption) | exact Since.mv (Since.trans (by assumption) (by assumption)))) | exact Cells.mv (RowIs.cells (by assumption)) (by (first | exact Mv.refl _ _ | exact Since.mv (by assumption) | exact Since.mv (Since.trans (by assumption) (by assumption)))) | omega)) (by kernel_rfl) hs.has ?_ ?_ <;> (intro _ w X hs1; replace hs := hs.trans hs1))
    · rw [hd] at hw2
      repeat' first
        | ((with_reducible refine r_lssF ?_ ?_); (· omega))
        | with_reducible apply condW_F
        | ((with_reducible apply m_lnS); (· (first | assumption | exact Own.sl (by assumption))); (· kernel_rfl))
      refine lp1_of (fun n a w X => ∃ i : Nat, a = I (i : Nat) ∧ n = x.reads.length - i ∧ i ≤ x.reads.length ∧ Since X1 w1 X w ∧
        (x.reads.any (fun k => q.has k) = (x.reads.drop i).any (fun k => q.has k))) x.reads.length
        ⟨0, rfl, rfl, Nat.zero_le _, hs, by simp⟩ ?_
      rintro n a w X ⟨j, rfl, rfl, hj, hs, hw3⟩
      rcases at_or x.reads j with ⟨hlt, y, hy, hd2⟩ | ⟨hge2, hd2⟩
      · rw [hd2, List.any_cons] at hw3
        repeat' first
          | ((with_reducible refine r_lssT ?_ ?_); (· omega))
          | with_reducible apply condW_T
          | with_reducible apply condW_F
          | ((with_reducible apply m_sub); (· (simp only [Value.cells, List.toList_toArray, List.take_succ_cons, List.drop_succ_cons, List.take_zero, List.drop_zero, List.take_nil, setL, List.length_cons, List.length_nil, List.cons_append, List.nil_append, Nat.reduceAdd, Nat.zero_add]; try rfl)))
          | ((with_reducible apply m_ld1); (· (first | assumption | exact RowIs.cells (by assumption))); (· (first | exact Mv.refl _ _ | exact Since.mv (by assumption) | exact Since.mv (Since.trans (by assumption) (by assumption)))); (· kernel_rfl); (· rfl))
          | ((with_reducible apply m_ixS); (· (first | assumption | exact Own.sl (by assumption))); (try (case hz => rfl)); (case hr => first | assumption | exact List.getElem?_eq_getElem (by omega)); (try (case hz => omega)); (case ht => kernel_rfl); (case hs => kernel_rfl); intro _ _ _)
          | ((with_reducible apply chk_T); (· first | rfl | assumption | exact Sl.one (by assumption) | exact Rws.one (by assumption)))
          | ((with_reducible apply r_add); (· omega); (· omega))
          | ((first | (with_reducible refine fin_ret0 hs ?_) | (with_reducible refine fin_ret0 (hs0.trans hs) ?_)); intro wa hk; (rw [hw]; simp [Pend.clash, hw3, *]))
          | ((with_reducible refine nx1_of (x.reads.length - (j + 1)) ?_ ?_); (· omega); exact ⟨j + 1, by simp, rfl, by omega, hs, by rw [hw3]; simp [*]⟩)
          | (refine r_ct0B (d_mvcc_writes  (p := q) hs.has (by first | assumption | exact Sl.mv (by assumption) (by (first | exact Mv.refl _ _ | exact Since.mv (by assumption) | exact Since.mv (Since.trans (by assumption) (by assumption)))) | exact Pends.mv (by assumption) (by (first | exact Mv.refl _ _ | exact Since.mv (by assumption) | exact Since.mv (Since.trans (by assumption) (by assumption)))) | exact Hists.mv (by assumption) (by (first | exact Mv.refl _ _ | exact Since.mv (by assumption) | exact Since.mv (Since.trans (by assumption) (by assumption)))) | exact Rec.at.mv (by assumption) (by (first | exact Mv.refl _ _ | exact Since.mv (by assumption) | exact Since.mv (Since.trans (by assumption) (by assumption)))) | exact Own.sl (by assumption) | exact Cells.mv (by assumption) (by (first | exact Mv.refl _ _ | exact Since.mv (by assumption) | exact Since.mv (Since.trans (by assumption) (by assumption)))) | exact Cells.mv (RowIs.cells (by assumption)) (by (first | exact Mv.refl _ _ | exact Since.mv (by assumption) | exact Since.mv (Since.trans (by assumption) (by assumption)))) | omega)) (by kernel_rfl) hs.has ?_ ?_ <;> (intro _ w X hs1; replace hs := hs.trans hs1))
      · rw [hd2] at hw3
        repeat' first
          | ((with_reducible refine r_lssF ?_ ?_); (· omega))
          | with_reducible apply condW_F
        refine nx2_of _ (left_lt hmem) ⟨_, rfl, hs0.trans hs, hit1.mv rdPend.mv (Since.mv hs) (Since.mvA hs hA1), ?_⟩
        rw [hw]
        have : x.clash q = false := by unfold Pend.clash; rw [hw2, hw3]; rfl
        simp [this]
end Go.Proofs.YtnphlhpdikmpiaaGreat
namespace Go.Proofs.YtnphlhpdikmpiaaGreat
open Go.Eng
set_option maxRecDepth 100000
set_option maxHeartbeats 1000000
set_option linter.unusedVariables false
set_option linter.unusedSimpArgs false
attribute [local irreducible] un jn chk fld ld1 ldA st1 ixS lnS lnT bld cvI cvF ixA bsS apS rdV rdW grdW eW eV eU eC eF gE condW fin pickN nilN binS vS lp0 lp1 lp2 lp3 lp4 lp5 lp6 lp7 nx0 nx1 nx2 nx3 nx4 nx5 nx6 nx7
def Pend.fresh (wa w' : World) (v : Value) (p : Pend) : Prop :=
  ∃ vr vw, v = p.v vr vw ∧ Own w' (made wa w') wa.heap.size 9 1 vr (p.reads.map S1) ∧ Own w' (made wa w') wa.heap.size 66 4 vw (p.writes.map KV.l) ∧
    ∀ g, vr.ownBlock = some g → vw.ownBlock ≠ some g
theorem d_mvcc_clone {w : World} {X : XS} {p : Pend} {vr vw : Value} (h1 : Sl w X 1 vr (p.reads.map S1)) (h2 : Sl w X 4 vw (p.writes.map KV.l)) (hb1 : p.reads.length ≤ 2 ^ 40) (hb2 : p.writes.length ≤ 2 ^ 40) :
    Ct Tryz.prog 148 #[p.v vr vw] w X nX fun v wa w' => p.fresh wa w' v := by
    intro w0 hk
    replace h1 := h1.mv hk.mvo
    replace h2 := h2.mv hk.mvo
    apply ok_mvcc_clone; unfold vc_mvcc_clone
    have hs := Since.init w0
    refine r_ct0 (d_clone_texts h1 hb1) (by kernel_rfl) hs.has ?_
    rintro v1 wa w X ho1 hle1 hin1 hs1
    replace hs := hs.trans hs1
    have q1 := ho1.sl.one
    repeat' first
      | ((with_reducible apply chk_T); (· first | rfl | assumption | exact Sl.one (by assumption) | exact Rws.one (by assumption)))
    refine r_ct0 (d_clone_writes (h2.mv (Since.mv hs)) hb2) (by kernel_rfl) hs.has ?_
    rintro v2 wb w2 X2 ho2 hle2 hin2 hs2
    have hb : w0.heap.size ≤ wa.heap.size := hle1
    have ho1X : Own w X w0.heap.size 9 1 v1 (p.reads.map S1) := ho1.up hin1 hb
    have ho1' := ho1X.since hs2
    have hlo2 : w0.heap.size ≤ wb.heap.size := Nat.le_trans hs.kp.size hle2
    have ho2' : Own w2 X2 w0.heap.size 66 4 v2 (p.writes.map KV.l) := ho2.up hin2 hlo2
    have q2 := ho2.sl.one
    replace hs := hs.trans hs2
    repeat' first
      | ((with_reducible apply m_chkl); (case h => (repeat' first | with_reducible apply all_one_cons | with_reducible exact all_one_nil | assumption | rfl | exact Sl.one (by assumption) | exact Rws.one (by assumption) | exact Sl.one (Own.sl (by assumption)))))
      | ((with_reducible apply chk_T); (· first | rfl | assumption | exact Sl.one (by assumption) | exact Rws.one (by assumption)))
      | ((first | (with_reducible refine fin_ret0 hs ?_) | (with_reducible refine fin_ret0 (hs0.trans hs) ?_)); intro wa hk; (exact ⟨v1, v2, rfl, (ho1'.kp hk).tight, (ho2'.kp hk).tight, fun g hg1 hg2 => by have := (ho1X.ge hg1).2; have := (ho2.ge hg2).1; omega⟩))
theorem d_tail_clone {w : World} {X : XS} {p : Pend} {vr vw : Value} (h1 : Sl w X 1 vr (p.reads.map S1)) (h2 : Sl w X 4 vw (p.writes.map KV.l)) (hb1 : p.reads.length ≤ 2 ^ 40) (hb2 : p.writes.length ≤ 2 ^ 40) :
    Ct Tryz.prog 28 #[p.v vr vw] w X nX fun v wa w' => p.fresh wa w' v := by
    intro w0 hk
    replace h1 := h1.mv hk.mvo
    replace h2 := h2.mv hk.mvo
    apply ok_tail_clone; unfold vc_tail_clone
    have hs := Since.init w0
    refine r_ct0 (d_clone_texts h1 hb1) (by kernel_rfl) hs.has ?_
    rintro v1 wa w X ho1 hle1 hin1 hs1
    replace hs := hs.trans hs1
    have q1 := ho1.sl.one
    skip
    refine r_ct0 (d_clone_writes (h2.mv (Since.mv hs)) hb2) (by kernel_rfl) hs.has ?_
    rintro v2 wb w2 X2 ho2 hle2 hin2 hs2
    have hb : w0.heap.size ≤ wa.heap.size := hle1
    have ho1X : Own w X w0.heap.size 9 1 v1 (p.reads.map S1) := ho1.up hin1 hb
    have ho1' := ho1X.since hs2
    have hlo2 : w0.heap.size ≤ wb.heap.size := Nat.le_trans hs.kp.size hle2
    have ho2' : Own w2 X2 w0.heap.size 66 4 v2 (p.writes.map KV.l) := ho2.up hin2 hlo2
    have q2 := ho2.sl.one
    replace hs := hs.trans hs2
    repeat' first
      | ((with_reducible apply m_chkl); (case h => (repeat' first | with_reducible apply all_one_cons | with_reducible exact all_one_nil | assumption | rfl | exact Sl.one (by assumption) | exact Rws.one (by assumption) | exact Sl.one (Own.sl (by assumption)))))
      | ((with_reducible apply chk_T); (· first | rfl | assumption | exact Sl.one (by assumption) | exact Rws.one (by assumption)))
      | ((first | (with_reducible refine fin_ret0 hs ?_) | (with_reducible refine fin_ret0 (hs0.trans hs) ?_)); intro wa hk; (exact ⟨v1, v2, rfl, (ho1'.kp hk).tight, (ho2'.kp hk).tight, fun g hg1 hg2 => by have := (ho1X.ge hg1).2; have := (ho2.ge hg2).1; omega⟩))
def mns (X : XS) (a b c : Nat) : XS := fun k => X k ∧ k ≠ a ∧ k ≠ b ∧ k ≠ c
theorem d_mvcc_New {w : World} {X : XS} : Ct Tryz.prog 143 #[] w X nX fun v wa w' =>
    ∃ sb kb pb, v = ptr sb 0 ∧ StoreIs w' (made wa w') (mns (made wa w') sb kb pb) sb kb pb [] [] .zero ∧ sb ≠ kb ∧ sb ≠ pb ∧ kb ≠ pb := by
  intro w0 hk
  apply ok_mvcc_New; unfold vc_mvcc_New
  have hs := Since.init w0
  refine m_makeMap (kv := fun s : BA => Value.string s) rdVers nX hs.has fun kb w1 X1 hkb hs1 hm1 => ?_
  refine m_makeMap (kv := fun k : Txn => k.v) rdPend nX hs1.has fun pb w2 X2 hpb hs2 hm2 => ?_
  have hkb1 := hm1.x
  have hpb1 := hm2.x
  have hm1' := hm1.mv rdVers.mv (Since.mv hs2) (Y := X2) (A' := nX) (fun _ h => h.elim)
  replace hs := (hs.trans hs1).trans hs2
  have hsz : w0.heap.size ≤ w1.heap.size := hs1.kp.size
  repeat' first
    | ((with_reducible apply r_bld); (· kernel_rfl))
    | ((with_reducible apply m_boxA); (case hX => exact hs.has); intro bx w X hbx hs1 hrow; have hs0 := hs.trans hs1; replace hs := Since.refl' hs1.has)
  refine fin_ret0 (hs0.trans hs) ?_
  intro wa hk
  have hrl := (hrow.kp hk).lt
  have hsz3 := hs1.kp.size
  have hsz4 := hk.size
  have hkp2 := hs1.kp.trans (hk.less hs1.sub)
  have hkb2 : made w0 wa kb := ⟨hkb, by omega⟩
  have hpb2 : made w0 wa pb := ⟨by omega, by omega⟩
  exact ⟨bx, kb, pb, rfl, ⟨hrow.own.mv (Mv.one hk hrow.1 ⟨by omega, hrl⟩), hm1'.own.mv rdVers.mv (Mv.one hkp2 (hs2.sub _ hkb1.1) hkb2) (fun _ h => h.elim),
    hm2.own.mv rdPend.mv (Mv.one hkp2 hpb1.1 hpb2) (fun _ h => h.elim), fun k hk => hk.1, fun k hk => hk.2⟩, by omega, by omega, by omega⟩
end Go.Proofs.YtnphlhpdikmpiaaGreat
namespace Go.Proofs.YtnphlhpdikmpiaaGreat
open Go.Eng
set_option maxRecDepth 100000
set_option maxHeartbeats 1000000
set_option linter.unusedVariables false
set_option linter.unusedSimpArgs false
attribute [local irreducible] un jn chk fld ld1 ldA st1 ixS lnS lnT bld cvI cvF ixA bsS apS rdV rdW grdW eW eV eU eC eF gE condW fin pickN nilN binS vS lp0 lp1 lp2 lp3 lp4 lp5 lp6 lp7 nx0 nx1 nx2 nx3 nx4 nx5 nx6 nx7
def histsFrom : BA → List Hist → Bool
  | _, [] => true
  | a, h :: r => h.ok a && histsFrom h.key r
def putAll (l : List Hist) : List (BA × List Ver) := l.foldl (fun m h => putM h.key h.vers m) []
def pendGo (hm : List (BA × List Ver)) : List (Txn × Pend) → List Pend → Int
  | _, [] => 0
  | pm, p :: r => if p.err ≠ 0 then p.err else if (getM p.txn pm).isSome then 9 else if pm.any (fun q => p.clash q.2) then 18 else if oldFor hm p then 20
    else pendGo hm (putM p.txn p pm) r
def loadErr (hl : List Hist) (pl : List Pend) : Int := if histsFrom ⟨#[]⟩ hl then pendGo (putAll hl) [] pl else 4
theorem StoreIs.grow {w : World} {X A A' : XS} {sb kb pb : Nat} {hm : List (BA × List Ver)} {pm : List (Txn × Pend)} {low : Stamp} (h : StoreIs w X A sb kb pb hm pm low)
    (hA : ∀ k, A k → A' k) (hs : ∀ k, A' k → X k ∧ k ≠ sb ∧ k ≠ kb ∧ k ≠ pb) : StoreIs w X A' sb kb pb hm pm low :=
  ⟨h.box, h.keys.mv rdVers.mv (Mv.refl _ _) (Mv.sub hA), h.pend.mv rdPend.mv (Mv.refl _ _) (Mv.sub hA), fun k hk => (hs k hk).1, fun k hk => (hs k hk).2⟩
theorem StoreIs.to {w w' : World} {X Y : XS} {sb kb pb : Nat} {hm : List (BA × List Ver)} {pm : List (Txn × Pend)} {low : Stamp} (h : StoreIs w X (mns X sb kb pb) sb kb pb hm pm low)
    (hs : Since X w Y w') (hX : ∀ k, X k → k < w.heap.size) : StoreIs w' Y (mns Y sb kb pb) sb kb pb hm pm low :=
  (h.mv hX (Since.mv hs)).grow (fun k hk => ⟨hs.sub k hk.1, hk.2⟩) fun k hk => hk
def PSmall (l : List Pend) : Prop := ∀ p ∈ l, p.reads.length ≤ 2 ^ 40 ∧ p.writes.length ≤ 2 ^ 40
def HSmall (l : List Hist) : Prop := ∀ h ∈ l, h.vers.length ≤ 2 ^ 40
theorem d_mvcc_Load {w : World} {X : XS} {vh vp : Value} {hl : List Hist} {pl : List Pend} (h1 : Hists w X vh hl) (h2 : Pends w X vp pl) (hb1 : HSmall hl) (hb2 : PSmall pl) :
    Ct Tryz.prog 126 #[vh, vp] w X nX fun v _ _ => ∃ u : Value, v = .tuple #[u, I (loadErr hl pl)] := by
  intro w0 hk
  replace h1 := h1.mv hk.mvo
  replace h2 := h2.mv hk.mvo
  have hl1 := h1.len
  have hl2 := h2.len
  apply ok_mvcc_Load; unfold vc_mvcc_Load
  have hs := Since.init w0
  refine r_ct0 d_mvcc_New (by kernel_rfl) hs.has ?_
  rintro v wa w X ⟨sb, kb, pb, rfl, hst, ne1, ne2, ne3⟩ hle hin hs1
  have hsb : w0.heap.size ≤ sb := Nat.le_trans hle hst.box.1.1
  have hkb : w0.heap.size ≤ kb := Nat.le_trans hle hst.keys.x.1.1
  have hpb : w0.heap.size ≤ pb := Nat.le_trans hle hst.pend.x.1.1
  replace hs := hs.trans hs1
  have hst1 : StoreIs w X (mns X sb kb pb) sb kb pb [] [] .zero := (hst.mv (fun k hk => hk.2) (Mv.sub hin)).grow (fun k hk => ⟨hin k hk.1, hk.2⟩) fun k hk => hk
  clear hst
  repeat' first
    | ((with_reducible apply m_lnR); (· assumption); (· kernel_rfl))
  refine lp2_of (fun n a b w X => ∃ (i : Nat) (s : BA), a = I i ∧ b = .string s ∧ n = hl.length - i ∧ i ≤ hl.length ∧ Since (old w0) w0 X w ∧
    StoreIs w X (mns X sb kb pb) sb kb pb (putAll (hl.take i)) [] .zero ∧ histsFrom ⟨#[]⟩ hl = histsFrom s (hl.drop i)) hl.length
    ⟨0, ⟨#[]⟩, rfl, rfl, rfl, Nat.zero_le _, hs, hst1, by rw [List.drop_zero]⟩ ?_
  rintro n a b w X ⟨i, s, rfl, rfl, rfl, hi, hs0, hst, hw⟩
  have hs := Since.refl' hs0.has
  rcases at_or (hl) i with ⟨hlt, x, hx, hd⟩ | ⟨hge, hd⟩
  · rw [hd, histsFrom] at hw
    have hxs := hb1 x (List.mem_of_getElem? hx)
    have hbx := hst.box
    repeat' first
      | ((with_reducible refine r_lssT ?_ ?_); (· omega))
      | with_reducible apply condW_T
      | with_reducible apply condW_F
      | ((with_reducible apply un_cell); (· rfl))
      | ((with_reducible apply m_sub); (· (simp only [Value.cells, List.toList_toArray, List.take_succ_cons, List.drop_succ_cons, List.take_zero, List.drop_zero, List.take_nil, setL, List.length_cons, List.length_nil, List.cons_append, List.nil_append, Nat.reduceAdd, Nat.zero_add]; try rfl)))
      | with_reducible apply un_box
      | with_reducible apply r_notT
      | with_reducible apply r_notF
      | with_reducible apply r_nil
      | ((with_reducible apply m_fld1); (· (first | assumption | exact RowIs.cells (by assumption))); (· kernel_rfl); (· rfl); intro _ _ _)
      | ((with_reducible apply m_ld1); (· (first | assumption | exact RowIs.cells (by assumption))); (· (first | exact Mv.refl _ _ | exact Since.mv (by assumption) | exact Since.mv (Since.trans (by assumption) (by assumption)))); (· kernel_rfl); (· rfl))
      | ((with_reducible apply m_ldA); (· (first | assumption | exact RowIs.cells (by assumption))); (· (first | exact Mv.refl _ _ | exact Since.mv (by assumption) | exact Since.mv (Since.trans (by assumption) (by assumption)))); (· kernel_rfl); (· rfl))
      | ((with_reducible apply m_ixH); (· assumption); (try (case hz => rfl)); (case hr => first | assumption | exact List.getElem?_eq_getElem (by omega)); (try (case hz => omega)); (case ht => kernel_rfl); (case hs => kernel_rfl); intros)
      | ((with_reducible apply m_chkc); (case h => (repeat' first | with_reducible apply all_one_cons | with_reducible exact all_one_nil | assumption | rfl | exact Sl.one (by assumption) | exact Rws.one (by assumption) | exact Sl.one (Own.sl (by assumption)))))
      | ((with_reducible apply chk_T); (· first | rfl | assumption | exact Sl.one (by assumption) | exact Rws.one (by assumption)))
      | (refine r_ct0B (d_mvcc_history (h := x) (ahead := s) (by first | assumption | exact Sl.mv (by assumption) (Since.mv (hs0.trans hs)))) (by kernel_rfl) hs.has ?_ ?_ <;> (intro _ w X hs1; replace hs := hs.trans hs1))
      | (first | (with_reducible refine fin_ret0 (hs0.trans hs) ?_); intro wa hk; exact ⟨_, by rw [loadErr, hw]; simp [*]; rfl⟩)
    have hvv := ‹Sl w0 (old w0) 6 _ (x.vers.map Ver.l)›
    have hok := ‹x.ok s = true›
    refine r_ct0 (d_clone_versions (hvv.mv (Since.mv (hs0.trans hs))) hxs) (by kernel_rfl) hs.has ?_
    rintro v1 wa w2 X2 ho1 hle1 hin1 hs2
    have hsz1 := hs.kp.size
    have hst2 := hst.to (hs.trans hs2) hs0.has
    have hv1 : Sl w2 (mns X2 sb kb pb) 6 v1 (x.vers.map Ver.l) := ho1.sl.mv (Mv.sub fun k hk => ⟨hin1 k hk, by
      have q1 := hs0.has sb hst.box.1
      have q2 := hs0.has kb hst.keys.x.1
      have q3 := hs0.has pb hst.pend.x.1
      have := hk.1
      refine ⟨?_, ?_, ?_⟩ <;> omega⟩)
    replace hs := hs.trans hs2
    repeat' first
      | ((with_reducible apply un_cell); (· rfl))
    refine m_mapPut (kv := fun s : BA => Value.string s) (k := x.key) (et := 140) hst2.keys rdVers.mv hv1 (fun k hk => ⟨hk.1, hk.2.2.1⟩) key_text (by kernel_rfl) hs.has fun w3 X3 hc hm3 => ?_
    have hs3 := (hs0.trans hs).chg hc fun k hk e => by have : k < w0.heap.size := hk; omega
    have hst3 : StoreIs w3 X3 (mns X3 sb kb pb) sb kb pb (putAll (hl.take (i + 1))) [] .zero := by
      have hbx := hst2.box
      have hpm := hst2.pend
      have e : putAll (hl.take (i + 1)) = putM x.key x.vers (putAll (hl.take i)) := by
        rw [List.take_add_one, hx]; simp [putAll]
      rw [e]
      have mo : ∀ b, X2 b → b ≠ kb → Mv (fun k => k = b) w2 X3 w3 := fun b hb hne k hk' _ => by subst hk'; exact ⟨hc.sub _ hb, hc.block _ hb hne⟩
      exact ⟨hbx.own.mv (mo _ hbx.1 ne1), hm3.mv rdVers.mv (Mv.refl _ _) (Mv.sub fun k hk => ⟨hc.sub k hk.1, hk.2⟩),
        hpm.own.mv rdPend.mv (mo _ hpm.x.1 ne3.symm) (fun k hk _ => ⟨⟨hc.sub k hk.1, hk.2⟩, hc.block k hk.1 hk.2.2.1⟩), fun k hk => hk.1, fun k hk => hk.2⟩
    replace hs := hs3
    repeat' first
      | ((with_reducible apply chk_T); (· first | rfl | assumption | exact Sl.one (by assumption) | exact Rws.one (by assumption)))
      | ((with_reducible apply r_add); (· omega); (· omega))
      | ((with_reducible refine nx2_of ((hl).length - (i + 1)) ?_ ?_); (· omega); exact ⟨i + 1, x.key, by simp, rfl, rfl, by omega, hs, hst3, by rw [hw, hok]; rfl⟩)
  · have hlen : hl.take i = hl := List.take_of_length_le hge
    rw [hd] at hw
    rw [hlen] at hst
    repeat' first
      | ((with_reducible refine r_lssF ?_ ?_); (· omega))
      | with_reducible apply condW_F
      | ((with_reducible apply m_lnR); (· assumption); (· kernel_rfl))
    refine lp1_of (fun n a w X => ∃ (i : Nat) (pm : List (Txn × Pend)), a = I i ∧ n = pl.length - i ∧ i ≤ pl.length ∧ Since (old w0) w0 X w ∧
      StoreIs w X (mns X sb kb pb) sb kb pb (putAll hl) pm .zero ∧ loadErr hl pl = pendGo (putAll hl) pm (pl.drop i)) pl.length
      ⟨0, [], rfl, rfl, Nat.zero_le _, hs0, hst, by rw [List.drop_zero, loadErr, hw]; rfl⟩ ?_
    rintro n a w X ⟨j, pm, rfl, rfl, hj, hs0, hst, hw2⟩
    have hs := Since.refl' hs0.has
    rcases at_or pl j with ⟨hlt2, x, hx, hd2⟩ | ⟨hge2, hd2⟩
    · rw [hd2, pendGo] at hw2
      have hxs := hb2 x (List.mem_of_getElem? hx)
      have hbx := hst.box
      repeat' first
        | ((with_reducible refine r_lssT ?_ ?_); (· omega))
        | with_reducible apply condW_T
        | ((with_reducible apply m_sub); (· (simp only [Value.cells, List.toList_toArray, List.take_succ_cons, List.drop_succ_cons, List.take_zero, List.drop_zero, List.take_nil, setL, List.length_cons, List.length_nil, List.cons_append, List.nil_append, Nat.reduceAdd, Nat.zero_add]; try rfl)))
        | with_reducible apply un_box
        | with_reducible apply r_nil
        | ((with_reducible apply m_fld1); (· (first | assumption | exact RowIs.cells (by assumption))); (· kernel_rfl); (· rfl); intro _ _ _)
        | ((with_reducible apply m_ld1); (· (first | assumption | exact RowIs.cells (by assumption))); (· (first | exact Mv.refl _ _ | exact Since.mv (by assumption) | exact Since.mv (Since.trans (by assumption) (by assumption)))); (· kernel_rfl); (· rfl))
        | ((with_reducible apply m_ldA); (· (first | assumption | exact RowIs.cells (by assumption))); (· (first | exact Mv.refl _ _ | exact Since.mv (by assumption) | exact Since.mv (Since.trans (by assumption) (by assumption)))); (· kernel_rfl); (· rfl))
        | ((with_reducible apply m_ixP); (· assumption); (try (case hz => rfl)); (case hr => first | assumption | exact List.getElem?_eq_getElem (by omega)); (try (case hz => omega)); (case ht => kernel_rfl); (case hs => kernel_rfl); intros)
        | ((with_reducible apply m_chkc); (case h => (repeat' first | with_reducible apply all_one_cons | with_reducible exact all_one_nil | assumption | rfl | exact Sl.one (by assumption) | exact Rws.one (by assumption) | exact Sl.one (Own.sl (by assumption)))))
        | ((with_reducible apply chk_T); (· first | rfl | assumption | exact Sl.one (by assumption) | exact Rws.one (by assumption)))
        | (refine r_ct0V (d_mvcc_PendingMay (p := x) (by first | assumption | exact Sl.mv (by assumption) (Since.mv (hs0.trans hs))) (by first | assumption | exact Sl.mv (by assumption) (Since.mv (hs0.trans hs))) hxs.2) (by kernel_rfl) hs.has ?_; intro w X hs1; replace hs := hs.trans hs1)
      refine m_mapGet (kv := fun k : Txn => k.v) (k := x.txn) (kt := 39) (et := 87) (.agg #[I 0, I 0, I 0, I 0, I 0, I 0, .slice none 0 0, .slice none 0 0]) (hst.mv hs0.has (Since.mv hs)).pend key_txn (by kernel_rfl) (by kernel_rfl) (fun v q hg hrd => ?_) fun hg => ?_
      · obtain ⟨ur, uw, rfl, q1, q2⟩ := hrd
        have o1 := q1.one
        have o2 := q2.one
        repeat' first
          | with_reducible apply condW_T
          | with_reducible apply condW_F
          | with_reducible apply un_box
          | (with_reducible apply r_neq <;> intro _)
          | ((with_reducible apply m_ext); (· rfl))
          | ((with_reducible apply m_chkc); (case h => (repeat' first | with_reducible apply all_one_cons | with_reducible exact all_one_nil | assumption | rfl | exact Sl.one (by assumption) | exact Rws.one (by assumption) | exact Sl.one (Own.sl (by assumption)))))
          | ((with_reducible apply chk_T); (· first | rfl | assumption | exact Sl.one (by assumption) | exact Rws.one (by assumption)))
          | (first | (with_reducible refine fin_ret0 (hs0.trans hs) ?_); intro wa hk; exact ⟨_, by rw [hw2]; simp [*]; rfl⟩)
      · repeat' first
          | with_reducible apply condW_T
          | with_reducible apply condW_F
          | with_reducible apply un_box
          | with_reducible apply r_nil
          | (with_reducible apply r_neq <;> intro _)
          | ((with_reducible apply m_fld1); (· (first | assumption | exact RowIs.cells (by assumption))); (· kernel_rfl); (· rfl); intro _ _ _)
          | ((with_reducible apply m_ld1); (· (first | assumption | exact RowIs.cells (by assumption))); (· (first | exact Mv.refl _ _ | exact Since.mv (by assumption) | exact Since.mv (Since.trans (by assumption) (by assumption)))); (· kernel_rfl); (· rfl))
          | ((with_reducible apply m_ext); (· rfl))
          | ((with_reducible apply m_chkc); (case h => (repeat' first | with_reducible apply all_one_cons | with_reducible exact all_one_nil | assumption | rfl | exact Sl.one (by assumption) | exact Rws.one (by assumption) | exact Sl.one (Own.sl (by assumption)))))
          | ((with_reducible apply chk_T); (· first | rfl | assumption | exact Sl.one (by assumption) | exact Rws.one (by assumption)))
          | (first | (with_reducible refine fin_ret0 (hs0.trans hs) ?_); intro wa hk; exact ⟨_, by rw [hw2]; simp [*]; rfl⟩)
          | (refine r_ct0B (d_mvcc_locked (x := x) (hst.mv hs0.has (Since.mv hs)) hs.has (by first | assumption | exact Sl.mv (by assumption) (Since.mv (hs0.trans hs))) (by first | assumption | exact Sl.mv (by assumption) (Since.mv (hs0.trans hs)))) (by kernel_rfl) hs.has ?_ ?_ <;> (intro _ w X hs1; replace hs := hs.trans hs1))
          | (refine r_ct0B (d_mvcc_old (x := x) (hst.mv hs0.has (Since.mv hs)) hs.has (by first | assumption | exact Sl.mv (by assumption) (Since.mv (hs0.trans hs)))) (by kernel_rfl) hs.has ?_ ?_ <;> (intro _ w X hs1; replace hs := hs.trans hs1))
        have he : x.err = 0 := ‹x.err = 0›
        have hc18 : (pm.any fun q => x.clash q.snd) = false := ‹_›
        have hc20 : oldFor (putAll hl) x = false := ‹_›
        refine r_ct0 (d_mvcc_clone (p := x) (by first | exact Sl.mv (by assumption) (Since.mv (hs0.trans hs))) (by first | exact Sl.mv (by assumption) (Since.mv (hs0.trans hs))) hxs.1 hxs.2) (by kernel_rfl) hs.has ?_
        rintro v1 wa w2 X2 ⟨ur, uw, rfl, ho1, ho2, -⟩ hle1 hin1 hs2
        have hsz1 := hs.kp.size
        have hst2 := hst.to (hs.trans hs2) hs0.has
        have hup : ∀ k, made wa w2 k → mns X2 sb kb pb k := fun k hk => ⟨hin1 k hk, by
          have q1 := hs0.has sb hst.box.1
          have q2 := hs0.has kb hst.keys.x.1
          have q3 := hs0.has pb hst.pend.x.1
          have := hk.1
          refine ⟨?_, ?_, ?_⟩ <;> omega⟩
        have hv1 : rdPend w2 (mns X2 sb kb pb) (x.v ur uw) x := ⟨ur, uw, rfl, ho1.sl.mv (Mv.sub hup), ho2.sl.mv (Mv.sub hup)⟩
        replace hs := hs.trans hs2
        refine m_mapPut (kv := fun k : Txn => k.v) (k := x.txn) (et := 87) hst2.pend rdPend.mv hv1 (fun k hk => ⟨hk.1, hk.2.2.2⟩) key_txn (by kernel_rfl) hs.has fun w3 X3 hc hm3 => ?_
        have hs3 := (hs0.trans hs).chg hc fun k hk e => by have : k < w0.heap.size := hk; omega
        have hst3 : StoreIs w3 X3 (mns X3 sb kb pb) sb kb pb (putAll hl) (putM x.txn x pm) .zero := by
          have hbx := hst2.box
          have hkm := hst2.keys
          have mo : ∀ b, X2 b → b ≠ pb → Mv (fun k => k = b) w2 X3 w3 := fun b hb hne k hk' _ => by subst hk'; exact ⟨hc.sub _ hb, hc.block _ hb hne⟩
          exact ⟨hbx.own.mv (mo _ hbx.1 ne2), hkm.own.mv rdVers.mv (mo _ hkm.x.1 ne3) (fun k hk _ => ⟨⟨hc.sub k hk.1, hk.2⟩, hc.block k hk.1 hk.2.2.2⟩),
            hm3.mv rdPend.mv (Mv.refl _ _) (Mv.sub fun k hk => ⟨hc.sub k hk.1, hk.2⟩), fun k hk => hk.1, fun k hk => hk.2⟩
        replace hs := hs3
        repeat' first
          | ((with_reducible apply r_add); (· omega); (· omega))
          | ((with_reducible refine nx1_of (pl.length - (j + 1)) ?_ ?_); (· omega); exact ⟨j + 1, _, by simp, rfl, by omega, hs, hst3, by rw [hw2]; simp [he, hg, hc18, hc20]⟩)
    · rw [hd2] at hw2
      repeat' first
        | ((with_reducible refine r_lssF ?_ ?_); (· omega))
        | with_reducible apply condW_F
        | (first | (with_reducible refine fin_ret0 (hs0.trans hs) ?_); intro wa hk; exact ⟨_, by rw [hw2]; rfl⟩)
end Go.Proofs.YtnphlhpdikmpiaaGreat
namespace Go.Proofs.YtnphlhpdikmpiaaGreat
open Go.Eng
set_option maxRecDepth 100000
set_option maxHeartbeats 1000000
set_option linter.unusedVariables false
set_option linter.unusedSimpArgs false
attribute [local irreducible] un jn chk fld ld1 ldA st1 ixS lnS lnT bld cvI cvF ixA bsS apS rdV rdW grdW eW eV eU eC eF gE condW fin pickN nilN binS vS lp0 lp1 lp2 lp3 lp4 lp5 lp6 lp7 nx0 nx1 nx2 nx3 nx4 nx5 nx6 nx7
def HKeys (l : List Hist) : Prop := ∀ h ∈ l, h.key.size ≤ 2 ^ 40
def PKeys (l : List Pend) : Prop := ∀ p ∈ l, (∀ k ∈ p.reads, k.size ≤ 2 ^ 40) ∧ ∀ x ∈ p.writes, x.key.size ≤ 2 ^ 40
structure State.small (s : State) : Prop where
  h : HSmall s.hists
  p : PSmall s.pend
  hk : HKeys s.hists
  pk : PKeys s.pend
structure Rec.small (r : Rec) : Prop where
  reads : r.reads.length ≤ 2 ^ 40
  writes : r.writes.length ≤ 2 ^ 40
  rk : ∀ k ∈ r.reads, k.size ≤ 2 ^ 40
  wk : ∀ x ∈ r.writes, x.key.size ≤ 2 ^ 40
  state : r.state.small
def Rng.has (r : Rng) (x : Nat) : Bool := (fgt x r.lo || feq x r.lo) && flt x r.hi
def Rng.key (r : Rng) (k : BA) : Bool := r.has (placeOf k)
def State.inside (s : State) : Bool := s.hists.all (fun h => s.range.key h.key) && s.pend.all fun p => p.reads.all s.range.key && p.writes.all fun x => s.range.key x.key
def State.may (s : State) : Bool := s.range.may && s.floor.may && s.closed.may && decide (loadErr s.hists s.pend = 0) && s.inside
theorem d_recs_StateMay_c1 {w : World} {X : XS} {s : State} {vh vp : Value} {k : BA} {b : Nat} (h : Cells w X b 0 (s.l vh vp)) (hk' : k.size ≤ 2 ^ 62) :
    Ct Tryz.prog 127 #[.string k, ptr b 0] w X nX fun v _ _ => v = B (s.range.key k) := by
  intro w0 hk
  replace h := h.mv hk.mvo
  apply ok_recs_StateMay_c1; unfold vc_recs_StateMay_c1
  have hs := Since.init w0
  repeat' first
    | ((with_reducible apply m_fld); (· (first | assumption | exact RowIs.cells (by assumption))); (· kernel_rfl); (· rfl); (· (simp only [Value.cells, List.toList_toArray, List.take_succ_cons, List.drop_succ_cons, List.take_zero, List.drop_zero, List.take_nil, setL, List.length_cons, List.length_nil, List.cons_append, List.nil_append, Nat.reduceAdd, Nat.zero_add]; try rfl)); intro _ _ _)
    | ((with_reducible apply m_ldA); (· (first | assumption | exact RowIs.cells (by assumption))); (· (first | exact Mv.refl _ _ | exact Since.mv (by assumption) | exact Since.mv (Since.trans (by assumption) (by assumption)))); (· kernel_rfl); (· rfl))
    | ((with_reducible refine r_pure (c_place_Of _ (by first | assumption | omega)) ?_ hs.has ?_); (· kernel_rfl); intro w X hs1; replace hs := hs.trans hs1)
    | ((with_reducible refine r_pureB (c_place_In _ _) ?_ hs.has ?_ ?_); (· kernel_rfl); all_goals (intro _ w X hs1; replace hs := hs.trans hs1))
    | ((first | (with_reducible refine fin_ret0 hs ?_) | (with_reducible refine fin_ret0 (hs0.trans hs) ?_)); intro wa hk; (simp [Rng.key, Rng.has, *]))
theorem d_recs_StateMay {w : World} {X : XS} {s : State} {vh vp : Value} (h1 : Hists w X vh s.hists) (h2 : Pends w X vp s.pend) (hsm : s.small) :
    Ct Tryz.prog 102 #[s.v vh vp] w X nX fun v _ _ => v = B s.may := by
  intro w0 hk
  replace h1 := h1.mv hk.mvo
  replace h2 := h2.mv hk.mvo
  have hl1 := h1.len
  have hl2 := h2.len
  have o1 := h1.one
  have o2 := h2.one
  apply ok_recs_StateMay; unfold vc_recs_StateMay
  have hs := Since.init w0
  repeat' first
    | with_reducible apply condW_T
    | with_reducible apply condW_F
    | with_reducible apply grdV_onF
    | with_reducible apply grdW_offF
    | with_reducible apply rdW_pickT
    | with_reducible apply rdW_pickF
    | with_reducible apply gE_F
    | with_reducible apply gE_TF
    | with_reducible apply r_notT
    | with_reducible apply r_notF
    | (with_reducible apply r_neq <;> intro _)
    | ((with_reducible apply m_fld1); (· (first | assumption | exact RowIs.cells (by assumption))); (· kernel_rfl); (· rfl); intro _ _ _)
    | ((with_reducible apply m_fld); (· (first | assumption | exact RowIs.cells (by assumption))); (· kernel_rfl); (· rfl); (· (simp only [Value.cells, List.toList_toArray, List.take_succ_cons, List.drop_succ_cons, List.take_zero, List.drop_zero, List.take_nil, setL, List.length_cons, List.length_nil, List.cons_append, List.nil_append, Nat.reduceAdd, Nat.zero_add]; try rfl)); intro _ _ _)
    | ((with_reducible apply m_ld1); (· (first | assumption | exact RowIs.cells (by assumption))); (· (first | exact Mv.refl _ _ | exact Since.mv (by assumption) | exact Since.mv (Since.trans (by assumption) (by assumption)))); (· kernel_rfl); (· rfl))
    | ((with_reducible apply m_ldA); (· (first | assumption | exact RowIs.cells (by assumption))); (· (first | exact Mv.refl _ _ | exact Since.mv (by assumption) | exact Since.mv (Since.trans (by assumption) (by assumption)))); (· kernel_rfl); (· rfl))
    | ((with_reducible apply m_lnR); (· assumption); (· kernel_rfl))
    | ((with_reducible apply m_ext); (· rfl))
    | ((with_reducible apply m_boxA); (case hX => exact hs.has); intro bx w X hbx hs1 hrow; have hs0 := hs.trans hs1; replace hs := Since.refl' hs1.has)
    | (with_reducible apply m_mkFun)
    | with_reducible apply jn_of
    | ((with_reducible refine r_pureB (c_hlc_May _) ?_ hs.has ?_ ?_); (· kernel_rfl); all_goals (intro _ w X hs1; replace hs := hs.trans hs1))
    | ((with_reducible refine r_pureB (c_place_May _) ?_ hs.has ?_ ?_); (· kernel_rfl); all_goals (intro _ w X hs1; replace hs := hs.trans hs1))
    | ((first | (with_reducible refine fin_ret0 hs ?_) | (with_reducible refine fin_ret0 (hs0.trans hs) ?_)); intro wa hk; (simp [State.may, *]))
    | (refine r_ct0 ((d_mvcc_Load (hl := s.hists) (pl := s.pend))  (by first | assumption | exact Sl.mv (by assumption) (by (first | exact Mv.refl _ _ | exact Since.mv (by assumption) | exact Since.mv (Since.trans (by assumption) (by assumption)))) | exact Pends.mv (by assumption) (by (first | exact Mv.refl _ _ | exact Since.mv (by assumption) | exact Since.mv (Since.trans (by assumption) (by assumption)))) | exact Hists.mv (by assumption) (by (first | exact Mv.refl _ _ | exact Since.mv (by assumption) | exact Since.mv (Since.trans (by assumption) (by assumption)))) | exact Rec.at.mv (by assumption) (by (first | exact Mv.refl _ _ | exact Since.mv (by assumption) | exact Since.mv (Since.trans (by assumption) (by assumption)))) | exact Own.sl (by assumption) | exact Cells.mv (by assumption) (by (first | exact Mv.refl _ _ | exact Since.mv (by assumption) | exact Since.mv (Since.trans (by assumption) (by assumption)))) | exact Cells.mv (RowIs.cells (by assumption)) (by (first | exact Mv.refl _ _ | exact Since.mv (by assumption) | exact Since.mv (Since.trans (by assumption) (by assumption)))) | omega) (by first | assumption | exact Sl.mv (by assumption) (by (first | exact Mv.refl _ _ | exact Since.mv (by assumption) | exact Since.mv (Since.trans (by assumption) (by assumption)))) | exact Pends.mv (by assumption) (by (first | exact Mv.refl _ _ | exact Since.mv (by assumption) | exact Since.mv (Since.trans (by assumption) (by assumption)))) | exact Hists.mv (by assumption) (by (first | exact Mv.refl _ _ | exact Since.mv (by assumption) | exact Since.mv (Since.trans (by assumption) (by assumption)))) | exact Rec.at.mv (by assumption) (by (first | exact Mv.refl _ _ | exact Since.mv (by assumption) | exact Since.mv (Since.trans (by assumption) (by assumption)))) | exact Own.sl (by assumption) | exact Cells.mv (by assumption) (by (first | exact Mv.refl _ _ | exact Since.mv (by assumption) | exact Since.mv (Since.trans (by assumption) (by assumption)))) | exact Cells.mv (RowIs.cells (by assumption)) (by (first | exact Mv.refl _ _ | exact Since.mv (by assumption) | exact Since.mv (Since.trans (by assumption) (by assumption)))) | omega) hsm.h hsm.p) (by kernel_rfl) hs.has ?_; rintro _ wa w X ⟨u, rfl⟩ hle hin hs1; have hlo := Nat.le_trans hs.kp.size hle; replace hs := hs.trans hs1)
  have hc1 : ∀ k : BA, k.size ≤ 2 ^ 40 → ∀ w X, Since _ _ X w → Ct Tryz.prog 127 #[.string k, ptr bx 0] w X nX fun v _ _ => v = B (s.range.key k) := fun k hk w X hs => d_recs_StateMay_c1 (hrow.since hs).cells (by omega)
  have hin0 : s.may = s.inside := by simp [State.may, *]
  refine lp1_of (fun n a w X => ∃ i : Nat, a = I (i : Nat) ∧ n = s.hists.length - i ∧ i ≤ s.hists.length ∧ Since _ _ X w ∧
    (s.hists.all (fun h => s.range.key h.key)) = ((s.hists.drop i).all fun h => s.range.key h.key)) s.hists.length ⟨0, rfl, rfl, Nat.zero_le _, hs, by simp⟩ ?_
  rintro n a w X ⟨i, rfl, rfl, hi, hs, hw⟩
  rcases at_or (s.hists) i with ⟨hlt, x, hx, hd⟩ | ⟨hge, hd⟩
  · rw [hd, List.all_cons] at hw
    have hkx := hsm.hk x (List.mem_of_getElem? hx)
    repeat' first
      | ((with_reducible refine r_lssT ?_ ?_); (· omega))
      | with_reducible apply condW_T
      | with_reducible apply condW_F
      | ((with_reducible apply un_cell); (· rfl))
      | with_reducible apply un_box
      | with_reducible apply r_notT
      | with_reducible apply r_notF
      | ((with_reducible apply m_ldA); (· (first | assumption | exact RowIs.cells (by assumption))); (· (first | exact Mv.refl _ _ | exact Since.mv (by assumption) | exact Since.mv (Since.trans (by assumption) (by assumption)))); (· kernel_rfl); (· rfl))
      | ((with_reducible apply m_ixH); (· assumption); (try (case hz => rfl)); (case hr => first | assumption | exact List.getElem?_eq_getElem (by omega)); (try (case hz => omega)); (case ht => kernel_rfl); (case hs => kernel_rfl); intros)
      | ((with_reducible apply m_chkc); (case h => (repeat' first | with_reducible apply all_one_cons | with_reducible exact all_one_nil | assumption | rfl | exact Sl.one (by assumption) | exact Rws.one (by assumption) | exact Sl.one (Own.sl (by assumption)))))
      | ((with_reducible apply chk_T); (· first | rfl | assumption | exact Sl.one (by assumption) | exact Rws.one (by assumption)))
      | ((with_reducible apply r_add); (· omega); (· omega))
      | ((with_reducible apply m_fun); (· rfl))
      | ((first | (with_reducible refine fin_ret0 hs ?_) | (with_reducible refine fin_ret0 (hs0.trans hs) ?_)); intro wa hk; (simp [hin0, State.inside, hw, *]))
      | (refine r_ct0B (hc1 x.key hkx _ _ hs) (by kernel_rfl) hs.has ?_ ?_ <;> (intro _ w X hs1; replace hs := hs.trans hs1))
      | ((with_reducible refine nx1_of ((s.hists).length - (i + 1)) ?_ ?_); (· omega); exact ⟨i + 1, by simp, rfl, by omega, hs, by rw [hw]; simp [*]⟩)
  · rw [hd] at hw
    repeat' first
      | ((with_reducible refine r_lssF ?_ ?_); (· omega))
      | with_reducible apply condW_F
      | ((with_reducible apply m_fld1); (· (first | assumption | exact RowIs.cells (by assumption))); (· kernel_rfl); (· rfl); intro _ _ _)
      | ((with_reducible apply m_ld1); (· (first | assumption | exact RowIs.cells (by assumption))); (· (first | exact Mv.refl _ _ | exact Since.mv (by assumption) | exact Since.mv (Since.trans (by assumption) (by assumption)))); (· kernel_rfl); (· rfl))
      | ((with_reducible apply m_lnR); (· assumption); (· kernel_rfl))
    refine lp3_of (fun n a _ _ w X => ∃ i : Nat, a = I (i : Nat) ∧ n = s.pend.length - i ∧ i ≤ s.pend.length ∧ Since _ _ X w ∧
      (s.pend.all fun p => p.reads.all s.range.key && p.writes.all fun x => s.range.key x.key) = ((s.pend.drop i).all fun p => p.reads.all s.range.key && p.writes.all fun x => s.range.key x.key)) s.pend.length ⟨0, rfl, rfl, Nat.zero_le _, hs, by simp⟩ ?_
    rintro n a a2 a3 w X ⟨j, rfl, rfl, hj, hs, hw2⟩
    rcases at_or s.pend j with ⟨hlt, p, hp, hd2⟩ | ⟨hge2, hd2⟩
    · rw [hd2, List.all_cons] at hw2
      obtain ⟨hr1, hr2⟩ := hsm.pk p (List.mem_of_getElem? hp)
      repeat' first
        | ((with_reducible refine r_lssT ?_ ?_); (· omega))
        | with_reducible apply condW_T
        | ((with_reducible apply un_cell); (· rfl))
        | with_reducible apply un_box
        | ((with_reducible apply m_ldA); (· (first | assumption | exact RowIs.cells (by assumption))); (· (first | exact Mv.refl _ _ | exact Since.mv (by assumption) | exact Since.mv (Since.trans (by assumption) (by assumption)))); (· kernel_rfl); (· rfl))
        | ((with_reducible apply m_lnS); (· (first | assumption | exact Own.sl (by assumption))); (· kernel_rfl))
        | ((with_reducible apply m_ixP); (· assumption); (try (case hz => rfl)); (case hr => first | assumption | exact List.getElem?_eq_getElem (by omega)); (try (case hz => omega)); (case ht => kernel_rfl); (case hs => kernel_rfl); intros)
        | ((with_reducible apply m_chkc); (case h => (repeat' first | with_reducible apply all_one_cons | with_reducible exact all_one_nil | assumption | rfl | exact Sl.one (by assumption) | exact Rws.one (by assumption) | exact Sl.one (Own.sl (by assumption)))))
        | ((with_reducible apply chk_T); (· first | rfl | assumption | exact Sl.one (by assumption) | exact Rws.one (by assumption)))
      have hl3 := Sl.len' ‹Sl w0 (old w0) 1 _ (p.reads.map S1)›
      have hl4 := Sl.len' ‹Sl w0 (old w0) 4 _ (p.writes.map KV.l)›
      refine lp1_of (fun n a w X => ∃ i : Nat, a = I (i : Nat) ∧ n = p.reads.length - i ∧ i ≤ p.reads.length ∧ Since _ _ X w ∧ p.reads.all s.range.key = (p.reads.drop i).all s.range.key) p.reads.length ⟨0, rfl, rfl, Nat.zero_le _, hs, by simp⟩ ?_
      rintro n a w X ⟨k, rfl, rfl, hk3, hs, hw3⟩
      rcases at_or p.reads k with ⟨hlt3, y, hy, hd3⟩ | ⟨hge3, hd3⟩
      · rw [hd3, List.all_cons] at hw3
        have hky := hr1 y (List.mem_of_getElem? hy)
        repeat' first
          | ((with_reducible refine r_lssT ?_ ?_); (· omega))
          | with_reducible apply condW_T
          | with_reducible apply condW_F
          | with_reducible apply r_notT
          | with_reducible apply r_notF
          | ((with_reducible apply m_ld1); (· (first | assumption | exact RowIs.cells (by assumption))); (· (first | exact Mv.refl _ _ | exact Since.mv (by assumption) | exact Since.mv (Since.trans (by assumption) (by assumption)))); (· kernel_rfl); (· rfl))
          | ((with_reducible apply m_ixS); (· (first | assumption | exact Own.sl (by assumption))); (try (case hz => rfl)); (case hr => first | assumption | exact List.getElem?_eq_getElem (by omega)); (try (case hz => omega)); (case ht => kernel_rfl); (case hs => kernel_rfl); intro _ _ _)
          | ((with_reducible apply r_add); (· omega); (· omega))
          | ((with_reducible apply m_fun); (· rfl))
          | ((first | (with_reducible refine fin_ret0 hs ?_) | (with_reducible refine fin_ret0 (hs0.trans hs) ?_)); intro wa hk; (simp [hin0, State.inside, hw2, hw3, *]))
          | (refine r_ct0B (hc1 y hky _ _ hs) (by kernel_rfl) hs.has ?_ ?_ <;> (intro _ w X hs1; replace hs := hs.trans hs1))
          | ((with_reducible refine nx1_of (p.reads.length - (k + 1)) ?_ ?_); (· omega); exact ⟨k + 1, by simp, rfl, by omega, hs, by rw [hw3]; simp [*]⟩)
      · rw [hd3] at hw3
        repeat' first
          | ((with_reducible refine r_lssF ?_ ?_); (· omega))
          | with_reducible apply condW_F
          | ((with_reducible apply un_cell); (· rfl))
          | ((with_reducible apply m_lnS); (· (first | assumption | exact Own.sl (by assumption))); (· kernel_rfl))
          | ((with_reducible apply chk_T); (· first | rfl | assumption | exact Sl.one (by assumption) | exact Rws.one (by assumption)))
        refine lp1_of (fun n a w X => ∃ i : Nat, a = I (i : Nat) ∧ n = p.writes.length - i ∧ i ≤ p.writes.length ∧ Since _ _ X w ∧ (p.writes.all fun x => s.range.key x.key) = (p.writes.drop i).all fun x => s.range.key x.key) p.writes.length ⟨0, rfl, rfl, Nat.zero_le _, hs, by simp⟩ ?_
        rintro n a w X ⟨m, rfl, rfl, hm, hs, hw4⟩
        rcases at_or p.writes m with ⟨hlt4, y, hy, hd4⟩ | ⟨hge4, hd4⟩
        · rw [hd4, List.all_cons] at hw4
          have hky := hr2 y (List.mem_of_getElem? hy)
          repeat' first
            | ((with_reducible refine r_lssT ?_ ?_); (· omega))
            | with_reducible apply condW_T
            | with_reducible apply condW_F
            | ((with_reducible apply un_cell); (· rfl))
            | with_reducible apply un_box
            | with_reducible apply r_notT
            | with_reducible apply r_notF
            | ((with_reducible apply m_ldA); (· (first | assumption | exact RowIs.cells (by assumption))); (· (first | exact Mv.refl _ _ | exact Since.mv (by assumption) | exact Since.mv (Since.trans (by assumption) (by assumption)))); (· kernel_rfl); (· rfl))
            | ((with_reducible apply m_ixS); (· (first | assumption | exact Own.sl (by assumption))); (try (case hz => rfl)); (case hr => first | assumption | exact List.getElem?_eq_getElem (by omega)); (try (case hz => omega)); (case ht => kernel_rfl); (case hs => kernel_rfl); intro _ _ _)
            | ((with_reducible apply m_chkc); (case h => (repeat' first | with_reducible apply all_one_cons | with_reducible exact all_one_nil | assumption | rfl | exact Sl.one (by assumption) | exact Rws.one (by assumption) | exact Sl.one (Own.sl (by assumption)))))
            | ((with_reducible apply chk_T); (· first | rfl | assumption | exact Sl.one (by assumption) | exact Rws.one (by assumption)))
            | ((with_reducible apply r_add); (· omega); (· omega))
            | ((with_reducible apply m_fun); (· rfl))
            | ((first | (with_reducible refine fin_ret0 hs ?_) | (with_reducible refine fin_ret0 (hs0.trans hs) ?_)); intro wa hk; (simp [hin0, State.inside, hw2, hw3, hw4, *]))
            | (refine r_ct0B (hc1 y.key hky _ _ hs) (by kernel_rfl) hs.has ?_ ?_ <;> (intro _ w X hs1; replace hs := hs.trans hs1))
            | ((with_reducible refine nx1_of (p.writes.length - (m + 1)) ?_ ?_); (· omega); exact ⟨m + 1, by simp, rfl, by omega, hs, by rw [hw4]; simp [*]⟩)
        · rw [hd4] at hw4
          repeat' first
            | ((with_reducible refine r_lssF ?_ ?_); (· omega))
            | with_reducible apply condW_F
            | ((with_reducible apply r_add); (· omega); (· omega))
            | ((with_reducible refine nx3_of (s.pend.length - (j + 1)) ?_ ?_); (· omega); exact ⟨j + 1, by simp, rfl, by omega, hs, by rw [hw2, hw3, hw4]; simp⟩)
    · rw [hd2] at hw2
      repeat' first
        | ((with_reducible refine r_lssF ?_ ?_); (· omega))
        | with_reducible apply condW_F
        | ((first | (with_reducible refine fin_ret0 hs ?_) | (with_reducible refine fin_ret0 (hs0.trans hs) ?_)); intro wa hk; (rw [hin0, State.inside, hw, hw2]; rfl))
def applyOk (prev st : Stamp) (t : Txn) (l : List KV) : Bool := prev.may && decide (prev.cmp st < 0) && decide (l ≠ []) && decide (Pend.err ⟨t, st, [], l⟩ = 0)
theorem d_recs_Apply {w : World} {X : XS} {prev st : Stamp} {t : Txn} {l : List KV} {a : Value} (h : Sl w X 4 a (l.map KV.l)) (hb : l.length ≤ 2 ^ 40) :
    Ct Tryz.prog 110 #[prev.v, st.v, t.v, a] w X nX fun v _ _ => v = B (applyOk prev st t l) := by
  intro w0 hk
  replace h := h.mv hk.mvo
  obtain ⟨b1, n1, c1, rfl⟩ := h.form
  apply ok_recs_Apply; unfold vc_recs_Apply
  have hs := Since.init w0
  repeat' first
    | with_reducible apply condW_T
    | with_reducible apply condW_F
    | with_reducible apply un_selF
    | with_reducible apply un_selTF
    | with_reducible apply grdV_onF
    | with_reducible apply grdW_offF
    | with_reducible apply rdW_pickT
    | with_reducible apply rdW_pickF
    | with_reducible apply gE_F
    | with_reducible apply gE_TF
    | with_reducible apply r_notT
    | with_reducible apply r_notF
    | (with_reducible apply r_eql <;> intro _)
    | (with_reducible apply r_geq <;> intro _)
    | ((with_reducible apply m_lnS); (· (first | assumption | exact Own.sl (by assumption))); (· kernel_rfl))
    | ((with_reducible apply r_bld); (· kernel_rfl))
    | with_reducible apply jn_of
    | ((with_reducible refine r_pure (c_hlc_Compare _ _) ?_ hs.has ?_); (· kernel_rfl); intro w X hs1; replace hs := hs.trans hs1)
    | ((with_reducible refine r_pureB (c_hlc_May _) ?_ hs.has ?_ ?_); (· kernel_rfl); all_goals (intro _ w X hs1; replace hs := hs.trans hs1))
    | ((first | (with_reducible refine fin_ret0 hs ?_) | (with_reducible refine fin_ret0 (hs0.trans hs) ?_)); intro wa hk; (simp_all [applyOk] <;> omega))
    | (refine r_ct0V (d_mvcc_PendingMay  (p := ⟨t,st,[],l⟩) (Sl.nil _ _ _) (by first | assumption | exact Sl.mv (by assumption) (by (first | exact Mv.refl _ _ | exact Since.mv (by assumption) | exact Since.mv (Since.trans (by assumption) (by assumption)))) | exact Pends.mv (by assumption) (by (first | exact Mv.refl _ _ | exact Since.mv (by assumption) | exact Since.mv (Since.trans (by assumption) (by assumption)))) | exact Hists.mv (by assumption) (by (first | exact Mv.refl _ _ | exact Since.mv (by assumption) | exact Since.mv (Since.trans (by assumption) (by assumption)))) | exact Rec.at.mv (by assumption) (by (first | exact Mv.refl _ _ | exact Since.mv (by assumption) | exact Since.mv (Since.trans (by assumption) (by assumption)))) | exact Own.sl (by assumption) | exact Cells.mv (by assumption) (by (first | exact Mv.refl _ _ | exact Since.mv (by assumption) | exact Since.mv (Since.trans (by assumption) (by assumption)))) | exact Cells.mv (RowIs.cells (by assumption)) (by (first | exact Mv.refl _ _ | exact Since.mv (by assumption) | exact Since.mv (Since.trans (by assumption) (by assumption)))) | omega) hb) (by kernel_rfl) hs.has ?_; intro w X hs1; replace hs := hs.trans hs1)
def pointOk (x : Nat) : Bool := decide ((toPoint x).2 = 0) && fgt (toPoint x).1 0 && flt (toPoint x).1 one64
def rangeNo (n : Int) : Bool := decide (n ≥ 1) && decide (n ≤ 12)
def Rec.fieldsOk (r : Rec) : Bool :=
  if r.kind = 1 then r.state.may
  else if r.kind = 2 then decide (r.n ≥ 0) && decide (r.n ≤ 281474976710656)
  else if r.kind = 3 then decide (Pend.err ⟨r.txn, r.stamp, r.reads, r.writes⟩ = 0) && partsOk r.parts
  else if r.kind = 4 then r.txn.may && r.stamp.decided r.commit
  else if r.kind = 5 then r.stamp.may
  else if r.kind = 6 then pointOk r.point && rangeNo r.n && r.stamp.may
  else if r.kind = 7 then rangeNo r.n
  else if r.kind = 8 then decide (r.n ≥ 1)
  else if r.kind = 9 then r.txn.may && r.stamp.moment && partsOk r.parts
  else if r.kind = 10 then r.txn.may
  else if r.kind = 11 then applyOk r.prev r.stamp r.txn r.writes
  else r.stamp.may && pairsOk r.pairs
theorem d_recs_fields {w : World} {X : XS} {r : Rec} {vr vw vp vq vh vd : Value} (h : r.at w X vr vw vp vq vh vd) (hsm : r.small) :
    Ct Tryz.prog 83 #[r.v vr vw vp vq vh vd] w X nX fun v _ _ => v = B r.fieldsOk := by
  intro w0 hk
  obtain ⟨h1, h2, h3, h4, h5, h6⟩ := h.mv hk.mvo
  obtain ⟨b1, n1, c1, rfl⟩ := h1.form
  obtain ⟨b2, n2, c2, rfl⟩ := h2.form
  apply ok_recs_fields; unfold vc_recs_fields
  have hs := Since.init w0
  repeat' first
    | with_reducible apply condW_T
    | with_reducible apply condW_F
    | with_reducible apply un_selT
    | with_reducible apply un_selFT
    | with_reducible apply grdV_onT
    | with_reducible apply grdW_offT
    | with_reducible apply rdW_pickT
    | with_reducible apply rdW_pickF
    | with_reducible apply gE_T
    | with_reducible apply gE_FT
    | (with_reducible apply r_eql <;> intro _)
    | (with_reducible apply r_leq <;> intro _)
    | (with_reducible apply r_geq <;> intro _)
    | (with_reducible apply r_flss <;> intro _)
    | (with_reducible apply r_fgtr <;> intro _)
    | ((with_reducible apply r_bld); (· kernel_rfl))
    | ((with_reducible apply m_ext); (· rfl))
    | with_reducible apply jn_of
    | ((with_reducible refine r_pureB (c_hlc_May _) ?_ hs.has ?_ ?_); (· kernel_rfl); all_goals (intro _ w X hs1; replace hs := hs.trans hs1))
    | ((with_reducible refine r_pureB (c_mvcc_TxnMay _) ?_ hs.has ?_ ?_); (· kernel_rfl); all_goals (intro _ w X hs1; replace hs := hs.trans hs1))
    | ((with_reducible refine r_pureB (c_recs_decided _ _) ?_ hs.has ?_ ?_); (· kernel_rfl); all_goals (intro _ w X hs1; replace hs := hs.trans hs1))
    | ((with_reducible refine r_pure (c_place_Point _) ?_ hs.has ?_); (· kernel_rfl); intro w X hs1; replace hs := hs.trans hs1)
    | ((with_reducible refine r_pureB (c_recs_ranges _) ?_ hs.has ?_ ?_); (· kernel_rfl); all_goals (intro _ w X hs1; replace hs := hs.trans hs1))
    | ((with_reducible refine r_pureB (c_recs_moment _) ?_ hs.has ?_ ?_); (· kernel_rfl); all_goals (intro _ w X hs1; replace hs := hs.trans hs1))
    | (refine r_ct0B (d_recs_StateMay  (s := r.state) (by first | assumption | exact Sl.mv (by assumption) (by (first | exact Mv.refl _ _ | exact Since.mv (by assumption) | exact Since.mv (Since.trans (by assumption) (by assumption)))) | exact Pends.mv (by assumption) (by (first | exact Mv.refl _ _ | exact Since.mv (by assumption) | exact Since.mv (Since.trans (by assumption) (by assumption)))) | exact Hists.mv (by assumption) (by (first | exact Mv.refl _ _ | exact Since.mv (by assumption) | exact Since.mv (Since.trans (by assumption) (by assumption)))) | exact Rec.at.mv (by assumption) (by (first | exact Mv.refl _ _ | exact Since.mv (by assumption) | exact Since.mv (Since.trans (by assumption) (by assumption)))) | exact Own.sl (by assumption) | exact Cells.mv (by assumption) (by (first | exact Mv.refl _ _ | exact Since.mv (by assumption) | exact Since.mv (Since.trans (by assumption) (by assumption)))) | exact Cells.mv (RowIs.cells (by assumption)) (by (first | exact Mv.refl _ _ | exact Since.mv (by assumption) | exact Since.mv (Since.trans (by assumption) (by assumption)))) | omega) (by first | assumption | exact Sl.mv (by assumption) (by (first | exact Mv.refl _ _ | exact Since.mv (by assumption) | exact Since.mv (Since.trans (by assumption) (by assumption)))) | exact Pends.mv (by assumption) (by (first | exact Mv.refl _ _ | exact Since.mv (by assumption) | exact Since.mv (Since.trans (by assumption) (by assumption)))) | exact Hists.mv (by assumption) (by (first | exact Mv.refl _ _ | exact Since.mv (by assumption) | exact Since.mv (Since.trans (by assumption) (by assumption)))) | exact Rec.at.mv (by assumption) (by (first | exact Mv.refl _ _ | exact Since.mv (by assumption) | exact Since.mv (Since.trans (by assumption) (by assumption)))) | exact Own.sl (by assumption) | exact Cells.mv (by assumption) (by (first | exact Mv.refl _ _ | exact Since.mv (by assumption) | exact Since.mv (Since.trans (by assumption) (by assumption)))) | exact Cells.mv (RowIs.cells (by assumption)) (by (first | exact Mv.refl _ _ | exact Since.mv (by assumption) | exact Since.mv (Since.trans (by assumption) (by assumption)))) | omega) hsm.state) (by kernel_rfl) hs.has ?_ ?_ <;> (intro _ w X hs1; replace hs := hs.trans hs1))
    | (refine r_ct0V (d_mvcc_PendingMay  (p := ⟨r.txn,r.stamp,r.reads,r.writes⟩) (by first | assumption | exact Sl.mv (by assumption) (by (first | exact Mv.refl _ _ | exact Since.mv (by assumption) | exact Since.mv (Since.trans (by assumption) (by assumption)))) | exact Pends.mv (by assumption) (by (first | exact Mv.refl _ _ | exact Since.mv (by assumption) | exact Since.mv (Since.trans (by assumption) (by assumption)))) | exact Hists.mv (by assumption) (by (first | exact Mv.refl _ _ | exact Since.mv (by assumption) | exact Since.mv (Since.trans (by assumption) (by assumption)))) | exact Rec.at.mv (by assumption) (by (first | exact Mv.refl _ _ | exact Since.mv (by assumption) | exact Since.mv (Since.trans (by assumption) (by assumption)))) | exact Own.sl (by assumption) | exact Cells.mv (by assumption) (by (first | exact Mv.refl _ _ | exact Since.mv (by assumption) | exact Since.mv (Since.trans (by assumption) (by assumption)))) | exact Cells.mv (RowIs.cells (by assumption)) (by (first | exact Mv.refl _ _ | exact Since.mv (by assumption) | exact Since.mv (Since.trans (by assumption) (by assumption)))) | omega) (by first | assumption | exact Sl.mv (by assumption) (by (first | exact Mv.refl _ _ | exact Since.mv (by assumption) | exact Since.mv (Since.trans (by assumption) (by assumption)))) | exact Pends.mv (by assumption) (by (first | exact Mv.refl _ _ | exact Since.mv (by assumption) | exact Since.mv (Since.trans (by assumption) (by assumption)))) | exact Hists.mv (by assumption) (by (first | exact Mv.refl _ _ | exact Since.mv (by assumption) | exact Since.mv (Since.trans (by assumption) (by assumption)))) | exact Rec.at.mv (by assumption) (by (first | exact Mv.refl _ _ | exact Since.mv (by assumption) | exact Since.mv (Since.trans (by assumption) (by assumption)))) | exact Own.sl (by assumption) | exact Cells.mv (by assumption) (by (first | exact Mv.refl _ _ | exact Since.mv (by assumption) | exact Since.mv (Since.trans (by assumption) (by assumption)))) | exact Cells.mv (RowIs.cells (by assumption)) (by (first | exact Mv.refl _ _ | exact Since.mv (by assumption) | exact Since.mv (Since.trans (by assumption) (by assumption)))) | omega) hsm.writes) (by kernel_rfl) hs.has ?_; intro w X hs1; replace hs := hs.trans hs1)
    | (refine r_ct0B (d_recs_Parts  (by first | assumption | exact Sl.mv (by assumption) (by (first | exact Mv.refl _ _ | exact Since.mv (by assumption) | exact Since.mv (Since.trans (by assumption) (by assumption)))) | exact Pends.mv (by assumption) (by (first | exact Mv.refl _ _ | exact Since.mv (by assumption) | exact Since.mv (Since.trans (by assumption) (by assumption)))) | exact Hists.mv (by assumption) (by (first | exact Mv.refl _ _ | exact Since.mv (by assumption) | exact Since.mv (Since.trans (by assumption) (by assumption)))) | exact Rec.at.mv (by assumption) (by (first | exact Mv.refl _ _ | exact Since.mv (by assumption) | exact Since.mv (Since.trans (by assumption) (by assumption)))) | exact Own.sl (by assumption) | exact Cells.mv (by assumption) (by (first | exact Mv.refl _ _ | exact Since.mv (by assumption) | exact Since.mv (Since.trans (by assumption) (by assumption)))) | exact Cells.mv (RowIs.cells (by assumption)) (by (first | exact Mv.refl _ _ | exact Since.mv (by assumption) | exact Since.mv (Since.trans (by assumption) (by assumption)))) | omega)) (by kernel_rfl) hs.has ?_ ?_ <;> (intro _ w X hs1; replace hs := hs.trans hs1))
    | (refine r_ct0B (d_recs_pairs  (by first | assumption | exact Sl.mv (by assumption) (by (first | exact Mv.refl _ _ | exact Since.mv (by assumption) | exact Since.mv (Since.trans (by assumption) (by assumption)))) | exact Pends.mv (by assumption) (by (first | exact Mv.refl _ _ | exact Since.mv (by assumption) | exact Since.mv (Since.trans (by assumption) (by assumption)))) | exact Hists.mv (by assumption) (by (first | exact Mv.refl _ _ | exact Since.mv (by assumption) | exact Since.mv (Since.trans (by assumption) (by assumption)))) | exact Rec.at.mv (by assumption) (by (first | exact Mv.refl _ _ | exact Since.mv (by assumption) | exact Since.mv (Since.trans (by assumption) (by assumption)))) | exact Own.sl (by assumption) | exact Cells.mv (by assumption) (by (first | exact Mv.refl _ _ | exact Since.mv (by assumption) | exact Since.mv (Since.trans (by assumption) (by assumption)))) | exact Cells.mv (RowIs.cells (by assumption)) (by (first | exact Mv.refl _ _ | exact Since.mv (by assumption) | exact Since.mv (Since.trans (by assumption) (by assumption)))) | omega)) (by kernel_rfl) hs.has ?_ ?_ <;> (intro _ w X hs1; replace hs := hs.trans hs1))
    | (refine r_ct0B ((d_recs_Apply (l := r.writes))  (by first | assumption | exact Sl.mv (by assumption) (by (first | exact Mv.refl _ _ | exact Since.mv (by assumption) | exact Since.mv (Since.trans (by assumption) (by assumption)))) | exact Pends.mv (by assumption) (by (first | exact Mv.refl _ _ | exact Since.mv (by assumption) | exact Since.mv (Since.trans (by assumption) (by assumption)))) | exact Hists.mv (by assumption) (by (first | exact Mv.refl _ _ | exact Since.mv (by assumption) | exact Since.mv (Since.trans (by assumption) (by assumption)))) | exact Rec.at.mv (by assumption) (by (first | exact Mv.refl _ _ | exact Since.mv (by assumption) | exact Since.mv (Since.trans (by assumption) (by assumption)))) | exact Own.sl (by assumption) | exact Cells.mv (by assumption) (by (first | exact Mv.refl _ _ | exact Since.mv (by assumption) | exact Since.mv (Since.trans (by assumption) (by assumption)))) | exact Cells.mv (RowIs.cells (by assumption)) (by (first | exact Mv.refl _ _ | exact Since.mv (by assumption) | exact Since.mv (Since.trans (by assumption) (by assumption)))) | omega) hsm.writes) (by kernel_rfl) hs.has ?_ ?_ <;> (intro _ w X hs1; replace hs := hs.trans hs1))
  all_goals
    (with_reducible refine fin_ret0 hs ?_)
    intro wa hk9
    unfold Rec.fieldsOk
    repeat (first | rw [if_pos (by omega)] | rw [if_neg (by omega)])
    simp_all [pointOk, rangeNo, one64] <;> omega
def Rec.err (r : Rec) : Int := if !r.strip.2 then 7 else if !r.strip.1.isZero || !r.fieldsOk then 4 else 0
theorem d_recs_May {w : World} {X : XS} {r : Rec} {vr vw vp vq vh vd : Value} (h : r.at w X vr vw vp vq vh vd) (hsm : r.small) :
    Ct Tryz.prog 58 #[r.v vr vw vp vq vh vd] w X nX fun v _ _ => v = I r.err := by
  intro w0 hk
  have h := h.mv hk.mvo
  apply ok_recs_May; unfold vc_recs_May
  have hs := Since.init w0
  refine r_ct0 (d_recs_without h) (by kernel_rfl) hs.has ?_
  rintro v wa w X ⟨vr', vw', vp', vq', vh', vd', rfl, hat⟩ hle hin hs1
  replace hs := hs.trans hs1
  have q1 := hat.1.one
  have q2 := hat.2.1.one
  have q3 := hat.2.2.1.one
  have q4 := hat.2.2.2.1.one
  have q5 := hat.2.2.2.2.1.one
  have q6 := hat.2.2.2.2.2.one
  cases hb : r.strip.2 <;>
  repeat' first
    | with_reducible apply condW_T
    | with_reducible apply condW_F
    | ((with_reducible apply m_sub); (· (simp only [Value.cells, List.toList_toArray, List.take_succ_cons, List.drop_succ_cons, List.take_zero, List.drop_zero, List.take_nil, setL, List.length_cons, List.length_nil, List.cons_append, List.nil_append, Nat.reduceAdd, Nat.zero_add]; try rfl)))
    | with_reducible apply un_box
    | with_reducible apply un_selF
    | with_reducible apply un_selTF
    | with_reducible apply grdV_onF
    | with_reducible apply grdW_offF
    | with_reducible apply rdW_pickT
    | with_reducible apply rdW_pickF
    | with_reducible apply gE_F
    | with_reducible apply gE_TF
    | with_reducible apply r_notT
    | with_reducible apply r_notF
    | ((with_reducible apply m_ext); (· rfl))
    | ((with_reducible apply m_chkc); (case h => (repeat' first | with_reducible apply all_one_cons | with_reducible exact all_one_nil | assumption | rfl | exact Sl.one (by assumption) | exact Rws.one (by assumption) | exact Sl.one (Own.sl (by assumption)))))
    | ((with_reducible apply chk_T); (· first | rfl | assumption | exact Sl.one (by assumption) | exact Rws.one (by assumption)))
    | with_reducible apply jn_of
    | ((first | (with_reducible refine fin_ret0 hs ?_) | (with_reducible refine fin_ret0 (hs0.trans hs) ?_)); intro wa hk; (simp [Rec.err, *]))
    | (refine r_ct0B (d_recs_zero  (r := r.strip.1) (by first | assumption | exact Sl.mv (by assumption) (by (first | exact Mv.refl _ _ | exact Since.mv (by assumption) | exact Since.mv (Since.trans (by assumption) (by assumption)))) | exact Pends.mv (by assumption) (by (first | exact Mv.refl _ _ | exact Since.mv (by assumption) | exact Since.mv (Since.trans (by assumption) (by assumption)))) | exact Hists.mv (by assumption) (by (first | exact Mv.refl _ _ | exact Since.mv (by assumption) | exact Since.mv (Since.trans (by assumption) (by assumption)))) | exact Rec.at.mv (by assumption) (by (first | exact Mv.refl _ _ | exact Since.mv (by assumption) | exact Since.mv (Since.trans (by assumption) (by assumption)))) | exact Own.sl (by assumption) | exact Cells.mv (by assumption) (by (first | exact Mv.refl _ _ | exact Since.mv (by assumption) | exact Since.mv (Since.trans (by assumption) (by assumption)))) | exact Cells.mv (RowIs.cells (by assumption)) (by (first | exact Mv.refl _ _ | exact Since.mv (by assumption) | exact Since.mv (Since.trans (by assumption) (by assumption)))) | omega)) (by kernel_rfl) hs.has ?_ ?_ <;> (intro _ w X hs1; replace hs := hs.trans hs1))
    | (refine r_ct0B ((d_recs_fields (r := r))  (h.mv (Since.mv hs)) hsm) (by kernel_rfl) hs.has ?_ ?_ <;> (intro _ w X hs1; replace hs := hs.trans hs1))
end Go.Proofs.YtnphlhpdikmpiaaGreat
namespace Go.Proofs.YtnphlhpdikmpiaaGreat
open Go.Eng
set_option maxRecDepth 100000
set_option maxHeartbeats 1000000
set_option linter.unusedVariables false
set_option linter.unusedSimpArgs false
attribute [local irreducible] un jn chk fld ld1 ldA st1 ixS lnS lnT bld cvI cvF ixA bsS apS rdV rdW grdW eW eV eU eC eF gE condW fin pickN nilN binS vS lp0 lp1 lp2 lp3 lp4 lp5 lp6 lp7 nx0 nx1 nx2 nx3 nx4 nx5 nx6 nx7
structure Opn where
  p : Pend
  at' : Int
  br : Option Nat
  bw : Option Nat
abbrev Opn.v (x : Opn) (vr vw : Value) : Value := .agg #[I x.p.txn.coord, I x.p.txn.life, I x.p.txn.sq, I x.p.stamp.wall, I x.p.stamp.logic, I x.p.stamp.node, vr, vw, I x.at']
def rdOpen (w : World) (A : XS) (v : Value) (x : Opn) : Prop := ∃ vr vw, v = x.v vr vw ∧ Own w A 0 9 1 vr (x.p.reads.map S1) ∧ Own w A 0 66 4 vw (x.p.writes.map KV.l) ∧
  vr.ownBlock = x.br ∧ vw.ownBlock = x.bw
theorem rdOpen.mv : MovesV rdOpen := fun _ _ _ _ _ _ ⟨vr, vw, h, h1, h2, h3⟩ m => ⟨vr, vw, h, h1.mv m, h2.mv m, h3⟩
def sepB (a b : Option Nat) : Prop := ∀ g, a = some g → b ≠ some g
def Opn.sep (x y : Opn) : Prop := sepB x.br y.br ∧ sepB x.br y.bw ∧ sepB x.bw y.br ∧ sepB x.bw y.bw
structure TailS where
  id : Int
  next : Int
  closed : Stamp
abbrev TailM := List (Txn × Opn)
structure TailIs (w : World) (X A : XS) (tb mb : Nat) (s : TailS) (m : TailM) : Prop where
  box : RowIs w X tb [I s.id, I s.next, I s.closed.wall, I s.closed.logic, I s.closed.node, .map (some mb)] 78
  opn : MapR w X A mb (fun k : Txn => k.v) rdOpen m
  sub : ∀ k, A k → X k
  off : ∀ k, A k → k ≠ tb ∧ k ≠ mb
  ne : tb ≠ mb
theorem TailIs.mv {w w' : World} {X Y A : XS} {tb mb : Nat} {s : TailS} {m : TailM} (h : TailIs w X A tb mb s m) (hX : ∀ k, X k → k < w.heap.size) (v : Mv X w Y w') : TailIs w' Y A tb mb s m := by
  have ma : Mv A w A w' := fun k hk hl => ⟨hk, (v k (h.sub k hk) hl).2⟩
  exact ⟨h.box.mv v, h.opn.mv rdOpen.mv v ma, fun k hk => (v k (h.sub k hk) (hX k (h.sub k hk))).1, h.off, h.ne⟩
theorem TailIs.grow {w : World} {X A A' : XS} {tb mb : Nat} {s : TailS} {m : TailM} (h : TailIs w X A tb mb s m) (hA : ∀ k, A k → A' k) (hs : ∀ k, A' k → X k ∧ k ≠ tb ∧ k ≠ mb) : TailIs w X A' tb mb s m :=
  ⟨h.box, h.opn.mv rdOpen.mv (Mv.refl _ _) (Mv.sub hA), fun k hk => (hs k hk).1, fun k hk => (hs k hk).2, h.ne⟩
theorem d_tail_Next {w : World} {X A : XS} {tb mb : Nat} {s : TailS} {m : TailM} (h : TailIs w X A tb mb s m) (hX : ∀ k, X k → k < w.heap.size) :
    Ct Tryz.prog 15 #[ptr tb 0] w X nX fun v _ _ => v = I s.next := by
  intro w0 hk
  replace h := h.mv hX hk.mvo
  have hbx := h.box
  apply ok_tail_Tail_Next; unfold vc_tail_Tail_Next
  have hs := Since.init w0
  repeat' first
    | with_reducible apply r_nil
    | ((with_reducible apply m_fld1); (· (first | assumption | exact RowIs.cells (by assumption))); (· kernel_rfl); (· rfl); intro _ _ _)
    | ((with_reducible apply m_ld1); (· (first | assumption | exact RowIs.cells (by assumption))); (· (first | exact Mv.refl _ _ | exact Since.mv (by assumption) | exact Since.mv (Since.trans (by assumption) (by assumption)))); (· kernel_rfl); (· rfl))
    | ((first | (with_reducible refine fin_ret0 hs ?_) | (with_reducible refine fin_ret0 (hs0.trans hs) ?_)); intro wa hk; rfl)
theorem d_tail_Closed {w : World} {X A : XS} {tb mb : Nat} {s : TailS} {m : TailM} (h : TailIs w X A tb mb s m) (hX : ∀ k, X k → k < w.heap.size) :
    Ct Tryz.prog 17 #[ptr tb 0] w X nX fun v _ _ => v = s.closed.v := by
  intro w0 hk
  replace h := h.mv hX hk.mvo
  have hbx := h.box
  apply ok_tail_Tail_Closed; unfold vc_tail_Tail_Closed
  have hs := Since.init w0
  repeat' first
    | ((with_reducible apply m_sub); (· (simp only [Value.cells, List.toList_toArray, List.take_succ_cons, List.drop_succ_cons, List.take_zero, List.drop_zero, List.take_nil, setL, List.length_cons, List.length_nil, List.cons_append, List.nil_append, Nat.reduceAdd, Nat.zero_add]; try rfl)))
    | with_reducible apply un_box
    | with_reducible apply r_nil
    | ((with_reducible apply m_fld); (· (first | assumption | exact RowIs.cells (by assumption))); (· kernel_rfl); (· rfl); (· (simp only [Value.cells, List.toList_toArray, List.take_succ_cons, List.drop_succ_cons, List.take_zero, List.drop_zero, List.take_nil, setL, List.length_cons, List.length_nil, List.cons_append, List.nil_append, Nat.reduceAdd, Nat.zero_add]; try rfl)); intro _ _ _)
    | ((with_reducible apply m_ldA); (· (first | assumption | exact RowIs.cells (by assumption))); (· (first | exact Mv.refl _ _ | exact Since.mv (by assumption) | exact Since.mv (Since.trans (by assumption) (by assumption)))); (· kernel_rfl); (· rfl))
    | ((with_reducible apply m_chkc); (case h => (repeat' first | with_reducible apply all_one_cons | with_reducible exact all_one_nil | assumption | rfl | exact Sl.one (by assumption) | exact Rws.one (by assumption) | exact Sl.one (Own.sl (by assumption)))))
    | ((with_reducible apply chk_T); (· first | rfl | assumption | exact Sl.one (by assumption) | exact Rws.one (by assumption)))
    | ((first | (with_reducible refine fin_ret0 hs ?_) | (with_reducible refine fin_ret0 (hs0.trans hs) ?_)); intro wa hk; rfl)
def needGo (n : Int) (m : TailM) : Int := m.foldl (fun n x => min n x.2.at') n
def resGo (s : Stamp) (m : TailM) : Stamp := m.foldl (fun s x => if x.2.p.stamp.prior.1.cmp s < 0 then x.2.p.stamp.prior.1 else s) s
theorem d_tail_New {w : World} {X : XS} (id next : Int) :
    Ct Tryz.prog 7 #[I id, I next] w X nX fun v wa w' =>
      if id < 1 ∨ id > 12 ∨ next < 1 ∨ next > 100000000 then v = .tuple #[.pointer none, I 1]
      else ∃ tb mb, v = .tuple #[ptr tb 0, I 0] ∧ TailIs w' (made wa w') nX tb mb ⟨id, next, .zero⟩ [] := by
  intro w0 hk
  apply ok_tail_New; unfold vc_tail_New
  have hs := Since.init w0
  repeat' first
    | with_reducible apply condW_T
    | with_reducible apply condW_F
    | with_reducible apply un_selF
    | with_reducible apply un_selTF
    | with_reducible apply grdV_onF
    | with_reducible apply grdW_offF
    | with_reducible apply rdW_pickT
    | with_reducible apply rdW_pickF
    | (with_reducible apply r_lss <;> intro _)
    | (with_reducible apply r_gtr <;> intro _)
    | ((first | (with_reducible refine fin_ret0 hs ?_) | (with_reducible refine fin_ret0 (hs0.trans hs) ?_)); intro wa hk; (dsimp only; rw [if_pos (by omega)]))
  refine m_makeMap (kv := fun k : Txn => k.v) rdOpen nX hs.has fun mb w1 X1 hmb hs1 hm1 => ?_
  have hmb1 := hm1.x
  replace hs := hs.trans hs1
  have hsz1 := hs.kp.size
  repeat' first
    | ((with_reducible apply r_bld); (· kernel_rfl))
    | ((with_reducible apply m_boxA); (case hX => exact hs.has); intro bx w X hbx hs1 hrow; have hs0 := hs.trans hs1; replace hs := Since.refl' hs1.has)
  refine fin_ret0 (hs0.trans hs) ?_
  intro wa hk
  dsimp only
  rw [if_neg (by omega)]
  have hrl := (hrow.kp hk).lt
  have hkp := ‹Since X1 w1 _ _›.kp.trans (hk.less ‹Since X1 w1 _ _›.sub)
  have hsz4 := hkp.size
  exact ⟨bx, mb, rfl, hrow.own.mv (Mv.one hk hrow.1 ⟨by omega, hrl⟩), hm1.own.mv rdOpen.mv (Mv.one hkp hmb1.1 ⟨hmb, by omega⟩) (fun _ h => h.elim), fun k hk => hk.elim, fun k hk => hk.elim, by omega⟩
end Go.Proofs.YtnphlhpdikmpiaaGreat
namespace Go.Proofs.YtnphlhpdikmpiaaGreat
open Go.Eng
set_option maxRecDepth 100000
set_option maxHeartbeats 1000000
set_option linter.unusedVariables false
set_option linter.unusedSimpArgs false
attribute [local irreducible] un jn chk fld ld1 ldA st1 ixS lnS lnT bld cvI cvF ixA bsS apS rdV rdW grdW eW eV eU eC eF gE condW fin pickN nilN binS vS lp0 lp1 lp2 lp3 lp4 lp5 lp6 lp7 nx0 nx1 nx2 nx3 nx4 nx5 nx6 nx7
theorem prior_comm (p q s : Stamp) : (if q.cmp (if p.cmp s < 0 then p else s) < 0 then q else (if p.cmp s < 0 then p else s)) = (if p.cmp (if q.cmp s < 0 then q else s) < 0 then p else (if q.cmp s < 0 then q else s)) := by
  have key : ∀ a b : Stamp, a.cmp b < 0 ↔ (a.wall < b.wall ∨ a.wall = b.wall ∧ (a.logic < b.logic ∨ a.logic = b.logic ∧ a.node < b.node)) := by
    intro a b; simp only [Stamp.cmp]; grind
  have ext : ∀ a b : Stamp, a.wall = b.wall → a.logic = b.logic → a.node = b.node → a = b := fun a b h1 h2 h3 => Stamp.ext h1 h2 h3
  by_cases h1 : p.cmp s < 0 <;> by_cases h2 : q.cmp s < 0 <;> simp only [h1, h2, if_true, if_false]
  · by_cases h3 : q.cmp p < 0 <;> by_cases h4 : p.cmp q < 0 <;> simp only [h3, h4, if_true, if_false]
    · rw [key] at h3 h4; omega
    · rw [key] at h3 h4; exact (ext _ _ (by omega) (by omega) (by omega)).symm
  · by_cases h3 : q.cmp p < 0
    · rw [key] at h1 h2 h3; omega
    · simp only [h3, if_false]
  · by_cases h3 : p.cmp q < 0
    · rw [key] at h1 h2 h3; omega
    · simp only [h3, if_false]
theorem needGo_split {l : TailM} {k : Txn} {a : Opn} (u : Int) (hn : (l.map (·.1)).Nodup) (h : (k, a) ∈ l) : needGo u l = needGo (min u a.at') (l.filter fun y => decide (y.1 ≠ k)) :=
  fold_split (f := fun n (x : Txn × Opn) => min n x.2.at') (fun s x y => by omega) u hn h
theorem resGo_split {l : TailM} {k : Txn} {a : Opn} (u : Stamp) (hn : (l.map (·.1)).Nodup) (h : (k, a) ∈ l) :
    resGo u l = resGo (if a.p.stamp.prior.1.cmp u < 0 then a.p.stamp.prior.1 else u) (l.filter fun y => decide (y.1 ≠ k)) :=
  fold_split (f := fun s (x : Txn × Opn) => if x.2.p.stamp.prior.1.cmp s < 0 then x.2.p.stamp.prior.1 else s) (fun s x y => prior_comm _ _ _) u hn h
theorem d_tail_Need {w : World} {X A : XS} {tb mb : Nat} {s : TailS} {m : TailM} (h : TailIs w X A tb mb s m) (hX : ∀ k, X k → k < w.heap.size) :
    Ct Tryz.prog 19 #[ptr tb 0] w X nX fun v _ _ => v = I (needGo s.next m) := by
  intro w0 hk
  replace h := h.mv hX hk.mvo
  have hbx := h.box
  apply ok_tail_Tail_Need; unfold vc_tail_Tail_Need
  have hs := Since.init w0
  repeat' first
    | with_reducible apply r_nil
    | ((with_reducible apply m_fld1); (· (first | assumption | exact RowIs.cells (by assumption))); (· kernel_rfl); (· rfl); intro _ _ _)
    | ((with_reducible apply m_ld1); (· (first | assumption | exact RowIs.cells (by assumption))); (· (first | exact Mv.refl _ _ | exact Since.mv (by assumption) | exact Since.mv (Since.trans (by assumption) (by assumption)))); (· kernel_rfl); (· rfl))
  refine m_range (kt := 39) (et := 90) h.opn rdOpen.mv h.sub (by kernel_rfl) hs.has fun r w X hr hs1 hit => ?_
  replace hs := hs.trans hs1
  refine lp1_of (fun n a w X => ∃ (left : TailM) (u : Int), a = I u ∧ n = left.length ∧ Since (old w0) w0 X w ∧ ItR w X A r mb (fun k : Txn => k.v) rdOpen m left ∧ needGo s.next m = needGo u left)
    m.length ⟨m, _, rfl, rfl, hs, hit, rfl⟩ ?_
  rintro n a w X ⟨left, u, rfl, rfl, hs, hit, hw⟩
  refine m_next hit rdOpen.mv (fun k hk => ⟨hs.sub k (h.sub k hk), fun e => by have : k < w0.heap.size := h.sub k hk; omega⟩) hs.has (fun e0 w X hs1 => ?_) fun kx q v hmem w1 X1 hc hrd hit1 he => ?_
  · replace hs := hs.trans hs1
    repeat' first
      | with_reducible apply condW_F
      | ((with_reducible apply m_ext); (· rfl))
      | ((first | (with_reducible refine fin_ret0 hs ?_) | (with_reducible refine fin_ret0 (hs0.trans hs) ?_)); intro wa hk; (rw [hw, e0]; rfl))
  · have hs0 := hs.chg hc fun k hk e => by have : k < w0.heap.size := hk; omega
    have hA1 : ∀ k, A k → X1 k := fun k hk => hs0.sub k (h.sub k hk)
    obtain ⟨ur, uw, rfl, q1, q2, q3⟩ := hrd
    have o1 := q1.sl.one
    have o2 := q2.sl.one
    rw [needGo_split u hit.nodup hmem] at hw
    replace hs := Since.refl' hs0.has
    repeat' first
      | with_reducible apply condW_T
      | ((with_reducible apply m_ext); (· rfl))
    refine m_entry hs.has he fun w X hs1 => ?_
    replace hs := hs.trans hs1
    repeat' first
      | ((with_reducible apply un_cell); (· rfl))
      | with_reducible apply un_box
      | ((with_reducible apply m_ext); (· rfl))
      | ((with_reducible apply m_chkc); (case h => (repeat' first | with_reducible apply all_one_cons | with_reducible exact all_one_nil | assumption | rfl | exact Sl.one (by assumption) | exact Rws.one (by assumption) | exact Sl.one (Own.sl (by assumption)))))
      | ((with_reducible apply chk_T); (· first | rfl | assumption | exact Sl.one (by assumption) | exact Rws.one (by assumption)))
      | (with_reducible apply r_min)
    exact nx1_of _ (left_lt hmem) ⟨_, _, rfl, rfl, hs0.trans hs, hit1.mv rdOpen.mv (Since.mv hs) (Since.mvA hs hA1), hw⟩
theorem d_tail_Resolved {w : World} {X A : XS} {tb mb : Nat} {s : TailS} {m : TailM} (h : TailIs w X A tb mb s m) (hX : ∀ k, X k → k < w.heap.size) :
    Ct Tryz.prog 18 #[ptr tb 0] w X nX fun v _ _ => v = (resGo s.closed m).v := by
  intro w0 hk
  replace h := h.mv hX hk.mvo
  have hbx := h.box
  apply ok_tail_Tail_Resolved; unfold vc_tail_Tail_Resolved
  have hs := Since.init w0
  repeat' first
    | with_reducible apply un_box
    | with_reducible apply r_nil
    | ((with_reducible apply m_fld1); (· (first | assumption | exact RowIs.cells (by assumption))); (· kernel_rfl); (· rfl); intro _ _ _)
    | ((with_reducible apply m_fld); (· (first | assumption | exact RowIs.cells (by assumption))); (· kernel_rfl); (· rfl); (· (simp only [Value.cells, List.toList_toArray, List.take_succ_cons, List.drop_succ_cons, List.take_zero, List.drop_zero, List.take_nil, setL, List.length_cons, List.length_nil, List.cons_append, List.nil_append, Nat.reduceAdd, Nat.zero_add]; try rfl)); intro _ _ _)
    | ((with_reducible apply m_ld1); (· (first | assumption | exact RowIs.cells (by assumption))); (· (first | exact Mv.refl _ _ | exact Since.mv (by assumption) | exact Since.mv (Since.trans (by assumption) (by assumption)))); (· kernel_rfl); (· rfl))
    | ((with_reducible apply m_ldA); (· (first | assumption | exact RowIs.cells (by assumption))); (· (first | exact Mv.refl _ _ | exact Since.mv (by assumption) | exact Since.mv (Since.trans (by assumption) (by assumption)))); (· kernel_rfl); (· rfl))
    | ((with_reducible apply m_chkc); (case h => (repeat' first | with_reducible apply all_one_cons | with_reducible exact all_one_nil | assumption | rfl | exact Sl.one (by assumption) | exact Rws.one (by assumption) | exact Sl.one (Own.sl (by assumption)))))
    | ((with_reducible apply chk_T); (· first | rfl | assumption | exact Sl.one (by assumption) | exact Rws.one (by assumption)))
  refine m_range (kt := 39) (et := 90) h.opn rdOpen.mv h.sub (by kernel_rfl) hs.has fun r w X hr hs1 hit => ?_
  replace hs := hs.trans hs1
  refine lp1_of (fun n a w X => ∃ (left : TailM) (u : Stamp), a = u.v ∧ n = left.length ∧ Since (old w0) w0 X w ∧ ItR w X A r mb (fun k : Txn => k.v) rdOpen m left ∧ resGo s.closed m = resGo u left)
    m.length ⟨m, _, rfl, rfl, hs, hit, rfl⟩ ?_
  rintro n a w X ⟨left, u, rfl, rfl, hs, hit, hw⟩
  refine m_next hit rdOpen.mv (fun k hk => ⟨hs.sub k (h.sub k hk), fun e => by have : k < w0.heap.size := h.sub k hk; omega⟩) hs.has (fun e0 w X hs1 => ?_) fun kx q v hmem w1 X1 hc hrd hit1 he => ?_
  · replace hs := hs.trans hs1
    repeat' first
      | with_reducible apply condW_F
      | ((with_reducible apply m_sub); (· (simp only [Value.cells, List.toList_toArray, List.take_succ_cons, List.drop_succ_cons, List.take_zero, List.drop_zero, List.take_nil, setL, List.length_cons, List.length_nil, List.cons_append, List.nil_append, Nat.reduceAdd, Nat.zero_add]; try rfl)))
      | with_reducible apply un_box
      | ((with_reducible apply m_ext); (· rfl))
      | ((with_reducible apply m_chkc); (case h => (repeat' first | with_reducible apply all_one_cons | with_reducible exact all_one_nil | assumption | rfl | exact Sl.one (by assumption) | exact Rws.one (by assumption) | exact Sl.one (Own.sl (by assumption)))))
      | ((with_reducible apply chk_T); (· first | rfl | assumption | exact Sl.one (by assumption) | exact Rws.one (by assumption)))
      | ((first | (with_reducible refine fin_ret0 hs ?_) | (with_reducible refine fin_ret0 (hs0.trans hs) ?_)); intro wa hk; (rw [hw, e0]; rfl))
  · have hs0 := hs.chg hc fun k hk e => by have : k < w0.heap.size := hk; omega
    have hA1 : ∀ k, A k → X1 k := fun k hk => hs0.sub k (h.sub k hk)
    obtain ⟨ur, uw, rfl, q1, q2, q3⟩ := hrd
    have o1 := q1.sl.one
    have o2 := q2.sl.one
    rw [resGo_split u hit.nodup hmem] at hw
    replace hs := Since.refl' hs0.has
    repeat' first
      | with_reducible apply condW_T
      | ((with_reducible apply m_ext); (· rfl))
      | with_reducible apply jn_of
    refine m_entry hs.has he fun w X hs1 => ?_
    replace hs := hs.trans hs1
    repeat' first
      | with_reducible apply condW_T
      | with_reducible apply condW_F
      | ((with_reducible apply m_sub); (· (simp only [Value.cells, List.toList_toArray, List.take_succ_cons, List.drop_succ_cons, List.take_zero, List.drop_zero, List.take_nil, setL, List.length_cons, List.length_nil, List.cons_append, List.nil_append, Nat.reduceAdd, Nat.zero_add]; try rfl)))
      | with_reducible apply un_box
      | (with_reducible apply r_lss <;> intro _)
      | ((with_reducible apply m_ext); (· rfl))
      | ((with_reducible apply m_chkc); (case h => (repeat' first | with_reducible apply all_one_cons | with_reducible exact all_one_nil | assumption | rfl | exact Sl.one (by assumption) | exact Rws.one (by assumption) | exact Sl.one (Own.sl (by assumption)))))
      | ((with_reducible apply chk_T); (· first | rfl | assumption | exact Sl.one (by assumption) | exact Rws.one (by assumption)))
      | ((with_reducible refine r_pure (c_hlc_Prior _) ?_ hs.has ?_); (· kernel_rfl); intro w X hs1; replace hs := hs.trans hs1)
      | ((with_reducible refine r_pure (c_hlc_Compare _ _) ?_ hs.has ?_); (· kernel_rfl); intro w X hs1; replace hs := hs.trans hs1)
    all_goals
      refine nx1_of _ (left_lt hmem) ⟨_, _, ?_, rfl, hs0.trans hs, hit1.mv rdOpen.mv (Since.mv hs) (Since.mvA hs hA1), hw⟩
    all_goals simp [*]
end Go.Proofs.YtnphlhpdikmpiaaGreat
namespace Go.Proofs.YtnphlhpdikmpiaaGreat
open Go.Eng
set_option maxRecDepth 100000
set_option maxHeartbeats 1000000
set_option linter.unusedVariables false
set_option linter.unusedSimpArgs false
attribute [local irreducible] un jn chk fld ld1 ldA st1 ixS lnS lnT bld cvI cvF ixA bsS apS rdV rdW grdW eW eV eU eC eF gE condW fin pickN nilN binS vS lp0 lp1 lp2 lp3 lp4 lp5 lp6 lp7 nx0 nx1 nx2 nx3 nx4 nx5 nx6 nx7
def mayErr (s : TailS) (m : TailM) (n : Int) (r : Rec) : Int :=
  if n ≠ s.next ∨ n > 99999999 then 14
  else if r.err ≠ 0 then 4
  else if r.kind = 1 then (if r.state.range.id ≠ s.id then 4 else if r.state.pend.any (fun p => (getM p.txn m).isSome) then 9 else 0)
  else if r.kind = 3 then (if (getM r.txn m).isSome then 9 else 0)
  else if r.kind = 2 ∨ r.kind = 4 ∨ r.kind = 5 ∨ r.kind = 6 ∨ r.kind = 7 then 0 else 4
theorem d_tail_may {w : World} {X A : XS} {tb mb : Nat} {s : TailS} {m : TailM} {n : Int} {r : Rec} {vr vw vp vq vh vd : Value} (h : TailIs w X A tb mb s m) (hX : ∀ k, X k → k < w.heap.size)
    (ha : r.at w X vr vw vp vq vh vd) (hsm : r.small) :
    Ct Tryz.prog 26 #[ptr tb 0, I n, r.v vr vw vp vq vh vd] w X nX fun v _ _ => v = I (mayErr s m n r) := by
  intro w0 hk
  replace h := h.mv hX hk.mvo
  replace ha := ha.mv hk.mvo
  have hbx := h.box
  have h6 := ha.2.2.2.2.2
  have hl6 := h6.len
  apply ok_tail_Tail_may; unfold vc_tail_Tail_may
  have hs := Since.init w0
  have zo : Value := .agg #[I 0, I 0, I 0, I 0, I 0, I 0, .slice none 0 0, .slice none 0 0, I 0]
  repeat' first
    | with_reducible apply condW_T
    | with_reducible apply condW_F
    | with_reducible apply un_selF
    | with_reducible apply un_selTF
    | with_reducible apply grdV_onF
    | with_reducible apply grdW_offF
    | with_reducible apply rdW_pickT
    | with_reducible apply rdW_pickF
    | with_reducible apply r_nil
    | (with_reducible apply r_eql <;> intro _)
    | (with_reducible apply r_neq <;> intro _)
    | (with_reducible apply r_gtr <;> intro _)
    | ((with_reducible apply m_fld1); (· (first | assumption | exact RowIs.cells (by assumption))); (· kernel_rfl); (· rfl); intro _ _ _)
    | ((with_reducible apply m_ld1); (· (first | assumption | exact RowIs.cells (by assumption))); (· (first | exact Mv.refl _ _ | exact Since.mv (by assumption) | exact Since.mv (Since.trans (by assumption) (by assumption)))); (· kernel_rfl); (· rfl))
    | ((with_reducible apply m_lnR); (· assumption); (· kernel_rfl))
    | with_reducible apply jn_of
    | ((first | (with_reducible refine fin_ret0 hs ?_) | (with_reducible refine fin_ret0 (hs0.trans hs) ?_)); intro wa hk; (simp [mayErr, *] <;> omega))
    | (refine r_ct0V ((d_recs_May (r := r))  (by first | assumption | exact Sl.mv (by assumption) (by (first | exact Mv.refl _ _ | exact Since.mv (by assumption) | exact Since.mv (Since.trans (by assumption) (by assumption)))) | exact Pends.mv (by assumption) (by (first | exact Mv.refl _ _ | exact Since.mv (by assumption) | exact Since.mv (Since.trans (by assumption) (by assumption)))) | exact Hists.mv (by assumption) (by (first | exact Mv.refl _ _ | exact Since.mv (by assumption) | exact Since.mv (Since.trans (by assumption) (by assumption)))) | exact Rec.at.mv (by assumption) (by (first | exact Mv.refl _ _ | exact Since.mv (by assumption) | exact Since.mv (Since.trans (by assumption) (by assumption)))) | exact Own.sl (by assumption) | exact Cells.mv (by assumption) (by (first | exact Mv.refl _ _ | exact Since.mv (by assumption) | exact Since.mv (Since.trans (by assumption) (by assumption)))) | exact Cells.mv (RowIs.cells (by assumption)) (by (first | exact Mv.refl _ _ | exact Since.mv (by assumption) | exact Since.mv (Since.trans (by assumption) (by assumption)))) | omega) hsm) (by kernel_rfl) hs.has ?_; intro w X hs1; replace hs := hs.trans hs1)
  · refine lp1_of (fun n a w X => ∃ i : Nat, a = I (i : Nat) ∧ n = r.state.pend.length - i ∧ i ≤ r.state.pend.length ∧ Since (old w0) w0 X w ∧
      r.state.pend.any (fun p => (getM p.txn m).isSome) = (r.state.pend.drop i).any (fun p => (getM p.txn m).isSome)) r.state.pend.length ⟨0, rfl, rfl, Nat.zero_le _, hs, by simp⟩ ?_
    rintro n a w X ⟨i, rfl, rfl, hi, hs, hw⟩
    rcases at_or (r.state.pend) i with ⟨hlt, x, hx, hd⟩ | ⟨hge, hd⟩
    · rw [hd, List.any_cons] at hw
      repeat' first
        | ((with_reducible refine r_lssT ?_ ?_); (· omega))
        | with_reducible apply condW_T
        | ((with_reducible apply m_sub); (· (simp only [Value.cells, List.toList_toArray, List.take_succ_cons, List.drop_succ_cons, List.take_zero, List.drop_zero, List.take_nil, setL, List.length_cons, List.length_nil, List.cons_append, List.nil_append, Nat.reduceAdd, Nat.zero_add]; try rfl)))
        | with_reducible apply un_box
        | with_reducible apply r_nil
        | ((with_reducible apply m_fld1); (· (first | assumption | exact RowIs.cells (by assumption))); (· kernel_rfl); (· rfl); intro _ _ _)
        | ((with_reducible apply m_ld1); (· (first | assumption | exact RowIs.cells (by assumption))); (· (first | exact Mv.refl _ _ | exact Since.mv (by assumption) | exact Since.mv (Since.trans (by assumption) (by assumption)))); (· kernel_rfl); (· rfl))
        | ((with_reducible apply m_ldA); (· (first | assumption | exact RowIs.cells (by assumption))); (· (first | exact Mv.refl _ _ | exact Since.mv (by assumption) | exact Since.mv (Since.trans (by assumption) (by assumption)))); (· kernel_rfl); (· rfl))
        | ((with_reducible apply m_ixP); (· assumption); (try (case hz => rfl)); (case hr => first | assumption | exact List.getElem?_eq_getElem (by omega)); (try (case hz => omega)); (case ht => kernel_rfl); (case hs => kernel_rfl); intros)
        | ((with_reducible apply m_chkc); (case h => (repeat' first | with_reducible apply all_one_cons | with_reducible exact all_one_nil | assumption | rfl | exact Sl.one (by assumption) | exact Rws.one (by assumption) | exact Sl.one (Own.sl (by assumption)))))
        | ((with_reducible apply chk_T); (· first | rfl | assumption | exact Sl.one (by assumption) | exact Rws.one (by assumption)))
      refine m_mapGet (kv := fun k : Txn => k.v) (k := x.txn) (kt := 39) (et := 90) (.agg #[I 0, I 0, I 0, I 0, I 0, I 0, .slice none 0 0, .slice none 0 0, I 0]) (h.mv (fun _ h => h) (Since.mv hs)).opn key_txn (by kernel_rfl) (by kernel_rfl) (fun v q hg hrd => ?_) fun hg => ?_
      · obtain ⟨ur, uw, rfl, q1, q2, q3⟩ := hrd
        have o1 := q1.sl.one
        have o2 := q2.sl.one
        repeat' first
          | with_reducible apply condW_T
          | with_reducible apply un_box
          | ((with_reducible apply m_ext); (· rfl))
          | ((with_reducible apply m_chkc); (case h => (repeat' first | with_reducible apply all_one_cons | with_reducible exact all_one_nil | assumption | rfl | exact Sl.one (by assumption) | exact Rws.one (by assumption) | exact Sl.one (Own.sl (by assumption)))))
          | ((with_reducible apply chk_T); (· first | rfl | assumption | exact Sl.one (by assumption) | exact Rws.one (by assumption)))
          | ((first | (with_reducible refine fin_ret0 hs ?_) | (with_reducible refine fin_ret0 (hs0.trans hs) ?_)); intro wa hk; (simp [mayErr, hw, hg, *] <;> omega))
      · repeat' first
          | with_reducible apply condW_F
          | with_reducible apply un_box
          | ((with_reducible apply m_ext); (· rfl))
          | ((with_reducible apply m_chkc); (case h => (repeat' first | with_reducible apply all_one_cons | with_reducible exact all_one_nil | assumption | rfl | exact Sl.one (by assumption) | exact Rws.one (by assumption) | exact Sl.one (Own.sl (by assumption)))))
          | ((with_reducible apply chk_T); (· first | rfl | assumption | exact Sl.one (by assumption) | exact Rws.one (by assumption)))
          | ((with_reducible apply r_add); (· omega); (· omega))
          | ((with_reducible refine nx1_of ((r.state.pend).length - (i + 1)) ?_ ?_); (· omega); exact ⟨i + 1, by simp, rfl, by omega, hs, by rw [hw, hg]; rfl⟩)
    · rw [hd] at hw
      repeat' first
        | ((with_reducible refine r_lssF ?_ ?_); (· omega))
        | with_reducible apply condW_F
        | ((first | (with_reducible refine fin_ret0 hs ?_) | (with_reducible refine fin_ret0 (hs0.trans hs) ?_)); intro wa hk; (simp [mayErr, hw, *] <;> omega))
  · refine m_mapGet (kv := fun k : Txn => k.v) (k := r.txn) (kt := 39) (et := 90) (.agg #[I 0, I 0, I 0, I 0, I 0, I 0, .slice none 0 0, .slice none 0 0, I 0]) (h.mv (fun _ h => h) (Since.mv hs)).opn key_txn (by kernel_rfl) (by kernel_rfl) (fun v q hg hrd => ?_) fun hg => ?_
    · obtain ⟨ur, uw, rfl, q1, q2, q3⟩ := hrd
      have o1 := q1.sl.one
      have o2 := q2.sl.one
      repeat' first
        | with_reducible apply condW_T
        | with_reducible apply un_box
        | ((with_reducible apply m_ext); (· rfl))
        | ((with_reducible apply m_chkc); (case h => (repeat' first | with_reducible apply all_one_cons | with_reducible exact all_one_nil | assumption | rfl | exact Sl.one (by assumption) | exact Rws.one (by assumption) | exact Sl.one (Own.sl (by assumption)))))
        | ((with_reducible apply chk_T); (· first | rfl | assumption | exact Sl.one (by assumption) | exact Rws.one (by assumption)))
        | ((first | (with_reducible refine fin_ret0 hs ?_) | (with_reducible refine fin_ret0 (hs0.trans hs) ?_)); intro wa hk; (simp [mayErr, hg, *] <;> omega))
    · repeat' first
        | with_reducible apply condW_F
        | with_reducible apply un_box
        | ((with_reducible apply m_ext); (· rfl))
        | ((with_reducible apply m_chkc); (case h => (repeat' first | with_reducible apply all_one_cons | with_reducible exact all_one_nil | assumption | rfl | exact Sl.one (by assumption) | exact Rws.one (by assumption) | exact Sl.one (Own.sl (by assumption)))))
        | ((with_reducible apply chk_T); (· first | rfl | assumption | exact Sl.one (by assumption) | exact Rws.one (by assumption)))
        | ((first | (with_reducible refine fin_ret0 hs ?_) | (with_reducible refine fin_ret0 (hs0.trans hs) ?_)); intro wa hk; (simp [mayErr, hg, *] <;> omega))
def below (pt : Nat) (k : BA) : Bool := flt (placeOf k) pt
theorem d_hand_Halve {w : World} {X : XS} {a : Value} {xs : List KV} {pt : Nat} (ha : Sl w X 4 a (xs.map KV.l)) (hb : xs.length ≤ 2 ^ 40) (hkz : ∀ x ∈ xs, x.key.size ≤ 2 ^ 40) :
    Ct Tryz.prog 61 #[a, .float .f64 pt] w X nX fun v wa w' => ∃ va vb, v = .tuple #[va, vb] ∧
      Own w' (made wa w') wa.heap.size 66 4 va ((xs.filter fun x => below pt x.key).map KV.l) ∧ Own w' (made wa w') wa.heap.size 66 4 vb ((xs.filter fun x => !below pt x.key).map KV.l) := by
  intro w0 hk
  replace ha := ha.mv hk.mvo
  have hla := ha.len'
  apply ok_hand_Halve; unfold vc_hand_Halve
  have hs := Since.init w0
  repeat' first
    | ((with_reducible apply m_lnS); (· (first | assumption | exact Own.sl (by assumption))); (· kernel_rfl))
  refine lp3_of (fun n a b c w X => ∃ i : Nat, a = I (i : Nat) ∧ n = xs.length - i ∧ i ≤ xs.length ∧ Since (old w0) w0 X w ∧
    Own w X w0.heap.size 66 4 b (((xs.take i).filter fun x => !below pt x.key).map KV.l) ∧ Own w X w0.heap.size 66 4 c (((xs.take i).filter fun x => below pt x.key).map KV.l) ∧ sepB c.ownBlock b.ownBlock)
    xs.length ⟨0, rfl, rfl, Nat.zero_le _, hs, by simpa using Own.nil _ _ _ _ _, by simpa using Own.nil _ _ _ _ _, by intro g hg; cases hg⟩ ?_
  rintro n a b c w X ⟨i, rfl, rfl, hi, hs, hob, hoc, hsep⟩
  rcases at_or (xs) i with ⟨hlt, x, hx, hd⟩ | ⟨hge, hd⟩
  · have hkx := hkz x (List.mem_of_getElem? hx)
    have hlb : ((xs.take i).filter fun x => !below pt x.key).length ≤ i := Nat.le_trans (List.length_filter_le _ _) (by simp; omega)
    have hlc : ((xs.take i).filter fun x => below pt x.key).length ≤ i := Nat.le_trans (List.length_filter_le _ _) (by simp; omega)
    repeat' first
      | ((with_reducible refine r_lssT ?_ ?_); (· omega))
      | with_reducible apply condW_T
      | with_reducible apply condW_F
      | ((with_reducible apply un_cell); (· rfl))
      | ((with_reducible apply m_sub); (· (simp only [Value.cells, List.toList_toArray, List.take_succ_cons, List.drop_succ_cons, List.take_zero, List.drop_zero, List.take_nil, setL, List.length_cons, List.length_nil, List.cons_append, List.nil_append, Nat.reduceAdd, Nat.zero_add]; try rfl)))
      | with_reducible apply un_box
      | (with_reducible apply r_flss <;> intro _)
      | ((with_reducible apply m_ldA); (· (first | assumption | exact RowIs.cells (by assumption))); (· (first | exact Mv.refl _ _ | exact Since.mv (by assumption) | exact Since.mv (Since.trans (by assumption) (by assumption)))); (· kernel_rfl); (· rfl))
      | ((with_reducible apply m_ixS); (· (first | assumption | exact Own.sl (by assumption))); (try (case hz => rfl)); (case hr => first | assumption | exact List.getElem?_eq_getElem (by omega)); (try (case hz => omega)); (case ht => kernel_rfl); (case hs => kernel_rfl); intro _ _ _)
      | ((with_reducible apply m_chkc); (case h => (repeat' first | with_reducible apply all_one_cons | with_reducible exact all_one_nil | assumption | rfl | exact Sl.one (by assumption) | exact Rws.one (by assumption) | exact Sl.one (Own.sl (by assumption)))))
      | ((with_reducible apply chk_T); (· first | rfl | assumption | exact Sl.one (by assumption) | exact Rws.one (by assumption)))
      | ((with_reducible apply r_add); (· omega); (· omega))
      | ((with_reducible apply m_app1a); (case own => first | assumption | exact Own.since (by assumption) (by assumption)); (case hs => assumption); (case h0 => first | exact fun _ h => h | exact hs0.has); (case he => kernel_rfl); (case hk => rfl); (case h1 => (repeat' first | with_reducible apply all_one_cons | with_reducible exact all_one_nil | assumption | rfl | exact Sl.one (by assumption) | exact Rws.one (by assumption) | exact Sl.one (Own.sl (by assumption)))); (case hb => (simp only [List.length_map, List.length_take, List.length_append, List.length_cons, List.length_nil]; omega)); (case hl => (simp only [List.length_map, List.length_take, List.length_append, List.length_cons, List.length_nil]; omega)); intro acc w X hs1 ho hc hat; replace hs := hs1)
      | with_reducible apply jn_of
      | ((with_reducible refine r_pure (c_place_Of _ (by first | assumption | omega)) ?_ hs.has ?_); (· kernel_rfl); intro w X hs1; replace hs := hs.trans hs1)
    · have hbl : below pt x.key = true := ‹flt (placeOf x.key) pt = true›
      have hob1 := hob.since (by assumption)
      have hob2 := hob1.chg hc (fun g hg hgc => hsep g hgc hg)
      refine nx3_of (xs.length - (i + 1)) (by omega) ⟨i + 1, by simp, rfl, by omega, hs, ?_, ?_, ?_⟩
      · rw [List.take_add_one, hx]; simpa [List.filter_append, hbl] using hob2
      · rw [List.take_add_one, hx]; simpa [List.filter_append, hbl] using ho
      · rcases hat with e | ⟨g, e, hge⟩
        · rw [e]; exact hsep
        · intro g' hg' hb'
          rw [e] at hg'; cases hg'
          have := (hob1.ge hb').2; omega
    · have hbl : below pt x.key = false := ‹flt (placeOf x.key) pt = false›
      have hoc1 := hoc.since (by assumption)
      have hoc2 := hoc1.chg hc (fun g hg hgc => hsep g hg hgc)
      refine nx3_of (xs.length - (i + 1)) (by omega) ⟨i + 1, by simp, rfl, by omega, hs, ?_, ?_, ?_⟩
      · rw [List.take_add_one, hx]; simpa [List.filter_append, hbl] using ho
      · rw [List.take_add_one, hx]; simpa [List.filter_append, hbl] using hoc2
      · rcases hat with e | ⟨g, e, hge⟩
        · rw [e]; exact hsep
        · intro g' hg' hb'
          rw [e] at hb'; cases hb'
          have := (hoc1.ge hg').2; omega
  · rw [List.take_of_length_le hge] at hob hoc
    repeat' first
      | ((with_reducible refine r_lssF ?_ ?_); (· omega))
      | with_reducible apply condW_F
      | ((first | (with_reducible refine fin_ret0 hs ?_) | (with_reducible refine fin_ret0 (hs0.trans hs) ?_)); intro wa hk; (exact ⟨_, _, rfl, (hoc.kp hk).tight, (hob.kp hk).tight⟩))
end Go.Proofs.YtnphlhpdikmpiaaGreat
namespace Go.Proofs.YtnphlhpdikmpiaaGreat
open Go.Eng
set_option maxRecDepth 100000
set_option maxHeartbeats 1000000
set_option linter.unusedVariables false
set_option linter.unusedSimpArgs false
attribute [local irreducible] un jn chk fld ld1 ldA st1 ixS lnS lnT bld cvI cvF ixA bsS apS rdV rdW grdW eW eV eU eC eF gE condW fin pickN nilN binS vS lp0 lp1 lp2 lp3 lp4 lp5 lp6 lp7 nx0 nx1 nx2 nx3 nx4 nx5 nx6 nx7
theorem d_indexFunc_texts {w : World} {X A : XS} {a : Value} {xs : List BA} {f : FuncId} {cs : List Value} {p : BA → Bool} (ha : Sl w X 1 a (xs.map S1)) (hX : ∀ k, X k → k < w.heap.size) (hA : ∀ k, A k → X k) (hf : enters Tryz.prog f = true)
    (hp : ∀ x ∈ xs, Ct Tryz.prog f ((.string x) :: cs).toArray w A nX fun v _ _ => v = B (p x)) :
    Ct Tryz.prog 84 #[a, .func (.func f) #[] cs.toArray] w X nX fun v _ _ => v = I (idxOf p xs) := by
  intro w0 hk
  replace ha := ha.mv hk.mvo
  replace hp := fun x hx => (hp x hx).kp (hk.less hA)
  replace hA := fun k hk' => Nat.lt_of_lt_of_le (hX k (hA k hk')) hk.size
  have hla := ha.len'
  apply ok_slices_IndexFunc_sl_string_string; unfold vc_slices_IndexFunc_sl_string_string
  have hs := Since.init w0
  repeat' first
    | ((with_reducible apply m_lnS); (· (first | assumption | exact Own.sl (by assumption))); (· kernel_rfl))
  refine lp1_of (fun n a w X => ∃ i : Nat, a = I (i : Nat) ∧ n = (xs).length - i ∧ i ≤ (xs).length ∧ Since (old w0) w0 X w ∧ (∀ (j : Nat) x, j < i → xs[j]? = some x → p x = false)) (xs).length ⟨0, rfl, rfl, Nat.zero_le _, hs, by simp⟩ ?_
  rintro n a w X ⟨i, rfl, rfl, hi, hs, hw⟩
  rcases at_or (xs) i with ⟨hlt, x, hx, hd⟩ | ⟨hge, hd⟩
  · have hpx := hp x (List.mem_of_getElem? hx)
    repeat' first
      | ((with_reducible refine r_lssT ?_ ?_); (· omega))
      | with_reducible apply condW_T
      | with_reducible apply condW_F
      | ((with_reducible apply m_ld1); (· (first | assumption | exact RowIs.cells (by assumption))); (· (first | exact Mv.refl _ _ | exact Since.mv (by assumption) | exact Since.mv (Since.trans (by assumption) (by assumption)))); (· kernel_rfl); (· rfl))
      | ((with_reducible apply m_ixS); (· (first | assumption | exact Own.sl (by assumption))); (try (case hz => rfl)); (case hr => first | assumption | exact List.getElem?_eq_getElem (by omega)); (try (case hz => omega)); (case ht => kernel_rfl); (case hs => kernel_rfl); intro _ _ _)
      | ((with_reducible apply r_add); (· omega); (· omega))
      | ((with_reducible apply m_fun); (· rfl))
      | ((first | (with_reducible refine fin_ret0 hs ?_) | (with_reducible refine fin_ret0 (hs0.trans hs) ?_)); intro wa hk; (rw [idxOf_at hw hx ‹_›]))
      | ((with_reducible refine nx1_of ((xs).length - (i + 1)) ?_ ?_); (· omega); exact ⟨i + 1, by simp, rfl, by omega, hs, fun j y hj hy => by rcases Nat.lt_succ_iff_lt_or_eq.1 hj with h | h; exact hw j y h hy; subst h; rw [hx] at hy; cases hy; assumption⟩)
      | (refine r_ct0B (hpx.since (hs.less hA)) hf hs.has ?_ ?_ <;> (intro _ w X hs1; replace hs := hs.trans hs1))
  · repeat' first
      | ((with_reducible refine r_lssF ?_ ?_); (· omega))
      | with_reducible apply condW_F
      | ((first | (with_reducible refine fin_ret0 hs ?_) | (with_reducible refine fin_ret0 (hs0.trans hs) ?_)); intro wa hk; (rw [idxOf_none fun j x hj hx => hw j x (by omega) hx]))
theorem map_S1_flat (xs : List BA) : (xs.map S1).flatten = xs.map Value.string := by
  induction xs with
  | nil => rfl
  | cons x l ih => simp [ih]
theorem d_deleteFunc_texts {w : World} {X A : XS} {lo : Nat} {v : Value} {xs : List BA} {f : FuncId} {cs : List Value} {p : BA → Bool} (own : Own w X lo 9 1 v (xs.map S1)) (hX : ∀ k, X k → k < w.heap.size)
    (hA : ∀ k, A k → X k ∧ ¬ blk v k) (hf : enters Tryz.prog f = true)
    (hp : ∀ x ∈ xs, Ct Tryz.prog f ((.string x) :: cs).toArray w A nX fun v _ _ => v = B (p x)) :
    Ct Tryz.prog 62 #[v, .func (.func f) #[] cs.toArray] w X (blk v) fun v' _ w' =>
      Own w' (blk v) lo 9 1 v' ((xs.filter fun x => !p x).map S1) ∧ v'.ownBlock = v.ownBlock := by
  intro w0 hk
  have hp0 := hp
  replace own := own.mv hk.mvo
  replace hp := fun x hx => (hp x hx).kp (hk.less fun k h => (hA k h).1)
  replace hA : ∀ k, A k → out (blk v) w0 k := fun k hk' => ⟨Nat.lt_of_lt_of_le (hX k (hA k hk').1) hk.size, (hA k hk').2⟩
  have hla := own.sl.len'
  apply ok_slices_DeleteFunc_sl_string_string; unfold vc_slices_DeleteFunc_sl_string_string
  have hs := Since.out (blk v) w0
  refine r_ct0V (d_indexFunc_texts own.sl hs.has (fun k h => (hA k h).1) hf hp) (by kernel_rfl) hs.has fun w X hs1 => ?_
  have ownX := own.since hs1
  replace hs := hs.trans hs1
  repeat' first
    | with_reducible apply condW_T
    | with_reducible apply condW_F
    | (with_reducible apply r_eql <;> intro _)
  · have hi := ‹idxOf p xs = -1›
    refine fin_ret hs fun wa hk => ⟨?_, rfl⟩
    have hall : ∀ x ∈ xs, p x = false := by
      have := idxOf_any p xs
      rw [hi] at this
      intro x hx
      have h2 : xs.any p = false := this.symm
      simpa using List.any_eq_false.1 h2 x hx
    have : xs.filter (fun x => !p x) = xs := List.filter_eq_self.2 fun x hx => by simp [hall x hx]
    rw [this]
    exact ⟨ownX.1, (ownX.kp hk).2.1, fun g hg => hg⟩
  · obtain ⟨i0, x0, hi0, hx0, hp0', hbef⟩ := idxOf_some ‹¬ idxOf p xs = -1›
    have hi0l : i0 < xs.length := (List.getElem?_eq_some_iff.1 hx0).1
    rw [hi0]
    rcases ownX.row with ⟨_, he⟩ | ⟨g, cap, cells, hv, hlo, hrow, hnc, hcm, hcl, htk⟩
    · have : xs = [] := by simpa using he
      subst this; simp at hi0l
    rw [List.length_map] at hv hnc htk
    rw [map_S1_flat, Nat.mul_one] at htk
    rw [Nat.mul_one] at hcl
    subst hv
    have hblk : ∀ k, blk (.slice (some ⟨g, 0, none⟩) xs.length cap) k ↔ k = g := fun k => ⟨fun h => by simpa [blk, Value.ownBlock] using h.symm, fun h => by subst h; rfl⟩
    clear own ownX
    repeat' first
      | ((with_reducible apply r_add); (· omega); (· omega))
    refine lp2_of (fun n a b w X => ∃ (j i : Nat) (ys : List BA) (cells : List Value), a = I j ∧ b = I i ∧ n = xs.length - j ∧ i < j ∧ j ≤ xs.length ∧ ys.length = xs.length ∧ ys.take i = (xs.take j).filter (fun x => !p x) ∧ ys.drop j = xs.drop j ∧
      Since (out (blk (.slice (some ⟨g, 0, none⟩) xs.length cap)) w0) w0 X w ∧ RowIs w X g cells 9 ∧ cells.length = cap ∧ cells.take xs.length = ys.map Value.string)
      (xs.length - (i0 + 1)) ⟨i0 + 1, i0, xs, cells, by simp, rfl, rfl, by omega, by omega, rfl, ?_, rfl, hs, hrow, hcl, htk⟩ ?_
    · rw [List.take_add_one, hx0]
      simp only [Option.toList_some, List.filter_append, List.filter_cons, hp0', Bool.not_true, Bool.false_eq_true, if_false, List.filter_nil, List.append_nil]
      exact (List.filter_eq_self.2 fun y hy => by simp [hbef y hy]).symm
    rintro n a b w X ⟨j, i, ys, cells, rfl, rfl, rfl, hij, hj, hyl, htake, hdrop, hs, hrow, hcl, htk⟩
    have ownN : Own w X lo 9 1 (.slice (some ⟨g, 0, none⟩) xs.length cap) (ys.map S1) :=
      Own.of_row hrow hlo (by simp) (by simpa using hyl) hnc hcm (by simpa using hcl) (by rw [map_S1_flat, Nat.mul_one]; exact htk)
    rcases at_or xs j with ⟨hlt, x, hx, hd⟩ | ⟨hge, hd⟩
    · have hy : ys[j]? = some x := by
        have : (ys.drop j)[0]? = some x := by rw [hdrop, hd]; rfl
        simpa using this
      have hpx := hp x (List.mem_of_getElem? hx)
      have hyd : ys.drop (j + 1) = xs.drop (j + 1) := by
        have := congrArg List.tail hdrop
        simpa using this
      repeat' first
        | ((with_reducible refine r_lssT ?_ ?_); (· omega))
        | with_reducible apply condW_T
        | with_reducible apply condW_F
        | with_reducible apply r_notT
        | with_reducible apply r_notF
        | ((with_reducible apply m_ld1); (· (first | assumption | exact RowIs.cells (by assumption))); (· (first | exact Mv.refl _ _ | exact Since.mv (by assumption) | exact Since.mv (Since.trans (by assumption) (by assumption)))); (· kernel_rfl); (· rfl))
        | ((with_reducible apply m_lnS); (· (first | assumption | exact Own.sl (by assumption))); (· kernel_rfl))
        | ((with_reducible apply m_ixS); (· (first | assumption | exact Own.sl (by assumption))); (try (case hz => rfl)); (case hr => first | assumption | exact List.getElem?_eq_getElem (by omega)); (try (case hz => omega)); (case ht => kernel_rfl); (case hs => kernel_rfl); intro _ _ _)
        | ((with_reducible apply r_add); (· omega); (· omega))
        | ((with_reducible apply m_fun); (· rfl))
        | with_reducible apply jn_of
        | (refine r_ct0B (hpx.since (hs.less hA)) hf hs.has ?_ ?_ <;> (intro _ w X hs1; replace hs := hs.trans hs1; clear ownN))
      · refine nx2_of (xs.length - (j + 1)) (by omega) ⟨j + 1, i, ys, cells, by simp, rfl, rfl, by omega, by omega, hyl, ?_, hyd, hs, hrow.since (by assumption), hcl, htk⟩
        rw [List.take_add_one, hx, htake]; simp [*]
      · have hnp := ‹p x = false›
        have hrow2 := hrow.since (by assumption)
        refine m_ixO (i := i) rfl (by omega) (by kernel_rfl) (by kernel_rfl) ?_
        rw [Nat.mul_one]
        refine m_st1 hrow2 (by kernel_rfl) (by omega) rfl rfl hs.has fun w3 X3 hc hrow3 => ?_
        have hs3 := hs.chg hc fun k hk e => hk.2 ((hblk k).2 e)
        rw [show (Value.string x).cells.toList = [.string x] from rfl, setL_one (by omega)] at hrow3
        replace hs := hs3
        repeat' first
          | ((with_reducible apply r_add); (· omega); (· omega))
        have hil : i < ys.length := by omega
        refine nx2_of (xs.length - (j + 1)) (by omega) ⟨j + 1, i + 1, ys.set i x, cells.set i (.string x), by simp, by simp, rfl, by omega, by omega, by simpa using hyl, ?_, ?_, hs, hrow3, by simpa using hcl, ?_⟩
        · rw [List.take_add_one (l := xs), hx, List.filter_append, ← htake]
          have : (ys.set i x).take (i + 1) = ys.take i ++ [x] := by
            rw [List.take_add_one, List.take_set_of_le (Nat.le_refl _)]
            simp [hil]
          rw [this]; simp [hnp]
        · rw [List.drop_set_of_lt (by omega)]; exact hyd
        · rw [List.take_set, htk, List.map_set]
    · have hyi : i ≤ xs.length := by omega
      have htake' : ys.take i = xs.filter fun x => !p x := by rw [htake, List.take_of_length_le hge]
      repeat' first
        | ((with_reducible refine r_lssF ?_ ?_); (· omega))
        | with_reducible apply condW_F
        | ((with_reducible apply m_lnS); (· (first | assumption | exact Own.sl (by assumption))); (· kernel_rfl))
      refine m_slLo (k := 1) (i := i) rfl hyi hnc (by kernel_rfl) (by kernel_rfl) ?_
      refine m_clear (e := 9) (z := .string ⟨#[]⟩) (o := i) hrow (by kernel_rfl) (by kernel_rfl) rfl (by omega) hs.has _ (by
        by_cases hci : cap = i
        · right; omega
        · left; rw [if_neg hci, Nat.mul_one]) fun w3 X3 hc hrow3 => ?_
      have hs3 := hs.chg hc fun k hk e => hk.2 ((hblk k).2 e)
      refine m_slHi (i := i) rfl (by omega) (by kernel_rfl) (by kernel_rfl) ?_
      refine fin_ret hs3 fun wa hk9 => ⟨?_, rfl⟩
      have hlen : (xs.filter fun x => !p x).length = i := by rw [← htake', List.length_take]; omega
      have := Own.of_row (k := 1) (lo := lo) (cap := cap) (n := i) (rows := (xs.filter fun x => !p x).map S1) (hrow3.kp hk9) hlo (by intro r hr; obtain ⟨y, _, rfl⟩ := List.mem_map.1 hr; rfl) (by simpa using hlen) (by omega) hcm (by
          rw [Nat.mul_one]; unfold setL; simp; omega) (by
          rw [map_S1_flat, Nat.mul_one, ← htake']
          unfold setL
          rw [List.append_assoc, List.take_append_of_le_length (by rw [List.length_take]; omega), List.take_take, Nat.min_self]
          have := congrArg (List.take i) htk
          rw [List.take_take, Nat.min_eq_left hyi] at this
          rw [this, List.map_take])
      exact ⟨this.1, this.2.1, fun g' hg' => hg'⟩
end Go.Proofs.YtnphlhpdikmpiaaGreat
namespace Go.Proofs.YtnphlhpdikmpiaaGreat
open Go.Eng
set_option maxRecDepth 100000
set_option maxHeartbeats 1000000
set_option linter.unusedVariables false
set_option linter.unusedSimpArgs false
attribute [local irreducible] un jn chk fld ld1 ldA st1 ixS lnS lnT bld cvI cvF ixA bsS apS rdV rdW grdW eW eV eU eC eF gE condW fin pickN nilN binS vS lp0 lp1 lp2 lp3 lp4 lp5 lp6 lp7 nx0 nx1 nx2 nx3 nx4 nx5 nx6 nx7
theorem Own.loc {w w' : World} {X Y : XS} {lo e k : Nat} {v : Value} {rows : List (List Value)} (h : Own w X lo e k v rows) (hm : ∀ g, v.ownBlock = some g → Y g ∧ w'.heap[g]? = w.heap[g]?) : Own w' Y lo e k v rows :=
  Own.mv (X := blk v) ⟨h.1, h.2.1, fun _ hg => hg⟩ fun g hg _ => hm g hg
theorem rdOpen.loc {w w' : World} {A A' : XS} {v : Value} {x : Opn} (h : rdOpen w A v x) (hm : ∀ g, x.br = some g ∨ x.bw = some g → A' g ∧ w'.heap[g]? = w.heap[g]?) : rdOpen w' A' v x := by
  obtain ⟨vr, vw, hv, h1, h2, h3, h4⟩ := h
  exact ⟨vr, vw, hv, Own.loc h1 fun g hg => hm g (.inl (h3 ▸ hg)), Own.loc h2 fun g hg => hm g (.inr (h4 ▸ hg)), h3, h4⟩
theorem rdOpen.blk {w : World} {A : XS} {v : Value} {x : Opn} (h : rdOpen w A v x) {g : Nat} (hg : x.br = some g ∨ x.bw = some g) : A g ∧ g < w.heap.size := by
  obtain ⟨vr, vw, hv, h1, h2, h3, h4⟩ := h
  rcases hg with hg | hg
  · exact ⟨h1.2.2 g (h3.trans hg), (h1.ge (h3.trans hg)).2⟩
  · exact ⟨h2.2.2 g (h4.trans hg), (h2.ge (h4.trans hg)).2⟩
theorem MapR.all {κ α : Type} [DecidableEq κ] {w : World} {X A : XS} {b : Nat} {kv : κ → Value} {rd : World → XS → Value → α → Prop} {l : List (κ × α)} (h : MapR w X A b kv rd l) : ∀ x ∈ l, ∃ v, rd w A v x.2 := by
  obtain ⟨es, c, h1, h2⟩ := h
  clear h1 c
  induction es generalizing l with
  | nil => cases l with
    | nil => intro x hx; cases hx
    | cons y l => exact h2.elim
  | cons e es ih => cases l with
    | nil => exact h2.elim
    | cons y l =>
      intro x hx
      rcases List.mem_cons.1 hx with rfl | hx
      · exact ⟨_, h2.2.1⟩
      · exact ih h2.2.2 x hx
def fpM (m : TailM) : XS := fun k => ∃ x ∈ m, x.2.br = some k ∨ x.2.bw = some k
structure SepM (m : TailM) : Prop where
  two : ∀ x ∈ m, sepB x.2.br x.2.bw
  all : ∀ x ∈ m, ∀ y ∈ m, y.1 ≠ x.1 → x.2.sep y.2
theorem sepB.symm {a b : Option Nat} (h : sepB a b) : sepB b a := fun g hb ha => h g ha hb
theorem Opn.sep.symm {x y : Opn} (h : x.sep y) : y.sep x := ⟨h.1.symm, h.2.2.1.symm, h.2.1.symm, h.2.2.2.symm⟩
structure Pend.ok (p : Pend) : Prop where
  r : p.reads.length ≤ 2 ^ 40
  w : p.writes.length ≤ 2 ^ 40
  rk : ∀ k ∈ p.reads, k.size ≤ 2 ^ 40
  wk : ∀ x ∈ p.writes, x.key.size ≤ 2 ^ 40
def OkM (m : TailM) : Prop := ∀ x ∈ m, x.2.p.ok
abbrev cont (m : TailM) : List (Txn × Pend × Int) := m.map fun x => (x.1, x.2.p, x.2.at')
def keepRead (pt : Nat) (k : BA) : Bool := !(fgt (placeOf k) pt || feq (placeOf k) pt)
def Pend.cut (pt : Nat) (p : Pend) : Pend := { p with reads := p.reads.filter (keepRead pt), writes := p.writes.filter fun x => below pt x.key }
theorem Pend.cut_ok {pt : Nat} {p : Pend} (h : p.ok) : (p.cut pt).ok :=
  ⟨Nat.le_trans (List.length_filter_le _ _) h.r, Nat.le_trans (List.length_filter_le _ _) h.w, fun k hk => h.rk k (List.mem_filter.1 hk).1, fun x hx => h.wk x (List.mem_filter.1 hx).1⟩
theorem d_tail_split_c1 {w : World} {X : XS} {r : Rec} {vr vw vp vq vh vd : Value} {k : BA} {b : Nat} (h : Cells w X b 0 (r.l vr vw vp vq vh vd)) (hk' : k.size ≤ 2 ^ 62) :
    Ct Tryz.prog 63 #[.string k, ptr b 0] w X nX fun v _ _ => v = B (fgt (placeOf k) r.point || feq (placeOf k) r.point) := by
  intro w0 hk
  replace h := h.mv hk.mvo
  apply ok_tail_Tail_split_c1; unfold vc_tail_Tail_split_c1
  have hs := Since.init w0
  repeat' first
    | (with_reducible apply r_fgeq <;> intros)
    | ((with_reducible apply m_fld1); (· (first | assumption | exact RowIs.cells (by assumption))); (· kernel_rfl); (· rfl); intro _ _ _)
    | ((with_reducible apply m_ld1); (· (first | assumption | exact RowIs.cells (by assumption))); (· (first | exact Mv.refl _ _ | exact Since.mv (by assumption) | exact Since.mv (Since.trans (by assumption) (by assumption)))); (· kernel_rfl); (· rfl))
    | ((with_reducible refine r_pure (c_place_Of _ (by first | assumption | omega)) ?_ hs.has ?_); (· kernel_rfl); intro w X hs1; replace hs := hs.trans hs1)
    | ((first | (with_reducible refine fin_ret0 hs ?_) | (with_reducible refine fin_ret0 (hs0.trans hs) ?_)); intro wa hk; (simp_all <;> grind))
theorem putM_keys {k : Txn} {a : Opn} : ∀ {l : TailM}, (∃ q, getM k l = some q) → (putM k a l).map (·.1) = l.map (·.1)
  | [], ⟨q, h⟩ => by cases h
  | x :: l, ⟨q, h⟩ => by
    unfold putM
    split
    · rename_i hx; simp [hx]
    · rename_i hx
      have : getM k l = some q := by simpa [getM, hx] using h
      simp [putM_keys ⟨q, this⟩]
theorem putM_cont {k : Txn} {a : Opn} : ∀ {l : TailM}, (l.map (·.1)).Nodup → (∃ q, getM k l = some q) → cont (putM k a l) = (cont l).map fun e => if e.1 = k then (k, a.p, a.at') else e
  | [], _, ⟨q, h⟩ => by cases h
  | x :: l, hn, ⟨q, h⟩ => by
    have hn' := List.nodup_cons.1 hn
    unfold putM
    split
    · rename_i hx
      simp only [cont, List.map_cons, hx, if_true, List.cons.injEq, true_and, List.map_map]
      refine (List.map_congr_left fun y hy => ?_)
      have : y.1 ≠ k := fun e => hn'.1 (List.mem_map.2 ⟨y, hy, e.trans hx.symm⟩)
      simp [this]
    · rename_i hx
      have : getM k l = some q := by simpa [getM, hx] using h
      have ih := putM_cont (a := a) hn'.2 ⟨q, this⟩
      simp only [cont, List.map_cons, hx, if_false, List.cons.injEq, true_and] at ih ⊢
      exact ih
end Go.Proofs.YtnphlhpdikmpiaaGreat
namespace Go.Proofs.YtnphlhpdikmpiaaGreat
open Go.Eng
set_option maxRecDepth 100000
set_option maxHeartbeats 1000000
set_option linter.unusedVariables false
set_option linter.unusedSimpArgs false
attribute [local irreducible] un jn chk fld ld1 ldA st1 ixS lnS lnT bld cvI cvF ixA bsS apS rdV rdW grdW eW eV eU eC eF gE condW fin pickN nilN binS vS lp0 lp1 lp2 lp3 lp4 lp5 lp6 lp7 nx0 nx1 nx2 nx3 nx4 nx5 nx6 nx7
theorem mem_putM_of {k : Txn} {a : Opn} {l : TailM} {y : Txn × Opn} (h : y ∈ l) (hy : y.1 ≠ k) : y ∈ putM k a l := by
  induction l with
  | nil => cases h
  | cons x l ih =>
    unfold putM
    rcases List.mem_cons.1 h with rfl | h
    · rw [if_neg hy]; exact List.mem_cons_self
    · split
      · exact List.mem_cons_of_mem _ h
      · exact List.mem_cons_of_mem _ (ih h)
theorem mem_putM_self {k : Txn} {a : Opn} : ∀ {l : TailM}, (k, a) ∈ putM k a l
  | [] => by simp [putM]
  | x :: l => by unfold putM; split <;> simp [mem_putM_self]
theorem fpM_put {m : TailM} {k : Txn} {q a : Opn} (hn : (m.map (·.1)).Nodup) (hq : getM k m = some q) (hbr : a.br = q.br) {g : Nat} (h : fpM (putM k a m) g) : fpM m g ∨ a.bw = some g := by
  obtain ⟨x, hx, hg⟩ := h
  rcases mem_putM hn hx with rfl | ⟨hx, _⟩
  · rcases hg with hg | hg
    · exact .inl ⟨_, mem_get hq, .inl (by rw [← hbr]; exact hg)⟩
    · exact .inr hg
  · exact .inl ⟨x, hx, hg⟩
theorem SepM.put {m : TailM} {k : Txn} {q a : Opn} (h : SepM m) (hn : (m.map (·.1)).Nodup) (hq : getM k m = some q) (hbr : a.br = q.br) (hbw : ∀ g, a.bw = some g → ¬ fpM m g) : SepM (putM k a m) := by
  have hm := mem_get hq
  have e1 : ∀ y ∈ m, y.1 ≠ k → a.sep y.2 := fun y hy hne => by
    have hs := h.all _ hm y hy hne
    exact ⟨by rw [hbr]; exact hs.1, by rw [hbr]; exact hs.2.1, fun g hg hb => hbw g hg ⟨y, hy, .inl hb⟩, fun g hg hb => hbw g hg ⟨y, hy, .inr hb⟩⟩
  refine ⟨fun x hx => ?_, fun x hx y hy hne => ?_⟩
  · rcases mem_putM hn hx with rfl | ⟨hx, _⟩
    · exact fun g hg hb => hbw g hb ⟨_, hm, .inl (by rw [← hbr]; exact hg)⟩
    · exact h.two x hx
  · rcases mem_putM hn hx with rfl | ⟨hx, hxk⟩ <;> rcases mem_putM hn hy with rfl | ⟨hy, hyk⟩
    · exact absurd rfl hne
    · exact e1 y hy hyk
    · exact (e1 x hx hxk).symm
    · exact h.all x hx y hy hne
theorem OkM.put {m : TailM} {k : Txn} {a : Opn} (h : OkM m) (hn : (m.map (·.1)).Nodup) (ha : a.p.ok) : OkM (putM k a m) := fun x hx => by
  rcases mem_putM hn hx with rfl | ⟨hx, _⟩
  · exact ha
  · exact h x hx
def ftp (tb mb : Nat) (m : TailM) : XS := fun k => k = tb ∨ k = mb ∨ fpM m k
theorem TailIs.tight {w : World} {X : XS} {tb mb : Nat} {s : TailS} {m : TailM} (h : TailIs w X (fpM m) tb mb s m) : TailIs w (ftp tb mb m) (fpM m) tb mb s m := by
  refine ⟨⟨.inl rfl, h.box.2⟩, h.opn.own.mv rdOpen.mv (fun k hk _ => ⟨.inr (.inl hk), rfl⟩) (Mv.refl _ _), fun k hk => .inr (.inr hk), h.off, h.ne⟩
theorem TailIs.wide {w : World} {X Y A : XS} {tb mb : Nat} {s : TailS} {m : TailM} (h : TailIs w X A tb mb s m) (hs : ∀ k, X k → Y k) : TailIs w Y A tb mb s m :=
  ⟨h.box.mv (Mv.sub hs), h.opn.mv rdOpen.mv (Mv.sub hs) (Mv.refl _ _), fun k hk => hs k (h.sub k hk), h.off, h.ne⟩
theorem TailIs.fp {w : World} {X A : XS} {tb mb : Nat} {s : TailS} {m : TailM} (h : TailIs w X A tb mb s m) : ∀ k, fpM m k → A k ∧ k < w.heap.size := fun k ⟨x, hx, hg⟩ =>
  let ⟨_, hv⟩ := MapR.all h.opn x hx
  hv.blk hg
theorem TailIs.exact {w : World} {X A : XS} {tb mb : Nat} {s : TailS} {m : TailM} (h : TailIs w X A tb mb s m) : TailIs w X (fpM m) tb mb s m := by
  refine ⟨h.box, ?_, fun k hk => h.sub k (h.fp k hk).1, fun k hk => h.off k (h.fp k hk).1, h.ne⟩
  obtain ⟨es, c, h1, h2⟩ := h.opn
  refine ⟨es, c, h1, ?_⟩
  have key : ∀ {es : List (Ent Txn)} {l : TailM}, (∀ x ∈ l, x ∈ m) → Rep w A rdOpen es l → Rep w (fpM m) rdOpen es l := by
    intro es
    induction es with
    | nil => intro l _ hr; cases l <;> first | trivial | exact hr.elim
    | cons e es ih =>
      intro l hl hr
      cases l with
      | nil => exact hr.elim
      | cons y l => exact ⟨hr.1, rdOpen.loc hr.2.1 fun g hg => ⟨⟨y, hl y (by simp), hg⟩, rfl⟩, ih (fun z hz => hl z (by simp [hz])) hr.2.2⟩
  exact key (fun _ h => h) h2
theorem TailIs.head {w w' : World} {X X' A : XS} {tb mb : Nat} {s s' : TailS} {m : TailM} (h : TailIs w X A tb mb s m) (c : Chg (fun k => k = tb) X w X' w')
    (hr : RowIs w' X' tb [I s'.id, I s'.next, I s'.closed.wall, I s'.closed.logic, I s'.closed.node, .map (some mb)] 78) : TailIs w' X' A tb mb s' m := by
  refine ⟨hr, h.opn.own.mv rdOpen.mv (fun k hk _ => ?_) (fun k hk _ => ?_), fun k hk => c.sub k (h.sub k hk), h.off, h.ne⟩
  · subst hk; exact ⟨c.sub _ h.opn.x.1, c.block _ h.opn.x.1 (Ne.symm h.ne)⟩
  · exact ⟨hk, c.block k (h.sub k hk) (h.off k hk).1⟩
theorem TailIs.body {w w' : World} {X X' A A' : XS} {tb mb : Nat} {s : TailS} {m m' : TailM} (h : TailIs w X A tb mb s m) (c : Chg (fun k => k = mb) X w X' w')
    (hm : MapR w' X' A' mb (fun k : Txn => k.v) rdOpen m') (hA : ∀ k, A' k → X' k ∧ k ≠ tb ∧ k ≠ mb) : TailIs w' X' A' tb mb s m' :=
  ⟨⟨c.sub _ h.box.1, by rw [c.block _ h.box.1 h.ne]; exact h.box.2⟩, hm, fun k hk => (hA k hk).1, fun k hk => (hA k hk).2, h.ne⟩
def cutC (pt : Nat) (e : Txn × Pend × Int) : Txn × Pend × Int := (e.1, e.2.1.cut pt, e.2.2)
theorem cont_keys (m : TailM) : (cont m).map (·.1) = m.map (·.1) := by simp [cont]
theorem cont_step {m mi : TailM} {ks : List Txn} {i : Nat} {x : Txn} {q a : Opn} {pt : Nat} (hc : cont mi = (cont m).map fun e => if e.1 ∈ ks.take i then cutC pt e else e) (hk : ks.Nodup) (hx : ks[i]? = some x)
    (hn : (mi.map (·.1)).Nodup) (hq : getM x mi = some q) (h1 : a.p = q.p.cut pt) (h2 : a.at' = q.at') : cont (putM x a mi) = (cont m).map fun e => if e.1 ∈ ks.take (i + 1) then cutC pt e else e := by
  rw [putM_cont hn ⟨q, hq⟩]
  have hstep : (cont mi).map (fun e => if e.1 = x then (x, a.p, a.at') else e) = (cont mi).map (fun e => if e.1 = x then cutC pt e else e) := by
    simp only [cont, List.map_map]
    refine List.map_congr_left fun y hy => ?_
    simp only [Function.comp]
    by_cases h : y.1 = x
    · have : getM x mi = some y.2 := getM_of_mem hn (by rw [← h]; exact hy)
      rw [hq] at this; cases this
      simp [h, cutC, h1, h2]
    · simp [h]
  rw [hstep, hc, List.map_map]
  refine List.map_congr_left fun e _ => ?_
  have htk : ks.take (i + 1) = ks.take i ++ [x] := by rw [List.take_add_one, hx]; rfl
  have hnx : x ∉ ks.take i := by
    have := hk.sublist (List.take_sublist (i + 1) ks)
    rw [htk, List.nodup_append] at this
    intro hmem
    exact this.2.2 x hmem x (by simp) rfl
  simp only [Function.comp, htk, List.mem_append, List.mem_singleton]
  by_cases h1 : e.1 ∈ ks.take i
  · have : e.1 ≠ x := fun e' => hnx (e' ▸ h1)
    simp [h1, cutC, this]
  · by_cases h2 : e.1 = x <;> simp [h1, h2, hnx]
theorem keys_step {left : TailM} {k : Txn} {a : Opn} (hn : (left.map (·.1)).Nodup) (h : (k, a) ∈ left) : (left.map (·.1)).Perm (k :: (left.filter fun y => decide (y.1 ≠ k)).map (·.1)) := by
  have h1 : k ∈ left.map (·.1) := List.mem_map.2 ⟨_, h, rfl⟩
  have h2 : (left.filter fun y => decide (y.1 ≠ k)).map (·.1) = (left.map (·.1)).filter fun y => decide (y ≠ k) := by rw [List.filter_map]; rfl
  have h3 := List.perm_cons_erase h1
  rw [hn.erase_eq_filter] at h3
  rw [h2]
  refine h3.trans (List.Perm.cons _ ?_)
  rw [show (left.map (·.1)).filter (fun y => y != k) = (left.map (·.1)).filter (fun y => decide (y ≠ k)) from List.filter_congr fun y _ => by simp [bne, Bool.beq_eq_decide_eq]]
theorem ItR.own {w : World} {X A : XS} {r b : Nat} {l left : TailM} {kv : Txn → Value} {rd : World → XS → Value → Opn → Prop} (h : ItR w X A r b kv rd l left) : ItR w (fun k => k = r ∨ k = b) A r b kv rd l left :=
  let ⟨es, c, les, h1, h2, h3, h4⟩ := h
  ⟨es, c, les, ⟨⟨.inr rfl, h1.1.2⟩, .inl rfl, h1.2.2⟩, h2, h3, h4⟩
theorem ItR.x {w : World} {X A : XS} {r b : Nat} {l left : TailM} {kv : Txn → Value} {rd : World → XS → Value → Opn → Prop} (h : ItR w X A r b kv rd l left) : X r ∧ X b ∧ r < w.heap.size ∧ r ≠ b := by
  obtain ⟨es, c, les, h1, _⟩ := h
  obtain ⟨s, hs, _⟩ := h1.2.2.2
  exact ⟨h1.2.1, h1.1.1, (Array.getElem?_eq_some_iff.1 hs).1, h1.2.2.1⟩
abbrev T3 (k : Txn) : List Value := [I k.coord, I k.life, I k.sq]
end Go.Proofs.YtnphlhpdikmpiaaGreat
