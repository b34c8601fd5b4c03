/-
  Part 10 of the proof: what the last text leans on.
-/
import Derived.Laws.Small
import Derived.Test.YtnphlhpdikmpiaaGreatH9
namespace Go.Proofs.YtnphlhpdikmpiaaGreat
open Go.Eng
set_option maxRecDepth 100000
set_option maxHeartbeats 1000000
set_option linter.unusedVariables false
set_option linter.unusedSimpArgs false
attribute [local irreducible] un jn chk fld ld1 ldA st1 ixS lnS lnT bld cvI cvF ixA bsS apS rdV rdW grdW eW eV eU eC eF gE condW fin pickN nilN binS vS lp0 lp1 lp2 lp3 lp4 lp5 lp6 lp7 nx0 nx1 nx2 nx3 nx4 nx5 nx6 nx7
theorem r_beql {P : Program} {X : XS} {w : World} {N : Value → Prop} {t : TypeId} {xo yo : Operand} {a b : Bool} (ht : P.underlying t = some .bool) (hT : a = b → N (.bool true)) (hF : ¬ a = b → N (.bool false)) : rdV P X w (binS .eql t xo yo (.bool a) (.bool b)) N := by
  refine rdV_pure (v := .bool (a == b)) (fun wa => ?_) ?_
  · have := run_eql_bool (P := P) (w := wa) t a b ht
    simp [binS, eqGuard, this]
  by_cases h : a = b
  · subst h; simpa using hT rfl
  · have : (a == b) = false := by simpa using h
    rw [this]; exact hF h
theorem d_raceref_Histories {w : World} {X : XS} {a b : Value} {xs ys : List Hist} (ha : Hists w X a xs) (hb : Hists w X b ys) :
    Ct Tryz.prog 75 #[a, b] w X nX fun v _ _ => v = B (decide (xs = ys)) := by
  intro w0 hk
  replace ha := ha.mv hk.mvo
  replace hb := hb.mv hk.mvo
  have hla := ha.len
  have hlb := hb.len
  apply ok_raceref_Histories; unfold vc_raceref_Histories
  have hs := Since.init w0
  repeat' first | with_reducible (first | apply condW_T | apply condW_F) | (with_reducible apply r_neq <;> intro _) | ((with_reducible apply m_lnR); (· assumption); (· kernel_rfl)) | ((first | (with_reducible refine fin_ret0 hs ?_) | (with_reducible refine fin_ret0 (hs0.trans hs) ?_)); intro wa hk; (simp only [B, Value.bool.injEq]; symm; rw [decide_eq_false_iff_not]; rintro rfl; omega))
  have hlen : xs.length = ys.length := by omega
  refine lp2_of (fun n a b w X => ∃ i : Nat, a = I i ∧ n = xs.length - i ∧ i ≤ xs.length ∧ Since (old w0) w0 X w ∧ (xs = ys ↔ xs.drop i = ys.drop i)) xs.length ⟨0, rfl, rfl, Nat.zero_le _, hs, by simp⟩ ?_
  rintro n a b w X ⟨i, rfl, rfl, hi, hs, hw⟩
  rcases at_or (xs) i with ⟨hlt, x, hx, hd⟩ | ⟨hge, hd⟩
  · obtain ⟨y, hy, hdy⟩ := at_drop (xs := ys) (i := i) (by omega)
    rw [hd, hdy] at hw
    repeat' first | ((with_reducible refine r_lssT ?_ ?_); (· omega)) | with_reducible (first | apply condW_T | apply condW_F | apply un_selF | apply un_selTF | apply grdV_onF | apply grdW_offF | apply rdW_pickT | apply rdW_pickF) | (with_reducible apply r_neq <;> intro _) | (with_reducible apply r_sneq <;> intro _) | ((with_reducible apply m_fld1); (· (first | assumption | exact RowIs.cells (by assumption))); (· kernel_rfl); (· rfl); intro _ _ _) | ((with_reducible apply m_ld1); (· (first | assumption | exact RowIs.cells (by assumption))); (· (first | exact mv0 | exact mv1 (by assumption) | exact mv2 (by assumption) (by assumption))); (· kernel_rfl); (· rfl)) | ((with_reducible apply m_lnS); (· (first | assumption | exact Own.sl (by assumption))); (· kernel_rfl)) | ((with_reducible apply m_lnR); (· assumption); (· kernel_rfl)) | ((with_reducible apply m_ixH); (· assumption); (try (case hz => rfl)); (case hr => first | assumption | exact List.getElem?_eq_getElem (by omega)); (try (case hz => omega)); (case ht => kernel_rfl); (case hs => kernel_rfl); intros) | ((first | (with_reducible refine fin_ret0 hs ?_) | (with_reducible refine fin_ret0 (hs0.trans hs) ?_)); intro wa hk; (simp_all [Hist.ext_iff] <;> (intro e; exact absurd (congrArg List.length e) (by omega))))
    have hkey : x.key = y.key := by simp_all
    have hvl : x.vers.length = y.vers.length := by omega
    have hvb : x.vers.length ≤ 2 ^ 63 - 1 := Sl.len' ‹Sl w0 (old w0) 6 _ (x.vers.map Ver.l)›
    have hxy : (xs = ys ↔ (x.vers = y.vers ∧ xs.drop (i + 1) = ys.drop (i + 1))) := by rw [hw]; simp [Hist.ext_iff, hkey]
    refine lp1_of (fun n a w X => ∃ k : Nat, a = I k ∧ n = x.vers.length - k ∧ k ≤ x.vers.length ∧ Since (old w0) w0 X w ∧ (x.vers = y.vers ↔ x.vers.drop k = y.vers.drop k)) x.vers.length ⟨0, rfl, rfl, Nat.zero_le _, hs, by simp⟩ ?_
    clear hs
    rintro n a w X ⟨k, rfl, rfl, hk1, hs, hwv⟩
    rcases at_or x.vers k with ⟨hlt1, u, hu, hdu⟩ | ⟨hge1, hdu⟩
    · obtain ⟨z, hz, hdz⟩ := at_drop (xs := y.vers) (i := k) (by omega)
      rw [hdu, hdz] at hwv
      repeat' first | ((with_reducible refine r_lssT ?_ ?_); (· omega)) | with_reducible (first | apply condW_T | apply condW_F) | ((with_reducible apply m_sub); (· (simp only [Value.cells, nq1, nq2, nq3, nq4, nq5, nq6, setL, nq7, nq8, nq9, nq0, Nat.reduceAdd, Nat.zero_add]; try rfl))) | with_reducible (first | apply un_box | apply un_selF | apply un_selTF | apply grdV_onF | apply grdW_offF | apply rdW_pickT | apply rdW_pickF | apply gE_F | apply gE_TF | apply r_notT | apply r_notF) | ((with_reducible apply m_fld1); (· (first | assumption | exact RowIs.cells (by assumption))); (· kernel_rfl); (· rfl); intro _ _ _) | ((with_reducible apply m_ld1); (· (first | assumption | exact RowIs.cells (by assumption))); (· (first | exact mv0 | exact mv1 (by assumption) | exact mv2 (by assumption) (by assumption))); (· kernel_rfl); (· rfl)) | ((with_reducible apply m_ldA); (· (first | assumption | exact RowIs.cells (by assumption))); (· (first | exact mv0 | exact mv1 (by assumption) | exact mv2 (by assumption) (by assumption))); (· kernel_rfl); (· rfl)) | ((with_reducible apply m_lnS); (· (first | assumption | exact Own.sl (by assumption))); (· kernel_rfl)) | ((with_reducible apply m_ixS); (· (first | assumption | exact Own.sl (by assumption))); (try (case hz => rfl)); (case hr => first | assumption | exact List.getElem?_eq_getElem (by omega)); (try (case hz => omega)); (case ht => kernel_rfl); (case hs => kernel_rfl); intro _ _ _) | ((with_reducible apply m_ixH); (· assumption); (try (case hz => rfl)); (case hr => first | assumption | exact List.getElem?_eq_getElem (by omega)); (try (case hz => omega)); (case ht => kernel_rfl); (case hs => kernel_rfl); intros) | ((with_reducible refine r_neS _ _ ?_ ?_ ?_); (· kernel_rfl); all_goals intros) | ((with_reducible apply m_chkc); (case h => (repeat' first | with_reducible apply all_one_cons | with_reducible exact all_one_nil | assumption | rfl | exact Sl.one (by assumption) | exact Rws.one (by assumption) | exact Sl.one (Own.sl (by assumption))))) | ((with_reducible apply chk_T); (· first | rfl | assumption | exact Sl.one (by assumption) | exact Rws.one (by assumption) | exact Sl.one (Own.sl (by assumption)))) | ((with_reducible apply r_add); (· omega); (· omega)) | with_reducible apply jn_of | ((with_reducible refine r_pureB (c_raceref_Value _ _) ?_ hs.has ?_ ?_); (· kernel_rfl); all_goals (intro _ w X hs1; replace hs := hs.trans hs1)) | ((first | (with_reducible refine fin_ret0 hs ?_) | (with_reducible refine fin_ret0 (hs0.trans hs) ?_)); intro wa hk; (simp_all [Ver.ext_iff])) | ((with_reducible refine nx1_of (x.vers.length - (k + 1)) ?_ ?_); (· omega); exact ⟨k + 1, by simp, rfl, by omega, hs, by rw [hwv]; simp_all [Ver.ext_iff]⟩)
    · have hdz := List.drop_of_length_le (l := y.vers) (i := k) (by omega)
      rw [hdu, hdz] at hwv
      repeat' first | ((with_reducible refine r_lssF ?_ ?_); (· omega)) | with_reducible apply condW_F | ((with_reducible apply m_fld1); (· (first | assumption | exact RowIs.cells (by assumption))); (· kernel_rfl); (· rfl); intro _ _ _) | ((with_reducible apply m_ld1); (· (first | assumption | exact RowIs.cells (by assumption))); (· (first | exact mv0 | exact mv1 (by assumption) | exact mv2 (by assumption) (by assumption))); (· kernel_rfl); (· rfl)) | ((with_reducible apply m_lnS); (· (first | assumption | exact Own.sl (by assumption))); (· kernel_rfl)) | ((with_reducible apply m_ixH); (· assumption); (try (case hz => rfl)); (case hr => first | assumption | exact List.getElem?_eq_getElem (by omega)); (try (case hz => omega)); (case ht => kernel_rfl); (case hs => kernel_rfl); intros) | ((with_reducible apply r_add); (· omega); (· omega)) | ((with_reducible refine nx2_of ((xs).length - (i + 1)) ?_ ?_); (· omega); exact ⟨i + 1, by simp, rfl, by omega, hs, by rw [hxy]; simp [hwv]⟩)
  · have hdy := List.drop_of_length_le (l := ys) (i := i) (by omega)
    repeat' first | ((with_reducible refine r_lssF ?_ ?_); (· omega)) | with_reducible apply condW_F | ((with_reducible apply m_lnR); (· assumption); (· kernel_rfl)) | ((first | (with_reducible refine fin_ret0 hs ?_) | (with_reducible refine fin_ret0 (hs0.trans hs) ?_)); intro wa hk; simp_all)
theorem d_raceref_State {w : World} {X : XS} {s t : State} {vh vp uh up : Value} (h1 : Hists w X vh s.hists) (h2 : Pends w X vp s.pend) (h3 : Hists w X uh t.hists) (h4 : Pends w X up t.pend) :
    Ct Tryz.prog 42 #[s.v vh vp, t.v uh up] w X nX fun v _ _ => v = B (decide (s = t)) := by
  intro w0 hk
  replace h1 := h1.mv hk.mvo
  replace h2 := h2.mv hk.mvo
  replace h3 := h3.mv hk.mvo
  replace h4 := h4.mv hk.mvo
  apply ok_raceref_State; unfold vc_raceref_State
  have hs := Since.init w0
  repeat' first | with_reducible (first | apply un_selT | apply un_selFT | apply grdV_onT | apply grdW_offT | apply rdW_pickT | apply rdW_pickF | apply gE_T | apply gE_FT) | ((with_reducible refine r_eqS _ _ ?_ ?_ ?_); (· kernel_rfl); all_goals intros) | with_reducible apply jn_of | ((with_reducible refine r_pureB (c_raceref_Range _ _) ?_ hs.has ?_ ?_); (· kernel_rfl); all_goals (intro _ w X hs1; replace hs := hs.trans hs1)) | ((first | (with_reducible refine fin_ret0 hs ?_) | (with_reducible refine fin_ret0 (hs0.trans hs) ?_)); intro wa hk; simp_all [State.ext_iff]) | (refine r_ct0B (d_raceref_Histories  (by first | assumption | exact Sl.mv (by assumption) (by (first | exact mv0 | exact mv1 (by assumption) | exact mv2 (by assumption) (by assumption))) | exact Pends.mv (by assumption) (by (first | exact mv0 | exact mv1 (by assumption) | exact mv2 (by assumption) (by assumption))) | exact Hists.mv (by assumption) (by (first | exact mv0 | exact mv1 (by assumption) | exact mv2 (by assumption) (by assumption))) | exact Rec.at.mv (by assumption) (by (first | exact mv0 | exact mv1 (by assumption) | exact mv2 (by assumption) (by assumption))) | exact Own.sl (by assumption) | exact Cells.mv (by assumption) (by (first | exact mv0 | exact mv1 (by assumption) | exact mv2 (by assumption) (by assumption))) | exact Cells.mv (RowIs.cells (by assumption)) (by (first | exact mv0 | exact mv1 (by assumption) | exact mv2 (by assumption) (by assumption))) | omega) (by first | assumption | exact Sl.mv (by assumption) (by (first | exact mv0 | exact mv1 (by assumption) | exact mv2 (by assumption) (by assumption))) | exact Pends.mv (by assumption) (by (first | exact mv0 | exact mv1 (by assumption) | exact mv2 (by assumption) (by assumption))) | exact Hists.mv (by assumption) (by (first | exact mv0 | exact mv1 (by assumption) | exact mv2 (by assumption) (by assumption))) | exact Rec.at.mv (by assumption) (by (first | exact mv0 | exact mv1 (by assumption) | exact mv2 (by assumption) (by assumption))) | exact Own.sl (by assumption) | exact Cells.mv (by assumption) (by (first | exact mv0 | exact mv1 (by assumption) | exact mv2 (by assumption) (by assumption))) | exact Cells.mv (RowIs.cells (by assumption)) (by (first | exact mv0 | exact mv1 (by assumption) | exact mv2 (by assumption) (by assumption))) | omega)) (by kernel_rfl) hs.has ?_ ?_ <;> (intro _ w X hs1; replace hs := hs.trans hs1)) | (refine r_ct0B (d_raceref_Pendings  (by first | assumption | exact Sl.mv (by assumption) (by (first | exact mv0 | exact mv1 (by assumption) | exact mv2 (by assumption) (by assumption))) | exact Pends.mv (by assumption) (by (first | exact mv0 | exact mv1 (by assumption) | exact mv2 (by assumption) (by assumption))) | exact Hists.mv (by assumption) (by (first | exact mv0 | exact mv1 (by assumption) | exact mv2 (by assumption) (by assumption))) | exact Rec.at.mv (by assumption) (by (first | exact mv0 | exact mv1 (by assumption) | exact mv2 (by assumption) (by assumption))) | exact Own.sl (by assumption) | exact Cells.mv (by assumption) (by (first | exact mv0 | exact mv1 (by assumption) | exact mv2 (by assumption) (by assumption))) | exact Cells.mv (RowIs.cells (by assumption)) (by (first | exact mv0 | exact mv1 (by assumption) | exact mv2 (by assumption) (by assumption))) | omega) (by first | assumption | exact Sl.mv (by assumption) (by (first | exact mv0 | exact mv1 (by assumption) | exact mv2 (by assumption) (by assumption))) | exact Pends.mv (by assumption) (by (first | exact mv0 | exact mv1 (by assumption) | exact mv2 (by assumption) (by assumption))) | exact Hists.mv (by assumption) (by (first | exact mv0 | exact mv1 (by assumption) | exact mv2 (by assumption) (by assumption))) | exact Rec.at.mv (by assumption) (by (first | exact mv0 | exact mv1 (by assumption) | exact mv2 (by assumption) (by assumption))) | exact Own.sl (by assumption) | exact Cells.mv (by assumption) (by (first | exact mv0 | exact mv1 (by assumption) | exact mv2 (by assumption) (by assumption))) | exact Cells.mv (RowIs.cells (by assumption)) (by (first | exact mv0 | exact mv1 (by assumption) | exact mv2 (by assumption) (by assumption))) | omega)) (by kernel_rfl) hs.has ?_ ?_ <;> (intro _ w X hs1; replace hs := hs.trans hs1))
theorem d_raceref_Rec {w : World} {X : XS} {r t : Rec} {vr vw vp vq vh vd ur uw up uq uh ud : Value} (h : r.at w X vr vw vp vq vh vd) (h' : t.at w X ur uw up uq uh ud) :
    Ct Tryz.prog 12 #[r.v vr vw vp vq vh vd, t.v ur uw up uq uh ud] w X nX fun v _ _ => v = B (decide (r = t)) := by
  intro w0 hk
  replace h := h.mv hk.mvo
  replace h' := h'.mv hk.mvo
  obtain ⟨h1, h2, h3, h4, h5, h6⟩ := h
  obtain ⟨g1, g2, g3, g4, g5, g6⟩ := h'
  apply ok_raceref_Rec; unfold vc_raceref_Rec
  have hs := Since.init w0
  repeat' first | with_reducible (first | apply un_selT | apply un_selFT | apply grdV_onT | apply grdW_offT | apply rdW_pickT | apply rdW_pickF | apply gE_T | apply gE_FT) | (with_reducible apply r_eql <;> intro _) | ((with_reducible refine r_eqS _ _ ?_ ?_ ?_); (· kernel_rfl); all_goals intros) | ((with_reducible refine r_eqT _ _ ?_ ?_ ?_); (· kernel_rfl); all_goals intros) | with_reducible apply jn_of | ((with_reducible refine r_pureB (c_raceref_Bits _ _) ?_ hs.has ?_ ?_); (· kernel_rfl); all_goals (intro _ w X hs1; replace hs := hs.trans hs1)) | ((first | (with_reducible refine fin_ret0 hs ?_) | (with_reducible refine fin_ret0 (hs0.trans hs) ?_)); intro wa hk; simp_all [Rec.ext_iff]) | ((with_reducible apply r_beql); (· kernel_rfl); all_goals intro _) | (refine r_ct0B (d_raceref_Texts  (by first | assumption | exact Sl.mv (by assumption) (by (first | exact mv0 | exact mv1 (by assumption) | exact mv2 (by assumption) (by assumption))) | exact Pends.mv (by assumption) (by (first | exact mv0 | exact mv1 (by assumption) | exact mv2 (by assumption) (by assumption))) | exact Hists.mv (by assumption) (by (first | exact mv0 | exact mv1 (by assumption) | exact mv2 (by assumption) (by assumption))) | exact Rec.at.mv (by assumption) (by (first | exact mv0 | exact mv1 (by assumption) | exact mv2 (by assumption) (by assumption))) | exact Own.sl (by assumption) | exact Cells.mv (by assumption) (by (first | exact mv0 | exact mv1 (by assumption) | exact mv2 (by assumption) (by assumption))) | exact Cells.mv (RowIs.cells (by assumption)) (by (first | exact mv0 | exact mv1 (by assumption) | exact mv2 (by assumption) (by assumption))) | omega) (by first | assumption | exact Sl.mv (by assumption) (by (first | exact mv0 | exact mv1 (by assumption) | exact mv2 (by assumption) (by assumption))) | exact Pends.mv (by assumption) (by (first | exact mv0 | exact mv1 (by assumption) | exact mv2 (by assumption) (by assumption))) | exact Hists.mv (by assumption) (by (first | exact mv0 | exact mv1 (by assumption) | exact mv2 (by assumption) (by assumption))) | exact Rec.at.mv (by assumption) (by (first | exact mv0 | exact mv1 (by assumption) | exact mv2 (by assumption) (by assumption))) | exact Own.sl (by assumption) | exact Cells.mv (by assumption) (by (first | exact mv0 | exact mv1 (by assumption) | exact mv2 (by assumption) (by assumption))) | exact Cells.mv (RowIs.cells (by assumption)) (by (first | exact mv0 | exact mv1 (by assumption) | exact mv2 (by assumption) (by assumption))) | omega)) (by kernel_rfl) hs.has ?_ ?_ <;> (intro _ w X hs1; replace hs := hs.trans hs1)) | (refine r_ct0B (d_raceref_Writes  (by first | assumption | exact Sl.mv (by assumption) (by (first | exact mv0 | exact mv1 (by assumption) | exact mv2 (by assumption) (by assumption))) | exact Pends.mv (by assumption) (by (first | exact mv0 | exact mv1 (by assumption) | exact mv2 (by assumption) (by assumption))) | exact Hists.mv (by assumption) (by (first | exact mv0 | exact mv1 (by assumption) | exact mv2 (by assumption) (by assumption))) | exact Rec.at.mv (by assumption) (by (first | exact mv0 | exact mv1 (by assumption) | exact mv2 (by assumption) (by assumption))) | exact Own.sl (by assumption) | exact Cells.mv (by assumption) (by (first | exact mv0 | exact mv1 (by assumption) | exact mv2 (by assumption) (by assumption))) | exact Cells.mv (RowIs.cells (by assumption)) (by (first | exact mv0 | exact mv1 (by assumption) | exact mv2 (by assumption) (by assumption))) | omega) (by first | assumption | exact Sl.mv (by assumption) (by (first | exact mv0 | exact mv1 (by assumption) | exact mv2 (by assumption) (by assumption))) | exact Pends.mv (by assumption) (by (first | exact mv0 | exact mv1 (by assumption) | exact mv2 (by assumption) (by assumption))) | exact Hists.mv (by assumption) (by (first | exact mv0 | exact mv1 (by assumption) | exact mv2 (by assumption) (by assumption))) | exact Rec.at.mv (by assumption) (by (first | exact mv0 | exact mv1 (by assumption) | exact mv2 (by assumption) (by assumption))) | exact Own.sl (by assumption) | exact Cells.mv (by assumption) (by (first | exact mv0 | exact mv1 (by assumption) | exact mv2 (by assumption) (by assumption))) | exact Cells.mv (RowIs.cells (by assumption)) (by (first | exact mv0 | exact mv1 (by assumption) | exact mv2 (by assumption) (by assumption))) | omega)) (by kernel_rfl) hs.has ?_ ?_ <;> (intro _ w X hs1; replace hs := hs.trans hs1)) | (refine r_ct0B (d_raceref_Ints  (by first | assumption | exact Sl.mv (by assumption) (by (first | exact mv0 | exact mv1 (by assumption) | exact mv2 (by assumption) (by assumption))) | exact Pends.mv (by assumption) (by (first | exact mv0 | exact mv1 (by assumption) | exact mv2 (by assumption) (by assumption))) | exact Hists.mv (by assumption) (by (first | exact mv0 | exact mv1 (by assumption) | exact mv2 (by assumption) (by assumption))) | exact Rec.at.mv (by assumption) (by (first | exact mv0 | exact mv1 (by assumption) | exact mv2 (by assumption) (by assumption))) | exact Own.sl (by assumption) | exact Cells.mv (by assumption) (by (first | exact mv0 | exact mv1 (by assumption) | exact mv2 (by assumption) (by assumption))) | exact Cells.mv (RowIs.cells (by assumption)) (by (first | exact mv0 | exact mv1 (by assumption) | exact mv2 (by assumption) (by assumption))) | omega) (by first | assumption | exact Sl.mv (by assumption) (by (first | exact mv0 | exact mv1 (by assumption) | exact mv2 (by assumption) (by assumption))) | exact Pends.mv (by assumption) (by (first | exact mv0 | exact mv1 (by assumption) | exact mv2 (by assumption) (by assumption))) | exact Hists.mv (by assumption) (by (first | exact mv0 | exact mv1 (by assumption) | exact mv2 (by assumption) (by assumption))) | exact Rec.at.mv (by assumption) (by (first | exact mv0 | exact mv1 (by assumption) | exact mv2 (by assumption) (by assumption))) | exact Own.sl (by assumption) | exact Cells.mv (by assumption) (by (first | exact mv0 | exact mv1 (by assumption) | exact mv2 (by assumption) (by assumption))) | exact Cells.mv (RowIs.cells (by assumption)) (by (first | exact mv0 | exact mv1 (by assumption) | exact mv2 (by assumption) (by assumption))) | omega)) (by kernel_rfl) hs.has ?_ ?_ <;> (intro _ w X hs1; replace hs := hs.trans hs1)) | (refine r_ct0B (d_raceref_Pairs  (by first | assumption | exact Sl.mv (by assumption) (by (first | exact mv0 | exact mv1 (by assumption) | exact mv2 (by assumption) (by assumption))) | exact Pends.mv (by assumption) (by (first | exact mv0 | exact mv1 (by assumption) | exact mv2 (by assumption) (by assumption))) | exact Hists.mv (by assumption) (by (first | exact mv0 | exact mv1 (by assumption) | exact mv2 (by assumption) (by assumption))) | exact Rec.at.mv (by assumption) (by (first | exact mv0 | exact mv1 (by assumption) | exact mv2 (by assumption) (by assumption))) | exact Own.sl (by assumption) | exact Cells.mv (by assumption) (by (first | exact mv0 | exact mv1 (by assumption) | exact mv2 (by assumption) (by assumption))) | exact Cells.mv (RowIs.cells (by assumption)) (by (first | exact mv0 | exact mv1 (by assumption) | exact mv2 (by assumption) (by assumption))) | omega) (by first | assumption | exact Sl.mv (by assumption) (by (first | exact mv0 | exact mv1 (by assumption) | exact mv2 (by assumption) (by assumption))) | exact Pends.mv (by assumption) (by (first | exact mv0 | exact mv1 (by assumption) | exact mv2 (by assumption) (by assumption))) | exact Hists.mv (by assumption) (by (first | exact mv0 | exact mv1 (by assumption) | exact mv2 (by assumption) (by assumption))) | exact Rec.at.mv (by assumption) (by (first | exact mv0 | exact mv1 (by assumption) | exact mv2 (by assumption) (by assumption))) | exact Own.sl (by assumption) | exact Cells.mv (by assumption) (by (first | exact mv0 | exact mv1 (by assumption) | exact mv2 (by assumption) (by assumption))) | exact Cells.mv (RowIs.cells (by assumption)) (by (first | exact mv0 | exact mv1 (by assumption) | exact mv2 (by assumption) (by assumption))) | omega)) (by kernel_rfl) hs.has ?_ ?_ <;> (intro _ w X hs1; replace hs := hs.trans hs1)) | (refine r_ct0B (d_raceref_State (s := r.state) (t := t.state) (h5.mv hs.mv) (h6.mv hs.mv) (g5.mv hs.mv) (g6.mv hs.mv)) (by kernel_rfl) hs.has ?_ ?_ <;> (intro _ w X hs1; replace hs := hs.trans hs1))
end Go.Proofs.YtnphlhpdikmpiaaGreat
namespace Go.Proofs.YtnphlhpdikmpiaaGreat
open Go.Eng
set_option maxRecDepth 100000
set_option maxHeartbeats 1000000
set_option linter.unusedVariables false
set_option linter.unusedSimpArgs false
attribute [local irreducible] un jn chk fld ld1 ldA st1 ixS lnS lnT bld cvI cvF ixA bsS apS rdV rdW grdW eW eV eU eC eF gE condW fin pickN nilN binS vS lp0 lp1 lp2 lp3 lp4 lp5 lp6 lp7 nx0 nx1 nx2 nx3 nx4 nx5 nx6 nx7
theorem bl_irrefl : ∀ l : List UInt8, Op.bytesLess l l = false
  | [] => rfl
  | a :: l => by simp [Op.bytesLess, bl_irrefl l, UInt8.lt_irrefl]
theorem bl_asymm : ∀ {a b : List UInt8}, Op.bytesLess a b = true → Op.bytesLess b a = false
  | _, [], h => by simp [Op.bytesLess] at h
  | [], _ :: _, _ => by simp [Op.bytesLess]
  | a :: l, b :: m, h => by
    simp only [Op.bytesLess, Bool.or_eq_true, Bool.and_eq_true, decide_eq_true_eq, beq_iff_eq, Bool.or_eq_false_iff, Bool.and_eq_false_iff, decide_eq_false_iff_not] at h ⊢
    rcases h with h | ⟨rfl, h⟩
    · exact ⟨UInt8.not_lt.2 (UInt8.le_of_lt h), .inl (by simp; rintro rfl; exact UInt8.lt_irrefl _ h)⟩
    · exact ⟨UInt8.lt_irrefl _, .inr (bl_asymm h)⟩
theorem bl_total : ∀ {a b : List UInt8}, Op.bytesLess a b = false → a ≠ b → Op.bytesLess b a = true
  | [], [], _, h => absurd rfl h
  | _ :: _, [], _, _ => by simp [Op.bytesLess]
  | [], _ :: _, h, _ => by simp [Op.bytesLess] at h
  | a :: l, b :: m, h, hne => by
    simp only [Op.bytesLess, Bool.or_eq_true, Bool.and_eq_true, decide_eq_true_eq, beq_iff_eq, Bool.or_eq_false_iff, Bool.and_eq_false_iff, decide_eq_false_iff_not] at h ⊢
    obtain ⟨h1, h2⟩ := h
    by_cases hab : a = b
    · subst hab
      right
      refine ⟨rfl, bl_total ?_ fun e => hne (by rw [e])⟩
      rcases h2 with h2 | h2
      · simp at h2
      · exact h2
    · left
      exact UInt8.lt_of_le_of_ne (UInt8.not_lt.1 h1) (Ne.symm hab)
theorem tlt_irrefl (a : BA) : tlt a a = false := bl_irrefl _
theorem tlt_asymm {a b : BA} (h : tlt a b = true) : tlt b a = false := bl_asymm h
theorem tlt_total {a b : BA} (h : tlt a b = false) (hne : ¬ a = b) : tlt b a = true := bl_total h fun e => hne (bytes_eq.1 e)
theorem tlt_gt {a b : BA} (h : tlt a b = true ∨ a = b) : tlt b a = false := by
  rcases h with h | rfl
  · exact tlt_asymm h
  · exact tlt_irrefl _
theorem d_ref10_Keys {w : World} {X : XS} {a : Value} {xs : List BA} {most : Int} (ha : Sl w X 1 a (xs.map S1)) :
    Ct Tryz.prog 138 #[a, I most] w X nX fun v _ _ => v = B (decide ((xs.length : Int) ≤ most) && rising xs) := by
  intro w0 hk
  replace ha := ha.mv hk.mvo
  have hla := ha.len'
  apply ok_raceref10_Keys; unfold vc_raceref10_Keys
  have hs := Since.init w0
  repeat' first | with_reducible (first | apply condW_T | apply condW_F) | (with_reducible apply r_gtr <;> intro _) | ((with_reducible apply m_lnS); (· (first | assumption | exact Own.sl (by assumption))); (· kernel_rfl)) | ((first | (with_reducible refine fin_ret0 hs ?_) | (with_reducible refine fin_ret0 (hs0.trans hs) ?_)); intro wa hk; (simp_all <;> omega))
  refine lp1_of (fun n a w X => ∃ i : Nat, a = I (i : Nat) ∧ n = (xs).length - i ∧ i ≤ (xs).length ∧ Since (old w0) w0 X w ∧ chain goodKey tlt none xs = chain goodKey tlt (prevOf xs i) (xs.drop i)) (xs).length ⟨0, rfl, rfl, Nat.zero_le _, hs, by simp [prevOf]⟩ ?_
  rintro n a w X ⟨i, rfl, rfl, hi, hs, hw⟩
  rcases at_or (xs) i with ⟨hlt, x, hx, hd⟩ | ⟨hge, hd⟩
  · rcases at_prev hlt with ⟨h0, hp⟩ | ⟨h0, y, hy, hp⟩ <;> rw [hp, hd, chain] at hw <;> clear hd
    · repeat' first | ((with_reducible refine r_lssT ?_ ?_); (· omega)) | ((with_reducible refine r_gtrF ?_ ?_); (· omega)) | with_reducible (first | apply condW_T | apply condW_F | apply un_selF | apply un_selTF | apply un_selFT | apply un_selU | apply grdV_onF | apply grdW_onF | apply grdW_offT | apply grdW_offF | apply grdW_U | apply rdW_pickT | apply rdW_pickF | apply r_notT | apply r_notF) | ((with_reducible apply m_ld1); (· (first | assumption | exact RowIs.cells (by assumption))); (· (first | exact mv0 | exact mv1 (by assumption) | exact mv2 (by assumption) (by assumption))); (· kernel_rfl); (· rfl)) | ((with_reducible apply m_lnS); (· (first | assumption | exact Own.sl (by assumption))); (· kernel_rfl)) | ((with_reducible apply m_ixS); (· (first | assumption | exact Own.sl (by assumption))); (try (case hz => rfl)); (case hr => first | assumption | exact List.getElem?_eq_getElem (by omega)); (try (case hz => omega)); (case ht => kernel_rfl); (case hs => kernel_rfl); intro _ _ _) | ((with_reducible apply r_add); (· omega); (· omega)) | ((with_reducible refine r_pureB (c_ref3_Key _) ?_ hs.has ?_ ?_); (· kernel_rfl); all_goals (intro _ w X hs1; replace hs := hs.trans hs1)) | ((first | (with_reducible refine fin_ret0 hs ?_) | (with_reducible refine fin_ret0 (hs0.trans hs) ?_)); intro wa hk; simp_all [rising, chain]) | ((with_reducible refine nx1_of ((xs).length - (i + 1)) ?_ ?_); (· omega); exact ⟨i + 1, by simp, rfl, by omega, hs, by rw [hw, prevOf_succ hx]; simp [*]⟩)
    · repeat' first | ((with_reducible refine r_lssT ?_ ?_); (· omega)) | ((with_reducible refine r_gtrT ?_ ?_); (· omega)) | with_reducible (first | apply condW_T | apply condW_F | apply un_selT | apply un_selF | apply un_selTF | apply un_selU | apply grdV_onT | apply grdV_onF | apply grdW_onF | apply grdW_offF | apply grdW_U | apply rdW_pickT | apply rdW_pickF | apply r_notT | apply r_notF) | (with_reducible apply r_sleq <;> intros) | ((with_reducible apply m_ld1); (· (first | assumption | exact RowIs.cells (by assumption))); (· (first | exact mv0 | exact mv1 (by assumption) | exact mv2 (by assumption) (by assumption))); (· kernel_rfl); (· rfl)) | ((with_reducible apply m_lnS); (· (first | assumption | exact Own.sl (by assumption))); (· kernel_rfl)) | ((with_reducible apply m_ixS); (· (first | assumption | exact Own.sl (by assumption))); (try (case hz => rfl)); (case hr => first | assumption | exact List.getElem?_eq_getElem (by omega)); (try (case hz => omega)); (case ht => kernel_rfl); (case hs => kernel_rfl); intro _ _ _) | ((with_reducible apply r_add); (· omega); (· omega)) | ((with_reducible apply r_sub); (· omega); (· omega)) | ((with_reducible refine r_pureB (c_ref3_Key _) ?_ hs.has ?_ ?_); (· kernel_rfl); all_goals (intro _ w X hs1; replace hs := hs.trans hs1)) | ((first | (with_reducible refine fin_ret0 hs ?_) | (with_reducible refine fin_ret0 (hs0.trans hs) ?_)); intro wa hk; (first | (have := tlt_gt ‹tlt x y = true ∨ x = y›; simp_all [rising, chain]; done) | (simp_all [rising, chain]))) | ((with_reducible refine nx1_of ((xs).length - (i + 1)) ?_ ?_); (· omega); exact ⟨i + 1, by simp, rfl, by omega, hs, by rw [hw, prevOf_succ hx, tlt_total (by assumption) (by assumption)]; simp [*]⟩)
  · repeat' first | ((with_reducible refine r_lssF ?_ ?_); (· omega)) | with_reducible apply condW_F | ((with_reducible apply m_lnS); (· (first | assumption | exact Own.sl (by assumption))); (· kernel_rfl)) | ((first | (with_reducible refine fin_ret0 hs ?_) | (with_reducible refine fin_ret0 (hs0.trans hs) ?_)); intro wa hk; simp_all [rising, chain] <;> omega)
def wGood (x : KV) : Bool := goodKey x.key && x.val.may
def wUp (a b : KV) : Bool := tlt a.key b.key
theorem d_ref10_Writes {w : World} {X : XS} {a : Value} {xs : List KV} {most : Int} (ha : Sl w X 4 a (xs.map KV.l)) :
    Ct Tryz.prog 139 #[a, I most] w X nX fun v _ _ => v = B (decide ((xs.length : Int) ≤ most) && chain wGood wUp none xs) := by
  intro w0 hk
  replace ha := ha.mv hk.mvo
  have hla := ha.len'
  apply ok_raceref10_Writes; unfold vc_raceref10_Writes
  have hs := Since.init w0
  repeat' first | with_reducible (first | apply condW_T | apply condW_F) | (with_reducible apply r_gtr <;> intro _) | ((with_reducible apply m_lnS); (· (first | assumption | exact Own.sl (by assumption))); (· kernel_rfl)) | ((first | (with_reducible refine fin_ret0 hs ?_) | (with_reducible refine fin_ret0 (hs0.trans hs) ?_)); intro wa hk; (simp_all <;> omega))
  refine lp1_of (fun n a w X => ∃ i : Nat, a = I (i : Nat) ∧ n = (xs).length - i ∧ i ≤ (xs).length ∧ Since (old w0) w0 X w ∧ chain wGood wUp none xs = chain wGood wUp (prevOf xs i) (xs.drop i)) (xs).length ⟨0, rfl, rfl, Nat.zero_le _, hs, by simp [prevOf]⟩ ?_
  rintro n a w X ⟨i, rfl, rfl, hi, hs, hw⟩
  rcases at_or (xs) i with ⟨hlt, x, hx, hd⟩ | ⟨hge, hd⟩
  · rcases at_prev hlt with ⟨h0, hp⟩ | ⟨h0, y, hy, hp⟩ <;> rw [hp, hd, chain] at hw <;> clear hd
    · repeat' first | ((with_reducible refine r_lssT ?_ ?_); (· omega)) | ((with_reducible refine r_gtrF ?_ ?_); (· omega)) | with_reducible (first | apply condW_T | apply condW_F | apply un_selF | apply un_selTF | apply un_selFT | apply un_selU | apply grdV_onF | apply grdW_onF | apply grdW_offT | apply grdW_offF | apply grdW_U | apply rdW_pickT | apply rdW_pickF | apply gE_F | apply gE_TF | apply r_notT | apply r_notF) | ((with_reducible apply m_fld1); (· (first | assumption | exact RowIs.cells (by assumption))); (· kernel_rfl); (· rfl); intro _ _ _) | ((with_reducible apply m_fld); (· (first | assumption | exact RowIs.cells (by assumption))); (· kernel_rfl); (· rfl); (· (simp only [Value.cells, nq1, nq2, nq3, nq4, nq5, nq6, setL, nq7, nq8, nq9, nq0, Nat.reduceAdd, Nat.zero_add]; try rfl)); intro _ _ _) | ((with_reducible apply m_ld1); (· (first | assumption | exact RowIs.cells (by assumption))); (· (first | exact mv0 | exact mv1 (by assumption) | exact mv2 (by assumption) (by assumption))); (· kernel_rfl); (· rfl)) | ((with_reducible apply m_ldA); (· (first | assumption | exact RowIs.cells (by assumption))); (· (first | exact mv0 | exact mv1 (by assumption) | exact mv2 (by assumption) (by assumption))); (· kernel_rfl); (· rfl)) | ((with_reducible apply m_lnS); (· (first | assumption | exact Own.sl (by assumption))); (· kernel_rfl)) | ((with_reducible apply m_ixS); (· (first | assumption | exact Own.sl (by assumption))); (try (case hz => rfl)); (case hr => first | assumption | exact List.getElem?_eq_getElem (by omega)); (try (case hz => omega)); (case ht => kernel_rfl); (case hs => kernel_rfl); intro _ _ _) | ((with_reducible apply r_add); (· omega); (· omega)) | with_reducible apply jn_of | ((with_reducible refine r_pureB (c_ref3_Key _) ?_ hs.has ?_ ?_); (· kernel_rfl); all_goals (intro _ w X hs1; replace hs := hs.trans hs1)) | ((with_reducible refine r_pureB (c_ref3_May _) ?_ hs.has ?_ ?_); (· kernel_rfl); all_goals (intro _ w X hs1; replace hs := hs.trans hs1)) | ((first | (with_reducible refine fin_ret0 hs ?_) | (with_reducible refine fin_ret0 (hs0.trans hs) ?_)); intro wa hk; simp_all [wGood, wUp]) | ((with_reducible refine nx1_of ((xs).length - (i + 1)) ?_ ?_); (· omega); exact ⟨i + 1, by simp, rfl, by omega, hs, by rw [hw, prevOf_succ hx]; simp [wGood, wUp, *]⟩)
    · repeat' first | ((with_reducible refine r_lssT ?_ ?_); (· omega)) | ((with_reducible refine r_gtrT ?_ ?_); (· omega)) | with_reducible (first | apply condW_T | apply condW_F | apply un_selT | apply un_selF | apply un_selTF | apply un_selU | apply grdV_onT | apply grdV_onF | apply grdW_onF | apply grdW_offF | apply grdW_U | apply rdW_pickT | apply rdW_pickF | apply gE_F | apply gE_TF | apply r_notT | apply r_notF) | (with_reducible apply r_sleq <;> intros) | ((with_reducible apply m_fld1); (· (first | assumption | exact RowIs.cells (by assumption))); (· kernel_rfl); (· rfl); intro _ _ _) | ((with_reducible apply m_fld); (· (first | assumption | exact RowIs.cells (by assumption))); (· kernel_rfl); (· rfl); (· (simp only [Value.cells, nq1, nq2, nq3, nq4, nq5, nq6, setL, nq7, nq8, nq9, nq0, Nat.reduceAdd, Nat.zero_add]; try rfl)); intro _ _ _) | ((with_reducible apply m_ld1); (· (first | assumption | exact RowIs.cells (by assumption))); (· (first | exact mv0 | exact mv1 (by assumption) | exact mv2 (by assumption) (by assumption))); (· kernel_rfl); (· rfl)) | ((with_reducible apply m_ldA); (· (first | assumption | exact RowIs.cells (by assumption))); (· (first | exact mv0 | exact mv1 (by assumption) | exact mv2 (by assumption) (by assumption))); (· kernel_rfl); (· rfl)) | ((with_reducible apply m_lnS); (· (first | assumption | exact Own.sl (by assumption))); (· kernel_rfl)) | ((with_reducible apply m_ixS); (· (first | assumption | exact Own.sl (by assumption))); (try (case hz => rfl)); (case hr => first | assumption | exact List.getElem?_eq_getElem (by omega)); (try (case hz => omega)); (case ht => kernel_rfl); (case hs => kernel_rfl); intro _ _ _) | ((with_reducible apply r_add); (· omega); (· omega)) | ((with_reducible apply r_sub); (· omega); (· omega)) | with_reducible apply jn_of | ((with_reducible refine r_pureB (c_ref3_Key _) ?_ hs.has ?_ ?_); (· kernel_rfl); all_goals (intro _ w X hs1; replace hs := hs.trans hs1)) | ((with_reducible refine r_pureB (c_ref3_May _) ?_ hs.has ?_ ?_); (· kernel_rfl); all_goals (intro _ w X hs1; replace hs := hs.trans hs1)) | ((first | (with_reducible refine fin_ret0 hs ?_) | (with_reducible refine fin_ret0 (hs0.trans hs) ?_)); intro wa hk; (first | (have := tlt_gt ‹tlt x.key y.key = true ∨ x.key = y.key›; simp_all [wGood, wUp]; done) | (simp_all [wGood, wUp]))) | ((with_reducible refine nx1_of ((xs).length - (i + 1)) ?_ ?_); (· omega); exact ⟨i + 1, by simp, rfl, by omega, hs, by rw [hw, prevOf_succ hx]; simp [wGood, wUp, tlt_total ‹tlt x.key y.key = false› (by assumption), *]⟩)
  · repeat' first | ((with_reducible refine r_lssF ?_ ?_); (· omega)) | with_reducible apply condW_F | ((with_reducible apply m_lnS); (· (first | assumption | exact Own.sl (by assumption))); (· kernel_rfl)) | ((first | (with_reducible refine fin_ret0 hs ?_) | (with_reducible refine fin_ret0 (hs0.trans hs) ?_)); intro wa hk; simp_all [chain] <;> omega)
theorem chain_writes (o : Option KV) : ∀ l : List KV, (∀ x, o = some x → True) → chain wGood wUp o l = (chain goodKey tlt (o.map (·.key)) (l.map (·.key)) && l.all (·.val.may))
  | [], _ => by cases o <;> simp [chain]
  | x :: l, _ => by
    have ih := chain_writes (some x) l (fun _ _ => trivial)
    cases o with
    | none => simp only [chain, List.map_cons, Option.map_none, List.all_cons, ih, Option.map_some, wGood]; cases goodKey x.key <;> cases x.val.may <;> simp
    | some y => simp only [chain, List.map_cons, Option.map_some, List.all_cons, ih, wGood, wUp]; cases goodKey x.key <;> cases x.val.may <;> cases tlt y.key x.key <;> simp
theorem d_ref10_PendingMay {w : World} {X : XS} {p : Pend} {vr vw : Value} (h1 : Sl w X 1 vr (p.reads.map S1)) (h2 : Sl w X 4 vw (p.writes.map KV.l)) :
    Ct Tryz.prog 114 #[p.v vr vw] w X nX fun v _ _ => v = I p.err := by
  intro w0 hk
  replace h1 := h1.mv hk.mvo
  replace h2 := h2.mv hk.mvo
  have hcw := chain_writes none p.writes (fun _ _ => trivial)
  apply ok_raceref10_PendingMay; unfold vc_raceref10_PendingMay
  have hs := Since.init w0
  repeat' first | with_reducible (first | apply condW_T | apply condW_F | apply un_selF | apply un_selTF | apply grdV_onF | apply grdW_offF | apply rdW_pickT | apply rdW_pickF | apply gE_F | apply gE_TF | apply r_notT | apply r_notF) | ((with_reducible apply r_bld); (· kernel_rfl)) | ((with_reducible refine r_eqS0 _ ?_ ?_ ?_); (· kernel_rfl); all_goals intros) | with_reducible apply jn_of | ((with_reducible refine r_pureB (c_ref8_May _) ?_ hs.has ?_ ?_); (· kernel_rfl); all_goals (intro _ w X hs1; replace hs := hs.trans hs1)) | ((with_reducible refine r_pureB (c_ref10_TxnMay _) ?_ hs.has ?_ ?_); (· kernel_rfl); all_goals (intro _ w X hs1; replace hs := hs.trans hs1)) | ((first | (with_reducible refine fin_ret0 hs ?_) | (with_reducible refine fin_ret0 (hs0.trans hs) ?_)); intro wa hk; (simp_all [Pend.err, rises, rising] <;> grind)) | (refine r_ct0B (d_ref10_Keys  (by first | assumption | exact Sl.mv (by assumption) (by (first | exact mv0 | exact mv1 (by assumption) | exact mv2 (by assumption) (by assumption))) | exact Pends.mv (by assumption) (by (first | exact mv0 | exact mv1 (by assumption) | exact mv2 (by assumption) (by assumption))) | exact Hists.mv (by assumption) (by (first | exact mv0 | exact mv1 (by assumption) | exact mv2 (by assumption) (by assumption))) | exact Rec.at.mv (by assumption) (by (first | exact mv0 | exact mv1 (by assumption) | exact mv2 (by assumption) (by assumption))) | exact Own.sl (by assumption) | exact Cells.mv (by assumption) (by (first | exact mv0 | exact mv1 (by assumption) | exact mv2 (by assumption) (by assumption))) | exact Cells.mv (RowIs.cells (by assumption)) (by (first | exact mv0 | exact mv1 (by assumption) | exact mv2 (by assumption) (by assumption))) | omega)) (by kernel_rfl) hs.has ?_ ?_ <;> (intro _ w X hs1; replace hs := hs.trans hs1)) | (refine r_ct0B (d_ref10_Writes  (by first | assumption | exact Sl.mv (by assumption) (by (first | exact mv0 | exact mv1 (by assumption) | exact mv2 (by assumption) (by assumption))) | exact Pends.mv (by assumption) (by (first | exact mv0 | exact mv1 (by assumption) | exact mv2 (by assumption) (by assumption))) | exact Hists.mv (by assumption) (by (first | exact mv0 | exact mv1 (by assumption) | exact mv2 (by assumption) (by assumption))) | exact Rec.at.mv (by assumption) (by (first | exact mv0 | exact mv1 (by assumption) | exact mv2 (by assumption) (by assumption))) | exact Own.sl (by assumption) | exact Cells.mv (by assumption) (by (first | exact mv0 | exact mv1 (by assumption) | exact mv2 (by assumption) (by assumption))) | exact Cells.mv (RowIs.cells (by assumption)) (by (first | exact mv0 | exact mv1 (by assumption) | exact mv2 (by assumption) (by assumption))) | omega)) (by kernel_rfl) hs.has ?_ ?_ <;> (intro _ w X hs1; replace hs := hs.trans hs1))
theorem d_ref10_writes {w : World} {X : XS} {p : Pend} {vr vw : Value} {k : BA} (h2 : Sl w X 4 vw (p.writes.map KV.l)) :
    Ct Tryz.prog 161 #[p.v vr vw, .string k] w X nX fun v _ _ => v = B (p.has k) := by
  intro w0 hk
  replace h2 := h2.mv hk.mvo
  have hl := h2.len'
  apply ok_raceref10_writes; unfold vc_raceref10_writes
  have hs := Since.init w0
  skip
  refine lp1_of (fun n a w X => ∃ i : Nat, a = I (i : Nat) ∧ n = (p.writes).length - i ∧ i ≤ (p.writes).length ∧ Since (old w0) w0 X w ∧ (p.writes.any fun w => decide (w.key = k)) = ((p.writes.drop i).any fun w => decide (w.key = k))) (p.writes).length ⟨0, rfl, rfl, Nat.zero_le _, hs, by simp⟩ ?_
  rintro n a w X ⟨i, rfl, rfl, hi, hs, hw⟩
  rcases at_or (p.writes) i with ⟨hlt, x, hx, hd⟩ | ⟨hge, hd⟩
  · rw [hd, List.any_cons] at hw
    repeat' first | ((with_reducible refine r_lssT ?_ ?_); (· omega)) | with_reducible (first | apply condW_T | apply condW_F) | (with_reducible apply r_seql <;> intro _) | ((with_reducible apply m_fld1); (· (first | assumption | exact RowIs.cells (by assumption))); (· kernel_rfl); (· rfl); intro _ _ _) | ((with_reducible apply m_ld1); (· (first | assumption | exact RowIs.cells (by assumption))); (· (first | exact mv0 | exact mv1 (by assumption) | exact mv2 (by assumption) (by assumption))); (· kernel_rfl); (· rfl)) | ((with_reducible apply m_lnS); (· (first | assumption | exact Own.sl (by assumption))); (· kernel_rfl)) | ((with_reducible apply m_ixS); (· (first | assumption | exact Own.sl (by assumption))); (try (case hz => rfl)); (case hr => first | assumption | exact List.getElem?_eq_getElem (by omega)); (try (case hz => omega)); (case ht => kernel_rfl); (case hs => kernel_rfl); intro _ _ _) | ((with_reducible apply r_add); (· omega); (· omega)) | ((first | (with_reducible refine fin_ret0 hs ?_) | (with_reducible refine fin_ret0 (hs0.trans hs) ?_)); intro wa hk; simp_all [Pend.has]) | ((with_reducible refine nx1_of ((p.writes).length - (i + 1)) ?_ ?_); (· omega); exact ⟨i + 1, by simp, rfl, by omega, hs, by rw [hw]; simp [*]⟩)
  · repeat' first | ((with_reducible refine r_lssF ?_ ?_); (· omega)) | with_reducible apply condW_F | ((with_reducible apply m_lnS); (· (first | assumption | exact Own.sl (by assumption))); (· kernel_rfl)) | ((first | (with_reducible refine fin_ret0 hs ?_) | (with_reducible refine fin_ret0 (hs0.trans hs) ?_)); intro wa hk; simp_all [Pend.has])
theorem d_ref10_reads {w : World} {X : XS} {p : Pend} {vr vw : Value} {k : BA} (h1 : Sl w X 1 vr (p.reads.map S1)) :
    Ct Tryz.prog 162 #[p.v vr vw, .string k] w X nX fun v _ _ => v = B (p.reads.any fun x => decide (k = x)) := by
  intro w0 hk
  replace h1 := h1.mv hk.mvo
  have hl := h1.len'
  apply ok_raceref10_reads; unfold vc_raceref10_reads
  have hs := Since.init w0
  skip
  refine lp1_of (fun n a w X => ∃ i : Nat, a = I (i : Nat) ∧ n = (p.reads).length - i ∧ i ≤ (p.reads).length ∧ Since (old w0) w0 X w ∧ (p.reads.any fun x => decide (k = x)) = ((p.reads.drop i).any fun x => decide (k = x))) (p.reads).length ⟨0, rfl, rfl, Nat.zero_le _, hs, by simp⟩ ?_
  rintro n a w X ⟨i, rfl, rfl, hi, hs, hw⟩
  rcases at_or (p.reads) i with ⟨hlt, x, hx, hd⟩ | ⟨hge, hd⟩
  · rw [hd, List.any_cons] at hw
    repeat' first | ((with_reducible refine r_lssT ?_ ?_); (· omega)) | with_reducible (first | apply condW_T | apply condW_F) | (with_reducible apply r_seql <;> intro _) | ((with_reducible apply m_ld1); (· (first | assumption | exact RowIs.cells (by assumption))); (· (first | exact mv0 | exact mv1 (by assumption) | exact mv2 (by assumption) (by assumption))); (· kernel_rfl); (· rfl)) | ((with_reducible apply m_lnS); (· (first | assumption | exact Own.sl (by assumption))); (· kernel_rfl)) | ((with_reducible apply m_ixS); (· (first | assumption | exact Own.sl (by assumption))); (try (case hz => rfl)); (case hr => first | assumption | exact List.getElem?_eq_getElem (by omega)); (try (case hz => omega)); (case ht => kernel_rfl); (case hs => kernel_rfl); intro _ _ _) | ((with_reducible apply r_add); (· omega); (· omega)) | ((first | (with_reducible refine fin_ret0 hs ?_) | (with_reducible refine fin_ret0 (hs0.trans hs) ?_)); intro wa hk; (first | (subst ‹x = k›; simp [hw]) | simp_all)) | ((with_reducible refine nx1_of ((p.reads).length - (i + 1)) ?_ ?_); (· omega); exact ⟨i + 1, by simp, rfl, by omega, hs, by rw [hw]; simp [Ne.symm ‹¬ x = k›]⟩)
  · repeat' first | ((with_reducible refine r_lssF ?_ ?_); (· omega)) | with_reducible apply condW_F | ((with_reducible apply m_lnS); (· (first | assumption | exact Own.sl (by assumption))); (· kernel_rfl)) | ((first | (with_reducible refine fin_ret0 hs ?_) | (with_reducible refine fin_ret0 (hs0.trans hs) ?_)); intro wa hk; simp_all)
theorem d_ref10_clash {w : World} {X : XS} {p q : Pend} {vr vw ur uw : Value} (h1 : Sl w X 1 vr (p.reads.map S1)) (h2 : Sl w X 4 vw (p.writes.map KV.l)) (h3 : Sl w X 1 ur (q.reads.map S1)) (h4 : Sl w X 4 uw (q.writes.map KV.l)) :
    Ct Tryz.prog 152 #[p.v vr vw, q.v ur uw] w X nX fun v _ _ => v = B (p.clash q) := by
  intro w0 hk
  replace h1 := h1.mv hk.mvo
  replace h2 := h2.mv hk.mvo
  replace h3 := h3.mv hk.mvo
  replace h4 := h4.mv hk.mvo
  have hl1 := h1.len'
  have hl2 := h2.len'
  apply ok_raceref10_clash; unfold vc_raceref10_clash
  have hs := Since.init w0
  skip
  refine lp1_of (fun n a w X => ∃ i : Nat, a = I (i : Nat) ∧ n = (p.writes).length - i ∧ i ≤ (p.writes).length ∧ Since (old w0) w0 X w ∧ p.writes.any (fun w => q.has w.key || q.reads.any fun k => decide (w.key = k)) = (p.writes.drop i).any (fun w => q.has w.key || q.reads.any fun k => decide (w.key = k))) (p.writes).length ⟨0, rfl, rfl, Nat.zero_le _, hs, by simp⟩ ?_
  rintro n a w X ⟨i, rfl, rfl, hi, hs, hw⟩
  rcases at_or (p.writes) i with ⟨hlt, x, hx, hd⟩ | ⟨hge, hd⟩
  · rw [hd, List.any_cons] at hw
    repeat' first | ((with_reducible refine r_lssT ?_ ?_); (· omega)) | with_reducible (first | apply condW_T | apply condW_F | apply un_selF | apply un_selTF | apply grdV_onF | apply grdW_offF | apply rdW_pickT | apply rdW_pickF | apply gE_F | apply gE_TF) | ((with_reducible apply m_fld1); (· (first | assumption | exact RowIs.cells (by assumption))); (· kernel_rfl); (· rfl); intro _ _ _) | ((with_reducible apply m_ld1); (· (first | assumption | exact RowIs.cells (by assumption))); (· (first | exact mv0 | exact mv1 (by assumption) | exact mv2 (by assumption) (by assumption))); (· kernel_rfl); (· rfl)) | ((with_reducible apply m_lnS); (· (first | assumption | exact Own.sl (by assumption))); (· kernel_rfl)) | ((with_reducible apply m_ixS); (· (first | assumption | exact Own.sl (by assumption))); (try (case hz => rfl)); (case hr => first | assumption | exact List.getElem?_eq_getElem (by omega)); (try (case hz => omega)); (case ht => kernel_rfl); (case hs => kernel_rfl); intro _ _ _) | ((with_reducible apply r_add); (· omega); (· omega)) | with_reducible apply jn_of | ((first | (with_reducible refine fin_ret0 hs ?_) | (with_reducible refine fin_ret0 (hs0.trans hs) ?_)); intro wa hk; (simp_all [Pend.clash])) | ((with_reducible refine nx1_of ((p.writes).length - (i + 1)) ?_ ?_); (· omega); exact ⟨i + 1, by simp, rfl, by omega, hs, by rw [hw]; simp [*]⟩) | (refine r_ct0B (d_ref10_writes (p := q) (h4.mv hs.mv)) (by kernel_rfl) hs.has ?_ ?_ <;> (intro _ w X hs1; replace hs := hs.trans hs1)) | (refine r_ct0B (d_ref10_reads (p := q) (h3.mv hs.mv)) (by kernel_rfl) hs.has ?_ ?_ <;> (intro _ w X hs1; replace hs := hs.trans hs1))
  · rw [hd] at hw
    repeat' first | ((with_reducible refine r_lssF ?_ ?_); (· omega)) | with_reducible apply condW_F | ((with_reducible apply m_lnS); (· (first | assumption | exact Own.sl (by assumption))); (· kernel_rfl))
    refine lp1_of (fun n a w X => ∃ k : Nat, a = I k ∧ n = p.reads.length - k ∧ k ≤ p.reads.length ∧ Since (old w0) w0 X w ∧ (p.reads.any fun k => q.has k) = ((p.reads.drop k).any fun k => q.has k)) p.reads.length ⟨0, rfl, rfl, Nat.zero_le _, hs, by simp⟩ ?_
    clear hs
    rintro n a w X ⟨k, rfl, rfl, hk1, hs, hw2⟩
    rcases at_or p.reads k with ⟨hlt1, y, hy, hd1⟩ | ⟨hge1, hd1⟩
    · rw [hd1, List.any_cons] at hw2
      repeat' first | ((with_reducible refine r_lssT ?_ ?_); (· omega)) | with_reducible (first | apply condW_T | apply condW_F) | ((with_reducible apply m_ld1); (· (first | assumption | exact RowIs.cells (by assumption))); (· (first | exact mv0 | exact mv1 (by assumption) | exact mv2 (by assumption) (by assumption))); (· kernel_rfl); (· rfl)) | ((with_reducible apply m_lnS); (· (first | assumption | exact Own.sl (by assumption))); (· kernel_rfl)) | ((with_reducible apply m_ixS); (· (first | assumption | exact Own.sl (by assumption))); (try (case hz => rfl)); (case hr => first | assumption | exact List.getElem?_eq_getElem (by omega)); (try (case hz => omega)); (case ht => kernel_rfl); (case hs => kernel_rfl); intro _ _ _) | ((with_reducible apply r_add); (· omega); (· omega)) | ((first | (with_reducible refine fin_ret0 hs ?_) | (with_reducible refine fin_ret0 (hs0.trans hs) ?_)); intro wa hk; (simp_all [Pend.clash])) | ((with_reducible refine nx1_of (p.reads.length - (k + 1)) ?_ ?_); (· omega); exact ⟨k + 1, by simp, rfl, by omega, hs, by rw [hw2]; simp [*]⟩) | (refine r_ct0B (d_ref10_writes (p := q) (h4.mv hs.mv)) (by kernel_rfl) hs.has ?_ ?_ <;> (intro _ w X hs1; replace hs := hs.trans hs1))
    · rw [hd1] at hw2
      repeat' first | ((with_reducible refine r_lssF ?_ ?_); (· omega)) | with_reducible apply condW_F | ((with_reducible apply m_lnS); (· (first | assumption | exact Own.sl (by assumption))); (· kernel_rfl)) | ((first | (with_reducible refine fin_ret0 hs ?_) | (with_reducible refine fin_ret0 (hs0.trans hs) ?_)); intro wa hk; (simp_all [Pend.clash]))
end Go.Proofs.YtnphlhpdikmpiaaGreat
namespace Go.Proofs.YtnphlhpdikmpiaaGreat
open Go.Eng
set_option maxRecDepth 100000
set_option maxHeartbeats 1000000
set_option linter.unusedVariables false
set_option linter.unusedSimpArgs false
attribute [local irreducible] un jn chk fld ld1 ldA st1 ixS lnS lnT bld cvI cvF ixA bsS apS rdV rdW grdW eW eV eU eC eF gE condW fin pickN nilN binS vS lp0 lp1 lp2 lp3 lp4 lp5 lp6 lp7 nx0 nx1 nx2 nx3 nx4 nx5 nx6 nx7
theorem d_ref_Strings {w : World} {X : XS} {a : Value} {xs : List BA} (ha : Sl w X 1 a (xs.map S1)) (hb : xs.length ≤ 2 ^ 40) :
    Ct Tryz.prog 22 #[a] w X nX fun v wa w' => Own w' (made wa w') wa.heap.size 9 1 v (xs.map S1) := by
    intro w0 hk
    replace ha := ha.mv hk.mvo
    have hla := ha.len'
    apply ok_raceref_Strings; unfold vc_raceref_Strings
    have hs := Since.init w0
    skip
    refine lp2_of (fun n a b w X => ∃ i : Nat, a = I i ∧ n = xs.length - i ∧ i ≤ xs.length ∧ Since (old w0) w0 X w ∧ Own w X w0.heap.size 9 1 b ((xs.take i).map S1)) xs.length ⟨0, rfl, rfl, Nat.zero_le _, hs, Own.nil _ _ _ _ _⟩ ?_
    rintro n a b w X ⟨i, rfl, rfl, hi, hs, ho⟩
    rcases at_or (xs) i with ⟨hlt, x, hx, hd⟩ | ⟨hge, hd⟩
    · repeat' first | ((with_reducible refine r_lssT ?_ ?_); (· omega)) | with_reducible apply condW_T | ((with_reducible apply m_ld1); (· (first | assumption | exact RowIs.cells (by assumption))); (· (first | exact mv0 | exact mv1 (by assumption) | exact mv2 (by assumption) (by assumption))); (· kernel_rfl); (· rfl)) | ((with_reducible apply m_lnS); (· (first | assumption | exact Own.sl (by assumption))); (· kernel_rfl)) | ((with_reducible apply m_ixS); (· (first | assumption | exact Own.sl (by assumption))); (try (case hz => rfl)); (case hr => first | assumption | exact List.getElem?_eq_getElem (by omega)); (try (case hz => omega)); (case ht => kernel_rfl); (case hs => kernel_rfl); intro _ _ _) | ((with_reducible apply r_add); (· omega); (· omega)) | ((with_reducible apply m_app1s); (case own => first | assumption | exact Own.since (by assumption) (by assumption)); (case hs => assumption); (case h0 => first | exact fun _ h => h | exact hs0.has); (case he => kernel_rfl); (case hk => rfl); (case ho => first | rfl | assumption); (case hb => (simp only [List.length_map, List.length_take, List.length_append, List.length_cons, List.length_nil]; omega)); (case hl => (simp only [List.length_map, List.length_take, List.length_append, List.length_cons, List.length_nil]; omega)); intro acc w X hs1 ho hc hat; replace hs := hs1) | ((with_reducible refine nx2_of ((xs).length - (i + 1)) ?_ ?_); (· omega); exact ⟨i + 1, by simp, rfl, by omega, hs, by rw [List.take_add_one, hx]; simpa using ho⟩)
    · repeat' first | ((with_reducible refine r_lssF ?_ ?_); (· omega)) | with_reducible apply condW_F | ((with_reducible apply m_lnS); (· (first | assumption | exact Own.sl (by assumption))); (· kernel_rfl)) | ((first | (with_reducible refine fin_ret0 hs ?_) | (with_reducible refine fin_ret0 (hs0.trans hs) ?_)); intro wa hk; (rw [List.take_of_length_le hge] at ho; exact (ho.kp hk).tight))
theorem d_ref_CopyInts {w : World} {X : XS} {a : Value} {xs : List Int} (ha : Sl w X 1 a (xs.map I1)) (hb : xs.length ≤ 2 ^ 40) :
    Ct Tryz.prog 24 #[a] w X nX fun v wa w' => Own w' (made wa w') wa.heap.size 3 1 v (xs.map I1) := by
    intro w0 hk
    replace ha := ha.mv hk.mvo
    have hla := ha.len'
    apply ok_raceref_CopyInts; unfold vc_raceref_CopyInts
    have hs := Since.init w0
    skip
    refine lp2_of (fun n a b w X => ∃ i : Nat, a = I i ∧ n = xs.length - i ∧ i ≤ xs.length ∧ Since (old w0) w0 X w ∧ Own w X w0.heap.size 3 1 b ((xs.take i).map I1)) xs.length ⟨0, rfl, rfl, Nat.zero_le _, hs, Own.nil _ _ _ _ _⟩ ?_
    rintro n a b w X ⟨i, rfl, rfl, hi, hs, ho⟩
    rcases at_or (xs) i with ⟨hlt, x, hx, hd⟩ | ⟨hge, hd⟩
    · repeat' first | ((with_reducible refine r_lssT ?_ ?_); (· omega)) | with_reducible apply condW_T | ((with_reducible apply m_ld1); (· (first | assumption | exact RowIs.cells (by assumption))); (· (first | exact mv0 | exact mv1 (by assumption) | exact mv2 (by assumption) (by assumption))); (· kernel_rfl); (· rfl)) | ((with_reducible apply m_lnS); (· (first | assumption | exact Own.sl (by assumption))); (· kernel_rfl)) | ((with_reducible apply m_ixS); (· (first | assumption | exact Own.sl (by assumption))); (try (case hz => rfl)); (case hr => first | assumption | exact List.getElem?_eq_getElem (by omega)); (try (case hz => omega)); (case ht => kernel_rfl); (case hs => kernel_rfl); intro _ _ _) | ((with_reducible apply r_add); (· omega); (· omega)) | ((with_reducible apply m_app1s); (case own => first | assumption | exact Own.since (by assumption) (by assumption)); (case hs => assumption); (case h0 => first | exact fun _ h => h | exact hs0.has); (case he => kernel_rfl); (case hk => rfl); (case ho => first | rfl | assumption); (case hb => (simp only [List.length_map, List.length_take, List.length_append, List.length_cons, List.length_nil]; omega)); (case hl => (simp only [List.length_map, List.length_take, List.length_append, List.length_cons, List.length_nil]; omega)); intro acc w X hs1 ho hc hat; replace hs := hs1) | ((with_reducible refine nx2_of ((xs).length - (i + 1)) ?_ ?_); (· omega); exact ⟨i + 1, by simp, rfl, by omega, hs, by rw [List.take_add_one, hx]; simpa using ho⟩)
    · repeat' first | ((with_reducible refine r_lssF ?_ ?_); (· omega)) | with_reducible apply condW_F | ((with_reducible apply m_lnS); (· (first | assumption | exact Own.sl (by assumption))); (· kernel_rfl)) | ((first | (with_reducible refine fin_ret0 hs ?_) | (with_reducible refine fin_ret0 (hs0.trans hs) ?_)); intro wa hk; (rw [List.take_of_length_le hge] at ho; exact (ho.kp hk).tight))
theorem d_ref_CopyWrites {w : World} {X : XS} {a : Value} {xs : List KV} (ha : Sl w X 4 a (xs.map KV.l)) (hb : xs.length ≤ 2 ^ 40) :
    Ct Tryz.prog 23 #[a] w X nX fun v wa w' => Own w' (made wa w') wa.heap.size 66 4 v (xs.map KV.l) := by
    intro w0 hk
    replace ha := ha.mv hk.mvo
    have hla := ha.len'
    apply ok_raceref_CopyWrites; unfold vc_raceref_CopyWrites
    have hs := Since.init w0
    skip
    refine lp2_of (fun n a b w X => ∃ i : Nat, a = I i ∧ n = xs.length - i ∧ i ≤ xs.length ∧ Since (old w0) w0 X w ∧ Own w X w0.heap.size 66 4 b ((xs.take i).map KV.l)) xs.length ⟨0, rfl, rfl, Nat.zero_le _, hs, Own.nil _ _ _ _ _⟩ ?_
    rintro n a b w X ⟨i, rfl, rfl, hi, hs, ho⟩
    rcases at_or (xs) i with ⟨hlt, x, hx, hd⟩ | ⟨hge, hd⟩
    · repeat' first | ((with_reducible refine r_lssT ?_ ?_); (· omega)) | with_reducible apply condW_T | ((with_reducible apply m_ldA); (· (first | assumption | exact RowIs.cells (by assumption))); (· (first | exact mv0 | exact mv1 (by assumption) | exact mv2 (by assumption) (by assumption))); (· kernel_rfl); (· rfl)) | ((with_reducible apply m_lnS); (· (first | assumption | exact Own.sl (by assumption))); (· kernel_rfl)) | ((with_reducible apply m_ixS); (· (first | assumption | exact Own.sl (by assumption))); (try (case hz => rfl)); (case hr => first | assumption | exact List.getElem?_eq_getElem (by omega)); (try (case hz => omega)); (case ht => kernel_rfl); (case hs => kernel_rfl); intro _ _ _) | ((with_reducible apply r_add); (· omega); (· omega)) | ((with_reducible apply m_app1a); (case own => first | assumption | exact Own.since (by assumption) (by assumption)); (case hs => assumption); (case h0 => first | exact fun _ h => h | exact hs0.has); (case he => kernel_rfl); (case hk => rfl); (case h1 => (repeat' first | with_reducible apply all_one_cons | with_reducible exact all_one_nil | assumption | rfl | exact Sl.one (by assumption) | exact Rws.one (by assumption) | exact Sl.one (Own.sl (by assumption)))); (case hb => (simp only [List.length_map, List.length_take, List.length_append, List.length_cons, List.length_nil]; omega)); (case hl => (simp only [List.length_map, List.length_take, List.length_append, List.length_cons, List.length_nil]; omega)); intro acc w X hs1 ho hc hat; replace hs := hs1) | ((with_reducible refine nx2_of ((xs).length - (i + 1)) ?_ ?_); (· omega); exact ⟨i + 1, by simp, rfl, by omega, hs, by rw [List.take_add_one, hx]; simpa using ho⟩)
    · repeat' first | ((with_reducible refine r_lssF ?_ ?_); (· omega)) | with_reducible apply condW_F | ((with_reducible apply m_lnS); (· (first | assumption | exact Own.sl (by assumption))); (· kernel_rfl)) | ((first | (with_reducible refine fin_ret0 hs ?_) | (with_reducible refine fin_ret0 (hs0.trans hs) ?_)); intro wa hk; (rw [List.take_of_length_le hge] at ho; exact (ho.kp hk).tight))
theorem d_ref_CopyPending {w : World} {X : XS} {p : Pend} {vr vw : Value} (h1 : Sl w X 1 vr (p.reads.map S1)) (h2 : Sl w X 4 vw (p.writes.map KV.l)) (hb1 : p.reads.length ≤ 2 ^ 40) (hb2 : p.writes.length ≤ 2 ^ 40) :
    Ct Tryz.prog 69 #[p.v vr vw] w X nX fun v wa w' => p.fresh wa w' v := by
  intro w0 hk
  replace h1 := h1.mv hk.mvo
  replace h2 := h2.mv hk.mvo
  apply ok_raceref_CopyPending; unfold vc_raceref_CopyPending
  have hs := Since.init w0
  refine r_ct0 (d_ref_Strings h1 hb1) (by kernel_rfl) hs.has ?_
  rintro v1 wa w X ho1 hle1 hin1 hs1
  replace hs := hs.trans hs1
  have q1 := ho1.sl.one
  skip
  refine r_ct0 (d_ref_CopyWrites (h2.mv (Since.mv hs)) hb2) (by kernel_rfl) hs.has ?_
  rintro v2 wb w2 X2 ho2 hle2 hin2 hs2
  have hb : w0.heap.size ≤ wa.heap.size := hle1
  have ho1X : Own w X w0.heap.size 9 1 v1 (p.reads.map S1) := ho1.up hin1 hb
  have ho1' := ho1X.since hs2
  have hlo2 : w0.heap.size ≤ wb.heap.size := Nat.le_trans hs.kp.size hle2
  have ho2' : Own w2 X2 w0.heap.size 66 4 v2 (p.writes.map KV.l) := ho2.up hin2 hlo2
  have q2 := ho2.sl.one
  replace hs := hs.trans hs2
  obtain ⟨b1, n1, c1, rfl⟩ := ho1.sl.form
  obtain ⟨b2, n2, c2, rfl⟩ := ho2.sl.form
  repeat' first | ((with_reducible apply m_sub); (· (simp only [Value.cells, nq1, nq2, nq3, nq4, nq5, nq6, setL, nq7, nq8, nq9, nq0, Nat.reduceAdd, Nat.zero_add]; try rfl))) | with_reducible apply un_box | ((with_reducible apply r_bld); (· kernel_rfl)) | ((with_reducible apply m_chkc); (case h => (repeat' first | with_reducible apply all_one_cons | with_reducible exact all_one_nil | assumption | rfl | exact Sl.one (by assumption) | exact Rws.one (by assumption) | exact Sl.one (Own.sl (by assumption))))) | ((with_reducible apply chk_T); (· first | rfl | assumption | exact Sl.one (by assumption) | exact Rws.one (by assumption) | exact Sl.one (Own.sl (by assumption)))) | ((first | (with_reducible refine fin_ret0 hs ?_) | (with_reducible refine fin_ret0 (hs0.trans hs) ?_)); intro wa hk; (exact ⟨_, _, rfl, (ho1'.kp hk).tight, (ho2'.kp hk).tight, fun g hg1 hg2 => by have := (ho1X.ge hg1).2; have := (ho2.ge hg2).1; omega⟩))
theorem d_ref_CopyPendings {w : World} {X : XS} {a : Value} {xs : List Pend} (ha : Pends w X a xs) (hb : xs.length ≤ 2 ^ 40) (hp : PSmall xs) :
    Ct Tryz.prog 57 #[a] w X nX fun v wa w' => Pends w' (made wa w') v xs := by
  intro w0 hk
  replace ha := ha.mv hk.mvo
  have hla := ha.len
  apply ok_raceref_CopyPendings; unfold vc_raceref_CopyPendings
  have hs := Since.init w0
  skip
  refine lp2_of (fun n a b w X => ∃ (i : Nat) (ys : List PV), a = I i ∧ n = xs.length - i ∧ i ≤ xs.length ∧ Since (old w0) w0 X w ∧ Own w X w0.heap.size 87 8 b (ys.map PV.l) ∧ (∀ y ∈ ys, y.at w X w0.heap.size) ∧ ys.map (·.p) = xs.take i) xs.length
    ⟨0, [], rfl, rfl, Nat.zero_le _, hs, Own.nil _ _ _ _ _, by simp, by simp⟩ ?_
  rintro n a b w X ⟨i, ys, rfl, rfl, hi, hs, ho, hys, hyp⟩
  have hyl : ys.length = i := by have := congrArg List.length hyp; simpa [Nat.min_eq_left hi] using this
  rcases at_or (xs) i with ⟨hlt, x, hx, hd⟩ | ⟨hge, hd⟩
  · have hxp := hp x (List.mem_of_getElem? hx)
    repeat' first | ((with_reducible refine r_lssT ?_ ?_); (· omega)) | with_reducible apply condW_T | ((with_reducible apply m_ldA); (· (first | assumption | exact RowIs.cells (by assumption))); (· (first | exact mv0 | exact mv1 (by assumption) | exact mv2 (by assumption) (by assumption))); (· kernel_rfl); (· rfl)) | ((with_reducible apply m_lnR); (· assumption); (· kernel_rfl)) | ((with_reducible apply m_ixP); (· assumption); (try (case hz => rfl)); (case hr => first | assumption | exact List.getElem?_eq_getElem (by omega)); (try (case hz => omega)); (case ht => kernel_rfl); (case hs => kernel_rfl); intros)
    refine r_ct0 (d_ref_CopyPending (p := x) (Sl.mv (by assumption) hs.mv) (Sl.mv (by assumption) hs.mv) hxp.1 hxp.2) (by kernel_rfl) hs.has ?_
    rintro v wa w3 X3 ⟨cr, cw, rfl, hc1, hc2, hc12⟩ hle hin hs3
    have ho3 := ho.since hs3
    have hys3 : ∀ y ∈ ys, y.at w3 X3 w0.heap.size := fun y hy => (hys y hy).mv hs3.mv
    have hlo : w0.heap.size ≤ wa.heap.size := Nat.le_trans hs.kp.size hle
    have hd1 := hc1.up hin hlo
    have hd2 := hc2.up hin hlo
    have p1 := hc1.sl.one
    have p2 := hc2.sl.one
    replace hs := hs.trans hs3
    obtain ⟨b1, n1, c1, rfl⟩ := hc1.sl.form
    obtain ⟨b2, n2, c2, rfl⟩ := hc2.sl.form
    clear ho
    repeat' first | ((with_reducible apply r_add); (· omega); (· omega)) | ((with_reducible apply m_app1a); (case own => first | assumption | exact Own.since (by assumption) (by assumption)); (case hs => assumption); (case h0 => first | exact fun _ h => h | exact hs0.has); (case he => kernel_rfl); (case hk => rfl); (case h1 => (repeat' first | with_reducible apply all_one_cons | with_reducible exact all_one_nil | assumption | rfl | exact Sl.one (by assumption) | exact Rws.one (by assumption) | exact Sl.one (Own.sl (by assumption)))); (case hb => (simp only [List.length_map, List.length_take, List.length_append, List.length_cons, List.length_nil]; omega)); (case hl => (simp only [List.length_map, List.length_take, List.length_append, List.length_cons, List.length_nil]; omega)); intro acc w X hs1 ho hc hat; replace hs := hs1)
    refine nx2_of (xs.length - (i + 1)) (by omega) ⟨i + 1, ys ++ [⟨x, b1, n1, c1, b2, n2, c2⟩], by simp, rfl, by omega, hs, by simpa using ho, fun y hy => ?_, ?_⟩
    · rcases List.mem_append.1 hy with hy | hy
      · exact PV.at.chg (hys3 y hy) hc ho3 (by kernel_rfl)
      · rw [List.mem_singleton] at hy
        subst hy
        exact PV.at.chg (x := ⟨x, b1, n1, c1, b2, n2, c2⟩) ⟨hd1, hd2⟩ hc ho3 (by kernel_rfl)
    · rw [List.take_add_one, hx]; simp [hyp]
  · rw [List.take_of_length_le hge] at hyp
    repeat' first | ((with_reducible refine r_lssF ?_ ?_); (· omega)) | with_reducible apply condW_F | ((with_reducible apply m_lnR); (· assumption); (· kernel_rfl)) | ((first | (with_reducible refine fin_ret0 hs ?_) | (with_reducible refine fin_ret0 (hs0.trans hs) ?_)); intro wa hk; (have h5 := PV.pends (w := wa) (X := made w0 wa) (ho.kp hk).tight fun y hy => ⟨((hys y hy).r.kp hk).tight, ((hys y hy).w.kp hk).tight⟩; rw [hyp] at h5; exact h5))
end Go.Proofs.YtnphlhpdikmpiaaGreat
namespace Go.Proofs.YtnphlhpdikmpiaaGreat
open Go.Eng
set_option maxRecDepth 100000
set_option maxHeartbeats 1000000
set_option linter.unusedVariables false
set_option linter.unusedSimpArgs false
attribute [local irreducible] un jn chk fld ld1 ldA st1 ixS lnS lnT bld cvI cvF ixA bsS apS rdV rdW grdW eW eV eU eC eF gE condW fin pickN nilN binS vS lp0 lp1 lp2 lp3 lp4 lp5 lp6 lp7 nx0 nx1 nx2 nx3 nx4 nx5 nx6 nx7
structure HV where
  h : Hist
  bv : Option Addr
  nv : Nat
  cv : Nat
abbrev HV.l (x : HV) : List Value := x.h.l (.slice x.bv x.nv x.cv)
def HV.at (w : World) (X : XS) (lo : Nat) (x : HV) : Prop := Own w X lo 144 6 (.slice x.bv x.nv x.cv) (x.h.vers.map Ver.l)
theorem HV.hists {w : World} {X : XS} {lo : Nat} {v : Value} {xs : List HV} (ho : Own w X lo 142 2 v (xs.map HV.l)) (hx : ∀ x ∈ xs, x.at w X lo) : Hists w X v (xs.map (·.h)) := by
  refine ⟨xs.map HV.l, ho.sl, by simp, fun i r x hr hx' => ?_⟩
  simp only [List.getElem?_map, Option.map_eq_some_iff] at hr hx'
  obtain ⟨y, hy, rfl⟩ := hr
  obtain ⟨y', hy', rfl⟩ := hx'
  rw [hy] at hy'; cases hy'
  exact ⟨_, rfl, Own.sl (hx y (List.mem_of_getElem? hy))⟩
theorem d_ref_CopyHistories {w : World} {X : XS} {a : Value} {xs : List Hist} (ha : Hists w X a xs) (hb : xs.length ≤ 2 ^ 40) (hp : HSmall xs) :
    Ct Tryz.prog 56 #[a] w X nX fun v wa w' => Hists w' (made wa w') v xs := by
  intro w0 hk
  replace ha := ha.mv hk.mvo
  have hla := ha.len
  apply ok_raceref_CopyHistories; unfold vc_raceref_CopyHistories
  have hs := Since.init w0
  skip
  refine lp4_of (fun n a b _ _ w X => ∃ (i : Nat) (ys : List HV), a = I i ∧ n = xs.length - i ∧ i ≤ xs.length ∧ Since (old w0) w0 X w ∧ Own w X w0.heap.size 142 2 b (ys.map HV.l) ∧ (∀ y ∈ ys, y.at w X w0.heap.size) ∧ ys.map (·.h) = xs.take i) xs.length
    ⟨0, [], rfl, rfl, Nat.zero_le _, hs, Own.nil _ _ _ _ _, by simp, by simp⟩ ?_
  rintro n a b _ _ w1 X1 ⟨i, ys, rfl, rfl, hi, hs0, ho, hys, hyp⟩
  have hyl : ys.length = i := by have := congrArg List.length hyp; simpa [Nat.min_eq_left hi] using this
  have hs := Since.refl' hs0.has
  rcases at_or (xs) i with ⟨hlt, x, hx, hd⟩ | ⟨hge, hd⟩
  · have hxp := hp x (List.mem_of_getElem? hx)
    repeat' first | ((with_reducible refine r_lssT ?_ ?_); (· omega)) | with_reducible (first | apply condW_T | apply un_box) | ((with_reducible apply m_fld1); (· (first | assumption | exact RowIs.cells (by assumption))); (· kernel_rfl); (· rfl); intro _ _ _) | ((with_reducible apply m_ld1); (· (first | assumption | exact RowIs.cells (by assumption))); (· (first | exact mv0 | exact mv1 (by assumption) | exact mv2 (by assumption) (by assumption))); (· kernel_rfl); (· rfl)) | ((with_reducible apply m_lnR); (· assumption); (· kernel_rfl)) | ((with_reducible apply m_ixH); (· assumption); (try (case hz => rfl)); (case hr => first | assumption | exact List.getElem?_eq_getElem (by omega)); (try (case hz => omega)); (case ht => kernel_rfl); (case hs => kernel_rfl); intros) | ((with_reducible apply r_bld); (· kernel_rfl)) | ((with_reducible apply m_chkc); (case h => (repeat' first | with_reducible apply all_one_cons | with_reducible exact all_one_nil | assumption | rfl | exact Sl.one (by assumption) | exact Rws.one (by assumption) | exact Sl.one (Own.sl (by assumption))))) | ((with_reducible apply chk_T); (· first | rfl | assumption | exact Sl.one (by assumption) | exact Rws.one (by assumption) | exact Sl.one (Own.sl (by assumption))))
    refine lp2_of (fun n a b w X => ∃ (k : Nat) (vb : Value), a = I k ∧ b = .agg #[.string x.key, vb] ∧ n = x.vers.length - k ∧ k ≤ x.vers.length ∧ Since X1 w1 X w ∧ Own w X w1.heap.size 144 6 vb ((x.vers.take k).map Ver.l)) x.vers.length
      ⟨0, _, rfl, rfl, rfl, Nat.zero_le _, hs, Own.nil _ _ _ _ _⟩ ?_
    clear hs
    rintro n a b w X ⟨k, vb, rfl, rfl, rfl, hk1, hs, hov⟩
    have ov := hov.sl.one
    rcases at_or x.vers k with ⟨hlt1, u, hu, hdu⟩ | ⟨hge1, hdu⟩
    · repeat' first | ((with_reducible refine r_lssT ?_ ?_); (· omega)) | with_reducible apply condW_T | ((with_reducible apply un_cell); (· rfl)) | ((with_reducible apply m_set); (· (simp only [Value.cells, nq1, nq2, nq3, nq4, nq5, nq6, setL, nq7, nq8, nq9, nq0, Nat.reduceAdd, Nat.zero_add]; try rfl))) | ((with_reducible apply m_fld1); (· (first | assumption | exact RowIs.cells (by assumption))); (· kernel_rfl); (· rfl); intro _ _ _) | ((with_reducible apply m_ld1); (· (first | assumption | exact RowIs.cells (by assumption))); (· (first | exact mv0 | exact mv1 (by assumption) | exact mv2 (by assumption) (by assumption))); (· kernel_rfl); (· rfl)) | ((with_reducible apply m_ldA); (· (first | assumption | exact RowIs.cells (by assumption))); (· (first | exact mv0 | exact mv1 (by assumption) | exact mv2 (by assumption) (by assumption))); (· kernel_rfl); (· rfl)) | ((with_reducible apply m_lnS); (· (first | assumption | exact Own.sl (by assumption))); (· kernel_rfl)) | ((with_reducible apply m_ixS); (· (first | assumption | exact Own.sl (by assumption))); (try (case hz => rfl)); (case hr => first | assumption | exact List.getElem?_eq_getElem (by omega)); (try (case hz => omega)); (case ht => kernel_rfl); (case hs => kernel_rfl); intro _ _ _) | ((with_reducible apply m_ixH); (· assumption); (try (case hz => rfl)); (case hr => first | assumption | exact List.getElem?_eq_getElem (by omega)); (try (case hz => omega)); (case ht => kernel_rfl); (case hs => kernel_rfl); intros) | ((with_reducible apply chk_T); (· first | rfl | assumption | exact Sl.one (by assumption) | exact Rws.one (by assumption) | exact Sl.one (Own.sl (by assumption)))) | ((with_reducible apply r_add); (· omega); (· omega)) | ((with_reducible apply m_app1a); (case own => first | assumption | exact Own.since (by assumption) (by assumption)); (case hs => assumption); (case h0 => first | exact fun _ h => h | exact hs0.has); (case he => kernel_rfl); (case hk => rfl); (case h1 => (repeat' first | with_reducible apply all_one_cons | with_reducible exact all_one_nil | assumption | rfl | exact Sl.one (by assumption) | exact Rws.one (by assumption) | exact Sl.one (Own.sl (by assumption)))); (case hb => (simp only [List.length_map, List.length_take, List.length_append, List.length_cons, List.length_nil]; omega)); (case hl => (simp only [List.length_map, List.length_take, List.length_append, List.length_cons, List.length_nil]; omega)); intro acc w X hs1 ho hc hat; replace hs := hs1) | ((with_reducible refine nx2_of (x.vers.length - (k + 1)) ?_ ?_); (· omega); exact ⟨k + 1, _, by simp, rfl, rfl, by omega, hs, by rw [List.take_add_one, hu]; simpa using ho⟩)
    · rw [List.take_of_length_le hge1] at hov
      obtain ⟨b1, n1, c1, rfl⟩ := hov.sl.form
      have ho3 := ho.since hs
      have hys3 : ∀ y ∈ ys, y.at w X w0.heap.size := fun y hy => Own.mv (hys y hy) hs.mv
      have hov3 : Own w X w0.heap.size 144 6 (.slice b1 n1 c1) (x.vers.map Ver.l) := hov.low hs0.kp.size
      have hs2 := hs0.trans hs
      replace hs := hs2
      clear hov hs2 ho
      repeat' first | ((with_reducible refine r_lssF ?_ ?_); (· omega)) | with_reducible apply condW_F | ((with_reducible apply m_sub); (· (simp only [Value.cells, nq1, nq2, nq3, nq4, nq5, nq6, setL, nq7, nq8, nq9, nq0, Nat.reduceAdd, Nat.zero_add]; try rfl))) | ((with_reducible apply m_fld1); (· (first | assumption | exact RowIs.cells (by assumption))); (· kernel_rfl); (· rfl); intro _ _ _) | ((with_reducible apply m_ld1); (· (first | assumption | exact RowIs.cells (by assumption))); (· (first | exact mv0 | exact mv1 (by assumption) | exact mv2 (by assumption) (by assumption))); (· kernel_rfl); (· rfl)) | ((with_reducible apply m_lnS); (· (first | assumption | exact Own.sl (by assumption))); (· kernel_rfl)) | ((with_reducible apply m_ixH); (· assumption); (try (case hz => rfl)); (case hr => first | assumption | exact List.getElem?_eq_getElem (by omega)); (try (case hz => omega)); (case ht => kernel_rfl); (case hs => kernel_rfl); intros) | ((with_reducible apply chk_T); (· first | rfl | assumption | exact Sl.one (by assumption) | exact Rws.one (by assumption) | exact Sl.one (Own.sl (by assumption)))) | ((with_reducible apply r_add); (· omega); (· omega)) | ((with_reducible apply m_app1a); (case own => first | assumption | exact Own.since (by assumption) (by assumption)); (case hs => assumption); (case h0 => first | exact fun _ h => h | exact hs0.has); (case he => kernel_rfl); (case hk => rfl); (case h1 => (repeat' first | with_reducible apply all_one_cons | with_reducible exact all_one_nil | assumption | rfl | exact Sl.one (by assumption) | exact Rws.one (by assumption) | exact Sl.one (Own.sl (by assumption)))); (case hb => (simp only [List.length_map, List.length_take, List.length_append, List.length_cons, List.length_nil]; omega)); (case hl => (simp only [List.length_map, List.length_take, List.length_append, List.length_cons, List.length_nil]; omega)); intro acc w X hs1 ho hc hat; replace hs := hs1)
      refine nx4_of (xs.length - (i + 1)) (by omega) ⟨i + 1, ys ++ [⟨x, b1, n1, c1⟩], by simp, rfl, by omega, hs, by simpa using ho, fun y hy => ?_, ?_⟩
      · rcases List.mem_append.1 hy with hy | hy
        · exact Own.chg (hys3 y hy) hc fun g hg hb => Own.other ho3 (hys3 y hy) (by kernel_rfl) hb hg
        · rw [List.mem_singleton] at hy
          subst hy
          exact Own.chg hov3 hc fun g hg hb => Own.other ho3 hov3 (by kernel_rfl) hb hg
      · rw [List.take_add_one, hx]; simp [hyp]
  · rw [List.take_of_length_le hge] at hyp
    repeat' first | ((with_reducible refine r_lssF ?_ ?_); (· omega)) | with_reducible apply condW_F | ((with_reducible apply m_lnR); (· assumption); (· kernel_rfl)) | ((first | (with_reducible refine fin_ret0 hs ?_) | (with_reducible refine fin_ret0 (hs0.trans hs) ?_)); intro wa hk; (have h5 := HV.hists (w := wa) (X := made w0 wa) (ho.kp hk).tight fun y hy => (Own.kp (hys y hy) hk).tight; rw [hyp] at h5; exact h5))
theorem d_ref_CopyState {w : World} {X : XS} {s : State} {vh vp : Value} (h1 : Hists w X vh s.hists) (h2 : Pends w X vp s.pend) (hb1 : s.hists.length ≤ 2 ^ 40) (hb2 : s.pend.length ≤ 2 ^ 40) (hsm : s.small) :
    Ct Tryz.prog 25 #[s.v vh vp] w X nX fun v wa w' => ∃ uh up, v = s.v uh up ∧ Hists w' (made wa w') uh s.hists ∧ Pends w' (made wa w') up s.pend := by
  intro w0 hk
  replace h1 := h1.mv hk.mvo
  replace h2 := h2.mv hk.mvo
  apply ok_raceref_CopyState; unfold vc_raceref_CopyState
  have hs := Since.init w0
  refine r_ct0 (d_ref_CopyHistories h1 hb1 hsm.h) (by kernel_rfl) hs.has ?_
  rintro v1 wa w1 X1 ho1 hle1 hin1 hs1
  have hlo1 : w0.heap.size ≤ wa.heap.size := hle1
  replace hs := hs.trans hs1
  refine r_ct0 (d_ref_CopyPendings (h2.mv hs.mv) hb2 hsm.p) (by kernel_rfl) hs.has ?_
  rintro v2 wb w2 X2 ho2 hle2 hin2 hs2
  have ho1' : Hists w2 (fun k => X2 k ∧ w0.heap.size ≤ k) v1 s.hists := ho1.mv fun k hk hl => ⟨⟨hs2.sub k (hin1 k hk), by have := hk.1; omega⟩, hs2.kp.block k (hin1 k hk)⟩
  have hsz := hs.kp.size
  have ho2' : Pends w2 (fun k => X2 k ∧ w0.heap.size ≤ k) v2 s.pend := ho2.mv fun k hk hl => ⟨⟨hin2 k hk, by have := hk.1; omega⟩, rfl⟩
  have p1 := ho1.one
  have p2 := ho2.one
  replace hs := hs.trans hs2
  have hf1 : ∃ b n c, v1 = .slice b n c := let ⟨_, h, _⟩ := ho1; h.form
  have hf2 : ∃ b n c, v2 = .slice b n c := let ⟨_, h, _⟩ := ho2; h.form
  obtain ⟨b1, n1, c1, rfl⟩ := hf1
  obtain ⟨b2, n2, c2, rfl⟩ := hf2
  repeat' first | ((with_reducible apply m_sub); (· (simp only [Value.cells, nq1, nq2, nq3, nq4, nq5, nq6, setL, nq7, nq8, nq9, nq0, Nat.reduceAdd, Nat.zero_add]; try rfl))) | with_reducible apply un_box | ((with_reducible apply r_bld); (· kernel_rfl)) | ((with_reducible apply m_chkc); (case h => (repeat' first | with_reducible apply all_one_cons | with_reducible exact all_one_nil | assumption | rfl | exact Sl.one (by assumption) | exact Rws.one (by assumption) | exact Sl.one (Own.sl (by assumption))))) | ((with_reducible apply chk_T); (· first | rfl | assumption | exact Sl.one (by assumption) | exact Rws.one (by assumption) | exact Sl.one (Own.sl (by assumption)))) | ((first | (with_reducible refine fin_ret0 hs ?_) | (with_reducible refine fin_ret0 (hs0.trans hs) ?_)); intro wa hk; (exact ⟨_, _, rfl, ho1'.mv fun k hk' hl => ⟨⟨hk'.2, by have := hk.size; omega⟩, hk.block k hk'.1⟩, ho2'.mv fun k hk' hl => ⟨⟨hk'.2, by have := hk.size; omega⟩, hk.block k hk'.1⟩⟩))
end Go.Proofs.YtnphlhpdikmpiaaGreat
namespace Go.Proofs.YtnphlhpdikmpiaaGreat
open Go.Eng
set_option maxRecDepth 100000
set_option maxHeartbeats 1000000
set_option linter.unusedVariables false
set_option linter.unusedSimpArgs false
attribute [local irreducible] un jn chk fld ld1 ldA st1 ixS lnS lnT bld cvI cvF ixA bsS apS rdV rdW grdW eW eV eU eC eF gE condW fin pickN nilN binS vS lp0 lp1 lp2 lp3 lp4 lp5 lp6 lp7 nx0 nx1 nx2 nx3 nx4 nx5 nx6 nx7
structure Rec.fits (r : Rec) : Prop where
  sm : r.small
  pt : r.parts.length ≤ 2 ^ 40
  pr : r.pairs.length ≤ 2 ^ 40
  hl : r.state.hists.length ≤ 2 ^ 40
  pl : r.state.pend.length ≤ 2 ^ 40
abbrev Rec.v0 (r : Rec) (vr vw vp vq : Value) : Value := .agg #[I r.kind, I r.txn.coord, I r.txn.life, I r.txn.sq, I r.stamp.wall, I r.stamp.logic, I r.stamp.node,
  I r.prev.wall, I r.prev.logic, I r.prev.node, B r.commit, I r.n, .float .f64 r.point, vr, vw, vp, vq, I 0, I 0, .float .f64 0, .float .f64 0, I 0, I 0, I 0, I 0, I 0, I 0, .slice none 0 0, .slice none 0 0]
theorem d_ref_CopyRec {w : World} {X : XS} {r : Rec} {vr vw vp vq vh vd : Value} (h : r.at w X vr vw vp vq vh vd) (hf : r.fits) :
    Ct Tryz.prog 9 #[r.v vr vw vp vq vh vd] w X nX fun v wa w' => ∃ ur uw up uq uh ud, v = r.v ur uw up uq uh ud ∧ r.at w' (made wa w') ur uw up uq uh ud ∧ Own w' (made wa w') wa.heap.size 66 4 uw (r.writes.map KV.l) := by
  intro w0 hk
  replace h := h.mv hk.mvo
  obtain ⟨h1, h2, h3, h4, h5, h6⟩ := h
  have hl4 := h4.len'
  apply ok_raceref_CopyRec; unfold vc_raceref_CopyRec
  have hs := Since.init w0
  repeat' first | with_reducible apply un_box | ((with_reducible apply r_bld); (· kernel_rfl)) | ((with_reducible apply m_chkc); (case h => (repeat' first | with_reducible apply all_one_cons | with_reducible exact all_one_nil | assumption | rfl | exact Sl.one (by assumption) | exact Rws.one (by assumption) | exact Sl.one (Own.sl (by assumption))))) | ((with_reducible apply chk_T); (· first | rfl | assumption | exact Sl.one (by assumption) | exact Rws.one (by assumption) | exact Sl.one (Own.sl (by assumption))))
  refine r_ct0 (d_ref_Strings h1 hf.sm.reads) (by kernel_rfl) hs.has ?_
  rintro v1 wa w1 X1 ho1 hle1 hin1 hs1
  have g1 : Own w1 X1 w0.heap.size 9 1 v1 (r.reads.map S1) := ho1.up hin1 hle1
  have q1 := ho1.sl.one
  replace hs := hs.trans hs1
  clear ho1 hs1 hle1 hin1
  repeat' first | ((with_reducible apply m_set); (· (simp only [Value.cells, nq1, nq2, nq3, nq4, nq5, nq6, setL, nq7, nq8, nq9, nq0, Nat.reduceAdd, Nat.zero_add]; try rfl))) | ((with_reducible apply chk_T); (· first | rfl | assumption | exact Sl.one (by assumption) | exact Rws.one (by assumption) | exact Sl.one (Own.sl (by assumption))))
  refine r_ct0 (d_ref_CopyWrites (h2.mv hs.mv) hf.sm.writes) (by kernel_rfl) hs.has ?_
  rintro v2 wb w2 X2 ho2 hle2 hin2 hs2
  have g2 : Own w2 X2 w0.heap.size 66 4 v2 (r.writes.map KV.l) := ho2.up hin2 (Nat.le_trans hs.kp.size hle2)
  replace g1 := g1.since hs2
  have q2 := ho2.sl.one
  replace hs := hs.trans hs2
  clear ho2 hs2 hle2 hin2
  repeat' first | ((with_reducible apply m_set); (· (simp only [Value.cells, nq1, nq2, nq3, nq4, nq5, nq6, setL, nq7, nq8, nq9, nq0, Nat.reduceAdd, Nat.zero_add]; try rfl))) | ((with_reducible apply chk_T); (· first | rfl | assumption | exact Sl.one (by assumption) | exact Rws.one (by assumption) | exact Sl.one (Own.sl (by assumption))))
  refine r_ct0 (d_ref_CopyInts (h3.mv hs.mv) hf.pt) (by kernel_rfl) hs.has ?_
  rintro v3 wc w3 X3 ho3 hle3 hin3 hs3
  have g3 : Own w3 X3 w0.heap.size 3 1 v3 (r.parts.map I1) := ho3.up hin3 (Nat.le_trans hs.kp.size hle3)
  replace g1 := g1.since hs3
  replace g2 := g2.since hs3
  have q3 := ho3.sl.one
  replace hs := hs.trans hs3
  clear ho3 hs3 hle3 hin3
  repeat' first | ((with_reducible apply m_set); (· (simp only [Value.cells, nq1, nq2, nq3, nq4, nq5, nq6, setL, nq7, nq8, nq9, nq0, Nat.reduceAdd, Nat.zero_add]; try rfl))) | ((with_reducible apply chk_T); (· first | rfl | assumption | exact Sl.one (by assumption) | exact Rws.one (by assumption) | exact Sl.one (Own.sl (by assumption))))
  have hsA := hs
  have hs0 := hs
  replace hs := Since.refl' hs0.has
  refine lp2_of (fun n a b w X => ∃ (i : Nat) (vb : Value), a = I i ∧ b = r.v0 v1 v2 v3 vb ∧ n = r.pairs.length - i ∧ i ≤ r.pairs.length ∧ Since X3 w3 X w ∧ Own w X w3.heap.size 82 4 vb ((r.pairs.take i).map KV.l)) r.pairs.length
    ⟨0, _, rfl, rfl, rfl, Nat.zero_le _, hs, Own.nil _ _ _ _ _⟩ ?_
  clear hs
  rintro n a b w X ⟨i, vb, rfl, rfl, rfl, hi, hs, hov⟩
  have ov := hov.sl.one
  have hpl := hf.pr
  rcases at_or r.pairs i with ⟨hlt, x, hx, hd⟩ | ⟨hge, hd⟩
  · repeat' first | ((with_reducible refine r_lssT ?_ ?_); (· omega)) | with_reducible apply condW_T | ((with_reducible apply un_cell); (· rfl)) | ((with_reducible apply m_set); (· (simp only [Value.cells, nq1, nq2, nq3, nq4, nq5, nq6, setL, nq7, nq8, nq9, nq0, Nat.reduceAdd, Nat.zero_add]; try rfl))) | ((with_reducible apply m_ldA); (· (first | assumption | exact RowIs.cells (by assumption))); (· (first | exact mv0 | exact mv1 (by assumption) | exact mv2 (by assumption) (by assumption))); (· kernel_rfl); (· rfl)) | ((with_reducible apply m_lnS); (· (first | assumption | exact Own.sl (by assumption))); (· kernel_rfl)) | ((with_reducible apply m_ixS); (· (first | assumption | exact Own.sl (by assumption))); (try (case hz => rfl)); (case hr => first | assumption | exact List.getElem?_eq_getElem (by omega)); (try (case hz => omega)); (case ht => kernel_rfl); (case hs => kernel_rfl); intro _ _ _) | ((with_reducible apply chk_T); (· first | rfl | assumption | exact Sl.one (by assumption) | exact Rws.one (by assumption) | exact Sl.one (Own.sl (by assumption)))) | ((with_reducible apply r_add); (· omega); (· omega)) | ((with_reducible apply m_app1a); (case own => first | assumption | exact Own.since (by assumption) (by assumption)); (case hs => assumption); (case h0 => first | exact fun _ h => h | exact hs0.has); (case he => kernel_rfl); (case hk => rfl); (case h1 => (repeat' first | with_reducible apply all_one_cons | with_reducible exact all_one_nil | assumption | rfl | exact Sl.one (by assumption) | exact Rws.one (by assumption) | exact Sl.one (Own.sl (by assumption)))); (case hb => (simp only [List.length_map, List.length_take, List.length_append, List.length_cons, List.length_nil]; omega)); (case hl => (simp only [List.length_map, List.length_take, List.length_append, List.length_cons, List.length_nil]; omega)); intro acc w X hs1 ho hc hat; replace hs := hs1) | ((with_reducible refine nx2_of (r.pairs.length - (i + 1)) ?_ ?_); (· omega); exact ⟨i + 1, _, by simp, rfl, rfl, by omega, hs, by rw [List.take_add_one, hx]; simpa using ho⟩)
  · rw [List.take_of_length_le hge] at hov
    have g4 : Own w X w0.heap.size 82 4 vb (r.pairs.map KV.l) := hov.low hs0.kp.size
    replace g1 := g1.since hs
    replace g2 := g2.since hs
    replace g3 := g3.since hs
    have hs2 := hs0.trans hs
    replace hs := hs2
    clear hs2 hov
    repeat' first | ((with_reducible refine r_lssF ?_ ?_); (· omega)) | with_reducible apply condW_F | ((with_reducible apply m_lnS); (· (first | assumption | exact Own.sl (by assumption))); (· kernel_rfl))
    refine r_ct0 (d_ref_CopyState (s := r.state) (h5.mv hs.mv) (h6.mv hs.mv) hf.hl hf.pl hf.sm.state) (by kernel_rfl) hs.has ?_
    rintro v5 wd w5 X5 ⟨uh, up, rfl, e1, e2⟩ hle5 hin5 hs5
    have hlo := Nat.le_trans hs.kp.size hle5
    replace g1 := g1.since hs5
    replace g2 := g2.since hs5
    replace g3 := g3.since hs5
    replace g4 := g4.since hs5
    replace hs := hs.trans hs5
    have p1 := e1.one
    have p2 := e2.one
    have e1' : Hists w5 (fun k => X5 k ∧ w0.heap.size ≤ k) uh r.state.hists := e1.mv fun k hk hl => ⟨⟨hin5 k hk, by have := hk.1; omega⟩, rfl⟩
    have e2' : Pends w5 (fun k => X5 k ∧ w0.heap.size ≤ k) up r.state.pend := e2.mv fun k hk hl => ⟨⟨hin5 k hk, by have := hk.1; omega⟩, rfl⟩
    repeat' first | ((with_reducible apply m_sub); (· (simp only [Value.cells, nq1, nq2, nq3, nq4, nq5, nq6, setL, nq7, nq8, nq9, nq0, Nat.reduceAdd, Nat.zero_add]; try rfl))) | ((with_reducible apply m_set); (· (simp only [Value.cells, nq1, nq2, nq3, nq4, nq5, nq6, setL, nq7, nq8, nq9, nq0, Nat.reduceAdd, Nat.zero_add]; try rfl))) | with_reducible apply un_box | ((with_reducible apply m_chkc); (case h => (repeat' first | with_reducible apply all_one_cons | with_reducible exact all_one_nil | assumption | rfl | exact Sl.one (by assumption) | exact Rws.one (by assumption) | exact Sl.one (Own.sl (by assumption))))) | ((with_reducible apply chk_T); (· first | rfl | assumption | exact Sl.one (by assumption) | exact Rws.one (by assumption) | exact Sl.one (Own.sl (by assumption)))) | ((first | (with_reducible refine fin_ret0 hs ?_) | (with_reducible refine fin_ret0 (hs0.trans hs) ?_)); intro wa hk; (exact ⟨v1, v2, v3, vb, uh, up, rfl, ⟨(g1.kp hk).tight.sl, (g2.kp hk).tight.sl, (g3.kp hk).tight.sl, (g4.kp hk).tight.sl, e1'.mv fun k hk' hl => ⟨⟨hk'.2, by have := hk.size; omega⟩, hk.block k hk'.1⟩, e2'.mv fun k hk' hl => ⟨⟨hk'.2, by have := hk.size; omega⟩, hk.block k hk'.1⟩⟩, (g2.kp hk).tight⟩))
end Go.Proofs.YtnphlhpdikmpiaaGreat
namespace Go.Proofs.YtnphlhpdikmpiaaGreat
open Go.Eng
set_option maxRecDepth 100000
set_option maxHeartbeats 1000000
set_option linter.unusedVariables false
set_option linter.unusedSimpArgs false
attribute [local irreducible] un jn chk fld ld1 ldA st1 ixS lnS lnT bld cvI cvF ixA bsS apS rdV rdW grdW eW eV eU eC eF gE condW fin pickN nilN binS vS lp0 lp1 lp2 lp3 lp4 lp5 lp6 lp7 nx0 nx1 nx2 nx3 nx4 nx5 nx6 nx7
structure RSt (w : World) (X : XS) (sb : Nat) (vh vp : Value) (hl : List Hist) (pl : List Pend) (low : Stamp) : Prop where
  box : RowIs w X sb [vh, vp, I low.wall, I low.logic, I low.node] 208
  hh : Hists w X vh hl
  pp : Pends w X vp pl
theorem RSt.mv {w w' : World} {X Y : XS} {sb : Nat} {vh vp : Value} {hl : List Hist} {pl : List Pend} {low : Stamp} (h : RSt w X sb vh vp hl pl low) (m : Mv X w Y w') : RSt w' Y sb vh vp hl pl low := ⟨h.box.mv m, h.hh.mv m, h.pp.mv m⟩
section
variable {w : World} {X : XS} {sb : Nat} {vh vp : Value} {hl : List Hist} {pl : List Pend} {low : Stamp}
theorem d_ref10_at {k : BA} (h : RSt w X sb vh vp hl pl low) :
    Ct Tryz.prog 164 #[ptr sb 0, .string k] w X nX fun v _ _ => v = I (idxOf (fun h => decide (h.key = k)) hl) := by
  intro w0 hk
  replace h := h.mv hk.mvo
  have hbox := h.box
  have hh := h.hh
  have hln := hh.len
  apply ok_raceref10_Store_at; unfold vc_raceref10_Store_at
  have hs := Since.init w0
  skip
  refine lp1_of (fun n a w X => ∃ i : Nat, a = I (i : Nat) ∧ n = (hl).length - i ∧ i ≤ (hl).length ∧ Since (old w0) w0 X w ∧ (∀ (j : Nat) (x : Hist), j < i → hl[j]? = some x → decide (x.key = k) = false)) (hl).length ⟨0, rfl, rfl, Nat.zero_le _, hs, by simp⟩ ?_
  rintro n a w X ⟨i, rfl, rfl, hi, hs, hw⟩
  rcases at_or (hl) i with ⟨hlt, x, hx, hd⟩ | ⟨hge, hd⟩
  · repeat' first | ((with_reducible refine r_lssT ?_ ?_); (· omega)) | with_reducible (first | apply condW_T | apply condW_F | apply r_nil) | (with_reducible apply r_seql <;> intro _) | ((with_reducible apply m_fld1); (· (first | assumption | exact RowIs.cells (by assumption))); (· kernel_rfl); (· rfl); intro _ _ _) | ((with_reducible apply m_ld1); (· (first | assumption | exact RowIs.cells (by assumption))); (· (first | exact mv0 | exact mv1 (by assumption) | exact mv2 (by assumption) (by assumption))); (· kernel_rfl); (· rfl)) | ((with_reducible apply m_lnR); (· assumption); (· kernel_rfl)) | ((with_reducible apply m_ixH); (· assumption); (try (case hz => rfl)); (case hr => first | assumption | exact List.getElem?_eq_getElem (by omega)); (try (case hz => omega)); (case ht => kernel_rfl); (case hs => kernel_rfl); intros) | ((with_reducible apply r_add); (· omega); (· omega)) | ((first | (with_reducible refine fin_ret0 hs ?_) | (with_reducible refine fin_ret0 (hs0.trans hs) ?_)); intro wa hk; (rw [idxOf_at hw hx (by simpa using ‹x.key = k›)])) | ((with_reducible refine nx1_of ((hl).length - (i + 1)) ?_ ?_); (· omega); exact ⟨i + 1, by simp, rfl, by omega, hs, fun j y hj hy => by rcases Nat.lt_succ_iff_lt_or_eq.1 hj with h | h; exact hw j y h hy; subst h; rw [hx] at hy; cases hy; simpa using ‹¬ x.key = k›⟩)
  · repeat' first | ((with_reducible refine r_lssF ?_ ?_); (· omega)) | with_reducible (first | apply condW_F | apply r_nil) | ((with_reducible apply m_fld1); (· (first | assumption | exact RowIs.cells (by assumption))); (· kernel_rfl); (· rfl); intro _ _ _) | ((with_reducible apply m_ld1); (· (first | assumption | exact RowIs.cells (by assumption))); (· (first | exact mv0 | exact mv1 (by assumption) | exact mv2 (by assumption) (by assumption))); (· kernel_rfl); (· rfl)) | ((with_reducible apply m_lnR); (· assumption); (· kernel_rfl)) | ((first | (with_reducible refine fin_ret0 hs ?_) | (with_reducible refine fin_ret0 (hs0.trans hs) ?_)); intro wa hk; (rw [idxOf_none fun j x hj hx => hw j x (by omega) hx]))
theorem d_ref10_where {t : Txn} (h : RSt w X sb vh vp hl pl low) :
    Ct Tryz.prog 151 #[ptr sb 0, t.v] w X nX fun v _ _ => v = I (idxOf (fun p => decide (p.txn = t)) pl) := by
  intro w0 hk
  replace h := h.mv hk.mvo
  have hbox := h.box
  have hh := h.pp
  have hln := hh.len
  apply ok_raceref10_Store_where; unfold vc_raceref10_Store_where
  have hs := Since.init w0
  skip
  refine lp1_of (fun n a w X => ∃ i : Nat, a = I (i : Nat) ∧ n = (pl).length - i ∧ i ≤ (pl).length ∧ Since (old w0) w0 X w ∧ (∀ (j : Nat) (x : Pend), j < i → pl[j]? = some x → decide (x.txn = t) = false)) (pl).length ⟨0, rfl, rfl, Nat.zero_le _, hs, by simp⟩ ?_
  rintro n a w X ⟨i, rfl, rfl, hi, hs, hw⟩
  rcases at_or (pl) i with ⟨hlt, x, hx, hd⟩ | ⟨hge, hd⟩
  · repeat' first | ((with_reducible refine r_lssT ?_ ?_); (· omega)) | with_reducible (first | apply condW_T | apply condW_F | apply r_nil) | ((with_reducible apply m_fld1); (· (first | assumption | exact RowIs.cells (by assumption))); (· kernel_rfl); (· rfl); intro _ _ _) | ((with_reducible apply m_fld); (· (first | assumption | exact RowIs.cells (by assumption))); (· kernel_rfl); (· rfl); (· (simp only [Value.cells, nq1, nq2, nq3, nq4, nq5, nq6, setL, nq7, nq8, nq9, nq0, Nat.reduceAdd, Nat.zero_add]; try rfl)); intro _ _ _) | ((with_reducible apply m_ld1); (· (first | assumption | exact RowIs.cells (by assumption))); (· (first | exact mv0 | exact mv1 (by assumption) | exact mv2 (by assumption) (by assumption))); (· kernel_rfl); (· rfl)) | ((with_reducible apply m_ldA); (· (first | assumption | exact RowIs.cells (by assumption))); (· (first | exact mv0 | exact mv1 (by assumption) | exact mv2 (by assumption) (by assumption))); (· kernel_rfl); (· rfl)) | ((with_reducible apply m_lnR); (· assumption); (· kernel_rfl)) | ((with_reducible apply m_ixP); (· assumption); (try (case hz => rfl)); (case hr => first | assumption | exact List.getElem?_eq_getElem (by omega)); (try (case hz => omega)); (case ht => kernel_rfl); (case hs => kernel_rfl); intros) | ((with_reducible refine r_eqT _ _ ?_ ?_ ?_); (· kernel_rfl); all_goals intros) | ((with_reducible apply r_add); (· omega); (· omega)) | ((first | (with_reducible refine fin_ret0 hs ?_) | (with_reducible refine fin_ret0 (hs0.trans hs) ?_)); intro wa hk; (rw [idxOf_at hw hx (by simpa using ‹x.txn = t›)])) | ((with_reducible refine nx1_of ((pl).length - (i + 1)) ?_ ?_); (· omega); exact ⟨i + 1, by simp, rfl, by omega, hs, fun j y hj hy => by rcases Nat.lt_succ_iff_lt_or_eq.1 hj with h | h; exact hw j y h hy; subst h; rw [hx] at hy; cases hy; simpa using ‹¬ x.txn = t›⟩)
  · repeat' first | ((with_reducible refine r_lssF ?_ ?_); (· omega)) | with_reducible (first | apply condW_F | apply r_nil) | ((with_reducible apply m_fld1); (· (first | assumption | exact RowIs.cells (by assumption))); (· kernel_rfl); (· rfl); intro _ _ _) | ((with_reducible apply m_ld1); (· (first | assumption | exact RowIs.cells (by assumption))); (· (first | exact mv0 | exact mv1 (by assumption) | exact mv2 (by assumption) (by assumption))); (· kernel_rfl); (· rfl)) | ((with_reducible apply m_lnR); (· assumption); (· kernel_rfl)) | ((first | (with_reducible refine fin_ret0 hs ?_) | (with_reducible refine fin_ret0 (hs0.trans hs) ?_)); intro wa hk; (rw [idxOf_none fun j x hj hx => hw j x (by omega) hx]))
def versF (hl : List Hist) (k : BA) : List Ver := ((hl.find? fun h => decide (h.key = k)).map (·.vers)).getD []
theorem idxOf_find {α : Type} {p : α → Bool} : ∀ {l : List α}, ¬ idxOf p l = -1 → ∃ (i : Nat) (x : α), idxOf p l = i ∧ l[i]? = some x ∧ l.find? p = some x
  | [], h => absurd rfl h
  | z :: l, h => by
    unfold idxOf at h ⊢
    by_cases hz : p z = true
    · exact ⟨0, z, by simp [hz], rfl, by simp [hz]⟩
    · have hz' : p z = false := by simpa using hz
      simp only [hz', Bool.false_eq_true, if_false] at h ⊢
      have hn : ¬ idxOf p l = -1 := fun e => h (by rw [e]; rfl)
      obtain ⟨i, x, h1, h2, h3⟩ := idxOf_find hn
      refine ⟨i + 1, x, ?_, by simpa using h2, by simp [hz', h3]⟩
      rw [h1]; split <;> omega
theorem idxOf_ge {α : Type} (p : α → Bool) : ∀ l : List α, -1 ≤ idxOf p l
  | [] => by simp [idxOf]
  | z :: l => by
    unfold idxOf
    split
    · omega
    · have := idxOf_ge p l
      dsimp only; split <;> omega
theorem idxOf_no {α : Type} {p : α → Bool} : ∀ {l : List α}, idxOf p l = -1 → l.find? p = none
  | [], _ => rfl
  | z :: l, h => by
    unfold idxOf at h
    by_cases hz : p z = true
    · simp [hz] at h
    · have hz' : p z = false := by simpa using hz
      simp only [hz', Bool.false_eq_true, if_false] at h
      have hg := idxOf_ge p l
      have : idxOf p l = -1 := by
        by_cases hc : idxOf p l < 0
        · omega
        · rw [if_neg hc] at h; omega
      simp [hz', idxOf_no this]
theorem newest_step (l : List Ver) (at' : Stamp) (all : Bool) (i : Nat) {u : Ver} (h : l[i]? = some u) : newestOf (l.take (i + 1)) at' all = if all || decide (u.stamp.cmp at' ≤ 0) then (u.val, u.stamp) else newestOf (l.take i) at' all := by
  unfold newestOf
  rw [List.take_add_one, h]
  simp
theorem d_ref10_upto {k : BA} {at' : Stamp} {all : Bool} (h : RSt w X sb vh vp hl pl low) :
    Ct Tryz.prog 171 #[ptr sb 0, .string k, at'.v, B all] w X nX fun v _ _ => v = seenV k (newestOf (versF hl k) at' all) := by
  intro w0 hk
  replace h := h.mv hk.mvo
  have hbox := h.box
  have hh := h.hh
  apply ok_raceref10_Store_upto; unfold vc_raceref10_Store_upto
  have hs := Since.init w0
  repeat' first | with_reducible apply un_box | ((with_reducible apply r_bld); (· kernel_rfl)) | ((with_reducible apply m_chkc); (case h => (repeat' first | with_reducible apply all_one_cons | with_reducible exact all_one_nil | assumption | rfl | exact Sl.one (by assumption) | exact Rws.one (by assumption) | exact Sl.one (Own.sl (by assumption))))) | ((with_reducible apply chk_T); (· first | rfl | assumption | exact Sl.one (by assumption) | exact Rws.one (by assumption) | exact Sl.one (Own.sl (by assumption))))
  refine r_ct0V (d_ref10_at h) (by kernel_rfl) hs.has fun w X hs1 => ?_
  replace hs := hs.trans hs1
  by_cases hn : idxOf (fun h : Hist => decide (h.key = k)) hl = -1
  · rw [hn]
    have hv : versF hl k = [] := by unfold versF; rw [idxOf_no hn]; rfl
    repeat' first | ((with_reducible refine r_lssT ?_ ?_); (· omega)) | with_reducible apply condW_T | ((with_reducible apply m_sub); (· (simp only [Value.cells, nq1, nq2, nq3, nq4, nq5, nq6, setL, nq7, nq8, nq9, nq0, Nat.reduceAdd, Nat.zero_add]; try rfl))) | with_reducible apply un_box | ((with_reducible apply m_chkc); (case h => (repeat' first | with_reducible apply all_one_cons | with_reducible exact all_one_nil | assumption | rfl | exact Sl.one (by assumption) | exact Rws.one (by assumption) | exact Sl.one (Own.sl (by assumption))))) | ((with_reducible apply chk_T); (· first | rfl | assumption | exact Sl.one (by assumption) | exact Rws.one (by assumption) | exact Sl.one (Own.sl (by assumption)))) | ((first | (with_reducible refine fin_ret0 hs ?_) | (with_reducible refine fin_ret0 (hs0.trans hs) ?_)); intro wa hk; (rw [hv]; rfl))
  · obtain ⟨i0, x, hi0, hx, hfd⟩ := idxOf_find hn
    have hv : versF hl k = x.vers := by unfold versF; rw [hfd]; rfl
    rw [hi0, hv]
    clear hs1
    repeat' first | ((with_reducible refine r_lssF ?_ ?_); (· omega)) | with_reducible apply condW_F
    refine lp2_of (fun n a b w X => ∃ i : Nat, a = I i ∧ b = seenV k (newestOf (x.vers.take i) at' all) ∧ n = x.vers.length - i ∧ i ≤ x.vers.length ∧ Since (old w0) w0 X w) x.vers.length ⟨0, rfl, rfl, rfl, Nat.zero_le _, hs⟩ ?_
    clear hs
    rintro n a b w X ⟨i, rfl, rfl, rfl, hi, hs⟩
    rcases at_or x.vers i with ⟨hlt, u, hu, hd⟩ | ⟨hge, hd⟩
    · have hst := newest_step x.vers at' all i hu
      repeat' first | ((with_reducible refine r_lssT ?_ ?_); (· omega)) | with_reducible (first | apply condW_T | apply r_nil) | ((with_reducible apply m_fld1); (· (first | assumption | exact RowIs.cells (by assumption))); (· kernel_rfl); (· rfl); intro _ _ _) | ((with_reducible apply m_ld1); (· (first | assumption | exact RowIs.cells (by assumption))); (· (first | exact mv0 | exact mv1 (by assumption) | exact mv2 (by assumption) (by assumption))); (· kernel_rfl); (· rfl)) | ((with_reducible apply m_lnS); (· (first | assumption | exact Own.sl (by assumption))); (· kernel_rfl)) | ((with_reducible apply m_ixH); (· assumption); (try (case hz => rfl)); (case hr => first | assumption | exact List.getElem?_eq_getElem (by omega)); (try (case hz => omega)); (case ht => kernel_rfl); (case hs => kernel_rfl); intros)
      have hvb : x.vers.length ≤ 2 ^ 63 - 1 := Sl.len' ‹Sl w0 (old w0) 6 _ (x.vers.map Ver.l)›
      refine jn_by (fun K => ∀ w X, Since (old w0) w0 X w → K (seenV k (newestOf (x.vers.take (i + 1)) at' all)) w X) ?_ ?_
      · intro w X hs
        repeat' first | ((with_reducible apply r_add); (· omega); (· omega)) | ((with_reducible refine nx2_of (x.vers.length - (i + 1)) ?_ ?_); (· omega); exact ⟨i + 1, by simp, rfl, rfl, by omega, hs⟩)
      intro K hK
      cases all
      · repeat' first | with_reducible (first | apply condW_T | apply condW_F) | ((with_reducible apply m_sub); (· (simp only [Value.cells, nq1, nq2, nq3, nq4, nq5, nq6, setL, nq7, nq8, nq9, nq0, Nat.reduceAdd, Nat.zero_add]; try rfl))) | ((with_reducible apply m_set); (· (simp only [Value.cells, nq1, nq2, nq3, nq4, nq5, nq6, setL, nq7, nq8, nq9, nq0, Nat.reduceAdd, Nat.zero_add]; try rfl))) | with_reducible (first | apply un_box | apply un_selF | apply grdV_onF | apply rdW_pickF | apply gE_F | apply r_nil) | (with_reducible apply r_leq <;> intro _) | ((with_reducible apply m_fld1); (· (first | assumption | exact RowIs.cells (by assumption))); (· kernel_rfl); (· rfl); intro _ _ _) | ((with_reducible apply m_ld1); (· (first | assumption | exact RowIs.cells (by assumption))); (· (first | exact mv0 | exact mv1 (by assumption) | exact mv2 (by assumption) (by assumption))); (· kernel_rfl); (· rfl)) | ((with_reducible apply m_ldA); (· (first | assumption | exact RowIs.cells (by assumption))); (· (first | exact mv0 | exact mv1 (by assumption) | exact mv2 (by assumption) (by assumption))); (· kernel_rfl); (· rfl)) | ((with_reducible apply m_ixS); (· (first | assumption | exact Own.sl (by assumption))); (try (case hz => rfl)); (case hr => first | assumption | exact List.getElem?_eq_getElem (by omega)); (try (case hz => omega)); (case ht => kernel_rfl); (case hs => kernel_rfl); intro _ _ _) | ((with_reducible apply m_ixH); (· assumption); (try (case hz => rfl)); (case hr => first | assumption | exact List.getElem?_eq_getElem (by omega)); (try (case hz => omega)); (case ht => kernel_rfl); (case hs => kernel_rfl); intros) | ((with_reducible apply m_chkc); (case h => (repeat' first | with_reducible apply all_one_cons | with_reducible exact all_one_nil | assumption | rfl | exact Sl.one (by assumption) | exact Rws.one (by assumption) | exact Sl.one (Own.sl (by assumption))))) | ((with_reducible apply chk_T); (· first | rfl | assumption | exact Sl.one (by assumption) | exact Rws.one (by assumption) | exact Sl.one (Own.sl (by assumption)))) | with_reducible apply jn_of | ((with_reducible refine r_pure (c_ref8_Compare _ _) ?_ hs.has ?_); (· kernel_rfl); intro w X hs1; replace hs := hs.trans hs1) | (first | (have h9 := hK _ _ hs; rw [hst] at h9; simpa [*] using h9; done))
      · repeat' first | with_reducible apply condW_T | ((with_reducible apply m_sub); (· (simp only [Value.cells, nq1, nq2, nq3, nq4, nq5, nq6, setL, nq7, nq8, nq9, nq0, Nat.reduceAdd, Nat.zero_add]; try rfl))) | ((with_reducible apply m_set); (· (simp only [Value.cells, nq1, nq2, nq3, nq4, nq5, nq6, setL, nq7, nq8, nq9, nq0, Nat.reduceAdd, Nat.zero_add]; try rfl))) | with_reducible (first | apply un_box | apply un_selTF | apply grdW_offF | apply rdW_pickT | apply gE_TF | apply r_nil) | ((with_reducible apply m_fld1); (· (first | assumption | exact RowIs.cells (by assumption))); (· kernel_rfl); (· rfl); intro _ _ _) | ((with_reducible apply m_ld1); (· (first | assumption | exact RowIs.cells (by assumption))); (· (first | exact mv0 | exact mv1 (by assumption) | exact mv2 (by assumption) (by assumption))); (· kernel_rfl); (· rfl)) | ((with_reducible apply m_ldA); (· (first | assumption | exact RowIs.cells (by assumption))); (· (first | exact mv0 | exact mv1 (by assumption) | exact mv2 (by assumption) (by assumption))); (· kernel_rfl); (· rfl)) | ((with_reducible apply m_ixS); (· (first | assumption | exact Own.sl (by assumption))); (try (case hz => rfl)); (case hr => first | assumption | exact List.getElem?_eq_getElem (by omega)); (try (case hz => omega)); (case ht => kernel_rfl); (case hs => kernel_rfl); intro _ _ _) | ((with_reducible apply m_ixH); (· assumption); (try (case hz => rfl)); (case hr => first | assumption | exact List.getElem?_eq_getElem (by omega)); (try (case hz => omega)); (case ht => kernel_rfl); (case hs => kernel_rfl); intros) | ((with_reducible apply m_chkc); (case h => (repeat' first | with_reducible apply all_one_cons | with_reducible exact all_one_nil | assumption | rfl | exact Sl.one (by assumption) | exact Rws.one (by assumption) | exact Sl.one (Own.sl (by assumption))))) | ((with_reducible apply chk_T); (· first | rfl | assumption | exact Sl.one (by assumption) | exact Rws.one (by assumption) | exact Sl.one (Own.sl (by assumption)))) | with_reducible apply jn_of | (first | (have h9 := hK _ _ hs; rw [hst] at h9; simpa [*] using h9; done))
    · repeat' first | ((with_reducible refine r_lssF ?_ ?_); (· omega)) | with_reducible apply condW_F | ((with_reducible apply m_sub); (· (simp only [Value.cells, nq1, nq2, nq3, nq4, nq5, nq6, setL, nq7, nq8, nq9, nq0, Nat.reduceAdd, Nat.zero_add]; try rfl))) | with_reducible (first | apply un_box | apply r_nil) | ((with_reducible apply m_fld1); (· (first | assumption | exact RowIs.cells (by assumption))); (· kernel_rfl); (· rfl); intro _ _ _) | ((with_reducible apply m_ld1); (· (first | assumption | exact RowIs.cells (by assumption))); (· (first | exact mv0 | exact mv1 (by assumption) | exact mv2 (by assumption) (by assumption))); (· kernel_rfl); (· rfl)) | ((with_reducible apply m_lnS); (· (first | assumption | exact Own.sl (by assumption))); (· kernel_rfl)) | ((with_reducible apply m_ixH); (· assumption); (try (case hz => rfl)); (case hr => first | assumption | exact List.getElem?_eq_getElem (by omega)); (try (case hz => omega)); (case ht => kernel_rfl); (case hs => kernel_rfl); intros) | ((with_reducible apply m_chkc); (case h => (repeat' first | with_reducible apply all_one_cons | with_reducible exact all_one_nil | assumption | rfl | exact Sl.one (by assumption) | exact Rws.one (by assumption) | exact Sl.one (Own.sl (by assumption))))) | ((with_reducible apply chk_T); (· first | rfl | assumption | exact Sl.one (by assumption) | exact Rws.one (by assumption) | exact Sl.one (Own.sl (by assumption)))) | ((first | (with_reducible refine fin_ret0 hs ?_) | (with_reducible refine fin_ret0 (hs0.trans hs) ?_)); intro wa hk; (rw [List.take_of_length_le hge]))
theorem d_ref10_Newest {k : BA} (h : RSt w X sb vh vp hl pl low) :
    Ct Tryz.prog 163 #[ptr sb 0, .string k] w X nX fun v _ _ => v = seenV k (newestOf (versF hl k) .zero true) := by
  intro w0 hk
  replace h := h.mv hk.mvo
  apply ok_raceref10_Store_Newest; unfold vc_raceref10_Store_Newest
  have hs := Since.init w0
  repeat' first | ((with_reducible apply r_bld); (· kernel_rfl))
  refine r_ct0V (d_ref10_upto (at' := .zero) h) (by kernel_rfl) hs.has fun w X hs1 => ?_
  replace hs := hs.trans hs1
  repeat' first | ((with_reducible apply m_sub); (· (simp only [Value.cells, nq1, nq2, nq3, nq4, nq5, nq6, setL, nq7, nq8, nq9, nq0, Nat.reduceAdd, Nat.zero_add]; try rfl))) | with_reducible apply un_box | ((with_reducible apply m_chkc); (case h => (repeat' first | with_reducible apply all_one_cons | with_reducible exact all_one_nil | assumption | rfl | exact Sl.one (by assumption) | exact Rws.one (by assumption) | exact Sl.one (Own.sl (by assumption))))) | ((with_reducible apply chk_T); (· first | rfl | assumption | exact Sl.one (by assumption) | exact Rws.one (by assumption) | exact Sl.one (Own.sl (by assumption)))) | ((first | (with_reducible refine fin_ret0 hs ?_) | (with_reducible refine fin_ret0 (hs0.trans hs) ?_)); intro wa hk; rfl)
def oldR (hl : List Hist) (x : Pend) : Bool := x.writes.any fun w => decide (idxOf (fun h : Hist => decide (h.key = w.key)) hl ≥ 0) && decide ((newestOf (versF hl w.key) .zero true).2.cmp x.stamp ≥ 0)
theorem d_ref10_old {x : Pend} {vr vw : Value} (h : RSt w X sb vh vp hl pl low) (h2 : Sl w X 4 vw (x.writes.map KV.l)) :
    Ct Tryz.prog 153 #[ptr sb 0, x.v vr vw] w X nX fun v _ _ => v = B (oldR hl x) := by
  intro w0 hk
  replace h := h.mv hk.mvo
  replace h2 := h2.mv hk.mvo
  have hl2 := h2.len'
  apply ok_raceref10_Store_old; unfold vc_raceref10_Store_old
  have hs := Since.init w0
  skip
  refine lp1_of (fun n a w X => ∃ i : Nat, a = I (i : Nat) ∧ n = (x.writes).length - i ∧ i ≤ (x.writes).length ∧ Since (old w0) w0 X w ∧ oldR hl x = ((x.writes.drop i).any fun w => decide (idxOf (fun h : Hist => decide (h.key = w.key)) hl ≥ 0) && decide ((newestOf (versF hl w.key) .zero true).2.cmp x.stamp ≥ 0))) (x.writes).length ⟨0, rfl, rfl, Nat.zero_le _, hs, by simp [oldR]⟩ ?_
  rintro n a w X ⟨i, rfl, rfl, hi, hs, hw⟩
  rcases at_or (x.writes) i with ⟨hlt, y, hy, hd⟩ | ⟨hge, hd⟩
  · rw [hd, List.any_cons] at hw
    repeat' first | ((with_reducible refine r_lssT ?_ ?_); (· omega)) | with_reducible (first | apply condW_T | apply condW_F) | ((with_reducible apply m_sub); (· (simp only [Value.cells, nq1, nq2, nq3, nq4, nq5, nq6, setL, nq7, nq8, nq9, nq0, Nat.reduceAdd, Nat.zero_add]; try rfl))) | with_reducible (first | apply un_box | apply un_selT | apply un_selFT | apply grdV_onT | apply grdW_offT | apply rdW_pickT | apply rdW_pickF | apply gE_T | apply gE_FT) | (with_reducible apply r_geq <;> intro _) | ((with_reducible apply m_fld1); (· (first | assumption | exact RowIs.cells (by assumption))); (· kernel_rfl); (· rfl); intro _ _ _) | ((with_reducible apply m_ld1); (· (first | assumption | exact RowIs.cells (by assumption))); (· (first | exact mv0 | exact mv1 (by assumption) | exact mv2 (by assumption) (by assumption))); (· kernel_rfl); (· rfl)) | ((with_reducible apply m_lnS); (· (first | assumption | exact Own.sl (by assumption))); (· kernel_rfl)) | ((with_reducible apply m_ixS); (· (first | assumption | exact Own.sl (by assumption))); (try (case hz => rfl)); (case hr => first | assumption | exact List.getElem?_eq_getElem (by omega)); (try (case hz => omega)); (case ht => kernel_rfl); (case hs => kernel_rfl); intro _ _ _) | ((with_reducible apply m_chkc); (case h => (repeat' first | with_reducible apply all_one_cons | with_reducible exact all_one_nil | assumption | rfl | exact Sl.one (by assumption) | exact Rws.one (by assumption) | exact Sl.one (Own.sl (by assumption))))) | ((with_reducible apply chk_T); (· first | rfl | assumption | exact Sl.one (by assumption) | exact Rws.one (by assumption) | exact Sl.one (Own.sl (by assumption)))) | ((with_reducible apply r_add); (· omega); (· omega)) | with_reducible apply jn_of | ((with_reducible refine r_pure (c_ref8_Compare _ _) ?_ hs.has ?_); (· kernel_rfl); intro w X hs1; replace hs := hs.trans hs1) | ((first | (with_reducible refine fin_ret0 hs ?_) | (with_reducible refine fin_ret0 (hs0.trans hs) ?_)); intro wa hk; (simp_all)) | ((with_reducible refine nx1_of ((x.writes).length - (i + 1)) ?_ ?_); (· omega); exact ⟨i + 1, by simp, rfl, by omega, hs, by rw [hw]; simp [*]⟩) | (refine r_ct0V (d_ref10_Newest (h.mv hs.mv)) (by kernel_rfl) hs.has fun w X hs1 => ?_; replace hs := hs.trans hs1) | (refine r_ct0V (d_ref10_at (h.mv hs.mv)) (by kernel_rfl) hs.has fun w X hs1 => ?_; replace hs := hs.trans hs1)
  · repeat' first | ((with_reducible refine r_lssF ?_ ?_); (· omega)) | with_reducible apply condW_F | ((with_reducible apply m_lnS); (· (first | assumption | exact Own.sl (by assumption))); (· kernel_rfl)) | ((first | (with_reducible refine fin_ret0 hs ?_) | (with_reducible refine fin_ret0 (hs0.trans hs) ?_)); intro wa hk; (simp_all))
end
end Go.Proofs.YtnphlhpdikmpiaaGreat
namespace Go.Proofs.YtnphlhpdikmpiaaGreat
open Go.Eng
set_option maxRecDepth 100000
set_option maxHeartbeats 1000000
set_option linter.unusedVariables false
set_option linter.unusedSimpArgs false
attribute [local irreducible] un jn chk fld ld1 ldA st1 ixS lnS lnT bld cvI cvF ixA bsS apS rdV rdW grdW eW eV eU eC eF gE condW fin pickN nilN binS vS lp0 lp1 lp2 lp3 lp4 lp5 lp6 lp7 nx0 nx1 nx2 nx3 nx4 nx5 nx6 nx7
theorem drop_flat {α : Type} {k : Nat} : ∀ {rows : List (List α)} (i : Nat), (∀ r ∈ rows, r.length = k) → (rows.drop i).flatten = rows.flatten.drop (i * k)
  | _, 0, _ => by simp
  | [], i + 1, _ => by simp
  | r :: rows, i + 1, h => by
    have hr := h r (by simp)
    rw [List.drop_succ_cons, drop_flat i fun x hx => h x (List.mem_cons_of_mem _ hx), List.flatten_cons, Nat.succ_mul, Nat.add_comm, ← List.drop_drop, List.drop_left' hr]
theorem m_slTail {P : Program} {X : XS} {w : World} {t : TypeId} {k : Nat} {v : Value} {z : Int} {i : Nat} {rows : List (List Value)} {N : Value → Prop} (h : Sl w X k v rows) (hz : z = i) (hi : i ≤ rows.length) (ht : P.underlying t = some (.slice (P.elem t))) (hs : (P.info? (P.elem t)).map (·.size) = some k)
    (n : ∀ v', Sl w X k v' (rows.drop i) → N v') : rdV P X w (Instr.sliceAt t v (some (.int .i64 z)) none none) N := by
  subst hz
  obtain ⟨h1, h2, base, cap, rfl, hc, hb, hlc, hcm⟩ := h
  have hq : ∃ inf, P.info? (P.elem t) = some inf ∧ inf.size = k := by
    cases hq : P.info? (P.elem t) with
    | none => simp [hq] at hs
    | some inf => exact ⟨inf, rfl, by simpa [hq] using hs⟩
  obtain ⟨inf, hq, hsz⟩ := hq
  have hrun : ∀ wa : World, (Instr.sliceAt t (.slice base rows.length cap) (some (.int .i64 (i : Int))) none none).run P wa = .ok (sliced base i rows.length cap k) wa := fun wa => by
    rw [run_sliceAt_slice wa t _ _ _ _ ht, run_slice_l wa t _ _ cap ht .i64 i (by omega) (by omega)]
    simp [sizeOf, typeInfo, hq, hsz]
  refine rdV_pure hrun (n _ ?_)
  refine ⟨fun r hr => h1 r (List.mem_of_mem_drop hr), by rw [List.length_drop]; omega, _, cap - i, by unfold sliced; rw [List.length_drop], fun hne => ?_, fun hb0 => ?_, by rw [List.length_drop]; omega, by omega⟩
  · have hil : i < rows.length := by
      refine Nat.lt_of_not_le fun hle => hne (List.drop_of_length_le hle)
    obtain ⟨b, o, rfl, hcs⟩ := hc (by intro e; rw [e] at hil; simp at hil)
    refine ⟨b, o + i * k, ?_, ?_⟩
    · rw [if_neg (by omega)]
      simp only [Option.map_some, Option.some.injEq]
      unfold Addr.add
      split
      · rename_i h0; rw [h0]; rfl
      · rfl
    · rw [drop_flat i h1]
      obtain ⟨hx, c, ty, fr, hb', hcc⟩ := hcs
      exact ⟨hx, c, ty, fr, hb', fun j v hj => by rw [List.getElem?_drop] at hj; have := hcc _ _ hj; rwa [← Nat.add_assoc] at this⟩
  · split at hb0
    · have := hb hb0; omega
    · have : base = none := by simpa using hb0
      have := hb this; omega
def PV.in (w : World) (A : XS) (x : PV) : Prop := Sl w A 1 (.slice x.br x.nr x.cr) (x.p.reads.map S1) ∧ Sl w A 4 (.slice x.bw x.nw x.cw) (x.p.writes.map KV.l)
theorem PV.in.mv {w w' : World} {A A' : XS} {x : PV} (h : x.in w A) (m : Mv A w A' w') : x.in w' A' := ⟨h.1.mv m, h.2.mv m⟩
theorem pends_pv {w : World} {A : XS} {v : Value} {pl : List Pend} (h : Pends w A v pl) : ∃ zs : List PV, Sl w A 8 v (zs.map PV.l) ∧ zs.map (·.p) = pl ∧ ∀ z ∈ zs, z.in w A := by
  obtain ⟨rows, h1, h2, h3⟩ := h
  have key : ∀ {rows : List (List Value)} {pl : List Pend}, rows.length = pl.length → (∀ (i : Nat) l x, rows[i]? = some l → pl[i]? = some x → Pend.rd w A l x) → ∃ zs : List PV, rows = zs.map PV.l ∧ zs.map (·.p) = pl ∧ ∀ z ∈ zs, z.in w A := by
    intro rows
    induction rows with
    | nil => intro pl hl _; exact ⟨[], rfl, (List.eq_nil_of_length_eq_zero hl.symm).symm, by simp⟩
    | cons r rows ih =>
      intro pl hl hr
      cases pl with
      | nil => simp at hl
      | cons p pl =>
        obtain ⟨zs, e1, e2, e3⟩ := ih (pl := pl) (by simpa using hl) fun i l x h1 h2 => hr (i + 1) l x (by simpa using h1) (by simpa using h2)
        obtain ⟨vr, vw, rfl, f1, f2⟩ := hr 0 r p rfl rfl
        obtain ⟨b1, n1, c1, rfl⟩ := f1.form
        obtain ⟨b2, n2, c2, rfl⟩ := f2.form
        refine ⟨⟨p, b1, n1, c1, b2, n2, c2⟩ :: zs, by rw [e1]; rfl, by rw [← e2]; rfl, fun z hz => ?_⟩
        rcases List.mem_cons.1 hz with rfl | hz
        · exact ⟨f1, f2⟩
        · exact e3 z hz
  obtain ⟨zs, rfl, e2, e3⟩ := key h2 h3
  exact ⟨zs, h1, e2, e3⟩
theorem pv_pends {w : World} {A : XS} {v : Value} {zs : List PV} (h : Sl w A 8 v (zs.map PV.l)) (hz : ∀ z ∈ zs, z.in w A) : Pends w A v (zs.map (·.p)) := by
  refine ⟨zs.map PV.l, h, by simp, fun i r x hr hx' => ?_⟩
  simp only [List.getElem?_map, Option.map_eq_some_iff] at hr hx'
  obtain ⟨y, hy, rfl⟩ := hr
  obtain ⟨y', hy', rfl⟩ := hx'
  rw [hy] at hy'; cases hy'
  exact ⟨_, _, rfl, (hz y (List.mem_of_getElem? hy)).1, (hz y (List.mem_of_getElem? hy)).2⟩
def insR (p : Pend) (pl : List Pend) : List Pend := pl.takeWhile (fun q => q.txn.less p.txn) ++ p :: pl.dropWhile (fun q => q.txn.less p.txn)
theorem split_at {α : Type} {f : α → Bool} : ∀ {l : List α} {i : Nat}, i ≤ l.length → (∀ (j : Nat) x, j < i → l[j]? = some x → f x = true) → (∀ x, l[i]? = some x → f x = false) → l.takeWhile f = l.take i ∧ l.dropWhile f = l.drop i
  | [], i, hi, _, _ => by simp at hi; subst hi; simp
  | x :: l, 0, _, _, h => by have := h x rfl; simp [this]
  | x :: l, i + 1, hi, h, h' => by
    have h0 := h 0 x (by omega) rfl
    obtain ⟨h1, h2⟩ := split_at (l := l) (i := i) (by simpa using hi) (fun j y hj hy => h (j + 1) y (by omega) (by simpa using hy)) fun y hy => h' y (by simpa using hy)
    simp [h0, h1, h2]
theorem d_ref10_put {w : World} {X A : XS} {sb : Nat} {vh vp : Value} {pl : List Pend} {low : Stamp} {p : Pend} {vr vw : Value} (hb : RowIs w X sb [vh, vp, I low.wall, I low.logic, I low.node] 208) (hp : Pends w A vp pl) (hA : ∀ k, A k → X k ∧ k ≠ sb)
    (h1 : Sl w X 1 vr (p.reads.map S1)) (h2 : Sl w X 4 vw (p.writes.map KV.l)) (hb1 : p.reads.length ≤ 2 ^ 40) (hb2 : p.writes.length ≤ 2 ^ 40) (hpl : pl.length ≤ 2 ^ 38) :
    Ct Tryz.prog 154 #[ptr sb 0, p.v vr vw] w X (fun k => k = sb) fun v wa w' => v = .tuple #[] ∧ ∃ vp', RowIs w' (fun k => k = sb) sb [vh, vp', I low.wall, I low.logic, I low.node] 208 ∧ Pends w' (fun k => A k ∨ made wa w' k) vp' (insR p pl) := by
  intro w0 hk
  replace hb := hb.mv hk.mvo
  obtain ⟨zs, hz1, rfl, hz2⟩ := pends_pv hp
  have hAw : Mv A w A w0 := fun k hk' hl => ⟨hk', hk.block k (hA k hk').1⟩
  have hzA : ∀ z ∈ zs, z.in w0 A := fun z hz => (hz2 z hz).mv hAw
  have hzS := hz1.mv hAw
  have hA0 : ∀ k, A k → k < w.heap.size → k < w0.heap.size := fun k _ hl => Nat.lt_of_lt_of_le hl hk.size
  have hA1 : Mv A w0 (old w0) w0 := Mv.old
  replace hz1 := hzS.mv hA1
  replace h1 := h1.mv hk.mvo
  replace h2 := h2.mv hk.mvo
  rw [List.length_map] at hpl
  apply ok_raceref10_Store_put; unfold vc_raceref10_Store_put
  have hs := Since.init w0
  skip
  refine lp2_of (fun n a b w X => ∃ (i : Nat), a = I i ∧ n = zs.length - i ∧ i ≤ zs.length ∧ Since (old w0) w0 X w ∧ Own w X w0.heap.size 87 8 b ((zs.take i).map PV.l) ∧ (∀ (j : Nat) x, j < i → zs[j]? = some x → x.p.txn.less p.txn = true)) zs.length
    ⟨0, rfl, rfl, Nat.zero_le _, hs, Own.nil _ _ _ _ _, by simp⟩ ?_
  clear hs
  rintro n a b w X ⟨i, rfl, rfl, hi, hs, ho, hless⟩
  rcases at_or zs i with ⟨hlt, z, hz, hd⟩ | ⟨hge, hd⟩
  · have hzo := hzA z (List.mem_of_getElem? hz)
    have o1 := hzo.1.one
    have o2 := hzo.2.one
    repeat' first | ((with_reducible refine r_lssT ?_ ?_); (· omega)) | with_reducible (first | apply condW_T | apply condW_F | apply un_selT | apply grdV_onT | apply grdW_onT | apply rdW_pickT | apply gE_T | apply r_nil) | ((with_reducible apply m_fld1); (· (first | assumption | exact RowIs.cells (by assumption))); (· kernel_rfl); (· rfl); intro _ _ _) | ((with_reducible apply m_fld); (· (first | assumption | exact RowIs.cells (by assumption))); (· kernel_rfl); (· rfl); (· (simp only [Value.cells, nq1, nq2, nq3, nq4, nq5, nq6, setL, nq7, nq8, nq9, nq0, Nat.reduceAdd, Nat.zero_add]; try rfl)); intro _ _ _) | ((with_reducible apply m_ld1); (· (first | assumption | exact RowIs.cells (by assumption))); (· (first | exact mv0 | exact mv1 (by assumption) | exact mv2 (by assumption) (by assumption))); (· kernel_rfl); (· rfl)) | ((with_reducible apply m_ldA); (· (first | assumption | exact RowIs.cells (by assumption))); (· (first | exact mv0 | exact mv1 (by assumption) | exact mv2 (by assumption) (by assumption))); (· kernel_rfl); (· rfl)) | ((with_reducible apply m_lnS); (· (first | assumption | exact Own.sl (by assumption))); (· kernel_rfl)) | ((with_reducible apply m_ixS); (· (first | assumption | exact Own.sl (by assumption))); (try (case hz => rfl)); (case hr => first | assumption | exact List.getElem?_eq_getElem (by omega)); (try (case hz => omega)); (case ht => kernel_rfl); (case hs => kernel_rfl); intro _ _ _) | ((with_reducible apply r_add); (· omega); (· omega)) | ((with_reducible apply m_app1a); (case own => first | assumption | exact Own.since (by assumption) (by assumption)); (case hs => assumption); (case h0 => first | exact fun _ h => h | exact hs0.has); (case he => kernel_rfl); (case hk => rfl); (case h1 => (repeat' first | with_reducible apply all_one_cons | with_reducible exact all_one_nil | assumption | rfl | exact Sl.one (by assumption) | exact Rws.one (by assumption) | exact Sl.one (Own.sl (by assumption)))); (case hb => (simp only [List.length_map, List.length_take, List.length_append, List.length_cons, List.length_nil]; omega)); (case hl => (simp only [List.length_map, List.length_take, List.length_append, List.length_cons, List.length_nil]; omega)); intro acc w X hs1 ho hc hat; replace hs := hs1) | with_reducible apply jn_of | ((with_reducible refine r_pureB (c_ref10_TxnLess _ _) ?_ hs.has ?_ ?_); (· kernel_rfl); all_goals (intro _ w X hs1; replace hs := hs.trans hs1)) | ((with_reducible refine nx2_of (zs.length - (i + 1)) ?_ ?_); (· omega); exact ⟨i + 1, by simp, rfl, by omega, hs, by rw [List.take_add_one, hz]; simpa using ho, fun j x hj hx => by rcases Nat.lt_succ_iff_lt_or_eq.1 hj with h | h; exact hless j x h hx; subst h; rw [hz] at hx; cases hx; assumption⟩)
    have hstop : ∀ x, zs[i]? = some x → x.p.txn.less p.txn = false := fun x hx => by rw [hz] at hx; cases hx; assumption
    replace ho := ho.since hs1
    clear hs1
    refine r_ct0 (d_ref_CopyPending (p := p) (h1.mv hs.mv) (h2.mv hs.mv) hb1 hb2) (by kernel_rfl) hs.has ?_
    rintro v wa w3 X3 ⟨cr, cw, rfl, hc1, hc2, hc12⟩ hle hin hs3
    have ho3 := ho.since hs3
    have hlo : w0.heap.size ≤ wa.heap.size := Nat.le_trans hs.kp.size hle
    have hd1 := hc1.up hin hlo
    have hd2 := hc2.up hin hlo
    have p1 := hc1.sl.one
    have p2 := hc2.sl.one
    replace hs := hs.trans hs3
    obtain ⟨c1, m1, e1, rfl⟩ := hc1.sl.form
    obtain ⟨c2, m2, e2, rfl⟩ := hc2.sl.form
    clear ho
    repeat' first | with_reducible apply r_nil | ((with_reducible apply m_fld1); (· (first | assumption | exact RowIs.cells (by assumption))); (· kernel_rfl); (· rfl); intro _ _ _) | ((with_reducible apply m_ld1); (· (first | assumption | exact RowIs.cells (by assumption))); (· (first | exact mv0 | exact mv1 (by assumption) | exact mv2 (by assumption) (by assumption))); (· kernel_rfl); (· rfl)) | ((with_reducible apply m_app1a); (case own => first | assumption | exact Own.since (by assumption) (by assumption)); (case hs => assumption); (case h0 => first | exact fun _ h => h | exact hs0.has); (case he => kernel_rfl); (case hk => rfl); (case h1 => (repeat' first | with_reducible apply all_one_cons | with_reducible exact all_one_nil | assumption | rfl | exact Sl.one (by assumption) | exact Rws.one (by assumption) | exact Sl.one (Own.sl (by assumption)))); (case hb => (simp only [List.length_map, List.length_take, List.length_append, List.length_cons, List.length_nil]; omega)); (case hl => (simp only [List.length_map, List.length_take, List.length_append, List.length_cons, List.length_nil]; omega)); intro acc w X hs1 ho hc hat; replace hs := hs1)
    have hnew : PV.at w X w0.heap.size ⟨p, c1, m1, e1, c2, m2, e2⟩ := PV.at.chg (x := ⟨p, c1, m1, e1, c2, m2, e2⟩) ⟨hd1, hd2⟩ hc ho3 (by kernel_rfl)
    refine m_slTail (rows := zs.map PV.l) (hz1.mv hs.mv) (i := i) rfl (by simpa using hi) (by kernel_rfl) (by kernel_rfl) fun vt hvt => ?_
    refine m_appS ho hs (fun _ h => h) (by kernel_rfl) hvt (fun r hr u hu => ?_) (by simp; omega) (by simp; omega) fun v5 w5 X5 hs5 ho5 hc5 hat5 => ?_
    · obtain ⟨z, hz, rfl⟩ := List.mem_map.1 (List.mem_of_mem_drop hr)
      have hzi := hzA z hz
      simp only [PV.l, Pend.l, List.mem_cons, List.not_mem_nil, or_false] at hu
      rcases hu with h | h | h | h | h | h | h | h <;> subst h <;> rfl
    have hnew5 := PV.at.chg hnew hc5 ho (by kernel_rfl)
    replace hs := hs5
    obtain ⟨y1, y2, y3, rfl⟩ := ho5.sl.form
    repeat' first | with_reducible apply r_nil | ((with_reducible apply m_fld1); (· (first | assumption | exact RowIs.cells (by assumption))); (· kernel_rfl); (· rfl); intro _ _ _)
    rename_i oo hoo hcc
    subst hoo
    clear hcc
    refine m_st1 (hb.mv hs.mv) (by kernel_rfl) (by simp) rfl rfl hs.has fun w6 X6 hc6 hrow => ?_
    have hsF : Since (out (fun k => k = sb) w0) w0 X6 w6 := (hs.less fun k hk => hk.1).chg hc6 fun k hk e => hk.2 e
    have hsb : sb < w0.heap.size := hb.lt
    have ho6 := ho5.chg hc6 fun g hg e => by have := (ho5.ge hg).1; omega
    have hn6 : PV.at w6 X6 w0.heap.size ⟨p, c1, m1, e1, c2, m2, e2⟩ := ⟨hnew5.r.chg hc6 fun g hg e => by have := (hnew5.r.ge hg).1; omega, hnew5.w.chg hc6 fun g hg e => by have := (hnew5.w.ge hg).1; omega⟩
    skip
    refine fin_ret hsF fun wb hkb => ⟨rfl, _, ⟨rfl, (hrow.kp hkb).2⟩, ?_⟩
    have hins : insR p (zs.map (·.p)) = (zs.take i ++ ⟨p, c1, m1, e1, c2, m2, e2⟩ :: zs.drop i).map (·.p) := by
      obtain ⟨q1, q2⟩ := split_at (l := zs.map (·.p)) (i := i) (f := fun q => q.txn.less p.txn) (by simpa using hi) (fun j x hj hx => by
          rw [List.getElem?_map, Option.map_eq_some_iff] at hx
          obtain ⟨z, hz, rfl⟩ := hx
          exact hless j z hj hz) fun x hx => by
          rw [List.getElem?_map, Option.map_eq_some_iff] at hx
          obtain ⟨z, hz, rfl⟩ := hx
          exact hstop z hz
      unfold insR
      rw [q1, q2]; simp [List.map_take, List.map_drop]
    rw [hins]
    have hAF : Mv A w0 (fun k => A k ∨ made w0 wb k) wb := fun k hk' hl => ⟨.inl hk', (hkb.block k (hsF.sub k ⟨hl, (hA k hk').2⟩)).trans (hsF.kp.block k ⟨hl, (hA k hk').2⟩)⟩
    refine pv_pends ?_ fun z hz => ?_
    · have := ((ho6.kp hkb).tight.sl).mono (Y := fun k => A k ∨ made w0 wb k) fun k hk => .inr hk
      simpa using this
    · rcases List.mem_append.1 hz with hz | hz
      · exact (hzA z (List.mem_of_mem_take hz)).mv hAF
      · rcases List.mem_cons.1 hz with rfl | hz
        · exact ⟨((hn6.r.kp hkb).tight.sl).mono fun k hk => .inr hk, ((hn6.w.kp hkb).tight.sl).mono fun k hk => .inr hk⟩
        · exact (hzA z (List.mem_of_mem_drop hz)).mv hAF
  · have hstop : ∀ x, zs[i]? = some x → x.p.txn.less p.txn = false := fun x hx => by rw [List.getElem?_eq_none hge] at hx; cases hx
    repeat' first | ((with_reducible refine r_lssF ?_ ?_); (· omega)) | with_reducible (first | apply condW_F | apply un_selFT | apply grdW_offT | apply rdW_pickF | apply gE_FT | apply r_nil) | ((with_reducible apply m_fld1); (· (first | assumption | exact RowIs.cells (by assumption))); (· kernel_rfl); (· rfl); intro _ _ _) | ((with_reducible apply m_ld1); (· (first | assumption | exact RowIs.cells (by assumption))); (· (first | exact mv0 | exact mv1 (by assumption) | exact mv2 (by assumption) (by assumption))); (· kernel_rfl); (· rfl)) | ((with_reducible apply m_lnS); (· (first | assumption | exact Own.sl (by assumption))); (· kernel_rfl)) | with_reducible apply jn_of
    refine r_ct0 (d_ref_CopyPending (p := p) (h1.mv hs.mv) (h2.mv hs.mv) hb1 hb2) (by kernel_rfl) hs.has ?_
    rintro v wa w3 X3 ⟨cr, cw, rfl, hc1, hc2, hc12⟩ hle hin hs3
    have ho3 := ho.since hs3
    have hlo : w0.heap.size ≤ wa.heap.size := Nat.le_trans hs.kp.size hle
    have hd1 := hc1.up hin hlo
    have hd2 := hc2.up hin hlo
    have p1 := hc1.sl.one
    have p2 := hc2.sl.one
    replace hs := hs.trans hs3
    obtain ⟨c1, m1, e1, rfl⟩ := hc1.sl.form
    obtain ⟨c2, m2, e2, rfl⟩ := hc2.sl.form
    clear ho
    repeat' first | with_reducible apply r_nil | ((with_reducible apply m_fld1); (· (first | assumption | exact RowIs.cells (by assumption))); (· kernel_rfl); (· rfl); intro _ _ _) | ((with_reducible apply m_ld1); (· (first | assumption | exact RowIs.cells (by assumption))); (· (first | exact mv0 | exact mv1 (by assumption) | exact mv2 (by assumption) (by assumption))); (· kernel_rfl); (· rfl)) | ((with_reducible apply m_app1a); (case own => first | assumption | exact Own.since (by assumption) (by assumption)); (case hs => assumption); (case h0 => first | exact fun _ h => h | exact hs0.has); (case he => kernel_rfl); (case hk => rfl); (case h1 => (repeat' first | with_reducible apply all_one_cons | with_reducible exact all_one_nil | assumption | rfl | exact Sl.one (by assumption) | exact Rws.one (by assumption) | exact Sl.one (Own.sl (by assumption)))); (case hb => (simp only [List.length_map, List.length_take, List.length_append, List.length_cons, List.length_nil]; omega)); (case hl => (simp only [List.length_map, List.length_take, List.length_append, List.length_cons, List.length_nil]; omega)); intro acc w X hs1 ho hc hat; replace hs := hs1)
    have hnew : PV.at w X w0.heap.size ⟨p, c1, m1, e1, c2, m2, e2⟩ := PV.at.chg (x := ⟨p, c1, m1, e1, c2, m2, e2⟩) ⟨hd1, hd2⟩ hc ho3 (by kernel_rfl)
    refine m_slTail (rows := zs.map PV.l) (hz1.mv hs.mv) (i := i) rfl (by simpa using hi) (by kernel_rfl) (by kernel_rfl) fun vt hvt => ?_
    refine m_appS ho hs (fun _ h => h) (by kernel_rfl) hvt (fun r hr u hu => ?_) (by simp; omega) (by simp; omega) fun v5 w5 X5 hs5 ho5 hc5 hat5 => ?_
    · obtain ⟨z, hz, rfl⟩ := List.mem_map.1 (List.mem_of_mem_drop hr)
      have hzi := hzA z hz
      simp only [PV.l, Pend.l, List.mem_cons, List.not_mem_nil, or_false] at hu
      rcases hu with h | h | h | h | h | h | h | h <;> subst h <;> rfl
    have hnew5 := PV.at.chg hnew hc5 ho (by kernel_rfl)
    replace hs := hs5
    obtain ⟨y1, y2, y3, rfl⟩ := ho5.sl.form
    repeat' first | with_reducible apply r_nil | ((with_reducible apply m_fld1); (· (first | assumption | exact RowIs.cells (by assumption))); (· kernel_rfl); (· rfl); intro _ _ _)
    rename_i oo hoo hcc
    subst hoo
    clear hcc
    refine m_st1 (hb.mv hs.mv) (by kernel_rfl) (by simp) rfl rfl hs.has fun w6 X6 hc6 hrow => ?_
    have hsF : Since (out (fun k => k = sb) w0) w0 X6 w6 := (hs.less fun k hk => hk.1).chg hc6 fun k hk e => hk.2 e
    have hsb : sb < w0.heap.size := hb.lt
    have ho6 := ho5.chg hc6 fun g hg e => by have := (ho5.ge hg).1; omega
    have hn6 : PV.at w6 X6 w0.heap.size ⟨p, c1, m1, e1, c2, m2, e2⟩ := ⟨hnew5.r.chg hc6 fun g hg e => by have := (hnew5.r.ge hg).1; omega, hnew5.w.chg hc6 fun g hg e => by have := (hnew5.w.ge hg).1; omega⟩
    skip
    refine fin_ret hsF fun wb hkb => ⟨rfl, _, ⟨rfl, (hrow.kp hkb).2⟩, ?_⟩
    have hins : insR p (zs.map (·.p)) = (zs.take i ++ ⟨p, c1, m1, e1, c2, m2, e2⟩ :: zs.drop i).map (·.p) := by
      obtain ⟨q1, q2⟩ := split_at (l := zs.map (·.p)) (i := i) (f := fun q => q.txn.less p.txn) (by simpa using hi) (fun j x hj hx => by
          rw [List.getElem?_map, Option.map_eq_some_iff] at hx
          obtain ⟨z, hz, rfl⟩ := hx
          exact hless j z hj hz) fun x hx => by
          rw [List.getElem?_map, Option.map_eq_some_iff] at hx
          obtain ⟨z, hz, rfl⟩ := hx
          exact hstop z hz
      unfold insR
      rw [q1, q2]; simp [List.map_take, List.map_drop]
    rw [hins]
    have hAF : Mv A w0 (fun k => A k ∨ made w0 wb k) wb := fun k hk' hl => ⟨.inl hk', (hkb.block k (hsF.sub k ⟨hl, (hA k hk').2⟩)).trans (hsF.kp.block k ⟨hl, (hA k hk').2⟩)⟩
    refine pv_pends ?_ fun z hz => ?_
    · have := ((ho6.kp hkb).tight.sl).mono (Y := fun k => A k ∨ made w0 wb k) fun k hk => .inr hk
      simpa using this
    · rcases List.mem_append.1 hz with hz | hz
      · exact (hzA z (List.mem_of_mem_take hz)).mv hAF
      · rcases List.mem_cons.1 hz with rfl | hz
        · exact ⟨((hn6.r.kp hkb).tight.sl).mono fun k hk => .inr hk, ((hn6.w.kp hkb).tight.sl).mono fun k hk => .inr hk⟩
        · exact (hzA z (List.mem_of_mem_drop hz)).mv hAF
end Go.Proofs.YtnphlhpdikmpiaaGreat
namespace Go.Proofs.YtnphlhpdikmpiaaGreat
open Go.Eng
set_option maxRecDepth 100000
set_option maxHeartbeats 1000000
set_option linter.unusedVariables false
set_option linter.unusedSimpArgs false
attribute [local irreducible] un jn chk fld ld1 ldA st1 ixS lnS lnT bld cvI cvF ixA bsS apS rdV rdW grdW eW eV eU eC eF gE condW fin pickN nilN binS vS lp0 lp1 lp2 lp3 lp4 lp5 lp6 lp7 nx0 nx1 nx2 nx3 nx4 nx5 nx6 nx7
theorem getM_putM' {κ α : Type} [DecidableEq κ] (k k' : κ) (a : α) : ∀ l : List (κ × α), getM k (putM k' a l) = if k' = k then some a else getM k l
  | [] => by
    by_cases h : k' = k <;> simp [putM, getM, h]
  | x :: l => by
    have ih := getM_putM' k k' a l
    unfold putM
    by_cases hx : x.1 = k'
    · rw [if_pos hx]
      by_cases h : k' = k
      · simp [getM, h]
      · have : x.1 ≠ k := fun e => h (hx.symm.trans e)
        simp [getM, h, this]
    · rw [if_neg hx]
      by_cases hxk : x.1 = k
      · have : ¬ k' = k := fun e => hx (hxk.trans e.symm)
        simp [getM, hxk, this]
      · have e1 : getM k (x :: putM k' a l) = getM k (putM k' a l) := by simp [getM, hxk]
        have e2 : getM k (x :: l) = getM k l := by simp [getM, hxk]
        rw [e1, e2, ih]
theorem tle_trans {a b c : BA} (h1 : tlt a b = true) (h2 : tlt b c = true) : tlt a c = true := by
  have key : ∀ {x y z : List UInt8}, Op.bytesLess x y = true → Op.bytesLess y z = true → Op.bytesLess x z = true := by
    intro x
    induction x with
    | nil =>
      intro y z h1 h2
      cases z with
      | nil => cases y <;> simp [Op.bytesLess] at h2
      | cons _ _ => rfl
    | cons a x ih =>
      intro y z h1 h2
      cases y with
      | nil => simp [Op.bytesLess] at h1
      | cons b y =>
        cases z with
        | nil => simp [Op.bytesLess] at h2
        | cons c z =>
          simp only [Op.bytesLess, Bool.or_eq_true, Bool.and_eq_true, decide_eq_true_eq, beq_iff_eq] at h1 h2 ⊢
          rcases h1 with h1 | ⟨rfl, h1⟩
          · rcases h2 with h2 | ⟨rfl, h2⟩
            · exact .inl (UInt8.lt_trans h1 h2)
            · exact .inl h1
          · rcases h2 with h2 | ⟨rfl, h2⟩
            · exact .inl h2
            · exact .inr ⟨rfl, ih h1 h2⟩
  exact key h1 h2
theorem histsFrom_above : ∀ {l : List Hist} {a : BA}, histsFrom a l = true → ∀ h ∈ l, tle h.key a = false
  | [], _, _, _, h => by cases h
  | x :: l, a, hh, h, hm => by
    simp only [histsFrom, Hist.ok, Bool.and_eq_true, Bool.not_eq_true'] at hh
    obtain ⟨⟨⟨⟨hk, hx⟩, _⟩, _⟩, hl⟩ := hh
    rcases List.mem_cons.1 hm with rfl | hm
    · exact hx
    · have h1 := histsFrom_above hl h hm
      simp only [tle, Bool.or_eq_false_iff, decide_eq_false_iff_not] at h1 hx ⊢
      have t1 := tlt_total h1.1 h1.2
      have t2 := tlt_total hx.1 hx.2
      have t3 := tle_trans t2 t1
      exact ⟨tlt_asymm t3, fun e => by rw [e, tlt_irrefl] at t3; cases t3⟩
theorem versOf_fold : ∀ {l : List Hist} {a : BA} (m : List (BA × List Ver)) (k : BA), histsFrom a l = true → getM k (l.foldl (fun m h => putM h.key h.vers m) m) = ((l.find? fun h => decide (h.key = k)).map (·.vers)).or (getM k m)
  | [], _, m, k, _ => rfl
  | x :: l, a, m, k, hh => by
    have ha := histsFrom_above (l := l) (a := x.key) (by simp only [histsFrom, Bool.and_eq_true] at hh; exact hh.2)
    have ih := versOf_fold (l := l) (a := x.key) (putM x.key x.vers m) k (by simp only [histsFrom, Bool.and_eq_true] at hh; exact hh.2)
    rw [List.foldl_cons, ih, getM_putM']
    by_cases hk : x.key = k
    · have hn : l.find? (fun h => decide (h.key = k)) = none := by
        rw [List.find?_eq_none]
        intro y hy
        have := ha y hy
        simp only [tle, Bool.or_eq_false_iff, decide_eq_false_iff_not] at this
        rw [← hk]; simpa using this.2
      simp [hk, hn]
    · simp [hk]
theorem versF_eq {hl : List Hist} (h : histsFrom ⟨#[]⟩ hl = true) (k : BA) : versF hl k = versOf (putAll hl) k := by
  unfold versF versOf putAll
  rw [versOf_fold [] k h]
  simp [getM]
theorem Pend.err_zero {x : Pend} (h : x.err = 0) : x.stamp.may = true ∧ x.stamp ≠ .zero := by
  unfold Pend.err at h
  split at h
  · cases h
  split at h
  · cases h
  · rename_i h1
    simp only [Bool.or_eq_true, Bool.not_eq_true', decide_eq_true_eq, not_or] at h1
    exact ⟨by simpa using h1.1, h1.2⟩
theorem cmp_zero {s : Stamp} (h : s.may = true) (hz : s ≠ .zero) : Stamp.zero.cmp s < 0 := by
  obtain ⟨a, b, c⟩ := s
  have := Stamp.may_iff.1 h
  simp only at this
  have hne : ¬ (a = 0 ∧ b = 0 ∧ c = 0) := fun ⟨h1, h2, h3⟩ => hz (by rw [h1, h2, h3])
  simp only [Stamp.cmp, Stamp.zero]
  grind
theorem oldR_eq {hl : List Hist} (h : histsFrom ⟨#[]⟩ hl = true) {x : Pend} (hx : x.err = 0) : oldR hl x = oldFor (putAll hl) x := by
  have hz := Pend.err_zero hx
  have hc := cmp_zero hz.1 hz.2
  unfold oldR oldFor
  have key : ∀ w : KV, (decide (idxOf (fun h : Hist => decide (h.key = w.key)) hl ≥ 0) && decide ((newestOf (versF hl w.key) .zero true).2.cmp x.stamp ≥ 0)) = decide ((newestOf (versOf (putAll hl) w.key) .zero true).2.cmp x.stamp ≥ 0) := fun w => by
    rw [← versF_eq h w.key]
    by_cases hi : idxOf (fun h : Hist => decide (h.key = w.key)) hl = -1
    · have hv : versF hl w.key = [] := by unfold versF; rw [idxOf_no hi]; rfl
      rw [hi, hv]
      have : ¬ ((newestOf [] .zero true).2.cmp x.stamp ≥ 0) := by
        show ¬ (Stamp.zero.cmp x.stamp ≥ 0)
        omega
      simp [this]
    · have := idxOf_ge (fun h : Hist => decide (h.key = w.key)) hl
      have h2 : idxOf (fun h : Hist => decide (h.key = w.key)) hl ≥ 0 := by omega
      simp [h2]
  exact congrArg (fun f => x.writes.any f) (funext key)
def prevKey (hl : List Hist) (i : Nat) : BA := match prevOf hl i with
  | some h => h.key
  | none => ⟨#[]⟩
theorem getM_pairs (t : Txn) : ∀ l : List Pend, (getM t (l.map fun p => (p.txn, p))).isSome = l.any fun p => decide (p.txn = t)
  | [] => rfl
  | x :: l => by
    have ih := getM_pairs t l
    by_cases h : x.txn = t
    · simp [getM, h]
    · have : getM t ((x.txn, x) :: l.map fun p => (p.txn, p)) = getM t (l.map fun p => (p.txn, p)) := by simp [getM, h]
      rw [List.map_cons, this, ih]; simp [h]
theorem putM_new {t : Txn} {a : Pend} : ∀ {l : List (Txn × Pend)}, getM t l = none → putM t a l = l ++ [(t, a)]
  | [], _ => rfl
  | x :: l, h => by
    unfold putM
    by_cases hx : x.1 = t
    · simp [getM, hx] at h
    · rw [if_neg hx, putM_new (by simpa [getM, hx] using h)]; rfl
theorem insR_perm (p : Pend) (l : List Pend) : (insR p l).Perm (p :: l) := by
  unfold insR
  have h := List.takeWhile_append_dropWhile (p := fun q : Pend => q.txn.less p.txn) (l := l)
  refine List.Perm.trans List.perm_middle ?_
  rw [h]
end Go.Proofs.YtnphlhpdikmpiaaGreat
namespace Go.Proofs.YtnphlhpdikmpiaaGreat
open Go.Eng
set_option maxRecDepth 100000
set_option maxHeartbeats 1000000
set_option linter.unusedVariables false
set_option linter.unusedSimpArgs false
attribute [local irreducible] un jn chk fld ld1 ldA st1 ixS lnS lnT bld cvI cvF ixA bsS apS rdV rdW grdW eW eV eU eC eF gE condW fin pickN nilN binS vS lp0 lp1 lp2 lp3 lp4 lp5 lp6 lp7 nx0 nx1 nx2 nx3 nx4 nx5 nx6 nx7
theorem tle_empty {k : BA} (h : goodKey k = true) : tle k ⟨#[]⟩ = false := by
  simp only [tle, Bool.or_eq_false_iff, decide_eq_false_iff_not]
  refine ⟨?_, fun e => ?_⟩
  · show Op.bytesLess k.toList (ByteArray.toList ⟨#[]⟩) = false
    have : ByteArray.toList ⟨#[]⟩ = [] := by kernel_rfl
    rw [this]; cases k.toList <;> rfl
  · rw [e] at h; revert h; decide
theorem cmp_swap (a b : Stamp) : (a.cmp b < 0) ↔ (b.cmp a > 0) := by
  simp only [Stamp.cmp]; grind
theorem d_ref10_Load {w : World} {X : XS} {vh vp : Value} {hl : List Hist} {pl : List Pend} (h1 : Hists w X vh hl) (h2 : Pends w X vp pl) (hb1 : HSmall hl) (hb2 : PSmall pl) (hb3 : hl.length ≤ 2 ^ 40) (hb4 : pl.length ≤ 2 ^ 38) :
    Ct Tryz.prog 136 #[vh, vp] w X nX fun v _ _ => ∃ u : Value, v = .tuple #[u, I (loadErr hl pl)] := by
  intro w0 hk
  replace h1 := h1.mv hk.mvo
  replace h2 := h2.mv hk.mvo
  have hl1 := h1.len
  have hl2 := h2.len
  apply ok_raceref10_Load; unfold vc_raceref10_Load
  have hs := Since.init w0
  repeat' first | ((with_reducible apply r_bld); (· kernel_rfl)) | ((with_reducible apply m_boxA); (case hX => exact hs.has); intro bx w X hbx hs1 hrow; have hs0 := hs.trans hs1; replace hs := Since.refl' hs1.has)
  refine lp3_of (fun n a _ _ w' X' => ∃ i : Nat, a = I i ∧ n = hl.length - i ∧ i ≤ hl.length ∧ Since X w X' w' ∧ histsFrom ⟨#[]⟩ hl = histsFrom (prevKey hl i) (hl.drop i)) hl.length ⟨0, rfl, rfl, Nat.zero_le _, hs, by simp [prevKey, prevOf]⟩ ?_
  clear hs
  rintro n a _ _ w2 X2 ⟨i, rfl, rfl, hi, hs, hw⟩
  have hbad : histsFrom ⟨#[]⟩ hl = false → loadErr hl pl = 4 := fun h => by unfold loadErr; rw [h]; rfl
  rcases at_or hl i with ⟨hlt, x, hx, hd⟩ | ⟨hge, hd⟩
  · rw [hd, histsFrom] at hw
    have hvl := hb1 x (List.mem_of_getElem? hx)
    rcases at_prev hlt with ⟨h0, hp⟩ | ⟨h0, y, hy, hp⟩
    · have hpk : prevKey hl i = ⟨#[]⟩ := by unfold prevKey; rw [hp]
      repeat' first | ((with_reducible refine r_lssT ?_ ?_); (· omega)) | ((with_reducible refine r_gtrF ?_ ?_); (· omega)) | with_reducible (first | apply condW_T | apply condW_F) | ((with_reducible apply un_cell); (· rfl)) | with_reducible (first | apply un_box | apply un_selF | apply un_selTF | apply un_selFT | apply un_selU | apply grdV_onF | apply grdW_onF | apply grdW_offT | apply grdW_offF | apply grdW_U | apply rdW_pickT | apply rdW_pickF | apply r_notT | apply r_notF) | (with_reducible apply r_eql <;> intro _) | ((with_reducible apply m_ldA); (· (first | assumption | exact RowIs.cells (by assumption))); (· (first | exact mv0 | exact mv1 (by assumption) | exact mv2 (by assumption) (by assumption))); (· kernel_rfl); (· rfl)) | ((with_reducible apply m_lnS); (· (first | assumption | exact Own.sl (by assumption))); (· kernel_rfl)) | ((with_reducible apply m_lnR); (· assumption); (· kernel_rfl)) | ((with_reducible apply m_ixH); (· assumption); (try (case hz => rfl)); (case hr => first | assumption | exact List.getElem?_eq_getElem (by omega)); (try (case hz => omega)); (case ht => kernel_rfl); (case hs => kernel_rfl); intros) | ((with_reducible apply r_bld); (· kernel_rfl)) | ((with_reducible apply m_chkc); (case h => (repeat' first | with_reducible apply all_one_cons | with_reducible exact all_one_nil | assumption | rfl | exact Sl.one (by assumption) | exact Rws.one (by assumption) | exact Sl.one (Own.sl (by assumption))))) | ((with_reducible apply chk_T); (· first | rfl | assumption | exact Sl.one (by assumption) | exact Rws.one (by assumption) | exact Sl.one (Own.sl (by assumption)))) | ((with_reducible refine r_pureB (c_ref3_Key _) ?_ hs.has ?_ ?_); (· kernel_rfl); all_goals (intro _ w X hs1; replace hs := hs.trans hs1)) | ((first | (with_reducible refine fin_ret0 hs ?_) | (with_reducible refine fin_ret0 (hs0.trans hs) ?_)); intro wa hk; (exact ⟨_, by rw [hbad (by rw [hw]; unfold Hist.ok; first | (simp [‹goodKey x.key = false›]; done) | (simp [(List.length_eq_zero_iff.1 (by omega) : x.vers = [])]; done))]⟩))
      have hgk := ‹goodKey x.key = true›
      have hte := tle_empty hgk
      have hne : x.vers ≠ [] := by
        intro e
        have h9 : x.vers.length = 0 := by rw [e]; rfl
        omega
      have hw2 : histsFrom ⟨#[]⟩ hl = (versFrom .zero x.vers && histsFrom x.key (hl.drop (i + 1))) := by rw [hw, Hist.ok, hpk, hte, hgk]; simp [hne]
      refine lp2_of (fun n a b w' X' => ∃ (k : Nat) (s : Stamp), a = I k ∧ b = s.v ∧ n = x.vers.length - k ∧ k ≤ x.vers.length ∧ Since _ _ X' w' ∧ versFrom .zero x.vers = versFrom s (x.vers.drop k)) x.vers.length ⟨0, .zero, rfl, rfl, rfl, Nat.zero_le _, hs, by simp⟩ ?_
      have hvs := ‹Sl w0 (old w0) 6 _ (x.vers.map Ver.l)›
      clear hs
      rintro n a b w3 X3 ⟨k, s, rfl, rfl, rfl, hk3, hs, hwv⟩
      have hvb : x.vers.length ≤ 2 ^ 63 - 1 := hvs.len'
      rcases at_or x.vers k with ⟨hlt3, u, hu, hdu⟩ | ⟨hge3, hdu⟩
      · rw [hdu, versFrom] at hwv
        have hsw := cmp_swap s u.stamp
        repeat' first | ((with_reducible refine r_lssT ?_ ?_); (· omega)) | with_reducible (first | apply condW_T | apply condW_F) | ((with_reducible apply m_sub); (· (simp only [Value.cells, nq1, nq2, nq3, nq4, nq5, nq6, setL, nq7, nq8, nq9, nq0, Nat.reduceAdd, Nat.zero_add]; try rfl))) | with_reducible (first | apply un_box | apply un_selF | apply un_selTF | apply grdV_onF | apply grdW_offF | apply rdW_pickT | apply rdW_pickF | apply gE_F | apply gE_TF | apply r_notT | apply r_notF) | ((with_reducible apply m_ldA); (· (first | assumption | exact RowIs.cells (by assumption))); (· (first | exact mv0 | exact mv1 (by assumption) | exact mv2 (by assumption) (by assumption))); (· kernel_rfl); (· rfl)) | ((with_reducible apply m_lnS); (· (first | assumption | exact Own.sl (by assumption))); (· kernel_rfl)) | ((with_reducible apply m_ixS); (· (first | assumption | exact Own.sl (by assumption))); (try (case hz => rfl)); (case hr => first | assumption | exact List.getElem?_eq_getElem (by omega)); (try (case hz => omega)); (case ht => kernel_rfl); (case hs => kernel_rfl); intro _ _ _) | ((with_reducible apply m_chkc); (case h => (repeat' first | with_reducible apply all_one_cons | with_reducible exact all_one_nil | assumption | rfl | exact Sl.one (by assumption) | exact Rws.one (by assumption) | exact Sl.one (Own.sl (by assumption))))) | ((with_reducible apply chk_T); (· first | rfl | assumption | exact Sl.one (by assumption) | exact Rws.one (by assumption) | exact Sl.one (Own.sl (by assumption)))) | ((with_reducible apply r_add); (· omega); (· omega)) | with_reducible apply jn_of | ((with_reducible refine r_pureB (c_ref8_Less _ _) ?_ hs.has ?_ ?_); (· kernel_rfl); all_goals (intro _ w X hs1; replace hs := hs.trans hs1)) | ((with_reducible refine r_pureB (c_ref8_May _) ?_ hs.has ?_ ?_); (· kernel_rfl); all_goals (intro _ w X hs1; replace hs := hs.trans hs1)) | ((with_reducible refine r_pureB (c_ref3_May _) ?_ hs.has ?_ ?_); (· kernel_rfl); all_goals (intro _ w X hs1; replace hs := hs.trans hs1)) | ((first | (with_reducible refine fin_ret0 hs ?_) | (with_reducible refine fin_ret0 (hs0.trans hs) ?_)); intro wa hk; (exact ⟨_, by rw [hbad (by rw [hw2, hwv]; first | (simp [‹u.stamp.may = false›]; done) | (simp [‹u.val.may = false›]; done) | (simp [show decide (u.stamp.cmp s > 0) = false from (decide_eq_decide.2 hsw).symm.trans ‹decide (s.cmp u.stamp < 0) = false›]; done))]⟩)) | ((with_reducible refine nx2_of (x.vers.length - (k + 1)) ?_ ?_); (· omega); exact ⟨k + 1, u.stamp, by simp, rfl, rfl, by omega, hs, by rw [hwv]; simp [‹u.stamp.may = true›, ‹u.val.may = true›, show decide (u.stamp.cmp s > 0) = true from (decide_eq_decide.2 hsw).symm.trans ‹decide (s.cmp u.stamp < 0) = true›]⟩)
      · rw [hdu, versFrom] at hwv
        repeat' first | ((with_reducible refine r_lssF ?_ ?_); (· omega)) | with_reducible apply condW_F | ((with_reducible apply m_lnS); (· (first | assumption | exact Own.sl (by assumption))); (· kernel_rfl)) | ((with_reducible apply chk_T); (· first | rfl | assumption | exact Sl.one (by assumption) | exact Rws.one (by assumption) | exact Sl.one (Own.sl (by assumption)))) | ((with_reducible apply r_add); (· omega); (· omega)) | ((with_reducible refine nx3_of ((hl).length - (i + 1)) ?_ ?_); (· omega); exact ⟨i + 1, by simp, rfl, by omega, hs, by rw [hw2, hwv]; simp [prevKey, prevOf_succ hx]⟩)
    · have hpk : prevKey hl i = y.key := by unfold prevKey; rw [hp]
      repeat' first | ((with_reducible refine r_lssT ?_ ?_); (· omega)) | ((with_reducible refine r_gtrT ?_ ?_); (· omega)) | with_reducible (first | apply condW_T | apply condW_F) | ((with_reducible apply un_cell); (· rfl)) | with_reducible (first | apply un_box | apply un_selT | apply un_selF | apply un_selTF | apply un_selU | apply grdV_onT | apply grdV_onF | apply grdW_onF | apply grdW_offF | apply grdW_U | apply rdW_pickT | apply rdW_pickF | apply r_notT | apply r_notF) | (with_reducible apply r_eql <;> intro _) | (with_reducible apply r_sleq <;> intros) | ((with_reducible apply m_fld1); (· (first | assumption | exact RowIs.cells (by assumption))); (· kernel_rfl); (· rfl); intro _ _ _) | ((with_reducible apply m_ld1); (· (first | assumption | exact RowIs.cells (by assumption))); (· (first | exact mv0 | exact mv1 (by assumption) | exact mv2 (by assumption) (by assumption))); (· kernel_rfl); (· rfl)) | ((with_reducible apply m_ldA); (· (first | assumption | exact RowIs.cells (by assumption))); (· (first | exact mv0 | exact mv1 (by assumption) | exact mv2 (by assumption) (by assumption))); (· kernel_rfl); (· rfl)) | ((with_reducible apply m_lnS); (· (first | assumption | exact Own.sl (by assumption))); (· kernel_rfl)) | ((with_reducible apply m_lnR); (· assumption); (· kernel_rfl)) | ((with_reducible apply m_ixH); (· assumption); (try (case hz => rfl)); (case hr => first | assumption | exact List.getElem?_eq_getElem (by omega)); (try (case hz => omega)); (case ht => kernel_rfl); (case hs => kernel_rfl); intros) | ((with_reducible apply r_bld); (· kernel_rfl)) | ((with_reducible apply m_chkc); (case h => (repeat' first | with_reducible apply all_one_cons | with_reducible exact all_one_nil | assumption | rfl | exact Sl.one (by assumption) | exact Rws.one (by assumption) | exact Sl.one (Own.sl (by assumption))))) | ((with_reducible apply chk_T); (· first | rfl | assumption | exact Sl.one (by assumption) | exact Rws.one (by assumption) | exact Sl.one (Own.sl (by assumption)))) | ((with_reducible apply r_sub); (· omega); (· omega)) | ((with_reducible refine r_pureB (c_ref3_Key _) ?_ hs.has ?_ ?_); (· kernel_rfl); all_goals (intro _ w X hs1; replace hs := hs.trans hs1)) | ((first | (with_reducible refine fin_ret0 hs ?_) | (with_reducible refine fin_ret0 (hs0.trans hs) ?_)); intro wa hk; (exact ⟨_, by rw [hbad (by rw [hw]; unfold Hist.ok tle; first | (simp [‹goodKey x.key = false›]; done) | (simp [(List.length_eq_zero_iff.1 (by omega) : x.vers = [])]; done) | (rcases ‹tlt x.key y.key = true ∨ x.key = y.key› with h | h <;> simp [hpk, h]; done))]⟩))
      have hgk := ‹goodKey x.key = true›
      have hte : tle x.key y.key = false := by unfold tle; simp [‹tlt x.key y.key = false›, ‹¬ x.key = y.key›]
      have hne : x.vers ≠ [] := by
        intro e
        have h9 : x.vers.length = 0 := by rw [e]; rfl
        omega
      have hw2 : histsFrom ⟨#[]⟩ hl = (versFrom .zero x.vers && histsFrom x.key (hl.drop (i + 1))) := by rw [hw, Hist.ok, hpk, hte, hgk]; simp [hne]
      refine lp2_of (fun n a b w' X' => ∃ (k : Nat) (s : Stamp), a = I k ∧ b = s.v ∧ n = x.vers.length - k ∧ k ≤ x.vers.length ∧ Since _ _ X' w' ∧ versFrom .zero x.vers = versFrom s (x.vers.drop k)) x.vers.length ⟨0, .zero, rfl, rfl, rfl, Nat.zero_le _, hs, by simp⟩ ?_
      have hvs := ‹Sl w0 (old w0) 6 _ (x.vers.map Ver.l)›
      clear hs
      rintro n a b w3 X3 ⟨k, s, rfl, rfl, rfl, hk3, hs, hwv⟩
      have hvb : x.vers.length ≤ 2 ^ 63 - 1 := hvs.len'
      rcases at_or x.vers k with ⟨hlt3, u, hu, hdu⟩ | ⟨hge3, hdu⟩
      · rw [hdu, versFrom] at hwv
        have hsw := cmp_swap s u.stamp
        repeat' first | ((with_reducible refine r_lssT ?_ ?_); (· omega)) | with_reducible (first | apply condW_T | apply condW_F) | ((with_reducible apply m_sub); (· (simp only [Value.cells, nq1, nq2, nq3, nq4, nq5, nq6, setL, nq7, nq8, nq9, nq0, Nat.reduceAdd, Nat.zero_add]; try rfl))) | with_reducible (first | apply un_box | apply un_selF | apply un_selTF | apply grdV_onF | apply grdW_offF | apply rdW_pickT | apply rdW_pickF | apply gE_F | apply gE_TF | apply r_notT | apply r_notF) | ((with_reducible apply m_ldA); (· (first | assumption | exact RowIs.cells (by assumption))); (· (first | exact mv0 | exact mv1 (by assumption) | exact mv2 (by assumption) (by assumption))); (· kernel_rfl); (· rfl)) | ((with_reducible apply m_lnS); (· (first | assumption | exact Own.sl (by assumption))); (· kernel_rfl)) | ((with_reducible apply m_ixS); (· (first | assumption | exact Own.sl (by assumption))); (try (case hz => rfl)); (case hr => first | assumption | exact List.getElem?_eq_getElem (by omega)); (try (case hz => omega)); (case ht => kernel_rfl); (case hs => kernel_rfl); intro _ _ _) | ((with_reducible apply m_chkc); (case h => (repeat' first | with_reducible apply all_one_cons | with_reducible exact all_one_nil | assumption | rfl | exact Sl.one (by assumption) | exact Rws.one (by assumption) | exact Sl.one (Own.sl (by assumption))))) | ((with_reducible apply chk_T); (· first | rfl | assumption | exact Sl.one (by assumption) | exact Rws.one (by assumption) | exact Sl.one (Own.sl (by assumption)))) | ((with_reducible apply r_add); (· omega); (· omega)) | with_reducible apply jn_of | ((with_reducible refine r_pureB (c_ref8_Less _ _) ?_ hs.has ?_ ?_); (· kernel_rfl); all_goals (intro _ w X hs1; replace hs := hs.trans hs1)) | ((with_reducible refine r_pureB (c_ref8_May _) ?_ hs.has ?_ ?_); (· kernel_rfl); all_goals (intro _ w X hs1; replace hs := hs.trans hs1)) | ((with_reducible refine r_pureB (c_ref3_May _) ?_ hs.has ?_ ?_); (· kernel_rfl); all_goals (intro _ w X hs1; replace hs := hs.trans hs1)) | ((first | (with_reducible refine fin_ret0 hs ?_) | (with_reducible refine fin_ret0 (hs0.trans hs) ?_)); intro wa hk; (exact ⟨_, by rw [hbad (by rw [hw2, hwv]; first | (simp [‹u.stamp.may = false›]; done) | (simp [‹u.val.may = false›]; done) | (simp [show decide (u.stamp.cmp s > 0) = false from (decide_eq_decide.2 hsw).symm.trans ‹decide (s.cmp u.stamp < 0) = false›]; done))]⟩)) | ((with_reducible refine nx2_of (x.vers.length - (k + 1)) ?_ ?_); (· omega); exact ⟨k + 1, u.stamp, by simp, rfl, rfl, by omega, hs, by rw [hwv]; simp [‹u.stamp.may = true›, ‹u.val.may = true›, show decide (u.stamp.cmp s > 0) = true from (decide_eq_decide.2 hsw).symm.trans ‹decide (s.cmp u.stamp < 0) = true›]⟩)
      · rw [hdu, versFrom] at hwv
        repeat' first | ((with_reducible refine r_lssF ?_ ?_); (· omega)) | with_reducible apply condW_F | ((with_reducible apply m_lnS); (· (first | assumption | exact Own.sl (by assumption))); (· kernel_rfl)) | ((with_reducible apply chk_T); (· first | rfl | assumption | exact Sl.one (by assumption) | exact Rws.one (by assumption) | exact Sl.one (Own.sl (by assumption)))) | ((with_reducible apply r_add); (· omega); (· omega)) | ((with_reducible refine nx3_of ((hl).length - (i + 1)) ?_ ?_); (· omega); exact ⟨i + 1, by simp, rfl, by omega, hs, by rw [hw2, hwv]; simp [prevKey, prevOf_succ hx]⟩)
  · rw [hd] at hw
    have hgood : histsFrom ⟨#[]⟩ hl = true := by rw [hw]; rfl
    have hload : loadErr hl pl = pendGo (putAll hl) [] pl := by unfold loadErr; rw [hgood]; rfl
    have hsA := hs0.trans hs
    replace hrow := hrow.since hs
    have hbl := hrow.lt
    repeat' first | ((with_reducible refine r_lssF ?_ ?_); (· omega)) | with_reducible apply condW_F | ((with_reducible apply m_lnR); (· assumption); (· kernel_rfl))
    refine r_ct0 (d_ref_CopyHistories (h1.mv hsA.mv) hb3 hb1) (by kernel_rfl) hsA.has ?_
    rintro v1 wa w3 X3 hh1 hle1 hin1 hs3
    replace hrow := hrow.since hs3
    have hhA : Hists w3 (fun k => X3 k ∧ k ≠ bx) v1 hl := hh1.mv fun k hk hl => ⟨⟨hin1 k hk, fun e => by have := hk.1; omega⟩, rfl⟩
    replace hs := hsA.trans hs3
    have hf1 : ∃ b n c, v1 = .slice b n c := let ⟨_, h, _⟩ := hh1; h.form
    obtain ⟨b1, n1, c1, rfl⟩ := hf1
    clear hs0 hsA hs3 hh1
    repeat' first | with_reducible apply r_nil | ((with_reducible apply m_fld1); (· (first | assumption | exact RowIs.cells (by assumption))); (· kernel_rfl); (· rfl); intro _ _ _)
    rename_i oo hoo hcc
    subst hoo
    clear hcc
    refine m_st1 hrow (by kernel_rfl) (by simp) rfl rfl hs.has fun w4 X4 hc hrow4 => ?_
    replace hs := hs.chg hc fun k hk e => by have : k < w0.heap.size := hk; omega
    have hhB : Hists w4 (fun k => X4 k ∧ k ≠ bx) (.slice b1 n1 c1) hl := hhA.mv fun k hk _ => ⟨⟨hc.sub k hk.1, hk.2⟩, hc.block k hk.1 hk.2⟩
    have hpB : Pends w4 (fun k => X4 k ∧ k ≠ bx) (.slice none 0 0) [] := Rws.nil _ _ _
    clear hhA hrow hc
    refine lp2_of (fun n a _ w X => ∃ (i : Nat) (vp' : Value) (ps : List Pend), a = I i ∧ n = pl.length - i ∧ i ≤ pl.length ∧ Since (old w0) w0 X w ∧ RowIs w X bx [.slice b1 n1 c1, vp', I 0, I 0, I 0] 208 ∧ Hists w (fun k => X k ∧ k ≠ bx) (.slice b1 n1 c1) hl ∧
      Pends w (fun k => X k ∧ k ≠ bx) vp' ps ∧ ps.Perm (pl.take i) ∧ pendGo (putAll hl) [] pl = pendGo (putAll hl) ((pl.take i).map fun p => (p.txn, p)) (pl.drop i)) pl.length
      ⟨0, _, [], rfl, rfl, Nat.zero_le _, hs, hrow4, hhB, hpB, by simp, by simp⟩ ?_
    clear hs hrow4 hhB hpB
    rintro n a _ w5 X5 ⟨j, vp', ps, rfl, rfl, hj, hs, hrow, hhA, hpA, hperm, hgo⟩
    rcases at_or pl j with ⟨hlt, x, hx, hd2⟩ | ⟨hge2, hd2⟩
    · rw [hd2, pendGo] at hgo
      have hxb := hb2 x (List.mem_of_getElem? hx)
      have hst : RSt w5 X5 bx (.slice b1 n1 c1) vp' hl ps .zero := ⟨hrow, hhA.mv (Mv.sub fun k hk => hk.1), hpA.mv (Mv.sub fun k hk => hk.1)⟩
      have hwh : idxOf (fun p : Pend => decide (p.txn = x.txn)) ps ≥ 0 ↔ (getM x.txn ((pl.take j).map fun p => (p.txn, p))).isSome = true := by
        rw [getM_pairs, ← hperm.any_eq, ← idxOf_any, decide_eq_true_eq]
      have hcl : ((pl.take j).map fun p => (p.txn, p)).any (fun q => x.clash q.2) = (pl.take j).any fun q => x.clash q := by rw [List.any_map]; rfl
      rw [hcl] at hgo
      have hjl : (pl.take j).length = j := by rw [List.length_take]; omega
      have hs0 := hs
      replace hs := Since.refl' hs0.has
      repeat' first | ((with_reducible refine r_lssT ?_ ?_); (· omega)) | with_reducible (first | apply condW_T | apply condW_F) | (with_reducible apply r_neq <;> intro _) | (with_reducible apply r_geq <;> intro _) | ((with_reducible apply m_fld); (· (first | assumption | exact RowIs.cells (by assumption))); (· kernel_rfl); (· rfl); (· (simp only [Value.cells, nq1, nq2, nq3, nq4, nq5, nq6, setL, nq7, nq8, nq9, nq0, Nat.reduceAdd, Nat.zero_add]; try rfl)); intro _ _ _) | ((with_reducible apply m_ldA); (· (first | assumption | exact RowIs.cells (by assumption))); (· (first | exact mv0 | exact mv1 (by assumption) | exact mv2 (by assumption) (by assumption))); (· kernel_rfl); (· rfl)) | ((with_reducible apply m_lnR); (· assumption); (· kernel_rfl)) | ((with_reducible apply m_ixP); (· assumption); (try (case hz => rfl)); (case hr => first | assumption | exact List.getElem?_eq_getElem (by omega)); (try (case hz => omega)); (case ht => kernel_rfl); (case hs => kernel_rfl); intros) | ((first | (with_reducible refine fin_ret0 hs ?_) | (with_reducible refine fin_ret0 (hs0.trans hs) ?_)); intro wa hk; (first | (exact ⟨_, by rw [hload, hgo, if_pos (by assumption)]⟩) | (exact ⟨_, by rw [hload, hgo, if_neg (by simpa using ‹x.err = 0›), if_pos (hwh.1 (by assumption))]⟩))) | (refine r_ct0V (d_ref10_PendingMay (p := x) (Sl.mv (by assumption) (hs0.trans hs).mv) (Sl.mv (by assumption) (hs0.trans hs).mv)) (by kernel_rfl) hs.has fun w X hs1 => ?_; replace hs := hs.trans hs1) | (refine r_ct0V (d_ref10_where (t := x.txn) (hst.mv hs.mv)) (by kernel_rfl) hs.has fun w X hs1 => ?_; replace hs := hs.trans hs1)
      have herr : ¬ x.err ≠ 0 := by simpa using ‹x.err = 0›
      have hnw : ¬ (getM x.txn ((pl.take j).map fun p => (p.txn, p))).isSome = true := fun h => absurd (hwh.2 h) (by assumption)
      rw [if_neg herr, if_neg hnw] at hgo
      clear hwh
      refine lp1_of (fun n a w X => ∃ k : Nat, a = I k ∧ n = j - k ∧ k ≤ j ∧ Since X5 w5 X w ∧ (((pl.take j).any fun q => x.clash q) = (((pl.take j).drop k).any fun q => x.clash q))) j ⟨0, rfl, rfl, Nat.zero_le _, hs, by simp⟩ ?_
      clear hs
      rintro n a w6 X6 ⟨k, rfl, rfl, hk1, hs, hwc⟩
      rcases at_or (pl.take j) k with ⟨hlt1, q, hq, hdq⟩ | ⟨hge1, hdq⟩
      · have hq2 : pl[k]? = some q := by
          rw [List.getElem?_take_of_lt (by omega)] at hq
          exact hq
        rw [hdq, List.any_cons] at hwc
        repeat' first | ((with_reducible refine r_lssT ?_ ?_); (· omega)) | with_reducible (first | apply condW_T | apply condW_F) | ((with_reducible apply m_ldA); (· (first | assumption | exact RowIs.cells (by assumption))); (· (first | exact mv0 | exact mv1 (by assumption) | exact mv2 (by assumption) (by assumption))); (· kernel_rfl); (· rfl)) | ((with_reducible apply m_ixP); (· assumption); (try (case hz => rfl)); (case hr => first | assumption | exact List.getElem?_eq_getElem (by omega)); (try (case hz => omega)); (case ht => kernel_rfl); (case hs => kernel_rfl); intros) | ((with_reducible apply r_add); (· omega); (· omega)) | ((first | (with_reducible refine fin_ret0 hs ?_) | (with_reducible refine fin_ret0 (hs0.trans hs) ?_)); intro wa hk; (exact ⟨_, by rw [hload, hgo, hwc, if_pos (by simp [‹x.clash q = true›])]⟩)) | ((with_reducible refine nx1_of (j - (k + 1)) ?_ ?_); (· omega); exact ⟨k + 1, by simp, rfl, by omega, hs, by rw [hwc]; simp [*]⟩) | (refine r_ct0B (d_ref10_clash (p := x) (q := q) (Sl.mv (by assumption) (hs0.trans hs).mv) (Sl.mv (by assumption) (hs0.trans hs).mv) (Sl.mv (by assumption) (hs0.trans hs).mv) (Sl.mv (by assumption) (hs0.trans hs).mv)) (by kernel_rfl) hs.has ?_ ?_ <;> (intro _ w X hs1; replace hs := hs.trans hs1))
      · rw [hdq] at hwc
        rw [hwc] at hgo
        rw [if_neg (by simp), ← oldR_eq hgood (by simpa using ‹x.err = 0›)] at hgo
        repeat' first | ((with_reducible refine r_lssF ?_ ?_); (· omega)) | with_reducible (first | apply condW_T | apply condW_F) | ((with_reducible apply m_ldA); (· (first | assumption | exact RowIs.cells (by assumption))); (· (first | exact mv0 | exact mv1 (by assumption) | exact mv2 (by assumption) (by assumption))); (· kernel_rfl); (· rfl)) | ((with_reducible apply m_ixP); (· assumption); (try (case hz => rfl)); (case hr => first | assumption | exact List.getElem?_eq_getElem (by omega)); (try (case hz => omega)); (case ht => kernel_rfl); (case hs => kernel_rfl); intros) | ((first | (with_reducible refine fin_ret0 hs ?_) | (with_reducible refine fin_ret0 (hs0.trans hs) ?_)); intro wa hk; (exact ⟨_, by rw [hload, hgo, if_pos (by assumption)]⟩)) | (refine r_ct0B (d_ref10_old (x := x) (hst.mv hs.mv) (Sl.mv (by assumption) (hs0.trans hs).mv)) (by kernel_rfl) hs.has ?_ ?_ <;> (intro _ w X hs1; replace hs := hs.trans hs1))
        have hof : oldR hl x = false := by assumption
        rw [hof, if_neg (by simp), putM_new (Option.not_isSome_iff_eq_none.1 hnw)] at hgo
        have hsW := hs0.trans hs
        have hrw := hrow.since hs
        have hbw : bx < w.heap.size := hrw.lt
        have hmA : Mv (fun k => X5 k ∧ k ≠ bx) w5 (fun k => X k ∧ k ≠ bx) w := fun k hk _ => ⟨⟨hs.sub k hk.1, hk.2⟩, hs.kp.block k hk.1⟩
        refine r_ct (d_ref10_put (A := fun k => X k ∧ k ≠ bx) (p := x) (low := .zero) hrw (hpA.mv hmA) (fun k hk => hk) (Sl.mv (by assumption) hsW.mv) (Sl.mv (by assumption) hsW.mv) hxb.1 hxb.2 (by rw [hperm.length_eq, hjl]; omega)) (by kernel_rfl) hs.has (fun k hk => by rw [hk]; exact hrw.1) ?_
        rintro v wa w7 X7 ⟨rfl, vp2, hrow7, hp7⟩ hle hin hkp hc
        have hs7 : Since (old w0) w0 X7 w7 := hsW.chg hc fun k hk e => by have : k < w0.heap.size := hk; omega
        have hh7 : Hists w7 (fun k => X7 k ∧ k ≠ bx) (.slice b1 n1 c1) hl := (hhA.mv hmA).mv fun k hk _ => ⟨⟨hc.sub k hk.1, hk.2⟩, hc.block k hk.1 hk.2⟩
        have hr7 : RowIs w7 X7 bx [.slice b1 n1 c1, vp2, I 0, I 0, I 0] 208 := ⟨hc.sub bx hrw.1, hrow7.2⟩
        have hp8 : Pends w7 (fun k => X7 k ∧ k ≠ bx) vp2 (insR x ps) := hp7.mv fun k hk _ => by
          rcases hk with h | h
          · exact ⟨⟨hc.sub k h.1, h.2⟩, rfl⟩
          · exact ⟨⟨hin k h, fun e => by have := h.1; omega⟩, rfl⟩
        replace hs := hs7
        repeat' first | ((with_reducible apply r_add); (· omega); (· omega))
        refine nx2_of (pl.length - (j + 1)) (by omega) ⟨j + 1, vp2, insR x ps, by simp, rfl, by omega, hs7, hr7, hh7, hp8, ?_, ?_⟩
        · rw [List.take_add_one, hx]
          exact (insR_perm x ps).trans ((List.Perm.cons x hperm).trans (List.perm_append_singleton x _).symm)
        · rw [hgo, List.take_add_one, hx]; simp
    · rw [hd2, pendGo] at hgo
      repeat' first | ((with_reducible refine r_lssF ?_ ?_); (· omega)) | with_reducible apply condW_F | ((with_reducible apply m_lnR); (· assumption); (· kernel_rfl)) | ((first | (with_reducible refine fin_ret0 hs ?_) | (with_reducible refine fin_ret0 (hs0.trans hs) ?_)); intro wa hk; (exact ⟨_, by rw [hload, hgo]⟩))
end Go.Proofs.YtnphlhpdikmpiaaGreat
namespace Go.Proofs.YtnphlhpdikmpiaaGreat
open Go.Eng
set_option maxRecDepth 100000
set_option maxHeartbeats 1000000
set_option linter.unusedVariables false
set_option linter.unusedSimpArgs false
attribute [local irreducible] un jn chk fld ld1 ldA st1 ixS lnS lnT bld cvI cvF ixA bsS apS rdV rdW grdW eW eV eU eC eF gE condW fin pickN nilN binS vS lp0 lp1 lp2 lp3 lp4 lp5 lp6 lp7 nx0 nx1 nx2 nx3 nx4 nx5 nx6 nx7
abbrev pOk (n : Int) : Bool := decide (n ≥ 1) && decide (n ≤ 12)
abbrev pUp (a b : Int) : Bool := decide (a < b)
theorem d_ref11_Parts {w : World} {X : XS} {a : Value} {xs : List Int} (ha : Sl w X 1 a (xs.map I1)) :
    Ct Tryz.prog 115 #[a] w X nX fun v _ _ => v = B (decide ((xs.length : Int) ≥ 1) && decide ((xs.length : Int) ≤ 12) && chain pOk pUp none xs) := by
  intro w0 hk
  replace ha := ha.mv hk.mvo
  have hla := ha.len'
  apply ok_raceref11_Parts; unfold vc_raceref11_Parts
  have hs := Since.init w0
  repeat' first | with_reducible (first | apply condW_T | apply condW_F | apply un_selF | apply un_selTF | apply grdV_onF | apply grdW_offF | apply rdW_pickT | apply rdW_pickF) | (with_reducible apply r_lss <;> intro _) | (with_reducible apply r_gtr <;> intro _) | ((with_reducible apply m_lnS); (· (first | assumption | exact Own.sl (by assumption))); (· kernel_rfl)) | ((first | (with_reducible refine fin_ret0 hs ?_) | (with_reducible refine fin_ret0 (hs0.trans hs) ?_)); intro wa hk; (simp_all <;> omega))
  refine lp1_of (fun n a w X => ∃ i : Nat, a = I (i : Nat) ∧ n = (xs).length - i ∧ i ≤ (xs).length ∧ Since (old w0) w0 X w ∧ chain pOk pUp none xs = chain pOk pUp (prevOf xs i) (xs.drop i)) (xs).length ⟨0, rfl, rfl, Nat.zero_le _, hs, by simp [prevOf]⟩ ?_
  rintro n a w X ⟨i, rfl, rfl, hi, hs, hw⟩
  rcases at_or (xs) i with ⟨hlt, x, hx, hd⟩ | ⟨hge, hd⟩
  · rcases at_prev hlt with ⟨h0, hp⟩ | ⟨h0, y, hy, hp⟩ <;> rw [hp, hd, chain] at hw <;> clear hd
    · repeat' first | ((with_reducible refine r_lssT ?_ ?_); (· omega)) | ((with_reducible refine r_gtrF ?_ ?_); (· omega)) | with_reducible (first | apply condW_T | apply condW_F | apply un_selF | apply un_selTF | apply un_selFT | apply un_selU | apply grdV_onF | apply grdW_onF | apply grdW_offT | apply grdW_offF | apply grdW_U | apply rdW_pickT | apply rdW_pickF) | (with_reducible apply r_lss <;> intro _) | (with_reducible apply r_gtr <;> intro _) | ((with_reducible apply m_ld1); (· (first | assumption | exact RowIs.cells (by assumption))); (· (first | exact mv0 | exact mv1 (by assumption) | exact mv2 (by assumption) (by assumption))); (· kernel_rfl); (· rfl)) | ((with_reducible apply m_lnS); (· (first | assumption | exact Own.sl (by assumption))); (· kernel_rfl)) | ((with_reducible apply m_ixS); (· (first | assumption | exact Own.sl (by assumption))); (try (case hz => rfl)); (case hr => first | assumption | exact List.getElem?_eq_getElem (by omega)); (try (case hz => omega)); (case ht => kernel_rfl); (case hs => kernel_rfl); intro _ _ _) | ((with_reducible apply r_add); (· omega); (· omega)) | ((first | (with_reducible refine fin_ret0 hs ?_) | (with_reducible refine fin_ret0 (hs0.trans hs) ?_)); intro wa hk; (simp_all <;> omega)) | ((with_reducible refine nx1_of ((xs).length - (i + 1)) ?_ ?_); (· omega); exact ⟨i + 1, by simp, rfl, by omega, hs, by rw [hw, prevOf_succ hx]; simp; omega⟩)
    · repeat' first | ((with_reducible refine r_lssT ?_ ?_); (· omega)) | ((with_reducible refine r_gtrT ?_ ?_); (· omega)) | with_reducible (first | apply condW_T | apply condW_F | apply un_selT | apply un_selF | apply un_selTF | apply un_selU | apply grdV_onT | apply grdV_onF | apply grdW_onF | apply grdW_offF | apply grdW_U | apply rdW_pickT | apply rdW_pickF) | (with_reducible apply r_lss <;> intro _) | (with_reducible apply r_leq <;> intro _) | (with_reducible apply r_gtr <;> intro _) | ((with_reducible apply m_ld1); (· (first | assumption | exact RowIs.cells (by assumption))); (· (first | exact mv0 | exact mv1 (by assumption) | exact mv2 (by assumption) (by assumption))); (· kernel_rfl); (· rfl)) | ((with_reducible apply m_lnS); (· (first | assumption | exact Own.sl (by assumption))); (· kernel_rfl)) | ((with_reducible apply m_ixS); (· (first | assumption | exact Own.sl (by assumption))); (try (case hz => rfl)); (case hr => first | assumption | exact List.getElem?_eq_getElem (by omega)); (try (case hz => omega)); (case ht => kernel_rfl); (case hs => kernel_rfl); intro _ _ _) | ((with_reducible apply r_add); (· omega); (· omega)) | ((with_reducible apply r_sub); (· omega); (· omega)) | ((first | (with_reducible refine fin_ret0 hs ?_) | (with_reducible refine fin_ret0 (hs0.trans hs) ?_)); intro wa hk; (simp_all <;> omega)) | ((with_reducible refine nx1_of ((xs).length - (i + 1)) ?_ ?_); (· omega); exact ⟨i + 1, by simp, rfl, by omega, hs, by rw [hw, prevOf_succ hx]; simp; omega⟩)
  · repeat' first | ((with_reducible refine r_lssF ?_ ?_); (· omega)) | with_reducible apply condW_F | ((with_reducible apply m_lnS); (· (first | assumption | exact Own.sl (by assumption))); (· kernel_rfl)) | ((first | (with_reducible refine fin_ret0 hs ?_) | (with_reducible refine fin_ret0 (hs0.trans hs) ?_)); intro wa hk; (simp_all [chain] <;> omega))
theorem chain_len : ∀ {l : List Int} {y : Int}, y ≤ 12 → chain pOk pUp (some y) l = true → (l.length : Int) ≤ 12 - y
  | [], y, hy, _ => by simp; omega
  | x :: l, y, hy, h => by
    simp only [chain, Bool.and_eq_true, decide_eq_true_eq] at h
    have := chain_len (l := l) (y := x) (by omega) h.2
    simp only [List.length_cons]; omega
theorem parts_eq (l : List Int) : (decide ((l.length : Int) ≥ 1) && decide ((l.length : Int) ≤ 12) && chain pOk pUp none l) = partsOk l := by
  cases l with
  | nil => rfl
  | cons x l =>
    unfold partsOk
    have hc : chain (fun n => decide (n ≥ 1) && decide (n ≤ 12)) (fun a b => decide (a < b)) none (x :: l) = chain pOk pUp none (x :: l) := rfl
    rw [hc]
    cases h : chain pOk pUp none (x :: l)
    · simp
    · simp only [chain, Bool.and_eq_true, decide_eq_true_eq] at h
      have := chain_len (l := l) (y := x) (by omega) h.2
      simp only [List.length_cons]
      simp; omega
abbrev qOk (x : KV) : Bool := goodKey x.key && x.val.may && decide (x.val.kind ≠ 0)
abbrev qUp (a b : KV) : Bool := tlt a.key b.key
theorem d_ref11_pairs {w : World} {X : XS} {a : Value} {xs : List KV} (ha : Sl w X 4 a (xs.map KV.l)) :
    Ct Tryz.prog 117 #[a] w X nX fun v _ _ => v = B (pairsOk xs) := by
  intro w0 hk
  replace ha := ha.mv hk.mvo
  have hla := ha.len'
  have hpo : pairsOk xs = chain qOk qUp none xs := rfl
  rw [hpo]
  apply ok_raceref11_pairs; unfold vc_raceref11_pairs
  have hs := Since.init w0
  skip
  refine lp1_of (fun n a w X => ∃ i : Nat, a = I (i : Nat) ∧ n = (xs).length - i ∧ i ≤ (xs).length ∧ Since (old w0) w0 X w ∧ chain qOk qUp none xs = chain qOk qUp (prevOf xs i) (xs.drop i)) (xs).length ⟨0, rfl, rfl, Nat.zero_le _, hs, by simp [prevOf]⟩ ?_
  rintro n a w X ⟨i, rfl, rfl, hi, hs, hw⟩
  rcases at_or (xs) i with ⟨hlt, x, hx, hd⟩ | ⟨hge, hd⟩
  · rcases at_prev hlt with ⟨h0, hp⟩ | ⟨h0, y, hy, hp⟩ <;> rw [hp, hd, chain] at hw <;> clear hd
    · repeat' first | ((with_reducible refine r_lssT ?_ ?_); (· omega)) | ((with_reducible refine r_gtrF ?_ ?_); (· omega)) | with_reducible (first | apply condW_T | apply condW_F) | ((with_reducible apply un_cell); (· rfl)) | ((with_reducible apply m_sub); (· (simp only [Value.cells, nq1, nq2, nq3, nq4, nq5, nq6, setL, nq7, nq8, nq9, nq0, Nat.reduceAdd, Nat.zero_add]; try rfl))) | with_reducible (first | apply un_box | apply un_selF | apply un_selTF | apply un_selFT | apply un_selU | apply grdV_onF | apply grdW_onF | apply grdW_offT | apply grdW_offF | apply grdW_U | apply rdW_pickT | apply rdW_pickF | apply gE_F | apply gE_TF | apply r_notT | apply r_notF) | (with_reducible apply r_eql <;> intro _) | ((with_reducible apply m_fld1); (· (first | assumption | exact RowIs.cells (by assumption))); (· kernel_rfl); (· rfl); intro _ _ _) | ((with_reducible apply m_fld); (· (first | assumption | exact RowIs.cells (by assumption))); (· kernel_rfl); (· rfl); (· (simp only [Value.cells, nq1, nq2, nq3, nq4, nq5, nq6, setL, nq7, nq8, nq9, nq0, Nat.reduceAdd, Nat.zero_add]; try rfl)); intro _ _ _) | ((with_reducible apply m_ld1); (· (first | assumption | exact RowIs.cells (by assumption))); (· (first | exact mv0 | exact mv1 (by assumption) | exact mv2 (by assumption) (by assumption))); (· kernel_rfl); (· rfl)) | ((with_reducible apply m_ldA); (· (first | assumption | exact RowIs.cells (by assumption))); (· (first | exact mv0 | exact mv1 (by assumption) | exact mv2 (by assumption) (by assumption))); (· kernel_rfl); (· rfl)) | ((with_reducible apply m_lnS); (· (first | assumption | exact Own.sl (by assumption))); (· kernel_rfl)) | ((with_reducible apply m_ixS); (· (first | assumption | exact Own.sl (by assumption))); (try (case hz => rfl)); (case hr => first | assumption | exact List.getElem?_eq_getElem (by omega)); (try (case hz => omega)); (case ht => kernel_rfl); (case hs => kernel_rfl); intro _ _ _) | ((with_reducible apply m_chkc); (case h => (repeat' first | with_reducible apply all_one_cons | with_reducible exact all_one_nil | assumption | rfl | exact Sl.one (by assumption) | exact Rws.one (by assumption) | exact Sl.one (Own.sl (by assumption))))) | ((with_reducible apply chk_T); (· first | rfl | assumption | exact Sl.one (by assumption) | exact Rws.one (by assumption) | exact Sl.one (Own.sl (by assumption)))) | ((with_reducible apply r_add); (· omega); (· omega)) | with_reducible apply jn_of | ((with_reducible refine r_pureB (c_ref3_Key _) ?_ hs.has ?_ ?_); (· kernel_rfl); all_goals (intro _ w X hs1; replace hs := hs.trans hs1)) | ((with_reducible refine r_pureB (c_ref3_May _) ?_ hs.has ?_ ?_); (· kernel_rfl); all_goals (intro _ w X hs1; replace hs := hs.trans hs1)) | ((first | (with_reducible refine fin_ret0 hs ?_) | (with_reducible refine fin_ret0 (hs0.trans hs) ?_)); intro wa hk; (simp_all)) | ((with_reducible refine nx1_of ((xs).length - (i + 1)) ?_ ?_); (· omega); exact ⟨i + 1, by simp, rfl, by omega, hs, by rw [hw, prevOf_succ hx]; simp [*]⟩)
    · repeat' first | ((with_reducible refine r_lssT ?_ ?_); (· omega)) | ((with_reducible refine r_gtrT ?_ ?_); (· omega)) | with_reducible (first | apply condW_T | apply condW_F) | ((with_reducible apply un_cell); (· rfl)) | ((with_reducible apply m_sub); (· (simp only [Value.cells, nq1, nq2, nq3, nq4, nq5, nq6, setL, nq7, nq8, nq9, nq0, Nat.reduceAdd, Nat.zero_add]; try rfl))) | with_reducible (first | apply un_box | apply un_selT | apply un_selF | apply un_selTF | apply un_selU | apply grdV_onT | apply grdV_onF | apply grdW_onF | apply grdW_offF | apply grdW_U | apply rdW_pickT | apply rdW_pickF | apply gE_F | apply gE_TF | apply r_notT | apply r_notF) | (with_reducible apply r_eql <;> intro _) | (with_reducible apply r_sleq <;> intros) | ((with_reducible apply m_fld1); (· (first | assumption | exact RowIs.cells (by assumption))); (· kernel_rfl); (· rfl); intro _ _ _) | ((with_reducible apply m_fld); (· (first | assumption | exact RowIs.cells (by assumption))); (· kernel_rfl); (· rfl); (· (simp only [Value.cells, nq1, nq2, nq3, nq4, nq5, nq6, setL, nq7, nq8, nq9, nq0, Nat.reduceAdd, Nat.zero_add]; try rfl)); intro _ _ _) | ((with_reducible apply m_ld1); (· (first | assumption | exact RowIs.cells (by assumption))); (· (first | exact mv0 | exact mv1 (by assumption) | exact mv2 (by assumption) (by assumption))); (· kernel_rfl); (· rfl)) | ((with_reducible apply m_ldA); (· (first | assumption | exact RowIs.cells (by assumption))); (· (first | exact mv0 | exact mv1 (by assumption) | exact mv2 (by assumption) (by assumption))); (· kernel_rfl); (· rfl)) | ((with_reducible apply m_lnS); (· (first | assumption | exact Own.sl (by assumption))); (· kernel_rfl)) | ((with_reducible apply m_ixS); (· (first | assumption | exact Own.sl (by assumption))); (try (case hz => rfl)); (case hr => first | assumption | exact List.getElem?_eq_getElem (by omega)); (try (case hz => omega)); (case ht => kernel_rfl); (case hs => kernel_rfl); intro _ _ _) | ((with_reducible apply m_chkc); (case h => (repeat' first | with_reducible apply all_one_cons | with_reducible exact all_one_nil | assumption | rfl | exact Sl.one (by assumption) | exact Rws.one (by assumption) | exact Sl.one (Own.sl (by assumption))))) | ((with_reducible apply chk_T); (· first | rfl | assumption | exact Sl.one (by assumption) | exact Rws.one (by assumption) | exact Sl.one (Own.sl (by assumption)))) | ((with_reducible apply r_add); (· omega); (· omega)) | ((with_reducible apply r_sub); (· omega); (· omega)) | with_reducible apply jn_of | ((with_reducible refine r_pureB (c_ref3_Key _) ?_ hs.has ?_ ?_); (· kernel_rfl); all_goals (intro _ w X hs1; replace hs := hs.trans hs1)) | ((with_reducible refine r_pureB (c_ref3_May _) ?_ hs.has ?_ ?_); (· kernel_rfl); all_goals (intro _ w X hs1; replace hs := hs.trans hs1)) | ((first | (with_reducible refine fin_ret0 hs ?_) | (with_reducible refine fin_ret0 (hs0.trans hs) ?_)); intro wa hk; (first | (have := tlt_gt ‹tlt x.key y.key = true ∨ x.key = y.key›; simp_all; done) | (simp_all))) | ((with_reducible refine nx1_of ((xs).length - (i + 1)) ?_ ?_); (· omega); exact ⟨i + 1, by simp, rfl, by omega, hs, by rw [hw, prevOf_succ hx]; simp [tlt_total ‹tlt x.key y.key = false› (by assumption), *]⟩)
  · repeat' first | ((with_reducible refine r_lssF ?_ ?_); (· omega)) | with_reducible apply condW_F | ((with_reducible apply m_lnS); (· (first | assumption | exact Own.sl (by assumption))); (· kernel_rfl)) | ((first | (with_reducible refine fin_ret0 hs ?_) | (with_reducible refine fin_ret0 (hs0.trans hs) ?_)); intro wa hk; (simp_all [chain]))
theorem d_ref11_Applies {w : World} {X : XS} {prev st : Stamp} {t : Txn} {l : List KV} {a : Value} (h : Sl w X 4 a (l.map KV.l)) :
    Ct Tryz.prog 116 #[prev.v, st.v, t.v, a] w X nX fun v _ _ => v = B (prev.may && st.may && decide (prev.cmp st < 0) && t.may && decide ((l.length : Int) ≥ 1) && (decide ((l.length : Int) ≤ 16) && chain wGood wUp none l)) := by
  intro w0 hk
  replace h := h.mv hk.mvo
  have hl := h.len'
  apply ok_raceref11_Applies; unfold vc_raceref11_Applies
  have hs := Since.init w0
  repeat' first | with_reducible (first | apply un_selT | apply un_selFT | apply grdV_onT | apply grdW_offT | apply rdW_pickT | apply rdW_pickF | apply gE_T | apply gE_FT) | (with_reducible apply r_geq <;> intro _) | ((with_reducible apply m_lnS); (· (first | assumption | exact Own.sl (by assumption))); (· kernel_rfl)) | with_reducible apply jn_of | ((with_reducible refine r_pureB (c_ref8_Less _ _) ?_ hs.has ?_ ?_); (· kernel_rfl); all_goals (intro _ w X hs1; replace hs := hs.trans hs1)) | ((with_reducible refine r_pureB (c_ref8_May _) ?_ hs.has ?_ ?_); (· kernel_rfl); all_goals (intro _ w X hs1; replace hs := hs.trans hs1)) | ((with_reducible refine r_pureB (c_ref10_TxnMay _) ?_ hs.has ?_ ?_); (· kernel_rfl); all_goals (intro _ w X hs1; replace hs := hs.trans hs1)) | ((first | (with_reducible refine fin_ret0 hs ?_) | (with_reducible refine fin_ret0 (hs0.trans hs) ?_)); intro wa hk; (simp_all <;> omega)) | (refine r_ct0B (d_ref10_Writes  (by first | assumption | exact Sl.mv (by assumption) (by (first | exact mv0 | exact mv1 (by assumption) | exact mv2 (by assumption) (by assumption))) | exact Pends.mv (by assumption) (by (first | exact mv0 | exact mv1 (by assumption) | exact mv2 (by assumption) (by assumption))) | exact Hists.mv (by assumption) (by (first | exact mv0 | exact mv1 (by assumption) | exact mv2 (by assumption) (by assumption))) | exact Rec.at.mv (by assumption) (by (first | exact mv0 | exact mv1 (by assumption) | exact mv2 (by assumption) (by assumption))) | exact Own.sl (by assumption) | exact Cells.mv (by assumption) (by (first | exact mv0 | exact mv1 (by assumption) | exact mv2 (by assumption) (by assumption))) | exact Cells.mv (RowIs.cells (by assumption)) (by (first | exact mv0 | exact mv1 (by assumption) | exact mv2 (by assumption) (by assumption))) | omega)) (by kernel_rfl) hs.has ?_ ?_ <;> (intro _ w X hs1; replace hs := hs.trans hs1))
theorem applies_eq (prev st : Stamp) (t : Txn) (l : List KV) : (prev.may && st.may && decide (prev.cmp st < 0) && t.may && decide ((l.length : Int) ≥ 1) && (decide ((l.length : Int) ≤ 16) && chain wGood wUp none l)) = applyOk prev st t l := by
  unfold applyOk
  have hcw := chain_writes none l (fun _ _ => trivial)
  have hz : prev.may = true → prev.cmp st < 0 → st ≠ .zero := fun h1 h2 e => by
    subst e
    have := Stamp.may_iff.1 h1
    obtain ⟨a, b, c⟩ := prev
    simp only at this
    simp only [Stamp.cmp, Stamp.zero] at h2
    grind
  cases h1 : prev.may
  · simp
  by_cases h2 : prev.cmp st < 0
  · have h3 := hz h1 h2
    have hl : l ≠ [] ↔ (l.length : Int) ≥ 1 := by
      cases l with
      | nil => simp
      | cons x l => simp; omega
    rw [hcw]
    simp only [h2, decide_true, Bool.true_and, Bool.and_true, Pend.err, rises, rising, chain, List.length_nil, h3, decide_false, Bool.or_false, List.length_map, Option.map_none]
    cases st.may <;> cases t.may <;> simp [hl] <;> grind
  · simp [h2]
end Go.Proofs.YtnphlhpdikmpiaaGreat
namespace Go.Proofs.YtnphlhpdikmpiaaGreat
open Go.Eng
set_option maxRecDepth 100000
set_option maxHeartbeats 1000000
set_option linter.unusedVariables false
set_option linter.unusedSimpArgs false
attribute [local irreducible] un jn chk fld ld1 ldA st1 ixS lnS lnT bld cvI cvF ixA bsS apS rdV rdW grdW eW eV eU eC eF gE condW fin pickN nilN binS vS lp0 lp1 lp2 lp3 lp4 lp5 lp6 lp7 nx0 nx1 nx2 nx3 nx4 nx5 nx6 nx7
structure State.fit (s : State) : Prop where
  sm : s.small
  hl : s.hists.length ≤ 2 ^ 40
  pl : s.pend.length ≤ 2 ^ 38
  lo : s.range.lo < 18446744073709551616
  hi : s.range.hi < 18446744073709551616
theorem range_eq {r : Rng} (h1 : r.lo < 18446744073709551616) (h2 : r.hi < 18446744073709551616) : refRange r = r.may := by
  unfold refRange Rng.may
  rw [refPoint_eq h1, refPoint_eq h2]
theorem d_ref11_StateMay {w : World} {X : XS} {s : State} {vh vp : Value} (h1 : Hists w X vh s.hists) (h2 : Pends w X vp s.pend) (hf : s.fit) :
    Ct Tryz.prog 113 #[s.v vh vp] w X nX fun v _ _ => v = B s.may := by
  intro w0 hk
  replace h1 := h1.mv hk.mvo
  replace h2 := h2.mv hk.mvo
  have hl1 := h1.len
  have hl2 := h2.len
  have hre := range_eq hf.lo hf.hi
  have hsm := hf.sm
  apply ok_raceref11_StateMay; unfold vc_raceref11_StateMay
  have hs := Since.init w0
  repeat' first | with_reducible (first | apply condW_T | apply condW_F | apply un_selF | apply un_selTF | apply grdV_onF | apply grdW_offF | apply rdW_pickT | apply rdW_pickF | apply gE_F | apply gE_TF | apply r_notT | apply r_notF) | (with_reducible apply r_neq <;> intro _) | ((with_reducible apply m_ext); (· rfl)) | with_reducible apply jn_of | ((with_reducible refine r_pureB (c_ref8_May _) ?_ hs.has ?_ ?_); (· kernel_rfl); all_goals (intro _ w X hs1; replace hs := hs.trans hs1)) | ((with_reducible refine r_pureB (c_ref4_May _) ?_ hs.has ?_ ?_); (· kernel_rfl); all_goals (intro _ w X hs1; replace hs := hs.trans hs1)) | ((first | (with_reducible refine fin_ret0 hs ?_) | (with_reducible refine fin_ret0 (hs0.trans hs) ?_)); intro wa hk; (simp_all [State.may])) | (refine r_ct0 (d_ref10_Load (h1.mv hs.mv) (h2.mv hs.mv) hsm.h hsm.p hf.hl hf.pl) (by kernel_rfl) hs.has ?_; rintro _ wa w X ⟨u, rfl⟩ hle hin hs1; replace hs := hs.trans hs1)
  have hin0 : s.may = s.inside := by
    have hrm : s.range.may = true := by rw [← hre]; assumption
    unfold State.may
    simp [*]
  clear hs1
  refine lp1_of (fun n a w X => ∃ i : Nat, a = I (i : Nat) ∧ n = s.hists.length - i ∧ i ≤ s.hists.length ∧ Since (old w0) w0 X w ∧
    (s.hists.all (fun h => s.range.key h.key)) = ((s.hists.drop i).all fun h => s.range.key h.key)) s.hists.length ⟨0, rfl, rfl, Nat.zero_le _, hs, by simp⟩ ?_
  clear hs
  rintro n a w X ⟨i, rfl, rfl, hi, hs, hw⟩
  rcases at_or (s.hists) i with ⟨hlt, x, hx, hd⟩ | ⟨hge, hd⟩
  · rw [hd, List.all_cons] at hw
    have hkx := hsm.hk x (List.mem_of_getElem? hx)
    repeat' first | ((with_reducible refine r_lssT ?_ ?_); (· omega)) | with_reducible (first | apply condW_T | apply condW_F | apply r_notT | apply r_notF) | ((with_reducible apply m_fld1); (· (first | assumption | exact RowIs.cells (by assumption))); (· kernel_rfl); (· rfl); intro _ _ _) | ((with_reducible apply m_ld1); (· (first | assumption | exact RowIs.cells (by assumption))); (· (first | exact mv0 | exact mv1 (by assumption) | exact mv2 (by assumption) (by assumption))); (· kernel_rfl); (· rfl)) | ((with_reducible apply m_lnR); (· assumption); (· kernel_rfl)) | ((with_reducible apply m_ixH); (· assumption); (try (case hz => rfl)); (case hr => first | assumption | exact List.getElem?_eq_getElem (by omega)); (try (case hz => omega)); (case ht => kernel_rfl); (case hs => kernel_rfl); intros) | ((with_reducible apply r_add); (· omega); (· omega)) | ((with_reducible refine r_pureB (c_ref11_in _ _ (by first | assumption | omega)) ?_ hs.has ?_ ?_); (· kernel_rfl); all_goals (intro _ w X hs1; replace hs := hs.trans hs1)) | ((first | (with_reducible refine fin_ret0 hs ?_) | (with_reducible refine fin_ret0 (hs0.trans hs) ?_)); intro wa hk; (simp [hin0, State.inside, hw, *])) | ((with_reducible refine nx1_of ((s.hists).length - (i + 1)) ?_ ?_); (· omega); exact ⟨i + 1, by simp, rfl, by omega, hs, by rw [hw]; simp [*]⟩)
  · rw [hd] at hw
    repeat' first | ((with_reducible refine r_lssF ?_ ?_); (· omega)) | with_reducible apply condW_F | ((with_reducible apply m_lnR); (· assumption); (· kernel_rfl))
    refine lp3_of (fun n a _ _ w X => ∃ i : Nat, a = I (i : Nat) ∧ n = s.pend.length - i ∧ i ≤ s.pend.length ∧ Since (old w0) w0 X w ∧
      (s.pend.all fun p => p.reads.all s.range.key && p.writes.all fun x => s.range.key x.key) = ((s.pend.drop i).all fun p => p.reads.all s.range.key && p.writes.all fun x => s.range.key x.key)) s.pend.length ⟨0, rfl, rfl, Nat.zero_le _, hs, by simp⟩ ?_
    clear hs
    rintro n a a2 a3 w X ⟨j, rfl, rfl, hj, hs, hw2⟩
    rcases at_or s.pend j with ⟨hlt, p, hp, hd2⟩ | ⟨hge2, hd2⟩
    · rw [hd2, List.all_cons] at hw2
      obtain ⟨hr1, hr2⟩ := hsm.pk p (List.mem_of_getElem? hp)
      repeat' first | ((with_reducible refine r_lssT ?_ ?_); (· omega)) | with_reducible (first | apply condW_T | apply un_box) | ((with_reducible apply m_ldA); (· (first | assumption | exact RowIs.cells (by assumption))); (· (first | exact mv0 | exact mv1 (by assumption) | exact mv2 (by assumption) (by assumption))); (· kernel_rfl); (· rfl)) | ((with_reducible apply m_lnR); (· assumption); (· kernel_rfl)) | ((with_reducible apply m_ixP); (· assumption); (try (case hz => rfl)); (case hr => first | assumption | exact List.getElem?_eq_getElem (by omega)); (try (case hz => omega)); (case ht => kernel_rfl); (case hs => kernel_rfl); intros) | ((with_reducible apply m_chkc); (case h => (repeat' first | with_reducible apply all_one_cons | with_reducible exact all_one_nil | assumption | rfl | exact Sl.one (by assumption) | exact Rws.one (by assumption) | exact Sl.one (Own.sl (by assumption))))) | ((with_reducible apply chk_T); (· first | rfl | assumption | exact Sl.one (by assumption) | exact Rws.one (by assumption) | exact Sl.one (Own.sl (by assumption))))
      have hl3 := Sl.len' ‹Sl w0 (old w0) 1 _ (p.reads.map S1)›
      have hl4 := Sl.len' ‹Sl w0 (old w0) 4 _ (p.writes.map KV.l)›
      refine lp1_of (fun n a w X => ∃ i : Nat, a = I (i : Nat) ∧ n = p.reads.length - i ∧ i ≤ p.reads.length ∧ Since (old w0) w0 X w ∧ p.reads.all s.range.key = (p.reads.drop i).all s.range.key) p.reads.length ⟨0, rfl, rfl, Nat.zero_le _, hs, by simp⟩ ?_
      clear hs
      rintro n a w X ⟨k, rfl, rfl, hk3, hs, hw3⟩
      rcases at_or p.reads k with ⟨hlt3, y, hy, hd3⟩ | ⟨hge3, hd3⟩
      · rw [hd3, List.all_cons] at hw3
        have hky := hr1 y (List.mem_of_getElem? hy)
        repeat' first | ((with_reducible refine r_lssT ?_ ?_); (· omega)) | with_reducible (first | apply condW_T | apply condW_F) | ((with_reducible apply un_cell); (· rfl)) | with_reducible (first | apply r_notT | apply r_notF) | ((with_reducible apply m_ld1); (· (first | assumption | exact RowIs.cells (by assumption))); (· (first | exact mv0 | exact mv1 (by assumption) | exact mv2 (by assumption) (by assumption))); (· kernel_rfl); (· rfl)) | ((with_reducible apply m_lnS); (· (first | assumption | exact Own.sl (by assumption))); (· kernel_rfl)) | ((with_reducible apply m_ixS); (· (first | assumption | exact Own.sl (by assumption))); (try (case hz => rfl)); (case hr => first | assumption | exact List.getElem?_eq_getElem (by omega)); (try (case hz => omega)); (case ht => kernel_rfl); (case hs => kernel_rfl); intro _ _ _) | ((with_reducible apply chk_T); (· first | rfl | assumption | exact Sl.one (by assumption) | exact Rws.one (by assumption) | exact Sl.one (Own.sl (by assumption)))) | ((with_reducible apply r_add); (· omega); (· omega)) | ((with_reducible refine r_pureB (c_ref11_in _ _ (by first | assumption | omega)) ?_ hs.has ?_ ?_); (· kernel_rfl); all_goals (intro _ w X hs1; replace hs := hs.trans hs1)) | ((first | (with_reducible refine fin_ret0 hs ?_) | (with_reducible refine fin_ret0 (hs0.trans hs) ?_)); intro wa hk; (simp [hin0, State.inside, hw2, hw3, *])) | ((with_reducible refine nx1_of (p.reads.length - (k + 1)) ?_ ?_); (· omega); exact ⟨k + 1, by simp, rfl, by omega, hs, by rw [hw3]; simp [*]⟩)
      · rw [hd3] at hw3
        repeat' first | ((with_reducible refine r_lssF ?_ ?_); (· omega)) | with_reducible apply condW_F | ((with_reducible apply un_cell); (· rfl)) | ((with_reducible apply m_lnS); (· (first | assumption | exact Own.sl (by assumption))); (· kernel_rfl)) | ((with_reducible apply chk_T); (· first | rfl | assumption | exact Sl.one (by assumption) | exact Rws.one (by assumption) | exact Sl.one (Own.sl (by assumption))))
        refine lp1_of (fun n a w X => ∃ i : Nat, a = I (i : Nat) ∧ n = p.writes.length - i ∧ i ≤ p.writes.length ∧ Since (old w0) w0 X w ∧ (p.writes.all fun x => s.range.key x.key) = (p.writes.drop i).all fun x => s.range.key x.key) p.writes.length ⟨0, rfl, rfl, Nat.zero_le _, hs, by simp⟩ ?_
        clear hs
        rintro n a w X ⟨m, rfl, rfl, hm, hs, hw4⟩
        rcases at_or p.writes m with ⟨hlt4, y, hy, hd4⟩ | ⟨hge4, hd4⟩
        · rw [hd4, List.all_cons] at hw4
          have hky := hr2 y (List.mem_of_getElem? hy)
          repeat' first | ((with_reducible refine r_lssT ?_ ?_); (· omega)) | with_reducible (first | apply condW_T | apply condW_F) | ((with_reducible apply un_cell); (· rfl)) | with_reducible (first | apply r_notT | apply r_notF) | ((with_reducible apply m_fld1); (· (first | assumption | exact RowIs.cells (by assumption))); (· kernel_rfl); (· rfl); intro _ _ _) | ((with_reducible apply m_ld1); (· (first | assumption | exact RowIs.cells (by assumption))); (· (first | exact mv0 | exact mv1 (by assumption) | exact mv2 (by assumption) (by assumption))); (· kernel_rfl); (· rfl)) | ((with_reducible apply m_lnS); (· (first | assumption | exact Own.sl (by assumption))); (· kernel_rfl)) | ((with_reducible apply m_ixS); (· (first | assumption | exact Own.sl (by assumption))); (try (case hz => rfl)); (case hr => first | assumption | exact List.getElem?_eq_getElem (by omega)); (try (case hz => omega)); (case ht => kernel_rfl); (case hs => kernel_rfl); intro _ _ _) | ((with_reducible apply chk_T); (· first | rfl | assumption | exact Sl.one (by assumption) | exact Rws.one (by assumption) | exact Sl.one (Own.sl (by assumption)))) | ((with_reducible apply r_add); (· omega); (· omega)) | ((with_reducible refine r_pureB (c_ref11_in _ _ (by first | assumption | omega)) ?_ hs.has ?_ ?_); (· kernel_rfl); all_goals (intro _ w X hs1; replace hs := hs.trans hs1)) | ((first | (with_reducible refine fin_ret0 hs ?_) | (with_reducible refine fin_ret0 (hs0.trans hs) ?_)); intro wa hk; (simp [hin0, State.inside, hw2, hw4, *])) | ((with_reducible refine nx1_of (p.writes.length - (m + 1)) ?_ ?_); (· omega); exact ⟨m + 1, by simp, rfl, by omega, hs, by rw [hw4]; simp [*]⟩)
        · rw [hd4] at hw4
          repeat' first | ((with_reducible refine r_lssF ?_ ?_); (· omega)) | with_reducible apply condW_F | ((with_reducible apply un_cell); (· rfl)) | ((with_reducible apply m_lnS); (· (first | assumption | exact Own.sl (by assumption))); (· kernel_rfl)) | ((with_reducible apply chk_T); (· first | rfl | assumption | exact Sl.one (by assumption) | exact Rws.one (by assumption) | exact Sl.one (Own.sl (by assumption)))) | ((with_reducible apply r_add); (· omega); (· omega))
          all_goals ((with_reducible refine nx3_of (s.pend.length - (j + 1)) ?_ ?_); (· omega); exact ⟨j + 1, by simp, rfl, by omega, hs, by rw [hw2, hw3, hw4]; rfl⟩)
    · rw [hd2] at hw2
      repeat' first | ((with_reducible refine r_lssF ?_ ?_); (· omega)) | with_reducible apply condW_F | ((with_reducible apply m_lnR); (· assumption); (· kernel_rfl)) | ((first | (with_reducible refine fin_ret0 hs ?_) | (with_reducible refine fin_ret0 (hs0.trans hs) ?_)); intro wa hk; (simp [hin0, State.inside, hw, hw2]))
end Go.Proofs.YtnphlhpdikmpiaaGreat
namespace Go.Proofs.YtnphlhpdikmpiaaGreat
open Go.Eng
set_option maxRecDepth 100000
set_option maxHeartbeats 1000000
set_option linter.unusedVariables false
set_option linter.unusedSimpArgs false
attribute [local irreducible] un jn chk fld ld1 ldA st1 ixS lnS lnT bld cvI cvF ixA bsS apS rdV rdW grdW eW eV eU eC eF gE condW fin pickN nilN binS vS lp0 lp1 lp2 lp3 lp4 lp5 lp6 lp7 nx0 nx1 nx2 nx3 nx4 nx5 nx6 nx7
structure Rec.fit (r : Rec) : Prop where
  f : r.fits
  st : r.state.fit
  pt : r.point < 18446744073709551616
def Rec.bare (r : Rec) : Rec := ⟨r.kind, .zero, .zero, .zero, false, 0, 0, [], [], [], [], .zero⟩
def Rec.own (r : Rec) : Rec :=
  if r.kind = 1 then { r.bare with state := r.state }
  else if r.kind = 2 ∨ r.kind = 7 ∨ r.kind = 8 then { r.bare with n := r.n }
  else if r.kind = 3 then { r.bare with txn := r.txn, stamp := r.stamp, reads := r.reads, writes := r.writes, parts := r.parts }
  else if r.kind = 4 then { r.bare with txn := r.txn, commit := r.commit, stamp := r.stamp }
  else if r.kind = 5 then { r.bare with stamp := r.stamp }
  else if r.kind = 6 then { r.bare with point := r.point, n := r.n, stamp := r.stamp }
  else if r.kind = 9 then { r.bare with txn := r.txn, stamp := r.stamp, parts := r.parts }
  else if r.kind = 10 then { r.bare with txn := r.txn }
  else if r.kind = 11 then { r.bare with prev := r.prev, stamp := r.stamp, txn := r.txn, writes := r.writes }
  else if r.kind = 12 then { r.bare with stamp := r.stamp, pairs := r.pairs }
  else r.bare
theorem d_ref11_own {w : World} {X : XS} {r : Rec} {vr vw vp vq vh vd : Value} (h : r.at w X vr vw vp vq vh vd) :
    Ct Tryz.prog 86 #[r.v vr vw vp vq vh vd] w X nX fun v _ _ => ∃ vr' vw' vp' vq' vh' vd', v = r.own.v vr' vw' vp' vq' vh' vd' ∧ r.own.at w X vr' vw' vp' vq' vh' vd' := by
  intro w0 hk
  obtain ⟨h1, h2, h3, h4, h5, h6⟩ := h
  have o1 := h1.one
  have o2 := h2.one
  have o3 := h3.one
  have o4 := h4.one
  have o5 := h5.one
  have o6 := h6.one
  apply ok_raceref11_own; unfold vc_raceref11_own
  have hs := Since.init w0
  have n1 : Sl w X 1 (.slice none 0 0) (([] : List BA).map S1) := Sl.nil _ _ _
  have n2 : Sl w X 4 (.slice none 0 0) (([] : List KV).map KV.l) := Sl.nil _ _ _
  have n3 : Sl w X 1 (.slice none 0 0) (([] : List Int).map I1) := Sl.nil _ _ _
  have n4 : Hists w X (.slice none 0 0) [] := Rws.nil _ _ _
  have n5 : Pends w X (.slice none 0 0) [] := Rws.nil _ _ _
  repeat' first | with_reducible (first | apply condW_T | apply condW_F) | ((with_reducible apply m_sub); (· (simp only [Value.cells, nq1, nq2, nq3, nq4, nq5, nq6, setL, nq7, nq8, nq9, nq0, Nat.reduceAdd, Nat.zero_add]; try rfl))) | ((with_reducible apply m_set); (· (simp only [Value.cells, nq1, nq2, nq3, nq4, nq5, nq6, setL, nq7, nq8, nq9, nq0, Nat.reduceAdd, Nat.zero_add]; try rfl))) | with_reducible apply un_box | (with_reducible apply r_eql <;> intro _) | ((with_reducible apply r_bld); (· kernel_rfl)) | ((with_reducible apply m_chkc); (case h => (repeat' first | with_reducible apply all_one_cons | with_reducible exact all_one_nil | assumption | rfl | exact Sl.one (by assumption) | exact Rws.one (by assumption) | exact Sl.one (Own.sl (by assumption))))) | ((with_reducible apply m_chkl); (case h => (repeat' first | with_reducible apply all_one_cons | with_reducible exact all_one_nil | assumption | rfl | exact Sl.one (by assumption) | exact Rws.one (by assumption) | exact Sl.one (Own.sl (by assumption))))) | ((with_reducible apply chk_T); (· first | rfl | assumption | exact Sl.one (by assumption) | exact Rws.one (by assumption) | exact Sl.one (Own.sl (by assumption)))) | with_reducible apply jn_of
  all_goals
    refine fin_ret0 hs ?_
    intro wa hk9
    unfold Rec.own
    repeat (first | rw [if_pos (by omega)] | rw [if_neg (by omega)])
    exact ⟨_, _, _, _, _, _, rfl, by assumption, by assumption, by assumption, by assumption, by assumption, by assumption⟩
theorem point_eq {x : Nat} (hx : x < 18446744073709551616) : (fgt x 0 && flt x one64) = pointOk x := by
  unfold pointOk toPoint
  have hp := refPoint_eq hx
  by_cases h4 : cls x = 4
  · rw [if_pos h4]
    have : fgt x 0 = false := by
      rw [fgt_zero hx]
      have hc := cls_ge hx
      have : ¬ (feq x x = true ∧ x < 9223372036854775808) := fun h => by have := hc.2 h; omega
      cases hq : feq x x
      · rfl
      · simp only [Bool.true_and]
        have : ¬ x < 9223372036854775808 := fun h => this ⟨hq, h⟩
        simp [this]
    rw [this]
    have : fgt 0 0 = false := by decide +kernel
    simp [this]
  · rw [if_neg h4]
    cases hi : isPoint x
    · have : (fgt x 0 && flt x one64) = false := by
        rw [hi] at hp
        unfold refPoint at hp
        cases h1 : fgt x 0
        · rfl
        · cases h2 : flt x one64
          · rfl
          · rw [h1, h2] at hp; simp at hp
      rw [this]; simp
    · simp
theorem Rec.err_eq (r : Rec) : r.err = if r.kind < 1 ∨ r.kind > 12 then 7 else if r = r.own ∧ r.fieldsOk then 0 else 4 := by
  have hb : r.strip.2 = decide (1 ≤ r.kind ∧ r.kind ≤ 12) := by
    unfold Rec.strip
    repeat' split
    all_goals simp
    all_goals omega
  unfold Rec.err
  rw [hb]
  by_cases hk : r.kind < 1 ∨ r.kind > 12
  · rw [if_pos hk, if_pos (by simp; omega)]
  · rw [if_neg hk, if_neg (by simp; omega)]
    have hz : r.strip.1.isZero = decide (r = r.own) := by
      have hc : r.kind = 1 ∨ r.kind = 2 ∨ r.kind = 3 ∨ r.kind = 4 ∨ r.kind = 5 ∨ r.kind = 6 ∨ r.kind = 7 ∨ r.kind = 8 ∨ r.kind = 9 ∨ r.kind = 10 ∨ r.kind = 11 ∨ r.kind = 12 := by omega
      rw [Bool.eq_iff_iff]
      rcases hc with e | e | e | e | e | e | e | e | e | e | e | e
      all_goals
        simp [Rec.strip, Rec.own, Rec.bare, Rec.isZero, State.isZero, Rec.ext_iff, State.ext_iff, e, State.zero]
        try grind
    rw [hz]
    cases h2 : r.fieldsOk
    · simp
    · by_cases h1 : r = r.own
      · rw [if_neg (by simp [← h1]), if_pos ⟨h1, rfl⟩]
      · rw [if_pos (by simp [h1]), if_neg (fun h => h1 h.1)]
end Go.Proofs.YtnphlhpdikmpiaaGreat
namespace Go.Proofs.YtnphlhpdikmpiaaGreat
open Go.Eng
set_option maxRecDepth 100000
set_option maxHeartbeats 1000000
set_option linter.unusedVariables false
set_option linter.unusedSimpArgs false
attribute [local irreducible] un jn chk fld ld1 ldA st1 ixS lnS lnT bld cvI cvF ixA bsS apS rdV rdW grdW eW eV eU eC eF gE condW fin pickN nilN binS vS lp0 lp1 lp2 lp3 lp4 lp5 lp6 lp7 nx0 nx1 nx2 nx3 nx4 nx5 nx6 nx7
theorem d_ref11_good {w : World} {X : XS} {r : Rec} {vr vw vp vq vh vd : Value} (h : r.at w X vr vw vp vq vh vd) (hf : r.fit) :
    Ct Tryz.prog 87 #[r.v vr vw vp vq vh vd] w X nX fun v _ _ => v = B r.fieldsOk := by
  intro w0 hk
  obtain ⟨h1, h2, h3, h4, h5, h6⟩ := h.mv hk.mvo
  obtain ⟨b1, n1, c1, rfl⟩ := h1.form
  obtain ⟨b2, n2, c2, rfl⟩ := h2.form
  have hpe := point_eq hf.pt
  have hpa := parts_eq r.parts
  have hae := applies_eq r.prev r.stamp r.txn r.writes
  apply ok_raceref11_good; unfold vc_raceref11_good
  have hs := Since.init w0
  repeat' first | with_reducible (first | apply condW_T | apply condW_F | apply un_selT | apply un_selFT | apply grdV_onT | apply grdW_offT | apply rdW_pickT | apply rdW_pickF | apply gE_T | apply gE_FT | apply r_notT | apply r_notF) | (with_reducible apply r_eql <;> intro _) | (with_reducible apply r_leq <;> intro _) | (with_reducible apply r_geq <;> intro _) | (with_reducible apply r_flss <;> intro _) | (with_reducible apply r_fgtr <;> intro _) | ((with_reducible apply r_bld); (· kernel_rfl)) | ((with_reducible refine r_eqS0 _ ?_ ?_ ?_); (· kernel_rfl); all_goals intros) | with_reducible apply jn_of | ((with_reducible refine r_pure (c_ref8_May _) ?_ hs.has ?_); (· kernel_rfl); intro w X hs1; replace hs := hs.trans hs1) | ((with_reducible refine r_pure (c_ref10_TxnMay _) ?_ hs.has ?_); (· kernel_rfl); intro w X hs1; replace hs := hs.trans hs1) | ((fail_if_success have := hcm); show rdV _ _ _ (Op.unary UnOp.not (B r.commit)) _; cases hcm : r.commit) | ((with_reducible apply r_beql); (· kernel_rfl); all_goals intro _) | (refine r_ct0B (d_ref11_StateMay (s := r.state) (h5.mv hs.mv) (h6.mv hs.mv) hf.st) (by kernel_rfl) hs.has ?_ ?_ <;> (intro _ w X hs1; replace hs := hs.trans hs1)) | (refine r_ct0V (d_ref10_PendingMay (p := ⟨r.txn, r.stamp, r.reads, r.writes⟩) (h1.mv hs.mv) (h2.mv hs.mv)) (by kernel_rfl) hs.has fun w X hs1 => ?_; replace hs := hs.trans hs1) | (refine r_ct0B (d_ref11_Parts (h3.mv hs.mv)) (by kernel_rfl) hs.has ?_ ?_ <;> (intro _ w X hs1; replace hs := hs.trans hs1)) | (refine r_ct0B (d_ref11_pairs (h4.mv hs.mv)) (by kernel_rfl) hs.has ?_ ?_ <;> (intro _ w X hs1; replace hs := hs.trans hs1)) | (refine r_ct0B (d_ref11_Applies (prev := r.prev) (st := r.stamp) (t := r.txn) (h2.mv hs.mv)) (by kernel_rfl) hs.has ?_ ?_ <;> (intro _ w X hs1; replace hs := hs.trans hs1)) | ((fail_if_success have := hsm); (fail_if_success show fin _ _ _ _); cases hsm : r.stamp.may) | ((fail_if_success have := htm); (fail_if_success show fin _ _ _ _); cases htm : r.txn.may)
  all_goals
    (with_reducible refine fin_ret0 hs ?_)
    intro wa hk9
    unfold Rec.fieldsOk
    show Value.bool _ = Value.bool _
    congr 1
    repeat (first | rw [if_pos (by omega)] | rw [if_neg (by omega)])
    all_goals
      clear h h1 h2 h3 h4 h5 h6 hf hk hk9 hs
      try rw [← hpa]
      try rw [← hpe]
      try rw [← hae]
      clear hpa hpe hae
      try unfold rangeNo
      try unfold Stamp.decided
      try unfold Stamp.moment
      try unfold one64
      have hz0 : Stamp.zero.may = true := by decide
      try rfl
      try (rw [Bool.eq_iff_iff]; simp_all; done)
      try (rw [Bool.eq_iff_iff]; simp_all; omega)
theorem d_ref11_May {w : World} {X : XS} {r : Rec} {vr vw vp vq vh vd : Value} (h : r.at w X vr vw vp vq vh vd) (hf : r.fit) :
    Ct Tryz.prog 65 #[r.v vr vw vp vq vh vd] w X nX fun v _ _ => v = I r.err := by
  intro w0 hk
  have h := h.mv hk.mvo
  rw [Rec.err_eq]
  apply ok_raceref11_May; unfold vc_raceref11_May
  have hs := Since.init w0
  repeat' first | with_reducible (first | apply condW_T | apply condW_F | apply un_selF | apply un_selTF | apply grdV_onF | apply grdW_offF | apply rdW_pickT | apply rdW_pickF | apply gE_F | apply gE_TF | apply r_notT | apply r_notF) | (with_reducible apply r_lss <;> intro _) | (with_reducible apply r_gtr <;> intro _) | with_reducible apply jn_of | ((first | (with_reducible refine fin_ret0 hs ?_) | (with_reducible refine fin_ret0 (hs0.trans hs) ?_)); intro wa hk; (rw [if_pos (by omega)])) | ((first | (with_reducible refine fin_ret0 hs ?_) | (with_reducible refine fin_ret0 (hs0.trans hs) ?_)); intro wa hk; (rw [if_neg (by omega), if_pos ⟨of_decide_eq_true (by assumption), by assumption⟩])) | ((first | (with_reducible refine fin_ret0 hs ?_) | (with_reducible refine fin_ret0 (hs0.trans hs) ?_)); intro wa hk; (rw [if_neg (by omega), if_neg (fun q => absurd q.1 (of_decide_eq_false (by assumption)))])) | ((first | (with_reducible refine fin_ret0 hs ?_) | (with_reducible refine fin_ret0 (hs0.trans hs) ?_)); intro wa hk; (rw [if_neg (by omega), if_neg (fun q => Bool.noConfusion (q.2.symm.trans (by assumption)))])) | (refine r_ct0 (d_ref11_own (h.mv hs.mv)) (by kernel_rfl) hs.has ?_; rintro v wa w X ⟨vr', vw', vp', vq', vh', vd', rfl, hat⟩ hle hin hs1; replace hs := hs.trans hs1) | (refine r_ct0B ((d_raceref_Rec (r := r) (t := r.own))  (h.mv hs.mv) (hat.mv hs.mv)) (by kernel_rfl) hs.has ?_ ?_ <;> (intro _ w X hs1; replace hs := hs.trans hs1)) | (refine r_ct0B ((d_ref11_good (r := r))  (h.mv hs.mv) hf) (by kernel_rfl) hs.has ?_ ?_ <;> (intro _ w X hs1; replace hs := hs.trans hs1))
end Go.Proofs.YtnphlhpdikmpiaaGreat
namespace Go.Proofs.YtnphlhpdikmpiaaGreat
open Go.Eng
set_option maxRecDepth 100000
set_option maxHeartbeats 1000000
set_option linter.unusedVariables false
set_option linter.unusedSimpArgs false
attribute [local irreducible] un jn chk fld ld1 ldA st1 ixS lnS lnT bld cvI cvF ixA bsS apS rdV rdW grdW eW eV eU eC eF gE condW fin pickN nilN binS vS lp0 lp1 lp2 lp3 lp4 lp5 lp6 lp7 nx0 nx1 nx2 nx3 nx4 nx5 nx6 nx7
abbrev OV := PV × Int
abbrev OV.l (x : OV) : List Value := [I x.1.p.txn.coord, I x.1.p.txn.life, I x.1.p.txn.sq, I x.1.p.stamp.wall, I x.1.p.stamp.logic, I x.1.p.stamp.node, .slice x.1.br x.1.nr x.1.cr, .slice x.1.bw x.1.nw x.1.cw, I x.2]
abbrev TailS.l (s : TailS) (vo : Value) : List Value := [I s.id, I s.next, I s.closed.wall, I s.closed.logic, I s.closed.node, vo]
abbrev OC := List (Pend × Int)
abbrev oc (zs : List OV) : OC := zs.map fun z => (z.1.p, z.2)
structure RTl (w : World) (X A : XS) (sb : Nat) (vo : Value) (s : TailS) (zs : List OV) : Prop where
  box : RowIs w X sb (s.l vo) 37
  ow : Own w X 0 98 9 vo (zs.map OV.l)
  zin : ∀ z ∈ zs, z.1.in w A
  sub : ∀ k, A k → X k ∧ k < w.heap.size ∧ k ≠ sb ∧ vo.ownBlock ≠ some k
  sep : ∀ g, vo.ownBlock = some g → g ≠ sb
theorem RTl.mv {w w' : World} {X Y A : XS} {sb : Nat} {vo : Value} {s : TailS} {zs : List OV} (h : RTl w X A sb vo s zs) (m : Mv X w Y w') (hsz : w.heap.size ≤ w'.heap.size) : RTl w' Y A sb vo s zs :=
  ⟨h.box.mv m, h.ow.mv m, fun z hz => (h.zin z hz).mv fun k hk hl => ⟨hk, (m k (h.sub k hk).1 hl).2⟩,
    fun k hk => ⟨(m k (h.sub k hk).1 (h.sub k hk).2.1).1, Nat.lt_of_lt_of_le (h.sub k hk).2.1 hsz, (h.sub k hk).2.2⟩, h.sep⟩
theorem RTl.zin' {w : World} {X A : XS} {sb : Nat} {vo : Value} {s : TailS} {zs : List OV} (h : RTl w X A sb vo s zs) {z : OV} (hz : z ∈ zs) : z.1.in w X :=
  ⟨(h.zin z hz).1.mono fun k hk => (h.sub k hk).1, (h.zin z hz).2.mono fun k hk => (h.sub k hk).1⟩
def needO (n : Int) (l : OC) : Int := l.foldl (fun n x => min n x.2) n
def resO (s : Stamp) (l : OC) : Stamp := l.foldl (fun s x => if x.1.stamp.prior.1.cmp s < 0 then x.1.stamp.prior.1 else s) s
section
variable {w : World} {X A : XS} {sb : Nat} {vo : Value} {s : TailS} {zs : List OV}
theorem d_ref18_New (id next : Int) {w : World} {X : XS} :
    Ct Tryz.prog 8 #[I id, I next] w X nX fun v wa w' => if id < 1 ∨ id > 12 ∨ next < 1 ∨ next > 100000000 then v = .tuple #[.pointer none, I 1]
      else ∃ sb, v = .tuple #[ptr sb 0, I 0] ∧ RTl w' (made wa w') nX sb (.slice none 0 0) ⟨id, next, .zero⟩ [] := by
  intro w0 hk
  apply ok_raceref18_New; unfold vc_raceref18_New
  have hs := Since.init w0
  repeat' first | with_reducible (first | apply condW_T | apply condW_F | apply un_selF | apply un_selTF | apply grdV_onF | apply grdW_offF | apply rdW_pickT | apply rdW_pickF) | (with_reducible apply r_lss <;> intro _) | (with_reducible apply r_gtr <;> intro _) | ((with_reducible apply r_bld); (· kernel_rfl)) | ((with_reducible apply m_boxA); (case hX => exact hs.has); intro bx w X hbx hs1 hrow; have hs0 := hs.trans hs1; replace hs := Since.refl' hs1.has) | ((first | (with_reducible refine fin_ret0 hs ?_) | (with_reducible refine fin_ret0 (hs0.trans hs) ?_)); intro wa hk; (dsimp only; split <;> first | rfl | omega))
  refine fin_ret0 (hs0.trans hs) ?_
  intro wa hk9
  dsimp only
  rw [if_neg (by omega)]
  have hr := hrow.kp hk9
  refine ⟨bx, rfl, ⟨⟨hbx, hr.lt⟩, hr.2⟩, Own.nil _ _ _ _ _, by simp, fun k hk => hk.elim, fun g hg => by cases hg⟩
theorem d_ref18_at {t : Txn} (h : RTl w X A sb vo s zs) :
    Ct Tryz.prog 66 #[ptr sb 0, t.v] w X nX fun v _ _ => v = I (idxOf (fun z : OV => decide (z.1.p.txn = t)) zs) := by
  intro w0 hk
  replace h := h.mv hk.mvo hk.size
  have hbox := h.box
  have hh := h.ow.sl
  have hln := hh.len'
  apply ok_raceref18_Tail_at; unfold vc_raceref18_Tail_at
  have hs := Since.init w0
  skip
  refine lp1_of (fun n a w X => ∃ i : Nat, a = I (i : Nat) ∧ n = (zs).length - i ∧ i ≤ (zs).length ∧ Since (old w0) w0 X w ∧ (∀ (j : Nat) (x : OV), j < i → zs[j]? = some x → decide (x.1.p.txn = t) = false)) (zs).length ⟨0, rfl, rfl, Nat.zero_le _, hs, by simp⟩ ?_
  rintro n a w X ⟨i, rfl, rfl, hi, hs, hw⟩
  rcases at_or (zs) i with ⟨hlt, x, hx, hd⟩ | ⟨hge, hd⟩
  · repeat' first | ((with_reducible refine r_lssT ?_ ?_); (· omega)) | with_reducible (first | apply condW_T | apply condW_F | apply r_nil) | ((with_reducible apply m_fld1); (· (first | assumption | exact RowIs.cells (by assumption))); (· kernel_rfl); (· rfl); intro _ _ _) | ((with_reducible apply m_fld); (· (first | assumption | exact RowIs.cells (by assumption))); (· kernel_rfl); (· rfl); (· (simp only [Value.cells, nq1, nq2, nq3, nq4, nq5, nq6, setL, nq7, nq8, nq9, nq0, Nat.reduceAdd, Nat.zero_add]; try rfl)); intro _ _ _) | ((with_reducible apply m_ld1); (· (first | assumption | exact RowIs.cells (by assumption))); (· (first | exact mv0 | exact mv1 (by assumption) | exact mv2 (by assumption) (by assumption))); (· kernel_rfl); (· rfl)) | ((with_reducible apply m_ldA); (· (first | assumption | exact RowIs.cells (by assumption))); (· (first | exact mv0 | exact mv1 (by assumption) | exact mv2 (by assumption) (by assumption))); (· kernel_rfl); (· rfl)) | ((with_reducible apply m_lnS); (· (first | assumption | exact Own.sl (by assumption))); (· kernel_rfl)) | ((with_reducible apply m_ixS); (· (first | assumption | exact Own.sl (by assumption))); (try (case hz => rfl)); (case hr => first | assumption | exact List.getElem?_eq_getElem (by omega)); (try (case hz => omega)); (case ht => kernel_rfl); (case hs => kernel_rfl); intro _ _ _) | ((with_reducible refine r_eqT _ _ ?_ ?_ ?_); (· kernel_rfl); all_goals intros) | ((with_reducible apply r_add); (· omega); (· omega)) | ((first | (with_reducible refine fin_ret0 hs ?_) | (with_reducible refine fin_ret0 (hs0.trans hs) ?_)); intro wa hk; (rw [idxOf_at hw hx (by simpa using ‹x.1.p.txn = t›)])) | ((with_reducible refine nx1_of ((zs).length - (i + 1)) ?_ ?_); (· omega); exact ⟨i + 1, by simp, rfl, by omega, hs, fun j y hj hy => by rcases Nat.lt_succ_iff_lt_or_eq.1 hj with h | h; exact hw j y h hy; subst h; rw [hx] at hy; cases hy; simpa using ‹¬ x.1.p.txn = t›⟩)
  · repeat' first | ((with_reducible refine r_lssF ?_ ?_); (· omega)) | with_reducible (first | apply condW_F | apply r_nil) | ((with_reducible apply m_fld1); (· (first | assumption | exact RowIs.cells (by assumption))); (· kernel_rfl); (· rfl); intro _ _ _) | ((with_reducible apply m_ld1); (· (first | assumption | exact RowIs.cells (by assumption))); (· (first | exact mv0 | exact mv1 (by assumption) | exact mv2 (by assumption) (by assumption))); (· kernel_rfl); (· rfl)) | ((with_reducible apply m_lnS); (· (first | assumption | exact Own.sl (by assumption))); (· kernel_rfl)) | ((first | (with_reducible refine fin_ret0 hs ?_) | (with_reducible refine fin_ret0 (hs0.trans hs) ?_)); intro wa hk; (rw [idxOf_none fun j x hj hx => hw j x (by omega) hx]))
theorem d_ref18_Need (h : RTl w X A sb vo s zs) :
    Ct Tryz.prog 44 #[ptr sb 0] w X nX fun v _ _ => v = I (needO s.next (oc zs)) := by
  intro w0 hk
  replace h := h.mv hk.mvo hk.size
  have hbox := h.box
  have hh := h.ow.sl
  have hln := hh.len'
  apply ok_raceref18_Tail_Need; unfold vc_raceref18_Tail_Need
  have hs := Since.init w0
  repeat' first | with_reducible apply r_nil | ((with_reducible apply m_fld1); (· (first | assumption | exact RowIs.cells (by assumption))); (· kernel_rfl); (· rfl); intro _ _ _) | ((with_reducible apply m_ld1); (· (first | assumption | exact RowIs.cells (by assumption))); (· (first | exact mv0 | exact mv1 (by assumption) | exact mv2 (by assumption) (by assumption))); (· kernel_rfl); (· rfl))
  refine lp2_of (fun n a b w X => ∃ (i : Nat) (u : Int), a = I i ∧ b = I u ∧ n = zs.length - i ∧ i ≤ zs.length ∧ Since (old w0) w0 X w ∧ needO s.next (oc zs) = needO u (oc (zs.drop i))) zs.length ⟨0, _, rfl, rfl, rfl, Nat.zero_le _, hs, by simp⟩ ?_
  rintro n a b w X ⟨i, u, rfl, rfl, rfl, hi, hs, hw⟩
  rcases at_or (zs) i with ⟨hlt, x, hx, hd⟩ | ⟨hge, hd⟩
  · have hw' : needO s.next (oc zs) = needO (min u x.2) (oc (zs.drop (i + 1))) := by rw [hw, hd]; rfl
    repeat' first | ((with_reducible refine r_lssT ?_ ?_); (· omega)) | with_reducible (first | apply condW_T | apply r_nil) | ((with_reducible apply m_fld1); (· (first | assumption | exact RowIs.cells (by assumption))); (· kernel_rfl); (· rfl); intro _ _ _) | ((with_reducible apply m_ld1); (· (first | assumption | exact RowIs.cells (by assumption))); (· (first | exact mv0 | exact mv1 (by assumption) | exact mv2 (by assumption) (by assumption))); (· kernel_rfl); (· rfl)) | ((with_reducible apply m_lnS); (· (first | assumption | exact Own.sl (by assumption))); (· kernel_rfl)) | ((with_reducible apply m_ixS); (· (first | assumption | exact Own.sl (by assumption))); (try (case hz => rfl)); (case hr => first | assumption | exact List.getElem?_eq_getElem (by omega)); (try (case hz => omega)); (case ht => kernel_rfl); (case hs => kernel_rfl); intro _ _ _) | ((with_reducible apply r_add); (· omega); (· omega)) | (with_reducible apply r_min) | ((with_reducible refine nx2_of ((zs).length - (i + 1)) ?_ ?_); (· omega); exact ⟨i + 1, _, by simp, rfl, rfl, by omega, hs, hw'⟩)
  · rw [hd] at hw
    repeat' first | ((with_reducible refine r_lssF ?_ ?_); (· omega)) | with_reducible (first | apply condW_F | apply r_nil) | ((with_reducible apply m_fld1); (· (first | assumption | exact RowIs.cells (by assumption))); (· kernel_rfl); (· rfl); intro _ _ _) | ((with_reducible apply m_ld1); (· (first | assumption | exact RowIs.cells (by assumption))); (· (first | exact mv0 | exact mv1 (by assumption) | exact mv2 (by assumption) (by assumption))); (· kernel_rfl); (· rfl)) | ((with_reducible apply m_lnS); (· (first | assumption | exact Own.sl (by assumption))); (· kernel_rfl)) | ((first | (with_reducible refine fin_ret0 hs ?_) | (with_reducible refine fin_ret0 (hs0.trans hs) ?_)); intro wa hk; (rw [hw]; rfl))
theorem d_ref18_Resolved (h : RTl w X A sb vo s zs) :
    Ct Tryz.prog 36 #[ptr sb 0] w X nX fun v _ _ => v = (resO s.closed (oc zs)).v := by
  intro w0 hk
  replace h := h.mv hk.mvo hk.size
  have hbox := h.box
  have hh := h.ow.sl
  have hln := hh.len'
  apply ok_raceref18_Tail_Resolved; unfold vc_raceref18_Tail_Resolved
  have hs := Since.init w0
  repeat' first | with_reducible (first | apply un_box | apply r_nil) | ((with_reducible apply m_fld); (· (first | assumption | exact RowIs.cells (by assumption))); (· kernel_rfl); (· rfl); (· (simp only [Value.cells, nq1, nq2, nq3, nq4, nq5, nq6, setL, nq7, nq8, nq9, nq0, Nat.reduceAdd, Nat.zero_add]; try rfl)); intro _ _ _) | ((with_reducible apply m_ldA); (· (first | assumption | exact RowIs.cells (by assumption))); (· (first | exact mv0 | exact mv1 (by assumption) | exact mv2 (by assumption) (by assumption))); (· kernel_rfl); (· rfl)) | ((with_reducible apply m_chkc); (case h => (repeat' first | with_reducible apply all_one_cons | with_reducible exact all_one_nil | assumption | rfl | exact Sl.one (by assumption) | exact Rws.one (by assumption) | exact Sl.one (Own.sl (by assumption))))) | ((with_reducible apply chk_T); (· first | rfl | assumption | exact Sl.one (by assumption) | exact Rws.one (by assumption) | exact Sl.one (Own.sl (by assumption))))
  refine lp2_of (fun n a b w X => ∃ (i : Nat) (u : Stamp), a = I i ∧ b = u.v ∧ n = zs.length - i ∧ i ≤ zs.length ∧ Since (old w0) w0 X w ∧ resO s.closed (oc zs) = resO u (oc (zs.drop i))) zs.length ⟨0, _, rfl, rfl, rfl, Nat.zero_le _, hs, by simp⟩ ?_
  rintro n a b w X ⟨i, u, rfl, rfl, rfl, hi, hs, hw⟩
  rcases at_or (zs) i with ⟨hlt, x, hx, hd⟩ | ⟨hge, hd⟩
  · have hw' : resO s.closed (oc zs) = resO (if x.1.p.stamp.prior.1.cmp u < 0 then x.1.p.stamp.prior.1 else u) (oc (zs.drop (i + 1))) := by rw [hw, hd]; rfl
    repeat' first | ((with_reducible refine r_lssT ?_ ?_); (· omega)) | with_reducible (first | apply condW_T | apply condW_F) | ((with_reducible apply m_sub); (· (simp only [Value.cells, nq1, nq2, nq3, nq4, nq5, nq6, setL, nq7, nq8, nq9, nq0, Nat.reduceAdd, Nat.zero_add]; try rfl))) | with_reducible (first | apply un_box | apply r_nil) | ((with_reducible apply m_fld1); (· (first | assumption | exact RowIs.cells (by assumption))); (· kernel_rfl); (· rfl); intro _ _ _) | ((with_reducible apply m_fld); (· (first | assumption | exact RowIs.cells (by assumption))); (· kernel_rfl); (· rfl); (· (simp only [Value.cells, nq1, nq2, nq3, nq4, nq5, nq6, setL, nq7, nq8, nq9, nq0, Nat.reduceAdd, Nat.zero_add]; try rfl)); intro _ _ _) | ((with_reducible apply m_ld1); (· (first | assumption | exact RowIs.cells (by assumption))); (· (first | exact mv0 | exact mv1 (by assumption) | exact mv2 (by assumption) (by assumption))); (· kernel_rfl); (· rfl)) | ((with_reducible apply m_ldA); (· (first | assumption | exact RowIs.cells (by assumption))); (· (first | exact mv0 | exact mv1 (by assumption) | exact mv2 (by assumption) (by assumption))); (· kernel_rfl); (· rfl)) | ((with_reducible apply m_lnS); (· (first | assumption | exact Own.sl (by assumption))); (· kernel_rfl)) | ((with_reducible apply m_ixS); (· (first | assumption | exact Own.sl (by assumption))); (try (case hz => rfl)); (case hr => first | assumption | exact List.getElem?_eq_getElem (by omega)); (try (case hz => omega)); (case ht => kernel_rfl); (case hs => kernel_rfl); intro _ _ _) | ((with_reducible apply m_ext); (· rfl)) | ((with_reducible apply m_chkc); (case h => (repeat' first | with_reducible apply all_one_cons | with_reducible exact all_one_nil | assumption | rfl | exact Sl.one (by assumption) | exact Rws.one (by assumption) | exact Sl.one (Own.sl (by assumption))))) | ((with_reducible apply chk_T); (· first | rfl | assumption | exact Sl.one (by assumption) | exact Rws.one (by assumption) | exact Sl.one (Own.sl (by assumption)))) | ((with_reducible apply r_add); (· omega); (· omega)) | with_reducible apply jn_of | ((with_reducible refine r_pureB (c_ref8_Less _ _) ?_ hs.has ?_ ?_); (· kernel_rfl); all_goals (intro _ w X hs1; replace hs := hs.trans hs1)) | ((with_reducible refine r_pure (c_ref8_Prior _) ?_ hs.has ?_); (· kernel_rfl); intro w X hs1; replace hs := hs.trans hs1) | ((with_reducible refine nx2_of ((zs).length - (i + 1)) ?_ ?_); (· omega); exact ⟨i + 1, _, by simp, rfl, rfl, by omega, hs, by rw [hw']; congr 1; split <;> simp_all <;> omega⟩)
  · rw [hd] at hw
    repeat' first | ((with_reducible refine r_lssF ?_ ?_); (· omega)) | with_reducible apply condW_F | ((with_reducible apply m_sub); (· (simp only [Value.cells, nq1, nq2, nq3, nq4, nq5, nq6, setL, nq7, nq8, nq9, nq0, Nat.reduceAdd, Nat.zero_add]; try rfl))) | with_reducible (first | apply un_box | apply r_nil) | ((with_reducible apply m_fld1); (· (first | assumption | exact RowIs.cells (by assumption))); (· kernel_rfl); (· rfl); intro _ _ _) | ((with_reducible apply m_ld1); (· (first | assumption | exact RowIs.cells (by assumption))); (· (first | exact mv0 | exact mv1 (by assumption) | exact mv2 (by assumption) (by assumption))); (· kernel_rfl); (· rfl)) | ((with_reducible apply m_lnS); (· (first | assumption | exact Own.sl (by assumption))); (· kernel_rfl)) | ((with_reducible apply m_chkc); (case h => (repeat' first | with_reducible apply all_one_cons | with_reducible exact all_one_nil | assumption | rfl | exact Sl.one (by assumption) | exact Rws.one (by assumption) | exact Sl.one (Own.sl (by assumption))))) | ((with_reducible apply chk_T); (· first | rfl | assumption | exact Sl.one (by assumption) | exact Rws.one (by assumption) | exact Sl.one (Own.sl (by assumption)))) | ((first | (with_reducible refine fin_ret0 hs ?_) | (with_reducible refine fin_ret0 (hs0.trans hs) ?_)); intro wa hk; (rw [hw]; rfl))
theorem d_ref18_Opens (h : RTl w X A sb vo s zs) (hz : zs.length ≤ 2 ^ 40) :
    Ct Tryz.prog 45 #[ptr sb 0] w X nX fun v wa w' => Own w' (made wa w') wa.heap.size 87 8 v (zs.map fun z => z.1.l) := by
  intro w0 hk
  replace h := h.mv hk.mvo hk.size
  have hbox := h.box
  have hh := h.ow.sl
  have hln := hh.len'
  apply ok_raceref18_Tail_Opens; unfold vc_raceref18_Tail_Opens
  have hs := Since.init w0
  skip
  refine lp2_of (fun n a b w X => ∃ (i : Nat), a = I i ∧ n = zs.length - i ∧ i ≤ zs.length ∧ Since (old w0) w0 X w ∧ Own w X w0.heap.size 87 8 b ((zs.take i).map fun z => z.1.l)) zs.length ⟨0, rfl, rfl, Nat.zero_le _, hs, by simpa using Own.nil _ _ _ _ _⟩ ?_
  clear hs
  rintro n a b w X ⟨i, rfl, rfl, hi, hs, ho⟩
  rcases at_or (zs) i with ⟨hlt, x, hx, hd⟩ | ⟨hge, hd⟩
  · have hzo := h.zin' (List.mem_of_getElem? hx)
    have o1 := hzo.1.one
    have o2 := hzo.2.one
    repeat' first | ((with_reducible refine r_lssT ?_ ?_); (· omega)) | with_reducible (first | apply condW_T | apply r_nil) | ((with_reducible apply m_fld1); (· (first | assumption | exact RowIs.cells (by assumption))); (· kernel_rfl); (· rfl); intro _ _ _) | ((with_reducible apply m_fld); (· (first | assumption | exact RowIs.cells (by assumption))); (· kernel_rfl); (· rfl); (· (simp only [Value.cells, nq1, nq2, nq3, nq4, nq5, nq6, setL, nq7, nq8, nq9, nq0, Nat.reduceAdd, Nat.zero_add]; try rfl)); intro _ _ _) | ((with_reducible apply m_ld1); (· (first | assumption | exact RowIs.cells (by assumption))); (· (first | exact mv0 | exact mv1 (by assumption) | exact mv2 (by assumption) (by assumption))); (· kernel_rfl); (· rfl)) | ((with_reducible apply m_ldA); (· (first | assumption | exact RowIs.cells (by assumption))); (· (first | exact mv0 | exact mv1 (by assumption) | exact mv2 (by assumption) (by assumption))); (· kernel_rfl); (· rfl)) | ((with_reducible apply m_lnS); (· (first | assumption | exact Own.sl (by assumption))); (· kernel_rfl)) | ((with_reducible apply m_ixS); (· (first | assumption | exact Own.sl (by assumption))); (try (case hz => rfl)); (case hr => first | assumption | exact List.getElem?_eq_getElem (by omega)); (try (case hz => omega)); (case ht => kernel_rfl); (case hs => kernel_rfl); intro _ _ _) | ((with_reducible apply r_add); (· omega); (· omega)) | ((with_reducible apply m_app1a); (case own => first | assumption | exact Own.since (by assumption) (by assumption)); (case hs => assumption); (case h0 => first | exact fun _ h => h | exact hs0.has); (case he => kernel_rfl); (case hk => rfl); (case h1 => (repeat' first | with_reducible apply all_one_cons | with_reducible exact all_one_nil | assumption | rfl | exact Sl.one (by assumption) | exact Rws.one (by assumption) | exact Sl.one (Own.sl (by assumption)))); (case hb => (simp only [List.length_map, List.length_take, List.length_append, List.length_cons, List.length_nil]; omega)); (case hl => (simp only [List.length_map, List.length_take, List.length_append, List.length_cons, List.length_nil]; omega)); intro acc w X hs1 ho hc hat; replace hs := hs1) | ((with_reducible refine nx2_of ((zs).length - (i + 1)) ?_ ?_); (· omega); exact ⟨i + 1, by simp, rfl, by omega, hs, by rw [List.take_add_one, hx]; simpa using ho⟩)
  · rw [List.take_of_length_le hge] at ho
    repeat' first | ((with_reducible refine r_lssF ?_ ?_); (· omega)) | with_reducible (first | apply condW_F | apply r_nil) | ((with_reducible apply m_fld1); (· (first | assumption | exact RowIs.cells (by assumption))); (· kernel_rfl); (· rfl); intro _ _ _) | ((with_reducible apply m_ld1); (· (first | assumption | exact RowIs.cells (by assumption))); (· (first | exact mv0 | exact mv1 (by assumption) | exact mv2 (by assumption) (by assumption))); (· kernel_rfl); (· rfl)) | ((with_reducible apply m_lnS); (· (first | assumption | exact Own.sl (by assumption))); (· kernel_rfl)) | ((first | (with_reducible refine fin_ret0 hs ?_) | (with_reducible refine fin_ret0 (hs0.trans hs) ?_)); intro wa hk; (exact (ho.kp hk).tight))
end
end Go.Proofs.YtnphlhpdikmpiaaGreat
namespace Go.Proofs.YtnphlhpdikmpiaaGreat
open Go.Eng
set_option maxRecDepth 100000
set_option maxHeartbeats 1000000
set_option linter.unusedVariables false
set_option linter.unusedSimpArgs false
attribute [local irreducible] un jn chk fld ld1 ldA st1 ixS lnS lnT bld cvI cvF ixA bsS apS rdV rdW grdW eW eV eU eC eF gE condW fin pickN nilN binS vS lp0 lp1 lp2 lp3 lp4 lp5 lp6 lp7 nx0 nx1 nx2 nx3 nx4 nx5 nx6 nx7
theorem Own.to {w : World} {X Y : XS} {lo e k : Nat} {v : Value} {rows : List (List Value)} (h : Own w X lo e k v rows) (hs : ∀ g, v.ownBlock = some g → Y g) : Own w Y lo e k v rows := ⟨h.1, h.2.1, hs⟩
def insO (x : Pend × Int) (l : OC) : OC := l.takeWhile (fun q => q.1.txn.less x.1.txn) ++ x :: l.dropWhile (fun q => q.1.txn.less x.1.txn)
theorem d_ref18_put {w : World} {X A : XS} {sb : Nat} {vo : Value} {s : TailS} {zs : List OV} {p : Pend} {n0 : Int} {vr vw : Value} (h : RTl w X A sb vo s zs)
    (h1 : Sl w X 1 vr (p.reads.map S1)) (h2 : Sl w X 4 vw (p.writes.map KV.l)) (hb1 : p.reads.length ≤ 2 ^ 40) (hb2 : p.writes.length ≤ 2 ^ 40) (hpl : zs.length ≤ 2 ^ 40) :
    Ct Tryz.prog 32 #[ptr sb 0, p.v vr vw, I n0] w X (fun k => k = sb) fun v wa w' => v = .tuple #[] ∧ ∃ vo' zs',
      RTl w' (fun k => k = sb ∨ A k ∨ made wa w' k) (fun k => A k ∨ (made wa w' k ∧ vo'.ownBlock ≠ some k)) sb vo' s zs' ∧ oc zs' = insO (p, n0) (oc zs) := by
  intro w0 hk
  replace h := h.mv hk.mvo hk.size
  have hb := h.box
  have hz1 := h.ow.sl
  have hzA := h.zin
  have hA := h.sub
  replace h1 := h1.mv hk.mvo
  replace h2 := h2.mv hk.mvo
  apply ok_raceref18_Tail_put; unfold vc_raceref18_Tail_put
  have hs := Since.init w0
  skip
  refine lp2_of (fun n a b w X => ∃ (i : Nat), a = I i ∧ n = zs.length - i ∧ i ≤ zs.length ∧ Since (old w0) w0 X w ∧ Own w X w0.heap.size 98 9 b ((zs.take i).map OV.l) ∧ (∀ (j : Nat) x, j < i → zs[j]? = some x → x.1.p.txn.less p.txn = true)) zs.length
    ⟨0, rfl, rfl, Nat.zero_le _, hs, Own.nil _ _ _ _ _, by simp⟩ ?_
  clear hs
  rintro n a b w X ⟨i, rfl, rfl, hi, hs, ho, hless⟩
  rcases at_or zs i with ⟨hlt, z, hz, hd⟩ | ⟨hge, hd⟩
  · have hzo := hzA z (List.mem_of_getElem? hz)
    have o1 := hzo.1.one
    have o2 := hzo.2.one
    repeat' first | ((with_reducible refine r_lssT ?_ ?_); (· omega)) | with_reducible (first | apply condW_T | apply condW_F | apply un_selT | apply grdV_onT | apply grdW_onT | apply rdW_pickT | apply gE_T | apply r_nil) | ((with_reducible apply m_fld1); (· (first | assumption | exact RowIs.cells (by assumption))); (· kernel_rfl); (· rfl); intro _ _ _) | ((with_reducible apply m_fld); (· (first | assumption | exact RowIs.cells (by assumption))); (· kernel_rfl); (· rfl); (· (simp only [Value.cells, nq1, nq2, nq3, nq4, nq5, nq6, setL, nq7, nq8, nq9, nq0, Nat.reduceAdd, Nat.zero_add]; try rfl)); intro _ _ _) | ((with_reducible apply m_ld1); (· (first | assumption | exact RowIs.cells (by assumption))); (· (first | exact mv0 | exact mv1 (by assumption) | exact mv2 (by assumption) (by assumption))); (· kernel_rfl); (· rfl)) | ((with_reducible apply m_ldA); (· (first | assumption | exact RowIs.cells (by assumption))); (· (first | exact mv0 | exact mv1 (by assumption) | exact mv2 (by assumption) (by assumption))); (· kernel_rfl); (· rfl)) | ((with_reducible apply m_lnS); (· (first | assumption | exact Own.sl (by assumption))); (· kernel_rfl)) | ((with_reducible apply m_ixS); (· (first | assumption | exact Own.sl (by assumption))); (try (case hz => rfl)); (case hr => first | assumption | exact List.getElem?_eq_getElem (by omega)); (try (case hz => omega)); (case ht => kernel_rfl); (case hs => kernel_rfl); intro _ _ _) | ((with_reducible apply r_add); (· omega); (· omega)) | ((with_reducible apply m_app1a); (case own => first | assumption | exact Own.since (by assumption) (by assumption)); (case hs => assumption); (case h0 => first | exact fun _ h => h | exact hs0.has); (case he => kernel_rfl); (case hk => rfl); (case h1 => (repeat' first | with_reducible apply all_one_cons | with_reducible exact all_one_nil | assumption | rfl | exact Sl.one (by assumption) | exact Rws.one (by assumption) | exact Sl.one (Own.sl (by assumption)))); (case hb => (simp only [List.length_map, List.length_take, List.length_append, List.length_cons, List.length_nil]; omega)); (case hl => (simp only [List.length_map, List.length_take, List.length_append, List.length_cons, List.length_nil]; omega)); intro acc w X hs1 ho hc hat; replace hs := hs1) | with_reducible apply jn_of | ((with_reducible refine r_pureB (c_ref10_TxnLess _ _) ?_ hs.has ?_ ?_); (· kernel_rfl); all_goals (intro _ w X hs1; replace hs := hs.trans hs1)) | ((with_reducible refine nx2_of (zs.length - (i + 1)) ?_ ?_); (· omega); exact ⟨i + 1, by simp, rfl, by omega, hs, by rw [List.take_add_one, hz]; simpa using ho, fun j x hj hx => by rcases Nat.lt_succ_iff_lt_or_eq.1 hj with h | h; exact hless j x h hx; subst h; rw [hz] at hx; cases hx; assumption⟩)
    have hstop : ∀ x, zs[i]? = some x → x.1.p.txn.less p.txn = false := fun x hx => by rw [hz] at hx; cases hx; assumption
    replace ho := ho.since hs1
    clear hs1
    refine r_ct0 (d_ref_CopyPending (p := p) (h1.mv hs.mv) (h2.mv hs.mv) hb1 hb2) (by kernel_rfl) hs.has ?_
    rintro v wa w3 X3 ⟨cr, cw, rfl, hc1, hc2, hc12⟩ hle hin hs3
    have ho3 := ho.since hs3
    have hlo : w0.heap.size ≤ wa.heap.size := Nat.le_trans hs.kp.size hle
    have hd1 := hc1.up hin hlo
    have hd2 := hc2.up hin hlo
    have p1 := hc1.sl.one
    have p2 := hc2.sl.one
    replace hs := hs.trans hs3
    obtain ⟨c1, m1, e1, rfl⟩ := hc1.sl.form
    obtain ⟨c2, m2, e2, rfl⟩ := hc2.sl.form
    clear ho
    repeat' first | ((with_reducible apply un_cell); (· rfl)) | with_reducible apply r_nil | ((with_reducible apply m_fld1); (· (first | assumption | exact RowIs.cells (by assumption))); (· kernel_rfl); (· rfl); intro _ _ _) | ((with_reducible apply m_ld1); (· (first | assumption | exact RowIs.cells (by assumption))); (· (first | exact mv0 | exact mv1 (by assumption) | exact mv2 (by assumption) (by assumption))); (· kernel_rfl); (· rfl)) | ((with_reducible apply r_bld); (· kernel_rfl)) | ((with_reducible apply m_app1a); (case own => first | assumption | exact Own.since (by assumption) (by assumption)); (case hs => assumption); (case h0 => first | exact fun _ h => h | exact hs0.has); (case he => kernel_rfl); (case hk => rfl); (case h1 => (repeat' first | with_reducible apply all_one_cons | with_reducible exact all_one_nil | assumption | rfl | exact Sl.one (by assumption) | exact Rws.one (by assumption) | exact Sl.one (Own.sl (by assumption)))); (case hb => (simp only [List.length_map, List.length_take, List.length_append, List.length_cons, List.length_nil]; omega)); (case hl => (simp only [List.length_map, List.length_take, List.length_append, List.length_cons, List.length_nil]; omega)); intro acc w X hs1 ho hc hat; replace hs := hs1)
    have hnew : PV.at w X w0.heap.size ⟨p, c1, m1, e1, c2, m2, e2⟩ := PV.at.chg (x := ⟨p, c1, m1, e1, c2, m2, e2⟩) ⟨hd1, hd2⟩ hc ho3 (by kernel_rfl)
    refine m_slTail (rows := zs.map OV.l) (hz1.mv hs.mv) (i := i) rfl (by simpa using hi) (by kernel_rfl) (by kernel_rfl) fun vt hvt => ?_
    refine m_appS ho hs (fun _ h => h) (by kernel_rfl) hvt (fun r hr u hu => ?_) (by simp; omega) (by simp; omega) fun v5 w5 X5 hs5 ho5 hc5 hat5 => ?_
    · obtain ⟨z, hz, rfl⟩ := List.mem_map.1 (List.mem_of_mem_drop hr)
      simp only [OV.l, List.mem_cons, List.not_mem_nil, or_false] at hu
      rcases hu with h | h | h | h | h | h | h | h | h <;> subst h <;> rfl
    have hnew5 := PV.at.chg hnew hc5 ho (by kernel_rfl)
    replace hs := hs5
    obtain ⟨y1, y2, y3, rfl⟩ := ho5.sl.form
    repeat' first | with_reducible apply r_nil | ((with_reducible apply m_fld1); (· (first | assumption | exact RowIs.cells (by assumption))); (· kernel_rfl); (· rfl); intro _ _ _)
    rename_i oo hoo hcc
    subst hoo
    clear hcc
    refine m_st1 (hb.mv hs.mv) (by kernel_rfl) (by simp) rfl rfl hs.has fun w6 X6 hc6 hrow => ?_
    have hsF : Since (out (fun k => k = sb) w0) w0 X6 w6 := (hs.less fun k hk => hk.1).chg hc6 fun k hk e => hk.2 e
    have hsb : sb < w0.heap.size := hb.lt
    have ho6 := ho5.chg hc6 fun g hg e => by have := (ho5.ge hg).1; omega
    have hn6 : PV.at w6 X6 w0.heap.size ⟨p, c1, m1, e1, c2, m2, e2⟩ := ⟨hnew5.r.chg hc6 fun g hg e => by have := (hnew5.r.ge hg).1; omega, hnew5.w.chg hc6 fun g hg e => by have := (hnew5.w.ge hg).1; omega⟩
    skip
    refine fin_ret hsF fun wb hkb => ⟨rfl, _, zs.take i ++ (⟨p, c1, m1, e1, c2, m2, e2⟩, n0) :: zs.drop i, ⟨⟨.inl rfl, (hrow.kp hkb).2⟩, ?_, fun z hz => ?_, fun k hk => ?_, fun g hg => ?_⟩, ?_⟩
    · have ho9 := ((ho6.kp hkb).low (Nat.zero_le w0.heap.size))
      replace ho9 := Own.to ho9 (Y := fun k => k = sb ∨ A k ∨ made w0 wb k) fun g hg => .inr (.inr ⟨((ho6.kp hkb).ge hg).1, ((ho6.kp hkb).ge hg).2⟩)
      simpa using ho9
    · have hAF : Mv A w0 (fun k => A k ∨ (made w0 wb k ∧ (Value.slice y1 y2 y3).ownBlock ≠ some k)) wb := fun k hk' hl => ⟨.inl hk', (hkb.block k (hsF.sub k ⟨hl, (hA k hk').2.2.1⟩)).trans (hsF.kp.block k ⟨hl, (hA k hk').2.2.1⟩)⟩
      have key : ∀ {e k : Nat} {v : Value} {rows : List (List Value)}, Own w6 X6 w0.heap.size e k v rows → decide (98 ≠ e) = true → Sl wb (fun k => A k ∨ (made w0 wb k ∧ (Value.slice y1 y2 y3).ownBlock ≠ some k)) k v rows := by
        intro e k v rows hq hne
        have hq9 := hq.kp hkb
        have ho9 := ho6.kp hkb
        exact Own.sl (lo := w0.heap.size) (e := e) ⟨hq9.1, hq9.2.1, fun g hg => .inr ⟨hq9.ge hg, fun hg' => Own.other ho9 hq9 hne hg' hg⟩⟩
      rcases List.mem_append.1 hz with hz | hz
      · exact (hzA z (List.mem_of_mem_take hz)).mv hAF
      · rcases List.mem_cons.1 hz with rfl | hz
        · exact ⟨key hn6.r rfl, key hn6.w rfl⟩
        · exact (hzA z (List.mem_of_mem_drop hz)).mv hAF
    · have hszb : w0.heap.size ≤ wb.heap.size := Nat.le_trans hsF.kp.size hkb.size
      rcases hk with hk | ⟨hk, hne⟩
      · have hlk := (hA k hk).2.1
        exact ⟨.inr (.inl hk), by omega, (hA k hk).2.2.1, fun e => by have := (ho6.ge e).1; omega⟩
      · exact ⟨.inr (.inr hk), hk.2, by have := hk.1; omega, hne⟩
    · have := (ho6.ge hg).1; omega
    · obtain ⟨q1, q2⟩ := split_at (l := oc zs) (i := i) (f := fun q => q.1.txn.less p.txn) (by simpa using hi) (fun j x hj hx => by
          rw [List.getElem?_map, Option.map_eq_some_iff] at hx
          obtain ⟨z, hz, rfl⟩ := hx
          exact hless j z hj hz) fun x hx => by
          rw [List.getElem?_map, Option.map_eq_some_iff] at hx
          obtain ⟨z, hz, rfl⟩ := hx
          exact hstop z hz
      unfold insO
      rw [q1, q2]; simp [List.map_take, List.map_drop]
  · have hstop : ∀ x, zs[i]? = some x → x.1.p.txn.less p.txn = false := fun x hx => by rw [List.getElem?_eq_none hge] at hx; cases hx
    repeat' first | ((with_reducible refine r_lssF ?_ ?_); (· omega)) | with_reducible (first | apply condW_F | apply un_selFT | apply grdW_offT | apply rdW_pickF | apply gE_FT | apply r_nil) | ((with_reducible apply m_fld1); (· (first | assumption | exact RowIs.cells (by assumption))); (· kernel_rfl); (· rfl); intro _ _ _) | ((with_reducible apply m_ld1); (· (first | assumption | exact RowIs.cells (by assumption))); (· (first | exact mv0 | exact mv1 (by assumption) | exact mv2 (by assumption) (by assumption))); (· kernel_rfl); (· rfl)) | ((with_reducible apply m_lnS); (· (first | assumption | exact Own.sl (by assumption))); (· kernel_rfl)) | with_reducible apply jn_of
    refine r_ct0 (d_ref_CopyPending (p := p) (h1.mv hs.mv) (h2.mv hs.mv) hb1 hb2) (by kernel_rfl) hs.has ?_
    rintro v wa w3 X3 ⟨cr, cw, rfl, hc1, hc2, hc12⟩ hle hin hs3
    have ho3 := ho.since hs3
    have hlo : w0.heap.size ≤ wa.heap.size := Nat.le_trans hs.kp.size hle
    have hd1 := hc1.up hin hlo
    have hd2 := hc2.up hin hlo
    have p1 := hc1.sl.one
    have p2 := hc2.sl.one
    replace hs := hs.trans hs3
    obtain ⟨c1, m1, e1, rfl⟩ := hc1.sl.form
    obtain ⟨c2, m2, e2, rfl⟩ := hc2.sl.form
    clear ho
    repeat' first | ((with_reducible apply un_cell); (· rfl)) | with_reducible apply r_nil | ((with_reducible apply m_fld1); (· (first | assumption | exact RowIs.cells (by assumption))); (· kernel_rfl); (· rfl); intro _ _ _) | ((with_reducible apply m_ld1); (· (first | assumption | exact RowIs.cells (by assumption))); (· (first | exact mv0 | exact mv1 (by assumption) | exact mv2 (by assumption) (by assumption))); (· kernel_rfl); (· rfl)) | ((with_reducible apply r_bld); (· kernel_rfl)) | ((with_reducible apply m_app1a); (case own => first | assumption | exact Own.since (by assumption) (by assumption)); (case hs => assumption); (case h0 => first | exact fun _ h => h | exact hs0.has); (case he => kernel_rfl); (case hk => rfl); (case h1 => (repeat' first | with_reducible apply all_one_cons | with_reducible exact all_one_nil | assumption | rfl | exact Sl.one (by assumption) | exact Rws.one (by assumption) | exact Sl.one (Own.sl (by assumption)))); (case hb => (simp only [List.length_map, List.length_take, List.length_append, List.length_cons, List.length_nil]; omega)); (case hl => (simp only [List.length_map, List.length_take, List.length_append, List.length_cons, List.length_nil]; omega)); intro acc w X hs1 ho hc hat; replace hs := hs1)
    have hnew : PV.at w X w0.heap.size ⟨p, c1, m1, e1, c2, m2, e2⟩ := PV.at.chg (x := ⟨p, c1, m1, e1, c2, m2, e2⟩) ⟨hd1, hd2⟩ hc ho3 (by kernel_rfl)
    refine m_slTail (rows := zs.map OV.l) (hz1.mv hs.mv) (i := i) rfl (by simpa using hi) (by kernel_rfl) (by kernel_rfl) fun vt hvt => ?_
    refine m_appS ho hs (fun _ h => h) (by kernel_rfl) hvt (fun r hr u hu => ?_) (by simp; omega) (by simp; omega) fun v5 w5 X5 hs5 ho5 hc5 hat5 => ?_
    · obtain ⟨z, hz, rfl⟩ := List.mem_map.1 (List.mem_of_mem_drop hr)
      simp only [OV.l, List.mem_cons, List.not_mem_nil, or_false] at hu
      rcases hu with h | h | h | h | h | h | h | h | h <;> subst h <;> rfl
    have hnew5 := PV.at.chg hnew hc5 ho (by kernel_rfl)
    replace hs := hs5
    obtain ⟨y1, y2, y3, rfl⟩ := ho5.sl.form
    repeat' first | with_reducible apply r_nil | ((with_reducible apply m_fld1); (· (first | assumption | exact RowIs.cells (by assumption))); (· kernel_rfl); (· rfl); intro _ _ _)
    rename_i oo hoo hcc
    subst hoo
    clear hcc
    refine m_st1 (hb.mv hs.mv) (by kernel_rfl) (by simp) rfl rfl hs.has fun w6 X6 hc6 hrow => ?_
    have hsF : Since (out (fun k => k = sb) w0) w0 X6 w6 := (hs.less fun k hk => hk.1).chg hc6 fun k hk e => hk.2 e
    have hsb : sb < w0.heap.size := hb.lt
    have ho6 := ho5.chg hc6 fun g hg e => by have := (ho5.ge hg).1; omega
    have hn6 : PV.at w6 X6 w0.heap.size ⟨p, c1, m1, e1, c2, m2, e2⟩ := ⟨hnew5.r.chg hc6 fun g hg e => by have := (hnew5.r.ge hg).1; omega, hnew5.w.chg hc6 fun g hg e => by have := (hnew5.w.ge hg).1; omega⟩
    skip
    refine fin_ret hsF fun wb hkb => ⟨rfl, _, zs.take i ++ (⟨p, c1, m1, e1, c2, m2, e2⟩, n0) :: zs.drop i, ⟨⟨.inl rfl, (hrow.kp hkb).2⟩, ?_, fun z hz => ?_, fun k hk => ?_, fun g hg => ?_⟩, ?_⟩
    · have ho9 := ((ho6.kp hkb).low (Nat.zero_le w0.heap.size))
      replace ho9 := Own.to ho9 (Y := fun k => k = sb ∨ A k ∨ made w0 wb k) fun g hg => .inr (.inr ⟨((ho6.kp hkb).ge hg).1, ((ho6.kp hkb).ge hg).2⟩)
      simpa using ho9
    · have hAF : Mv A w0 (fun k => A k ∨ (made w0 wb k ∧ (Value.slice y1 y2 y3).ownBlock ≠ some k)) wb := fun k hk' hl => ⟨.inl hk', (hkb.block k (hsF.sub k ⟨hl, (hA k hk').2.2.1⟩)).trans (hsF.kp.block k ⟨hl, (hA k hk').2.2.1⟩)⟩
      have key : ∀ {e k : Nat} {v : Value} {rows : List (List Value)}, Own w6 X6 w0.heap.size e k v rows → decide (98 ≠ e) = true → Sl wb (fun k => A k ∨ (made w0 wb k ∧ (Value.slice y1 y2 y3).ownBlock ≠ some k)) k v rows := by
        intro e k v rows hq hne
        have hq9 := hq.kp hkb
        have ho9 := ho6.kp hkb
        exact Own.sl (lo := w0.heap.size) (e := e) ⟨hq9.1, hq9.2.1, fun g hg => .inr ⟨hq9.ge hg, fun hg' => Own.other ho9 hq9 hne hg' hg⟩⟩
      rcases List.mem_append.1 hz with hz | hz
      · exact (hzA z (List.mem_of_mem_take hz)).mv hAF
      · rcases List.mem_cons.1 hz with rfl | hz
        · exact ⟨key hn6.r rfl, key hn6.w rfl⟩
        · exact (hzA z (List.mem_of_mem_drop hz)).mv hAF
    · have hszb : w0.heap.size ≤ wb.heap.size := Nat.le_trans hsF.kp.size hkb.size
      rcases hk with hk | ⟨hk, hne⟩
      · have hlk := (hA k hk).2.1
        exact ⟨.inr (.inl hk), by omega, (hA k hk).2.2.1, fun e => by have := (ho6.ge e).1; omega⟩
      · exact ⟨.inr (.inr hk), hk.2, by have := hk.1; omega, hne⟩
    · have := (ho6.ge hg).1; omega
    · obtain ⟨q1, q2⟩ := split_at (l := oc zs) (i := i) (f := fun q => q.1.txn.less p.txn) (by simpa using hi) (fun j x hj hx => by
          rw [List.getElem?_map, Option.map_eq_some_iff] at hx
          obtain ⟨z, hz, rfl⟩ := hx
          exact hless j z hj hz) fun x hx => by
          rw [List.getElem?_map, Option.map_eq_some_iff] at hx
          obtain ⟨z, hz, rfl⟩ := hx
          exact hstop z hz
      unfold insO
      rw [q1, q2]; simp [List.map_take, List.map_drop]
end Go.Proofs.YtnphlhpdikmpiaaGreat
namespace Go.Proofs.YtnphlhpdikmpiaaGreat
open Go.Eng
set_option maxRecDepth 100000
set_option maxHeartbeats 1000000
set_option linter.unusedVariables false
set_option linter.unusedSimpArgs false
attribute [local irreducible] un jn chk fld ld1 ldA st1 ixS lnS lnT bld cvI cvF ixA bsS apS rdV rdW grdW eW eV eU eC eF gE condW fin pickN nilN binS vS lp0 lp1 lp2 lp3 lp4 lp5 lp6 lp7 nx0 nx1 nx2 nx3 nx4 nx5 nx6 nx7
def hasO (t : Txn) (l : OC) : Bool := l.any fun x => decide (x.1.txn = t)
theorem idxOf_any {α : Type} (p : α → Bool) : ∀ l : List α, (0 ≤ idxOf p l ↔ l.any p = true)
  | [] => by simp [idxOf]
  | z :: l => by
    have ih := idxOf_any p l
    have hg := idxOf_ge p l
    unfold idxOf
    cases hz : p z
    · simp only [Bool.false_eq_true, if_false, List.any_cons, hz, Bool.false_or]
      rw [← ih]
      split <;> omega
    · simp [hz]
theorem idxOf_has {t : Txn} {zs : List OV} : (0 ≤ idxOf (fun z : OV => decide (z.1.p.txn = t)) zs) = (hasO t (oc zs) = true) := by
  rw [idxOf_any]; simp [hasO, oc, List.any_map, Function.comp_def]
def refO (s : TailS) (l : OC) (n : Int) (r : Rec) : Int :=
  if n ≠ s.next ∨ n > 99999999 then 14
  else if r.err ≠ 0 ∨ r.kind > 7 ∨ (r.kind = 1 ∧ r.state.range.id ≠ s.id) then 4
  else if r.kind = 3 ∧ hasO r.txn l = true then 9
  else if r.state.pend.any (fun p => hasO p.txn l) then 9 else 0
theorem d_ref18_refuses {w : World} {X A : XS} {sb : Nat} {vo : Value} {s : TailS} {zs : List OV} {n : Int} {r : Rec} {vr vw vp vq vh vd : Value} (h : RTl w X A sb vo s zs) (ha : r.at w X vr vw vp vq vh vd) (hf : r.fit) :
    Ct Tryz.prog 30 #[ptr sb 0, I n, r.v vr vw vp vq vh vd] w X nX fun v _ _ => v = I (refO s (oc zs) n r) := by
  intro w0 hk
  replace h := h.mv hk.mvo hk.size
  replace ha := ha.mv hk.mvo
  have hbox := h.box
  have h6 := ha.2.2.2.2.2
  have hl6 := h6.len
  have hgx := idxOf_ge (fun z : OV => decide (z.1.p.txn = r.txn)) zs
  have hax := idxOf_has (t := r.txn) (zs := zs)
  apply ok_raceref18_Tail_refuses; unfold vc_raceref18_Tail_refuses
  have hs := Since.init w0
  repeat' first | with_reducible (first | apply condW_T | apply condW_F | apply un_selT | apply un_selF | apply un_selTF | apply un_selFT | apply un_selU | apply grdV_onT | apply grdV_onF | apply grdW_onT | apply grdW_onF | apply grdW_offT | apply grdW_offF | apply grdW_U | apply rdW_pickT | apply rdW_pickF | apply gE_T | apply gE_FT | apply r_nil) | (with_reducible apply r_eql <;> intro _) | (with_reducible apply r_neq <;> intro _) | (with_reducible apply r_gtr <;> intro _) | (with_reducible apply r_geq <;> intro _) | ((with_reducible apply m_fld1); (· (first | assumption | exact RowIs.cells (by assumption))); (· kernel_rfl); (· rfl); intro _ _ _) | ((with_reducible apply m_ld1); (· (first | assumption | exact RowIs.cells (by assumption))); (· (first | exact mv0 | exact mv1 (by assumption) | exact mv2 (by assumption) (by assumption))); (· kernel_rfl); (· rfl)) | with_reducible apply jn_of | ((first | (with_reducible refine fin_ret0 hs ?_) | (with_reducible refine fin_ret0 (hs0.trans hs) ?_)); intro wa hk; (unfold refO; simp_all <;> omega)) | (refine r_ct0V ((d_ref11_May (r := r))  (ha.mv hs.mv) hf) (by kernel_rfl) hs.has ?_; intro w X hs1; replace hs := hs.trans hs1) | (refine r_ct0V ((d_ref18_at (t := r.txn))  (h.mv hs.mv hs.kp.size)) (by kernel_rfl) hs.has ?_; intro w X hs1; replace hs := hs.trans hs1)
  all_goals try (exfalso; omega)
  all_goals
    have hpre : refO s (oc zs) n r = if r.state.pend.any (fun p => hasO p.txn (oc zs)) then 9 else 0 := by
      unfold refO
      rw [if_neg (by omega), if_neg (by omega), if_neg (by rintro ⟨q1, q2⟩; rw [← hax] at q2; omega)]
    rw [hpre]
    refine lp1_of (fun n a w X => ∃ i : Nat, a = I (i : Nat) ∧ n = (r.state.pend).length - i ∧ i ≤ (r.state.pend).length ∧ Since (old w0) w0 X w ∧ (r.state.pend.any (fun p => hasO p.txn (oc zs)) = (r.state.pend.drop i).any (fun p => hasO p.txn (oc zs)))) (r.state.pend).length ⟨0, rfl, rfl, Nat.zero_le _, hs, by simp⟩ ?_
    rintro n a w X ⟨i, rfl, rfl, hi, hs, hw⟩
    rcases at_or (r.state.pend) i with ⟨hlt, x, hx, hd⟩ | ⟨hge, hd⟩
    · rw [hd, List.any_cons] at hw
      have hax9 := idxOf_has (t := x.txn) (zs := zs)
      repeat' first | ((with_reducible refine r_lssT ?_ ?_); (· omega)) | with_reducible (first | apply condW_T | apply condW_F) | (with_reducible apply r_geq <;> intro _) | ((with_reducible apply m_fld); (· (first | assumption | exact RowIs.cells (by assumption))); (· kernel_rfl); (· rfl); (· (simp only [Value.cells, nq1, nq2, nq3, nq4, nq5, nq6, setL, nq7, nq8, nq9, nq0, Nat.reduceAdd, Nat.zero_add]; try rfl)); intro _ _ _) | ((with_reducible apply m_ldA); (· (first | assumption | exact RowIs.cells (by assumption))); (· (first | exact mv0 | exact mv1 (by assumption) | exact mv2 (by assumption) (by assumption))); (· kernel_rfl); (· rfl)) | ((with_reducible apply m_lnR); (· assumption); (· kernel_rfl)) | ((with_reducible apply m_ixP); (· assumption); (try (case hz => rfl)); (case hr => first | assumption | exact List.getElem?_eq_getElem (by omega)); (try (case hz => omega)); (case ht => kernel_rfl); (case hs => kernel_rfl); intros) | ((with_reducible apply r_add); (· omega); (· omega)) | ((first | (with_reducible refine fin_ret0 hs ?_) | (with_reducible refine fin_ret0 (hs0.trans hs) ?_)); intro wa hk; (rw [hw, if_pos (by rw [Bool.or_eq_true]; left; rw [← hax9]; omega)])) | (refine r_ct0V ((d_ref18_at (t := x.txn))  (h.mv hs.mv hs.kp.size)) (by kernel_rfl) hs.has ?_; intro w X hs1; replace hs := hs.trans hs1) | ((with_reducible refine nx1_of ((r.state.pend).length - (i + 1)) ?_ ?_); (· omega); exact ⟨i + 1, by simp, rfl, by omega, hs, by rw [hw]; have : hasO x.txn (oc zs) = false := (by rw [← Bool.not_eq_true, ← hax9]; omega); rw [this]; rfl⟩)
    · rw [hd] at hw
      repeat' first | ((with_reducible refine r_lssF ?_ ?_); (· omega)) | with_reducible apply condW_F | ((with_reducible apply m_lnR); (· assumption); (· kernel_rfl)) | ((first | (with_reducible refine fin_ret0 hs ?_) | (with_reducible refine fin_ret0 (hs0.trans hs) ?_)); intro wa hk; (rw [hw]; rfl))
def idxO (t : Txn) (l : OC) : Int := idxOf (fun x => decide (x.1.txn = t)) l
def decO (r : Rec) (l : OC) : OC := if idxO r.txn l < 0 then l else l.eraseIdx (idxO r.txn l).toNat
def decT (s : TailS) (r : Rec) (l : OC) : ToldS := match l.find? (fun x => decide (x.1.txn = r.txn)) with
  | some x => if r.commit = true ∧ 0 < x.1.writes.length then ⟨1, s.id, x.2, r.txn, r.stamp, x.1.writes, 0, .zero⟩ else .none
  | none => .none
theorem idxO_eq (t : Txn) : ∀ zs : List OV, idxO t (oc zs) = idxOf (fun z : OV => decide (z.1.p.txn = t)) zs
  | [] => rfl
  | z :: zs => by
    have ih := idxO_eq t zs
    unfold idxO at ih ⊢
    simp only [oc, List.map_cons, idxOf] at ih ⊢
    rw [ih]
theorem find_oc (t : Txn) (zs : List OV) : (oc zs).find? (fun x => decide (x.1.txn = t)) = (zs.find? (fun z => decide (z.1.p.txn = t))).map fun z => (z.1.p, z.2) := by
  simp [oc, List.find?_map, Function.comp_def]
theorem erase_at {α : Type} {l : List α} {i k : Nat} {x : α} (hx : l[i]? = some x) : (l.take (i + 1)).eraseIdx k = if i = k then (l.take i).eraseIdx k else (l.take i).eraseIdx k ++ [x] := by
  have hi : i < l.length := (List.getElem?_eq_some_iff.1 hx).1
  rw [List.take_add_one, hx]
  have hl : (l.take i).length = i := by rw [List.length_take]; omega
  split
  · rename_i h; subst h
    rw [List.eraseIdx_append_of_length_le (by omega), hl, Nat.sub_self, List.eraseIdx_of_length_le (l := l.take i) (by omega)]
    simp
  · by_cases h : i < k
    · rw [List.eraseIdx_of_length_le (by simp; omega), List.eraseIdx_of_length_le (by simp; omega)]; rfl
    · rw [List.eraseIdx_append_of_lt_length (by omega)]; rfl
theorem RTl.to {w : World} {X Y A : XS} {sb : Nat} {vo : Value} {s : TailS} {zs : List OV} (h : RTl w X A sb vo s zs) (h1 : Y sb) (h2 : ∀ k, A k → Y k) (h3 : ∀ g, vo.ownBlock = some g → Y g) : RTl w Y A sb vo s zs :=
  ⟨⟨h1, h.box.2⟩, Own.to h.ow h3, h.zin, fun k hk => ⟨h2 k hk, (h.sub k hk).2⟩, h.sep⟩
theorem RTl.kp {w w' : World} {X A : XS} {sb : Nat} {vo : Value} {s : TailS} {zs : List OV} (h : RTl w X A sb vo s zs) (hk : Kp X w w') : RTl w' X A sb vo s zs :=
  h.mv (fun k hx hl => ⟨hx, hk.block k hx⟩) hk.size
theorem d_ref18_decides {w : World} {X A : XS} {sb : Nat} {vo : Value} {s : TailS} {zs : List OV} {r : Rec} {vr vw vp vq vh vd : Value} (h : RTl w X A sb vo s zs) (ha : r.at w X vr vw vp vq vh vd) (hpl : zs.length ≤ 2 ^ 40) :
    Ct Tryz.prog 33 #[ptr sb 0, r.v vr vw vp vq vh vd] w X (fun k => k = sb) fun v wa w' => ∃ vw' vo' zs', v = (decT s r (oc zs)).v vw' ∧ Sl w' (fun k => A k ∨ made wa w' k) 4 vw' ((decT s r (oc zs)).writes.map KV.l) ∧
      RTl w' (fun k => k = sb ∨ A k ∨ vo.ownBlock = some k ∨ made wa w' k) A sb vo' s zs' ∧ oc zs' = decO r (oc zs) := by
  intro w0 hk
  replace h := h.mv hk.mvo hk.size
  replace ha := ha.mv hk.mvo
  have hb := h.box
  have hz1 := h.ow.sl
  have hzA := h.zin
  have hA := h.sub
  have hln := hz1.len'
  have hgx := idxOf_ge (fun z : OV => decide (z.1.p.txn = r.txn)) zs
  apply ok_raceref18_Tail_decides; unfold vc_raceref18_Tail_decides
  have hs := Since.init w0
  repeat' first | with_reducible (first | apply condW_T | apply condW_F) | ((with_reducible apply m_sub); (· (simp only [Value.cells, nq1, nq2, nq3, nq4, nq5, nq6, setL, nq7, nq8, nq9, nq0, Nat.reduceAdd, Nat.zero_add]; try rfl))) | with_reducible (first | apply un_box | apply r_nil) | (with_reducible apply r_lss <;> intro _) | ((with_reducible apply m_fld1); (· (first | assumption | exact RowIs.cells (by assumption))); (· kernel_rfl); (· rfl); intro _ _ _) | ((with_reducible apply m_ld1); (· (first | assumption | exact RowIs.cells (by assumption))); (· (first | exact mv0 | exact mv1 (by assumption) | exact mv2 (by assumption) (by assumption))); (· kernel_rfl); (· rfl)) | ((with_reducible apply r_bld); (· kernel_rfl)) | ((with_reducible apply m_chkc); (case h => (repeat' first | with_reducible apply all_one_cons | with_reducible exact all_one_nil | assumption | rfl | exact Sl.one (by assumption) | exact Rws.one (by assumption) | exact Sl.one (Own.sl (by assumption))))) | ((with_reducible apply chk_T); (· first | rfl | assumption | exact Sl.one (by assumption) | exact Rws.one (by assumption) | exact Sl.one (Own.sl (by assumption)))) | (refine r_ct0V ((d_ref18_at (t := r.txn))  (h.mv hs.mv hs.kp.size)) (by kernel_rfl) hs.has ?_; intro w X hs1; replace hs := hs.trans hs1)
  · refine fin_ret (hs.less fun k hk => hk.1) fun wb hkb => ⟨.slice none 0 0, vo, zs, ?_, ?_, ((h.mv hs.mv hs.kp.size).kp hkb).to (.inl rfl) (fun k hk => .inr (.inl hk)) (fun g hg => .inr (.inr (.inl hg))), ?_⟩
    · have hno : (oc zs).find? (fun x => decide (x.1.txn = r.txn)) = none := by
        rw [List.find?_eq_none]
        intro x hx hq
        have := idxOf_has (t := r.txn) (zs := zs)
        have h2 : hasO r.txn (oc zs) = true := List.any_eq_true.2 ⟨x, hx, hq⟩
        rw [← this] at h2; omega
      unfold decT; rw [hno]; rfl
    · have hno : (oc zs).find? (fun x => decide (x.1.txn = r.txn)) = none := by
        rw [List.find?_eq_none]
        intro x hx hq
        have := idxOf_has (t := r.txn) (zs := zs)
        have h2 : hasO r.txn (oc zs) = true := List.any_eq_true.2 ⟨x, hx, hq⟩
        rw [← this] at h2; omega
      unfold decT; rw [hno]; exact Sl.nil _ _ _
    · unfold decO; rw [idxO_eq, if_pos (by omega)]
  · have hne : ¬ idxOf (fun z : OV => decide (z.1.p.txn = r.txn)) zs = -1 := by omega
    obtain ⟨k, x, hk1, hk2, hk3⟩ := idxOf_find hne
    have hkl : k < zs.length := (List.getElem?_eq_some_iff.1 hk2).1
    have hxo := hzA x (List.mem_of_getElem? hk2)
    have o1 := hxo.1.one
    have o2 := hxo.2.one
    rw [hk1]
    repeat' first | with_reducible apply un_box | ((with_reducible apply m_ldA); (· (first | assumption | exact RowIs.cells (by assumption))); (· (first | exact mv0 | exact mv1 (by assumption) | exact mv2 (by assumption) (by assumption))); (· kernel_rfl); (· rfl)) | ((with_reducible apply m_ixS); (· (first | assumption | exact Own.sl (by assumption))); (try (case hz => rfl)); (case hr => first | assumption | exact List.getElem?_eq_getElem (by omega)); (try (case hz => omega)); (case ht => kernel_rfl); (case hs => kernel_rfl); intro _ _ _) | ((with_reducible apply m_chkc); (case h => (repeat' first | with_reducible apply all_one_cons | with_reducible exact all_one_nil | assumption | rfl | exact Sl.one (by assumption) | exact Rws.one (by assumption) | exact Sl.one (Own.sl (by assumption))))) | ((with_reducible apply chk_T); (· first | rfl | assumption | exact Sl.one (by assumption) | exact Rws.one (by assumption) | exact Sl.one (Own.sl (by assumption))))
    refine lp2_of (fun n a b w X => ∃ (i : Nat), a = I i ∧ n = zs.length - i ∧ i ≤ zs.length ∧ Since (old w0) w0 X w ∧ Own w X w0.heap.size 98 9 b (((zs.take i).eraseIdx k).map OV.l)) zs.length
      ⟨0, rfl, rfl, Nat.zero_le _, hs, by simpa using Own.nil _ _ _ _ _⟩ ?_
    clear hs
    rintro n a b w X ⟨i, rfl, rfl, hi, hs, ho⟩
    rcases at_or (zs) i with ⟨hlt, z, hz, hd⟩ | ⟨hge, hd⟩
    · have hzo := hzA z (List.mem_of_getElem? hz)
      have z1 := hzo.1.one
      have z2 := hzo.2.one
      have hlen : ((zs.take i).eraseIdx k).length ≤ i := Nat.le_trans (List.length_eraseIdx_le _ _) (by simp; omega)
      repeat' first | ((with_reducible refine r_lssT ?_ ?_); (· omega)) | with_reducible (first | apply condW_T | apply condW_F | apply r_nil) | (with_reducible apply r_neq <;> intro _) | ((with_reducible apply m_fld1); (· (first | assumption | exact RowIs.cells (by assumption))); (· kernel_rfl); (· rfl); intro _ _ _) | ((with_reducible apply m_ld1); (· (first | assumption | exact RowIs.cells (by assumption))); (· (first | exact mv0 | exact mv1 (by assumption) | exact mv2 (by assumption) (by assumption))); (· kernel_rfl); (· rfl)) | ((with_reducible apply m_ldA); (· (first | assumption | exact RowIs.cells (by assumption))); (· (first | exact mv0 | exact mv1 (by assumption) | exact mv2 (by assumption) (by assumption))); (· kernel_rfl); (· rfl)) | ((with_reducible apply m_lnS); (· (first | assumption | exact Own.sl (by assumption))); (· kernel_rfl)) | ((with_reducible apply m_ixS); (· (first | assumption | exact Own.sl (by assumption))); (try (case hz => rfl)); (case hr => first | assumption | exact List.getElem?_eq_getElem (by omega)); (try (case hz => omega)); (case ht => kernel_rfl); (case hs => kernel_rfl); intro _ _ _) | ((with_reducible apply r_add); (· omega); (· omega)) | ((with_reducible apply m_app1a); (case own => first | assumption | exact Own.since (by assumption) (by assumption)); (case hs => assumption); (case h0 => first | exact fun _ h => h | exact hs0.has); (case he => kernel_rfl); (case hk => rfl); (case h1 => (repeat' first | with_reducible apply all_one_cons | with_reducible exact all_one_nil | assumption | rfl | exact Sl.one (by assumption) | exact Rws.one (by assumption) | exact Sl.one (Own.sl (by assumption)))); (case hb => (simp only [List.length_map, List.length_take, List.length_append, List.length_cons, List.length_nil]; omega)); (case hl => (simp only [List.length_map, List.length_take, List.length_append, List.length_cons, List.length_nil]; omega)); intro acc w X hs1 ho hc hat; replace hs := hs1) | with_reducible apply jn_of | ((with_reducible refine nx2_of (zs.length - (i + 1)) ?_ ?_); (· omega); exact ⟨i + 1, by simp, rfl, by omega, hs, by rw [erase_at hz]; first | (rw [if_pos (by omega)]; exact ho) | (rw [if_neg (by omega)]; simpa using ho)⟩)
    · rw [List.take_of_length_le hge] at ho
      obtain ⟨y1, y2, y3, rfl⟩ := ho.sl.form
      repeat' first | ((with_reducible refine r_lssF ?_ ?_); (· omega)) | with_reducible (first | apply condW_F | apply r_nil) | ((with_reducible apply m_fld1); (· (first | assumption | exact RowIs.cells (by assumption))); (· kernel_rfl); (· rfl); intro _ _ _) | ((with_reducible apply m_ld1); (· (first | assumption | exact RowIs.cells (by assumption))); (· (first | exact mv0 | exact mv1 (by assumption) | exact mv2 (by assumption) (by assumption))); (· kernel_rfl); (· rfl)) | ((with_reducible apply m_lnS); (· (first | assumption | exact Own.sl (by assumption))); (· kernel_rfl))
      rename_i oo hoo hcc
      subst hoo
      clear hcc
      refine m_st1 (hb.mv hs.mv) (by kernel_rfl) (by simp) rfl rfl hs.has fun w6 X6 hc6 hrow => ?_
      have hsF : Since (out (fun k => k = sb) w0) w0 X6 w6 := (hs.less fun k hk => hk.1).chg hc6 fun k hk e => hk.2 e
      have hsb : sb < w0.heap.size := hb.lt
      have ho6 := ho.chg hc6 fun g hg e => by have := (ho.ge hg).1; omega
      replace hrow : RowIs w6 X6 sb (s.l (.slice y1 y2 y3)) 37 := hrow
      have hxw := hxo.2
      have hxl : 0 < x.1.p.writes.length ∨ x.1.p.writes.length = 0 := by omega
      have hfd : (oc zs).find? (fun x => decide (x.1.txn = r.txn)) = some (x.1.p, x.2) := by rw [find_oc, hk3]; rfl
      have hdo : decO r (oc zs) = oc (zs.eraseIdx k) := by
        unfold decO
        rw [idxO_eq, hk1, if_neg (by omega)]
        simp [oc, List.eraseIdx_eq_take_drop_succ]
      have hfin : ∀ wb, Kp X6 w6 wb → RTl wb (fun k => k = sb ∨ A k ∨ vo.ownBlock = some k ∨ made w0 wb k) A sb (.slice y1 y2 y3) s (zs.eraseIdx k) := fun wb hkb => by
        have hszb : w0.heap.size ≤ wb.heap.size := Nat.le_trans hsF.kp.size hkb.size
        refine ⟨⟨.inl rfl, (hrow.kp hkb).2⟩, ?_, fun z hz => ?_, fun k hk => ?_, fun g hg => ?_⟩
        · exact Own.to ((ho6.kp hkb).low (Nat.zero_le w0.heap.size)) fun g hg => .inr (.inr (.inr ⟨((ho6.kp hkb).ge hg).1, ((ho6.kp hkb).ge hg).2⟩))
        · exact (hzA z (List.mem_of_mem_eraseIdx hz)).mv fun k hk' hl => ⟨hk', (hkb.block k (hsF.sub k ⟨hl, (hA k hk').2.2.1⟩)).trans (hsF.kp.block k ⟨hl, (hA k hk').2.2.1⟩)⟩
        · have hlk := (hA k hk).2.1
          exact ⟨.inr (.inl hk), by omega, (hA k hk).2.2.1, fun e => by have := (ho6.ge e).1; omega⟩
        · have := (ho6.ge hg).1; omega
      have hdT : decT s r (oc zs) = if r.commit = true ∧ 0 < x.1.p.writes.length then ⟨1, s.id, x.2, r.txn, r.stamp, x.1.p.writes, 0, .zero⟩ else .none := by unfold decT; rw [hfd]
      cases hcm : r.commit
      · have hd0 : decT s r (oc zs) = .none := by rw [hdT, if_neg (fun q => by have := q.1; rw [hcm] at this; cases this)]
        rw [hd0]
        repeat' first | with_reducible apply condW_T | ((with_reducible apply un_cell); (· rfl)) | ((with_reducible apply m_sub); (· (simp only [Value.cells, nq1, nq2, nq3, nq4, nq5, nq6, setL, nq7, nq8, nq9, nq0, Nat.reduceAdd, Nat.zero_add]; try rfl))) | with_reducible (first | apply un_box | apply un_selTF | apply grdW_offF | apply rdW_pickT | apply r_notF) | ((with_reducible apply r_bld); (· kernel_rfl)) | ((with_reducible apply m_chkc); (case h => (repeat' first | with_reducible apply all_one_cons | with_reducible exact all_one_nil | assumption | rfl | exact Sl.one (by assumption) | exact Rws.one (by assumption) | exact Sl.one (Own.sl (by assumption))))) | ((with_reducible apply chk_T); (· first | rfl | assumption | exact Sl.one (by assumption) | exact Rws.one (by assumption) | exact Sl.one (Own.sl (by assumption))))
        exact fin_ret hsF fun wb hkb => ⟨.slice none 0 0, _, _, rfl, Sl.nil _ _ _, hfin wb hkb, hdo.symm⟩
      · repeat' first | with_reducible (first | apply condW_T | apply condW_F) | ((with_reducible apply un_cell); (· rfl)) | ((with_reducible apply m_sub); (· (simp only [Value.cells, nq1, nq2, nq3, nq4, nq5, nq6, setL, nq7, nq8, nq9, nq0, Nat.reduceAdd, Nat.zero_add]; try rfl))) | with_reducible (first | apply un_box | apply un_selF | apply grdV_onF | apply rdW_pickF | apply r_notT | apply r_nil) | (with_reducible apply r_eql <;> intro _) | ((with_reducible apply m_fld1); (· (first | assumption | exact RowIs.cells (by assumption))); (· kernel_rfl); (· rfl); intro _ _ _) | ((with_reducible apply m_ld1); (· (first | assumption | exact RowIs.cells (by assumption))); (· (first | exact mv0 | exact mv1 (by assumption) | exact mv2 (by assumption) (by assumption))); (· kernel_rfl); (· rfl)) | ((with_reducible apply m_lnS); (· (first | assumption | exact Own.sl (by assumption))); (· kernel_rfl)) | ((with_reducible apply r_bld); (· kernel_rfl)) | ((with_reducible apply m_chkc); (case h => (repeat' first | with_reducible apply all_one_cons | with_reducible exact all_one_nil | assumption | rfl | exact Sl.one (by assumption) | exact Rws.one (by assumption) | exact Sl.one (Own.sl (by assumption))))) | ((with_reducible apply chk_T); (· first | rfl | assumption | exact Sl.one (by assumption) | exact Rws.one (by assumption) | exact Sl.one (Own.sl (by assumption))))
        · have hd0 : decT s r (oc zs) = .none := by rw [hdT, if_neg (fun q => by have := q.2; omega)]
          rw [hd0]
          exact fin_ret hsF fun wb hkb => ⟨.slice none 0 0, _, _, rfl, Sl.nil _ _ _, hfin wb hkb, hdo.symm⟩
        · have hd0 : decT s r (oc zs) = ⟨1, s.id, x.2, r.txn, r.stamp, x.1.p.writes, 0, .zero⟩ := by rw [hdT, if_pos ⟨hcm, by omega⟩]
          rw [hd0]
          exact fin_ret hsF fun wb hkb => ⟨_, _, _, rfl, hxw.mv fun k hk' hl => ⟨.inl hk', (hkb.block k (hsF.sub k ⟨hl, (hA k hk').2.2.1⟩)).trans (hsF.kp.block k ⟨hl, (hA k hk').2.2.1⟩)⟩, hfin wb hkb, hdo.symm⟩
end Go.Proofs.YtnphlhpdikmpiaaGreat
namespace Go.Proofs.YtnphlhpdikmpiaaGreat
open Go.Eng
set_option maxRecDepth 100000
set_option maxHeartbeats 1000000
set_option linter.unusedVariables false
set_option linter.unusedSimpArgs false
attribute [local irreducible] un jn chk fld ld1 ldA st1 ixS lnS lnT bld cvI cvF ixA bsS apS rdV rdW grdW eW eV eU eC eF gE condW fin pickN nilN binS vS lp0 lp1 lp2 lp3 lp4 lp5 lp6 lp7 nx0 nx1 nx2 nx3 nx4 nx5 nx6 nx7
theorem d_ref15_Halve {w : World} {X : XS} {a : Value} {xs : List KV} {pt : Nat} (ha : Sl w X 4 a (xs.map KV.l)) (hb : xs.length ≤ 2 ^ 40) (hkz : ∀ x ∈ xs, x.key.size ≤ 2 ^ 40) :
    Ct Tryz.prog 35 #[a, .float .f64 pt] w X nX fun v wa w' => ∃ va vb, v = .tuple #[va, vb] ∧
      Own w' (made wa w') wa.heap.size 66 4 va ((xs.filter fun x => below pt x.key).map KV.l) ∧ Own w' (made wa w') wa.heap.size 66 4 vb ((xs.filter fun x => !below pt x.key).map KV.l) := by
  intro w0 hk
  replace ha := ha.mv hk.mvo
  have hla := ha.len'
  apply ok_raceref15_Halve; unfold vc_raceref15_Halve
  have hs := Since.init w0
  skip
  refine lp3_of (fun n a b c w X => ∃ i : Nat, a = I (i : Nat) ∧ n = xs.length - i ∧ i ≤ xs.length ∧ Since (old w0) w0 X w ∧
    Own w X w0.heap.size 66 4 b (((xs.take i).filter fun x => !below pt x.key).map KV.l) ∧ Own w X w0.heap.size 66 4 c (((xs.take i).filter fun x => below pt x.key).map KV.l) ∧ sepB c.ownBlock b.ownBlock)
    xs.length ⟨0, rfl, rfl, Nat.zero_le _, hs, by simpa using Own.nil _ _ _ _ _, by simpa using Own.nil _ _ _ _ _, by intro g hg; cases hg⟩ ?_
  rintro n a b c w X ⟨i, rfl, rfl, hi, hs, hob, hoc, hsep⟩
  rcases at_or (xs) i with ⟨hlt, x, hx, hd⟩ | ⟨hge, hd⟩
  · have hkx := hkz x (List.mem_of_getElem? hx)
    have hlb : ((xs.take i).filter fun x => !below pt x.key).length ≤ i := Nat.le_trans (List.length_filter_le _ _) (by simp; omega)
    have hlc : ((xs.take i).filter fun x => below pt x.key).length ≤ i := Nat.le_trans (List.length_filter_le _ _) (by simp; omega)
    repeat' first | ((with_reducible refine r_lssT ?_ ?_); (· omega)) | with_reducible (first | apply condW_T | apply condW_F) | ((with_reducible apply m_fld1); (· (first | assumption | exact RowIs.cells (by assumption))); (· kernel_rfl); (· rfl); intro _ _ _) | ((with_reducible apply m_ld1); (· (first | assumption | exact RowIs.cells (by assumption))); (· (first | exact mv0 | exact mv1 (by assumption) | exact mv2 (by assumption) (by assumption))); (· kernel_rfl); (· rfl)) | ((with_reducible apply m_ldA); (· (first | assumption | exact RowIs.cells (by assumption))); (· (first | exact mv0 | exact mv1 (by assumption) | exact mv2 (by assumption) (by assumption))); (· kernel_rfl); (· rfl)) | ((with_reducible apply m_lnS); (· (first | assumption | exact Own.sl (by assumption))); (· kernel_rfl)) | ((with_reducible apply m_ixS); (· (first | assumption | exact Own.sl (by assumption))); (try (case hz => rfl)); (case hr => first | assumption | exact List.getElem?_eq_getElem (by omega)); (try (case hz => omega)); (case ht => kernel_rfl); (case hs => kernel_rfl); intro _ _ _) | ((with_reducible apply r_add); (· omega); (· omega)) | ((with_reducible apply m_app1a); (case own => first | assumption | exact Own.since (by assumption) (by assumption)); (case hs => assumption); (case h0 => first | exact fun _ h => h | exact hs0.has); (case he => kernel_rfl); (case hk => rfl); (case h1 => (repeat' first | with_reducible apply all_one_cons | with_reducible exact all_one_nil | assumption | rfl | exact Sl.one (by assumption) | exact Rws.one (by assumption) | exact Sl.one (Own.sl (by assumption)))); (case hb => (simp only [List.length_map, List.length_take, List.length_append, List.length_cons, List.length_nil]; omega)); (case hl => (simp only [List.length_map, List.length_take, List.length_append, List.length_cons, List.length_nil]; omega)); intro acc w X hs1 ho hc hat; replace hs := hs1) | with_reducible apply jn_of | ((with_reducible refine r_pureB (c_ref15_below _ _ (by first | assumption | omega)) ?_ hs.has ?_ ?_); (· kernel_rfl); all_goals (intro _ w X hs1; replace hs := hs.trans hs1))
    · have hbl : below pt x.key = true := ‹flt (placeOf x.key) pt = true›
      have hob1 := hob.since (by assumption)
      have hob2 := hob1.chg hc (fun g hg hgc => hsep g hgc hg)
      refine nx3_of (xs.length - (i + 1)) (by omega) ⟨i + 1, by simp, rfl, by omega, hs, ?_, ?_, ?_⟩
      · rw [List.take_add_one, hx]; simpa [List.filter_append, hbl] using hob2
      · rw [List.take_add_one, hx]; simpa [List.filter_append, hbl] using ho
      · rcases hat with e | ⟨g, e, hge⟩
        · rw [e]; exact hsep
        · intro g' hg' hb'
          rw [e] at hg'; cases hg'
          have := (hob1.ge hb').2; omega
    · have hbl : below pt x.key = false := ‹flt (placeOf x.key) pt = false›
      have hoc1 := hoc.since (by assumption)
      have hoc2 := hoc1.chg hc (fun g hg hgc => hsep g hg hgc)
      refine nx3_of (xs.length - (i + 1)) (by omega) ⟨i + 1, by simp, rfl, by omega, hs, ?_, ?_, ?_⟩
      · rw [List.take_add_one, hx]; simpa [List.filter_append, hbl] using ho
      · rw [List.take_add_one, hx]; simpa [List.filter_append, hbl] using hoc2
      · rcases hat with e | ⟨g, e, hge⟩
        · rw [e]; exact hsep
        · intro g' hg' hb'
          rw [e] at hb'; cases hb'
          have := (hoc1.ge hg').2; omega
  · rw [List.take_of_length_le hge] at hob hoc
    repeat' first | ((with_reducible refine r_lssF ?_ ?_); (· omega)) | with_reducible apply condW_F | ((with_reducible apply m_lnS); (· (first | assumption | exact Own.sl (by assumption))); (· kernel_rfl)) | ((first | (with_reducible refine fin_ret0 hs ?_) | (with_reducible refine fin_ret0 (hs0.trans hs) ?_)); intro wa hk; (exact ⟨_, _, rfl, (hoc.kp hk).tight, (hob.kp hk).tight⟩))
theorem d_ref15_Texts {w : World} {X : XS} {a : Value} {xs : List BA} {pt : Nat} (ha : Sl w X 1 a (xs.map S1)) (hb : xs.length ≤ 2 ^ 40) (hkz : ∀ x ∈ xs, x.size ≤ 2 ^ 40) :
    Ct Tryz.prog 34 #[a, .float .f64 pt] w X nX fun v wa w' => ∃ va vb, v = .tuple #[va, vb] ∧
      Own w' (made wa w') wa.heap.size 9 1 va ((xs.filter fun x => below pt x).map S1) ∧ Own w' (made wa w') wa.heap.size 9 1 vb ((xs.filter fun x => !below pt x).map S1) := by
  intro w0 hk
  replace ha := ha.mv hk.mvo
  have hla := ha.len'
  apply ok_raceref15_Texts; unfold vc_raceref15_Texts
  have hs := Since.init w0
  skip
  refine lp3_of (fun n a b c w X => ∃ i : Nat, a = I (i : Nat) ∧ n = xs.length - i ∧ i ≤ xs.length ∧ Since (old w0) w0 X w ∧
    Own w X w0.heap.size 9 1 b (((xs.take i).filter fun x => !below pt x).map S1) ∧ Own w X w0.heap.size 9 1 c (((xs.take i).filter fun x => below pt x).map S1) ∧ sepB c.ownBlock b.ownBlock)
    xs.length ⟨0, rfl, rfl, Nat.zero_le _, hs, by simpa using Own.nil _ _ _ _ _, by simpa using Own.nil _ _ _ _ _, by intro g hg; cases hg⟩ ?_
  rintro n a b c w X ⟨i, rfl, rfl, hi, hs, hob, hoc, hsep⟩
  rcases at_or (xs) i with ⟨hlt, x, hx, hd⟩ | ⟨hge, hd⟩
  · have hkx := hkz x (List.mem_of_getElem? hx)
    have hlb : ((xs.take i).filter fun x => !below pt x).length ≤ i := Nat.le_trans (List.length_filter_le _ _) (by simp; omega)
    have hlc : ((xs.take i).filter fun x => below pt x).length ≤ i := Nat.le_trans (List.length_filter_le _ _) (by simp; omega)
    repeat' first | ((with_reducible refine r_lssT ?_ ?_); (· omega)) | with_reducible (first | apply condW_T | apply condW_F) | ((with_reducible apply m_ld1); (· (first | assumption | exact RowIs.cells (by assumption))); (· (first | exact mv0 | exact mv1 (by assumption) | exact mv2 (by assumption) (by assumption))); (· kernel_rfl); (· rfl)) | ((with_reducible apply m_lnS); (· (first | assumption | exact Own.sl (by assumption))); (· kernel_rfl)) | ((with_reducible apply m_ixS); (· (first | assumption | exact Own.sl (by assumption))); (try (case hz => rfl)); (case hr => first | assumption | exact List.getElem?_eq_getElem (by omega)); (try (case hz => omega)); (case ht => kernel_rfl); (case hs => kernel_rfl); intro _ _ _) | ((with_reducible apply r_add); (· omega); (· omega)) | ((with_reducible apply m_app1s); (case own => first | assumption | exact Own.since (by assumption) (by assumption)); (case hs => assumption); (case h0 => first | exact fun _ h => h | exact hs0.has); (case he => kernel_rfl); (case hk => rfl); (case ho => first | rfl | assumption); (case hb => (simp only [List.length_map, List.length_take, List.length_append, List.length_cons, List.length_nil]; omega)); (case hl => (simp only [List.length_map, List.length_take, List.length_append, List.length_cons, List.length_nil]; omega)); intro acc w X hs1 ho hc hat; replace hs := hs1) | with_reducible apply jn_of | ((with_reducible refine r_pureB (c_ref15_below _ _ (by first | assumption | omega)) ?_ hs.has ?_ ?_); (· kernel_rfl); all_goals (intro _ w X hs1; replace hs := hs.trans hs1))
    · have hbl : below pt x = true := ‹flt (placeOf x) pt = true›
      have hob1 := hob.since (by assumption)
      have hob2 := hob1.chg hc (fun g hg hgc => hsep g hgc hg)
      refine nx3_of (xs.length - (i + 1)) (by omega) ⟨i + 1, by simp, rfl, by omega, hs, ?_, ?_, ?_⟩
      · rw [List.take_add_one, hx]; simpa [List.filter_append, hbl] using hob2
      · rw [List.take_add_one, hx]; simpa [List.filter_append, hbl] using ho
      · rcases hat with e | ⟨g, e, hge⟩
        · rw [e]; exact hsep
        · intro g' hg' hb'
          rw [e] at hg'; cases hg'
          have := (hob1.ge hb').2; omega
    · have hbl : below pt x = false := ‹flt (placeOf x) pt = false›
      have hoc1 := hoc.since (by assumption)
      have hoc2 := hoc1.chg hc (fun g hg hgc => hsep g hg hgc)
      refine nx3_of (xs.length - (i + 1)) (by omega) ⟨i + 1, by simp, rfl, by omega, hs, ?_, ?_, ?_⟩
      · rw [List.take_add_one, hx]; simpa [List.filter_append, hbl] using ho
      · rw [List.take_add_one, hx]; simpa [List.filter_append, hbl] using hoc2
      · rcases hat with e | ⟨g, e, hge⟩
        · rw [e]; exact hsep
        · intro g' hg' hb'
          rw [e] at hb'; cases hb'
          have := (hoc1.ge hg').2; omega
  · rw [List.take_of_length_le hge] at hob hoc
    repeat' first | ((with_reducible refine r_lssF ?_ ?_); (· omega)) | with_reducible apply condW_F | ((with_reducible apply m_lnS); (· (first | assumption | exact Own.sl (by assumption))); (· kernel_rfl)) | ((first | (with_reducible refine fin_ret0 hs ?_) | (with_reducible refine fin_ret0 (hs0.trans hs) ?_)); intro wa hk; (exact ⟨_, _, rfl, (hoc.kp hk).tight, (hob.kp hk).tight⟩))
end Go.Proofs.YtnphlhpdikmpiaaGreat
namespace Go.Proofs.YtnphlhpdikmpiaaGreat
open Go.Eng
set_option maxRecDepth 100000
set_option maxHeartbeats 1000000
set_option linter.unusedVariables false
set_option linter.unusedSimpArgs false
attribute [local irreducible] un jn chk fld ld1 ldA st1 ixS lnS lnT bld cvI cvF ixA bsS apS rdV rdW grdW eW eV eU eC eF gE condW fin pickN nilN binS vS lp0 lp1 lp2 lp3 lp4 lp5 lp6 lp7 nx0 nx1 nx2 nx3 nx4 nx5 nx6 nx7
theorem get_setL {l cs : List Value} {o j : Nat} (h : o + cs.length ≤ l.length) : (setL l o cs)[j]? = if j < o then l[j]? else if j < o + cs.length then cs[j - o]? else l[j]? := by
  have hl : (l.take o).length = o := by rw [List.length_take]; omega
  have hl2 : (l.take o ++ cs).length = o + cs.length := by rw [List.length_append, hl]
  unfold setL
  by_cases h1 : j < o
  · rw [if_pos h1, List.append_assoc, List.getElem?_append_left (by omega), List.getElem?_take_of_lt h1]
  · rw [if_neg h1]
    by_cases h2 : j < o + cs.length
    · rw [if_pos h2, List.getElem?_append_left (by omega), List.getElem?_append_right (by omega), hl]
    · rw [if_neg h2, List.getElem?_append_right (by omega), hl2, List.getElem?_drop]
      congr 1; omega
theorem len_setL {l cs : List Value} {o : Nat} (h : o + cs.length ≤ l.length) : (setL l o cs).length = l.length := by
  unfold setL; simp; omega
theorem flat_get {k : Nat} (hk : 0 < k) : ∀ {rows : List (List Value)}, (∀ r ∈ rows, r.length = k) → ∀ j, rows.flatten[j]? = (rows[j / k]?).bind fun r => r[j % k]?
  | [], _, j => by simp
  | r :: rows, h, j => by
    have hr := h r (by simp)
    rw [List.flatten_cons]
    by_cases hj : j < k
    · rw [List.getElem?_append_left (by omega), Nat.div_eq_of_lt hj, Nat.mod_eq_of_lt hj]; rfl
    · rw [List.getElem?_append_right (by omega), hr, flat_get hk (fun x hx => h x (List.mem_cons_of_mem _ hx))]
      have e1 : j / k = (j - k) / k + 1 := by rw [Nat.div_eq_sub_div hk (by omega)]
      have e2 : j % k = (j - k) % k := Nat.mod_eq_sub_mod (by omega)
      rw [e1, e2]; rfl
theorem flat_set {k i o : Nat} {rows : List (List Value)} {row l : List Value} (hk : 0 < k) (h : ∀ r ∈ rows, r.length = k) (hr : rows[i]? = some row) (ho : o + l.length ≤ k) :
    (rows.set i (setL row o l)).flatten = setL rows.flatten (i * k + o) l := by
  have hrow : row.length = k := h row (List.mem_of_getElem? hr)
  have hil : i < rows.length := (List.getElem?_eq_some_iff.1 hr).1
  have hfl := flat_len h
  have hmul : i * k + k ≤ rows.length * k := by rw [← Nat.succ_mul]; exact Nat.mul_le_mul_right k hil
  apply List.ext_getElem?
  intro j
  rw [flat_get hk (fun r hx => by
    rcases List.mem_or_eq_of_mem_set hx with hx | rfl
    · exact h r hx
    · rw [len_setL (by omega)]; exact hrow), get_setL (by omega), flat_get hk h, List.getElem?_set]
  have hd : k * (j / k) + j % k = j := Nat.div_add_mod j k
  have hm : j % k < k := Nat.mod_lt j hk
  by_cases hq : i = j / k
  · subst hq
    rw [if_pos rfl, if_pos hil, hr]
    simp only [Option.bind_some]
    rw [get_setL (by omega)]
    have e : j / k * k = k * (j / k) := Nat.mul_comm _ _
    have b1 : (j % k < o) ↔ (j < j / k * k + o) := by omega
    have b2 : (j % k < o + l.length) ↔ (j < j / k * k + o + l.length) := by omega
    have b3 : j % k - o = j - (j / k * k + o) := by omega
    simp only [b1, b2, b3]
  · rw [if_neg hq]
    have hout : j < i * k ∨ i * k + k ≤ j := by
      rcases Nat.lt_or_gt_of_ne hq with c | c
      · right
        have := Nat.mul_le_mul_right k (Nat.succ_le_of_lt c)
        rw [Nat.succ_mul, Nat.mul_comm (j / k) k] at this
        omega
      · left
        have := Nat.mul_le_mul_right k (Nat.succ_le_of_lt c)
        rw [Nat.succ_mul, Nat.mul_comm (j / k) k] at this
        omega
    rcases hout with c | c
    · rw [if_pos (by omega)]
    · rw [if_neg (by omega), if_neg (by omega)]
theorem m_stO {P : Program} {R : Ending → World → Prop} {X : XS} {w : World} {t sz e k lo g n cap i o p : Nat} {rows : List (List Value)} {row : List Value} {v : Value} {N : Value → World → XS → Prop}
    (h : Own w X lo e k (.slice (some ⟨g, 0, none⟩) n cap) rows) (hr : rows[i]? = some row) (hp : p = i * k + o) (ht : (P.info? t).map (·.size) = some sz)
    (hl : o + sz ≤ k) (hsz : 0 < sz) (hv : v.cells.size = sz) (h1 : v.cells.toList.all Eng.one = true) (hX : ∀ k, X k → k < w.heap.size)
    (n : ∀ w' X', Chg (fun k => k = g) X w X' w' → Own w' X' lo e k (.slice (some ⟨g, 0, none⟩) n cap) (rows.set i (setL row o v.cells.toList)) → N undef w' X') : eU P R X w true (st1 t sz (ptr g p) v) N := by
  subst hp
  have hrw := h.1
  rcases h.row with ⟨hn, _⟩ | ⟨g', cap', cs, hv', hlo, hbox, hc, hcm, hlen, htk⟩
  · cases hn
  · cases hv'
    have hil : i < rows.length := (List.getElem?_eq_some_iff.1 hr).1
    have hfl := flat_len hrw
    have hmul : i * k + k ≤ rows.length * k := by rw [← Nat.succ_mul]; exact Nat.mul_le_mul_right k hil
    have hcap : rows.length * k ≤ cap * k := Nat.mul_le_mul_right k hc
    have hrow : row.length = k := hrw row (List.mem_of_getElem? hr)
    have hvl : v.cells.toList.length = sz := by simpa using hv
    refine m_st1 hbox ht (by omega) hv h1 hX fun w' X' hc' hb' => n w' X' hc' ?_
    refine Own.of_row hb' hlo (fun r hx => ?_) (by simp) hc hcm (by rw [len_setL (by omega)]; exact hlen) ?_
    · rcases List.mem_or_eq_of_mem_set hx with hx | rfl
      · exact hrw r hx
      · rw [len_setL (by omega)]; exact hrow
    · rw [flat_set (by omega) hrw hr (by omega), ← htk]
      apply List.ext_getElem?
      intro j
      rw [List.getElem?_take, get_setL (by omega), get_setL (by rw [List.length_take]; omega), List.getElem?_take]
      split
      · rfl
      · rename_i hj
        rw [if_neg (by omega), if_neg (by omega)]
end Go.Proofs.YtnphlhpdikmpiaaGreat
