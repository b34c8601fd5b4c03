/-
  Part 4 of the proof: what the last text leans on.
-/
import Derived.Test.YtnphlhpdikmpiaaGreatH3
namespace Go.Proofs.YtnphlhpdikmpiaaGreat
open Go.Eng
set_option maxRecDepth 100000
set_option maxHeartbeats 1000000
set_option linter.unusedVariables false
set_option linter.unusedSimpArgs false
attribute [local irreducible] un jn chk fld ld1 ldA st1 ixS lnS lnT bld cvI cvF ixA bsS apS rdV rdW grdW eW eV eU eC eF gE condW fin pickN nilN binS vS lp0 lp1 lp2 lp3 lp4 lp5 lp6 lp7 nx0 nx1 nx2 nx3 nx4 nx5 nx6 nx7
def histsFrom : BA → List Hist → Bool
  | _, [] => true
  | a, h :: r => h.ok a && histsFrom h.key r
def putAll (l : List Hist) : List (BA × List Ver) := l.foldl (fun m h => putM h.key h.vers m) []
def pendGo (hm : List (BA × List Ver)) : List (Txn × Pend) → List Pend → Int
  | _, [] => 0
  | pm, p :: r => if p.err ≠ 0 then p.err else if (getM p.txn pm).isSome then 9 else if pm.any (fun q => p.clash q.2) then 18 else if oldFor hm p then 20
    else pendGo hm (putM p.txn p pm) r
def loadErr (hl : List Hist) (pl : List Pend) : Int := if histsFrom ⟨#[]⟩ hl then pendGo (putAll hl) [] pl else 4
theorem StoreIs.grow {w : World} {X A A' : XS} {sb kb pb : Nat} {hm : List (BA × List Ver)} {pm : List (Txn × Pend)} {low : Stamp} (h : StoreIs w X A sb kb pb hm pm low)
    (hA : ∀ k, A k → A' k) (hs : ∀ k, A' k → X k ∧ k ≠ sb ∧ k ≠ kb ∧ k ≠ pb) : StoreIs w X A' sb kb pb hm pm low :=
  ⟨h.box, h.keys.mv rdVers.mv (Mv.refl _ _) (Mv.sub hA), h.pend.mv rdPend.mv (Mv.refl _ _) (Mv.sub hA), fun k hk => (hs k hk).1, fun k hk => (hs k hk).2⟩
theorem StoreIs.to {w w' : World} {X Y : XS} {sb kb pb : Nat} {hm : List (BA × List Ver)} {pm : List (Txn × Pend)} {low : Stamp} (h : StoreIs w X (mns X sb kb pb) sb kb pb hm pm low)
    (hs : Since X w Y w') (hX : ∀ k, X k → k < w.heap.size) : StoreIs w' Y (mns Y sb kb pb) sb kb pb hm pm low :=
  (h.mv hX (Since.mv hs)).grow (fun k hk => ⟨hs.sub k hk.1, hk.2⟩) fun k hk => hk
def PSmall (l : List Pend) : Prop := ∀ p ∈ l, p.reads.length ≤ 2 ^ 40 ∧ p.writes.length ≤ 2 ^ 40
def HSmall (l : List Hist) : Prop := ∀ h ∈ l, h.vers.length ≤ 2 ^ 40
theorem d_mvcc_Load {w : World} {X : XS} {vh vp : Value} {hl : List Hist} {pl : List Pend} (h1 : Hists w X vh hl) (h2 : Pends w X vp pl) (hb1 : HSmall hl) (hb2 : PSmall pl) :
    Ct Tryz.prog 126 #[vh, vp] w X nX fun v _ _ => ∃ u : Value, v = .tuple #[u, I (loadErr hl pl)] := by
  intro w0 hk
  replace h1 := h1.mv hk.mvo
  replace h2 := h2.mv hk.mvo
  have hl1 := h1.len
  have hl2 := h2.len
  apply ok_mvcc_Load; unfold vc_mvcc_Load
  have hs := Since.init w0
  refine r_ct0 d_mvcc_New (by kernel_rfl) hs.has ?_
  rintro v wa w X ⟨sb, kb, pb, rfl, hst, ne1, ne2, ne3⟩ hle hin hs1
  have hsb : w0.heap.size ≤ sb := Nat.le_trans hle hst.box.1.1
  have hkb : w0.heap.size ≤ kb := Nat.le_trans hle hst.keys.x.1.1
  have hpb : w0.heap.size ≤ pb := Nat.le_trans hle hst.pend.x.1.1
  replace hs := hs.trans hs1
  have hst1 : StoreIs w X (mns X sb kb pb) sb kb pb [] [] .zero := (hst.mv (fun k hk => hk.2) (Mv.sub hin)).grow (fun k hk => ⟨hin k hk.1, hk.2⟩) fun k hk => hk
  clear hst
  repeat' first | ((with_reducible apply m_lnR); (· assumption); (· kernel_rfl))
  refine lp2_of (fun n a b w X => ∃ (i : Nat) (s : BA), a = I i ∧ b = .string s ∧ n = hl.length - i ∧ i ≤ hl.length ∧ Since (old w0) w0 X w ∧
    StoreIs w X (mns X sb kb pb) sb kb pb (putAll (hl.take i)) [] .zero ∧ histsFrom ⟨#[]⟩ hl = histsFrom s (hl.drop i)) hl.length
    ⟨0, ⟨#[]⟩, rfl, rfl, rfl, Nat.zero_le _, hs, hst1, by rw [List.drop_zero]⟩ ?_
  rintro n a b w X ⟨i, s, rfl, rfl, rfl, hi, hs0, hst, hw⟩
  have hs := Since.refl' hs0.has
  rcases at_or (hl) i with ⟨hlt, x, hx, hd⟩ | ⟨hge, hd⟩
  · rw [hd, histsFrom] at hw
    have hxs := hb1 x (List.mem_of_getElem? hx)
    have hbx := hst.box
    repeat' first | ((with_reducible refine r_lssT ?_ ?_); (· omega)) | with_reducible (first | apply condW_T | apply condW_F) | ((with_reducible apply un_cell); (· rfl)) | ((with_reducible apply m_sub); (· (simp only [Value.cells, nq1, nq2, nq3, nq4, nq5, nq6, setL, nq7, nq8, nq9, nq0, Nat.reduceAdd, Nat.zero_add]; try rfl))) | with_reducible (first | apply un_box | apply r_notT | apply r_notF | apply r_nil) | ((with_reducible apply m_fld1); (· (first | assumption | exact RowIs.cells (by assumption))); (· kernel_rfl); (· rfl); intro _ _ _) | ((with_reducible apply m_ld1); (· (first | assumption | exact RowIs.cells (by assumption))); (· (first | exact mv0 | exact mv1 (by assumption) | exact mv2 (by assumption) (by assumption))); (· kernel_rfl); (· rfl)) | ((with_reducible apply m_ldA); (· (first | assumption | exact RowIs.cells (by assumption))); (· (first | exact mv0 | exact mv1 (by assumption) | exact mv2 (by assumption) (by assumption))); (· kernel_rfl); (· rfl)) | ((with_reducible apply m_ixH); (· assumption); (try (case hz => rfl)); (case hr => first | assumption | exact List.getElem?_eq_getElem (by omega)); (try (case hz => omega)); (case ht => kernel_rfl); (case hs => kernel_rfl); intros) | ((with_reducible apply m_chkc); (case h => (repeat' first | with_reducible apply all_one_cons | with_reducible exact all_one_nil | assumption | rfl | exact Sl.one (by assumption) | exact Rws.one (by assumption) | exact Sl.one (Own.sl (by assumption))))) | ((with_reducible apply chk_T); (· first | rfl | assumption | exact Sl.one (by assumption) | exact Rws.one (by assumption) | exact Sl.one (Own.sl (by assumption)))) | (refine r_ct0B (d_mvcc_history (h := x) (ahead := s) (by first | assumption | exact Sl.mv (by assumption) (Since.mv (hs0.trans hs)))) (by kernel_rfl) hs.has ?_ ?_ <;> (intro _ w X hs1; replace hs := hs.trans hs1)) | (first | (with_reducible refine fin_ret0 (hs0.trans hs) ?_); intro wa hk; exact ⟨_, by rw [loadErr, hw]; simp [*]; rfl⟩)
    have hvv := ‹Sl w0 (old w0) 6 _ (x.vers.map Ver.l)›
    have hok := ‹x.ok s = true›
    refine r_ct0 (d_clone_versions (hvv.mv (Since.mv (hs0.trans hs))) hxs) (by kernel_rfl) hs.has ?_
    rintro v1 wa w2 X2 ho1 hle1 hin1 hs2
    have hsz1 := hs.kp.size
    have hst2 := hst.to (hs.trans hs2) hs0.has
    have hv1 : Sl w2 (mns X2 sb kb pb) 6 v1 (x.vers.map Ver.l) := ho1.sl.mv (Mv.sub fun k hk => ⟨hin1 k hk, by
      have q1 := hs0.has sb hst.box.1
      have q2 := hs0.has kb hst.keys.x.1
      have q3 := hs0.has pb hst.pend.x.1
      have := hk.1
      refine ⟨?_, ?_, ?_⟩ <;> omega⟩)
    replace hs := hs.trans hs2
    repeat' first | ((with_reducible apply un_cell); (· rfl))
    refine m_mapPut (kv := fun s : BA => Value.string s) (k := x.key) (et := 140) hst2.keys rdVers.mv hv1 (fun k hk => ⟨hk.1, hk.2.2.1⟩) key_text (by kernel_rfl) hs.has fun w3 X3 hc hm3 => ?_
    have hs3 := (hs0.trans hs).chg hc fun k hk e => by have : k < w0.heap.size := hk; omega
    have hst3 : StoreIs w3 X3 (mns X3 sb kb pb) sb kb pb (putAll (hl.take (i + 1))) [] .zero := by
      have hbx := hst2.box
      have hpm := hst2.pend
      have e : putAll (hl.take (i + 1)) = putM x.key x.vers (putAll (hl.take i)) := by
        rw [List.take_add_one, hx]; simp [putAll]
      rw [e]
      have mo : ∀ b, X2 b → b ≠ kb → Mv (fun k => k = b) w2 X3 w3 := fun b hb hne k hk' _ => by subst hk'; exact ⟨hc.sub _ hb, hc.block _ hb hne⟩
      exact ⟨hbx.own.mv (mo _ hbx.1 ne1), hm3.mv rdVers.mv (Mv.refl _ _) (Mv.sub fun k hk => ⟨hc.sub k hk.1, hk.2⟩),
        hpm.own.mv rdPend.mv (mo _ hpm.x.1 ne3.symm) (fun k hk _ => ⟨⟨hc.sub k hk.1, hk.2⟩, hc.block k hk.1 hk.2.2.1⟩), fun k hk => hk.1, fun k hk => hk.2⟩
    replace hs := hs3
    repeat' first | ((with_reducible apply chk_T); (· first | rfl | assumption | exact Sl.one (by assumption) | exact Rws.one (by assumption) | exact Sl.one (Own.sl (by assumption)))) | ((with_reducible apply r_add); (· omega); (· omega)) | ((with_reducible refine nx2_of ((hl).length - (i + 1)) ?_ ?_); (· omega); exact ⟨i + 1, x.key, by simp, rfl, rfl, by omega, hs, hst3, by rw [hw, hok]; rfl⟩)
  · have hlen : hl.take i = hl := List.take_of_length_le hge
    rw [hd] at hw
    rw [hlen] at hst
    repeat' first | ((with_reducible refine r_lssF ?_ ?_); (· omega)) | with_reducible apply condW_F | ((with_reducible apply m_lnR); (· assumption); (· kernel_rfl))
    refine lp1_of (fun n a w X => ∃ (i : Nat) (pm : List (Txn × Pend)), a = I i ∧ n = pl.length - i ∧ i ≤ pl.length ∧ Since (old w0) w0 X w ∧
      StoreIs w X (mns X sb kb pb) sb kb pb (putAll hl) pm .zero ∧ loadErr hl pl = pendGo (putAll hl) pm (pl.drop i)) pl.length
      ⟨0, [], rfl, rfl, Nat.zero_le _, hs0, hst, by rw [List.drop_zero, loadErr, hw]; rfl⟩ ?_
    rintro n a w X ⟨j, pm, rfl, rfl, hj, hs0, hst, hw2⟩
    have hs := Since.refl' hs0.has
    rcases at_or pl j with ⟨hlt2, x, hx, hd2⟩ | ⟨hge2, hd2⟩
    · rw [hd2, pendGo] at hw2
      have hxs := hb2 x (List.mem_of_getElem? hx)
      have hbx := hst.box
      repeat' first | ((with_reducible refine r_lssT ?_ ?_); (· omega)) | with_reducible apply condW_T | ((with_reducible apply m_sub); (· (simp only [Value.cells, nq1, nq2, nq3, nq4, nq5, nq6, setL, nq7, nq8, nq9, nq0, Nat.reduceAdd, Nat.zero_add]; try rfl))) | with_reducible (first | apply un_box | apply r_nil) | ((with_reducible apply m_fld1); (· (first | assumption | exact RowIs.cells (by assumption))); (· kernel_rfl); (· rfl); intro _ _ _) | ((with_reducible apply m_ld1); (· (first | assumption | exact RowIs.cells (by assumption))); (· (first | exact mv0 | exact mv1 (by assumption) | exact mv2 (by assumption) (by assumption))); (· kernel_rfl); (· rfl)) | ((with_reducible apply m_ldA); (· (first | assumption | exact RowIs.cells (by assumption))); (· (first | exact mv0 | exact mv1 (by assumption) | exact mv2 (by assumption) (by assumption))); (· kernel_rfl); (· rfl)) | ((with_reducible apply m_ixP); (· assumption); (try (case hz => rfl)); (case hr => first | assumption | exact List.getElem?_eq_getElem (by omega)); (try (case hz => omega)); (case ht => kernel_rfl); (case hs => kernel_rfl); intros) | ((with_reducible apply m_chkc); (case h => (repeat' first | with_reducible apply all_one_cons | with_reducible exact all_one_nil | assumption | rfl | exact Sl.one (by assumption) | exact Rws.one (by assumption) | exact Sl.one (Own.sl (by assumption))))) | ((with_reducible apply chk_T); (· first | rfl | assumption | exact Sl.one (by assumption) | exact Rws.one (by assumption) | exact Sl.one (Own.sl (by assumption)))) | (refine r_ct0V (d_mvcc_PendingMay (p := x) (by first | assumption | exact Sl.mv (by assumption) (Since.mv (hs0.trans hs))) (by first | assumption | exact Sl.mv (by assumption) (Since.mv (hs0.trans hs))) hxs.2) (by kernel_rfl) hs.has ?_; intro w X hs1; replace hs := hs.trans hs1)
      refine m_mapGet (kv := fun k : Txn => k.v) (k := x.txn) (kt := 39) (et := 87) (.agg #[I 0, I 0, I 0, I 0, I 0, I 0, .slice none 0 0, .slice none 0 0]) (hst.mv hs0.has (Since.mv hs)).pend key_txn (by kernel_rfl) (by kernel_rfl) (fun v q hg hrd => ?_) fun hg => ?_
      · obtain ⟨ur, uw, rfl, q1, q2⟩ := hrd
        have o1 := q1.one
        have o2 := q2.one
        repeat' first | with_reducible (first | apply condW_T | apply condW_F | apply un_box) | (with_reducible apply r_neq <;> intro _) | ((with_reducible apply m_ext); (· rfl)) | ((with_reducible apply m_chkc); (case h => (repeat' first | with_reducible apply all_one_cons | with_reducible exact all_one_nil | assumption | rfl | exact Sl.one (by assumption) | exact Rws.one (by assumption) | exact Sl.one (Own.sl (by assumption))))) | ((with_reducible apply chk_T); (· first | rfl | assumption | exact Sl.one (by assumption) | exact Rws.one (by assumption) | exact Sl.one (Own.sl (by assumption)))) | (first | (with_reducible refine fin_ret0 (hs0.trans hs) ?_); intro wa hk; exact ⟨_, by rw [hw2]; simp [*]; rfl⟩)
      · repeat' first | with_reducible (first | apply condW_T | apply condW_F | apply un_box | apply r_nil) | (with_reducible apply r_neq <;> intro _) | ((with_reducible apply m_fld1); (· (first | assumption | exact RowIs.cells (by assumption))); (· kernel_rfl); (· rfl); intro _ _ _) | ((with_reducible apply m_ld1); (· (first | assumption | exact RowIs.cells (by assumption))); (· (first | exact mv0 | exact mv1 (by assumption) | exact mv2 (by assumption) (by assumption))); (· kernel_rfl); (· rfl)) | ((with_reducible apply m_ext); (· rfl)) | ((with_reducible apply m_chkc); (case h => (repeat' first | with_reducible apply all_one_cons | with_reducible exact all_one_nil | assumption | rfl | exact Sl.one (by assumption) | exact Rws.one (by assumption) | exact Sl.one (Own.sl (by assumption))))) | ((with_reducible apply chk_T); (· first | rfl | assumption | exact Sl.one (by assumption) | exact Rws.one (by assumption) | exact Sl.one (Own.sl (by assumption)))) | (first | (with_reducible refine fin_ret0 (hs0.trans hs) ?_); intro wa hk; exact ⟨_, by rw [hw2]; simp [*]; rfl⟩) | (refine r_ct0B (d_mvcc_locked (x := x) (hst.mv hs0.has (Since.mv hs)) hs.has (by first | assumption | exact Sl.mv (by assumption) (Since.mv (hs0.trans hs))) (by first | assumption | exact Sl.mv (by assumption) (Since.mv (hs0.trans hs)))) (by kernel_rfl) hs.has ?_ ?_ <;> (intro _ w X hs1; replace hs := hs.trans hs1)) | (refine r_ct0B (d_mvcc_old (x := x) (hst.mv hs0.has (Since.mv hs)) hs.has (by first | assumption | exact Sl.mv (by assumption) (Since.mv (hs0.trans hs)))) (by kernel_rfl) hs.has ?_ ?_ <;> (intro _ w X hs1; replace hs := hs.trans hs1))
        have he : x.err = 0 := ‹x.err = 0›
        have hc18 : (pm.any fun q => x.clash q.snd) = false := ‹_›
        have hc20 : oldFor (putAll hl) x = false := ‹_›
        refine r_ct0 (d_mvcc_clone (p := x) (by first | exact Sl.mv (by assumption) (Since.mv (hs0.trans hs))) (by first | exact Sl.mv (by assumption) (Since.mv (hs0.trans hs))) hxs.1 hxs.2) (by kernel_rfl) hs.has ?_
        rintro v1 wa w2 X2 ⟨ur, uw, rfl, ho1, ho2, -⟩ hle1 hin1 hs2
        have hsz1 := hs.kp.size
        have hst2 := hst.to (hs.trans hs2) hs0.has
        have hup : ∀ k, made wa w2 k → mns X2 sb kb pb k := fun k hk => ⟨hin1 k hk, by
          have q1 := hs0.has sb hst.box.1
          have q2 := hs0.has kb hst.keys.x.1
          have q3 := hs0.has pb hst.pend.x.1
          have := hk.1
          refine ⟨?_, ?_, ?_⟩ <;> omega⟩
        have hv1 : rdPend w2 (mns X2 sb kb pb) (x.v ur uw) x := ⟨ur, uw, rfl, ho1.sl.mv (Mv.sub hup), ho2.sl.mv (Mv.sub hup)⟩
        replace hs := hs.trans hs2
        refine m_mapPut (kv := fun k : Txn => k.v) (k := x.txn) (et := 87) hst2.pend rdPend.mv hv1 (fun k hk => ⟨hk.1, hk.2.2.2⟩) key_txn (by kernel_rfl) hs.has fun w3 X3 hc hm3 => ?_
        have hs3 := (hs0.trans hs).chg hc fun k hk e => by have : k < w0.heap.size := hk; omega
        have hst3 : StoreIs w3 X3 (mns X3 sb kb pb) sb kb pb (putAll hl) (putM x.txn x pm) .zero := by
          have hbx := hst2.box
          have hkm := hst2.keys
          have mo : ∀ b, X2 b → b ≠ pb → Mv (fun k => k = b) w2 X3 w3 := fun b hb hne k hk' _ => by subst hk'; exact ⟨hc.sub _ hb, hc.block _ hb hne⟩
          exact ⟨hbx.own.mv (mo _ hbx.1 ne2), hkm.own.mv rdVers.mv (mo _ hkm.x.1 ne3) (fun k hk _ => ⟨⟨hc.sub k hk.1, hk.2⟩, hc.block k hk.1 hk.2.2.2⟩),
            hm3.mv rdPend.mv (Mv.refl _ _) (Mv.sub fun k hk => ⟨hc.sub k hk.1, hk.2⟩), fun k hk => hk.1, fun k hk => hk.2⟩
        replace hs := hs3
        repeat' first | ((with_reducible apply r_add); (· omega); (· omega)) | ((with_reducible refine nx1_of (pl.length - (j + 1)) ?_ ?_); (· omega); exact ⟨j + 1, _, by simp, rfl, by omega, hs, hst3, by rw [hw2]; simp [he, hg, hc18, hc20]⟩)
    · rw [hd2] at hw2
      repeat' first | ((with_reducible refine r_lssF ?_ ?_); (· omega)) | with_reducible apply condW_F | (first | (with_reducible refine fin_ret0 (hs0.trans hs) ?_); intro wa hk; exact ⟨_, by rw [hw2]; rfl⟩)
end Go.Proofs.YtnphlhpdikmpiaaGreat
namespace Go.Proofs.YtnphlhpdikmpiaaGreat
open Go.Eng
set_option maxRecDepth 100000
set_option maxHeartbeats 1000000
set_option linter.unusedVariables false
set_option linter.unusedSimpArgs false
attribute [local irreducible] un jn chk fld ld1 ldA st1 ixS lnS lnT bld cvI cvF ixA bsS apS rdV rdW grdW eW eV eU eC eF gE condW fin pickN nilN binS vS lp0 lp1 lp2 lp3 lp4 lp5 lp6 lp7 nx0 nx1 nx2 nx3 nx4 nx5 nx6 nx7
def HKeys (l : List Hist) : Prop := ∀ h ∈ l, h.key.size ≤ 2 ^ 40
def PKeys (l : List Pend) : Prop := ∀ p ∈ l, (∀ k ∈ p.reads, k.size ≤ 2 ^ 40) ∧ ∀ x ∈ p.writes, x.key.size ≤ 2 ^ 40
structure State.small (s : State) : Prop where
  h : HSmall s.hists
  p : PSmall s.pend
  hk : HKeys s.hists
  pk : PKeys s.pend
structure Rec.small (r : Rec) : Prop where
  reads : r.reads.length ≤ 2 ^ 40
  writes : r.writes.length ≤ 2 ^ 40
  rk : ∀ k ∈ r.reads, k.size ≤ 2 ^ 40
  wk : ∀ x ∈ r.writes, x.key.size ≤ 2 ^ 40
  state : r.state.small
def Rng.has (r : Rng) (x : Nat) : Bool := (fgt x r.lo || feq x r.lo) && flt x r.hi
def Rng.key (r : Rng) (k : BA) : Bool := r.has (placeOf k)
def State.inside (s : State) : Bool := s.hists.all (fun h => s.range.key h.key) && s.pend.all fun p => p.reads.all s.range.key && p.writes.all fun x => s.range.key x.key
def State.may (s : State) : Bool := s.range.may && s.floor.may && s.closed.may && decide (loadErr s.hists s.pend = 0) && s.inside
theorem d_recs_StateMay_c1 {w : World} {X : XS} {s : State} {vh vp : Value} {k : BA} {b : Nat} (h : Cells w X b 0 (s.l vh vp)) (hk' : k.size ≤ 2 ^ 62) :
    Ct Tryz.prog 127 #[.string k, ptr b 0] w X nX fun v _ _ => v = B (s.range.key k) := by
  intro w0 hk
  replace h := h.mv hk.mvo
  apply ok_recs_StateMay_c1; unfold vc_recs_StateMay_c1
  have hs := Since.init w0
  repeat' first | ((with_reducible apply m_fld); (· (first | assumption | exact RowIs.cells (by assumption))); (· kernel_rfl); (· rfl); (· (simp only [Value.cells, nq1, nq2, nq3, nq4, nq5, nq6, setL, nq7, nq8, nq9, nq0, Nat.reduceAdd, Nat.zero_add]; try rfl)); intro _ _ _) | ((with_reducible apply m_ldA); (· (first | assumption | exact RowIs.cells (by assumption))); (· (first | exact mv0 | exact mv1 (by assumption) | exact mv2 (by assumption) (by assumption))); (· kernel_rfl); (· rfl)) | ((with_reducible refine r_pure (c_place_Of _ (by first | assumption | omega)) ?_ hs.has ?_); (· kernel_rfl); intro w X hs1; replace hs := hs.trans hs1) | ((with_reducible refine r_pureB (c_place_In _ _) ?_ hs.has ?_ ?_); (· kernel_rfl); all_goals (intro _ w X hs1; replace hs := hs.trans hs1)) | ((first | (with_reducible refine fin_ret0 hs ?_) | (with_reducible refine fin_ret0 (hs0.trans hs) ?_)); intro wa hk; (simp [Rng.key, Rng.has, *]))
theorem d_recs_StateMay {w : World} {X : XS} {s : State} {vh vp : Value} (h1 : Hists w X vh s.hists) (h2 : Pends w X vp s.pend) (hsm : s.small) :
    Ct Tryz.prog 102 #[s.v vh vp] w X nX fun v _ _ => v = B s.may := by
  intro w0 hk
  replace h1 := h1.mv hk.mvo
  replace h2 := h2.mv hk.mvo
  have hl1 := h1.len
  have hl2 := h2.len
  have o1 := h1.one
  have o2 := h2.one
  apply ok_recs_StateMay; unfold vc_recs_StateMay
  have hs := Since.init w0
  repeat' first | with_reducible (first | apply condW_T | apply condW_F | apply grdV_onF | apply grdW_offF | apply rdW_pickT | apply rdW_pickF | apply gE_F | apply gE_TF | apply r_notT | apply r_notF) | (with_reducible apply r_neq <;> intro _) | ((with_reducible apply m_fld1); (· (first | assumption | exact RowIs.cells (by assumption))); (· kernel_rfl); (· rfl); intro _ _ _) | ((with_reducible apply m_fld); (· (first | assumption | exact RowIs.cells (by assumption))); (· kernel_rfl); (· rfl); (· (simp only [Value.cells, nq1, nq2, nq3, nq4, nq5, nq6, setL, nq7, nq8, nq9, nq0, Nat.reduceAdd, Nat.zero_add]; try rfl)); intro _ _ _) | ((with_reducible apply m_ld1); (· (first | assumption | exact RowIs.cells (by assumption))); (· (first | exact mv0 | exact mv1 (by assumption) | exact mv2 (by assumption) (by assumption))); (· kernel_rfl); (· rfl)) | ((with_reducible apply m_ldA); (· (first | assumption | exact RowIs.cells (by assumption))); (· (first | exact mv0 | exact mv1 (by assumption) | exact mv2 (by assumption) (by assumption))); (· kernel_rfl); (· rfl)) | ((with_reducible apply m_lnR); (· assumption); (· kernel_rfl)) | ((with_reducible apply m_ext); (· rfl)) | ((with_reducible apply m_boxA); (case hX => exact hs.has); intro bx w X hbx hs1 hrow; have hs0 := hs.trans hs1; replace hs := Since.refl' hs1.has) | (with_reducible apply m_mkFun) | with_reducible apply jn_of | ((with_reducible refine r_pureB (c_hlc_May _) ?_ hs.has ?_ ?_); (· kernel_rfl); all_goals (intro _ w X hs1; replace hs := hs.trans hs1)) | ((with_reducible refine r_pureB (c_place_May _) ?_ hs.has ?_ ?_); (· kernel_rfl); all_goals (intro _ w X hs1; replace hs := hs.trans hs1)) | ((first | (with_reducible refine fin_ret0 hs ?_) | (with_reducible refine fin_ret0 (hs0.trans hs) ?_)); intro wa hk; (simp [State.may, *])) | (refine r_ct0 ((d_mvcc_Load (hl := s.hists) (pl := s.pend))  (by first | assumption | exact Sl.mv (by assumption) (by (first | exact mv0 | exact mv1 (by assumption) | exact mv2 (by assumption) (by assumption))) | exact Pends.mv (by assumption) (by (first | exact mv0 | exact mv1 (by assumption) | exact mv2 (by assumption) (by assumption))) | exact Hists.mv (by assumption) (by (first | exact mv0 | exact mv1 (by assumption) | exact mv2 (by assumption) (by assumption))) | exact Rec.at.mv (by assumption) (by (first | exact mv0 | exact mv1 (by assumption) | exact mv2 (by assumption) (by assumption))) | exact Own.sl (by assumption) | exact Cells.mv (by assumption) (by (first | exact mv0 | exact mv1 (by assumption) | exact mv2 (by assumption) (by assumption))) | exact Cells.mv (RowIs.cells (by assumption)) (by (first | exact mv0 | exact mv1 (by assumption) | exact mv2 (by assumption) (by assumption))) | omega) (by first | assumption | exact Sl.mv (by assumption) (by (first | exact mv0 | exact mv1 (by assumption) | exact mv2 (by assumption) (by assumption))) | exact Pends.mv (by assumption) (by (first | exact mv0 | exact mv1 (by assumption) | exact mv2 (by assumption) (by assumption))) | exact Hists.mv (by assumption) (by (first | exact mv0 | exact mv1 (by assumption) | exact mv2 (by assumption) (by assumption))) | exact Rec.at.mv (by assumption) (by (first | exact mv0 | exact mv1 (by assumption) | exact mv2 (by assumption) (by assumption))) | exact Own.sl (by assumption) | exact Cells.mv (by assumption) (by (first | exact mv0 | exact mv1 (by assumption) | exact mv2 (by assumption) (by assumption))) | exact Cells.mv (RowIs.cells (by assumption)) (by (first | exact mv0 | exact mv1 (by assumption) | exact mv2 (by assumption) (by assumption))) | omega) hsm.h hsm.p) (by kernel_rfl) hs.has ?_; rintro _ wa w X ⟨u, rfl⟩ hle hin hs1; have hlo := Nat.le_trans hs.kp.size hle; replace hs := hs.trans hs1)
  have hc1 : ∀ k : BA, k.size ≤ 2 ^ 40 → ∀ w X, Since _ _ X w → Ct Tryz.prog 127 #[.string k, ptr bx 0] w X nX fun v _ _ => v = B (s.range.key k) := fun k hk w X hs => d_recs_StateMay_c1 (hrow.since hs).cells (by omega)
  have hin0 : s.may = s.inside := by simp [State.may, *]
  refine lp1_of (fun n a w X => ∃ i : Nat, a = I (i : Nat) ∧ n = s.hists.length - i ∧ i ≤ s.hists.length ∧ Since _ _ X w ∧
    (s.hists.all (fun h => s.range.key h.key)) = ((s.hists.drop i).all fun h => s.range.key h.key)) s.hists.length ⟨0, rfl, rfl, Nat.zero_le _, hs, by simp⟩ ?_
  rintro n a w X ⟨i, rfl, rfl, hi, hs, hw⟩
  rcases at_or (s.hists) i with ⟨hlt, x, hx, hd⟩ | ⟨hge, hd⟩
  · rw [hd, List.all_cons] at hw
    have hkx := hsm.hk x (List.mem_of_getElem? hx)
    repeat' first | ((with_reducible refine r_lssT ?_ ?_); (· omega)) | with_reducible (first | apply condW_T | apply condW_F) | ((with_reducible apply un_cell); (· rfl)) | with_reducible (first | apply un_box | apply r_notT | apply r_notF) | ((with_reducible apply m_ldA); (· (first | assumption | exact RowIs.cells (by assumption))); (· (first | exact mv0 | exact mv1 (by assumption) | exact mv2 (by assumption) (by assumption))); (· kernel_rfl); (· rfl)) | ((with_reducible apply m_ixH); (· assumption); (try (case hz => rfl)); (case hr => first | assumption | exact List.getElem?_eq_getElem (by omega)); (try (case hz => omega)); (case ht => kernel_rfl); (case hs => kernel_rfl); intros) | ((with_reducible apply m_chkc); (case h => (repeat' first | with_reducible apply all_one_cons | with_reducible exact all_one_nil | assumption | rfl | exact Sl.one (by assumption) | exact Rws.one (by assumption) | exact Sl.one (Own.sl (by assumption))))) | ((with_reducible apply chk_T); (· first | rfl | assumption | exact Sl.one (by assumption) | exact Rws.one (by assumption) | exact Sl.one (Own.sl (by assumption)))) | ((with_reducible apply r_add); (· omega); (· omega)) | ((with_reducible apply m_fun); (· rfl)) | ((first | (with_reducible refine fin_ret0 hs ?_) | (with_reducible refine fin_ret0 (hs0.trans hs) ?_)); intro wa hk; (simp [hin0, State.inside, hw, *])) | (refine r_ct0B (hc1 x.key hkx _ _ hs) (by kernel_rfl) hs.has ?_ ?_ <;> (intro _ w X hs1; replace hs := hs.trans hs1)) | ((with_reducible refine nx1_of ((s.hists).length - (i + 1)) ?_ ?_); (· omega); exact ⟨i + 1, by simp, rfl, by omega, hs, by rw [hw]; simp [*]⟩)
  · rw [hd] at hw
    repeat' first | ((with_reducible refine r_lssF ?_ ?_); (· omega)) | with_reducible apply condW_F | ((with_reducible apply m_fld1); (· (first | assumption | exact RowIs.cells (by assumption))); (· kernel_rfl); (· rfl); intro _ _ _) | ((with_reducible apply m_ld1); (· (first | assumption | exact RowIs.cells (by assumption))); (· (first | exact mv0 | exact mv1 (by assumption) | exact mv2 (by assumption) (by assumption))); (· kernel_rfl); (· rfl)) | ((with_reducible apply m_lnR); (· assumption); (· kernel_rfl))
    refine lp3_of (fun n a _ _ w X => ∃ i : Nat, a = I (i : Nat) ∧ n = s.pend.length - i ∧ i ≤ s.pend.length ∧ Since _ _ X w ∧
      (s.pend.all fun p => p.reads.all s.range.key && p.writes.all fun x => s.range.key x.key) = ((s.pend.drop i).all fun p => p.reads.all s.range.key && p.writes.all fun x => s.range.key x.key)) s.pend.length ⟨0, rfl, rfl, Nat.zero_le _, hs, by simp⟩ ?_
    rintro n a a2 a3 w X ⟨j, rfl, rfl, hj, hs, hw2⟩
    rcases at_or s.pend j with ⟨hlt, p, hp, hd2⟩ | ⟨hge2, hd2⟩
    · rw [hd2, List.all_cons] at hw2
      obtain ⟨hr1, hr2⟩ := hsm.pk p (List.mem_of_getElem? hp)
      repeat' first | ((with_reducible refine r_lssT ?_ ?_); (· omega)) | with_reducible apply condW_T | ((with_reducible apply un_cell); (· rfl)) | with_reducible apply un_box | ((with_reducible apply m_ldA); (· (first | assumption | exact RowIs.cells (by assumption))); (· (first | exact mv0 | exact mv1 (by assumption) | exact mv2 (by assumption) (by assumption))); (· kernel_rfl); (· rfl)) | ((with_reducible apply m_lnS); (· (first | assumption | exact Own.sl (by assumption))); (· kernel_rfl)) | ((with_reducible apply m_ixP); (· assumption); (try (case hz => rfl)); (case hr => first | assumption | exact List.getElem?_eq_getElem (by omega)); (try (case hz => omega)); (case ht => kernel_rfl); (case hs => kernel_rfl); intros) | ((with_reducible apply m_chkc); (case h => (repeat' first | with_reducible apply all_one_cons | with_reducible exact all_one_nil | assumption | rfl | exact Sl.one (by assumption) | exact Rws.one (by assumption) | exact Sl.one (Own.sl (by assumption))))) | ((with_reducible apply chk_T); (· first | rfl | assumption | exact Sl.one (by assumption) | exact Rws.one (by assumption) | exact Sl.one (Own.sl (by assumption))))
      have hl3 := Sl.len' ‹Sl w0 (old w0) 1 _ (p.reads.map S1)›
      have hl4 := Sl.len' ‹Sl w0 (old w0) 4 _ (p.writes.map KV.l)›
      refine lp1_of (fun n a w X => ∃ i : Nat, a = I (i : Nat) ∧ n = p.reads.length - i ∧ i ≤ p.reads.length ∧ Since _ _ X w ∧ p.reads.all s.range.key = (p.reads.drop i).all s.range.key) p.reads.length ⟨0, rfl, rfl, Nat.zero_le _, hs, by simp⟩ ?_
      rintro n a w X ⟨k, rfl, rfl, hk3, hs, hw3⟩
      rcases at_or p.reads k with ⟨hlt3, y, hy, hd3⟩ | ⟨hge3, hd3⟩
      · rw [hd3, List.all_cons] at hw3
        have hky := hr1 y (List.mem_of_getElem? hy)
        repeat' first | ((with_reducible refine r_lssT ?_ ?_); (· omega)) | with_reducible (first | apply condW_T | apply condW_F | apply r_notT | apply r_notF) | ((with_reducible apply m_ld1); (· (first | assumption | exact RowIs.cells (by assumption))); (· (first | exact mv0 | exact mv1 (by assumption) | exact mv2 (by assumption) (by assumption))); (· kernel_rfl); (· rfl)) | ((with_reducible apply m_ixS); (· (first | assumption | exact Own.sl (by assumption))); (try (case hz => rfl)); (case hr => first | assumption | exact List.getElem?_eq_getElem (by omega)); (try (case hz => omega)); (case ht => kernel_rfl); (case hs => kernel_rfl); intro _ _ _) | ((with_reducible apply r_add); (· omega); (· omega)) | ((with_reducible apply m_fun); (· rfl)) | ((first | (with_reducible refine fin_ret0 hs ?_) | (with_reducible refine fin_ret0 (hs0.trans hs) ?_)); intro wa hk; (simp [hin0, State.inside, hw2, hw3, *])) | (refine r_ct0B (hc1 y hky _ _ hs) (by kernel_rfl) hs.has ?_ ?_ <;> (intro _ w X hs1; replace hs := hs.trans hs1)) | ((with_reducible refine nx1_of (p.reads.length - (k + 1)) ?_ ?_); (· omega); exact ⟨k + 1, by simp, rfl, by omega, hs, by rw [hw3]; simp [*]⟩)
      · rw [hd3] at hw3
        repeat' first | ((with_reducible refine r_lssF ?_ ?_); (· omega)) | with_reducible apply condW_F | ((with_reducible apply un_cell); (· rfl)) | ((with_reducible apply m_lnS); (· (first | assumption | exact Own.sl (by assumption))); (· kernel_rfl)) | ((with_reducible apply chk_T); (· first | rfl | assumption | exact Sl.one (by assumption) | exact Rws.one (by assumption) | exact Sl.one (Own.sl (by assumption))))
        refine lp1_of (fun n a w X => ∃ i : Nat, a = I (i : Nat) ∧ n = p.writes.length - i ∧ i ≤ p.writes.length ∧ Since _ _ X w ∧ (p.writes.all fun x => s.range.key x.key) = (p.writes.drop i).all fun x => s.range.key x.key) p.writes.length ⟨0, rfl, rfl, Nat.zero_le _, hs, by simp⟩ ?_
        rintro n a w X ⟨m, rfl, rfl, hm, hs, hw4⟩
        rcases at_or p.writes m with ⟨hlt4, y, hy, hd4⟩ | ⟨hge4, hd4⟩
        · rw [hd4, List.all_cons] at hw4
          have hky := hr2 y (List.mem_of_getElem? hy)
          repeat' first | ((with_reducible refine r_lssT ?_ ?_); (· omega)) | with_reducible (first | apply condW_T | apply condW_F) | ((with_reducible apply un_cell); (· rfl)) | with_reducible (first | apply un_box | apply r_notT | apply r_notF) | ((with_reducible apply m_ldA); (· (first | assumption | exact RowIs.cells (by assumption))); (· (first | exact mv0 | exact mv1 (by assumption) | exact mv2 (by assumption) (by assumption))); (· kernel_rfl); (· rfl)) | ((with_reducible apply m_ixS); (· (first | assumption | exact Own.sl (by assumption))); (try (case hz => rfl)); (case hr => first | assumption | exact List.getElem?_eq_getElem (by omega)); (try (case hz => omega)); (case ht => kernel_rfl); (case hs => kernel_rfl); intro _ _ _) | ((with_reducible apply m_chkc); (case h => (repeat' first | with_reducible apply all_one_cons | with_reducible exact all_one_nil | assumption | rfl | exact Sl.one (by assumption) | exact Rws.one (by assumption) | exact Sl.one (Own.sl (by assumption))))) | ((with_reducible apply chk_T); (· first | rfl | assumption | exact Sl.one (by assumption) | exact Rws.one (by assumption) | exact Sl.one (Own.sl (by assumption)))) | ((with_reducible apply r_add); (· omega); (· omega)) | ((with_reducible apply m_fun); (· rfl)) | ((first | (with_reducible refine fin_ret0 hs ?_) | (with_reducible refine fin_ret0 (hs0.trans hs) ?_)); intro wa hk; (simp [hin0, State.inside, hw2, hw3, hw4, *])) | (refine r_ct0B (hc1 y.key hky _ _ hs) (by kernel_rfl) hs.has ?_ ?_ <;> (intro _ w X hs1; replace hs := hs.trans hs1)) | ((with_reducible refine nx1_of (p.writes.length - (m + 1)) ?_ ?_); (· omega); exact ⟨m + 1, by simp, rfl, by omega, hs, by rw [hw4]; simp [*]⟩)
        · rw [hd4] at hw4
          repeat' first | ((with_reducible refine r_lssF ?_ ?_); (· omega)) | with_reducible apply condW_F | ((with_reducible apply r_add); (· omega); (· omega)) | ((with_reducible refine nx3_of (s.pend.length - (j + 1)) ?_ ?_); (· omega); exact ⟨j + 1, by simp, rfl, by omega, hs, by rw [hw2, hw3, hw4]; simp⟩)
    · rw [hd2] at hw2
      repeat' first | ((with_reducible refine r_lssF ?_ ?_); (· omega)) | with_reducible apply condW_F | ((first | (with_reducible refine fin_ret0 hs ?_) | (with_reducible refine fin_ret0 (hs0.trans hs) ?_)); intro wa hk; (rw [hin0, State.inside, hw, hw2]; rfl))
def applyOk (prev st : Stamp) (t : Txn) (l : List KV) : Bool := prev.may && decide (prev.cmp st < 0) && decide (l ≠ []) && decide (Pend.err ⟨t, st, [], l⟩ = 0)
theorem d_recs_Apply {w : World} {X : XS} {prev st : Stamp} {t : Txn} {l : List KV} {a : Value} (h : Sl w X 4 a (l.map KV.l)) (hb : l.length ≤ 2 ^ 40) :
    Ct Tryz.prog 110 #[prev.v, st.v, t.v, a] w X nX fun v _ _ => v = B (applyOk prev st t l) := by
  intro w0 hk
  replace h := h.mv hk.mvo
  obtain ⟨b1, n1, c1, rfl⟩ := h.form
  apply ok_recs_Apply; unfold vc_recs_Apply
  have hs := Since.init w0
  repeat' first | with_reducible (first | apply condW_T | apply condW_F | apply un_selF | apply un_selTF | apply grdV_onF | apply grdW_offF | apply rdW_pickT | apply rdW_pickF | apply gE_F | apply gE_TF | apply r_notT | apply r_notF) | (with_reducible apply r_eql <;> intro _) | (with_reducible apply r_geq <;> intro _) | ((with_reducible apply m_lnS); (· (first | assumption | exact Own.sl (by assumption))); (· kernel_rfl)) | ((with_reducible apply r_bld); (· kernel_rfl)) | with_reducible apply jn_of | ((with_reducible refine r_pure (c_hlc_Compare _ _) ?_ hs.has ?_); (· kernel_rfl); intro w X hs1; replace hs := hs.trans hs1) | ((with_reducible refine r_pureB (c_hlc_May _) ?_ hs.has ?_ ?_); (· kernel_rfl); all_goals (intro _ w X hs1; replace hs := hs.trans hs1)) | ((first | (with_reducible refine fin_ret0 hs ?_) | (with_reducible refine fin_ret0 (hs0.trans hs) ?_)); intro wa hk; (simp_all [applyOk] <;> omega)) | (refine r_ct0V (d_mvcc_PendingMay  (p := ⟨t,st,[],l⟩) (Sl.nil _ _ _) (by first | assumption | exact Sl.mv (by assumption) (by (first | exact mv0 | exact mv1 (by assumption) | exact mv2 (by assumption) (by assumption))) | exact Pends.mv (by assumption) (by (first | exact mv0 | exact mv1 (by assumption) | exact mv2 (by assumption) (by assumption))) | exact Hists.mv (by assumption) (by (first | exact mv0 | exact mv1 (by assumption) | exact mv2 (by assumption) (by assumption))) | exact Rec.at.mv (by assumption) (by (first | exact mv0 | exact mv1 (by assumption) | exact mv2 (by assumption) (by assumption))) | exact Own.sl (by assumption) | exact Cells.mv (by assumption) (by (first | exact mv0 | exact mv1 (by assumption) | exact mv2 (by assumption) (by assumption))) | exact Cells.mv (RowIs.cells (by assumption)) (by (first | exact mv0 | exact mv1 (by assumption) | exact mv2 (by assumption) (by assumption))) | omega) hb) (by kernel_rfl) hs.has ?_; intro w X hs1; replace hs := hs.trans hs1)
def pointOk (x : Nat) : Bool := decide ((toPoint x).2 = 0) && fgt (toPoint x).1 0 && flt (toPoint x).1 one64
def rangeNo (n : Int) : Bool := decide (n ≥ 1) && decide (n ≤ 12)
def Rec.fieldsOk (r : Rec) : Bool :=
  if r.kind = 1 then r.state.may
  else if r.kind = 2 then decide (r.n ≥ 0) && decide (r.n ≤ 281474976710656)
  else if r.kind = 3 then decide (Pend.err ⟨r.txn, r.stamp, r.reads, r.writes⟩ = 0) && partsOk r.parts
  else if r.kind = 4 then r.txn.may && r.stamp.decided r.commit
  else if r.kind = 5 then r.stamp.may
  else if r.kind = 6 then pointOk r.point && rangeNo r.n && r.stamp.may
  else if r.kind = 7 then rangeNo r.n
  else if r.kind = 8 then decide (r.n ≥ 1)
  else if r.kind = 9 then r.txn.may && r.stamp.moment && partsOk r.parts
  else if r.kind = 10 then r.txn.may
  else if r.kind = 11 then applyOk r.prev r.stamp r.txn r.writes
  else r.stamp.may && pairsOk r.pairs
theorem d_recs_fields {w : World} {X : XS} {r : Rec} {vr vw vp vq vh vd : Value} (h : r.at w X vr vw vp vq vh vd) (hsm : r.small) :
    Ct Tryz.prog 83 #[r.v vr vw vp vq vh vd] w X nX fun v _ _ => v = B r.fieldsOk := by
  intro w0 hk
  obtain ⟨h1, h2, h3, h4, h5, h6⟩ := h.mv hk.mvo
  obtain ⟨b1, n1, c1, rfl⟩ := h1.form
  obtain ⟨b2, n2, c2, rfl⟩ := h2.form
  apply ok_recs_fields; unfold vc_recs_fields
  have hs := Since.init w0
  repeat' first | with_reducible (first | apply condW_T | apply condW_F | apply un_selT | apply un_selFT | apply grdV_onT | apply grdW_offT | apply rdW_pickT | apply rdW_pickF | apply gE_T | apply gE_FT) | (with_reducible apply r_eql <;> intro _) | (with_reducible apply r_leq <;> intro _) | (with_reducible apply r_geq <;> intro _) | (with_reducible apply r_flss <;> intro _) | (with_reducible apply r_fgtr <;> intro _) | ((with_reducible apply r_bld); (· kernel_rfl)) | ((with_reducible apply m_ext); (· rfl)) | with_reducible apply jn_of | ((with_reducible refine r_pureB (c_hlc_May _) ?_ hs.has ?_ ?_); (· kernel_rfl); all_goals (intro _ w X hs1; replace hs := hs.trans hs1)) | ((with_reducible refine r_pureB (c_mvcc_TxnMay _) ?_ hs.has ?_ ?_); (· kernel_rfl); all_goals (intro _ w X hs1; replace hs := hs.trans hs1)) | ((with_reducible refine r_pureB (c_recs_decided _ _) ?_ hs.has ?_ ?_); (· kernel_rfl); all_goals (intro _ w X hs1; replace hs := hs.trans hs1)) | ((with_reducible refine r_pure (c_place_Point _) ?_ hs.has ?_); (· kernel_rfl); intro w X hs1; replace hs := hs.trans hs1) | ((with_reducible refine r_pureB (c_recs_ranges _) ?_ hs.has ?_ ?_); (· kernel_rfl); all_goals (intro _ w X hs1; replace hs := hs.trans hs1)) | ((with_reducible refine r_pureB (c_recs_moment _) ?_ hs.has ?_ ?_); (· kernel_rfl); all_goals (intro _ w X hs1; replace hs := hs.trans hs1)) | (refine r_ct0B (d_recs_StateMay  (s := r.state) (by first | assumption | exact Sl.mv (by assumption) (by (first | exact mv0 | exact mv1 (by assumption) | exact mv2 (by assumption) (by assumption))) | exact Pends.mv (by assumption) (by (first | exact mv0 | exact mv1 (by assumption) | exact mv2 (by assumption) (by assumption))) | exact Hists.mv (by assumption) (by (first | exact mv0 | exact mv1 (by assumption) | exact mv2 (by assumption) (by assumption))) | exact Rec.at.mv (by assumption) (by (first | exact mv0 | exact mv1 (by assumption) | exact mv2 (by assumption) (by assumption))) | exact Own.sl (by assumption) | exact Cells.mv (by assumption) (by (first | exact mv0 | exact mv1 (by assumption) | exact mv2 (by assumption) (by assumption))) | exact Cells.mv (RowIs.cells (by assumption)) (by (first | exact mv0 | exact mv1 (by assumption) | exact mv2 (by assumption) (by assumption))) | omega) (by first | assumption | exact Sl.mv (by assumption) (by (first | exact mv0 | exact mv1 (by assumption) | exact mv2 (by assumption) (by assumption))) | exact Pends.mv (by assumption) (by (first | exact mv0 | exact mv1 (by assumption) | exact mv2 (by assumption) (by assumption))) | exact Hists.mv (by assumption) (by (first | exact mv0 | exact mv1 (by assumption) | exact mv2 (by assumption) (by assumption))) | exact Rec.at.mv (by assumption) (by (first | exact mv0 | exact mv1 (by assumption) | exact mv2 (by assumption) (by assumption))) | exact Own.sl (by assumption) | exact Cells.mv (by assumption) (by (first | exact mv0 | exact mv1 (by assumption) | exact mv2 (by assumption) (by assumption))) | exact Cells.mv (RowIs.cells (by assumption)) (by (first | exact mv0 | exact mv1 (by assumption) | exact mv2 (by assumption) (by assumption))) | omega) hsm.state) (by kernel_rfl) hs.has ?_ ?_ <;> (intro _ w X hs1; replace hs := hs.trans hs1)) | (refine r_ct0V (d_mvcc_PendingMay  (p := ⟨r.txn,r.stamp,r.reads,r.writes⟩) (by first | assumption | exact Sl.mv (by assumption) (by (first | exact mv0 | exact mv1 (by assumption) | exact mv2 (by assumption) (by assumption))) | exact Pends.mv (by assumption) (by (first | exact mv0 | exact mv1 (by assumption) | exact mv2 (by assumption) (by assumption))) | exact Hists.mv (by assumption) (by (first | exact mv0 | exact mv1 (by assumption) | exact mv2 (by assumption) (by assumption))) | exact Rec.at.mv (by assumption) (by (first | exact mv0 | exact mv1 (by assumption) | exact mv2 (by assumption) (by assumption))) | exact Own.sl (by assumption) | exact Cells.mv (by assumption) (by (first | exact mv0 | exact mv1 (by assumption) | exact mv2 (by assumption) (by assumption))) | exact Cells.mv (RowIs.cells (by assumption)) (by (first | exact mv0 | exact mv1 (by assumption) | exact mv2 (by assumption) (by assumption))) | omega) (by first | assumption | exact Sl.mv (by assumption) (by (first | exact mv0 | exact mv1 (by assumption) | exact mv2 (by assumption) (by assumption))) | exact Pends.mv (by assumption) (by (first | exact mv0 | exact mv1 (by assumption) | exact mv2 (by assumption) (by assumption))) | exact Hists.mv (by assumption) (by (first | exact mv0 | exact mv1 (by assumption) | exact mv2 (by assumption) (by assumption))) | exact Rec.at.mv (by assumption) (by (first | exact mv0 | exact mv1 (by assumption) | exact mv2 (by assumption) (by assumption))) | exact Own.sl (by assumption) | exact Cells.mv (by assumption) (by (first | exact mv0 | exact mv1 (by assumption) | exact mv2 (by assumption) (by assumption))) | exact Cells.mv (RowIs.cells (by assumption)) (by (first | exact mv0 | exact mv1 (by assumption) | exact mv2 (by assumption) (by assumption))) | omega) hsm.writes) (by kernel_rfl) hs.has ?_; intro w X hs1; replace hs := hs.trans hs1) | (refine r_ct0B (d_recs_Parts  (by first | assumption | exact Sl.mv (by assumption) (by (first | exact mv0 | exact mv1 (by assumption) | exact mv2 (by assumption) (by assumption))) | exact Pends.mv (by assumption) (by (first | exact mv0 | exact mv1 (by assumption) | exact mv2 (by assumption) (by assumption))) | exact Hists.mv (by assumption) (by (first | exact mv0 | exact mv1 (by assumption) | exact mv2 (by assumption) (by assumption))) | exact Rec.at.mv (by assumption) (by (first | exact mv0 | exact mv1 (by assumption) | exact mv2 (by assumption) (by assumption))) | exact Own.sl (by assumption) | exact Cells.mv (by assumption) (by (first | exact mv0 | exact mv1 (by assumption) | exact mv2 (by assumption) (by assumption))) | exact Cells.mv (RowIs.cells (by assumption)) (by (first | exact mv0 | exact mv1 (by assumption) | exact mv2 (by assumption) (by assumption))) | omega)) (by kernel_rfl) hs.has ?_ ?_ <;> (intro _ w X hs1; replace hs := hs.trans hs1)) | (refine r_ct0B (d_recs_pairs  (by first | assumption | exact Sl.mv (by assumption) (by (first | exact mv0 | exact mv1 (by assumption) | exact mv2 (by assumption) (by assumption))) | exact Pends.mv (by assumption) (by (first | exact mv0 | exact mv1 (by assumption) | exact mv2 (by assumption) (by assumption))) | exact Hists.mv (by assumption) (by (first | exact mv0 | exact mv1 (by assumption) | exact mv2 (by assumption) (by assumption))) | exact Rec.at.mv (by assumption) (by (first | exact mv0 | exact mv1 (by assumption) | exact mv2 (by assumption) (by assumption))) | exact Own.sl (by assumption) | exact Cells.mv (by assumption) (by (first | exact mv0 | exact mv1 (by assumption) | exact mv2 (by assumption) (by assumption))) | exact Cells.mv (RowIs.cells (by assumption)) (by (first | exact mv0 | exact mv1 (by assumption) | exact mv2 (by assumption) (by assumption))) | omega)) (by kernel_rfl) hs.has ?_ ?_ <;> (intro _ w X hs1; replace hs := hs.trans hs1)) | (refine r_ct0B ((d_recs_Apply (l := r.writes))  (by first | assumption | exact Sl.mv (by assumption) (by (first | exact mv0 | exact mv1 (by assumption) | exact mv2 (by assumption) (by assumption))) | exact Pends.mv (by assumption) (by (first | exact mv0 | exact mv1 (by assumption) | exact mv2 (by assumption) (by assumption))) | exact Hists.mv (by assumption) (by (first | exact mv0 | exact mv1 (by assumption) | exact mv2 (by assumption) (by assumption))) | exact Rec.at.mv (by assumption) (by (first | exact mv0 | exact mv1 (by assumption) | exact mv2 (by assumption) (by assumption))) | exact Own.sl (by assumption) | exact Cells.mv (by assumption) (by (first | exact mv0 | exact mv1 (by assumption) | exact mv2 (by assumption) (by assumption))) | exact Cells.mv (RowIs.cells (by assumption)) (by (first | exact mv0 | exact mv1 (by assumption) | exact mv2 (by assumption) (by assumption))) | omega) hsm.writes) (by kernel_rfl) hs.has ?_ ?_ <;> (intro _ w X hs1; replace hs := hs.trans hs1))
  all_goals
    (with_reducible refine fin_ret0 hs ?_)
    intro wa hk9
    unfold Rec.fieldsOk
    repeat (first | rw [if_pos (by omega)] | rw [if_neg (by omega)])
    simp_all [pointOk, rangeNo, one64] <;> omega
def Rec.err (r : Rec) : Int := if !r.strip.2 then 7 else if !r.strip.1.isZero || !r.fieldsOk then 4 else 0
theorem d_recs_May {w : World} {X : XS} {r : Rec} {vr vw vp vq vh vd : Value} (h : r.at w X vr vw vp vq vh vd) (hsm : r.small) :
    Ct Tryz.prog 58 #[r.v vr vw vp vq vh vd] w X nX fun v _ _ => v = I r.err := by
  intro w0 hk
  have h := h.mv hk.mvo
  apply ok_recs_May; unfold vc_recs_May
  have hs := Since.init w0
  refine r_ct0 (d_recs_without h) (by kernel_rfl) hs.has ?_
  rintro v wa w X ⟨vr', vw', vp', vq', vh', vd', rfl, hat⟩ hle hin hs1
  replace hs := hs.trans hs1
  have q1 := hat.1.one
  have q2 := hat.2.1.one
  have q3 := hat.2.2.1.one
  have q4 := hat.2.2.2.1.one
  have q5 := hat.2.2.2.2.1.one
  have q6 := hat.2.2.2.2.2.one
  cases hb : r.strip.2 <;>
  repeat' first | with_reducible (first | apply condW_T | apply condW_F) | ((with_reducible apply m_sub); (· (simp only [Value.cells, nq1, nq2, nq3, nq4, nq5, nq6, setL, nq7, nq8, nq9, nq0, Nat.reduceAdd, Nat.zero_add]; try rfl))) | with_reducible (first | apply un_box | apply un_selF | apply un_selTF | apply grdV_onF | apply grdW_offF | apply rdW_pickT | apply rdW_pickF | apply gE_F | apply gE_TF | apply r_notT | apply r_notF) | ((with_reducible apply m_ext); (· rfl)) | ((with_reducible apply m_chkc); (case h => (repeat' first | with_reducible apply all_one_cons | with_reducible exact all_one_nil | assumption | rfl | exact Sl.one (by assumption) | exact Rws.one (by assumption) | exact Sl.one (Own.sl (by assumption))))) | ((with_reducible apply chk_T); (· first | rfl | assumption | exact Sl.one (by assumption) | exact Rws.one (by assumption) | exact Sl.one (Own.sl (by assumption)))) | with_reducible apply jn_of | ((first | (with_reducible refine fin_ret0 hs ?_) | (with_reducible refine fin_ret0 (hs0.trans hs) ?_)); intro wa hk; (simp [Rec.err, *])) | (refine r_ct0B (d_recs_zero  (r := r.strip.1) (by first | assumption | exact Sl.mv (by assumption) (by (first | exact mv0 | exact mv1 (by assumption) | exact mv2 (by assumption) (by assumption))) | exact Pends.mv (by assumption) (by (first | exact mv0 | exact mv1 (by assumption) | exact mv2 (by assumption) (by assumption))) | exact Hists.mv (by assumption) (by (first | exact mv0 | exact mv1 (by assumption) | exact mv2 (by assumption) (by assumption))) | exact Rec.at.mv (by assumption) (by (first | exact mv0 | exact mv1 (by assumption) | exact mv2 (by assumption) (by assumption))) | exact Own.sl (by assumption) | exact Cells.mv (by assumption) (by (first | exact mv0 | exact mv1 (by assumption) | exact mv2 (by assumption) (by assumption))) | exact Cells.mv (RowIs.cells (by assumption)) (by (first | exact mv0 | exact mv1 (by assumption) | exact mv2 (by assumption) (by assumption))) | omega)) (by kernel_rfl) hs.has ?_ ?_ <;> (intro _ w X hs1; replace hs := hs.trans hs1)) | (refine r_ct0B ((d_recs_fields (r := r))  (h.mv (Since.mv hs)) hsm) (by kernel_rfl) hs.has ?_ ?_ <;> (intro _ w X hs1; replace hs := hs.trans hs1))
end Go.Proofs.YtnphlhpdikmpiaaGreat
namespace Go.Proofs.YtnphlhpdikmpiaaGreat
open Go.Eng
set_option maxRecDepth 100000
set_option maxHeartbeats 1000000
set_option linter.unusedVariables false
set_option linter.unusedSimpArgs false
attribute [local irreducible] un jn chk fld ld1 ldA st1 ixS lnS lnT bld cvI cvF ixA bsS apS rdV rdW grdW eW eV eU eC eF gE condW fin pickN nilN binS vS lp0 lp1 lp2 lp3 lp4 lp5 lp6 lp7 nx0 nx1 nx2 nx3 nx4 nx5 nx6 nx7
structure Opn where
  p : Pend
  at' : Int
  br : Option Nat
  bw : Option Nat
abbrev Opn.v (x : Opn) (vr vw : Value) : Value := .agg #[I x.p.txn.coord, I x.p.txn.life, I x.p.txn.sq, I x.p.stamp.wall, I x.p.stamp.logic, I x.p.stamp.node, vr, vw, I x.at']
def rdOpen (w : World) (A : XS) (v : Value) (x : Opn) : Prop := ∃ vr vw, v = x.v vr vw ∧ Own w A 0 9 1 vr (x.p.reads.map S1) ∧ Own w A 0 66 4 vw (x.p.writes.map KV.l) ∧
  vr.ownBlock = x.br ∧ vw.ownBlock = x.bw
theorem rdOpen.mv : MovesV rdOpen := fun _ _ _ _ _ _ ⟨vr, vw, h, h1, h2, h3⟩ m => ⟨vr, vw, h, h1.mv m, h2.mv m, h3⟩
def sepB (a b : Option Nat) : Prop := ∀ g, a = some g → b ≠ some g
def Opn.sep (x y : Opn) : Prop := sepB x.br y.br ∧ sepB x.br y.bw ∧ sepB x.bw y.br ∧ sepB x.bw y.bw
structure TailS where
  id : Int
  next : Int
  closed : Stamp
abbrev TailM := List (Txn × Opn)
structure TailIs (w : World) (X A : XS) (tb mb : Nat) (s : TailS) (m : TailM) : Prop where
  box : RowIs w X tb [I s.id, I s.next, I s.closed.wall, I s.closed.logic, I s.closed.node, .map (some mb)] 78
  opn : MapR w X A mb (fun k : Txn => k.v) rdOpen m
  sub : ∀ k, A k → X k
  off : ∀ k, A k → k ≠ tb ∧ k ≠ mb
  ne : tb ≠ mb
theorem TailIs.mv {w w' : World} {X Y A : XS} {tb mb : Nat} {s : TailS} {m : TailM} (h : TailIs w X A tb mb s m) (hX : ∀ k, X k → k < w.heap.size) (v : Mv X w Y w') : TailIs w' Y A tb mb s m := by
  have ma : Mv A w A w' := fun k hk hl => ⟨hk, (v k (h.sub k hk) hl).2⟩
  exact ⟨h.box.mv v, h.opn.mv rdOpen.mv v ma, fun k hk => (v k (h.sub k hk) (hX k (h.sub k hk))).1, h.off, h.ne⟩
theorem d_tail_Next {w : World} {X A : XS} {tb mb : Nat} {s : TailS} {m : TailM} (h : TailIs w X A tb mb s m) (hX : ∀ k, X k → k < w.heap.size) :
    Ct Tryz.prog 15 #[ptr tb 0] w X nX fun v _ _ => v = I s.next := by
  intro w0 hk
  replace h := h.mv hX hk.mvo
  have hbx := h.box
  apply ok_tail_Tail_Next; unfold vc_tail_Tail_Next
  have hs := Since.init w0
  repeat' first | with_reducible apply r_nil | ((with_reducible apply m_fld1); (· (first | assumption | exact RowIs.cells (by assumption))); (· kernel_rfl); (· rfl); intro _ _ _) | ((with_reducible apply m_ld1); (· (first | assumption | exact RowIs.cells (by assumption))); (· (first | exact mv0 | exact mv1 (by assumption) | exact mv2 (by assumption) (by assumption))); (· kernel_rfl); (· rfl)) | ((first | (with_reducible refine fin_ret0 hs ?_) | (with_reducible refine fin_ret0 (hs0.trans hs) ?_)); intro wa hk; rfl)
theorem d_tail_Closed {w : World} {X A : XS} {tb mb : Nat} {s : TailS} {m : TailM} (h : TailIs w X A tb mb s m) (hX : ∀ k, X k → k < w.heap.size) :
    Ct Tryz.prog 17 #[ptr tb 0] w X nX fun v _ _ => v = s.closed.v := by
  intro w0 hk
  replace h := h.mv hX hk.mvo
  have hbx := h.box
  apply ok_tail_Tail_Closed; unfold vc_tail_Tail_Closed
  have hs := Since.init w0
  repeat' first | ((with_reducible apply m_sub); (· (simp only [Value.cells, nq1, nq2, nq3, nq4, nq5, nq6, setL, nq7, nq8, nq9, nq0, Nat.reduceAdd, Nat.zero_add]; try rfl))) | with_reducible (first | apply un_box | apply r_nil) | ((with_reducible apply m_fld); (· (first | assumption | exact RowIs.cells (by assumption))); (· kernel_rfl); (· rfl); (· (simp only [Value.cells, nq1, nq2, nq3, nq4, nq5, nq6, setL, nq7, nq8, nq9, nq0, Nat.reduceAdd, Nat.zero_add]; try rfl)); intro _ _ _) | ((with_reducible apply m_ldA); (· (first | assumption | exact RowIs.cells (by assumption))); (· (first | exact mv0 | exact mv1 (by assumption) | exact mv2 (by assumption) (by assumption))); (· kernel_rfl); (· rfl)) | ((with_reducible apply m_chkc); (case h => (repeat' first | with_reducible apply all_one_cons | with_reducible exact all_one_nil | assumption | rfl | exact Sl.one (by assumption) | exact Rws.one (by assumption) | exact Sl.one (Own.sl (by assumption))))) | ((with_reducible apply chk_T); (· first | rfl | assumption | exact Sl.one (by assumption) | exact Rws.one (by assumption) | exact Sl.one (Own.sl (by assumption)))) | ((first | (with_reducible refine fin_ret0 hs ?_) | (with_reducible refine fin_ret0 (hs0.trans hs) ?_)); intro wa hk; rfl)
def needGo (n : Int) (m : TailM) : Int := m.foldl (fun n x => min n x.2.at') n
def resGo (s : Stamp) (m : TailM) : Stamp := m.foldl (fun s x => if x.2.p.stamp.prior.1.cmp s < 0 then x.2.p.stamp.prior.1 else s) s
theorem d_tail_New {w : World} {X : XS} (id next : Int) :
    Ct Tryz.prog 7 #[I id, I next] w X nX fun v wa w' =>
      if id < 1 ∨ id > 12 ∨ next < 1 ∨ next > 100000000 then v = .tuple #[.pointer none, I 1]
      else ∃ tb mb, v = .tuple #[ptr tb 0, I 0] ∧ TailIs w' (made wa w') nX tb mb ⟨id, next, .zero⟩ [] := by
  intro w0 hk
  apply ok_tail_New; unfold vc_tail_New
  have hs := Since.init w0
  repeat' first | with_reducible (first | apply condW_T | apply condW_F | apply un_selF | apply un_selTF | apply grdV_onF | apply grdW_offF | apply rdW_pickT | apply rdW_pickF) | (with_reducible apply r_lss <;> intro _) | (with_reducible apply r_gtr <;> intro _) | ((first | (with_reducible refine fin_ret0 hs ?_) | (with_reducible refine fin_ret0 (hs0.trans hs) ?_)); intro wa hk; (dsimp only; rw [if_pos (by omega)]))
  refine m_makeMap (kv := fun k : Txn => k.v) rdOpen nX hs.has fun mb w1 X1 hmb hs1 hm1 => ?_
  have hmb1 := hm1.x
  replace hs := hs.trans hs1
  have hsz1 := hs.kp.size
  repeat' first | ((with_reducible apply r_bld); (· kernel_rfl)) | ((with_reducible apply m_boxA); (case hX => exact hs.has); intro bx w X hbx hs1 hrow; have hs0 := hs.trans hs1; replace hs := Since.refl' hs1.has)
  refine fin_ret0 (hs0.trans hs) ?_
  intro wa hk
  dsimp only
  rw [if_neg (by omega)]
  have hrl := (hrow.kp hk).lt
  have hkp := ‹Since X1 w1 _ _›.kp.trans (hk.less ‹Since X1 w1 _ _›.sub)
  have hsz4 := hkp.size
  exact ⟨bx, mb, rfl, hrow.own.mv (Mv.one hk hrow.1 ⟨by omega, hrl⟩), hm1.own.mv rdOpen.mv (Mv.one hkp hmb1.1 ⟨hmb, by omega⟩) (fun _ h => h.elim), fun k hk => hk.elim, fun k hk => hk.elim, by omega⟩
end Go.Proofs.YtnphlhpdikmpiaaGreat
namespace Go.Proofs.YtnphlhpdikmpiaaGreat
open Go.Eng
set_option maxRecDepth 100000
set_option maxHeartbeats 1000000
set_option linter.unusedVariables false
set_option linter.unusedSimpArgs false
attribute [local irreducible] un jn chk fld ld1 ldA st1 ixS lnS lnT bld cvI cvF ixA bsS apS rdV rdW grdW eW eV eU eC eF gE condW fin pickN nilN binS vS lp0 lp1 lp2 lp3 lp4 lp5 lp6 lp7 nx0 nx1 nx2 nx3 nx4 nx5 nx6 nx7
theorem prior_comm (p q s : Stamp) : (if q.cmp (if p.cmp s < 0 then p else s) < 0 then q else (if p.cmp s < 0 then p else s)) = (if p.cmp (if q.cmp s < 0 then q else s) < 0 then p else (if q.cmp s < 0 then q else s)) := by
  have key : ∀ a b : Stamp, a.cmp b < 0 ↔ (a.wall < b.wall ∨ a.wall = b.wall ∧ (a.logic < b.logic ∨ a.logic = b.logic ∧ a.node < b.node)) := by
    intro a b; simp only [Stamp.cmp]; grind
  have ext : ∀ a b : Stamp, a.wall = b.wall → a.logic = b.logic → a.node = b.node → a = b := fun a b h1 h2 h3 => Stamp.ext h1 h2 h3
  by_cases h1 : p.cmp s < 0 <;> by_cases h2 : q.cmp s < 0 <;> simp only [h1, h2, if_true, if_false]
  · by_cases h3 : q.cmp p < 0 <;> by_cases h4 : p.cmp q < 0 <;> simp only [h3, h4, if_true, if_false]
    · rw [key] at h3 h4; omega
    · rw [key] at h3 h4; exact (ext _ _ (by omega) (by omega) (by omega)).symm
  · by_cases h3 : q.cmp p < 0
    · rw [key] at h1 h2 h3; omega
    · simp only [h3, if_false]
  · by_cases h3 : p.cmp q < 0
    · rw [key] at h1 h2 h3; omega
    · simp only [h3, if_false]
theorem needGo_split {l : TailM} {k : Txn} {a : Opn} (u : Int) (hn : (l.map (·.1)).Nodup) (h : (k, a) ∈ l) : needGo u l = needGo (min u a.at') (l.filter fun y => decide (y.1 ≠ k)) :=
  fold_split (f := fun n (x : Txn × Opn) => min n x.2.at') (fun s x y => by omega) u hn h
theorem resGo_split {l : TailM} {k : Txn} {a : Opn} (u : Stamp) (hn : (l.map (·.1)).Nodup) (h : (k, a) ∈ l) :
    resGo u l = resGo (if a.p.stamp.prior.1.cmp u < 0 then a.p.stamp.prior.1 else u) (l.filter fun y => decide (y.1 ≠ k)) :=
  fold_split (f := fun s (x : Txn × Opn) => if x.2.p.stamp.prior.1.cmp s < 0 then x.2.p.stamp.prior.1 else s) (fun s x y => prior_comm _ _ _) u hn h
theorem d_tail_Need {w : World} {X A : XS} {tb mb : Nat} {s : TailS} {m : TailM} (h : TailIs w X A tb mb s m) (hX : ∀ k, X k → k < w.heap.size) :
    Ct Tryz.prog 19 #[ptr tb 0] w X nX fun v _ _ => v = I (needGo s.next m) := by
  intro w0 hk
  replace h := h.mv hX hk.mvo
  have hbx := h.box
  apply ok_tail_Tail_Need; unfold vc_tail_Tail_Need
  have hs := Since.init w0
  repeat' first | with_reducible apply r_nil | ((with_reducible apply m_fld1); (· (first | assumption | exact RowIs.cells (by assumption))); (· kernel_rfl); (· rfl); intro _ _ _) | ((with_reducible apply m_ld1); (· (first | assumption | exact RowIs.cells (by assumption))); (· (first | exact mv0 | exact mv1 (by assumption) | exact mv2 (by assumption) (by assumption))); (· kernel_rfl); (· rfl))
  refine m_range (kt := 39) (et := 90) h.opn rdOpen.mv h.sub (by kernel_rfl) hs.has fun r w X hr hs1 hit => ?_
  replace hs := hs.trans hs1
  refine lp1_of (fun n a w X => ∃ (left : TailM) (u : Int), a = I u ∧ n = left.length ∧ Since (old w0) w0 X w ∧ ItR w X A r mb (fun k : Txn => k.v) rdOpen m left ∧ needGo s.next m = needGo u left)
    m.length ⟨m, _, rfl, rfl, hs, hit, rfl⟩ ?_
  rintro n a w X ⟨left, u, rfl, rfl, hs, hit, hw⟩
  refine m_next hit rdOpen.mv (fun k hk => ⟨hs.sub k (h.sub k hk), fun e => by have : k < w0.heap.size := h.sub k hk; omega⟩) hs.has (fun e0 w X hs1 => ?_) fun kx q v hmem w1 X1 hc hrd hit1 he => ?_
  · replace hs := hs.trans hs1
    repeat' first | with_reducible apply condW_F | ((with_reducible apply m_ext); (· rfl)) | ((first | (with_reducible refine fin_ret0 hs ?_) | (with_reducible refine fin_ret0 (hs0.trans hs) ?_)); intro wa hk; (rw [hw, e0]; rfl))
  · have hs0 := hs.chg hc fun k hk e => by have : k < w0.heap.size := hk; omega
    have hA1 : ∀ k, A k → X1 k := fun k hk => hs0.sub k (h.sub k hk)
    obtain ⟨ur, uw, rfl, q1, q2, q3⟩ := hrd
    have o1 := q1.sl.one
    have o2 := q2.sl.one
    rw [needGo_split u hit.nodup hmem] at hw
    replace hs := Since.refl' hs0.has
    repeat' first | with_reducible apply condW_T | ((with_reducible apply m_ext); (· rfl))
    refine m_entry hs.has he fun w X hs1 => ?_
    replace hs := hs.trans hs1
    repeat' first | ((with_reducible apply un_cell); (· rfl)) | with_reducible apply un_box | ((with_reducible apply m_ext); (· rfl)) | ((with_reducible apply m_chkc); (case h => (repeat' first | with_reducible apply all_one_cons | with_reducible exact all_one_nil | assumption | rfl | exact Sl.one (by assumption) | exact Rws.one (by assumption) | exact Sl.one (Own.sl (by assumption))))) | ((with_reducible apply chk_T); (· first | rfl | assumption | exact Sl.one (by assumption) | exact Rws.one (by assumption) | exact Sl.one (Own.sl (by assumption)))) | (with_reducible apply r_min)
    exact nx1_of _ (left_lt hmem) ⟨_, _, rfl, rfl, hs0.trans hs, hit1.mv rdOpen.mv (Since.mv hs) (Since.mvA hs hA1), hw⟩
theorem d_tail_Resolved {w : World} {X A : XS} {tb mb : Nat} {s : TailS} {m : TailM} (h : TailIs w X A tb mb s m) (hX : ∀ k, X k → k < w.heap.size) :
    Ct Tryz.prog 18 #[ptr tb 0] w X nX fun v _ _ => v = (resGo s.closed m).v := by
  intro w0 hk
  replace h := h.mv hX hk.mvo
  have hbx := h.box
  apply ok_tail_Tail_Resolved; unfold vc_tail_Tail_Resolved
  have hs := Since.init w0
  repeat' first | with_reducible (first | apply un_box | apply r_nil) | ((with_reducible apply m_fld1); (· (first | assumption | exact RowIs.cells (by assumption))); (· kernel_rfl); (· rfl); intro _ _ _) | ((with_reducible apply m_fld); (· (first | assumption | exact RowIs.cells (by assumption))); (· kernel_rfl); (· rfl); (· (simp only [Value.cells, nq1, nq2, nq3, nq4, nq5, nq6, setL, nq7, nq8, nq9, nq0, Nat.reduceAdd, Nat.zero_add]; try rfl)); intro _ _ _) | ((with_reducible apply m_ld1); (· (first | assumption | exact RowIs.cells (by assumption))); (· (first | exact mv0 | exact mv1 (by assumption) | exact mv2 (by assumption) (by assumption))); (· kernel_rfl); (· rfl)) | ((with_reducible apply m_ldA); (· (first | assumption | exact RowIs.cells (by assumption))); (· (first | exact mv0 | exact mv1 (by assumption) | exact mv2 (by assumption) (by assumption))); (· kernel_rfl); (· rfl)) | ((with_reducible apply m_chkc); (case h => (repeat' first | with_reducible apply all_one_cons | with_reducible exact all_one_nil | assumption | rfl | exact Sl.one (by assumption) | exact Rws.one (by assumption) | exact Sl.one (Own.sl (by assumption))))) | ((with_reducible apply chk_T); (· first | rfl | assumption | exact Sl.one (by assumption) | exact Rws.one (by assumption) | exact Sl.one (Own.sl (by assumption))))
  refine m_range (kt := 39) (et := 90) h.opn rdOpen.mv h.sub (by kernel_rfl) hs.has fun r w X hr hs1 hit => ?_
  replace hs := hs.trans hs1
  refine lp1_of (fun n a w X => ∃ (left : TailM) (u : Stamp), a = u.v ∧ n = left.length ∧ Since (old w0) w0 X w ∧ ItR w X A r mb (fun k : Txn => k.v) rdOpen m left ∧ resGo s.closed m = resGo u left)
    m.length ⟨m, _, rfl, rfl, hs, hit, rfl⟩ ?_
  rintro n a w X ⟨left, u, rfl, rfl, hs, hit, hw⟩
  refine m_next hit rdOpen.mv (fun k hk => ⟨hs.sub k (h.sub k hk), fun e => by have : k < w0.heap.size := h.sub k hk; omega⟩) hs.has (fun e0 w X hs1 => ?_) fun kx q v hmem w1 X1 hc hrd hit1 he => ?_
  · replace hs := hs.trans hs1
    repeat' first | with_reducible apply condW_F | ((with_reducible apply m_sub); (· (simp only [Value.cells, nq1, nq2, nq3, nq4, nq5, nq6, setL, nq7, nq8, nq9, nq0, Nat.reduceAdd, Nat.zero_add]; try rfl))) | with_reducible apply un_box | ((with_reducible apply m_ext); (· rfl)) | ((with_reducible apply m_chkc); (case h => (repeat' first | with_reducible apply all_one_cons | with_reducible exact all_one_nil | assumption | rfl | exact Sl.one (by assumption) | exact Rws.one (by assumption) | exact Sl.one (Own.sl (by assumption))))) | ((with_reducible apply chk_T); (· first | rfl | assumption | exact Sl.one (by assumption) | exact Rws.one (by assumption) | exact Sl.one (Own.sl (by assumption)))) | ((first | (with_reducible refine fin_ret0 hs ?_) | (with_reducible refine fin_ret0 (hs0.trans hs) ?_)); intro wa hk; (rw [hw, e0]; rfl))
  · have hs0 := hs.chg hc fun k hk e => by have : k < w0.heap.size := hk; omega
    have hA1 : ∀ k, A k → X1 k := fun k hk => hs0.sub k (h.sub k hk)
    obtain ⟨ur, uw, rfl, q1, q2, q3⟩ := hrd
    have o1 := q1.sl.one
    have o2 := q2.sl.one
    rw [resGo_split u hit.nodup hmem] at hw
    replace hs := Since.refl' hs0.has
    repeat' first | with_reducible apply condW_T | ((with_reducible apply m_ext); (· rfl)) | with_reducible apply jn_of
    refine m_entry hs.has he fun w X hs1 => ?_
    replace hs := hs.trans hs1
    repeat' first | with_reducible (first | apply condW_T | apply condW_F) | ((with_reducible apply m_sub); (· (simp only [Value.cells, nq1, nq2, nq3, nq4, nq5, nq6, setL, nq7, nq8, nq9, nq0, Nat.reduceAdd, Nat.zero_add]; try rfl))) | with_reducible apply un_box | (with_reducible apply r_lss <;> intro _) | ((with_reducible apply m_ext); (· rfl)) | ((with_reducible apply m_chkc); (case h => (repeat' first | with_reducible apply all_one_cons | with_reducible exact all_one_nil | assumption | rfl | exact Sl.one (by assumption) | exact Rws.one (by assumption) | exact Sl.one (Own.sl (by assumption))))) | ((with_reducible apply chk_T); (· first | rfl | assumption | exact Sl.one (by assumption) | exact Rws.one (by assumption) | exact Sl.one (Own.sl (by assumption)))) | ((with_reducible refine r_pure (c_hlc_Prior _) ?_ hs.has ?_); (· kernel_rfl); intro w X hs1; replace hs := hs.trans hs1) | ((with_reducible refine r_pure (c_hlc_Compare _ _) ?_ hs.has ?_); (· kernel_rfl); intro w X hs1; replace hs := hs.trans hs1)
    all_goals
      refine nx1_of _ (left_lt hmem) ⟨_, _, ?_, rfl, hs0.trans hs, hit1.mv rdOpen.mv (Since.mv hs) (Since.mvA hs hA1), hw⟩
    all_goals simp [*]
end Go.Proofs.YtnphlhpdikmpiaaGreat
namespace Go.Proofs.YtnphlhpdikmpiaaGreat
open Go.Eng
set_option maxRecDepth 100000
set_option maxHeartbeats 1000000
set_option linter.unusedVariables false
set_option linter.unusedSimpArgs false
attribute [local irreducible] un jn chk fld ld1 ldA st1 ixS lnS lnT bld cvI cvF ixA bsS apS rdV rdW grdW eW eV eU eC eF gE condW fin pickN nilN binS vS lp0 lp1 lp2 lp3 lp4 lp5 lp6 lp7 nx0 nx1 nx2 nx3 nx4 nx5 nx6 nx7
def mayErr (s : TailS) (m : TailM) (n : Int) (r : Rec) : Int :=
  if n ≠ s.next ∨ n > 99999999 then 14
  else if r.err ≠ 0 then 4
  else if r.kind = 1 then (if r.state.range.id ≠ s.id then 4 else if r.state.pend.any (fun p => (getM p.txn m).isSome) then 9 else 0)
  else if r.kind = 3 then (if (getM r.txn m).isSome then 9 else 0)
  else if r.kind = 2 ∨ r.kind = 4 ∨ r.kind = 5 ∨ r.kind = 6 ∨ r.kind = 7 then 0 else 4
theorem d_tail_may {w : World} {X A : XS} {tb mb : Nat} {s : TailS} {m : TailM} {n : Int} {r : Rec} {vr vw vp vq vh vd : Value} (h : TailIs w X A tb mb s m) (hX : ∀ k, X k → k < w.heap.size)
    (ha : r.at w X vr vw vp vq vh vd) (hsm : r.small) :
    Ct Tryz.prog 26 #[ptr tb 0, I n, r.v vr vw vp vq vh vd] w X nX fun v _ _ => v = I (mayErr s m n r) := by
  intro w0 hk
  replace h := h.mv hX hk.mvo
  replace ha := ha.mv hk.mvo
  have hbx := h.box
  have h6 := ha.2.2.2.2.2
  have hl6 := h6.len
  apply ok_tail_Tail_may; unfold vc_tail_Tail_may
  have hs := Since.init w0
  have zo : Value := .agg #[I 0, I 0, I 0, I 0, I 0, I 0, .slice none 0 0, .slice none 0 0, I 0]
  repeat' first | with_reducible (first | apply condW_T | apply condW_F | apply un_selF | apply un_selTF | apply grdV_onF | apply grdW_offF | apply rdW_pickT | apply rdW_pickF | apply r_nil) | (with_reducible apply r_eql <;> intro _) | (with_reducible apply r_neq <;> intro _) | (with_reducible apply r_gtr <;> intro _) | ((with_reducible apply m_fld1); (· (first | assumption | exact RowIs.cells (by assumption))); (· kernel_rfl); (· rfl); intro _ _ _) | ((with_reducible apply m_ld1); (· (first | assumption | exact RowIs.cells (by assumption))); (· (first | exact mv0 | exact mv1 (by assumption) | exact mv2 (by assumption) (by assumption))); (· kernel_rfl); (· rfl)) | ((with_reducible apply m_lnR); (· assumption); (· kernel_rfl)) | with_reducible apply jn_of | ((first | (with_reducible refine fin_ret0 hs ?_) | (with_reducible refine fin_ret0 (hs0.trans hs) ?_)); intro wa hk; (simp [mayErr, *] <;> omega)) | (refine r_ct0V ((d_recs_May (r := r))  (by first | assumption | exact Sl.mv (by assumption) (by (first | exact mv0 | exact mv1 (by assumption) | exact mv2 (by assumption) (by assumption))) | exact Pends.mv (by assumption) (by (first | exact mv0 | exact mv1 (by assumption) | exact mv2 (by assumption) (by assumption))) | exact Hists.mv (by assumption) (by (first | exact mv0 | exact mv1 (by assumption) | exact mv2 (by assumption) (by assumption))) | exact Rec.at.mv (by assumption) (by (first | exact mv0 | exact mv1 (by assumption) | exact mv2 (by assumption) (by assumption))) | exact Own.sl (by assumption) | exact Cells.mv (by assumption) (by (first | exact mv0 | exact mv1 (by assumption) | exact mv2 (by assumption) (by assumption))) | exact Cells.mv (RowIs.cells (by assumption)) (by (first | exact mv0 | exact mv1 (by assumption) | exact mv2 (by assumption) (by assumption))) | omega) hsm) (by kernel_rfl) hs.has ?_; intro w X hs1; replace hs := hs.trans hs1)
  · refine lp1_of (fun n a w X => ∃ i : Nat, a = I (i : Nat) ∧ n = r.state.pend.length - i ∧ i ≤ r.state.pend.length ∧ Since (old w0) w0 X w ∧
      r.state.pend.any (fun p => (getM p.txn m).isSome) = (r.state.pend.drop i).any (fun p => (getM p.txn m).isSome)) r.state.pend.length ⟨0, rfl, rfl, Nat.zero_le _, hs, by simp⟩ ?_
    rintro n a w X ⟨i, rfl, rfl, hi, hs, hw⟩
    rcases at_or (r.state.pend) i with ⟨hlt, x, hx, hd⟩ | ⟨hge, hd⟩
    · rw [hd, List.any_cons] at hw
      repeat' first | ((with_reducible refine r_lssT ?_ ?_); (· omega)) | with_reducible apply condW_T | ((with_reducible apply m_sub); (· (simp only [Value.cells, nq1, nq2, nq3, nq4, nq5, nq6, setL, nq7, nq8, nq9, nq0, Nat.reduceAdd, Nat.zero_add]; try rfl))) | with_reducible (first | apply un_box | apply r_nil) | ((with_reducible apply m_fld1); (· (first | assumption | exact RowIs.cells (by assumption))); (· kernel_rfl); (· rfl); intro _ _ _) | ((with_reducible apply m_ld1); (· (first | assumption | exact RowIs.cells (by assumption))); (· (first | exact mv0 | exact mv1 (by assumption) | exact mv2 (by assumption) (by assumption))); (· kernel_rfl); (· rfl)) | ((with_reducible apply m_ldA); (· (first | assumption | exact RowIs.cells (by assumption))); (· (first | exact mv0 | exact mv1 (by assumption) | exact mv2 (by assumption) (by assumption))); (· kernel_rfl); (· rfl)) | ((with_reducible apply m_ixP); (· assumption); (try (case hz => rfl)); (case hr => first | assumption | exact List.getElem?_eq_getElem (by omega)); (try (case hz => omega)); (case ht => kernel_rfl); (case hs => kernel_rfl); intros) | ((with_reducible apply m_chkc); (case h => (repeat' first | with_reducible apply all_one_cons | with_reducible exact all_one_nil | assumption | rfl | exact Sl.one (by assumption) | exact Rws.one (by assumption) | exact Sl.one (Own.sl (by assumption))))) | ((with_reducible apply chk_T); (· first | rfl | assumption | exact Sl.one (by assumption) | exact Rws.one (by assumption) | exact Sl.one (Own.sl (by assumption))))
      refine m_mapGet (kv := fun k : Txn => k.v) (k := x.txn) (kt := 39) (et := 90) (.agg #[I 0, I 0, I 0, I 0, I 0, I 0, .slice none 0 0, .slice none 0 0, I 0]) (h.mv (fun _ h => h) (Since.mv hs)).opn key_txn (by kernel_rfl) (by kernel_rfl) (fun v q hg hrd => ?_) fun hg => ?_
      · obtain ⟨ur, uw, rfl, q1, q2, q3⟩ := hrd
        have o1 := q1.sl.one
        have o2 := q2.sl.one
        repeat' first | with_reducible (first | apply condW_T | apply un_box) | ((with_reducible apply m_ext); (· rfl)) | ((with_reducible apply m_chkc); (case h => (repeat' first | with_reducible apply all_one_cons | with_reducible exact all_one_nil | assumption | rfl | exact Sl.one (by assumption) | exact Rws.one (by assumption) | exact Sl.one (Own.sl (by assumption))))) | ((with_reducible apply chk_T); (· first | rfl | assumption | exact Sl.one (by assumption) | exact Rws.one (by assumption) | exact Sl.one (Own.sl (by assumption)))) | ((first | (with_reducible refine fin_ret0 hs ?_) | (with_reducible refine fin_ret0 (hs0.trans hs) ?_)); intro wa hk; (simp [mayErr, hw, hg, *] <;> omega))
      · repeat' first | with_reducible (first | apply condW_F | apply un_box) | ((with_reducible apply m_ext); (· rfl)) | ((with_reducible apply m_chkc); (case h => (repeat' first | with_reducible apply all_one_cons | with_reducible exact all_one_nil | assumption | rfl | exact Sl.one (by assumption) | exact Rws.one (by assumption) | exact Sl.one (Own.sl (by assumption))))) | ((with_reducible apply chk_T); (· first | rfl | assumption | exact Sl.one (by assumption) | exact Rws.one (by assumption) | exact Sl.one (Own.sl (by assumption)))) | ((with_reducible apply r_add); (· omega); (· omega)) | ((with_reducible refine nx1_of ((r.state.pend).length - (i + 1)) ?_ ?_); (· omega); exact ⟨i + 1, by simp, rfl, by omega, hs, by rw [hw, hg]; rfl⟩)
    · rw [hd] at hw
      repeat' first | ((with_reducible refine r_lssF ?_ ?_); (· omega)) | with_reducible apply condW_F | ((first | (with_reducible refine fin_ret0 hs ?_) | (with_reducible refine fin_ret0 (hs0.trans hs) ?_)); intro wa hk; (simp [mayErr, hw, *] <;> omega))
  · refine m_mapGet (kv := fun k : Txn => k.v) (k := r.txn) (kt := 39) (et := 90) (.agg #[I 0, I 0, I 0, I 0, I 0, I 0, .slice none 0 0, .slice none 0 0, I 0]) (h.mv (fun _ h => h) (Since.mv hs)).opn key_txn (by kernel_rfl) (by kernel_rfl) (fun v q hg hrd => ?_) fun hg => ?_
    · obtain ⟨ur, uw, rfl, q1, q2, q3⟩ := hrd
      have o1 := q1.sl.one
      have o2 := q2.sl.one
      repeat' first | with_reducible (first | apply condW_T | apply un_box) | ((with_reducible apply m_ext); (· rfl)) | ((with_reducible apply m_chkc); (case h => (repeat' first | with_reducible apply all_one_cons | with_reducible exact all_one_nil | assumption | rfl | exact Sl.one (by assumption) | exact Rws.one (by assumption) | exact Sl.one (Own.sl (by assumption))))) | ((with_reducible apply chk_T); (· first | rfl | assumption | exact Sl.one (by assumption) | exact Rws.one (by assumption) | exact Sl.one (Own.sl (by assumption)))) | ((first | (with_reducible refine fin_ret0 hs ?_) | (with_reducible refine fin_ret0 (hs0.trans hs) ?_)); intro wa hk; (simp [mayErr, hg, *] <;> omega))
    · repeat' first | with_reducible (first | apply condW_F | apply un_box) | ((with_reducible apply m_ext); (· rfl)) | ((with_reducible apply m_chkc); (case h => (repeat' first | with_reducible apply all_one_cons | with_reducible exact all_one_nil | assumption | rfl | exact Sl.one (by assumption) | exact Rws.one (by assumption) | exact Sl.one (Own.sl (by assumption))))) | ((with_reducible apply chk_T); (· first | rfl | assumption | exact Sl.one (by assumption) | exact Rws.one (by assumption) | exact Sl.one (Own.sl (by assumption)))) | ((first | (with_reducible refine fin_ret0 hs ?_) | (with_reducible refine fin_ret0 (hs0.trans hs) ?_)); intro wa hk; (simp [mayErr, hg, *] <;> omega))
def below (pt : Nat) (k : BA) : Bool := flt (placeOf k) pt
theorem d_hand_Halve {w : World} {X : XS} {a : Value} {xs : List KV} {pt : Nat} (ha : Sl w X 4 a (xs.map KV.l)) (hb : xs.length ≤ 2 ^ 40) (hkz : ∀ x ∈ xs, x.key.size ≤ 2 ^ 40) :
    Ct Tryz.prog 61 #[a, .float .f64 pt] w X nX fun v wa w' => ∃ va vb, v = .tuple #[va, vb] ∧
      Own w' (made wa w') wa.heap.size 66 4 va ((xs.filter fun x => below pt x.key).map KV.l) ∧ Own w' (made wa w') wa.heap.size 66 4 vb ((xs.filter fun x => !below pt x.key).map KV.l) := by
  intro w0 hk
  replace ha := ha.mv hk.mvo
  have hla := ha.len'
  apply ok_hand_Halve; unfold vc_hand_Halve
  have hs := Since.init w0
  repeat' first | ((with_reducible apply m_lnS); (· (first | assumption | exact Own.sl (by assumption))); (· kernel_rfl))
  refine lp3_of (fun n a b c w X => ∃ i : Nat, a = I (i : Nat) ∧ n = xs.length - i ∧ i ≤ xs.length ∧ Since (old w0) w0 X w ∧
    Own w X w0.heap.size 66 4 b (((xs.take i).filter fun x => !below pt x.key).map KV.l) ∧ Own w X w0.heap.size 66 4 c (((xs.take i).filter fun x => below pt x.key).map KV.l) ∧ sepB c.ownBlock b.ownBlock)
    xs.length ⟨0, rfl, rfl, Nat.zero_le _, hs, by simpa using Own.nil _ _ _ _ _, by simpa using Own.nil _ _ _ _ _, by intro g hg; cases hg⟩ ?_
  rintro n a b c w X ⟨i, rfl, rfl, hi, hs, hob, hoc, hsep⟩
  rcases at_or (xs) i with ⟨hlt, x, hx, hd⟩ | ⟨hge, hd⟩
  · have hkx := hkz x (List.mem_of_getElem? hx)
    have hlb : ((xs.take i).filter fun x => !below pt x.key).length ≤ i := Nat.le_trans (List.length_filter_le _ _) (by simp; omega)
    have hlc : ((xs.take i).filter fun x => below pt x.key).length ≤ i := Nat.le_trans (List.length_filter_le _ _) (by simp; omega)
    repeat' first | ((with_reducible refine r_lssT ?_ ?_); (· omega)) | with_reducible (first | apply condW_T | apply condW_F) | ((with_reducible apply un_cell); (· rfl)) | ((with_reducible apply m_sub); (· (simp only [Value.cells, nq1, nq2, nq3, nq4, nq5, nq6, setL, nq7, nq8, nq9, nq0, Nat.reduceAdd, Nat.zero_add]; try rfl))) | with_reducible apply un_box | (with_reducible apply r_flss <;> intro _) | ((with_reducible apply m_ldA); (· (first | assumption | exact RowIs.cells (by assumption))); (· (first | exact mv0 | exact mv1 (by assumption) | exact mv2 (by assumption) (by assumption))); (· kernel_rfl); (· rfl)) | ((with_reducible apply m_ixS); (· (first | assumption | exact Own.sl (by assumption))); (try (case hz => rfl)); (case hr => first | assumption | exact List.getElem?_eq_getElem (by omega)); (try (case hz => omega)); (case ht => kernel_rfl); (case hs => kernel_rfl); intro _ _ _) | ((with_reducible apply m_chkc); (case h => (repeat' first | with_reducible apply all_one_cons | with_reducible exact all_one_nil | assumption | rfl | exact Sl.one (by assumption) | exact Rws.one (by assumption) | exact Sl.one (Own.sl (by assumption))))) | ((with_reducible apply chk_T); (· first | rfl | assumption | exact Sl.one (by assumption) | exact Rws.one (by assumption) | exact Sl.one (Own.sl (by assumption)))) | ((with_reducible apply r_add); (· omega); (· omega)) | ((with_reducible apply m_app1a); (case own => first | assumption | exact Own.since (by assumption) (by assumption)); (case hs => assumption); (case h0 => first | exact fun _ h => h | exact hs0.has); (case he => kernel_rfl); (case hk => rfl); (case h1 => (repeat' first | with_reducible apply all_one_cons | with_reducible exact all_one_nil | assumption | rfl | exact Sl.one (by assumption) | exact Rws.one (by assumption) | exact Sl.one (Own.sl (by assumption)))); (case hb => (simp only [List.length_map, List.length_take, List.length_append, List.length_cons, List.length_nil]; omega)); (case hl => (simp only [List.length_map, List.length_take, List.length_append, List.length_cons, List.length_nil]; omega)); intro acc w X hs1 ho hc hat; replace hs := hs1) | with_reducible apply jn_of | ((with_reducible refine r_pure (c_place_Of _ (by first | assumption | omega)) ?_ hs.has ?_); (· kernel_rfl); intro w X hs1; replace hs := hs.trans hs1)
    · have hbl : below pt x.key = true := ‹flt (placeOf x.key) pt = true›
      have hob1 := hob.since (by assumption)
      have hob2 := hob1.chg hc (fun g hg hgc => hsep g hgc hg)
      refine nx3_of (xs.length - (i + 1)) (by omega) ⟨i + 1, by simp, rfl, by omega, hs, ?_, ?_, ?_⟩
      · rw [List.take_add_one, hx]; simpa [List.filter_append, hbl] using hob2
      · rw [List.take_add_one, hx]; simpa [List.filter_append, hbl] using ho
      · rcases hat with e | ⟨g, e, hge⟩
        · rw [e]; exact hsep
        · intro g' hg' hb'
          rw [e] at hg'; cases hg'
          have := (hob1.ge hb').2; omega
    · have hbl : below pt x.key = false := ‹flt (placeOf x.key) pt = false›
      have hoc1 := hoc.since (by assumption)
      have hoc2 := hoc1.chg hc (fun g hg hgc => hsep g hg hgc)
      refine nx3_of (xs.length - (i + 1)) (by omega) ⟨i + 1, by simp, rfl, by omega, hs, ?_, ?_, ?_⟩
      · rw [List.take_add_one, hx]; simpa [List.filter_append, hbl] using ho
      · rw [List.take_add_one, hx]; simpa [List.filter_append, hbl] using hoc2
      · rcases hat with e | ⟨g, e, hge⟩
        · rw [e]; exact hsep
        · intro g' hg' hb'
          rw [e] at hb'; cases hb'
          have := (hoc1.ge hg').2; omega
  · rw [List.take_of_length_le hge] at hob hoc
    repeat' first | ((with_reducible refine r_lssF ?_ ?_); (· omega)) | with_reducible apply condW_F | ((first | (with_reducible refine fin_ret0 hs ?_) | (with_reducible refine fin_ret0 (hs0.trans hs) ?_)); intro wa hk; (exact ⟨_, _, rfl, (hoc.kp hk).tight, (hob.kp hk).tight⟩))
end Go.Proofs.YtnphlhpdikmpiaaGreat
namespace Go.Proofs.YtnphlhpdikmpiaaGreat
open Go.Eng
set_option maxRecDepth 100000
set_option maxHeartbeats 1000000
set_option linter.unusedVariables false
set_option linter.unusedSimpArgs false
attribute [local irreducible] un jn chk fld ld1 ldA st1 ixS lnS lnT bld cvI cvF ixA bsS apS rdV rdW grdW eW eV eU eC eF gE condW fin pickN nilN binS vS lp0 lp1 lp2 lp3 lp4 lp5 lp6 lp7 nx0 nx1 nx2 nx3 nx4 nx5 nx6 nx7
theorem d_indexFunc_texts {w : World} {X A : XS} {a : Value} {xs : List BA} {f : FuncId} {cs : List Value} {p : BA → Bool} (ha : Sl w X 1 a (xs.map S1)) (hX : ∀ k, X k → k < w.heap.size) (hA : ∀ k, A k → X k) (hf : enters Tryz.prog f = true)
    (hp : ∀ x ∈ xs, Ct Tryz.prog f ((.string x) :: cs).toArray w A nX fun v _ _ => v = B (p x)) :
    Ct Tryz.prog 84 #[a, .func (.func f) #[] cs.toArray] w X nX fun v _ _ => v = I (idxOf p xs) := by
  intro w0 hk
  replace ha := ha.mv hk.mvo
  replace hp := fun x hx => (hp x hx).kp (hk.less hA)
  replace hA := fun k hk' => Nat.lt_of_lt_of_le (hX k (hA k hk')) hk.size
  have hla := ha.len'
  apply ok_slices_IndexFunc_sl_string_string; unfold vc_slices_IndexFunc_sl_string_string
  have hs := Since.init w0
  repeat' first | ((with_reducible apply m_lnS); (· (first | assumption | exact Own.sl (by assumption))); (· kernel_rfl))
  refine lp1_of (fun n a w X => ∃ i : Nat, a = I (i : Nat) ∧ n = (xs).length - i ∧ i ≤ (xs).length ∧ Since (old w0) w0 X w ∧ (∀ (j : Nat) x, j < i → xs[j]? = some x → p x = false)) (xs).length ⟨0, rfl, rfl, Nat.zero_le _, hs, by simp⟩ ?_
  rintro n a w X ⟨i, rfl, rfl, hi, hs, hw⟩
  rcases at_or (xs) i with ⟨hlt, x, hx, hd⟩ | ⟨hge, hd⟩
  · have hpx := hp x (List.mem_of_getElem? hx)
    repeat' first | ((with_reducible refine r_lssT ?_ ?_); (· omega)) | with_reducible (first | apply condW_T | apply condW_F) | ((with_reducible apply m_ld1); (· (first | assumption | exact RowIs.cells (by assumption))); (· (first | exact mv0 | exact mv1 (by assumption) | exact mv2 (by assumption) (by assumption))); (· kernel_rfl); (· rfl)) | ((with_reducible apply m_ixS); (· (first | assumption | exact Own.sl (by assumption))); (try (case hz => rfl)); (case hr => first | assumption | exact List.getElem?_eq_getElem (by omega)); (try (case hz => omega)); (case ht => kernel_rfl); (case hs => kernel_rfl); intro _ _ _) | ((with_reducible apply r_add); (· omega); (· omega)) | ((with_reducible apply m_fun); (· rfl)) | ((first | (with_reducible refine fin_ret0 hs ?_) | (with_reducible refine fin_ret0 (hs0.trans hs) ?_)); intro wa hk; (rw [idxOf_at hw hx ‹_›])) | ((with_reducible refine nx1_of ((xs).length - (i + 1)) ?_ ?_); (· omega); exact ⟨i + 1, by simp, rfl, by omega, hs, fun j y hj hy => by rcases Nat.lt_succ_iff_lt_or_eq.1 hj with h | h; exact hw j y h hy; subst h; rw [hx] at hy; cases hy; assumption⟩) | (refine r_ct0B (hpx.since (hs.less hA)) hf hs.has ?_ ?_ <;> (intro _ w X hs1; replace hs := hs.trans hs1))
  · repeat' first | ((with_reducible refine r_lssF ?_ ?_); (· omega)) | with_reducible apply condW_F | ((first | (with_reducible refine fin_ret0 hs ?_) | (with_reducible refine fin_ret0 (hs0.trans hs) ?_)); intro wa hk; (rw [idxOf_none fun j x hj hx => hw j x (by omega) hx]))
theorem map_S1_flat (xs : List BA) : (xs.map S1).flatten = xs.map Value.string := by
  induction xs with
  | nil => rfl
  | cons x l ih => simp [ih]
theorem d_deleteFunc_texts {w : World} {X A : XS} {lo : Nat} {v : Value} {xs : List BA} {f : FuncId} {cs : List Value} {p : BA → Bool} (own : Own w X lo 9 1 v (xs.map S1)) (hX : ∀ k, X k → k < w.heap.size)
    (hA : ∀ k, A k → X k ∧ ¬ blk v k) (hf : enters Tryz.prog f = true)
    (hp : ∀ x ∈ xs, Ct Tryz.prog f ((.string x) :: cs).toArray w A nX fun v _ _ => v = B (p x)) :
    Ct Tryz.prog 62 #[v, .func (.func f) #[] cs.toArray] w X (blk v) fun v' _ w' =>
      Own w' (blk v) lo 9 1 v' ((xs.filter fun x => !p x).map S1) ∧ v'.ownBlock = v.ownBlock := by
  intro w0 hk
  have hp0 := hp
  replace own := own.mv hk.mvo
  replace hp := fun x hx => (hp x hx).kp (hk.less fun k h => (hA k h).1)
  replace hA : ∀ k, A k → out (blk v) w0 k := fun k hk' => ⟨Nat.lt_of_lt_of_le (hX k (hA k hk').1) hk.size, (hA k hk').2⟩
  have hla := own.sl.len'
  apply ok_slices_DeleteFunc_sl_string_string; unfold vc_slices_DeleteFunc_sl_string_string
  have hs := Since.out (blk v) w0
  refine r_ct0V (d_indexFunc_texts own.sl hs.has (fun k h => (hA k h).1) hf hp) (by kernel_rfl) hs.has fun w X hs1 => ?_
  have ownX := own.since hs1
  replace hs := hs.trans hs1
  repeat' first | with_reducible (first | apply condW_T | apply condW_F) | (with_reducible apply r_eql <;> intro _)
  · have hi := ‹idxOf p xs = -1›
    refine fin_ret hs fun wa hk => ⟨?_, rfl⟩
    have hall : ∀ x ∈ xs, p x = false := by
      have := idxOf_any p xs
      rw [hi] at this
      intro x hx
      have h2 : xs.any p = false := this.symm
      simpa using List.any_eq_false.1 h2 x hx
    have : xs.filter (fun x => !p x) = xs := List.filter_eq_self.2 fun x hx => by simp [hall x hx]
    rw [this]
    exact ⟨ownX.1, (ownX.kp hk).2.1, fun g hg => hg⟩
  · obtain ⟨i0, x0, hi0, hx0, hp0', hbef⟩ := idxOf_some ‹¬ idxOf p xs = -1›
    have hi0l : i0 < xs.length := (List.getElem?_eq_some_iff.1 hx0).1
    rw [hi0]
    rcases ownX.row with ⟨_, he⟩ | ⟨g, cap, cells, hv, hlo, hrow, hnc, hcm, hcl, htk⟩
    · have : xs = [] := by simpa using he
      subst this; simp at hi0l
    rw [List.length_map] at hv hnc htk
    rw [map_S1_flat, Nat.mul_one] at htk
    rw [Nat.mul_one] at hcl
    subst hv
    have hblk : ∀ k, blk (.slice (some ⟨g, 0, none⟩) xs.length cap) k ↔ k = g := fun k => ⟨fun h => by simpa [blk, Value.ownBlock] using h.symm, fun h => by subst h; rfl⟩
    clear own ownX
    repeat' first | ((with_reducible apply r_add); (· omega); (· omega))
    refine lp2_of (fun n a b w X => ∃ (j i : Nat) (ys : List BA) (cells : List Value), a = I j ∧ b = I i ∧ n = xs.length - j ∧ i < j ∧ j ≤ xs.length ∧ ys.length = xs.length ∧ ys.take i = (xs.take j).filter (fun x => !p x) ∧ ys.drop j = xs.drop j ∧
      Since (out (blk (.slice (some ⟨g, 0, none⟩) xs.length cap)) w0) w0 X w ∧ RowIs w X g cells 9 ∧ cells.length = cap ∧ cells.take xs.length = ys.map Value.string)
      (xs.length - (i0 + 1)) ⟨i0 + 1, i0, xs, cells, by simp, rfl, rfl, by omega, by omega, rfl, ?_, rfl, hs, hrow, hcl, htk⟩ ?_
    · rw [List.take_add_one, hx0]
      simp only [Option.toList_some, List.filter_append, List.filter_cons, hp0', Bool.not_true, Bool.false_eq_true, if_false, List.filter_nil, List.append_nil]
      exact (List.filter_eq_self.2 fun y hy => by simp [hbef y hy]).symm
    rintro n a b w X ⟨j, i, ys, cells, rfl, rfl, rfl, hij, hj, hyl, htake, hdrop, hs, hrow, hcl, htk⟩
    have ownN : Own w X lo 9 1 (.slice (some ⟨g, 0, none⟩) xs.length cap) (ys.map S1) :=
      Own.of_row hrow hlo (by simp) (by simpa using hyl) hnc hcm (by simpa using hcl) (by rw [map_S1_flat, Nat.mul_one]; exact htk)
    rcases at_or xs j with ⟨hlt, x, hx, hd⟩ | ⟨hge, hd⟩
    · have hy : ys[j]? = some x := by
        have : (ys.drop j)[0]? = some x := by rw [hdrop, hd]; rfl
        simpa using this
      have hpx := hp x (List.mem_of_getElem? hx)
      have hyd : ys.drop (j + 1) = xs.drop (j + 1) := by
        have := congrArg List.tail hdrop
        simpa using this
      repeat' first | ((with_reducible refine r_lssT ?_ ?_); (· omega)) | with_reducible (first | apply condW_T | apply condW_F | apply r_notT | apply r_notF) | ((with_reducible apply m_ld1); (· (first | assumption | exact RowIs.cells (by assumption))); (· (first | exact mv0 | exact mv1 (by assumption) | exact mv2 (by assumption) (by assumption))); (· kernel_rfl); (· rfl)) | ((with_reducible apply m_lnS); (· (first | assumption | exact Own.sl (by assumption))); (· kernel_rfl)) | ((with_reducible apply m_ixS); (· (first | assumption | exact Own.sl (by assumption))); (try (case hz => rfl)); (case hr => first | assumption | exact List.getElem?_eq_getElem (by omega)); (try (case hz => omega)); (case ht => kernel_rfl); (case hs => kernel_rfl); intro _ _ _) | ((with_reducible apply r_add); (· omega); (· omega)) | ((with_reducible apply m_fun); (· rfl)) | with_reducible apply jn_of | (refine r_ct0B (hpx.since (hs.less hA)) hf hs.has ?_ ?_ <;> (intro _ w X hs1; replace hs := hs.trans hs1; clear ownN))
      · refine nx2_of (xs.length - (j + 1)) (by omega) ⟨j + 1, i, ys, cells, by simp, rfl, rfl, by omega, by omega, hyl, ?_, hyd, hs, hrow.since (by assumption), hcl, htk⟩
        rw [List.take_add_one, hx, htake]; simp [*]
      · have hnp := ‹p x = false›
        have hrow2 := hrow.since (by assumption)
        refine m_ixO (i := i) rfl (by omega) (by kernel_rfl) (by kernel_rfl) ?_
        rw [Nat.mul_one]
        refine m_st1 hrow2 (by kernel_rfl) (by omega) rfl rfl hs.has fun w3 X3 hc hrow3 => ?_
        have hs3 := hs.chg hc fun k hk e => hk.2 ((hblk k).2 e)
        rw [show (Value.string x).cells.toList = [.string x] from rfl, setL_one (by omega)] at hrow3
        replace hs := hs3
        repeat' first | ((with_reducible apply r_add); (· omega); (· omega))
        have hil : i < ys.length := by omega
        refine nx2_of (xs.length - (j + 1)) (by omega) ⟨j + 1, i + 1, ys.set i x, cells.set i (.string x), by simp, by simp, rfl, by omega, by omega, by simpa using hyl, ?_, ?_, hs, hrow3, by simpa using hcl, ?_⟩
        · rw [List.take_add_one (l := xs), hx, List.filter_append, ← htake]
          have : (ys.set i x).take (i + 1) = ys.take i ++ [x] := by
            rw [List.take_add_one, List.take_set_of_le (Nat.le_refl _)]
            simp [hil]
          rw [this]; simp [hnp]
        · rw [List.drop_set_of_lt (by omega)]; exact hyd
        · rw [List.take_set, htk, List.map_set]
    · have hyi : i ≤ xs.length := by omega
      have htake' : ys.take i = xs.filter fun x => !p x := by rw [htake, List.take_of_length_le hge]
      repeat' first | ((with_reducible refine r_lssF ?_ ?_); (· omega)) | with_reducible apply condW_F | ((with_reducible apply m_lnS); (· (first | assumption | exact Own.sl (by assumption))); (· kernel_rfl))
      refine m_slLo (k := 1) (i := i) rfl hyi hnc (by kernel_rfl) (by kernel_rfl) ?_
      refine m_clear (e := 9) (z := .string ⟨#[]⟩) (o := i) hrow (by kernel_rfl) (by kernel_rfl) rfl (by omega) hs.has _ (by
        by_cases hci : cap = i
        · right; omega
        · left; rw [if_neg hci, Nat.mul_one]) fun w3 X3 hc hrow3 => ?_
      have hs3 := hs.chg hc fun k hk e => hk.2 ((hblk k).2 e)
      refine m_slHi (i := i) rfl (by omega) (by kernel_rfl) (by kernel_rfl) ?_
      refine fin_ret hs3 fun wa hk9 => ⟨?_, rfl⟩
      have hlen : (xs.filter fun x => !p x).length = i := by rw [← htake', List.length_take]; omega
      have := Own.of_row (k := 1) (lo := lo) (cap := cap) (n := i) (rows := (xs.filter fun x => !p x).map S1) (hrow3.kp hk9) hlo (by intro r hr; obtain ⟨y, _, rfl⟩ := List.mem_map.1 hr; rfl) (by simpa using hlen) (by omega) hcm (by
          rw [Nat.mul_one]; unfold setL; simp; omega) (by
          rw [map_S1_flat, Nat.mul_one, ← htake']
          unfold setL
          rw [List.append_assoc, List.take_append_of_le_length (by rw [List.length_take]; omega), List.take_take, Nat.min_self]
          have := congrArg (List.take i) htk
          rw [List.take_take, Nat.min_eq_left hyi] at this
          rw [this, List.map_take])
      exact ⟨this.1, this.2.1, fun g' hg' => hg'⟩
end Go.Proofs.YtnphlhpdikmpiaaGreat
namespace Go.Proofs.YtnphlhpdikmpiaaGreat
open Go.Eng
set_option maxRecDepth 100000
set_option maxHeartbeats 1000000
set_option linter.unusedVariables false
set_option linter.unusedSimpArgs false
attribute [local irreducible] un jn chk fld ld1 ldA st1 ixS lnS lnT bld cvI cvF ixA bsS apS rdV rdW grdW eW eV eU eC eF gE condW fin pickN nilN binS vS lp0 lp1 lp2 lp3 lp4 lp5 lp6 lp7 nx0 nx1 nx2 nx3 nx4 nx5 nx6 nx7
theorem Own.loc {w w' : World} {X Y : XS} {lo e k : Nat} {v : Value} {rows : List (List Value)} (h : Own w X lo e k v rows) (hm : ∀ g, v.ownBlock = some g → Y g ∧ w'.heap[g]? = w.heap[g]?) : Own w' Y lo e k v rows :=
  Own.mv (X := blk v) ⟨h.1, h.2.1, fun _ hg => hg⟩ fun g hg _ => hm g hg
theorem rdOpen.loc {w w' : World} {A A' : XS} {v : Value} {x : Opn} (h : rdOpen w A v x) (hm : ∀ g, x.br = some g ∨ x.bw = some g → A' g ∧ w'.heap[g]? = w.heap[g]?) : rdOpen w' A' v x := by
  obtain ⟨vr, vw, hv, h1, h2, h3, h4⟩ := h
  exact ⟨vr, vw, hv, Own.loc h1 fun g hg => hm g (.inl (h3 ▸ hg)), Own.loc h2 fun g hg => hm g (.inr (h4 ▸ hg)), h3, h4⟩
theorem rdOpen.blk {w : World} {A : XS} {v : Value} {x : Opn} (h : rdOpen w A v x) {g : Nat} (hg : x.br = some g ∨ x.bw = some g) : A g ∧ g < w.heap.size := by
  obtain ⟨vr, vw, hv, h1, h2, h3, h4⟩ := h
  rcases hg with hg | hg
  · exact ⟨h1.2.2 g (h3.trans hg), (h1.ge (h3.trans hg)).2⟩
  · exact ⟨h2.2.2 g (h4.trans hg), (h2.ge (h4.trans hg)).2⟩
theorem MapR.all {κ α : Type} [DecidableEq κ] {w : World} {X A : XS} {b : Nat} {kv : κ → Value} {rd : World → XS → Value → α → Prop} {l : List (κ × α)} (h : MapR w X A b kv rd l) : ∀ x ∈ l, ∃ v, rd w A v x.2 := by
  obtain ⟨es, c, h1, h2⟩ := h
  clear h1 c
  induction es generalizing l with
  | nil => cases l with
    | nil => intro x hx; cases hx
    | cons y l => exact h2.elim
  | cons e es ih => cases l with
    | nil => exact h2.elim
    | cons y l =>
      intro x hx
      rcases List.mem_cons.1 hx with rfl | hx
      · exact ⟨_, h2.2.1⟩
      · exact ih h2.2.2 x hx
def fpM (m : TailM) : XS := fun k => ∃ x ∈ m, x.2.br = some k ∨ x.2.bw = some k
structure SepM (m : TailM) : Prop where
  two : ∀ x ∈ m, sepB x.2.br x.2.bw
  all : ∀ x ∈ m, ∀ y ∈ m, y.1 ≠ x.1 → x.2.sep y.2
theorem sepB.symm {a b : Option Nat} (h : sepB a b) : sepB b a := fun g hb ha => h g ha hb
theorem Opn.sep.symm {x y : Opn} (h : x.sep y) : y.sep x := ⟨h.1.symm, h.2.2.1.symm, h.2.1.symm, h.2.2.2.symm⟩
structure Pend.ok (p : Pend) : Prop where
  r : p.reads.length ≤ 2 ^ 40
  w : p.writes.length ≤ 2 ^ 40
  rk : ∀ k ∈ p.reads, k.size ≤ 2 ^ 40
  wk : ∀ x ∈ p.writes, x.key.size ≤ 2 ^ 40
def OkM (m : TailM) : Prop := ∀ x ∈ m, x.2.p.ok
abbrev cont (m : TailM) : List (Txn × Pend × Int) := m.map fun x => (x.1, x.2.p, x.2.at')
def keepRead (pt : Nat) (k : BA) : Bool := !(fgt (placeOf k) pt || feq (placeOf k) pt)
def Pend.cut (pt : Nat) (p : Pend) : Pend := { p with reads := p.reads.filter (keepRead pt), writes := p.writes.filter fun x => below pt x.key }
theorem Pend.cut_ok {pt : Nat} {p : Pend} (h : p.ok) : (p.cut pt).ok :=
  ⟨Nat.le_trans (List.length_filter_le _ _) h.r, Nat.le_trans (List.length_filter_le _ _) h.w, fun k hk => h.rk k (List.mem_filter.1 hk).1, fun x hx => h.wk x (List.mem_filter.1 hx).1⟩
theorem d_tail_split_c1 {w : World} {X : XS} {r : Rec} {vr vw vp vq vh vd : Value} {k : BA} {b : Nat} (h : Cells w X b 0 (r.l vr vw vp vq vh vd)) (hk' : k.size ≤ 2 ^ 62) :
    Ct Tryz.prog 63 #[.string k, ptr b 0] w X nX fun v _ _ => v = B (fgt (placeOf k) r.point || feq (placeOf k) r.point) := by
  intro w0 hk
  replace h := h.mv hk.mvo
  apply ok_tail_Tail_split_c1; unfold vc_tail_Tail_split_c1
  have hs := Since.init w0
  repeat' first | (with_reducible apply r_fgeq <;> intros) | ((with_reducible apply m_fld1); (· (first | assumption | exact RowIs.cells (by assumption))); (· kernel_rfl); (· rfl); intro _ _ _) | ((with_reducible apply m_ld1); (· (first | assumption | exact RowIs.cells (by assumption))); (· (first | exact mv0 | exact mv1 (by assumption) | exact mv2 (by assumption) (by assumption))); (· kernel_rfl); (· rfl)) | ((with_reducible refine r_pure (c_place_Of _ (by first | assumption | omega)) ?_ hs.has ?_); (· kernel_rfl); intro w X hs1; replace hs := hs.trans hs1) | ((first | (with_reducible refine fin_ret0 hs ?_) | (with_reducible refine fin_ret0 (hs0.trans hs) ?_)); intro wa hk; (simp_all <;> grind))
theorem putM_cont {k : Txn} {a : Opn} : ∀ {l : TailM}, (l.map (·.1)).Nodup → (∃ q, getM k l = some q) → cont (putM k a l) = (cont l).map fun e => if e.1 = k then (k, a.p, a.at') else e
  | [], _, ⟨q, h⟩ => by cases h
  | x :: l, hn, ⟨q, h⟩ => by
    have hn' := List.nodup_cons.1 hn
    unfold putM
    split
    · rename_i hx
      simp only [cont, List.map_cons, hx, if_true, List.cons.injEq, true_and, List.map_map]
      refine (List.map_congr_left fun y hy => ?_)
      have : y.1 ≠ k := fun e => hn'.1 (List.mem_map.2 ⟨y, hy, e.trans hx.symm⟩)
      simp [this]
    · rename_i hx
      have : getM k l = some q := by simpa [getM, hx] using h
      have ih := putM_cont (a := a) hn'.2 ⟨q, this⟩
      simp only [cont, List.map_cons, hx, if_false, List.cons.injEq, true_and] at ih ⊢
      exact ih
end Go.Proofs.YtnphlhpdikmpiaaGreat
namespace Go.Proofs.YtnphlhpdikmpiaaGreat
open Go.Eng
set_option maxRecDepth 100000
set_option maxHeartbeats 1000000
set_option linter.unusedVariables false
set_option linter.unusedSimpArgs false
attribute [local irreducible] un jn chk fld ld1 ldA st1 ixS lnS lnT bld cvI cvF ixA bsS apS rdV rdW grdW eW eV eU eC eF gE condW fin pickN nilN binS vS lp0 lp1 lp2 lp3 lp4 lp5 lp6 lp7 nx0 nx1 nx2 nx3 nx4 nx5 nx6 nx7
theorem mem_putM_of {k : Txn} {a : Opn} {l : TailM} {y : Txn × Opn} (h : y ∈ l) (hy : y.1 ≠ k) : y ∈ putM k a l := by
  induction l with
  | nil => cases h
  | cons x l ih =>
    unfold putM
    rcases List.mem_cons.1 h with rfl | h
    · rw [if_neg hy]; exact List.mem_cons_self
    · split
      · exact List.mem_cons_of_mem _ h
      · exact List.mem_cons_of_mem _ (ih h)
theorem mem_putM_self {k : Txn} {a : Opn} : ∀ {l : TailM}, (k, a) ∈ putM k a l
  | [] => by simp [putM]
  | x :: l => by unfold putM; split <;> simp [mem_putM_self]
theorem fpM_put {m : TailM} {k : Txn} {q a : Opn} (hn : (m.map (·.1)).Nodup) (hq : getM k m = some q) (hbr : a.br = q.br) {g : Nat} (h : fpM (putM k a m) g) : fpM m g ∨ a.bw = some g := by
  obtain ⟨x, hx, hg⟩ := h
  rcases mem_putM hn hx with rfl | ⟨hx, _⟩
  · rcases hg with hg | hg
    · exact .inl ⟨_, mem_get hq, .inl (by rw [← hbr]; exact hg)⟩
    · exact .inr hg
  · exact .inl ⟨x, hx, hg⟩
theorem SepM.put {m : TailM} {k : Txn} {q a : Opn} (h : SepM m) (hn : (m.map (·.1)).Nodup) (hq : getM k m = some q) (hbr : a.br = q.br) (hbw : ∀ g, a.bw = some g → ¬ fpM m g) : SepM (putM k a m) := by
  have hm := mem_get hq
  have e1 : ∀ y ∈ m, y.1 ≠ k → a.sep y.2 := fun y hy hne => by
    have hs := h.all _ hm y hy hne
    exact ⟨by rw [hbr]; exact hs.1, by rw [hbr]; exact hs.2.1, fun g hg hb => hbw g hg ⟨y, hy, .inl hb⟩, fun g hg hb => hbw g hg ⟨y, hy, .inr hb⟩⟩
  refine ⟨fun x hx => ?_, fun x hx y hy hne => ?_⟩
  · rcases mem_putM hn hx with rfl | ⟨hx, _⟩
    · exact fun g hg hb => hbw g hb ⟨_, hm, .inl (by rw [← hbr]; exact hg)⟩
    · exact h.two x hx
  · rcases mem_putM hn hx with rfl | ⟨hx, hxk⟩ <;> rcases mem_putM hn hy with rfl | ⟨hy, hyk⟩
    · exact absurd rfl hne
    · exact e1 y hy hyk
    · exact (e1 x hx hxk).symm
    · exact h.all x hx y hy hne
theorem OkM.put {m : TailM} {k : Txn} {a : Opn} (h : OkM m) (hn : (m.map (·.1)).Nodup) (ha : a.p.ok) : OkM (putM k a m) := fun x hx => by
  rcases mem_putM hn hx with rfl | ⟨hx, _⟩
  · exact ha
  · exact h x hx
def ftp (tb mb : Nat) (m : TailM) : XS := fun k => k = tb ∨ k = mb ∨ fpM m k
theorem TailIs.tight {w : World} {X : XS} {tb mb : Nat} {s : TailS} {m : TailM} (h : TailIs w X (fpM m) tb mb s m) : TailIs w (ftp tb mb m) (fpM m) tb mb s m := by
  refine ⟨⟨.inl rfl, h.box.2⟩, h.opn.own.mv rdOpen.mv (fun k hk _ => ⟨.inr (.inl hk), rfl⟩) (Mv.refl _ _), fun k hk => .inr (.inr hk), h.off, h.ne⟩
theorem TailIs.wide {w : World} {X Y A : XS} {tb mb : Nat} {s : TailS} {m : TailM} (h : TailIs w X A tb mb s m) (hs : ∀ k, X k → Y k) : TailIs w Y A tb mb s m :=
  ⟨h.box.mv (Mv.sub hs), h.opn.mv rdOpen.mv (Mv.sub hs) (Mv.refl _ _), fun k hk => hs k (h.sub k hk), h.off, h.ne⟩
theorem TailIs.fp {w : World} {X A : XS} {tb mb : Nat} {s : TailS} {m : TailM} (h : TailIs w X A tb mb s m) : ∀ k, fpM m k → A k ∧ k < w.heap.size := fun k ⟨x, hx, hg⟩ =>
  let ⟨_, hv⟩ := MapR.all h.opn x hx
  hv.blk hg
theorem TailIs.exact {w : World} {X A : XS} {tb mb : Nat} {s : TailS} {m : TailM} (h : TailIs w X A tb mb s m) : TailIs w X (fpM m) tb mb s m := by
  refine ⟨h.box, ?_, fun k hk => h.sub k (h.fp k hk).1, fun k hk => h.off k (h.fp k hk).1, h.ne⟩
  obtain ⟨es, c, h1, h2⟩ := h.opn
  refine ⟨es, c, h1, ?_⟩
  have key : ∀ {es : List (Ent Txn)} {l : TailM}, (∀ x ∈ l, x ∈ m) → Rep w A rdOpen es l → Rep w (fpM m) rdOpen es l := by
    intro es
    induction es with
    | nil => intro l _ hr; cases l <;> first | trivial | exact hr.elim
    | cons e es ih =>
      intro l hl hr
      cases l with
      | nil => exact hr.elim
      | cons y l => exact ⟨hr.1, rdOpen.loc hr.2.1 fun g hg => ⟨⟨y, hl y (by simp), hg⟩, rfl⟩, ih (fun z hz => hl z (by simp [hz])) hr.2.2⟩
  exact key (fun _ h => h) h2
theorem TailIs.head {w w' : World} {X X' A : XS} {tb mb : Nat} {s s' : TailS} {m : TailM} (h : TailIs w X A tb mb s m) (c : Chg (fun k => k = tb) X w X' w')
    (hr : RowIs w' X' tb [I s'.id, I s'.next, I s'.closed.wall, I s'.closed.logic, I s'.closed.node, .map (some mb)] 78) : TailIs w' X' A tb mb s' m := by
  refine ⟨hr, h.opn.own.mv rdOpen.mv (fun k hk _ => ?_) (fun k hk _ => ?_), fun k hk => c.sub k (h.sub k hk), h.off, h.ne⟩
  · subst hk; exact ⟨c.sub _ h.opn.x.1, c.block _ h.opn.x.1 (Ne.symm h.ne)⟩
  · exact ⟨hk, c.block k (h.sub k hk) (h.off k hk).1⟩
theorem TailIs.body {w w' : World} {X X' A A' : XS} {tb mb : Nat} {s : TailS} {m m' : TailM} (h : TailIs w X A tb mb s m) (c : Chg (fun k => k = mb) X w X' w')
    (hm : MapR w' X' A' mb (fun k : Txn => k.v) rdOpen m') (hA : ∀ k, A' k → X' k ∧ k ≠ tb ∧ k ≠ mb) : TailIs w' X' A' tb mb s m' :=
  ⟨⟨c.sub _ h.box.1, by rw [c.block _ h.box.1 h.ne]; exact h.box.2⟩, hm, fun k hk => (hA k hk).1, fun k hk => (hA k hk).2, h.ne⟩
def cutC (pt : Nat) (e : Txn × Pend × Int) : Txn × Pend × Int := (e.1, e.2.1.cut pt, e.2.2)
theorem cont_keys (m : TailM) : (cont m).map (·.1) = m.map (·.1) := by simp [cont]
theorem cont_step {m mi : TailM} {ks : List Txn} {i : Nat} {x : Txn} {q a : Opn} {pt : Nat} (hc : cont mi = (cont m).map fun e => if e.1 ∈ ks.take i then cutC pt e else e) (hk : ks.Nodup) (hx : ks[i]? = some x)
    (hn : (mi.map (·.1)).Nodup) (hq : getM x mi = some q) (h1 : a.p = q.p.cut pt) (h2 : a.at' = q.at') : cont (putM x a mi) = (cont m).map fun e => if e.1 ∈ ks.take (i + 1) then cutC pt e else e := by
  rw [putM_cont hn ⟨q, hq⟩]
  have hstep : (cont mi).map (fun e => if e.1 = x then (x, a.p, a.at') else e) = (cont mi).map (fun e => if e.1 = x then cutC pt e else e) := by
    simp only [cont, List.map_map]
    refine List.map_congr_left fun y hy => ?_
    simp only [Function.comp]
    by_cases h : y.1 = x
    · have : getM x mi = some y.2 := getM_of_mem hn (by rw [← h]; exact hy)
      rw [hq] at this; cases this
      simp [h, cutC, h1, h2]
    · simp [h]
  rw [hstep, hc, List.map_map]
  refine List.map_congr_left fun e _ => ?_
  have htk : ks.take (i + 1) = ks.take i ++ [x] := by rw [List.take_add_one, hx]; rfl
  have hnx : x ∉ ks.take i := by
    have := hk.sublist (List.take_sublist (i + 1) ks)
    rw [htk, List.nodup_append] at this
    intro hmem
    exact this.2.2 x hmem x (by simp) rfl
  simp only [Function.comp, htk, List.mem_append, List.mem_singleton]
  by_cases h1 : e.1 ∈ ks.take i
  · have : e.1 ≠ x := fun e' => hnx (e' ▸ h1)
    simp [h1, cutC, this]
  · by_cases h2 : e.1 = x <;> simp [h1, h2, hnx]
theorem keys_step {left : TailM} {k : Txn} {a : Opn} (hn : (left.map (·.1)).Nodup) (h : (k, a) ∈ left) : (left.map (·.1)).Perm (k :: (left.filter fun y => decide (y.1 ≠ k)).map (·.1)) := by
  have h1 : k ∈ left.map (·.1) := List.mem_map.2 ⟨_, h, rfl⟩
  have h2 : (left.filter fun y => decide (y.1 ≠ k)).map (·.1) = (left.map (·.1)).filter fun y => decide (y ≠ k) := by rw [List.filter_map]; rfl
  have h3 := List.perm_cons_erase h1
  rw [hn.erase_eq_filter] at h3
  rw [h2]
  refine h3.trans (List.Perm.cons _ ?_)
  rw [show (left.map (·.1)).filter (fun y => y != k) = (left.map (·.1)).filter (fun y => decide (y ≠ k)) from List.filter_congr fun y _ => by simp [bne, Bool.beq_eq_decide_eq]]
theorem ItR.own {w : World} {X A : XS} {r b : Nat} {l left : TailM} {kv : Txn → Value} {rd : World → XS → Value → Opn → Prop} (h : ItR w X A r b kv rd l left) : ItR w (fun k => k = r ∨ k = b) A r b kv rd l left :=
  let ⟨es, c, les, h1, h2, h3, h4⟩ := h
  ⟨es, c, les, ⟨⟨.inr rfl, h1.1.2⟩, .inl rfl, h1.2.2⟩, h2, h3, h4⟩
theorem ItR.x {w : World} {X A : XS} {r b : Nat} {l left : TailM} {kv : Txn → Value} {rd : World → XS → Value → Opn → Prop} (h : ItR w X A r b kv rd l left) : X r ∧ X b ∧ r < w.heap.size ∧ r ≠ b := by
  obtain ⟨es, c, les, h1, _⟩ := h
  obtain ⟨s, hs, _⟩ := h1.2.2.2
  exact ⟨h1.2.1, h1.1.1, (Array.getElem?_eq_some_iff.1 hs).1, h1.2.2.1⟩
abbrev T3 (k : Txn) : List Value := [I k.coord, I k.life, I k.sq]
end Go.Proofs.YtnphlhpdikmpiaaGreat
namespace Go.Proofs.YtnphlhpdikmpiaaGreat
open Go.Eng
set_option maxRecDepth 100000
set_option maxHeartbeats 1000000
set_option linter.unusedVariables false
set_option linter.unusedSimpArgs false
attribute [local irreducible] un jn chk fld ld1 ldA st1 ixS lnS lnT bld cvI cvF ixA bsS apS rdV rdW grdW eW eV eU eC eF gE condW fin pickN nilN binS vS lp0 lp1 lp2 lp3 lp4 lp5 lp6 lp7 nx0 nx1 nx2 nx3 nx4 nx5 nx6 nx7
abbrev Told.v (kind : Int) (rng at' : Int) (t : Txn) (s : Stamp) (vw : Value) (child : Int) (st : Stamp) : Value :=
  .agg #[I kind, I rng, I at', I t.coord, I t.life, I t.sq, I s.wall, I s.logic, I s.node, vw, I child, I st.wall, I st.logic, I st.node]
theorem d_tail_split {w : World} {X : XS} {tb mb : Nat} {s : TailS} {m : TailM} {r : Rec} {vr vw vp vq vh vd : Value} (h : TailIs w X (fpM m) tb mb s m) (hX : ∀ k, X k → k < w.heap.size)
    (ha : r.at w X vr vw vp vq vh vd) (hsep : SepM m) (hok : OkM m) (hml : m.length ≤ 2 ^ 40) :
    Ct Tryz.prog 29 #[ptr tb 0, r.v vr vw vp vq vh vd] w X (ftp tb mb m) fun v wa w' => ∃ m', cont m' = (cont m).map (cutC r.point) ∧ SepM m' ∧ (∀ k, fpM m' k → fpM m k ∨ wa.heap.size ≤ k) ∧
      TailIs w' (ftp tb mb m') (fpM m') tb mb { s with closed := s.closed.later r.stamp } m' ∧
      v = Told.v 2 0 0 ⟨0, 0, 0⟩ .zero (.slice none 0 0) r.n (resGo (s.closed.later r.stamp) m') := by
  intro w0 hk
  replace h := h.mv hX hk.mvo
  replace ha := ha.mv hk.mvo
  have h1 := ha.1
  have h2 := ha.2.1
  have h3 := ha.2.2.1
  have h4 := ha.2.2.2.1
  have h5 := ha.2.2.2.2.1
  have h6 := ha.2.2.2.2.2
  have o1 := h1.one
  have o2 := h2.one
  have o3 := h3.one
  have o4 := h4.one
  have o5 := h5.one
  have o6 := h6.one
  have hF : ∀ k, ftp tb mb m k → k < w0.heap.size := fun k hk' => by
    rcases hk' with h' | h' | h'
    · rw [h']; exact h.box.lt
    · rw [h']; exact h.opn.x.2
    · exact (h.fp k h').2
  apply ok_tail_Tail_split; unfold vc_tail_Tail_split
  have hs := Since.out (ftp tb mb m) w0
  refine m_boxA hs.has fun bx w X hbx hs1 hrow => ?_
  replace hs := hs.trans hs1
  have hT := h.mv (fun k h => h) hs1.mv
  have hX1 := hs1.has
  have hbox := hT.box
  clear h hk h1 h2 h3 h4 h5 h6 ha hs1
  repeat' first | with_reducible apply r_nil | ((with_reducible apply m_fld); (· (first | assumption | exact RowIs.cells (by assumption))); (· kernel_rfl); (· rfl); (· (simp only [Value.cells, nq1, nq2, nq3, nq4, nq5, nq6, setL, nq7, nq8, nq9, nq0, Nat.reduceAdd, Nat.zero_add]; try rfl)); intro _ _ _) | ((with_reducible apply m_ldA); (· (first | assumption | exact RowIs.cells (by assumption))); (· (first | exact mv0 | exact mv1 (by assumption) | exact mv2 (by assumption) (by assumption))); (· kernel_rfl); (· rfl)) | ((with_reducible refine r_pure (c_hlc_Later _ _) ?_ hs.has ?_); (· kernel_rfl); intro w X hs1; replace hs := hs.trans hs1)
  rename_i e3 c3; subst e3; clear c3
  rename_i hs1 _ ; rename_i w1 X1 _ ; rename_i _ c2 ; clear c2
  replace hT := hT.mv hX1 hs1.mv
  replace hrow := hrow.since hs1
  refine m_st1 hT.box (by kernel_rfl) (by simp) rfl rfl hs.has fun w2 X2 hc hrow2 => ?_
  have hT2 := hT.head (s' := { s with closed := s.closed.later r.stamp }) hc hrow2
  have hrowB : RowIs w2 X2 bx _ _ := hrow.own.mv (hc.mv fun k hk => ⟨by rw [hk]; exact hrow.1, by have := hF tb (.inl rfl); omega⟩)
  have hsB := hs.chg hc fun k hk e => hk.2 (.inl e)
  have hbox := hT2.box
  clear hs hs1 hT hrow hrow2
  have hs0 := Since.refl' hsB.has
  have hs := hs0
  repeat' first | with_reducible apply r_nil | ((with_reducible apply m_fld1); (· (first | assumption | exact RowIs.cells (by assumption))); (· kernel_rfl); (· rfl); intro _ _ _) | ((with_reducible apply m_ld1); (· (first | assumption | exact RowIs.cells (by assumption))); (· (first | exact mv0 | exact mv1 (by assumption) | exact mv2 (by assumption) (by assumption))); (· kernel_rfl); (· rfl))
  refine m_range (kt := 39) (et := 90) hT2.opn rdOpen.mv hT2.sub (by kernel_rfl) hs.has fun ri w X hr hs1 hit => ?_
  have hpl : List.Perm ([] ++ m.map (·.1)) (m.map (·.1)) := List.Perm.refl _
  refine lp1_of (fun n a w X => ∃ (left : TailM) (ks : List Txn), n = left.length ∧ Since X2 w2 X w ∧ ItR w X (fpM m) ri mb (fun k : Txn => k.v) rdOpen m left ∧
    Own w X w2.heap.size 39 3 a (ks.map T3) ∧ (∀ g, a.ownBlock = some g → g ≠ ri) ∧ List.Perm (ks ++ left.map (·.1)) (m.map (·.1)) ∧ ks.length ≤ m.length) m.length
    ⟨m, [], rfl, hs1, hit, Own.nil _ _ _ _ _, (by intro g hg; simp [Value.ownBlock] at hg), hpl, Nat.zero_le _⟩ ?_
  clear hs1 hit
  rintro n a w X ⟨left, ks, rfl, hs, hit, hob, hne, hpl, hkl⟩
  have hA : ∀ k, fpM m k → X k ∧ k ≠ ri := fun k hk => ⟨hs.sub k (hT2.sub k hk), fun e => by have := (hT2.fp k hk).2; omega⟩
  refine m_next hit rdOpen.mv hA hs.has (fun e0 w X hs1 => ?_) fun kx q v hmem w1 X1 hc hrd hit1 he => ?_
  · subst e0
    replace hob := hob.since hs1
    replace hs := hs.trans hs1
    rw [List.map_nil, List.append_nil] at hpl
    have hksn : ks.Nodup := hpl.nodup_iff.2 hT2.opn.nodup
    have hs2s := hsB.kp.size
    have hsX := hsB.trans hs
    have hsY : Since (out (ftp tb mb m) w0) w0 (fun k => X k ∧ ¬ ftp tb mb m k) w := ⟨hsX.kp, fun k hk => ⟨hsX.sub k hk, hk.2⟩, fun k hk => hsX.has k hk.1⟩
    have hTB := hT2.mv hs0.has hs.mv
    have hrowY : RowIs w (fun k => X k ∧ ¬ ftp tb mb m k) bx _ _ := ⟨⟨(hrowB.since hs).1, fun h => by have := hF _ h; omega⟩, (hrowB.since hs).2⟩
    have hobY : Own w (fun k => X k ∧ ¬ ftp tb mb m k) w2.heap.size 39 3 a (ks.map T3) :=
      ⟨hob.1, hob.2.1, fun g hg => ⟨hob.2.2 g hg, fun h => by have := hF _ h; have := (hob.ge hg).1; omega⟩⟩
    have hsl := hobY.sl
    have hbxl := hrowY.lt
    have hmem : ∀ x ∈ ks, x ∈ m.map (·.1) := fun x hx => hpl.mem_iff.1 hx
    have hall : ∀ x ∈ m.map (·.1), x ∈ ks := fun x hx => hpl.mem_iff.2 hx
    have hs9 : Since (fun k => X k ∧ ¬ ftp tb mb m k) w X w := ⟨Kp.refl _ _, fun k hk => hk.1, hsX.has⟩
    clear hob hobY hs hs1 hsX hT2 hrowB hit hA hpl
    have hkl2 : ks.length ≤ 2 ^ 40 := by omega
    repeat' first | with_reducible apply condW_F | ((with_reducible apply m_lnS); (· (first | assumption | exact Own.sl (by assumption))); (· kernel_rfl)) | ((with_reducible apply m_ext); (· rfl))
    refine lp1_of (fun n a w' X' => ∃ (i : Nat) (mi : TailM), a = I (i : Nat) ∧ n = ks.length - i ∧ i ≤ ks.length ∧ Since (fun k => X k ∧ ¬ ftp tb mb m k) w X' w' ∧ TailIs w' X' (fpM mi) tb mb { s with closed := s.closed.later r.stamp } mi ∧
      SepM mi ∧ OkM mi ∧ cont mi = (cont m).map (fun e => if e.1 ∈ ks.take i then cutC r.point e else e) ∧ (∀ k, fpM mi k → fpM m k ∨ w.heap.size ≤ k)) ks.length
      ⟨0, m, rfl, rfl, Nat.zero_le _, hs9, hTB, hsep, hok, by simp, fun k hk => .inl hk⟩ ?_
    clear hTB hs9 hsep hok
    rintro n a w X ⟨i, mi, rfl, rfl, hi, hs, hT, hsep, hok, hcont, hfp⟩
    have hbox := hT.box
    rcases at_or ks i with ⟨hlt, x, hx, hd⟩ | ⟨hge, hd⟩
    · repeat' first | ((with_reducible refine r_lssT ?_ ?_); (· omega)) | with_reducible apply condW_T | ((with_reducible apply m_sub); (· (simp only [Value.cells, nq1, nq2, nq3, nq4, nq5, nq6, setL, nq7, nq8, nq9, nq0, Nat.reduceAdd, Nat.zero_add]; try rfl))) | with_reducible (first | apply un_box | apply r_nil) | ((with_reducible apply m_fld1); (· (first | assumption | exact RowIs.cells (by assumption))); (· kernel_rfl); (· rfl); intro _ _ _) | ((with_reducible apply m_ld1); (· (first | assumption | exact RowIs.cells (by assumption))); (· (first | exact mv0 | exact mv1 (by assumption) | exact mv2 (by assumption) (by assumption))); (· kernel_rfl); (· rfl)) | ((with_reducible apply m_ldA); (· (first | assumption | exact RowIs.cells (by assumption))); (· (first | exact mv0 | exact mv1 (by assumption) | exact mv2 (by assumption) (by assumption))); (· kernel_rfl); (· rfl)) | ((with_reducible apply m_ixS); (· (first | assumption | exact Own.sl (by assumption))); (try (case hz => rfl)); (case hr => first | assumption | exact List.getElem?_eq_getElem (by omega)); (try (case hz => omega)); (case ht => kernel_rfl); (case hs => kernel_rfl); intro _ _ _) | ((with_reducible apply m_chkc); (case h => (repeat' first | with_reducible apply all_one_cons | with_reducible exact all_one_nil | assumption | rfl | exact Sl.one (by assumption) | exact Rws.one (by assumption) | exact Sl.one (Own.sl (by assumption))))) | ((with_reducible apply chk_T); (· first | rfl | assumption | exact Sl.one (by assumption) | exact Rws.one (by assumption) | exact Sl.one (Own.sl (by assumption))))
      have hxm : ∃ q, getM x mi = some q := by
        have h1 : x ∈ mi.map (·.1) := by
          rw [← cont_keys, hcont, List.map_map]
          have h2 := hmem x (List.mem_of_getElem? hx)
          rw [← cont_keys] at h2
          obtain ⟨e, he, rfl⟩ := List.mem_map.1 h2
          refine List.mem_map.2 ⟨e, he, ?_⟩
          simp only [Function.comp]
          split <;> rfl
        obtain ⟨y, hy, rfl⟩ := List.mem_map.1 h1
        exact ⟨y.2, getM_of_mem hT.opn.nodup hy⟩
      refine m_mapGet1 (kv := fun k : Txn => k.v) (k := x) (kt := 39) (et := 90) (.agg #[I 0, I 0, I 0, I 0, I 0, I 0, .slice none 0 0, .slice none 0 0, I 0]) hT.opn key_txn (by kernel_rfl) (by kernel_rfl) (fun v q hg hrd => ?_) fun hg => ?_
      rotate_left
      · obtain ⟨q, hq⟩ := hxm
        rw [hq] at hg; cases hg
      obtain ⟨ur, uw, rfl, q1, q2, q3⟩ := hrd
      have o1 := q1.sl.one
      have o2 := q2.sl.one
      have hqo := hok _ (mem_get hg)
      repeat' first | ((with_reducible apply un_cell); (· rfl)) | with_reducible apply un_box | ((with_reducible apply m_fld1); (· (first | assumption | exact RowIs.cells (by assumption))); (· kernel_rfl); (· rfl); intro _ _ _) | ((with_reducible apply m_ld1); (· (first | assumption | exact RowIs.cells (by assumption))); (· (first | exact mv0 | exact mv1 (by assumption) | exact mv2 (by assumption) (by assumption))); (· kernel_rfl); (· rfl)) | ((with_reducible apply m_chkc); (case h => (repeat' first | with_reducible apply all_one_cons | with_reducible exact all_one_nil | assumption | rfl | exact Sl.one (by assumption) | exact Rws.one (by assumption) | exact Sl.one (Own.sl (by assumption))))) | ((with_reducible apply chk_T); (· first | rfl | assumption | exact Sl.one (by assumption) | exact Rws.one (by assumption) | exact Sl.one (Own.sl (by assumption))))
      refine r_ct0 (d_hand_Halve (pt := r.point) (Sl.mv q2.sl (Mv.sub hT.sub)) hqo.w hqo.wk) (by kernel_rfl) hs.has ?_
      rintro v wa w1 X1 ⟨va, vb, rfl, ho1, ho2⟩ hle hin hs1
      have hT1 := hT.mv hs.has hs1.mv
      have q1' := q1.mv (hs1.mvA hT.sub)
      have hva := ho1.sl.one
      have hvb := ho2.sl.one
      have hlo := hs.kp.size
      replace hs := hs.trans hs1
      have hfr := hrowY.since hs
      repeat' first | ((with_reducible apply un_cell); (· rfl)) | ((with_reducible apply m_set); (· (simp only [Value.cells, nq1, nq2, nq3, nq4, nq5, nq6, setL, nq7, nq8, nq9, nq0, Nat.reduceAdd, Nat.zero_add]; try rfl))) | ((with_reducible apply m_ext); (· rfl)) | ((with_reducible apply chk_T); (· first | rfl | assumption | exact Sl.one (by assumption) | exact Rws.one (by assumption) | exact Sl.one (Own.sl (by assumption)))) | (with_reducible apply m_mkFun)
      have hbr : ∀ g, blk ur g → fpM mi g := fun g hg' => ⟨_, mem_get hg, .inl (q3.1 ▸ hg')⟩
      have hbx2 : ∀ g, fpM mi g → g ≠ bx := fun g hg' e => by
        rcases hfp g hg' with h | h
        · have := hF g (.inr (.inr h)); omega
        · omega
      refine r_ct (d_deleteFunc_texts (A := fun k => k = bx) (cs := [ptr bx 0]) (p := fun k => fgt (placeOf k) r.point || feq (placeOf k) r.point) (q1'.mono hT1.sub) hs.has (fun k hk => ⟨by rw [hk]; exact hfr.1, fun h => hbx2 k (hbr k h) hk⟩) (by kernel_rfl)
        (fun y hy => d_tail_split_c1 (RowIs.cells hfr.own) (Nat.le_trans (hqo.rk y hy) (by decide)))) (by kernel_rfl) hs.has (fun k hk => hT1.sub k (hbr k hk)) ?_
      rintro va' wb w2' X2' ⟨hor, hbe⟩ hle2 hin2 hkb hc2
      have hva1 := hor.sl.one
      have hoff : ∀ g, fpM mi g → g ≠ tb ∧ g ≠ mb := hT1.off
      have hbox2 : RowIs w2' X2' tb _ _ := hT1.box.own.mv (hc2.mv fun k hk => ⟨by rw [hk]; exact hT1.box.1, fun h => (hoff k (hbr k h)).1 hk⟩)
      have hs' := hs.chg hc2 fun k hk e => by
        rcases hfp k (hbr k e) with h | h
        · exact hk.2 (.inr (.inr h))
        · have := hsY.has k hk; omega
      clear hbox
      replace hs := hs'
      clear hs'
      repeat' first | ((with_reducible apply m_sub); (· (simp only [Value.cells, nq1, nq2, nq3, nq4, nq5, nq6, setL, nq7, nq8, nq9, nq0, Nat.reduceAdd, Nat.zero_add]; try rfl))) | ((with_reducible apply m_set); (· (simp only [Value.cells, nq1, nq2, nq3, nq4, nq5, nq6, setL, nq7, nq8, nq9, nq0, Nat.reduceAdd, Nat.zero_add]; try rfl))) | with_reducible apply r_nil | ((with_reducible apply m_fld1); (· (first | assumption | exact RowIs.cells (by assumption))); (· kernel_rfl); (· rfl); intro _ _ _) | ((with_reducible apply m_ld1); (· (first | assumption | exact RowIs.cells (by assumption))); (· (first | exact mv0 | exact mv1 (by assumption) | exact mv2 (by assumption) (by assumption))); (· kernel_rfl); (· rfl)) | ((with_reducible apply chk_T); (· first | rfl | assumption | exact Sl.one (by assumption) | exact Rws.one (by assumption) | exact Sl.one (Own.sl (by assumption))))
      let a : Opn := { p := q.p.cut r.point, at' := q.at', br := q.br, bw := va.ownBlock }
      have hnod := hT.opn.nodup
      have hfresh : ∀ g, va.ownBlock = some g → wa.heap.size ≤ g ∧ g < w1.heap.size := fun g hg' => ho1.ge hg'
      have hnew : ∀ g, va.ownBlock = some g → ¬ fpM mi g := fun g hg' h => by have := (hT.fp g h).2; have := (hfresh g hg').1; omega
      have hfpA : ∀ g, fpM (putM x a mi) g → fpM mi g ∨ va.ownBlock = some g := fun g h => fpM_put (a := a) hnod hg rfl h
      have hX2 : ∀ g, fpM (putM x a mi) g → X2' g ∧ g ≠ tb ∧ g ≠ mb := fun g h => by
        rcases hfpA g h with h | h
        · exact ⟨hc2.sub g (hT1.sub g h), hoff g h⟩
        · have h3 := hfresh g h
          have := hT.box.lt; have := hT.opn.x.2
          exact ⟨hc2.sub g (hin g h3), by omega, by omega⟩
      have hnb : ∀ g, va.ownBlock = some g → ¬ blk ur g := fun g hg' h => hnew g hg' (hbr g h)
      have hmx : MapRX w2' X2' (fpM (putM x a mi)) mb (fun k : Txn => k.v) rdOpen x mi := MapR.toX hT1.opn (fun k hk _ => by
          have hk : k = mb := hk
          subst hk
          exact ⟨hc2.sub _ hT1.opn.x.1, hc2.block _ hT1.opn.x.1 fun h => (hoff _ (hbr _ h)).2 rfl⟩) fun y v hy hne hrd => rdOpen.loc hrd fun g hg' =>
        ⟨⟨y, mem_putM_of hy hne, hg'⟩, hc2.block g (hT1.sub g ⟨y, hy, hg'⟩) fun h => by
          have hsp := hsep.all _ (mem_get hg) y hy hne
          have hbg : q.br = some g := q3.1 ▸ h
          rcases hg' with hg' | hg'
          · exact hsp.1 g hbg hg'
          · exact hsp.2.1 g hbg hg'⟩
      have hva2 : rdOpen w2' (fpM (putM x a mi)) (a.v va' va) a := ⟨va', va, rfl, hor.mono fun g hg' => ⟨_, mem_putM_self, .inl (q3.1 ▸ hg')⟩,
        Own.loc (ho1.low (Nat.zero_le _)) fun g hg' => ⟨⟨_, mem_putM_self, .inr hg'⟩, hc2.block g (hin g (hfresh g hg')) (hnb g hg')⟩, hbe.trans q3.1, rfl⟩
      refine m_mapPutX (κ := Txn) (k := x) (a := a) (kv := fun k : Txn => k.v) (kt := 39) (et := 90) hmx rdOpen.mv hva2 (fun k hk => ⟨(hX2 k hk).1, (hX2 k hk).2.2⟩) key_txn (by kernel_rfl) hs.has fun w4 X4 hc4 hm4 => ?_
      have hT4 : TailIs w4 X4 (fpM (putM x a mi)) tb mb { s with closed := s.closed.later r.stamp } (putM x a mi) :=
        ⟨hbox2.own.mv (hc4.mv fun k hk => ⟨by rw [hk]; exact hbox2.1, by rw [hk]; exact hT.ne⟩), hm4, fun k hk => hc4.sub k (hX2 k hk).1, fun k hk => (hX2 k hk).2, hT.ne⟩
      replace hs := hs.chg hc4 fun k hk e => hk.2 (.inr (.inl e))
      repeat' first | ((with_reducible apply r_add); (· omega); (· omega))
      refine nx1_of (ks.length - (i + 1)) (by omega) ⟨i + 1, putM x a mi, by simp, rfl, by omega, hs, hT4, SepM.put hsep hnod hg rfl hnew, OkM.put hok hnod (Pend.cut_ok hqo), cont_step hcont hksn hx hnod hg rfl rfl, fun k hk => ?_⟩
      rcases hfpA k hk with h | h
      · exact hfp k h
      · right
        have := (hfresh k h).1
        omega
    · rw [List.take_of_length_le hge] at hcont
      repeat' first | ((with_reducible refine r_lssF ?_ ?_); (· omega)) | with_reducible apply condW_F | ((with_reducible apply m_fld1); (· (first | assumption | exact RowIs.cells (by assumption))); (· kernel_rfl); (· rfl); intro _ _ _) | ((with_reducible apply m_ld1); (· (first | assumption | exact RowIs.cells (by assumption))); (· (first | exact mv0 | exact mv1 (by assumption) | exact mv2 (by assumption) (by assumption))); (· kernel_rfl); (· rfl))
      refine r_ct0V (d_tail_Resolved hT hs.has) (by kernel_rfl) hs.has fun w X hs2 => ?_
      have hT2 := hT.mv hs.has hs2.mv
      replace hs := hs.trans hs2
      repeat' first | ((with_reducible apply un_cell); (· rfl)) | ((with_reducible apply m_sub); (· (simp only [Value.cells, nq1, nq2, nq3, nq4, nq5, nq6, setL, nq7, nq8, nq9, nq0, Nat.reduceAdd, Nat.zero_add]; try rfl))) | with_reducible apply un_box | ((with_reducible apply r_bld); (· kernel_rfl)) | ((with_reducible apply m_chkc); (case h => (repeat' first | with_reducible apply all_one_cons | with_reducible exact all_one_nil | assumption | rfl | exact Sl.one (by assumption) | exact Rws.one (by assumption) | exact Sl.one (Own.sl (by assumption))))) | ((with_reducible apply chk_T); (· first | rfl | assumption | exact Sl.one (by assumption) | exact Rws.one (by assumption) | exact Sl.one (Own.sl (by assumption))))
      refine fin_ret (hsY.trans hs) fun wa hk => ⟨mi, ?_, hsep, fun k hk => (hfp k hk).imp id fun h => Nat.le_trans hsY.kp.size h, TailIs.tight (hT2.mv hs.has hk.mv), rfl⟩
      exact hcont.trans (List.map_congr_left fun e he => if_pos (hall _ (by rw [← cont_keys]; exact List.mem_map.2 ⟨e, he, rfl⟩)))
  · have hob1 := hob.chg hc fun g hg e => hne g hg e
    replace hs := hs.chg hc fun k hk e => by have := hs0.has k hk; omega
    obtain ⟨ur, uw, rfl, q1, q2, q3⟩ := hrd
    have o1 := q1.sl.one
    have o2 := q2.sl.one
    have hpl1 := keys_step hit.nodup hmem
    have hlk : (ks ++ left.map (·.1)).length = m.length := by rw [hpl.length_eq, List.length_map]
    have hlt := left_lt hmem
    rw [List.length_append, List.length_map] at hlk
    have hA1 : ∀ k, fpM m k → X1 k := fun k hk => hs.sub k (hT2.sub k hk)
    clear hob hc
    repeat' first | with_reducible apply condW_T | ((with_reducible apply m_sub); (· (simp only [Value.cells, nq1, nq2, nq3, nq4, nq5, nq6, setL, nq7, nq8, nq9, nq0, Nat.reduceAdd, Nat.zero_add]; try rfl))) | with_reducible apply un_box | ((with_reducible apply m_ext); (· rfl)) | ((with_reducible apply m_chkc); (case h => (repeat' first | with_reducible apply all_one_cons | with_reducible exact all_one_nil | assumption | rfl | exact Sl.one (by assumption) | exact Rws.one (by assumption) | exact Sl.one (Own.sl (by assumption))))) | ((with_reducible apply chk_T); (· first | rfl | assumption | exact Sl.one (by assumption) | exact Rws.one (by assumption) | exact Sl.one (Own.sl (by assumption)))) | ((with_reducible apply m_app1a); (case own => first | assumption | exact Own.since (by assumption) (by assumption)); (case hs => assumption); (case h0 => first | exact fun _ h => h | exact hs0.has); (case he => kernel_rfl); (case hk => rfl); (case h1 => (repeat' first | with_reducible apply all_one_cons | with_reducible exact all_one_nil | assumption | rfl | exact Sl.one (by assumption) | exact Rws.one (by assumption) | exact Sl.one (Own.sl (by assumption)))); (case hb => (simp only [List.length_map, List.length_take, List.length_append, List.length_cons, List.length_nil]; omega)); (case hl => (simp only [List.length_map, List.length_take, List.length_append, List.length_cons, List.length_nil]; omega)); intro acc w X hs1 ho hc hat; replace hs := hs1) | (refine m_entry hs.has he fun w X hs2 => ?_; replace hs := hs.trans hs2; replace hob1 := hob1.since hs2; replace hit1 := hit1.mv rdOpen.mv hs2.mv (hs2.mvA hA1))
    have hix := ItR.x hit1
    have hmb2 := hT2.opn.x.2
    have nb : ∀ k, blk a k → w2.heap.size ≤ k ∧ k ≠ ri := fun k hk => ⟨(hob1.ge hk).1, hne k hk⟩
    have hA2 : ∀ k, fpM m k → k < w2.heap.size := fun k hk => (hT2.fp k hk).2
    have hit2 := ItR.mv (ItR.own hit1) rdOpen.mv (hc.mv fun k hk => by
      rcases hk with rfl | rfl
      · exact ⟨hix.1, fun h => (nb _ h).2 rfl⟩
      · exact ⟨hix.2.1, fun h => by have := (nb _ h).1; omega⟩) (fun k hk _ => ⟨hk, hc.block k (hs2.sub k (hA1 k hk)) fun h => by have := (nb _ h).1; have := hA2 k hk; omega⟩)
    refine nx1_of _ hlt ⟨_, ks ++ [kx], rfl, hs, hit2, by simpa using ho, ?_, ?_, ?_⟩
    · intro g hg
      rcases hat with e | ⟨g', e, hge⟩
      · exact hne g (e ▸ hg)
      · rw [e] at hg; cases hg
        have := hix.2.2.1; omega
    · rw [List.append_assoc]
      exact (List.Perm.append_left ks hpl1.symm).trans hpl
    · simp; omega
end Go.Proofs.YtnphlhpdikmpiaaGreat
namespace Go.Proofs.YtnphlhpdikmpiaaGreat
open Go.Eng
set_option maxRecDepth 100000
set_option maxHeartbeats 1000000
set_option linter.unusedVariables false
set_option linter.unusedSimpArgs false
attribute [local irreducible] un jn chk fld ld1 ldA st1 ixS lnS lnT bld cvI cvF ixA bsS apS rdV rdW grdW eW eV eU eC eF gE condW fin pickN nilN binS vS lp0 lp1 lp2 lp3 lp4 lp5 lp6 lp7 nx0 nx1 nx2 nx3 nx4 nx5 nx6 nx7
abbrev Cont := List (Txn × Pend × Int)
theorem getM_cont (k : Txn) : ∀ m : TailM, getM k (cont m) = (getM k m).map fun x => (x.p, x.at')
  | [] => rfl
  | x :: l => by
    have ih := getM_cont k l
    unfold getM at ih ⊢
    simp only [cont, List.map_cons, List.find?_cons] at ih ⊢
    by_cases h : x.1 = k
    · simp [h]
    · simp only [h, decide_false, Bool.false_eq_true, if_false]; exact ih
theorem putM_contOf (k : Txn) (a : Opn) : ∀ m : TailM, cont (putM k a m) = putM k (a.p, a.at') (cont m)
  | [] => rfl
  | x :: l => by
    have ih := putM_contOf k a l
    simp only [cont, List.map_cons, putM] at ih ⊢
    split
    · rfl
    · simp only [List.map_cons, ih]
theorem delM_cont (k : Txn) : ∀ m : TailM, cont (delM k m) = delM k (cont m)
  | [] => rfl
  | x :: l => by
    have ih := delM_cont k l
    simp only [cont, delM, List.map_cons, List.filter_cons] at ih ⊢
    split
    · simp only [List.map_cons, ih]
    · exact ih
def resC (s : Stamp) (c : Cont) : Stamp := c.foldl (fun s x => if x.2.1.stamp.prior.1.cmp s < 0 then x.2.1.stamp.prior.1 else s) s
theorem resGo_cont (s : Stamp) (m : TailM) : resGo s m = resC s (cont m) := by simp [resGo, resC, cont, List.foldl_map]
theorem resC_cut (s : Stamp) (pt : Nat) (c : Cont) : resC s (c.map (cutC pt)) = resC s c := by simp only [resC, List.foldl_map, cutC, Pend.cut]; rfl
def needC (n : Int) (c : Cont) : Int := c.foldl (fun n x => min n x.2.2) n
theorem needGo_cont (n : Int) (m : TailM) : needGo n m = needC n (cont m) := by simp [needGo, needC, cont, List.foldl_map]
structure ToldS where
  kind : Int
  rng : Int
  at' : Int
  txn : Txn
  stamp : Stamp
  writes : List KV
  child : Int
  st : Stamp
def ToldS.none : ToldS := ⟨0, 0, 0, ⟨0, 0, 0⟩, .zero, [], 0, .zero⟩
abbrev ToldS.v (t : ToldS) (vw : Value) : Value := Told.v t.kind t.rng t.at' t.txn t.stamp vw t.child t.st
def feedS (s : TailS) (r : Rec) : TailS :=
  ⟨s.id, s.next + 1, if r.kind = 1 then s.closed.later r.state.closed else if r.kind = 5 ∨ r.kind = 6 then s.closed.later r.stamp else s.closed⟩
def feedC (n : Int) (r : Rec) (c : Cont) : Cont :=
  if r.kind = 1 then r.state.pend.foldl (fun c p => putM p.txn (p, n) c) c
  else if r.kind = 3 then putM r.txn (⟨r.txn, r.stamp, r.reads, r.writes⟩, n) c
  else if r.kind = 4 then delM r.txn c
  else if r.kind = 6 then c.map (cutC r.point) else c
def feedTold (s : TailS) (r : Rec) (c : Cont) : ToldS :=
  if r.kind = 4 then (match getM r.txn c with
    | some x => if r.commit = true ∧ 0 < x.1.writes.length then ⟨1, s.id, x.2, r.txn, r.stamp, x.1.writes, 0, .zero⟩ else .none
    | none => .none)
  else if r.kind = 6 then ⟨2, 0, 0, ⟨0, 0, 0⟩, .zero, [], r.n, resC (s.closed.later r.stamp) c⟩ else .none
section
variable {w : World} {X : XS} {tb mb : Nat} {s : TailS} {m : TailM} {R : Ending → World → Prop} {N : Value → World → XS → Prop}
theorem m_tailNext {z : Int} {o : Nat} (hT : TailIs w X (fpM m) tb mb s m) (ho : o = 0 + 1) (hX : ∀ k, X k → k < w.heap.size)
    (n : ∀ w' X', Chg (fun k => k = tb) X w X' w' → TailIs w' X' (fpM m) tb mb { s with next := z } m → N undef w' X') : eU Tryz.prog R X w true (st1 3 1 (ptr tb o) (I z)) N := by
  subst ho
  exact m_st1 hT.box (by kernel_rfl) (by simp) rfl rfl hX fun w2 X2 hc hr => n w2 X2 hc (hT.head (s' := { s with next := z }) hc hr)
theorem m_tailClosed {c : Stamp} {o : Nat} (hT : TailIs w X (fpM m) tb mb s m) (ho : o = 0 + 2) (hX : ∀ k, X k → k < w.heap.size)
    (n : ∀ w' X', Chg (fun k => k = tb) X w X' w' → TailIs w' X' (fpM m) tb mb { s with closed := c } m → N undef w' X') : eU Tryz.prog R X w true (st1 34 3 (ptr tb o) c.v) N := by
  subst ho
  exact m_st1 hT.box (by kernel_rfl) (by simp) rfl rfl hX fun w2 X2 hc hr => n w2 X2 hc (hT.head (s' := { s with closed := c }) hc hr)
theorem m_tailPut {k : Txn} {a : Opn} {v vr vw : Value} {lo : Nat} (hT : TailIs w X (fpM m) tb mb s m) (hsep : SepM m) (hX : ∀ k, X k → k < w.heap.size) (hv : v = a.v vr vw)
    (h1 : Own w X lo 9 1 vr (a.p.reads.map S1)) (h2 : Own w X lo 66 4 vw (a.p.writes.map KV.l)) (hb1 : vr.ownBlock = a.br) (hb2 : vw.ownBlock = a.bw) (h12 : sepB a.br a.bw)
    (hnew : ∀ g, a.br = some g ∨ a.bw = some g → ¬ fpM m g ∧ g ≠ tb ∧ g ≠ mb)
    (n : ∀ w' X' m', Chg (fun k => k = mb) X w X' w' → TailIs w' X' (fpM m') tb mb s m' → SepM m' → cont m' = putM k (a.p, a.at') (cont m) → (∀ g, fpM m' g → fpM m g ∨ a.br = some g ∨ a.bw = some g) → N undef w' X') :
    eU Tryz.prog R X w true (Instr.mapUpdate 76 (.map (some mb)) k.v v) N := by
  subst hv
  have hn := hT.opn.nodup
  have hfp : ∀ g, fpM (putM k a m) g → fpM m g ∨ a.br = some g ∨ a.bw = some g := by
    rintro g ⟨x, hx, hg⟩
    rcases mem_putM hn hx with rfl | ⟨hx, _⟩
    · exact .inr hg
    · exact .inl ⟨x, hx, hg⟩
  have hok : ∀ g, a.br = some g ∨ a.bw = some g → X g := fun g hg => by
    rcases hg with hg | hg
    · exact h1.2.2 g (hb1.trans hg)
    · exact h2.2.2 g (hb2.trans hg)
  have hall : ∀ g, fpM (putM k a m) g → X g ∧ g ≠ tb ∧ g ≠ mb := fun g hg => by
    rcases hfp g hg with h | h
    · exact ⟨hT.sub g h, hT.off g h⟩
    · exact ⟨hok g h, (hnew g h).2⟩
  have hmx : MapRX w X (fpM (putM k a m)) mb (fun k : Txn => k.v) rdOpen k m := MapR.toX hT.opn (fun g hg _ => by
      have hg : g = mb := hg
      exact ⟨by rw [hg]; exact hT.opn.x.1, rfl⟩) fun y v hy hne hrd => rdOpen.loc hrd fun g hg => ⟨⟨y, mem_putM_of hy hne, hg⟩, rfl⟩
  have hv : rdOpen w (fpM (putM k a m)) (a.v vr vw) a := ⟨vr, vw, rfl, Own.loc (h1.low (Nat.zero_le _)) fun g hg => ⟨⟨_, mem_putM_self, .inl (hb1 ▸ hg)⟩, rfl⟩,
    Own.loc (h2.low (Nat.zero_le _)) fun g hg => ⟨⟨_, mem_putM_self, .inr (hb2 ▸ hg)⟩, rfl⟩, hb1, hb2⟩
  refine m_mapPutX (κ := Txn) (k := k) (a := a) (kv := fun k : Txn => k.v) (kt := 39) (et := 90) hmx rdOpen.mv hv (fun g hg => ⟨(hall g hg).1, (hall g hg).2.2⟩) key_txn (by kernel_rfl) hX fun w4 X4 hc4 hm4 => ?_
  refine n w4 X4 _ hc4 (hT.body hc4 hm4 fun g hg => ⟨hc4.sub g (hall g hg).1, (hall g hg).2⟩) ?_ (putM_contOf k a m) hfp
  have e1 : ∀ y ∈ m, a.sep y.2 := fun y hy => ⟨fun g hg hb => (hnew g (.inl hg)).1 ⟨y, hy, .inl hb⟩, fun g hg hb => (hnew g (.inl hg)).1 ⟨y, hy, .inr hb⟩,
    fun g hg hb => (hnew g (.inr hg)).1 ⟨y, hy, .inl hb⟩, fun g hg hb => (hnew g (.inr hg)).1 ⟨y, hy, .inr hb⟩⟩
  refine ⟨fun x hx => ?_, fun x hx y hy hne => ?_⟩
  · rcases mem_putM hn hx with rfl | ⟨hx, _⟩
    · exact h12
    · exact hsep.two x hx
  · rcases mem_putM hn hx with rfl | ⟨hx, hxk⟩ <;> rcases mem_putM hn hy with rfl | ⟨hy, hyk⟩
    · exact absurd rfl hne
    · exact e1 y hy
    · exact (e1 x hx).symm
    · exact hsep.all x hx y hy hne
theorem fpM_del {k : Txn} {g : Nat} (h : fpM (delM k m) g) : fpM m g := by
  obtain ⟨x, hx, hg⟩ := h
  exact ⟨x, (List.mem_filter.1 hx).1, hg⟩
theorem m_tailDel {k : Txn} (hT : TailIs w X (fpM m) tb mb s m) (hsep : SepM m) (hX : ∀ k, X k → k < w.heap.size)
    (n : ∀ w' X', Chg (fun k => k = mb) X w X' w' → TailIs w' X' (fpM (delM k m)) tb mb s (delM k m) → SepM (delM k m) → N (.tuple #[]) w' X') :
    eV Tryz.prog R X w true (Builtin.delete_ #[76, 39] 0 #[.map (some mb), k.v]) N := by
  refine m_mapDel (kv := fun k : Txn => k.v) (k := k) (kt := 39) (et := 90) hT.opn rdOpen.mv (fun g hg => ⟨hT.sub g hg, (hT.off g hg).2⟩) key_txn (by kernel_rfl) hX fun w' X' hc hm => ?_
  refine n w' X' hc (TailIs.exact (hT.body hc hm fun g hg => ⟨hc.sub g (hT.sub g hg), hT.off g hg⟩)) ⟨fun x hx => hsep.two x (List.mem_filter.1 hx).1, fun x hx y hy hne => hsep.all x (List.mem_filter.1 hx).1 y (List.mem_filter.1 hy).1 hne⟩
end
end Go.Proofs.YtnphlhpdikmpiaaGreat
namespace Go.Proofs.YtnphlhpdikmpiaaGreat
open Go.Eng
set_option maxRecDepth 100000
set_option maxHeartbeats 1000000
set_option linter.unusedVariables false
set_option linter.unusedSimpArgs false
attribute [local irreducible] un jn chk fld ld1 ldA st1 ixS lnS lnT bld cvI cvF ixA bsS apS rdV rdW grdW eW eV eU eC eF gE condW fin pickN nilN binS vS lp0 lp1 lp2 lp3 lp4 lp5 lp6 lp7 nx0 nx1 nx2 nx3 nx4 nx5 nx6 nx7
def FeedQ (s : TailS) (m : TailM) (tb mb : Nat) (n : Int) (r : Rec) (v : Value) (wa w' : World) : Prop :=
  if mayErr s m n r ≠ 0 then v = .tuple #[ToldS.none.v (.slice none 0 0), I (mayErr s m n r)] ∧ TailIs w' (ftp tb mb m) (fpM m) tb mb s m
  else ∃ m' vw, v = .tuple #[(feedTold s r (cont m)).v vw, I 0] ∧ Sl w' (fun k => fpM m k ∨ wa.heap.size ≤ k) 4 vw ((feedTold s r (cont m)).writes.map KV.l) ∧
    cont m' = feedC n r (cont m) ∧ SepM m' ∧ (∀ k, fpM m' k → fpM m k ∨ wa.heap.size ≤ k) ∧ TailIs w' (ftp tb mb m') (fpM m') tb mb (feedS s r) m'
theorem d_tail_Feed {w : World} {X A : XS} {tb mb : Nat} {s : TailS} {m : TailM} {n : Int} {r : Rec} {vr vw vp vq vh vd : Value} (h : TailIs w X (fpM m) tb mb s m) (hX : ∀ k, X k → k < w.heap.size)
    (ha : r.at w A vr vw vp vq vh vd) (hA : ∀ k, A k → X k ∧ ¬ ftp tb mb m k) (hsm : r.small) (hsep : SepM m) (hok : OkM m) (hml : m.length ≤ 2 ^ 40) (hnx : 1 ≤ s.next) :
    Ct Tryz.prog 10 #[ptr tb 0, I n, r.v vr vw vp vq vh vd] w X (ftp tb mb m) fun v wa w' => FeedQ s m tb mb n r v wa w' := by
  intro w0 hk
  replace h := h.mv hX hk.mvo
  have hao := ha.mv (Mv.trans (Y := out (ftp tb mb m) w0) (w' := w0) (fun k hk' hl => ⟨⟨Nat.lt_of_lt_of_le hl hk.size, (hA k hk').2⟩, hk.block k (hA k hk').1⟩) (Mv.refl _ _))
  replace ha := ha.mv ((Mv.sub fun k hk' => (hA k hk').1).trans hk.mvo)
  have h1 := hao.1
  have h2 := hao.2.1
  have h6 := hao.2.2.2.2.2
  have hl6 := h6.len
  have hF : ∀ k, ftp tb mb m k → k < w0.heap.size := fun k hk' => by
    rcases hk' with h' | h' | h'
    · rw [h']; exact h.box.lt
    · rw [h']; exact h.opn.x.2
    · exact (h.fp k h').2
  obtain ⟨br, nr, cr, rfl⟩ := h1.form
  obtain ⟨bw, nw, cw, rfl⟩ := h2.form
  apply ok_tail_Tail_Feed; unfold vc_tail_Tail_Feed
  have hs := Since.out (ftp tb mb m) w0
  refine r_ct0V (d_tail_may (r := r) h hs.has ha hsm) (by kernel_rfl) hs.has fun w X hs1 => ?_
  replace hs := hs.trans hs1
  have hT := h.mv (fun k h => h) hs1.mv
  have hbox := hT.box
  repeat' first | with_reducible (first | apply condW_T | apply condW_F) | ((with_reducible apply m_sub); (· (simp only [Value.cells, nq1, nq2, nq3, nq4, nq5, nq6, setL, nq7, nq8, nq9, nq0, Nat.reduceAdd, Nat.zero_add]; try rfl))) | with_reducible (first | apply un_box | apply r_nil) | (with_reducible apply r_neq <;> intro _) | ((with_reducible apply m_fld1); (· (first | assumption | exact RowIs.cells (by assumption))); (· kernel_rfl); (· rfl); intro _ _ _) | ((with_reducible apply m_ld1); (· (first | assumption | exact RowIs.cells (by assumption))); (· (first | exact mv0 | exact mv1 (by assumption) | exact mv2 (by assumption) (by assumption))); (· kernel_rfl); (· rfl)) | ((with_reducible apply r_bld); (· kernel_rfl)) | ((with_reducible apply m_chkc); (case h => (repeat' first | with_reducible apply all_one_cons | with_reducible exact all_one_nil | assumption | rfl | exact Sl.one (by assumption) | exact Rws.one (by assumption) | exact Sl.one (Own.sl (by assumption))))) | ((with_reducible apply chk_T); (· first | rfl | assumption | exact Sl.one (by assumption) | exact Rws.one (by assumption) | exact Sl.one (Own.sl (by assumption))))
  · refine fin_ret hs fun wa hk => ?_
    show FeedQ s m tb mb n r _ w0 wa
    unfold FeedQ
    rw [if_pos (by assumption)]
    exact ⟨rfl, TailIs.tight (hT.mv hs.has hk.mv)⟩
  · have hm0 : mayErr s m n r = 0 := by assumption
    have hns : n = s.next ∧ n ≤ 99999999 := by
      have := hm0
      unfold mayErr at this
      split at this
      · omega
      · omega
    obtain ⟨hns, hn9⟩ := hns
    have hend : ∀ (v : Value) (wa : World) (m' : TailM) (vw : Value), v = .tuple #[(feedTold s r (cont m)).v vw, I 0] → Sl wa (fun k => fpM m k ∨ w0.heap.size ≤ k) 4 vw ((feedTold s r (cont m)).writes.map KV.l) →
        cont m' = feedC n r (cont m) → SepM m' → (∀ k, fpM m' k → fpM m k ∨ w0.heap.size ≤ k) → TailIs wa (ftp tb mb m') (fpM m') tb mb (feedS s r) m' → FeedQ s m tb mb n r v w0 wa := by
      intro v wa m' vw q1 q2 q3 q4 q5 q6
      unfold FeedQ
      rw [if_neg (by simpa using hm0)]
      exact ⟨m', vw, q1, q2, q3, q4, q5, q6⟩
    generalize FeedQ s m tb mb n r = Q at hend ⊢
    repeat' first | with_reducible apply r_nil | ((with_reducible apply m_fld1); (· (first | assumption | exact RowIs.cells (by assumption))); (· kernel_rfl); (· rfl); intro _ _ _) | ((with_reducible apply r_add); (· omega); (· omega))
    refine m_tailNext hT (by assumption) hs.has fun w2 X2 hc hT2 => ?_
    replace hs := hs.chg hc fun k hk e => hk.2 (.inl e)
    have hsz := hs.kp.size
    clear hbox hc hs1 hT
    have hbox := hT2.box
    refine jn_by (fun k => ∀ w X (m' : TailM), Since (out (ftp tb mb m) w0) w0 X w → TailIs w X (fpM m') tb mb (feedS s r) m' → SepM m' → cont m' = feedC n r (cont m) → (∀ k, fpM m' k → fpM m k ∨ w0.heap.size ≤ k) → feedTold s r (cont m) = .none → k w X) ?_ ?_
    · intro w X m' hs hT hsep hc hfp ht
      repeat' first | ((with_reducible apply m_sub); (· (simp only [Value.cells, nq1, nq2, nq3, nq4, nq5, nq6, setL, nq7, nq8, nq9, nq0, Nat.reduceAdd, Nat.zero_add]; try rfl))) | with_reducible apply un_box | ((with_reducible apply r_bld); (· kernel_rfl)) | ((with_reducible apply m_chkc); (case h => (repeat' first | with_reducible apply all_one_cons | with_reducible exact all_one_nil | assumption | rfl | exact Sl.one (by assumption) | exact Rws.one (by assumption) | exact Sl.one (Own.sl (by assumption))))) | ((with_reducible apply chk_T); (· first | rfl | assumption | exact Sl.one (by assumption) | exact Rws.one (by assumption) | exact Sl.one (Own.sl (by assumption))))
      refine fin_ret hs fun wa hk => hend _ wa m' (.slice none 0 0) ?_ ?_ hc hsep hfp (TailIs.tight (hT.mv hs.has hk.mv))
      · rw [ht]; rfl
      · rw [ht]; exact Sl.nil _ _ _
    have hX2 := hs.has
    intro K hK
    repeat' first | with_reducible (first | apply condW_T | apply condW_F | apply r_nil) | (with_reducible apply r_eql <;> intro _) | ((with_reducible apply m_fld1); (· (first | assumption | exact RowIs.cells (by assumption))); (· kernel_rfl); (· rfl); intro _ _ _) | ((with_reducible apply m_fld); (· (first | assumption | exact RowIs.cells (by assumption))); (· kernel_rfl); (· rfl); (· (simp only [Value.cells, nq1, nq2, nq3, nq4, nq5, nq6, setL, nq7, nq8, nq9, nq0, Nat.reduceAdd, Nat.zero_add]; try rfl)); intro _ _ _) | ((with_reducible apply m_ld1); (· (first | assumption | exact RowIs.cells (by assumption))); (· (first | exact mv0 | exact mv1 (by assumption) | exact mv2 (by assumption) (by assumption))); (· kernel_rfl); (· rfl)) | ((with_reducible apply m_ldA); (· (first | assumption | exact RowIs.cells (by assumption))); (· (first | exact mv0 | exact mv1 (by assumption) | exact mv2 (by assumption) (by assumption))); (· kernel_rfl); (· rfl)) | ((with_reducible apply r_bld); (· kernel_rfl)) | ((with_reducible refine r_pure (c_hlc_Later _ _) ?_ hs.has ?_); (· kernel_rfl); intro w X hs1; replace hs := hs.trans hs1)
    · have hk1 := ‹r.kind = 1›
      refine m_tailClosed (c := s.closed.later r.state.closed) (hT2.mv hX2 hs1.mv) (by assumption) hs.has fun w3 X3 hc3 hT3 => ?_
      have hF1 := hsz
      clear hbox hT2 hs1
      have hbox := hT3.box
      replace hs := hs.chg hc3 fun k hk e => hk.2 (.inl e)
      repeat' first | ((with_reducible apply m_lnR); (· assumption); (· kernel_rfl))
      refine lp1_of (fun n' a w X => ∃ (i : Nat) (mi : TailM), a = I (i : Nat) ∧ n' = r.state.pend.length - i ∧ i ≤ r.state.pend.length ∧ Since (out (ftp tb mb m) w0) w0 X w ∧ TailIs w X (fpM mi) tb mb ⟨s.id, s.next + 1, s.closed.later r.state.closed⟩ mi ∧
        SepM mi ∧ cont mi = (r.state.pend.take i).foldl (fun c p => putM p.txn (p, n) c) (cont m) ∧ (∀ k, fpM mi k → fpM m k ∨ w0.heap.size ≤ k)) r.state.pend.length
        ⟨0, m, rfl, rfl, Nat.zero_le _, hs, hT3, hsep, rfl, fun k hk => .inl hk⟩ ?_
      clear hs hT3 hsep hc3 hbox
      rintro n' a w X ⟨i, mi, rfl, rfl, hi, hs, hT, hsep, hcont, hfp⟩
      have hbox := hT.box
      rcases at_or r.state.pend i with ⟨hlt, x, hx, hd⟩ | ⟨hge, hd⟩
      · have hxs := hsm.state.p x (List.mem_of_getElem? hx)
        repeat' first | ((with_reducible refine r_lssT ?_ ?_); (· omega)) | with_reducible apply condW_T | ((with_reducible apply m_sub); (· (simp only [Value.cells, nq1, nq2, nq3, nq4, nq5, nq6, setL, nq7, nq8, nq9, nq0, Nat.reduceAdd, Nat.zero_add]; try rfl))) | with_reducible (first | apply un_box | apply r_nil) | ((with_reducible apply m_fld1); (· (first | assumption | exact RowIs.cells (by assumption))); (· kernel_rfl); (· rfl); intro _ _ _) | ((with_reducible apply m_ld1); (· (first | assumption | exact RowIs.cells (by assumption))); (· (first | exact mv0 | exact mv1 (by assumption) | exact mv2 (by assumption) (by assumption))); (· kernel_rfl); (· rfl)) | ((with_reducible apply m_ldA); (· (first | assumption | exact RowIs.cells (by assumption))); (· (first | exact mv0 | exact mv1 (by assumption) | exact mv2 (by assumption) (by assumption))); (· kernel_rfl); (· rfl)) | ((with_reducible apply m_ixP); (· assumption); (try (case hz => rfl)); (case hr => first | assumption | exact List.getElem?_eq_getElem (by omega)); (try (case hz => omega)); (case ht => kernel_rfl); (case hs => kernel_rfl); intros) | ((with_reducible apply m_chkc); (case h => (repeat' first | with_reducible apply all_one_cons | with_reducible exact all_one_nil | assumption | rfl | exact Sl.one (by assumption) | exact Rws.one (by assumption) | exact Sl.one (Own.sl (by assumption))))) | ((with_reducible apply chk_T); (· first | rfl | assumption | exact Sl.one (by assumption) | exact Rws.one (by assumption) | exact Sl.one (Own.sl (by assumption))))
        refine r_ct0 (d_tail_clone (p := x) (Sl.mv (by assumption) hs.mv) (Sl.mv (by assumption) hs.mv) hxs.1 hxs.2) (by kernel_rfl) hs.has ?_
        rintro v wa w3 X3 ⟨ur, uw, rfl, ho1, ho2, h12⟩ hle hin hs3
        have hT3 := hT.mv hs.has hs3.mv
        have hT6 := hT
        have hlo := hs.kp.size
        have o1 := ho1.sl.one
        have o2 := ho2.sl.one
        replace hs := hs.trans hs3
        clear hbox
        have hbox := hT3.box
        repeat' first | ((with_reducible apply un_cell); (· rfl)) | ((with_reducible apply m_sub); (· (simp only [Value.cells, nq1, nq2, nq3, nq4, nq5, nq6, setL, nq7, nq8, nq9, nq0, Nat.reduceAdd, Nat.zero_add]; try rfl))) | ((with_reducible apply r_bld); (· kernel_rfl))
        let a : Opn := { p := x, at' := n, br := ur.ownBlock, bw := uw.ownBlock }
        have hlow : ∀ g, a.br = some g ∨ a.bw = some g → wa.heap.size ≤ g := fun g hg => by
          rcases hg with hg | hg
          · exact (ho1.ge hg).1
          · exact (ho2.ge hg).1
        refine m_tailPut (k := x.txn) (a := a) (vr := ur) (vw := uw) (lo := wa.heap.size) hT3 hsep hs.has rfl (ho1.mono hin) (ho2.mono hin) rfl rfl (fun g hg hb => h12 g hg hb) (fun g hg => ?_) fun w4 X4 m4 hc4 hT4 hsep4 hcont4 hfp4 => ?_
        · have hg1 := hlow g hg
          have := hT6.box.lt
          have := hT6.opn.x.2
          exact ⟨fun hf => by have := (hT6.fp g hf).2; omega, by omega, by omega⟩
        replace hs := hs.chg hc4 fun k hk e => hk.2 (.inr (.inl e))
        clear hbox
        have hbox := hT4.box
        repeat' first | ((with_reducible apply r_add); (· omega); (· omega))
        refine nx1_of (r.state.pend.length - (i + 1)) (by omega) ⟨i + 1, m4, by simp, rfl, by omega, hs, hT4, hsep4, ?_, fun k hk => ?_⟩
        · rw [hcont4, hcont, List.take_add_one, hx]; simp [a]
        · rcases hfp4 k hk with h | h
          · exact hfp k h
          · have := hlow k h; right; omega
      · rw [List.take_of_length_le hge] at hcont
        repeat' first | ((with_reducible refine r_lssF ?_ ?_); (· omega)) | with_reducible apply condW_F
        refine hK _ _ mi hs ?_ hsep ?_ hfp ?_
        · have : feedS s r = ⟨s.id, s.next + 1, s.closed.later r.state.closed⟩ := by simp [feedS, hk1]
          rw [this]; exact hT
        · rw [hcont]; simp [feedC, hk1]
        · simp [feedTold, hk1]
    · have hk3 := ‹r.kind = 3›
      refine r_ct0 (d_tail_clone (p := (⟨r.txn, r.stamp, r.reads, r.writes⟩ : Pend)) (h1.mv hs.mv) (h2.mv hs.mv) hsm.reads hsm.writes) (by kernel_rfl) hs.has ?_
      rintro v wa w3 X3 ⟨ur, uw, rfl, ho1, ho2, h12⟩ hle hin hs3
      have hT3 := hT2.mv hs.has hs3.mv
      have hT6 := hT2
      have hlo := hs.kp.size
      have o1 := ho1.sl.one
      have o2 := ho2.sl.one
      replace hs := hs.trans hs3
      clear hbox
      have hbox := hT3.box
      repeat' first | ((with_reducible apply un_cell); (· rfl)) | ((with_reducible apply r_bld); (· kernel_rfl))
      let a : Opn := { p := (⟨r.txn, r.stamp, r.reads, r.writes⟩ : Pend), at' := n, br := ur.ownBlock, bw := uw.ownBlock }
      have hlow : ∀ g, a.br = some g ∨ a.bw = some g → wa.heap.size ≤ g := fun g hg => by
        rcases hg with hg | hg
        · exact (ho1.ge hg).1
        · exact (ho2.ge hg).1
      refine m_tailPut (k := r.txn) (a := a) (vr := ur) (vw := uw) (lo := wa.heap.size) hT3 hsep hs.has rfl (ho1.mono hin) (ho2.mono hin) rfl rfl (fun g hg hb => h12 g hg hb) (fun g hg => ?_) fun w4 X4 m4 hc4 hT4 hsep4 hcont4 hfp4 => ?_
      · have hg1 := hlow g hg
        have := hT6.box.lt
        have := hT6.opn.x.2
        exact ⟨fun hf => by have := (hT6.fp g hf).2; omega, by omega, by omega⟩
      replace hs := hs.chg hc4 fun k hk e => hk.2 (.inr (.inl e))
      clear hbox
      have hbox := hT4.box
      refine hK _ _ m4 hs ?_ hsep4 ?_ (fun k hk => ?_) ?_
      · have : feedS s r = ⟨s.id, s.next + 1, s.closed⟩ := by simp [feedS, hk3]
        rw [this]; exact hT4
      · rw [hcont4]; simp [feedC, hk3, a]
      · rcases hfp4 k hk with h | h
        · exact .inl h
        · have := hlow k h; right; omega
      · simp [feedTold, hk3]
    · have hk4 := ‹r.kind = 4›
      refine m_mapGet (kv := fun k : Txn => k.v) (k := r.txn) (kt := 39) (et := 90) (.agg #[I 0, I 0, I 0, I 0, I 0, I 0, .slice none 0 0, .slice none 0 0, I 0]) hT2.opn key_txn (by kernel_rfl) (by kernel_rfl) (fun v q hg hrd => ?_) fun hg => ?_
      · obtain ⟨ur, uw, rfl, q1, q2, q3⟩ := hrd
        have o1 := q1.sl.one
        have o2 := q2.sl.one
        obtain ⟨b3, n3, c3, rfl⟩ := q2.sl.form
        repeat' first | with_reducible (first | apply un_box | apply r_nil) | ((with_reducible apply m_fld1); (· (first | assumption | exact RowIs.cells (by assumption))); (· kernel_rfl); (· rfl); intro _ _ _) | ((with_reducible apply m_ld1); (· (first | assumption | exact RowIs.cells (by assumption))); (· (first | exact mv0 | exact mv1 (by assumption) | exact mv2 (by assumption) (by assumption))); (· kernel_rfl); (· rfl)) | ((with_reducible apply m_ext); (· rfl)) | ((with_reducible apply m_chkc); (case h => (repeat' first | with_reducible apply all_one_cons | with_reducible exact all_one_nil | assumption | rfl | exact Sl.one (by assumption) | exact Rws.one (by assumption) | exact Sl.one (Own.sl (by assumption))))) | ((with_reducible apply chk_T); (· first | rfl | assumption | exact Sl.one (by assumption) | exact Rws.one (by assumption) | exact Sl.one (Own.sl (by assumption))))
        refine m_tailDel hT2 hsep hs.has fun w3 X3 hc3 hT3 hsep3 => ?_
        have q4 := q2.mv (Y := fpM m) (w' := w3) fun k hk _ => ⟨hk, hc3.block k (hT2.sub k hk) (hT2.off k hk).2⟩
        replace hs := hs.chg hc3 fun k hk e => hk.2 (.inr (.inl e))
        have hbox := hT3.box
        have q5 := q4.sl.mv (Mv.sub (hT2.sub))
        have q6 := q5.mv (Mv.sub hc3.sub)
        have hgc : getM r.txn (cont m) = some (q.p, q.at') := by rw [getM_cont, hg]; rfl
        have hK4 : feedTold s r (cont m) = .none → K w3 X3 := fun hn => by
          refine hK _ _ _ hs ?_ hsep3 ?_ (fun k hk => .inl (fpM_del hk)) hn
          · have : feedS s r = ⟨s.id, s.next + 1, s.closed⟩ := by simp [feedS, hk4]
            rw [this]; exact hT3
          · simp only [feedC, hk4]; simpa using delM_cont r.txn m
        cases hcm : r.commit
        · repeat' first | with_reducible apply condW_F | ((with_reducible apply un_cell); (· rfl)) | with_reducible (first | apply un_selT | apply un_selFT | apply grdW_offT | apply rdW_pickT | apply rdW_pickF) | ((with_reducible apply chk_T); (· first | rfl | assumption | exact Sl.one (by assumption) | exact Rws.one (by assumption) | exact Sl.one (Own.sl (by assumption))))
          exact hK4 (by simp [feedTold, hk4, hgc, hcm])
        · repeat' first | with_reducible (first | apply condW_T | apply condW_F) | ((with_reducible apply un_cell); (· rfl)) | ((with_reducible apply m_sub); (· (simp only [Value.cells, nq1, nq2, nq3, nq4, nq5, nq6, setL, nq7, nq8, nq9, nq0, Nat.reduceAdd, Nat.zero_add]; try rfl))) | with_reducible (first | apply un_box | apply un_selT | apply grdV_onT | apply rdW_pickT | apply r_nil) | (with_reducible apply r_gtr <;> intro _) | ((with_reducible apply m_fld1); (· (first | assumption | exact RowIs.cells (by assumption))); (· kernel_rfl); (· rfl); intro _ _ _) | ((with_reducible apply m_ld1); (· (first | assumption | exact RowIs.cells (by assumption))); (· (first | exact mv0 | exact mv1 (by assumption) | exact mv2 (by assumption) (by assumption))); (· kernel_rfl); (· rfl)) | ((with_reducible apply m_lnS); (· (first | assumption | exact Own.sl (by assumption))); (· kernel_rfl)) | ((with_reducible apply r_bld); (· kernel_rfl)) | ((with_reducible apply m_chkc); (case h => (repeat' first | with_reducible apply all_one_cons | with_reducible exact all_one_nil | assumption | rfl | exact Sl.one (by assumption) | exact Rws.one (by assumption) | exact Sl.one (Own.sl (by assumption))))) | ((with_reducible apply chk_T); (· first | rfl | assumption | exact Sl.one (by assumption) | exact Rws.one (by assumption) | exact Sl.one (Own.sl (by assumption))))
          · refine fin_ret hs fun wb hk => hend _ wb (delM r.txn m) (.slice b3 n3 c3) ?_ ?_ ?_ hsep3 (fun k hk => .inl (fpM_del hk)) ?_
            · have hlen : 0 < q.p.writes.length := by omega
              simp [feedTold, hk4, hgc, hcm, hlen, ToldS.v]
            · have hlen : 0 < q.p.writes.length := by omega
              have : (feedTold s r (cont m)).writes = q.p.writes := by simp [feedTold, hk4, hgc, hcm, hlen]
              rw [this]
              exact q4.sl.mv fun k hk' hl => ⟨.inl hk', hk.block k (hc3.sub k (hT2.sub k hk'))⟩
            · simp only [feedC, hk4]; simpa using delM_cont r.txn m
            · have : feedS s r = ⟨s.id, s.next + 1, s.closed⟩ := by simp [feedS, hk4]
              rw [this]
              exact TailIs.tight (hT3.mv hs.has hk.mv)
          · exact hK4 (by
              have hlen : ¬ 0 < q.p.writes.length := by omega
              simp [feedTold, hk4, hgc, hcm]; omega)
      · repeat' first | with_reducible (first | apply un_box | apply r_nil) | ((with_reducible apply m_fld1); (· (first | assumption | exact RowIs.cells (by assumption))); (· kernel_rfl); (· rfl); intro _ _ _) | ((with_reducible apply m_ld1); (· (first | assumption | exact RowIs.cells (by assumption))); (· (first | exact mv0 | exact mv1 (by assumption) | exact mv2 (by assumption) (by assumption))); (· kernel_rfl); (· rfl)) | ((with_reducible apply m_ext); (· rfl)) | ((with_reducible apply m_chkc); (case h => (repeat' first | with_reducible apply all_one_cons | with_reducible exact all_one_nil | assumption | rfl | exact Sl.one (by assumption) | exact Rws.one (by assumption) | exact Sl.one (Own.sl (by assumption))))) | ((with_reducible apply chk_T); (· first | rfl | assumption | exact Sl.one (by assumption) | exact Rws.one (by assumption) | exact Sl.one (Own.sl (by assumption))))
        refine m_tailDel hT2 hsep hs.has fun w3 X3 hc3 hT3 hsep3 => ?_
        replace hs := hs.chg hc3 fun k hk e => hk.2 (.inr (.inl e))
        have hgc : getM r.txn (cont m) = none := by rw [getM_cont, hg]; rfl
        repeat' first | with_reducible apply condW_F | ((with_reducible apply un_cell); (· rfl)) | with_reducible (first | apply un_selFT | apply grdW_offT | apply rdW_pickF) | ((with_reducible apply chk_T); (· first | rfl | assumption | exact Sl.one (by assumption) | exact Rws.one (by assumption) | exact Sl.one (Own.sl (by assumption))))
        refine hK _ _ _ hs ?_ hsep3 ?_ (fun k hk => .inl (fpM_del hk)) ?_
        · have : feedS s r = ⟨s.id, s.next + 1, s.closed⟩ := by simp [feedS, hk4]
          rw [this]; exact hT3
        · simp only [feedC, hk4]; simpa using delM_cont r.txn m
        · simp [feedTold, hk4, hgc]
    · have hk5 := ‹r.kind = 5›
      refine m_tailClosed (c := s.closed.later r.stamp) (hT2.mv hX2 hs1.mv) (by assumption) hs.has fun w3 X3 hc3 hT3 => ?_
      replace hs := hs.chg hc3 fun k hk e => hk.2 (.inl e)
      refine hK _ _ m hs ?_ hsep ?_ (fun k hk => .inl hk) ?_
      · have : feedS s r = ⟨s.id, s.next + 1, s.closed.later r.stamp⟩ := by simp [feedS, hk5]
        rw [this]; exact hT3
      · simp [feedC, hk5]
      · simp [feedTold, hk5]
    · have hk6 := ‹r.kind = 6›
      refine r_ct (d_tail_split hT2 hX2 (hao.mv hs.mv) hsep hok hml) (by kernel_rfl) hs.has (fun k hk => ?_) ?_
      · rcases hk with rfl | rfl | hk
        · exact hT2.box.1
        · exact hT2.opn.x.1
        · exact hT2.sub k hk
      rintro v wa w3 X3 ⟨m', hcont, hsep3, hfp, hT3, rfl⟩ hle hin hkp hc3
      have hlo := hs.kp.size
      have hT4 := hT3.wide (Y := X3) fun k hk => by
        rcases hk with rfl | rfl | hk
        · exact hc3.sub _ hT2.box.1
        · exact hc3.sub _ hT2.opn.x.1
        · rcases hfp k hk with h | h
          · exact hc3.sub _ (hT2.sub k h)
          · exact hin k ⟨h, (hT3.fp k hk).2⟩
      replace hs := hs.chg hc3 fun k hk e => hk.2 e
      repeat' first | ((with_reducible apply m_sub); (· (simp only [Value.cells, nq1, nq2, nq3, nq4, nq5, nq6, setL, nq7, nq8, nq9, nq0, Nat.reduceAdd, Nat.zero_add]; try rfl))) | with_reducible apply un_box | ((with_reducible apply m_chkc); (case h => (repeat' first | with_reducible apply all_one_cons | with_reducible exact all_one_nil | assumption | rfl | exact Sl.one (by assumption) | exact Rws.one (by assumption) | exact Sl.one (Own.sl (by assumption))))) | ((with_reducible apply chk_T); (· first | rfl | assumption | exact Sl.one (by assumption) | exact Rws.one (by assumption) | exact Sl.one (Own.sl (by assumption))))
      refine fin_ret hs fun wb hk => hend _ wb m' (.slice none 0 0) ?_ ?_ ?_ hsep3 (fun k hk => ?_) ?_
      · have : feedTold s r (cont m) = ⟨2, 0, 0, ⟨0, 0, 0⟩, .zero, [], r.n, resC (s.closed.later r.stamp) (cont m)⟩ := by simp [feedTold, hk6]
        rw [this, resGo_cont, hcont, resC_cut]
      · have : (feedTold s r (cont m)).writes = [] := by simp [feedTold, hk6]
        rw [this]; exact Sl.nil _ _ _
      · rw [hcont]; simp [feedC, hk6]
      · rcases hfp k hk with h | h
        · exact .inl h
        · right; omega
      · have : feedS s r = ⟨s.id, s.next + 1, s.closed.later r.stamp⟩ := by simp [feedS, hk6]
        rw [this]
        exact TailIs.tight (hT4.mv hs.has hk.mv)
    · refine hK _ _ m hs ?_ hsep ?_ (fun k hk => .inl hk) ?_
      · have : feedS s r = ⟨s.id, s.next + 1, s.closed⟩ := by simp [feedS, *]
        rw [this]; exact hT2
      · simp [feedC, *]
      · simp [feedTold, *]
end Go.Proofs.YtnphlhpdikmpiaaGreat
