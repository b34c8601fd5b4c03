/-
  Part 6 of the proof: what the last text leans on.
-/
import Derived.Test.YtpdkoaklobnegaaGreatProg
import Derived.Recover
import Derived.KernelRfl
import Derived.Tactics
import Derived.Test.YtpdkoaklobnegaaGreatH5
namespace Go.Proofs.YtpdkoaklobnegaaGreat
open Go.Eng
theorem idle_Step : Idle Tryz.prog 50 := by
  refine ⟨by kernel_rfl, fun caps w => ?_⟩
  refine callsD_of_wpS Tryz.func50 rfl fun c₀ cs hu => ?_
  rw [Tryz.ntmps50]
  have hsz : 7 ≤ (caps ++ Array.replicate (10 - caps.size) undef).size := by simp; omega
  generalize caps ++ Array.replicate (10 - caps.size) undef = tm at hsz
  have h2 : 2 < tm.size := by omega
  have h3 : 3 < tm.size := by omega
  have h4 : 4 < tm.size := by omega
  have h5 : 5 < tm.size := by omega
  have h6 : 6 < tm.size := by omega
  apply wpS_seq
  apply wpS_region
  simp [wpOpsS, go_sem, recoverD, hu, Exit.thenS]
  apply wpS_seq
  apply wpS_region
  simp [wpOpsS, go_sem, Exit.thenS, h2, h3, h4, h5, h6]
  refine wpS_cond (t := false) (by simp [Act.eval, h2, h3, h4, h5, h6]) ?_
  simp only [Bool.false_eq_true, if_false]
  refine wpS_of_wp (wp_skip ?_)
  cases c₀
  simp_all [bodyPostS, results, Tryz.results50]
theorem idle_Tick : Idle Tryz.prog 56 := by
  refine ⟨by kernel_rfl, fun caps w => ?_⟩
  refine callsD_of_wpS Tryz.func56 rfl fun c₀ cs hu => ?_
  rw [Tryz.ntmps56]
  have hsz : 7 ≤ (caps ++ Array.replicate (9 - caps.size) undef).size := by simp; omega
  generalize caps ++ Array.replicate (9 - caps.size) undef = tm at hsz
  have h2 : 2 < tm.size := by omega
  have h3 : 3 < tm.size := by omega
  have h4 : 4 < tm.size := by omega
  have h5 : 5 < tm.size := by omega
  have h6 : 6 < tm.size := by omega
  apply wpS_seq
  apply wpS_region
  simp [wpOpsS, go_sem, recoverD, hu, Exit.thenS]
  apply wpS_seq
  apply wpS_region
  simp [wpOpsS, go_sem, Exit.thenS, h2, h3, h4, h5, h6]
  refine wpS_cond (t := false) (by simp [Act.eval, h2, h3, h4, h5, h6]) ?_
  simp only [Bool.false_eq_true, if_false]
  refine wpS_of_wp (wp_skip ?_)
  cases c₀
  simp_all [bodyPostS, results, Tryz.results56]
end Go.Proofs.YtpdkoaklobnegaaGreat
namespace Go.Proofs.YtpdkoaklobnegaaGreat
open Go.Eng
set_option maxRecDepth 100000
set_option maxHeartbeats 1000000
set_option linter.unusedVariables false
set_option linter.unusedSimpArgs false
attribute [local irreducible] un jn chk fld ld1 ldA st1 ixS lnS lnT bld cvI cvF ixA bsS apS rdV rdW grdW eW eV eU eC eF gE condW fin pickN nilN binS vS lp0 lp1 lp2 lp3 lp4 lp5 lp6 lp7 nx0 nx1 nx2 nx3 nx4 nx5 nx6 nx7
def recA (prev st : Stamp) (t : Txn) (l : List KV) : Rec := ⟨11, t, st, prev, false, 0, 0, [], l, [], [], .zero⟩
theorem recA_err {prev st : Stamp} {t : Txn} {l : List KV} (h : applyOk prev st t l = true) : (recA prev st t l).err = 0 := by
  simp [Rec.err, recA, Rec.strip, Rec.isZero, Rec.fieldsOk, h, State.isZero, State.zero]
def SM.fits (s : SM) (prev st : Stamp) (t : Txn) (l : List KV) : Bool := applyOk prev st t l && decide (st.cmp s.high > 0) && decide (prev = s.high)
def stepS (s : SM) (x : LD) (prev st : Stamp) (t : Txn) (l : List KV) : SM × LD :=
  if s.fits prev st t l then
    let k := x.keep 0 (encA (recA prev st t l))
    (if k.2.2 = 0 then { s.apply t st l with since := s.since + 1 } else s, k.1)
  else (s, x)
abbrev mHigh (to : Int) (st : Stamp) : List Value := [I 14, I 32, I to, I 0, I 0, I 0, I 0, I 0, I 0, I st.wall, I st.logic, I st.node, I 0, I 0, I 0,
  B false, I 0, I 0, nil0, nil0, nil0, nil0, nil0, nil0, I 0, I 0, .float .f64 0, .float .f64 0, I 0, I 0, I 0, I 0, I 0, I 0, nil0, nil0]
theorem Snk.setSince {w w' : World} {X X' F : XS} {nb lb mb db : Nat} {s : SM} {L : LM} {m : DM} {FN FG : XS} {av : Value} {es : List (Value × Entr)} (hdj : Dj FN FG) (hN : ∀ k, FN k → F k) (hG : ∀ k, FG k → F k) (hX : ∀ k, F k → X k)
    (h : SkL w FN nb lb mb av es s) (hg : Lg w FG lb db L m) (c : Chg (· = nb) X w X' w') (n : Int)
    (hr : RowIs w' X' nb [ptr lb 0, I s.every, I n, B s.down, .map (some mb), I s.high.wall, I s.high.logic, I s.high.node, av] 112) : Snk w' F nb lb db { s with since := n } L m :=
  ⟨FN, FG, mb, av, es, hdj, hN, hG, h.setBox (fun k hk => hX k (hN k hk)) c { s with since := n } rfl rfl hr, hg.mv (c.mvA fun k hk => ⟨hX k (hG k hk), fun e => hdj k (e ▸ h.box.1) hk⟩)⟩
theorem d_sink_applyS {w : World} {X F S : XS} {nb lb db : Nat} {s : SM} {L : LM} {m : DM} {t : Txn} {st : Stamp} {vw : Value} {l : List KV} (h : Snk w F nb lb db s L m) (hF : FX F X w) (hw : Sl w S 4 vw (l.map KV.l)) (hS : ∀ k, S k → X k ∧ ¬ F k)
    (hl : l.length ≤ 2 ^ 30) (hd : s.done.length ≤ 2 ^ 30) :
    Ct Tryz.prog 55 #[ptr nb 0, t.v, st.v, vw] w X F fun v wa w' => v = .tuple #[] ∧ ∃ F', (∀ k, F' k → F k ∨ made wa w' k) ∧ Snk w' F' nb lb db (s.apply t st l) L m := by
  obtain ⟨FN, FG, mb, av, es, hdj, hN, hG, hs0, hg⟩ := h
  intro wa hk
  refine ((d_sink_apply hs0 (fun k hk' => hF k (hN k hk')) hw (fun k hk' => ⟨(hS k hk').1, fun h => (hS k hk').2 (hN k h)⟩) hl hd) wa hk).mono ?_
  rintro e w' ⟨v, he, hfr, hv, F', av', es', hF', hs'⟩
  refine ⟨v, he, hfr.mono hN, hv, fun k => F' k ∨ FG k, fun k hk' => hk'.elim (fun h => (hF' k h).imp (hN k) id) fun h => .inl (hG k h), F', FG, mb, av', es', fun k a b => (hF' k a).elim (fun h => hdj k h b) fun hm => ?_, fun _ h => .inl h, fun _ h => .inr h, hs', hg.mv fun k hk' _ => ⟨hk', ?_⟩⟩
  · have := (hF k (hG k b)).2; have := hk.size; have := hm.1; omega
  · have hkf := hF k (hG k hk')
    exact (hfr.block k (Nat.lt_of_lt_of_le hkf.2 hk.size) fun h => hdj k h hk').trans (hk.block k hkf.1)
theorem d_sink_Step {w : World} {X F S : XS} {nb lb db : Nat} {s : SM} {L : LM} {m : DM} {prev st : Stamp} {t : Txn} {a : Value} {l : List KV} (h : Snk w F nb lb db s L m) (hL : LOK L) (hsl : L.segs.length ≤ 2 ^ 29) (hF : FX F X w) (hdn : s.down = false)
    (hw : Sl w S 4 a (l.map KV.l)) (hS : ∀ k, S k → X k ∧ ¬ F k) (hl : l.length ≤ 2 ^ 16) (hkl : ∀ x ∈ l, x.key.size ≤ 2 ^ 16) (hen : (encA (recA prev st t l)).length ≤ 262144) (hd : s.done.length ≤ 2 ^ 30) (hsi : 0 ≤ s.since ∧ s.since < 2 ^ 40)
    (hlk : LOK (LD.append ⟨L, m⟩ (encA (recA prev st t l))).1.L) (hkd : (LD.keep ⟨L, m⟩ 0 (encA (recA prev st t l))).2.2 ≠ 12) :
    Ct Tryz.prog 15 #[ptr nb 0, MA 12 31 32 prev st t a] w X F fun v wa w' => ∃ vo F' S', v = .tuple #[vo, I 0] ∧ (∀ k, F' k → F k ∨ made wa w' k) ∧ (∀ k, S' k → made wa w' k ∧ ¬ F' k) ∧
      Snk w' F' nb lb db (stepS s ⟨L, m⟩ prev st t l).1 (stepS s ⟨L, m⟩ prev st t l).2.L (stepS s ⟨L, m⟩ prev st t l).2.m ∧
      Sl w' S' 36 vo (if applyOk prev st t l then [mHigh 31 (stepS s ⟨L, m⟩ prev st t l).1.high] else []) := by
  intro w0 hk
  obtain ⟨ab, an, ac, rfl⟩ := hw.form
  replace h := h.mv (hF.mv hk)
  have hT := hF.ft hk
  have hF0 : FX F (old w0) w0 := hF.kp hk
  have hw0 : Sl w0 (out F w0) 4 (.slice ab an ac) (l.map KV.l) := hw.mv fun k hk' hl' => ⟨⟨Nat.lt_of_lt_of_le hl' hk.size, (hS k hk').2⟩, hk.block k (hS k hk').1⟩
  have oa := hw0.one
  generalize hr : stepS s ⟨L, m⟩ prev st t l = q
  unfold stepS at hr
  obtain ⟨FN, FG, mb, av, es, hdj, hN, hG, hs0, hg⟩ := id h
  have hb := hs0.box.mv (Mv.sub fun k hk' => hT.inX k (hN k hk'))
  rw [hdn] at hb
  refine ok_sink_Node_Step (fun g hg => ?_) (fun ch w hh => by obtain ⟨v, he, _⟩ := hh; cases he) ?_
  · have e : defG Tryz.f15 = some 50 := by kernel_rfl
    rw [e] at hg; cases hg; exact idle_Step
  unfold vc_sink_Node_Step
  repeat' first | with_reducible (first | apply condW_F | apply r_nil) | ((with_reducible apply m_fld1); (· (first | assumption | exact RowIs.cells (by assumption))); (· kernel_rfl); (· rfl); intro _ _ _) | ((with_reducible apply m_ld1); (· (first | assumption | exact RowIs.cells (by assumption))); (· (first | exact mv0 | exact mv1 (by assumption) | exact mv2 (by assumption) (by assumption))); (· kernel_rfl); (· rfl)) | ((with_reducible apply chk_T); (· first | rfl | assumption | exact Sl.one (by assumption) | exact Rws.one (by assumption) | exact Sl.one (Own.sl (by assumption))))
  refine r_ct0V (d_msgs_May (hw0.mv hT.s.mv) (by omega)) (by kernel_rfl) hT.s.has fun w1 X1 hs1 => ?_
  have hT1 := hT.since hs1
  have h1 : Snk w1 F nb lb db s L m := h.mv (hs1.mvF hT.inX)
  clear hb hg hs0 hdj hN hG
  cases hok : applyOk prev st t l with
  | false =>
    rw [show (if nodeOk 31 && nodeOk 32 && false then (0 : Int) else 4) = 4 from by simp]
    repeat' first | ((with_reducible refine r_neqT ?_ ?_); (· omega)) | with_reducible (first | apply condW_T | apply un_selTF | apply un_selU | apply grdW_offF | apply grdW_U | apply rdW_pickT)
    have hq : q = (s, ⟨L, m⟩) := by rw [← hr, if_neg (by simp [SM.fits, hok])]
    subst hq
    refine hT1.fin fun wa hk9 => ⟨nil0, F, nX, rfl, fun _ h => .inl h, fun _ h => h.elim, h1.mv (hk9.mvA hT1.inX), ?_⟩
    rw [if_neg (by simp)]
    exact Sl.nil _ _ _
  | true =>
    rw [show (if nodeOk 31 && nodeOk 32 && true then (0 : Int) else 4) = 0 from by simp [nodeOk]]
    repeat' first | ((with_reducible refine r_neqF ?_ ?_); (· omega)) | with_reducible (first | apply condW_F | apply un_selF | apply un_selFT | apply grdV_onF | apply grdW_onF | apply grdW_offT | apply rdW_pickF)
    refine jn_by (Q := fun K => ∀ w2 X2 F2, Ft w0 F w2 X2 F2 → Snk w2 F2 nb lb db q.1 q.2.L q.2.m → K w2 X2) ?_ fun K hK => ?_
    · intro w2 X2 F2 hT2 h2
      obtain ⟨FN, FG, mb, av, es, hdj, hN, hG, hs2, hg⟩ := id h2
      have hb2 := hs2.box.mv (Mv.sub fun k hk' => hT2.inX k (hN k hk'))
      repeat' first | ((with_reducible apply un_cell); (· rfl)) | with_reducible apply r_nil | ((with_reducible apply m_fld); (· (first | assumption | exact RowIs.cells (by assumption))); (· kernel_rfl); (· rfl); (· (simp only [Value.cells, nq1, nq2, nq3, nq4, nq5, nq6, setL, nq7, nq8, nq9, nq0, Nat.reduceAdd, Nat.zero_add]; try rfl)); intro _ _ _) | ((with_reducible apply m_ldA); (· (first | assumption | exact RowIs.cells (by assumption))); (· (first | exact mv0 | exact mv1 (by assumption) | exact mv2 (by assumption) (by assumption))); (· kernel_rfl); (· rfl)) | ((with_reducible apply r_bld); (· kernel_rfl))
      refine m_bs1 hT2.s.has (by kernel_rfl) rfl fun v w3 X3 hs3 ho3 => ?_
      have ov := ho3.sl.one
      repeat' first | ((with_reducible apply chk_T); (· first | rfl | assumption | exact Sl.one (by assumption) | exact Rws.one (by assumption) | exact Sl.one (Own.sl (by assumption))))
      have hT3 := hT2.since hs3
      refine hT3.fin fun wa hk9 => ⟨v, F2, blk v, rfl, hT3.grew hk9 fun _ h => h, fun k hk' => ?_, (h2.mv (hs3.mvF hT2.inX)).mv (hk9.mvA hT3.inX), ?_⟩
      · obtain ⟨a1, a2⟩ := ho3.ge hk'
        have b1 := hT2.s.kp.size
        have b3 := hk9.size
        refine ⟨⟨by omega, by omega⟩, fun hf => ?_⟩
        have := hT2.s.has k (hT2.inX k hf)
        omega
      · rw [if_pos rfl]
        exact (ho3.kp hk9).ow.tight.sl
    · obtain ⟨FN, FG, mb, av, es, hdj, hN, hG, hs1', hg⟩ := id h1
      have hb1 := hs1'.box.mv (Mv.sub fun k hk' => hT1.inX k (hN k hk'))
      repeat' first | ((with_reducible refine r_eqlT ?_ ?_); (· omega)) | with_reducible (first | apply un_selT | apply grdV_onT | apply grdW_onT | apply r_nil) | ((with_reducible apply m_fld); (· (first | assumption | exact RowIs.cells (by assumption))); (· kernel_rfl); (· rfl); (· (simp only [Value.cells, nq1, nq2, nq3, nq4, nq5, nq6, setL, nq7, nq8, nq9, nq0, Nat.reduceAdd, Nat.zero_add]; try rfl)); intro _ _ _) | ((with_reducible apply m_ldA); (· (first | assumption | exact RowIs.cells (by assumption))); (· (first | exact mv0 | exact mv1 (by assumption) | exact mv2 (by assumption) (by assumption))); (· kernel_rfl); (· rfl))
      refine jn_by (Q := fun K1 => ∀ w2 X2, Since X1 w1 X2 w2 → K1 (I (st.cmp s.high)) w2 X2) ?_ fun K1 hK1 => ?_
      · intro w2 X2 hs2
        have hT2 := hT1.since hs2
        have h2 := h1.mv (hs2.mvF hT1.inX)
        have hb2 := hb1.since hs2
        have hno : s.fits prev st t l = false → K w2 X2 := fun hf => hK _ _ F hT2 (by
          have hq : q = (s, ⟨L, m⟩) := by rw [← hr, if_neg (by simp [hf])]
          rw [hq]; exact h2)
        repeat' first | with_reducible (first | apply condW_T | apply condW_F | apply un_selT | apply un_selFT | apply grdV_onT | apply grdW_onT | apply grdW_offT | apply rdW_pickT | apply rdW_pickF | apply r_nil) | (with_reducible apply r_gtr <;> intro _) | ((with_reducible apply m_fld); (· (first | assumption | exact RowIs.cells (by assumption))); (· kernel_rfl); (· rfl); (· (simp only [Value.cells, nq1, nq2, nq3, nq4, nq5, nq6, setL, nq7, nq8, nq9, nq0, Nat.reduceAdd, Nat.zero_add]; try rfl)); intro _ _ _) | ((with_reducible apply m_ldA); (· (first | assumption | exact RowIs.cells (by assumption))); (· (first | exact mv0 | exact mv1 (by assumption) | exact mv2 (by assumption) (by assumption))); (· kernel_rfl); (· rfl)) | ((with_reducible apply r_bld); (· kernel_rfl)) | ((with_reducible refine r_eqS _ _ ?_ ?_ ?_); (· kernel_rfl); all_goals intros)
        case refine_2.k =>
          have hp : prev = s.high := by first | assumption | (ext <;> assumption)
          have hfit : s.fits prev st t l = true := by
            simp only [SM.fits, hok, Bool.true_and, Bool.and_eq_true, decide_eq_true_eq]
            exact ⟨by assumption, hp⟩
          rw [if_pos hfit] at hr
          dsimp only at hr
          have henc : ∀ wa, Kp X2 w2 wa → Ct Tryz.prog 91 #[(recA prev st t l).v nil0 (.slice ab an ac) nil0 nil0 nil0 nil0] wa (out F wa) nX fun v wb w' =>
              if (0 : Nat) ≠ 0 then v = .tuple #[.slice none 0 0, I (0 : Nat)] else ∃ vb, v = .tuple #[vb, I 0] ∧ Own w' (made wb w') wb.heap.size 5 1 vb ((encA (recA prev st t l)).map U1) := fun wa hk9 => by
            have hwa : Sl wa (out F wa) 4 (.slice ab an ac) (l.map KV.l) := hw0.mv fun k hk' hl' => ⟨⟨Nat.lt_of_lt_of_le hk'.1 (Nat.le_trans hT2.s.kp.size hk9.size), hk'.2⟩, (hk9.block k (hT2.s.sub k hk')).trans (hT2.s.kp.block k hk')⟩
            refine (d_recs_EncodeA (r := recA prev st t l) ⟨Sl.nil _ _ _, hwa, Sl.nil _ _ _, Sl.nil _ _ _, Rws.nil _ _ _, Rws.nil _ _ _⟩ ?_ rfl (fun _ => ⟨hl, hkl, hen⟩)).mono fun v wb w' _ hq => ?_
            · exact ⟨by simp [recA], by simp [recA]; omega, by simp [recA], fun x hx => by have := hkl x hx; omega, ⟨by simp [recA, State.zero, HSmall], by simp [recA, State.zero, PSmall], by simp [recA, State.zero, HKeys], by simp [recA, State.zero, PKeys]⟩⟩
            · rw [recA_err hok, if_neg (by simp)] at hq
              rw [if_neg (by simp)]
              exact hq
          refine hT2.call (d_sink_keep (r := recA prev st t l) (e := 0) h2 hL hsl (hT2.fx fun _ h => h) henc rfl rfl rfl rfl rfl rfl hlk hkd) (by kernel_rfl) (fun _ h => h) fun v wa3 w3 X3 hq3 hle3 hin3 hT3 hc3 => ?_
          obtain ⟨rfl, F3, hF3, h3⟩ := hq3
          generalize LD.keep ⟨L, m⟩ 0 (encA (recA prev st t l)) = kp at hr h3 ⊢
          have hT3' : Ft w0 F w3 X3 F3 := hT3.less hF3
          repeat' first | with_reducible (first | apply condW_T | apply condW_F) | (with_reducible apply r_eql <;> intro _) | ((with_reducible apply m_ext); (· rfl))
          · rename_i hz
            have hz0 : kp.2.2 = 0 := by omega
            rw [if_pos hz0] at hr
            refine hT3'.call (d_sink_applyS (l := l) h3 (hT3'.fx fun _ h => h) (S := out F w0) (hw0.mv fun k hk' _ => ⟨hk', hT3'.s.kp.block k hk'⟩) (fun k hk' => ⟨?_, ?_⟩) (by omega) hd) (by kernel_rfl) (fun _ h => h) fun v wa4 w4 X4 hq4 hle4 hin4 hT4 hc4 => ?_
            · exact hT3'.s.sub k hk'
            · exact fun hf => hT3'.no hf hk'
            obtain ⟨rfl, F4, hF4, h4⟩ := hq4
            have hT4' : Ft w0 F w4 X4 F4 := hT4.less hF4
            obtain ⟨FN4, FG4, mb4, av4, es4, hdj4, hN4, hG4, hs4, hg4⟩ := id h4
            have hb4 := hs4.box.mv (Mv.sub fun k hk' => hT4'.inX k (hN4 k hk'))
            rw [show (s.apply t st l).since = s.since from rfl] at hb4
            repeat' first | with_reducible apply r_nil | ((with_reducible apply m_fld1); (· (first | assumption | exact RowIs.cells (by assumption))); (· kernel_rfl); (· rfl); intro _ _ _) | ((with_reducible apply m_ld1); (· (first | assumption | exact RowIs.cells (by assumption))); (· (first | exact mv0 | exact mv1 (by assumption) | exact mv2 (by assumption) (by assumption))); (· kernel_rfl); (· rfl)) | ((with_reducible apply r_add); (· omega); (· omega))
            refine m_stC (o := 2) hb4 (by omega) (by kernel_rfl) (by simp) rfl hT4'.s.has fun w5 X5 c5 hr5 => ?_
            have hT5 : Ft w0 F w5 X5 F4 := hT4'.chg c5 (fun k hk' => by subst hk'; exact hN4 _ hs4.box.1) fun k hk' => .inl hk'
            have h5 := Snk.setSince hdj4 hN4 hG4 hT4'.inX hs4 hg4 c5 (s.since + 1) hr5
            refine hK _ _ F4 hT5 ?_
            rw [← hr]
            exact h5
          · rename_i hz
            have hz0 : kp.2.2 ≠ 0 := by omega
            rw [if_neg hz0] at hr
            refine hK _ _ F3 hT3' ?_
            rw [← hr]
            exact h3
        all_goals exact hno (by simp [SM.fits, *])
      · repeat' first | with_reducible apply gE_T | (refine r_pure (c_hlc_Compare st s.high) (by kernel_rfl) hT1.s.has fun w2 X2 hs2 => ?_)
        exact hK1 _ _ hs2
end Go.Proofs.YtpdkoaklobnegaaGreat
namespace Go.Proofs.YtpdkoaklobnegaaGreat
open Go.Eng
set_option maxRecDepth 100000
set_option maxHeartbeats 1000000
set_option linter.unusedVariables false
set_option linter.unusedSimpArgs false
attribute [local irreducible] un jn chk fld ld1 ldA st1 ixS lnS lnT bld cvI cvF ixA bsS apS rdV rdW grdW eW eV eU eC eF gE condW fin pickN nilN binS vS lp0 lp1 lp2 lp3 lp4 lp5 lp6 lp7 nx0 nx1 nx2 nx3 nx4 nx5 nx6 nx7
def recB (st : Stamp) (l : List KV) : Rec := ⟨12, .zero, st, .zero, false, 0, 0, [], [], [], l, .zero⟩
theorem recB_err {st : Stamp} {l : List KV} (h : st.may = true) (hp : pairsOk l = true) : (recB st l).err = 0 := by
  simp [Rec.err, recB, Rec.strip, Rec.isZero, Rec.fieldsOk, h, hp, State.isZero, State.zero]
def SM.idle (s : SM) : Bool := decide (s.every = 0) || decide (s.since < s.every)
def tickS (s : SM) (x : LD) (K : Nat) : SM × LD :=
  if s.idle then (s, x) else
    let k := x.keep 0 (encBs (recB s.high s.list))
    if k.2.2 = 0 then ({ s with since := 0 }, (k.1.trim k.2.1 K).1) else (s, k.1)
theorem d_sink_Tick {w : World} {X F : XS} {nb lb db K : Nat} {s : SM} {L : LM} {m : DM} (h : Snk w F nb lb db s L m) (hL : LOK L) (hsl : L.segs.length ≤ 2 ^ 29) (hF : FX F X w) (hdn : s.down = false)
    (hsz : ∀ x ∈ s.pairs, x.1.size ≤ 2 ^ 16) (hlen : s.list.length ≤ 2 ^ 16) (hlp : s.pairs.length ≤ 2 ^ 16) (hlk' : ∀ x ∈ s.list, x.key.size ≤ 2 ^ 16) (hmay : s.high.may = true) (hpo : pairsOk s.list = true) (hen : (encBs (recB s.high s.list)).length ≤ 262144)
    (hlk : s.idle = false → LOK (LD.append ⟨L, m⟩ (encBs (recB s.high s.list))).1.L) (hkd : s.idle = false → (LD.keep ⟨L, m⟩ 0 (encBs (recB s.high s.list))).2.2 ≠ 12)
    (hlk2 : s.idle = false → LOK (LD.keep ⟨L, m⟩ 0 (encBs (recB s.high s.list))).1.L) (hK : s.idle = false → (LD.keep ⟨L, m⟩ 0 (encBs (recB s.high s.list))).1.L.segs.length ≤ K) (hK2 : K ≤ 2 ^ 40)
    (htr : s.idle = false → ((LD.keep ⟨L, m⟩ 0 (encBs (recB s.high s.list))).1.trim (LD.keep ⟨L, m⟩ 0 (encBs (recB s.high s.list))).2.1 K).2 ≠ 12) :
    Ct Tryz.prog 16 #[ptr nb 0] w X F fun v wa w' => ∃ F', v = I 0 ∧ (∀ k, F' k → F k ∨ made wa w' k) ∧
      Snk w' F' nb lb db (tickS s ⟨L, m⟩ K).1 (tickS s ⟨L, m⟩ K).2.L (tickS s ⟨L, m⟩ K).2.m := by
  intro w0 hk
  replace h := h.mv (hF.mv hk)
  have hT := hF.ft hk
  have hF0 : FX F (old w0) w0 := hF.kp hk
  generalize hr : tickS s ⟨L, m⟩ K = q
  unfold tickS at hr
  obtain ⟨FN, FG, mb, av, es, hdj, hN, hG, hs0, hg⟩ := id h
  have hb := hs0.box.mv (Mv.sub fun k hk' => hT.inX k (hN k hk'))
  rw [hdn] at hb
  refine ok_sink_Node_Tick (fun g hg => ?_) (fun ch w hh => by obtain ⟨v, he, _⟩ := hh; cases he) ?_
  · have e : defG Tryz.f16 = some 56 := by kernel_rfl
    rw [e] at hg; cases hg; exact idle_Tick
  unfold vc_sink_Node_Tick
  have hidle : s.idle = true → ∀ wa, Kp (old w0) w0 wa → ∃ F', I 0 = I 0 ∧ (∀ k, F' k → F k ∨ made w0 wa k) ∧ Snk wa F' nb lb db q.1 q.2.L q.2.m := fun hi wa hk9 => by
    rw [if_pos hi] at hr
    subst hr
    exact ⟨F, rfl, fun _ h => .inl h, h.mv (hk9.mvA hT.inX)⟩
  repeat' first | with_reducible (first | apply condW_T | apply condW_F | apply un_selF | apply un_selTF | apply grdV_onF | apply grdW_onF | apply grdW_offF | apply rdW_pickT | apply rdW_pickF | apply r_nil) | (with_reducible apply r_lss <;> intro _) | (with_reducible apply r_eql <;> intro _) | ((with_reducible apply m_fld1); (· (first | assumption | exact RowIs.cells (by assumption))); (· kernel_rfl); (· rfl); intro _ _ _) | ((with_reducible apply m_fld); (· (first | assumption | exact RowIs.cells (by assumption))); (· kernel_rfl); (· rfl); (· (simp only [Value.cells, nq1, nq2, nq3, nq4, nq5, nq6, setL, nq7, nq8, nq9, nq0, Nat.reduceAdd, Nat.zero_add]; try rfl)); intro _ _ _) | ((with_reducible apply m_ld1); (· (first | assumption | exact RowIs.cells (by assumption))); (· (first | exact mv0 | exact mv1 (by assumption) | exact mv2 (by assumption) (by assumption))); (· kernel_rfl); (· rfl)) | ((with_reducible apply m_ldA); (· (first | assumption | exact RowIs.cells (by assumption))); (· (first | exact mv0 | exact mv1 (by assumption) | exact mv2 (by assumption) (by assumption))); (· kernel_rfl); (· rfl)) | ((with_reducible apply chk_T); (· first | rfl | assumption | exact Sl.one (by assumption) | exact Rws.one (by assumption) | exact Sl.one (Own.sl (by assumption))))
  · exact hT.fin (hidle (by simp [SM.idle, *]))
  · exact hT.fin (hidle (by simp [SM.idle, *]))
  have hi : s.idle = false := by simp [SM.idle, *]
  replace hlk := hlk hi; replace hkd := hkd hi; replace hlk2 := hlk2 hi; replace hK := hK hi; replace htr := htr hi
  rw [if_neg (by rw [hi]; simp)] at hr
  dsimp only at hr
  clear hidle
  refine r_ct0 (d_sink_Pairs hs0 (hT.fx hN) (fun x hx => by have := hsz x hx; omega) (by omega)) (by kernel_rfl) hT.s.has ?_
  rintro vp wa1 w1 X1 hop hle1 hin1 hs1
  have hT1 := hT.since hs1
  have h1 : Snk w1 F nb lb db s L m := h.mv (hs1.mvF hT.inX)
  have hop1 : Own w1 X1 w0.heap.size 74 4 vp (s.list.map KV.l) := hop.up hin1 hle1
  obtain ⟨pb, pn, pc, rfl⟩ := hop1.sl.form
  repeat' first | ((with_reducible apply un_cell); (· rfl)) | ((with_reducible apply r_bld); (· kernel_rfl))
  have henc : ∀ wa, Kp X1 w1 wa → Ct Tryz.prog 91 #[(recB s.high s.list).v nil0 nil0 nil0 (.slice pb pn pc) nil0 nil0] wa (out F wa) nX fun v wb w' =>
      if (0 : Nat) ≠ 0 then v = .tuple #[.slice none 0 0, I (0 : Nat)] else ∃ vb, v = .tuple #[vb, I 0] ∧ Own w' (made wb w') wb.heap.size 5 1 vb ((encBs (recB s.high s.list)).map U1) := fun wa hk9 => by
    have hwa : Sl wa (out F wa) 4 (.slice pb pn pc) (s.list.map KV.l) := (hop1.kp hk9).tight.sl.mono fun k hk' => ⟨hk'.2, fun hf => by
      have := (hF0 k hf).2; have := hk'.1; omega⟩
    refine (d_recs_EncodeB (r := recB s.high s.list) ⟨Sl.nil _ _ _, Sl.nil _ _ _, Sl.nil _ _ _, hwa, Rws.nil _ _ _, Rws.nil _ _ _⟩ ?_ rfl (fun _ => ⟨hlen, hlk', hen⟩)).mono fun v wb w' _ hq => ?_
    · exact ⟨by simp [recB], by simp [recB], by simp [recB], by simp [recB], ⟨by simp [recB, State.zero, HSmall], by simp [recB, State.zero, PSmall], by simp [recB, State.zero, HKeys], by simp [recB, State.zero, PKeys]⟩⟩
    · rw [recB_err hmay hpo, if_neg (by simp)] at hq
      rw [if_neg (by simp)]
      exact hq
  refine hT1.call (d_sink_keep (r := recB s.high s.list) (e := 0) h1 hL hsl (hT1.fx fun _ h => h) henc rfl rfl rfl rfl rfl rfl hlk hkd) (by kernel_rfl) (fun _ h => h) fun v wa3 w3 X3 hq3 hle3 hin3 hT3 hc3 => ?_
  obtain ⟨rfl, F3, hF3, h3⟩ := hq3
  generalize LD.keep ⟨L, m⟩ 0 (encBs (recB s.high s.list)) = kp at hr h3 hlk2 hK htr ⊢
  have hT3' : Ft w0 F w3 X3 F3 := hT3.less hF3
  obtain ⟨FN3, FG3, mb3, av3, es3, hdj3, hN3, hG3, hs3, hg3⟩ := id h3
  have hb3 := hs3.box.mv (Mv.sub fun k hk' => hT3'.inX k (hN3 k hk'))
  repeat' first | with_reducible (first | apply condW_T | apply condW_F | apply r_nil) | (with_reducible apply r_eql <;> intro _) | ((with_reducible apply m_fld1); (· (first | assumption | exact RowIs.cells (by assumption))); (· kernel_rfl); (· rfl); intro _ _ _) | ((with_reducible apply m_ext); (· rfl)) | ((with_reducible apply chk_T); (· first | rfl | assumption | exact Sl.one (by assumption) | exact Rws.one (by assumption) | exact Sl.one (Own.sl (by assumption)))) | with_reducible apply jn_of
  · rename_i hz
    have hz0 : kp.2.2 = 0 := by omega
    rw [if_pos hz0] at hr
    refine m_stC (o := 2) hb3 (by omega) (by kernel_rfl) (by simp) rfl hT3'.s.has fun w5 X5 c5 hr5 => ?_
    have hT5 : Ft w0 F w5 X5 F3 := hT3'.chg c5 (fun k hk' => by subst hk'; exact hN3 _ hs3.box.1) fun k hk' => .inl hk'
    have h5 := Snk.setSince hdj3 hN3 hG3 hT3'.inX hs3 hg3 c5 0 hr5
    obtain ⟨FN5, FG5, mb5, av5, es5, hdj5, hN5, hG5, hs5, hg5⟩ := id h5
    have hb5 := hs5.box.mv (Mv.sub fun k hk' => hT5.inX k (hN5 k hk'))
    have hFG5 : FX FG5 X5 w5 := hT5.fx hG5
    repeat' first | with_reducible apply r_nil | ((with_reducible apply m_fld1); (· (first | assumption | exact RowIs.cells (by assumption))); (· kernel_rfl); (· rfl); intro _ _ _) | ((with_reducible apply m_ld1); (· (first | assumption | exact RowIs.cells (by assumption))); (· (first | exact mv0 | exact mv1 (by assumption) | exact mv2 (by assumption) (by assumption))); (· kernel_rfl); (· rfl))
    refine hT5.call (d_wal_Trim (below := kp.2.1) hg5 hlk2 hK (by omega) hFG5) (by kernel_rfl) hG5 fun v wa6 w6 X6 hq6 hle6 hin6 hT6 hc6 => ?_
    obtain ⟨rfl, FG6, hFG6, hg6⟩ := hq6
    have ekp : kp.1 = ⟨kp.1.L, kp.1.m⟩ := rfl
    rw [ekp] at hr htr
    generalize LD.trim ⟨kp.1.L, kp.1.m⟩ kp.2.1 K = tr at hr htr hg6 ⊢
    have hs6 : SkL w6 FN5 nb lb mb5 av5 es5 { s with since := 0 } := hs5.mv (hc6.mvA fun k hk' => ⟨hT5.inX k (hN5 k hk'), fun hf => hdj5 k hk' hf⟩)
    have hdj6 : Dj FN5 FG6 := fun k a b => (hFG6 k b).elim (hdj5 k a) fun hm => by
      have := (hT5.fx hN5 k a).2; have := hm.1; omega
    have hN6 : ∀ k, FN5 k → F3 k ∨ made wa6 w6 k := fun k hk' => .inl (hN5 k hk')
    have hG6 : ∀ k, FG6 k → F3 k ∨ made wa6 w6 k := fun k hk' => (hFG6 k hk').imp (hG5 k) id
    have h6 : Snk w6 (fun k => F3 k ∨ made wa6 w6 k) nb lb db { s with since := 0 } tr.1.L tr.1.m := ⟨FN5, FG6, mb5, av5, es5, hdj6, hN6, hG6, hs6, hg6⟩
    repeat' first | (refine r_pure (c_sink_fall (e := (tr.2 : Int)) (by omega)) (by kernel_rfl) hT6.s.has fun w7 X7 hs7 => ?_)
    have hT7 := hT6.since hs7
    refine hT7.fin fun wa hk9 => ⟨_, rfl, hT7.grew hk9 fun _ h => h, ?_⟩
    rw [← hr]
    exact (h6.mv (hs7.mvF hT6.inX)).mv (hk9.mvA hT7.inX)
  · rename_i hz
    have hz0 : kp.2.2 ≠ 0 := by omega
    rw [if_neg hz0] at hr
    refine hT3'.fin fun wa hk9 => ⟨F3, rfl, hT3'.grew hk9 fun _ h => h, ?_⟩
    rw [← hr]
    exact h3.mv (hk9.mvA hT3'.inX)
end Go.Proofs.YtpdkoaklobnegaaGreat
namespace Go.Proofs.YtpdkoaklobnegaaGreat
open Go.Eng
set_option maxRecDepth 100000
set_option maxHeartbeats 1000000
set_option linter.unusedVariables false
set_option linter.unusedSimpArgs false
attribute [local irreducible] un jn chk fld ld1 ldA st1 ixS lnS lnT bld cvI cvF ixA bsS apS rdV rdW grdW eW eV eU eC eF gE condW fin pickN nilN binS vS lp0 lp1 lp2 lp3 lp4 lp5 lp6 lp7 nx0 nx1 nx2 nx3 nx4 nx5 nx6 nx7
def L0 (dir : ByteArray) (sz : Nat) : LM := ⟨dir, sz, [], 0⟩
theorem d_wal_Open0 {w : World} {X F : XS} {db sz : Nat} {dir : ByteArray} {m : DM} (h : Dk w F db m) (hF : FX F X w) (hfs : m.fs = []) (hdn : m.dn = false) (h1 : 1 ≤ dir.size) (h2 : dir.size ≤ 11) (hs1 : 64 ≤ sz) (hs2 : sz ≤ 262144)
    (hr : (LD.roll ⟨L0 dir sz, m⟩ 1).2 = 0) :
    Ct Tryz.prog 41 #[ptr db 0, .string dir, I sz] w X F fun v wa w' => ∃ lb F', v = .tuple #[ptr lb 0, I 0] ∧ (∀ k, F' k → F k ∨ made wa w' k) ∧ Lg w' F' lb db (LD.roll ⟨L0 dir sz, m⟩ 1).1.L (LD.roll ⟨L0 dir sz, m⟩ 1).1.m := by
  intro w0 hk
  replace h := h.mv (hF.mv hk)
  have hT := hF.ft hk
  have hF0 : FX F (old w0) w0 := hF.kp hk
  apply ok_wal_Open; unfold vc_wal_Open
  refine r_ct0 (d_wal_Name (n := 1) h1 h2 (by omega) (by omega)) (by kernel_rfl) hT.s.has ?_
  rintro _ wa1 w1 X1 rfl hle1 hin1 hs1'
  replace hT := hT.since hs1'
  replace h := h.mv (hs1'.mvF fun k hk' => (hF0 k hk').1)
  repeat' first | ((with_reducible refine r_lssF ?_ ?_); (· omega)) | ((with_reducible refine r_neqF ?_ ?_); (· omega)) | ((with_reducible refine r_gtrF ?_ ?_); (· omega)) | with_reducible (first | apply condW_F | apply un_selF | apply grdV_onF | apply rdW_pickF) | ((with_reducible apply m_ext); (· rfl))
  refine r_ct0V (d_disk_Down h (hT.fx fun _ h => h)) (by kernel_rfl) hT.s.has fun w2 X2 hs2' => ?_
  replace h := h.mv (hs2'.mvF hT.inX)
  replace hT := hT.since hs2'
  rw [hdn]
  repeat' first | with_reducible apply condW_F | ((with_reducible apply r_bld); (· kernel_rfl))
  refine m_boxA hT.s.has fun lb w3 X3 hlb hs3 hrow => ?_
  have h3 := h.mv (hs3.mvF hT.inX)
  have hT3 := hT.since hs3
  have hFl : ∀ k, F k → k < w2.heap.size := fun k hk' => hT.s.has k (hT.inX k hk')
  have hT3' : Ft w0 F w3 X3 (fun k => F k ∨ k = lb) := hT3.more fun k hk' => hk'.imp id fun e => by
    subst e
    have := hT.s.kp.size
    exact ⟨hrow.1, by omega⟩
  have g3 : Lg w3 (fun k => F k ∨ k = lb) lb db (L0 dir sz) m :=
    ⟨(· = lb), F, .slice none 0 0, [], fun k a b => by have := hFl k b; omega, fun _ h => .inr h, fun _ h => .inl h,
      ⟨rfl, ⟨rfl, hrow.2⟩, ⟨by simp, .inl ⟨rfl, rfl⟩⟩, by simp, by simp, by simp, List.Pairwise.nil⟩, h3⟩
  refine r_ct0 (d_disk_List h3 (hT3.fx fun _ h => h) (by simp [hfs]) (by simp [hfs])) (by kernel_rfl) hT3.s.has ?_
  rintro vl wa4 w4 X4 hol hle4 hin4 hs4
  rw [show (sortB (m.fs.map (·.1))).map S1 = ([] : List ByteArray).map S1 from by rw [hfs]; simp [sortB]] at hol
  have hsl := hol.sl
  repeat' first | ((with_reducible apply m_lnS); (· (first | assumption | exact Own.sl (by assumption))); (· kernel_rfl))
  refine lp1_of (fun n a w X => a = I 0 ∧ Ft w0 F w X (fun k => F k ∨ k = lb) ∧ Lg w (fun k => F k ∨ k = lb) lb db (L0 dir sz) m) 0 ⟨rfl, hT3'.since hs4, g3.mv (hs4.mvF hT3'.inX)⟩ ?_
  clear hT hT3 hT3' g3 h3 h hrow
  rintro n a w5 X5 ⟨rfl, hT5, g5⟩
  obtain ⟨FL, FD, sv, bl, hdj, hL, hD, hl, hd⟩ := id g5
  have hbl : bl = [] := by have := hl.segs; cases bl with
    | nil => rfl
    | cons x y => simp [L0] at this
  subst hbl
  have hb5 := hl.box.mv (Mv.sub fun k hk' => hT5.inX k (hL k hk'))
  have hsv := hl.so.sl
  repeat' first | ((with_reducible refine r_eqlT ?_ ?_); (· omega)) | with_reducible (first | apply condW_T | apply condW_F | apply r_nil) | (with_reducible apply r_lss <;> intro _) | ((with_reducible apply m_fld1); (· (first | assumption | exact RowIs.cells (by assumption))); (· kernel_rfl); (· rfl); intro _ _ _) | ((with_reducible apply m_ld1); (· (first | assumption | exact RowIs.cells (by assumption))); (· (first | exact mv0 | exact mv1 (by assumption) | exact mv2 (by assumption) (by assumption))); (· kernel_rfl); (· rfl)) | ((with_reducible apply m_lnS); (· (first | assumption | exact Own.sl (by assumption))); (· kernel_rfl)) | with_reducible apply jn_of | (exfalso; rename_i h; simp at h; done)
  refine hT5.call (d_wal_roll (n := 1) g5 h2 (by omega) (by simp [L0]) (hT5.fx fun _ h => h)) (by kernel_rfl) (fun _ h => h) fun v wa6 w6 X6 hq6 hle6 hin6 hT6 hc6 => ?_
  obtain ⟨rfl, F6, hF6, h6⟩ := hq6
  have hT6' : Ft w0 F w6 X6 F6 := hT6.less hF6
  rw [hr]
  repeat' first | ((with_reducible refine r_neqF ?_ ?_); (· omega)) | with_reducible apply condW_F
  exact hT6'.fin fun wa hk9 => ⟨lb, F6, rfl, hT6'.grew hk9 fun _ h => h, h6.mv (hk9.mvA hT6'.inX)⟩
def SM0 (every : Int) : SM := ⟨every, 0, false, [], .zero, []⟩
theorem roll_L0 {dir : ByteArray} {sz : Nat} {m : DM} (hr : (LD.roll ⟨L0 dir sz, m⟩ 1).2 = 0) : (LD.roll ⟨L0 dir sz, m⟩ 1).1.L = ⟨dir, sz, [⟨1, [], 0⟩], 0⟩ := by
  unfold LD.roll at *
  dsimp only at *
  rw [if_pos hr]
  rfl
theorem d_sink_Open0 {w : World} {X F : XS} {db sz : Nat} {every : Int} {m : DM} (h : Dk w F db m) (hF : FX F X w) (hfs : m.fs = []) (hdn : m.dn = false) (hs1 : 64 ≤ sz) (hs2 : sz ≤ 262144) (he1 : 0 ≤ every) (he2 : every ≤ 1000)
    (hr : (LD.roll ⟨L0 ⟨#[115, 105, 110, 107]⟩ sz, m⟩ 1).2 = 0) :
    Ct Tryz.prog 12 #[ptr db 0, I sz, I every] w X F fun v wa w' => ∃ nb lb F', v = .tuple #[ptr nb 0, I 0] ∧ (∀ k, F' k → F k ∨ made wa w' k) ∧
      Snk w' F' nb lb db (SM0 every) (LD.roll ⟨L0 ⟨#[115, 105, 110, 107]⟩ sz, m⟩ 1).1.L (LD.roll ⟨L0 ⟨#[115, 105, 110, 107]⟩ sz, m⟩ 1).1.m := by
  intro w0 hk
  replace h := h.mv (hF.mv hk)
  have hT := hF.ft hk
  have hF0 : FX F (old w0) w0 := hF.kp hk
  have hLL := roll_L0 hr
  apply ok_sink_Open; unfold vc_sink_Open
  repeat' first | ((with_reducible refine r_lssF ?_ ?_); (· omega)) | ((with_reducible refine r_gtrF ?_ ?_); (· omega)) | with_reducible (first | apply condW_F | apply un_selF | apply grdV_onF | apply rdW_pickF)
  refine hT.call (d_wal_Open0 h (hT.fx fun _ h => h) hfs hdn (by decide) (by decide) hs1 hs2 hr) (by kernel_rfl) (fun _ h => h) fun v wa1 w1 X1 hq1 hle1 hin1 hT1 hc1 => ?_
  obtain ⟨lb, F1, rfl, hF1, g1⟩ := hq1
  replace hT1 : Ft w0 F w1 X1 F1 := hT1.less hF1
  repeat' first | ((with_reducible refine r_neqF ?_ ?_); (· omega)) | with_reducible apply condW_F | ((with_reducible apply m_ext); (· rfl))
  refine m_makeMap (kv := Value.string) rdVal nX hT1.s.has fun mb w2 X2 hmb hs2' hm2 => ?_
  have hT2 := hT1.since hs2'
  have g2 := g1.mv (hs2'.mvF hT1.inX)
  repeat' first | ((with_reducible apply r_bld); (· kernel_rfl))
  refine m_boxA hT2.s.has fun nb w3 X3 hnb hs3 hrow => ?_
  have hT3 := hT2.since hs3
  have g3 := g2.mv (hs3.mvF hT2.inX)
  have hFl : ∀ k, F1 k → k < w1.heap.size := fun k hk' => hT1.s.has k (hT1.inX k hk')
  have hm3 := hm2.mv rdVal_mv hs3.mv (fun _ h => h.elim) (A' := nX)
  have hLK : LOK ⟨⟨#[115, 105, 110, 107]⟩, sz, [⟨1, [], 0⟩], 0⟩ := ⟨by simp, (show 1 ≤ ByteArray.size ⟨#[115, 105, 110, 107]⟩ from by decide), (show ByteArray.size ⟨#[115, 105, 110, 107]⟩ ≤ 11 from by decide), by simp, by simp; omega⟩
  have hnx : LM.next ⟨⟨#[115, 105, 110, 107]⟩, sz, [⟨1, [], 0⟩], 0⟩ = 1 := rfl
  have hz1 := hT1.s.kp.size
  have hz2 := hs2'.kp.size
  have hz3 := hs3.kp.size
  have hmX : X3 mb ∧ mb < w2.heap.size := ⟨hs3.sub mb hm2.x.1, hm2.x.2⟩
  have hT3' : Ft w0 F w3 X3 (fun k => F1 k ∨ k = nb ∨ k = mb) := hT3.more fun k hk' => hk'.imp id fun e => by
    rcases e with e | e <;> subst e
    · exact ⟨hrow.1, by omega⟩
    · exact ⟨hmX.1, by omega⟩
  rw [hLL] at g3
  have h3 : Snk w3 (fun k => F1 k ∨ k = nb ∨ k = mb) nb lb db (SM0 every) ⟨⟨#[115, 105, 110, 107]⟩, sz, [⟨1, [], 0⟩], 0⟩ (LD.roll ⟨L0 ⟨#[115, 105, 110, 107]⟩ sz, m⟩ 1).1.m := by
    refine ⟨fun k => k = nb ∨ k = mb, F1, mb, .slice none 0 0, [], fun k a b => ?_, fun _ h => .inr h, fun _ h => .inl h, ⟨rfl, ⟨.inl rfl, hrow.2⟩, ?_, ⟨by simp, .inl ⟨rfl, rfl⟩⟩, by simp⟩, g3⟩
    · have := hFl k b
      rcases a with a | a <;> omega
    · obtain ⟨e, c', q1, q2⟩ := hm3
      exact ⟨e, c', ⟨.inr rfl, q1.2⟩, q2⟩
  clear hm3 hm2 hrow g3 g2 g1 hT3 hT2 hT1 hT h
  obtain ⟨FL, FD, sv, bl, hW⟩ := (show Lg w3 (fun k => F1 k ∨ k = nb ∨ k = mb) lb db _ _ from let ⟨_, _, _, _, _, _, _, hG, _, g⟩ := h3; g.mono hG).lw
  refine r_ct0V (d_wal_First hW.l rfl (hT3'.fx hW.hL)) (by kernel_rfl) hT3'.s.has fun w4 X4 hs4 => ?_
  have hT4 := hT3'.since hs4
  have h4 := h3.mv (hs4.mvF hT3'.inX)
  replace hW := hW.mv (hs4.mvF hT3'.inX)
  rw [show (((⟨1, [], 0⟩ : SegM).first : Nat) : Int) = 1 from rfl]
  repeat' first | ((with_reducible refine r_eqlT ?_ ?_); (· omega))
  refine r_ct0V (d_wal_First hW.l rfl (hT4.fx hW.hL)) (by kernel_rfl) hT4.s.has fun w5 X5 hs5 => ?_
  have hT5 := hT4.since hs5
  have h5 := h4.mv (hs5.mvF hT4.inX)
  replace hW := hW.mv (hs5.mvF hT4.inX)
  rw [show (((⟨1, [], 0⟩ : SegM).first : Nat) : Int) = 1 from rfl]
  refine lp2_of (fun n a b w X => a = I 1 ∧ b = B true ∧ Ft w0 F w X (fun k => F1 k ∨ k = nb ∨ k = mb) ∧ Snk w (fun k => F1 k ∨ k = nb ∨ k = mb) nb lb db (SM0 every) ⟨⟨#[115, 105, 110, 107]⟩, sz, [⟨1, [], 0⟩], 0⟩ (LD.roll ⟨L0 ⟨#[115, 105, 110, 107]⟩ sz, m⟩ 1).1.m ∧
    LW w (fun k => F1 k ∨ k = nb ∨ k = mb) lb db ⟨⟨#[115, 105, 110, 107]⟩, sz, [⟨1, [], 0⟩], 0⟩ (LD.roll ⟨L0 ⟨#[115, 105, 110, 107]⟩ sz, m⟩ 1).1.m FL FD sv bl) 0 ⟨rfl, rfl, hT5, h5, hW⟩ ?_
  clear hT5 h5 hW hT4 h4 hT3' h3
  rintro n a b w6 X6 ⟨rfl, rfl, hT6, h6, hW⟩
  refine r_ct0V (d_wal_Next hW.l hLK (hT6.fx hW.hL)) (by kernel_rfl) hT6.s.has fun w7 X7 hs7 => ?_
  have hT7 := hT6.since hs7
  have h7 := h6.mv (hs7.mvF hT6.inX)
  rw [hnx]
  repeat' first | ((with_reducible refine r_lssF ?_ ?_); (· omega)) | with_reducible (first | apply condW_F | apply r_notT)
  refine hT7.fin fun wa hk9 => ⟨nb, lb, _, rfl, hT7.grew hk9 fun _ h => h, ?_⟩
  rw [hLL]
  exact h7.mv (hk9.mvA hT7.inX)
end Go.Proofs.YtpdkoaklobnegaaGreat
namespace Go.Proofs.YtpdkoaklobnegaaGreat
open Go.Eng
set_option maxRecDepth 100000
set_option maxHeartbeats 1000000
set_option linter.unusedVariables false
set_option linter.unusedSimpArgs false
attribute [local irreducible] un jn chk fld ld1 ldA st1 ixS lnS lnT bld cvI cvF ixA bsS apS rdV rdW grdW eW eV eU eC eF gE condW fin pickN nilN binS vS lp0 lp1 lp2 lp3 lp4 lp5 lp6 lp7 nx0 nx1 nx2 nx3 nx4 nx5 nx6 nx7
def fewN (n more most : Int) : Int := if more > most ∨ n > most then most + 1 else n + more
theorem c_raceref_few {n more most : Int} (h1 : 0 ≤ n ∧ n ≤ 2 ^ 40) (h2 : 0 ≤ more ∧ more ≤ 2 ^ 42) (h3 : 0 ≤ most ∧ most ≤ 2 ^ 40) : Pure Tryz.prog 40 #[I n, I more, I most] (I (fewN n more most)) := by
  intro w
  apply ok_raceref_few; unfold vc_raceref_few
  have hs := Since.init w
  repeat' first | with_reducible (first | apply condW_T | apply condW_F | apply un_selF | apply un_selTF | apply grdV_onF | apply grdW_offF | apply rdW_pickT | apply rdW_pickF) | (with_reducible apply r_gtr <;> intro _) | ((with_reducible apply r_add); (· omega); (· omega)) | ((with_reducible refine fin_pure hs ?_); (first | (simp_all [fewN]; done) | (simp only [fewN]; rw [if_neg (by omega)]) | (simp only [fewN]; rw [if_pos (by omega)])))
def wsum (l : List KV) : Nat := (l.map fun x => 1 + x.key.size + x.val.text.size).sum
theorem d_weigh {w : World} {X : XS} {a : Value} {xs : List KV} (ha : Sl w X 4 a (xs.map KV.l)) (hsz : ∀ x ∈ xs, x.key.size ≤ 2 ^ 40 ∧ x.val.text.size ≤ 2 ^ 40) :
    Ct Tryz.prog 10 #[a, I 20000] w X nX fun v _ _ => ∃ n : Int, v = I n ∧ (n ≤ 20000 → (wsum xs : Int) ≤ n) := by
  intro w0 hk
  replace ha := ha.mv hk.mvo
  have hla := ha.len'
  apply ok_raceref_WeighWrites; unfold vc_raceref_WeighWrites
  have hs := Since.init w0
  refine lp2_of (fun n a b w X => ∃ (i : Nat) (s : Int), a = I i ∧ b = I s ∧ n = xs.length - i ∧ i ≤ xs.length ∧ (0 ≤ s ∧ s ≤ 40001 ∧ (s ≤ 20000 → (wsum (xs.take i) : Int) ≤ s)) ∧ Since (old w0) w0 X w) xs.length ⟨0, _, rfl, rfl, rfl, Nat.zero_le _, by simp [wsum], hs⟩ ?_
  clear hs
  rintro n a b w X ⟨i, s, rfl, rfl, rfl, hi, hw, hs⟩
  rcases at_or xs i with ⟨hlt, x, hx, hd⟩ | ⟨hge, hd⟩
  · obtain ⟨z1, z2⟩ := hsz x (List.mem_of_getElem? hx)
    have hsum : wsum (xs.take (i + 1)) = wsum (xs.take i) + (1 + x.key.size + x.val.text.size) := by rw [List.take_add_one, hx]; simp [wsum]
    have f1 : 0 ≤ fewN s (1 + (x.key.size : Int)) 20000 ∧ fewN s (1 + (x.key.size : Int)) 20000 ≤ 20001 + 20000 ∧ (fewN s (1 + (x.key.size : Int)) 20000 ≤ 20000 → fewN s (1 + (x.key.size : Int)) 20000 = s + (1 + (x.key.size : Int))) := by
      unfold fewN; split <;> omega
    repeat' first | ((with_reducible refine r_lssT ?_ ?_); (· omega)) | with_reducible (first | apply condW_T | apply condW_F | apply un_selT | apply grdV_onT | apply rdW_pickT) | (with_reducible apply r_leq <;> intro _) | ((with_reducible apply m_fld1); (· (first | assumption | exact RowIs.cells (by assumption))); (· kernel_rfl); (· rfl); intro _ _ _) | ((with_reducible apply m_fld); (· (first | assumption | exact RowIs.cells (by assumption))); (· kernel_rfl); (· rfl); (· (simp only [Value.cells, nq1, nq2, nq3, nq4, nq5, nq6, setL, nq7, nq8, nq9, nq0, Nat.reduceAdd, Nat.zero_add]; try rfl)); intro _ _ _) | ((with_reducible apply m_ld1); (· (first | assumption | exact RowIs.cells (by assumption))); (· (first | exact mv0 | exact mv1 (by assumption) | exact mv2 (by assumption) (by assumption))); (· kernel_rfl); (· rfl)) | ((with_reducible apply m_lnS); (· (first | assumption | exact Own.sl (by assumption))); (· kernel_rfl)) | ((with_reducible apply r_lnT); (· kernel_rfl)) | ((with_reducible apply m_ixS); (· (first | assumption | exact Own.sl (by assumption))); (try (case hz => rfl)); (case hr => first | assumption | exact List.getElem?_eq_getElem (by omega)); (try (case hz => omega)); (case ht => kernel_rfl); (case hs => kernel_rfl); intro _ _ _) | ((with_reducible apply r_add); (· omega); (· omega)) | ((with_reducible refine r_pure (c_raceref_few (by first | assumption | omega) (by first | assumption | omega) (by first | assumption | omega)) ?_ hs.has ?_); (· kernel_rfl); intro w X hs1; replace hs := hs.trans hs1)
    · refine nx2_of (xs.length - (i + 1)) (by omega) ⟨i + 1, _, by simp, rfl, rfl, by omega, ?_, hs⟩
      rw [hsum]
      generalize fewN s (1 + (x.key.size : Int)) 20000 = y at f1 ⊢
      by_cases hy : y ≤ 20000
      · unfold fewN; split <;> omega
      · unfold fewN; rw [if_pos (by omega)]; omega
    · exact fin_ret0 hs fun wa hk9 => ⟨s, rfl, fun h => by omega⟩
  · have hil : i = xs.length := by omega
    subst hil
    rw [List.take_length] at hw
    repeat' first | ((with_reducible refine r_lssF ?_ ?_); (· omega)) | with_reducible (first | apply condW_F | apply un_selFT | apply grdW_offT | apply rdW_pickF) | ((with_reducible apply m_lnS); (· (first | assumption | exact Own.sl (by assumption))); (· kernel_rfl))
    all_goals exact fin_ret0 hs fun wa hk9 => ⟨s, rfl, hw.2.2⟩
def prevN (n : Int) : Stamp := if n > 0 then ⟨n, 0, 1⟩ else .zero
theorem d_law_apply {w : World} {X : XS} {prev n : Int} {key : ByteArray} : Ct Tryz.prog 13 #[I prev, I n, .string key] w X nX fun v wa w' => ∃ a, v = MA 12 31 32 (prevN prev) ⟨n, 0, 1⟩ ⟨1, 1, n⟩ a ∧
    Own w' (made wa w') wa.heap.size 53 4 a ([(⟨key, ⟨1, 4607182418800017408, ⟨#[]⟩⟩⟩ : KV)].map KV.l) := by
  intro w0 hk
  apply ok_racelaw22_apply; unfold vc_racelaw22_apply
  have hs := Since.init w0
  repeat' first | with_reducible (first | apply condW_T | apply condW_F) | ((with_reducible apply un_cell); (· rfl)) | ((with_reducible apply m_sub); (· (simp only [Value.cells, nq1, nq2, nq3, nq4, nq5, nq6, setL, nq7, nq8, nq9, nq0, Nat.reduceAdd, Nat.zero_add]; try rfl))) | ((with_reducible apply m_set); (· (simp only [Value.cells, nq1, nq2, nq3, nq4, nq5, nq6, setL, nq7, nq8, nq9, nq0, Nat.reduceAdd, Nat.zero_add]; try rfl))) | with_reducible apply un_box | (with_reducible apply r_gtr <;> intro _) | ((with_reducible apply r_bld); (· kernel_rfl)) | ((with_reducible apply m_chkc); (case h => (repeat' first | with_reducible apply all_one_cons | with_reducible exact all_one_nil | assumption | rfl | exact Sl.one (by assumption) | exact Rws.one (by assumption) | exact Sl.one (Own.sl (by assumption))))) | ((with_reducible apply chk_T); (· first | rfl | assumption | exact Sl.one (by assumption) | exact Rws.one (by assumption) | exact Sl.one (Own.sl (by assumption)))) | ((with_reducible apply m_bs1); (case hX => exact hs.has); (case he => kernel_rfl); (case hk => rfl); intro acc w X hs1 ho; obtain ⟨_, _, _, rfl⟩ := ho.sl.form; replace hs := hs.trans hs1) | with_reducible apply jn_of
  · refine fin_ret0 hs fun wa hk9 => ⟨_, ?_, (ho.kp hk9).tight⟩
    rw [prevN, if_pos (by assumption)]
  · refine fin_ret0 hs fun wa hk9 => ⟨_, ?_, (ho.kp hk9).tight⟩
    rw [prevN, if_neg (by assumption)]
end Go.Proofs.YtpdkoaklobnegaaGreat
namespace Go.Proofs.YtpdkoaklobnegaaGreat
open Go.Eng
def DM.ks (m : DM) : List ByteArray := m.fs.map (·.1)
theorem DM.get_some {m : DM} {n : ByteArray} : (m.get n).isSome = true ↔ n ∈ m.ks := by
  have h := getM_none (k := n) (l := m.fs)
  show (getM n m.fs).isSome = true ↔ n ∈ m.fs.map (·.1)
  cases hg : getM n m.fs with
  | none => simpa using h.1 hg
  | some x =>
    simp only [Option.isSome_some, true_iff]
    rcases Classical.em (n ∈ m.fs.map (·.1)) with h' | h'
    · exact h'
    · have := h.2 h'; rw [hg] at this; cases this
theorem DM.ks_len (m : DM) : m.ks.length = m.fs.length := by simp [DM.ks]
theorem sumM_del_le {α κ : Type} [DecidableEq κ] (f : α → Nat) (k : κ) : ∀ l : List (κ × α), sumM f (delM k l) ≤ sumM f l
  | [] => Nat.le_refl _
  | x :: l => by
    have ih := sumM_del_le f k l
    unfold delM at *
    rw [List.filter_cons]
    split
    · simp only [sumM, List.map_cons, List.sum_cons] at ih ⊢; omega
    · simp only [sumM, List.map_cons, List.sum_cons] at ih ⊢; omega
structure MOk (m : DM) : Prop where
  ar : m.ar = 0
  dn : m.dn = false
theorem MOk.tick {m : DM} (h : MOk m) : MOk m.tick := by
  unfold DM.tick
  rw [if_neg (by rw [h.ar]; decide)]
  exact ⟨by simp [h.ar], h.dn⟩
theorem MOk.write {m : DM} (h : MOk m) (f : DM → DM) : m.write 0 f = (f m.tick, 0) := by
  unfold DM.write
  rw [if_neg (by rw [h.dn]; simp), if_neg (by simp), if_neg (by rw [h.tick.dn]; simp)]
theorem MOk.writeE {m : DM} (h : MOk m) {e : Nat} (he : e ≠ 0) (f : DM → DM) : m.write e f = (m, e) := by
  unfold DM.write
  rw [if_neg (by rw [h.dn]; simp), if_pos he]
theorem MOk.create {m : DM} (h : MOk m) {n : ByteArray} (hn : nameOk n = true) (hk : ¬ n ∈ m.ks) :
    (64 ≤ m.fs.length ∧ m.create n = (m, 3)) ∨ (m.fs.length < 64 ∧ (m.create n).2 = 0 ∧ MOk (m.create n).1 ∧ (m.create n).1.ks = m.ks ++ [n] ∧ (m.create n).1.sz = m.sz) := by
  have hg : ¬ (m.get n).isSome = true := fun e => hk (DM.get_some.1 e)
  unfold DM.create
  rw [if_neg (by simp [hn]), if_neg hg]
  by_cases hl : 64 ≤ m.fs.length
  · left
    rw [if_pos hl]
    exact ⟨hl, h.writeE (by decide) _⟩
  · right
    rw [if_neg hl, h.write]
    refine ⟨by omega, rfl, ⟨h.tick.ar, h.tick.dn⟩, ?_, ?_⟩
    · show (putM n ([], 0) m.tick.fs).map (·.1) = _
      rw [putM_keys, m.tick_fs, if_neg (show ¬ (getM n m.fs).isSome = true from hg)]; rfl
    · have : m.tick.get n = none := by rw [m.tick_get]; simpa using hg
      rw [DM.put_new this, m.tick_sz]; simp
theorem MOk.append {m : DM} (h : MOk m) {n : ByteArray} {b : List Nat} (hk : n ∈ m.ks) (hsz : m.sz + b.length ≤ 4194304) :
    (m.append n b).2 = 0 ∧ MOk (m.append n b).1 ∧ (m.append n b).1.ks = m.ks ∧ (m.append n b).1.sz = m.sz + b.length := by
  have hg := DM.get_some.2 hk
  unfold DM.append
  rw [if_neg (by rw [h.dn]; simp)]
  cases hx : m.get n with
  | none => rw [hx] at hg; cases hg
  | some x =>
    obtain ⟨bs, s⟩ := x
    dsimp only
    rw [if_neg (by omega)]
    refine ⟨by rw [if_neg (by rw [h.tick.dn]; simp)], ⟨h.tick.ar, h.tick.dn⟩, ?_, ?_⟩
    · show (putM n (bs ++ b, s) m.tick.fs).map (·.1) = _
      rw [putM_keys, m.tick_fs, if_pos (show (getM n m.fs).isSome = true from hg)]; rfl
    · have : m.tick.get n = some (bs, s) := by rw [m.tick_get]; exact hx
      have := DM.put_sz (bs := bs ++ b) (s' := s) this
      rw [m.tick_sz, List.length_append] at this
      dsimp only
      omega
theorem MOk.sync {m : DM} (h : MOk m) {n : ByteArray} (hk : n ∈ m.ks) : (m.sync n).2 = 0 ∧ MOk (m.sync n).1 ∧ (m.sync n).1.ks = m.ks ∧ (m.sync n).1.sz = m.sz := by
  have hg := DM.get_some.2 hk
  unfold DM.sync
  rw [if_pos hg, h.write]
  have hgt : (m.tick.get n).isSome = true := by rw [m.tick_get]; exact hg
  refine ⟨rfl, ?_, ?_, by dsimp only; rw [DM.syncF_sz, m.tick_sz]⟩
  · unfold DM.syncF; dsimp only; split
    · exact h.tick
    · exact ⟨h.tick.ar, h.tick.dn⟩
  · unfold DM.syncF; dsimp only; split
    · unfold DM.ks; rw [m.tick_fs]
    · rename_i x hx
      show (putM n _ m.tick.fs).map (·.1) = _
      rw [putM_keys, m.tick_fs, if_pos (show (getM n m.fs).isSome = true from hg)]; rfl
theorem MOk.remove {m : DM} (h : MOk m) (n : ByteArray) : (m.remove n).2 ≠ 12 ∧ MOk (m.remove n).1 ∧ (m.remove n).1.sz ≤ m.sz ∧ (m.remove n).1.ks.length ≤ m.ks.length ∧
    ((m.remove n).2 = 0 → (m.remove n).1.ks = m.ks.filter fun k => decide (k ≠ n)) ∧ ((m.remove n).2 ≠ 0 → (m.remove n).1 = m) := by
  unfold DM.remove
  by_cases hg : (m.get n).isSome = true
  · rw [if_pos hg, h.write]
    have hks : (m.tick.del n).ks = m.ks.filter fun k => decide (k ≠ n) := by
      show (delM n m.tick.fs).map (·.1) = _
      rw [m.tick_fs]; unfold delM DM.ks; rw [List.filter_map]; rfl
    refine ⟨by simp, ⟨h.tick.ar, h.tick.dn⟩, ?_, ?_, fun _ => hks, fun e => absurd rfl e⟩
    · have := sumM_del_le (fun x : List Nat × Nat => x.1.length) n m.tick.fs
      rw [m.tick_fs] at this
      show sumM _ (delM n m.tick.fs) ≤ _
      rw [m.tick_fs]; exact this
    · dsimp only; rw [hks]; exact List.length_filter_le _ _
  · rw [if_neg hg, h.writeE (by decide)]
    exact ⟨by simp, h, Nat.le_refl _, Nat.le_refl _, fun e => by simp at e, fun _ => rfl⟩
theorem digN_inj : ∀ {k a b : Nat}, a < 10 ^ k → b < 10 ^ k → digN k a = digN k b → a = b
  | 0, a, b, ha, hb, _ => by omega
  | k + 1, a, b, ha, hb, h => by
    unfold digN at h
    obtain ⟨h1, h2⟩ := List.append_inj' h rfl
    have := digN_inj (k := k) (a := a / 10) (b := b / 10) (by rw [Nat.pow_succ] at ha; omega) (by rw [Nat.pow_succ] at hb; omega) h1
    simp at h2
    omega
theorem digN_lt : ∀ (k n : Nat), ∀ x ∈ digN k n, x < 256
  | 0, _, x, h => by cases h
  | k + 1, n, x, h => by
    unfold digN at h
    rcases List.mem_append.1 h with h | h
    · exact digN_lt k _ x h
    · simp at h; omega
theorem strB_inj {a b : List Nat} (ha : ∀ x ∈ a, x < 256) (hb : ∀ x ∈ b, x < 256) (h : strB a = strB b) : a = b := by
  unfold strB at h
  have h1 : (a.map UInt8.ofNat) = b.map UInt8.ofNat := by
    have := congrArg (fun x : ByteArray => x.data.toList) h
    simpa using this
  have h2 := congrArg (List.map UInt8.toNat) h1
  simp only [List.map_map] at h2
  have e : ∀ l : List Nat, (∀ x ∈ l, x < 256) → l.map (UInt8.toNat ∘ UInt8.ofNat) = l := fun l hl => by
    refine (List.map_congr_left fun x hx => ?_).trans (List.map_id l)
    have := hl x hx
    simp [UInt8.toNat_ofNat']; omega
  rwa [e a ha, e b hb] at h2
theorem fileN_inj {dir : ByteArray} {a b : Nat} (ha : a < 10 ^ 8) (hb : b < 10 ^ 8) (h : fileN dir a = fileN dir b) : a = b := by
  unfold fileN at h
  have h1 := congrArg (fun x : ByteArray => x.data.toList) h
  simp only [ByteArray.data_append, Array.toList_append] at h1
  have h2 := List.append_cancel_left h1
  refine digN_inj ha hb (strB_inj (digN_lt _ _) (digN_lt _ _) ?_)
  unfold strB at h2 ⊢
  simp only at h2
  congr 1
  exact Array.toList_inj.1 h2
end Go.Proofs.YtpdkoaklobnegaaGreat
namespace Go.Proofs.YtpdkoaklobnegaaGreat
open Go.Eng
structure LInv (B c n : Nat) (x : LD) : Prop where
  ok : MOk x.m
  ne : x.L.segs ≠ []
  d1 : 1 ≤ x.L.dir.size
  d2 : x.L.dir.size ≤ 11
  r1 : 1 ≤ x.L.room
  r2 : x.L.room ≤ 2 ^ 40
  keys : ∀ k ∈ x.m.ks, ∃ f ∈ x.L.segs.map (·.first), k = fileN x.L.dir f
  last : x.L.lastName ∈ x.m.ks
  pw : (x.L.segs.map (·.first)).Pairwise (· < ·)
  emp : x.L.last.recs = [] → x.L.last.size = 0
  pos : ∀ s ∈ x.L.segs, 1 ≤ s.first ∧ s.first ≤ 1 + c ∧ s.first + s.recs.length ≤ 1 + c ∧ s.size ≤ B * c
  nxt : x.L.next = 1 + c
  sz : x.m.sz ≤ B * c
  len : x.L.segs.length ≤ n
  cnt : x.m.ks.length ≤ 64
theorem LInv.lok {B c n : Nat} {x : LD} (h : LInv B c n x) (hb : B * c ≤ 2 ^ 30) (hc : c ≤ 2 ^ 30) : LOK x.L :=
  ⟨h.ne, h.d1, h.d2, fun s hs => by have := h.pos s hs; omega, h.r2⟩
structure Alike (x y : LD) : Prop where
  segs : y.L.segs = x.L.segs
  dir : y.L.dir = x.L.dir
  room : y.L.room = x.L.room
  ks : y.m.ks = x.m.ks
  sz : y.m.sz = x.m.sz
  ok : MOk y.m
theorem Alike.refl {x : LD} (h : MOk x.m) : Alike x x := ⟨rfl, rfl, rfl, rfl, rfl, h⟩
theorem Alike.trans {x y z : LD} (h : Alike x y) (k : Alike y z) : Alike x z := ⟨k.segs.trans h.segs, k.dir.trans h.dir, k.room.trans h.room, k.ks.trans h.ks, k.sz.trans h.sz, k.ok⟩
theorem Alike.last {x y : LD} (h : Alike x y) : y.L.last = x.L.last := by unfold LM.last; rw [h.segs]
theorem Alike.lastName {x y : LD} (h : Alike x y) : y.L.lastName = x.L.lastName := by unfold LM.lastName; rw [h.last, h.dir]
theorem Alike.next {x y : LD} (h : Alike x y) : y.L.next = x.L.next := by unfold LM.next; rw [h.last]
theorem Alike.inv {B c n : Nat} {x y : LD} (h : Alike x y) (k : LInv B c n x) : LInv B c n y := by
  refine ⟨h.ok, by rw [h.segs]; exact k.ne, by rw [h.dir]; exact k.d1, by rw [h.dir]; exact k.d2, by rw [h.room]; exact k.r1, by rw [h.room]; exact k.r2, ?_, ?_, by rw [h.segs]; exact k.pw, ?_, ?_, ?_, ?_, ?_, by rw [h.ks]; exact k.cnt⟩
  · rw [h.ks, h.segs, h.dir]; exact k.keys
  · rw [h.ks, h.lastName]; exact k.last
  · rw [h.last]; exact k.emp
  · rw [h.segs]; exact k.pos
  · rw [h.next]; exact k.nxt
  · rw [h.sz]; exact k.sz
  · rw [h.segs]; exact k.len
theorem LInv.sync {B c n : Nat} {x : LD} (h : LInv B c n x) : x.sync.2 = 0 ∧ Alike x x.sync.1 := by
  obtain ⟨h1, h2, h3, h4⟩ := h.ok.sync h.last
  unfold LD.sync
  dsimp only
  rw [if_pos h1]
  exact ⟨h1, ⟨rfl, rfl, rfl, h3, h4, h2⟩⟩
def Full (x : LD) : Prop := 64 ≤ x.m.ks.length ∧ x.L.room ≤ x.L.last.size
theorem Alike.full {x y : LD} (h : Alike x y) (k : Full x) : Full y := by unfold Full; rw [h.ks, h.room, h.last]; exact k
theorem LInv.le_last {B c n : Nat} {x : LD} (h : LInv B c n x) {f : Nat} (hf : f ∈ x.L.segs.map (·.first)) : f ≤ x.L.last.first := by
  have h1 := h.pw
  rw [LM.last_eq h.ne, List.map_append] at h1 hf
  obtain ⟨_, _, h2⟩ := List.pairwise_append.1 h1
  rcases List.mem_append.1 hf with hf | hf
  · exact Nat.le_of_lt (h2 f hf _ (by simp))
  · simp at hf; omega
theorem LInv.le_next {B c n : Nat} {x : LD} (h : LInv B c n x) {f : Nat} (hf : f ∈ x.L.segs.map (·.first)) : f ≤ 1 + c := by
  obtain ⟨s, hs, rfl⟩ := List.mem_map.1 hf
  exact (h.pos s hs).2.1
theorem LInv.roll {B c n : Nat} {x : LD} (h : LInv B c n x) (hr : x.L.last.recs ≠ []) (hc2 : c + 2 < 99999999) :
    (64 ≤ x.m.ks.length ∧ x.roll x.L.next = (x, 3)) ∨ (x.m.ks.length < 64 ∧ (x.roll x.L.next).2 = 0 ∧ LInv B c (n + 1) (x.roll x.L.next).1) := by
  have hl : 1 ≤ x.L.last.recs.length := by
    cases hq : x.L.last.recs with
    | nil => exact absurd hq hr
    | cons a b => simp
  have hnx := h.nxt
  have hnew : ¬ fileN x.L.dir x.L.next ∈ x.m.ks := fun hk => by
    obtain ⟨f, hf, e⟩ := h.keys _ hk
    have h1 := h.le_last hf
    have h2 := h.le_next hf
    have := fileN_inj (by omega) (by omega) e
    unfold LM.next at this; omega
  have hnm : nameOk (fileN x.L.dir x.L.next) = true := by
    have := h.d1; have := h.d2
    simp only [nameOk, fileN_size, decide_eq_true_eq]; omega
  rw [x.m.ks_len]
  rcases h.ok.create hnm hnew with ⟨h1, h2⟩ | ⟨h1, h2, h3, h4, h5⟩
  · left
    refine ⟨h1, ?_⟩
    unfold LD.roll
    rw [h2]; rfl
  · right
    refine ⟨h1, ?_⟩
    have hlast : (⟨x.L.dir, x.L.room, x.L.segs ++ [⟨x.L.next, [], 0⟩], x.L.safe⟩ : LM).last = ⟨x.L.next, [], 0⟩ := by simp [LM.last]
    unfold LD.roll
    dsimp only
    rw [if_pos h2]
    refine ⟨h2, ⟨h3, by simp, h.d1, h.d2, h.r1, h.r2, ?_, ?_, ?_, ?_, ?_, ?_, ?_, ?_, by dsimp only; rw [h4, List.length_append, x.m.ks_len]; simp; omega⟩⟩
    · rw [h4]
      intro k hk
      rcases List.mem_append.1 hk with hk | hk
      · obtain ⟨f, hf, e⟩ := h.keys k hk
        exact ⟨f, by rw [List.map_append]; exact List.mem_append_left _ hf, e⟩
      · simp at hk
        exact ⟨x.L.next, by simp, hk⟩
    · rw [h4]; unfold LM.lastName; rw [hlast]; simp
    · rw [List.map_append]
      refine List.pairwise_append.2 ⟨h.pw, by simp, fun a ha b hb => ?_⟩
      simp at hb; subst hb
      have := h.le_last ha
      unfold LM.next; omega
    · intro _; rw [hlast]
    · intro s hs
      rcases List.mem_append.1 hs with hs | hs
      · exact h.pos s hs
      · simp at hs; subst hs; simp; omega
    · show (⟨x.L.dir, x.L.room, x.L.segs ++ [⟨x.L.next, [], 0⟩], x.L.safe⟩ : LM).last.first + (⟨x.L.dir, x.L.room, x.L.segs ++ [⟨x.L.next, [], 0⟩], x.L.safe⟩ : LM).last.recs.length = 1 + c
      rw [hlast]; simpa using hnx
    · rw [h5]; exact h.sz
    · simp; exact h.len
theorem LInv.lay {B c n : Nat} {x : LD} {p : List Nat} (h : LInv B c n x) (hp : p.length + 12 ≤ B) (hc : B * (c + 1) ≤ 4194304) : (x.lay p).2 = 0 ∧ LInv B (c + 1) n (x.lay p).1 := by
  have hB : B * (c + 1) = B * c + B := Nat.mul_succ B c
  have hfl : (frameB p).length = p.length + 12 := by simp [frameB, le4]
  have hsz := h.sz
  obtain ⟨h1, h2, h3, h4⟩ := h.ok.append (b := frameB p) h.last (by omega)
  have hlm := LM.last_mem h.ne
  have hle := LM.last_eq h.ne
  obtain ⟨p1, p2, p3, p4⟩ := h.pos _ hlm
  have hlast : (x.L.add p).last = ⟨x.L.last.first, x.L.last.recs ++ [p], x.L.last.size + (frameB p).length⟩ := by simp [LM.last, LM.add]
  have hfi : (x.L.add p).segs.map (·.first) = x.L.segs.map (·.first) := by
    conv => rhs; rw [hle]
    simp [LM.add]
  unfold LD.lay
  dsimp only
  rw [if_pos h1]
  refine ⟨h1, ⟨h2, by simp [LM.add], h.d1, h.d2, h.r1, h.r2, ?_, ?_, ?_, ?_, ?_, ?_, ?_, ?_, by dsimp only; rw [h3]; exact h.cnt⟩⟩
  · dsimp only; rw [h3, hfi]; exact h.keys
  · dsimp only; rw [h3]; unfold LM.lastName; rw [hlast]; exact h.last
  · dsimp only; rw [hfi]; exact h.pw
  · dsimp only; rw [hlast]; intro e; simp at e
  · dsimp only
    intro s hs
    rcases List.mem_append.1 hs with hs | hs
    · have := h.pos s (by rw [hle]; exact List.mem_append_left _ hs)
      omega
    · simp only [List.mem_singleton] at hs; subst hs
      simp only [List.length_append, List.length_cons, List.length_nil, hfl]; omega
  · have := h.nxt
    dsimp only
    unfold LM.next at this ⊢; rw [hlast]; simp; omega
  · dsimp only; rw [h4]; omega
  · have := h.len
    rw [hle] at this
    simpa [LM.add] using this
theorem LInv.more {B c n n' : Nat} {x : LD} (h : LInv B c n x) (hn : n ≤ n') : LInv B c n' x := { h with len := Nat.le_trans h.len hn }
theorem LInv.recs {B c n : Nat} {x : LD} (h : LInv B c n x) (hr : x.L.room ≤ x.L.last.size) : x.L.last.recs ≠ [] := fun e => by
  have := h.emp e; have := h.r1; omega
theorem LInv.append {B c n : Nat} {x : LD} {p : List Nat} (h : LInv B c n x) (hp : p.length + 12 ≤ B) (hB : B ≤ 262144) (hc : B * (c + 1) ≤ 4194304) (hc2 : c + 2 < 99999999) :
    ((x.append p).2.2 = 0 ∧ (x.append p).2.1 = 1 + c ∧ LInv B (c + 1) (n + 1) (x.append p).1) ∨ ((x.append p).2.2 = 3 ∧ Full x ∧ Alike x (x.append p).1) := by
  have hnx := h.nxt
  unfold LD.append
  rw [if_neg (by omega), if_neg (by omega)]
  dsimp only
  unfold LD.room
  by_cases hr : x.L.room ≤ x.L.last.size
  · rw [if_pos hr]
    obtain ⟨h1, h2⟩ := h.sync
    dsimp only
    rw [if_neg (show ¬ x.sync.2 ≠ 0 from by rw [h1]; simp)]
    have hi := h2.inv h
    rw [← h2.next]
    rcases hi.roll (hi.recs (by rw [h2.room, h2.last]; exact hr)) hc2 with ⟨g1, g2⟩ | ⟨g1, g2, g3⟩
    · right
      rw [g2]
      dsimp only
      rw [if_pos (by simp)]
      exact ⟨rfl, ⟨by rw [← h2.ks]; exact g1, hr⟩, h2⟩
    · left
      rw [if_neg (by rw [g2]; simp)]
      obtain ⟨k1, k2⟩ := g3.lay hp hc
      rw [if_neg (by rw [k1]; simp)]
      exact ⟨rfl, by rw [h2.next]; exact hnx, k2⟩
  · left
    rw [if_neg hr]
    dsimp only
    rw [if_neg (by simp)]
    obtain ⟨k1, k2⟩ := h.lay hp hc
    rw [if_neg (by rw [k1]; simp)]
    exact ⟨rfl, hnx, k2.more (by omega)⟩
theorem LInv.full {B c n : Nat} {x : LD} {p : List Nat} (h : LInv B c n x) (hf : Full x) (hp : p.length ≤ 262144) (hc2 : c + 2 < 99999999) : (x.append p).2.2 = 3 ∧ Alike x (x.append p).1 := by
  have hnx := h.nxt
  unfold LD.append
  rw [if_neg (by omega), if_neg (by omega)]
  dsimp only
  unfold LD.room
  rw [if_pos hf.2]
  obtain ⟨h1, h2⟩ := h.sync
  dsimp only
  rw [if_neg (show ¬ x.sync.2 ≠ 0 from by rw [h1]; simp)]
  have hi := h2.inv h
  rw [← h2.next]
  rcases hi.roll (hi.recs (by rw [h2.room, h2.last]; exact hf.2)) hc2 with ⟨g1, g2⟩ | ⟨g1, g2, g3⟩
  · rw [g2]
    dsimp only
    rw [if_pos (by simp)]
    exact ⟨rfl, h2⟩
  · have := hf.1
    rw [h2.ks] at g1
    omega
theorem LInv.trim {B c n below : Nat} : ∀ {K : Nat} {x : LD}, LInv B c n x → c + 2 < 99999999 → (x.trim below K).2 ≠ 12 ∧ LInv B c n (x.trim below K).1
  | 0, x, h, _ => ⟨by simp [LD.trim], h⟩
  | K + 1, x, h, hc2 => by
    unfold LD.trim
    split
    · rename_i s t r hseg
      split
      · obtain ⟨h1, h2, h3, h4, h5, h6⟩ := h.ok.remove (fileN x.L.dir s.first)
        dsimp only
        split
        · rename_i hne
          refine ⟨h1, ?_⟩
          rw [h6 hne]
          exact h
        · rename_i hne
          have hz : (x.m.remove (fileN x.L.dir s.first)).2 = 0 := by omega
          refine LInv.trim ?_ hc2
          have hlast : (⟨x.L.dir, x.L.room, t :: r, x.L.safe⟩ : LM).last = x.L.last := by unfold LM.last; rw [hseg, List.getLast?_cons_cons]
          have hpw := h.pw
          rw [hseg, List.map_cons] at hpw
          have hp' := List.pairwise_cons.1 hpw
          have hlm : x.L.last ∈ t :: r := by rw [← hlast]; exact LM.last_mem (by simp)
          have hlt : s.first < x.L.last.first := hp'.1 _ (List.mem_map.2 ⟨_, hlm, rfl⟩)
          refine ⟨h2, by simp, h.d1, h.d2, h.r1, h.r2, ?_, ?_, hp'.2, ?_, ?_, ?_, ?_, ?_, Nat.le_trans h4 h.cnt⟩
          · dsimp only
            rw [h5 hz]
            intro k hk
            obtain ⟨hk1, hk2⟩ := List.mem_filter.1 hk
            obtain ⟨f, hf, e⟩ := h.keys k hk1
            rw [hseg, List.map_cons] at hf
            rcases List.mem_cons.1 hf with rfl | hf
            · exact absurd e (by simpa using hk2)
            · exact ⟨f, hf, e⟩
          · dsimp only
            rw [h5 hz]
            unfold LM.lastName
            rw [hlast]
            refine List.mem_filter.2 ⟨h.last, ?_⟩
            simp only [ne_eq, decide_not, Bool.not_eq_true', decide_eq_false_iff_not]
            intro e
            have a1 := (h.pos _ (LM.last_mem h.ne)).2.1
            have := fileN_inj (by omega) (by omega) e
            omega
          · dsimp only; rw [hlast]; exact h.emp
          · intro u hu; exact h.pos u (by rw [hseg]; exact List.mem_cons_of_mem _ hu)
          · have := h.nxt
            unfold LM.next at this ⊢
            dsimp only
            rw [hlast]; exact this
          · exact Nat.le_trans h3 h.sz
          · have := h.len
            rw [hseg] at this
            simp only [List.length_cons] at this ⊢; omega
      · exact ⟨by simp, h⟩
    · exact ⟨by simp, h⟩
end Go.Proofs.YtpdkoaklobnegaaGreat
namespace Go.Proofs.YtpdkoaklobnegaaGreat
open Go.Eng
theorem flat_le {α : Type} (f : α → List Nat) (B : Nat) : ∀ l : List α, (∀ x ∈ l, (f x).length ≤ B) → (l.map f).flatten.length ≤ l.length * B
  | [], _ => by simp
  | x :: l, h => by
    have h1 := h x (by simp)
    have h2 := flat_le f B l fun y hy => h y (List.mem_cons_of_mem _ hy)
    simp only [List.map_cons, List.flatten_cons, List.length_append, List.length_cons, Nat.succ_mul]; omega
theorem encA_len {prev st : Stamp} {t : Txn} {x : KV} (h : x.key.size ≤ 20000) : (encA (recA prev st t [x])).length ≤ 20250 := by
  have h1 := encI_len (recA prev st t [x]).kind
  have h2 := encSt_len prev
  have h3 := encSt_len st
  have h4 := encTx_len t
  have h5 := encI_len ((([x] : List KV).length : Nat) : Int)
  have h6 := encKV_len (x := x)
  unfold encA recA encL at *
  simp only [List.length_append, List.map_cons, List.map_nil, List.flatten_cons, List.flatten_nil, List.length_nil] at *
  omega
theorem encB_len {st : Stamp} {l : List KV} (h : ∀ x ∈ l, x.key.size ≤ 24) (hl : l.length ≤ 40) : (encBs (recB st l)).length ≤ 20250 := by
  have h1 := encI_len (recB st l).kind
  have h2 := encSt_len st
  have h5 := encI_len ((l.length : Nat) : Int)
  have h6 := flat_le encKV 134 l fun x hx => by have := encKV_len (x := x); have := h x hx; omega
  have h7 : l.length * 134 ≤ 40 * 134 := Nat.mul_le_mul_right _ hl
  unfold encBs recB encL at *
  simp only [List.length_append] at *
  omega
structure PInv (n : Nat) (p : List (ByteArray × Val)) : Prop where
  nd : (p.map (·.1)).Nodup
  good : ∀ x ∈ p, goodKey x.1 = true ∧ x.2.may = true ∧ x.2.kind ≠ 0
  len : p.length ≤ n
theorem PInv.apply {n : Nat} {p : List (ByteArray × Val)} {x : KV} (h : PInv n p) (hk : goodKey x.key = true) (hv : x.val.may = true) : PInv (n + 1) (applyW p x) := by
  unfold applyW
  split
  · refine ⟨?_, fun y hy => h.good y (List.mem_filter.1 hy).1, Nat.le_trans (List.length_filter_le _ _) (Nat.le_succ_of_le h.len)⟩
    exact h.nd.sublist ((List.filter_sublist).map _)
  · rename_i hz
    refine ⟨putM_nodup h.nd, fun y hy => ?_, ?_⟩
    · rcases mem_putM h.nd hy with rfl | ⟨hy, _⟩
      · exact ⟨hk, hv, hz⟩
      · exact h.good y hy
    · have := congrArg List.length (putM_keys x.key x.val p)
      have hl := h.len
      rw [List.length_map] at this
      rw [this]
      split <;> simp <;> omega
theorem bytesLess_of : ∀ {a b : List UInt8}, a ≤ b → a ≠ b → Op.bytesLess a b = true
  | [], [], _, h => absurd rfl h
  | [], _ :: _, _, _ => by simp [Op.bytesLess]
  | a :: l, [], h, _ => absurd h (by simp)
  | a :: l, b :: m, h, hne => by
    simp only [Op.bytesLess, Bool.or_eq_true, Bool.and_eq_true, decide_eq_true_eq, beq_iff_eq]
    rcases List.cons_le_cons_iff.1 h with h1 | ⟨rfl, h1⟩
    · exact .inl h1
    · exact .inr ⟨rfl, bytesLess_of h1 fun e => hne (by rw [e])⟩
theorem chain_of {α : Type} {p : α → Bool} {r : α → α → Bool} : ∀ {l : List α} (o : Option α), (∀ x ∈ l, p x = true) → l.Pairwise (fun a b => r a b = true) → (∀ y, o = some y → ∀ x ∈ l, r y x = true) → chain p r o l = true
  | [], o, _, _, _ => by cases o <;> rfl
  | x :: l, o, h1, h2, h3 => by
    have h2' := List.pairwise_cons.1 h2
    have ih := chain_of (some x) (fun y hy => h1 y (List.mem_cons_of_mem _ hy)) h2'.2 (fun y e z hz => by cases e; exact h2'.1 z hz)
    have hp := h1 x (by simp)
    cases o with
    | none => simp [chain, hp, ih]
    | some y => have hr := h3 y rfl x (by simp); simp [chain, hp, ih, hr]
theorem PInv.list {n : Nat} {s : SM} (h : PInv n s.pairs) : pairsOk s.list = true ∧ (∀ x ∈ s.list, x.key.size ≤ 24) ∧ s.list.length ≤ n ∧ ∀ x ∈ s.pairs, x.1.size ≤ 24 := by
  have hperm := sortB_perm (s.pairs.map (·.1))
  have hmem : ∀ x ∈ s.list, (x.key, x.val) ∈ s.pairs := fun x hx => by
    obtain ⟨k, hk, rfl⟩ := List.mem_map.1 hx
    obtain ⟨y, hy, rfl⟩ := List.mem_map.1 (hperm.mem_iff.1 hk)
    have := getM_of_mem h.nd (k := y.1) (a := y.2) hy
    show (y.1, s.get y.1) ∈ s.pairs
    unfold SM.get
    rw [this]; exact hy
  have hgk : ∀ k : ByteArray, goodKey k = true → k.size ≤ 24 := fun k hk => by unfold goodKey at hk; simp at hk; omega
  refine ⟨?_, fun x hx => hgk _ (h.good _ (hmem x hx)).1, ?_, fun x hx => hgk _ (h.good x hx).1⟩
  · refine chain_of none (fun x hx => ?_) ?_ (fun y e => by cases e)
    · obtain ⟨g1, g2, g3⟩ := h.good _ (hmem x hx)
      simp only [g1, g2, g3, ne_eq, not_false_eq_true, decide_true, Bool.and_self]
    · unfold SM.list
      rw [List.pairwise_map]
      have hnd : (sortB (s.pairs.map (·.1))).Nodup := hperm.nodup_iff.2 h.nd
      have hso : (sortB (s.pairs.map (·.1))).Pairwise fun a b => bl a ≤ bl b := by
        unfold sortB
        rw [List.pairwise_map]
        refine (List.pairwise_mergeSort leB_trans leB_total _).imp fun hab => ?_
        unfold leB at hab
        simpa [bl] using hab
      refine (List.pairwise_and_iff.2 ⟨hso, hnd⟩).imp fun hab => ?_
      show tlt _ _ = true
      unfold tlt
      rw [ByteArray.toList_eq, ByteArray.toList_eq]
      exact bytesLess_of hab.1 fun e => hab.2 (ByteArray.ext (Array.toList_inj.1 e))
  · unfold SM.list
    rw [List.length_map, hperm.length_eq, List.length_map]; exact h.len
end Go.Proofs.YtpdkoaklobnegaaGreat
namespace Go.Proofs.YtpdkoaklobnegaaGreat
open Go.Eng
structure OInv (ev : Int) (n : Nat) (s : SM) (x : LD) : Prop where
  ev : s.every = ev
  si : 0 ≤ s.since ∧ s.since ≤ n
  dn : s.down = false
  hi : s.high = prevN n
  dl : s.done.length = n
  dw : ∀ e ∈ s.done, e.writes.length ≤ 1
  pi : PInv n s.pairs
  lg : ∃ c k : Nat, LInv 30000 c k x ∧ (c : Int) + s.since ≤ 2 * n ∧ k ≤ 1 + c
theorem prevN_wall (n : Nat) : (prevN n).wall = n := by
  unfold prevN
  split
  · rfl
  · have : (n : Int) = 0 := by omega
    rw [this]
theorem prevN_inj {a b : Nat} (h : prevN a = prevN b) : a = b := by
  have := congrArg Stamp.wall h
  rw [prevN_wall, prevN_wall] at this
  omega
theorem prevN_may {n : Nat} (h : n ≤ 40) : (prevN n).may = true := by
  unfold prevN
  split
  · simp [Stamp.may]; omega
  · decide
theorem prevN_cmp (n : Nat) : (⟨(n : Int) + 1, 0, 1⟩ : Stamp).cmp (prevN n) > 0 := by
  have e1 : ((n : Int) + 1 ≠ n) := by omega
  have e2 : ¬ ((n : Int) + 1 < n) := by omega
  have e3 : ((n : Int) < n + 1) := by omega
  simp [Stamp.cmp, prevN_wall, e1, e2, e3]
theorem applyOk_good {prev st : Stamp} {t : Txn} {w : KV} (h : applyOk prev st t [w] = true) : goodKey w.key = true ∧ w.val.may = true := by
  unfold applyOk at h
  simp only [Bool.and_eq_true, decide_eq_true_eq] at h
  have he := h.2
  unfold Pend.err at he
  dsimp only at he
  split at he
  · simp at he
  · split at he
    · simp at he
    · split at he
      · simp at he
      · rename_i h3
        split at he
        · rename_i h4
          refine ⟨?_, by simpa using h4⟩
          simp only [Bool.or_eq_true, Bool.not_eq_true', not_or, Bool.not_eq_false, rises, Bool.and_eq_true] at h3
          have := h3.2.1
          simp only [List.map_cons, List.map_nil] at this
          simpa [rising, chain] using this
        · simp at he
theorem keep_cases {c k : Nat} {x : LD} {p : List Nat} (h : LInv 30000 c k x) (hc : c ≤ 80) (hp : p.length ≤ 20250) :
    ((x.keep 0 p).2.2 = 0 ∧ (x.keep 0 p).2.1 = 1 + c ∧ LInv 30000 (c + 1) (k + 1) (x.keep 0 p).1 ∧ LInv 30000 (c + 1) (k + 1) (x.append p).1) ∨ ((x.keep 0 p).2.2 = 3 ∧ Full x ∧ Alike x (x.keep 0 p).1 ∧ Alike x (x.append p).1) := by
  unfold LD.keep
  rw [if_neg (by simp)]
  dsimp only
  rcases h.append (p := p) (by omega) (by omega) (by omega) (by omega) with ⟨h1, h2, h3⟩ | ⟨h1, h2, h3⟩
  · left
    rw [if_neg (by rw [h1]; simp)]
    obtain ⟨g1, g2⟩ := h3.sync
    exact ⟨g1, h2, g2.inv h3, h3⟩
  · right
    rw [if_pos (by rw [h1]; simp)]
    exact ⟨h1, h2, h3, h3⟩
theorem keep_full {c k : Nat} {x : LD} {p : List Nat} (h : LInv 30000 c k x) (hf : Full x) (hc : c ≤ 80) (hp : p.length ≤ 20250) : (x.keep 0 p).2.2 = 3 := by
  obtain ⟨g1, g2⟩ := h.full (p := p) hf (by omega) (by omega)
  unfold LD.keep
  rw [if_neg (by simp)]
  dsimp only
  rw [if_pos (by rw [g1]; simp)]
  exact g1
theorem LInv.lok' {c k : Nat} {x : LD} (h : LInv 30000 c k x) (hc : c ≤ 81) : LOK x.L := h.lok (by omega) (by omega)
structure KeepOk (x : LD) (p : List Nat) : Prop where
  lk : LOK (x.append p).1.L
  kd : (x.keep 0 p).2.2 ≠ 12
  lk2 : LOK (x.keep 0 p).1.L
  len : (x.keep 0 p).1.L.segs.length ≤ 1000
  tr : ((x.keep 0 p).1.trim (x.keep 0 p).2.1 1000).2 ≠ 12
theorem OInv.keepOk {ev : Int} {n : Nat} {s : SM} {x : LD} {p : List Nat} (h : OInv ev n s x) (hn : n ≤ 40) (hp : p.length ≤ 20250) : LOK x.L ∧ x.L.segs.length ≤ 2 ^ 29 ∧ KeepOk x p := by
  obtain ⟨c, k, h1, h2, h3⟩ := h.lg
  have hs := h.si
  have hlen := h1.len
  refine ⟨h1.lok' (by omega), by omega, ?_⟩
  rcases keep_cases (p := p) h1 (by omega) hp with ⟨a1, a2, a3, a4⟩ | ⟨a1, a2, a3, a4⟩
  · have := a3.len
    exact ⟨a4.lok' (by omega), by omega, a3.lok' (by omega), by omega, (a3.trim (by omega)).1⟩
  · have h5 := a3.inv h1
    have := h5.len
    exact ⟨(a4.inv h1).lok' (by omega), by omega, h5.lok' (by omega), by omega, (h5.trim (by omega)).1⟩
theorem OInv.step {ev : Int} {n k : Nat} {s : SM} {x : LD} {w : KV} {t : Txn} (h : OInv ev n s x) (hn : n ≤ 40) (hk : k < 40) (hw : w.key.size ≤ 20000) :
    (applyOk (prevN k) ⟨(k : Int) + 1, 0, 1⟩ t [w] = true ∧ k = n ∧ goodKey w.key = true ∧ OInv ev (n + 1) (stepS s x (prevN k) ⟨(k : Int) + 1, 0, 1⟩ t [w]).1 (stepS s x (prevN k) ⟨(k : Int) + 1, 0, 1⟩ t [w]).2 ∧
      (stepS s x (prevN k) ⟨(k : Int) + 1, 0, 1⟩ t [w]).1.high = ⟨(k : Int) + 1, 0, 1⟩) ∨
    ((stepS s x (prevN k) ⟨(k : Int) + 1, 0, 1⟩ t [w]).1 = s ∧ OInv ev n s (stepS s x (prevN k) ⟨(k : Int) + 1, 0, 1⟩ t [w]).2 ∧
      (applyOk (prevN k) ⟨(k : Int) + 1, 0, 1⟩ t [w] = true → k = n → Full (stepS s x (prevN k) ⟨(k : Int) + 1, 0, 1⟩ t [w]).2)) := by
  obtain ⟨c, m, h1, h2, h3⟩ := h.lg
  have hs := h.si
  generalize hst : (⟨(k : Int) + 1, 0, 1⟩ : Stamp) = st
  have hl := encA_len (prev := prevN k) (st := st) (t := t) hw
  unfold stepS
  by_cases hf : s.fits (prevN k) st t [w] = true
  · rw [if_pos hf]
    dsimp only
    have hf' := hf
    unfold SM.fits at hf'
    simp only [Bool.and_eq_true, decide_eq_true_eq] at hf'
    obtain ⟨⟨f1, f2⟩, f3⟩ := hf'
    have hkn : k = n := prevN_inj (f3.trans h.hi)
    obtain ⟨q1, q2⟩ := applyOk_good f1
    rcases keep_cases (p := encA (recA (prevN k) st t [w])) h1 (by omega) hl with ⟨a1, a2, a3, a4⟩ | ⟨a1, a2, a3, a4⟩
    · left
      rw [if_pos a1]
      refine ⟨f1, hkn, q1, ⟨h.ev, by dsimp only; omega, h.dn, ?_, ?_, ?_, ?_, ⟨c + 1, m + 1, a3, by dsimp only; push_cast; omega, by omega⟩⟩, rfl⟩
      · show st = _
        subst hst; subst hkn
        unfold prevN
        push_cast
        rw [if_pos (by omega)]
      · show (s.done ++ [_]).length = _
        rw [List.length_append, h.dl]; rfl
      · intro e he
        have he : e ∈ s.done ++ [⟨t, st, [w]⟩] := he
        rcases List.mem_append.1 he with he | he
        · exact h.dw e he
        · simp at he; subst he; simp
      · exact h.pi.apply q1 q2
    · right
      rw [if_neg (by rw [a1]; decide)]
      exact ⟨rfl, ⟨h.ev, h.si, h.dn, h.hi, h.dl, h.dw, h.pi, ⟨c, m, a3.inv h1, h2, h3⟩⟩, fun _ _ => a3.full a2⟩
  · right
    rw [if_neg hf]
    refine ⟨rfl, h, fun ha hkn => absurd ?_ hf⟩
    unfold SM.fits
    subst hst; subst hkn
    have := prevN_cmp k
    rw [ha, h.hi]
    simp [this]
theorem OInv.tick {ev : Int} {n : Nat} {s : SM} {x : LD} (h : OInv ev n s x) (he : 0 ≤ ev) (hn : n ≤ 40) :
    OInv ev n (tickS s x 1000).1 (tickS s x 1000).2 ∧ (tickS s x 1000).1.pairs = s.pairs ∧ (tickS s x 1000).1.high = s.high ∧ (Full x → Full (tickS s x 1000).2) := by
  obtain ⟨c, m, h1, h2, h3⟩ := h.lg
  have hs := h.si
  obtain ⟨p1, p2, p3, p4⟩ := h.pi.list
  unfold tickS
  by_cases hi : s.idle = true
  · rw [if_pos hi]
    exact ⟨h, rfl, rfl, id⟩
  · rw [if_neg hi]
    dsimp only
    have hsi : 1 ≤ s.since := by
      unfold SM.idle at hi
      simp only [Bool.or_eq_true, decide_eq_true_eq, not_or, Int.not_lt] at hi
      have := h.ev; omega
    have hl := encB_len (st := s.high) p2 (by omega)
    rcases keep_cases (p := encBs (recB s.high s.list)) h1 (by omega) hl with ⟨a1, a2, a3, a4⟩ | ⟨a1, a2, a3, a4⟩
    · rw [if_pos a1]
      refine ⟨⟨h.ev, by dsimp only; omega, h.dn, h.hi, h.dl, h.dw, h.pi, ⟨c + 1, m + 1, (a3.trim (by omega)).2, by dsimp only; push_cast; omega, by omega⟩⟩, rfl, rfl, fun hf => ?_⟩
      have := keep_full h1 hf (by omega) hl
      omega
    · rw [if_neg (by rw [a1]; decide)]
      exact ⟨⟨h.ev, h.si, h.dn, h.hi, h.dl, h.dw, h.pi, ⟨c, m, a3.inv h1, h2, h3⟩⟩, rfl, rfl, fun hf => a3.full hf⟩
end Go.Proofs.YtpdkoaklobnegaaGreat
namespace Go.Proofs.YtpdkoaklobnegaaGreat
open Go.Eng
set_option maxRecDepth 100000
set_option maxHeartbeats 1000000
set_option linter.unusedVariables false
set_option linter.unusedSimpArgs false
attribute [local irreducible] un jn chk fld ld1 ldA st1 ixS lnS lnT bld cvI cvF ixA bsS apS rdV rdW grdW eW eV eU eC eF gE condW fin pickN nilN binS vS lp0 lp1 lp2 lp3 lp4 lp5 lp6 lp7 nx0 nx1 nx2 nx3 nx4 nx5 nx6 nx7
theorem LInv.keepOk {c k : Nat} {x : LD} {p : List Nat} (h1 : LInv 30000 c k x) (hc : c ≤ 80) (hk : k ≤ 900) (hp : p.length ≤ 20250) : LOK x.L ∧ x.L.segs.length ≤ 2 ^ 29 ∧ KeepOk x p := by
  have hlen := h1.len
  refine ⟨h1.lok' (by omega), by omega, ?_⟩
  rcases keep_cases (p := p) h1 (by omega) hp with ⟨a1, a2, a3, a4⟩ | ⟨a1, a2, a3, a4⟩
  · have := a3.len
    exact ⟨a4.lok' (by omega), by omega, a3.lok' (by omega), by omega, (a3.trim (by omega)).1⟩
  · have h5 := a3.inv h1
    have := h5.len
    exact ⟨(a4.inv h1).lok' (by omega), by omega, h5.lok' (by omega), by omega, (h5.trim (by omega)).1⟩
def dk0 : DM := ⟨[], 0, 0, false⟩
abbrev sinkD : ByteArray := ⟨#[115, 105, 110, 107]⟩
def x0 (sz : Nat) : LD := (LD.roll ⟨L0 sinkD sz, dk0⟩ 1).1
theorem x0_roll (sz : Nat) : (LD.roll ⟨L0 sinkD sz, dk0⟩ 1).2 = 0 ∧ (dk0.create (fileN sinkD 1)).2 = 0 ∧ MOk (dk0.create (fileN sinkD 1)).1 ∧ (dk0.create (fileN sinkD 1)).1.ks = [fileN sinkD 1] ∧ (dk0.create (fileN sinkD 1)).1.sz = 0 := by
  have hm : MOk dk0 := ⟨rfl, rfl⟩
  have hn : nameOk (fileN sinkD 1) = true := by simp only [nameOk, fileN_size, decide_eq_true_eq]; decide
  rcases hm.create hn (by simp [DM.ks, dk0]) with ⟨h1, _⟩ | ⟨h1, h2, h3, h4, h5⟩
  · simp [dk0] at h1
  · exact ⟨h2, h2, h3, h4, h5⟩
theorem x0_L (sz : Nat) : (x0 sz).L = ⟨sinkD, sz, [⟨1, [], 0⟩], 0⟩ := roll_L0 (x0_roll sz).1
theorem x0_inv {sz : Nat} (h1 : 64 ≤ sz) (h2 : sz ≤ 262144) : LInv 30000 0 1 (x0 sz) ∧ ¬ Full (x0 sz) := by
  obtain ⟨_, _, g3, g4, g5⟩ := x0_roll sz
  have hL := x0_L sz
  have hm : (x0 sz).m = (dk0.create (fileN sinkD 1)).1 := rfl
  have hlast : (x0 sz).L.last = ⟨1, [], 0⟩ := by rw [hL]; rfl
  constructor
  · refine ⟨by rw [hm]; exact g3, by rw [hL]; simp, by rw [hL]; exact (show 1 ≤ ByteArray.size sinkD from by decide), by rw [hL]; exact (show ByteArray.size sinkD ≤ 11 from by decide), by rw [hL]; exact Nat.le_trans (by decide) h1, by rw [hL]; exact Nat.le_trans h2 (by decide), ?_, ?_, ?_, ?_, ?_, ?_, ?_, ?_, by rw [hm, g4]; simp⟩
    · rw [hm, g4, hL]; intro k hk; exact ⟨1, by simp, by simpa using hk⟩
    · rw [hm, g4]; unfold LM.lastName; rw [hlast, hL]; simp
    · rw [hL]; simp
    · rw [hlast]; intro _; rfl
    · rw [hL]; intro s hs; simp at hs; subst hs; simp
    · unfold LM.next; rw [hlast]; rfl
    · rw [hm, g5]; decide
    · rw [hL]; simp
  · intro hf
    have := hf.1
    rw [hm, g4] at this
    simp at this
theorem o0 {ev : Int} {sz : Nat} (h1 : 64 ≤ sz) (h2 : sz ≤ 262144) : OInv ev 0 (SM0 ev) (x0 sz) :=
  ⟨rfl, by simp [SM0], rfl, rfl, rfl, by simp [SM0], ⟨by simp [SM0], by simp [SM0], by simp [SM0]⟩, ⟨0, 1, (x0_inv h1 h2).1, by simp [SM0], by omega⟩⟩
abbrev kvA : KV := ⟨⟨#[97]⟩, ⟨1, 4607182418800017408, ⟨#[]⟩⟩⟩
abbrev kvB : KV := ⟨⟨#[98]⟩, ⟨1, 4607182418800017408, ⟨#[]⟩⟩⟩
theorem okA : applyOk (prevN 0) ⟨5, 0, 1⟩ ⟨1, 1, 5⟩ [kvA] = true := by kernel_rfl
theorem okB : applyOk (prevN 4) ⟨7, 0, 1⟩ ⟨1, 1, 7⟩ [kvB] = true := by kernel_rfl
def s1 : SM := { (SM0 0).apply ⟨1, 1, 5⟩ ⟨5, 0, 1⟩ [kvA] with since := 1 }
theorem firstA : (stepS (SM0 0) (x0 4096) (prevN 0) ⟨5, 0, 1⟩ ⟨1, 1, 5⟩ [kvA]).1 = s1 ∧ LInv 30000 1 2 (stepS (SM0 0) (x0 4096) (prevN 0) ⟨5, 0, 1⟩ ⟨1, 1, 5⟩ [kvA]).2 := by
  have hf : (SM0 0).fits (prevN 0) ⟨5, 0, 1⟩ ⟨1, 1, 5⟩ [kvA] = true := by kernel_rfl
  obtain ⟨h1, h2⟩ := x0_inv (sz := 4096) (by decide) (by decide)
  unfold stepS
  rw [if_pos hf]
  dsimp only
  rcases keep_cases (p := encA (recA (prevN 0) ⟨5, 0, 1⟩ ⟨1, 1, 5⟩ [kvA])) h1 (by omega) (encA_len (by decide)) with ⟨a1, a2, a3, a4⟩ | ⟨a1, a2, a3, a4⟩
  · rw [if_pos a1]
    exact ⟨rfl, a3⟩
  · exact absurd a2 h2
theorem firstB (x : LD) : stepS s1 x (prevN 4) ⟨7, 0, 1⟩ ⟨1, 1, 7⟩ [kvB] = (s1, x) := by
  unfold stepS
  rw [if_neg (by rw [show s1.fits (prevN 4) ⟨7, 0, 1⟩ ⟨1, 1, 7⟩ [kvB] = false from by kernel_rfl]; simp)]
theorem list1 : s1.list = [kvA] := by
  have : s1.pairs = [(⟨#[97]⟩, ⟨1, 4607182418800017408, ⟨#[]⟩⟩)] := by kernel_rfl
  unfold SM.list SM.get
  rw [this]
  simp [sortB, bl, getM]
theorem d_law_first {w : World} {X : XS} : Ct Tryz.prog 9 #[] w X nX fun v _ _ => v = B true := by
  intro w0 hk
  apply ok_racelaw22_first; unfold vc_racelaw22_first
  have hs := Since.init w0
  have hT0 : Ft w0 nX w0 (old w0) nX := Ft.init fun _ h => h.elim
  refine r_ct0 d_disk_New (by kernel_rfl) hs.has ?_
  rintro _ wa1 w1 X1 ⟨db, rfl, hdk⟩ hle1 hin1 hs1
  have hT1 : Ft w0 nX w1 X1 (made wa1 w1) := (hT0.since hs1).more fun k hk' => .inr ⟨hin1 k hk', Nat.le_trans hle1 hk'.1⟩
  clear hs hT0
  repeat' first | with_reducible apply condW_F | ((with_reducible apply m_pnilF); (· kernel_rfl))
  refine hT1.call (d_sink_Open0 (sz := 4096) (every := 0) hdk (hT1.fx fun _ h => h) rfl rfl (by decide) (by decide) (by decide) (by decide) (x0_roll 4096).1) (by kernel_rfl) (fun _ h => h) fun v wa2 w2 X2 hq2 hle2 hin2 hT2 hc2 => ?_
  obtain ⟨nb, lb, F2, rfl, hF2, h2⟩ := hq2
  replace hT2 : Ft w0 nX w2 X2 F2 := hT2.less hF2
  replace h2 : Snk w2 F2 nb lb db (SM0 0) (x0 4096).L (x0 4096).m := h2
  repeat' first | ((with_reducible refine r_neqF ?_ ?_); (· omega)) | with_reducible (first | apply condW_F | apply un_selF | apply grdV_onF | apply rdW_pickF) | ((with_reducible apply m_ext); (· rfl)) | ((with_reducible apply m_pnilF); (· kernel_rfl))
  refine r_ct0 d_law_apply (by kernel_rfl) hT2.s.has ?_
  rintro _ wa3 w3 X3 ⟨a, rfl, hoa⟩ hle3 hin3 hs3
  have hT3 := hT2.since hs3
  have h3 := h2.mv (hs3.mvF hT2.inX)
  have hF3 : ∀ k, F2 k → k < w2.heap.size := fun k hk' => hT2.s.has k (hT2.inX k hk')
  obtain ⟨q1, q2, q3⟩ := (x0_inv (sz := 4096) (by decide) (by decide)).1.keepOk (p := encA (recA (prevN 0) ⟨5, 0, 1⟩ ⟨1, 1, 5⟩ [kvA])) (by omega) (by omega) (encA_len (by decide))
  refine hT3.call (d_sink_Step (S := made wa3 w3) (l := [kvA]) h3 q1 q2 (hT3.fx fun _ h => h) rfl hoa.sl (fun k hk' => ⟨hin3 k hk', fun hf => by have := hF3 k hf; have := hk'.1; omega⟩) (by simp) (by simp; decide) (Nat.le_trans (encA_len (by decide)) (by decide)) (by simp [SM0]) (by simp [SM0]) q3.lk q3.kd) (by kernel_rfl) (fun _ h => h) fun v wa4 w4 X4 hq4 hle4 hin4 hT4 hc4 => ?_
  obtain ⟨vo, F4, S4, rfl, hF4, hS4, h4, ho4⟩ := hq4
  replace hT4 : Ft w0 nX w4 X4 F4 := hT4.less hF4
  obtain ⟨e1, i4⟩ := firstA
  change Snk w4 F4 nb lb db (stepS (SM0 0) (x0 4096) (prevN 0) ⟨5, 0, 1⟩ ⟨1, 1, 5⟩ [kvA]).1 (stepS (SM0 0) (x0 4096) (prevN 0) ⟨5, 0, 1⟩ ⟨1, 1, 5⟩ [kvA]).2.L (stepS (SM0 0) (x0 4096) (prevN 0) ⟨5, 0, 1⟩ ⟨1, 1, 5⟩ [kvA]).2.m at h4
  change Sl w4 S4 36 vo (if applyOk (prevN 0) ⟨5, 0, 1⟩ ⟨1, 1, 5⟩ [kvA] = true then [mHigh 31 (stepS (SM0 0) (x0 4096) (prevN 0) ⟨5, 0, 1⟩ ⟨1, 1, 5⟩ [kvA]).1.high] else []) at ho4
  rw [e1] at h4 ho4
  rw [if_pos okA] at ho4
  generalize (stepS (SM0 0) (x0 4096) (prevN 0) ⟨5, 0, 1⟩ ⟨1, 1, 5⟩ [kvA]).2 = x4 at h4 i4
  have ho4' : Sl w4 X4 36 vo (([s1.high] : List Stamp).map (mHigh 31)) := ho4.mono fun k hk' => hin4 k (hS4 k hk').1
  clear hc4 hc2 e1 hs1 hs3 h3 h2 hdk q1 q2 q3
  repeat' first | ((with_reducible apply m_ext); (· rfl))
  refine r_ct0 d_law_apply (by kernel_rfl) hT4.s.has ?_
  rintro _ wa5 w5 X5 ⟨a5, rfl, hoa5⟩ hle5 hin5 hs5
  have hT5 := hT4.since hs5
  have h5 := h4.mv (hs5.mvF hT4.inX)
  have ho5 : Sl w5 S4 36 vo (([s1.high] : List Stamp).map (mHigh 31)) := ho4.mv (hs5.mvF fun k hk' => hin4 k (hS4 k hk').1)
  have hF5 : ∀ k, F4 k → k < w4.heap.size := fun k hk' => hT4.s.has k (hT4.inX k hk')
  obtain ⟨q1, q2, q3⟩ := i4.keepOk (p := encA (recA (prevN 4) ⟨7, 0, 1⟩ ⟨1, 1, 7⟩ [kvB])) (by omega) (by omega) (encA_len (by decide))
  refine hT5.call (d_sink_Step (S := made wa5 w5) (l := [kvB]) h5 q1 q2 (hT5.fx fun _ h => h) rfl hoa5.sl (fun k hk' => ⟨hin5 k hk', fun hf => by have := hF5 k hf; have := hk'.1; omega⟩) (by simp) (by simp; decide) (Nat.le_trans (encA_len (by decide)) (by decide)) (by simp [s1, SM0, SM.apply]) (by simp [s1]) q3.lk q3.kd) (by kernel_rfl) (fun _ h => h) fun v wa6 w6 X6 hq6 hle6 hin6 hT6 hc6 => ?_
  obtain ⟨vo6, F6, S6, rfl, hF6, hS6, h6, ho6⟩ := hq6
  rw [firstB] at h6 ho6
  rw [if_pos okB] at ho6
  replace h6 : Snk w6 F6 nb lb db s1 x4.L x4.m := h6
  replace hT6 : Ft w0 nX w6 X6 F6 := hT6.less hF6
  have ho6a : Sl w6 S4 36 vo (([s1.high] : List Stamp).map (mHigh 31)) := ho5.mv (hc6.mvA fun k hk' => ⟨hs5.sub k (hin4 k (hS4 k hk').1), (hS4 k hk').2⟩)
  have ho6b : Sl w6 S6 36 vo6 (([s1.high] : List Stamp).map (mHigh 31)) := ho6
  have hS46 : ∀ k, S4 k → X6 k := fun k hk' => hc6.sub k (hs5.sub k (hin4 k (hS4 k hk').1))
  have ho6a' := ho6a.mono hS46
  have ho6b' : Sl w6 X6 36 vo6 (([s1.high] : List Stamp).map (mHigh 31)) := ho6b.mono fun k hk' => hin6 k (hS6 k hk').1
  repeat' first | ((with_reducible apply m_ext); (· rfl))
  obtain ⟨FN, FG, mb, av, es, hdj, hN, hG, hsk, hg⟩ := id h6
  refine r_ct0 (d_sink_Pairs hsk (hT6.fx hN) (by decide) (by decide)) (by kernel_rfl) hT6.s.has ?_
  rintro vp wa7 w7 X7 hop hle7 hin7 hs7
  rw [list1] at hop
  have hT7 := hT6.since hs7
  have h7 := h6.mv (hs7.mvF hT6.inX)
  have ho7a := ho6a'.mv hs7.mv
  have ho7b := ho6b'.mv hs7.mv
  have hp7 : Sl w7 X7 4 vp (([kvA] : List KV).map KV.l) := hop.sl.mono hin7
  have r1 : ([s1.high] : List Stamp)[0]? = some s1.high := rfl
  have r2 : ([kvA] : List KV)[0]? = some kvA := rfl
  have w5 : s1.high.wall = 5 := rfl
  repeat' first | ((with_reducible refine r_eqlT ?_ ?_); (· omega)) | with_reducible (first | apply un_selT | apply un_selFT | apply grdV_onT | apply grdW_offT | apply rdW_pickT | apply rdW_pickF | apply gE_T | apply gE_FT) | (with_reducible apply r_eql <;> intro _) | (with_reducible apply r_seql <;> intro _) | ((with_reducible apply m_fld1); (· (first | assumption | exact RowIs.cells (by assumption))); (· kernel_rfl); (· rfl); intro _ _ _) | ((with_reducible apply m_fld); (· (first | assumption | exact RowIs.cells (by assumption))); (· kernel_rfl); (· rfl); (· (simp only [Value.cells, nq1, nq2, nq3, nq4, nq5, nq6, setL, nq7, nq8, nq9, nq0, Nat.reduceAdd, Nat.zero_add]; try rfl)); intro _ _ _) | ((with_reducible apply m_ld1); (· (first | assumption | exact RowIs.cells (by assumption))); (· (first | exact mv0 | exact mv1 (by assumption) | exact mv2 (by assumption) (by assumption))); (· kernel_rfl); (· rfl)) | ((with_reducible apply m_lnS); (· (first | assumption | exact Own.sl (by assumption))); (· kernel_rfl)) | ((with_reducible apply m_ixS); (· (first | assumption | exact Own.sl (by assumption))); (try (case hz => rfl)); (case hr => first | assumption | exact List.getElem?_eq_getElem (by omega)); (try (case hz => omega)); (case ht => kernel_rfl); (case hs => kernel_rfl); intro _ _ _) | with_reducible apply jn_of
  · obtain ⟨FN7, FG7, mb7, av7, es7, hdj7, hN7, hG7, hsk7, hg7⟩ := id h7
    refine r_ct0V (d_sink_High hsk7 (hT7.fx hN7)) (by kernel_rfl) hT7.s.has fun w8 X8 hs8 => ?_
    have hT8 := hT7.since hs8
    repeat' first | ((with_reducible refine r_eqlT ?_ ?_); (· omega)) | with_reducible (first | apply grdV_onT | apply rdW_pickT) | ((with_reducible apply r_fdV1); (case hf => kernel_rfl); (case hg => kernel_rfl); (case hl => rfl))
    exact hT8.fin fun wa hk9 => rfl
  · exact absurd rfl (by assumption)
  · exact absurd rfl (by assumption)
end Go.Proofs.YtpdkoaklobnegaaGreat
namespace Go.Proofs.YtpdkoaklobnegaaGreat
open Go.Eng
set_option maxRecDepth 100000
set_option maxHeartbeats 1000000
set_option linter.unusedVariables false
set_option linter.unusedSimpArgs false
attribute [local irreducible] un jn chk fld ld1 ldA st1 ixS lnS lnT bld cvI cvF ixA bsS apS rdV rdW grdW eW eV eU eC eF gE condW fin pickN nilN binS vS lp0 lp1 lp2 lp3 lp4 lp5 lp6 lp7 nx0 nx1 nx2 nx3 nx4 nx5 nx6 nx7
section
variable {P : Program} {X : XS} {w : World} {N : Value → Prop} {t : TypeId}
theorem r_remI {a : Int} {b : Nat} (hb : b ≠ 0) (h : N (I (a.tmod b))) : rdV P X w (binOp .rem t (I a) (I (b : Int))) N := by
  refine rdV_pure (fun wa => ?_) h
  simp [binOp, Op.intDiv, hb]
theorem r_negI {a : Int} (h1 : -(2 ^ 63) < a) (h2 : a < 2 ^ 63) (h : N (I (-a))) : rdV P X w (Op.unary UnOp.neg (I a)) N := by
  refine rdV_pure (fun wa => ?_) h
  have h3 : IntKind.i64.wrap (-a) = -a := by simp [IntKind.wrap, IntKind.bits, IntKind.signed]; omega
  simp [Op.unary, Op.intArith, h3]
end
theorem wsum_mem {x : KV} : ∀ {l : List KV}, x ∈ l → 1 + x.key.size + x.val.text.size ≤ wsum l
  | y :: l, h => by
    unfold wsum
    rw [List.map_cons, List.sum_cons]
    rcases List.mem_cons.1 h with rfl | h
    · omega
    · have := wsum_mem h
      unfold wsum at this
      omega
theorem d_law_SinkOnce {w : World} {X : XS} {ev : Int} {vo vw : Value} {order : List Int} {ws : List KV} (h1 : Sl w X 1 vo (order.map I1)) (h2 : Sl w X 4 vw (ws.map KV.l)) (hsz : ∀ x ∈ ws, x.key.size ≤ 2 ^ 40 ∧ x.val.text.size ≤ 2 ^ 40) :
    Ct Tryz.prog 3 #[I ev, vo, vw] w X nX fun v _ _ => v = B true := by
  intro w0 hk
  replace h1 := h1.mv hk.mvo
  replace h2 := h2.mv hk.mvo
  have hl1 := h1.len'
  have hl2 := h2.len'
  obtain ⟨ob, on, oc, rfl⟩ := h1.form
  obtain ⟨wb, wn, wc, rfl⟩ := h2.form
  have hT0 : Ft w0 nX w0 (old w0) nX := Ft.init fun _ h => h.elim
  have h10 : Sl w0 (out nX w0) 1 (.slice ob on oc) (order.map I1) := h1.mono fun k hk' => ⟨hk', fun h => h.elim⟩
  have h20 : Sl w0 (out nX w0) 4 (.slice wb wn wc) (ws.map KV.l) := h2.mono fun k hk' => ⟨hk', fun h => h.elim⟩
  apply ok_racelaw22_SinkOnce; unfold vc_racelaw22_SinkOnce
  refine r_ct0V d_law_first (by kernel_rfl) hT0.s.has fun w1 X1 hs1 => ?_
  have hT1 := hT0.since hs1
  replace h1 := h1.mv hs1.mv
  replace h2 := h2.mv hs1.mv
  have fin1 : ∀ (w X), Ft w0 nX w X nX → eC Tryz.prog (Ret nX w0 fun v w' => (fun v x x_1 => v = B true) v w0 w') X w true 9 #[] fun x w X => fin (Ret nX w0 fun v w' => (fun v x x_1 => v = B true) v w0 w') X w x := fun w X hT => by
    refine r_ct0V d_law_first (by kernel_rfl) hT.s.has fun w X hs => ?_
    exact (hT.since hs).fin fun wa hk9 => rfl
  repeat' first | with_reducible (first | apply condW_F | apply un_selF | apply un_selTF | apply r_notT) | (with_reducible apply r_gtr <;> intro _) | ((with_reducible apply m_lnS); (· (first | assumption | exact Own.sl (by assumption))); (· kernel_rfl))
  · repeat' first | with_reducible (first | apply condW_T | apply un_selTF | apply grdW_offF | apply rdW_pickT | apply gE_TF | apply jn_of)
    exact fin1 _ _ hT1
  · rename_i hol
    repeat' first | with_reducible (first | apply condW_T | apply condW_F | apply un_selF | apply un_selTF | apply grdV_onF | apply grdW_offF | apply rdW_pickT | apply rdW_pickF | apply gE_F) | (with_reducible apply r_lss <;> intro _) | (with_reducible apply r_gtr <;> intro _) | ((with_reducible apply m_lnS); (· (first | assumption | exact Own.sl (by assumption))); (· kernel_rfl)) | with_reducible apply jn_of | (refine r_ct0 (d_weigh h2 hsz) (by kernel_rfl) hT1.s.has ?_; rintro _ wa2 w2 X2 ⟨wt, rfl, hwt⟩ hle2 hin2 hs2)
    all_goals have hT2 := hT1.since hs2
    all_goals replace h1 := h1.mv hs2.mv
    all_goals replace h2 := h2.mv hs2.mv
    all_goals first
      | exact fin1 _ _ hT2
      | skip
    have hwt := hwt (by omega)
    have hwl : ws.length ≤ 40 := by omega
    have hkey : ∀ x ∈ ws, x.key.size ≤ 20000 := fun x hx => by
      have h3 := wsum_mem hx
      omega
    have hev : 0 ≤ ev ∧ ev ≤ 1000 := by omega
    clear h1 h2 hT1 hs1
    refine r_ct0 d_disk_New (by kernel_rfl) hT2.s.has ?_
    rintro _ wa3 w3 X3 ⟨db, rfl, hdk⟩ hle3 hin3 hs3
    have hz2 := hT2.s.kp.size
    have hT3 : Ft w0 nX w3 X3 (made wa3 w3) := (hT2.since hs3).more fun k hk' => .inr ⟨hin3 k hk', by have := hk'.1; omega⟩
    clear hT2 hs2 hs3
    repeat' first | with_reducible apply condW_F | ((with_reducible apply m_pnilF); (· kernel_rfl))
    refine hT3.call (d_sink_Open0 (sz := 64) (every := ev) hdk (hT3.fx fun _ h => h) rfl rfl (by decide) (by decide) hev.1 hev.2 (x0_roll 64).1) (by kernel_rfl) (fun _ h => h) fun v wa4 w4 X4 hq4 hle4 hin4 hT4 hc4 => ?_
    obtain ⟨nb, lb, F4, rfl, hF4, h4⟩ := hq4
    replace hT4 : Ft w0 nX w4 X4 F4 := hT4.less hF4
    replace h4 : Snk w4 F4 nb lb db (SM0 ev) (x0 64).L (x0 64).m := h4
    have ho := o0 (ev := ev) (sz := 64) (by decide) (by decide)
    clear hT3 hc4 hdk
    repeat' first | ((with_reducible refine r_neqF ?_ ?_); (· omega)) | with_reducible (first | apply condW_F | apply un_selF | apply grdV_onF | apply rdW_pickF) | ((with_reducible apply m_ext); (· rfl)) | ((with_reducible apply m_pnilF); (· kernel_rfl))
    refine jn_by (Q := fun K => ∀ (n : Nat) w X F s x, Ft w0 nX w X F → Snk w F nb lb db s x.L x.m → OInv ev n s x → n ≤ 40 → K (I n) w X) ?_ fun K hK => ?_
    · intro n w5 X5 F5 s x hT5 h5 ho5 hn
      refine r_ct0V d_law_first (by kernel_rfl) hT5.s.has fun w6 X6 hs6 => ?_
      have hT6 := hT5.since hs6
      have h6 := h5.mv (hs6.mvF hT5.inX)
      repeat' first | with_reducible (first | apply un_selT | apply gE_T | apply jn_of)
      obtain ⟨FN6, FG6, mb6, av6, es6, hdj6, hN6, hG6, hsk6, hg6⟩ := id h6
      refine r_ct0V (d_sink_High hsk6 (hT6.fx hN6)) (by kernel_rfl) hT6.s.has fun w7 X7 hs7 => ?_
      have hT7 := hT6.since hs7
      have h7 := h6.mv (hs7.mvF hT6.inX)
      have ew : s.high.wall = n := by rw [ho5.hi, prevN_wall]
      obtain ⟨FN7, FG7, mb7, av7, es7, hdj7, hN7, hG7, hsk7, hg7⟩ := id h7
      repeat' first | ((with_reducible refine r_eqlT ?_ ?_); (· omega)) | with_reducible (first | apply un_selT | apply grdV_onT | apply rdW_pickT | apply gE_T) | ((with_reducible apply m_lnS); (· (first | assumption | exact Own.sl (by assumption))); (· kernel_rfl)) | ((with_reducible apply r_fdV1); (case hf => kernel_rfl); (case hg => kernel_rfl); (case hl => rfl)) | with_reducible apply jn_of | (refine r_ct0 (d_sink_Applied hsk7 (hT7.fx hN7) (by rw [ho5.dl]; omega) (fun e he => by have := ho5.dw e he; omega)) (by kernel_rfl) hT7.s.has ?_; rintro va wa8 w8 X8 ⟨es', hes, hoa, _⟩ hle8 hin8 hs8; have hT8 := hT7.since hs8; have hla : es'.length = n := (by have := congrArg List.length hes; rw [ho5.dl] at this; simpa using this); have hsa := hoa.sl)
      · exact hT8.fin fun wa hk9 => rfl
    · refine lp2_of (fun m a b w X => ∃ (i n : Nat) (F : XS) (s : SM) (x : LD), a = I i ∧ b = I n ∧ m = order.length - i ∧ i ≤ order.length ∧ n ≤ ws.length ∧ Ft w0 nX w X F ∧ Snk w F nb lb db s x.L x.m ∧ OInv ev n s x) order.length
        ⟨0, 0, F4, SM0 ev, x0 64, rfl, rfl, rfl, Nat.zero_le _, Nat.zero_le _, hT4, h4, ho⟩ ?_
      clear hT4 h4 ho
      rintro m a b w5 X5 ⟨i, n, F5, s, x, rfl, rfl, rfl, hi, hn, hT5, h5, ho5⟩
      have h1 := h10.mv hT5.s.mv
      have h2 := h20.mv hT5.s.mv
      rcases at_or order i with ⟨hlt, o, hx, hd⟩ | ⟨hge, hd⟩
      · repeat' first | ((with_reducible refine r_lssT ?_ ?_); (· omega)) | with_reducible apply condW_T | ((with_reducible apply m_lnS); (· (first | assumption | exact Own.sl (by assumption))); (· kernel_rfl))
        refine jn_by (Q := fun K2 => ∀ (n' : Nat) w X F s x, Ft w0 nX w X F → Snk w F nb lb db s x.L x.m → OInv ev n' s x → n' ≤ ws.length → K2 (I n') w X) ?_ fun K2 hK2 => ?_
        · intro n' w6 X6 F6 s6 x6 hT6 h6 ho6 hn6
          repeat' first | ((with_reducible apply r_add); (· omega); (· omega))
          exact nx2_of (order.length - (i + 1)) (by omega) ⟨i + 1, n', F6, s6, x6, by simp, rfl, rfl, by omega, hn6, hT6, h6, ho6⟩
        repeat' first | with_reducible (first | apply condW_T | apply condW_F) | (with_reducible apply r_eql <;> intro _) | ((with_reducible apply m_ld1); (· (first | assumption | exact RowIs.cells (by assumption))); (· (first | exact mv0 | exact mv1 (by assumption) | exact mv2 (by assumption) (by assumption))); (· kernel_rfl); (· rfl)) | ((with_reducible apply m_lnS); (· (first | assumption | exact Own.sl (by assumption))); (· kernel_rfl)) | ((with_reducible apply m_ixS); (· (first | assumption | exact Own.sl (by assumption))); (try (case hz => rfl)); (case hr => first | assumption | exact List.getElem?_eq_getElem (by omega)); (try (case hz => omega)); (case ht => kernel_rfl); (case hs => kernel_rfl); intro _ _ _)
        · exact hK n _ _ F5 s x hT5 h5 ho5 (by omega)
        rename_i hw0
        have hwp : 0 < ws.length := by omega
        repeat' first | (refine r_remI (a := o) (b := ws.length) (by omega) ?_)
        refine jn_by (Q := fun K3 => ∀ k : Nat, k < ws.length → K3 (I k)) ?_ fun K3 hK3 => ?_
        · intro k hk3
          have hwk := List.getElem?_eq_getElem hk3
          generalize ws[k] = kv at hwk
          have hkv : kv ∈ ws := List.mem_of_getElem? hwk
          have hks := hkey kv hkv
          obtain ⟨pl1, pl2, pl3, pl4⟩ := ho5.pi.list
          repeat' first | ((with_reducible apply r_add); (· omega); (· omega))
          refine r_ct0 (d_law_apply (prev := k) (n := (k : Int) + 1)) (by kernel_rfl) hT5.s.has ?_
          rintro _ wa6 w6 X6 ⟨a6, rfl, hoa6⟩ hle6 hin6 hs6
          have hT6 := hT5.since hs6
          have h6 := h5.mv (hs6.mvF hT5.inX)
          replace h2 := h2.mv hs6.mv
          have o6 := hoa6.sl.one
          repeat' first | with_reducible apply un_box | ((with_reducible apply m_ldA); (· (first | assumption | exact RowIs.cells (by assumption))); (· (first | exact mv0 | exact mv1 (by assumption) | exact mv2 (by assumption) (by assumption))); (· kernel_rfl); (· rfl)) | ((with_reducible apply m_ixS); (· (first | assumption | exact Own.sl (by assumption))); (try (case hz => rfl)); (case hr => first | assumption | exact List.getElem?_eq_getElem (by omega)); (try (case hz => omega)); (case ht => kernel_rfl); (case hs => kernel_rfl); intro _ _ _) | ((with_reducible apply m_chkc); (case h => (repeat' first | with_reducible apply all_one_cons | with_reducible exact all_one_nil | assumption | rfl | exact Sl.one (by assumption) | exact Rws.one (by assumption) | exact Sl.one (Own.sl (by assumption))))) | ((with_reducible apply chk_T); (· first | rfl | assumption | exact Sl.one (by assumption) | exact Rws.one (by assumption) | exact Sl.one (Own.sl (by assumption))))
          refine m_bs1 hT6.s.has (by kernel_rfl) rfl fun a7 w7 X7 hs7 hoa7 => ?_
          have hoa : Own w7 X7 w6.heap.size 53 4 a7 ([kv].map KV.l) := hoa7
          have o7 := hoa.sl.one
          obtain ⟨b7, n7, c7, rfl⟩ := hoa.sl.form
          have hT7 := hT6.since hs7
          have h7 := h6.mv (hs7.mvF hT6.inX)
          replace h2 := h2.mv hs7.mv
          repeat' first | ((with_reducible apply m_set); (· (simp only [Value.cells, nq1, nq2, nq3, nq4, nq5, nq6, setL, nq7, nq8, nq9, nq0, Nat.reduceAdd, Nat.zero_add]; try rfl))) | ((with_reducible apply chk_T); (· first | rfl | assumption | exact Sl.one (by assumption) | exact Rws.one (by assumption) | exact Sl.one (Own.sl (by assumption))))
          obtain ⟨FN7, FG7, mb7, av7, es7, hdj7, hN7, hG7, hsk7, hg7⟩ := id h7
          refine r_ct0 (d_sink_Pairs hsk7 (hT7.fx hN7) (fun x hx => by have := pl4 x hx; omega) (by have := ho5.pi.len; omega)) (by kernel_rfl) hT7.s.has ?_
          rintro vp wa8 w8 X8 hop hle8 hin8 hs8
          have hT8 := hT7.since hs8
          have h8 := h7.mv (hs8.mvF hT7.inX)
          replace h2 := h2.mv hs8.mv
          have hop8 : Own w8 X8 w7.heap.size 74 4 vp (s.list.map KV.l) := hop.up hin8 hle8
          have hF5 : ∀ g, F5 g → g < w5.heap.size := fun g hg => hT5.s.has g (hT5.inX g hg)
          have hz6 := hs6.kp.size
          have hz7 := hs7.kp.size
          have hsw : Sl w8 (blk (.slice b7 n7 c7)) 4 (.slice b7 n7 c7) ([kv].map KV.l) := hoa.ow.tight.sl.mv (hs8.mvF fun g hg => (hoa.ow.inX hg).1)
          repeat' first | ((with_reducible apply m_sub); (· (simp only [Value.cells, nq1, nq2, nq3, nq4, nq5, nq6, setL, nq7, nq8, nq9, nq0, Nat.reduceAdd, Nat.zero_add]; try rfl))) | ((with_reducible apply chk_T); (· first | rfl | assumption | exact Sl.one (by assumption) | exact Rws.one (by assumption) | exact Sl.one (Own.sl (by assumption))))
          have hn40 : n ≤ 40 := by omega
          obtain ⟨q1, q2, q3⟩ := ho5.keepOk (p := encA (recA (prevN k) ⟨(k : Int) + 1, 0, 1⟩ ⟨1, 1, (k : Int) + 1⟩ [kv])) hn40 (encA_len hks)
          refine hT8.call (d_sink_Step (S := blk (.slice b7 n7 c7)) (prev := prevN k) (st := ⟨(k : Int) + 1, 0, 1⟩) (t := ⟨1, 1, (k : Int) + 1⟩) (l := [kv]) h8 q1 q2 (hT8.fx fun _ h => h) ho5.dn hsw
            (fun g hg => ⟨hs8.sub g (hoa.ow.inX hg).1, fun hf => by have := hF5 g hf; have := (hoa.ge hg).1; omega⟩) (by simp) (by simp; omega) (Nat.le_trans (encA_len hks) (by decide)) (by rw [ho5.dl]; omega) (by have := ho5.si; omega) q3.lk q3.kd) (by kernel_rfl) (fun _ h => h) fun v wa9 w9 X9 hq9 hle9 hin9 hT9 hc9 => ?_
          obtain ⟨vo, F9, S9, rfl, hF9, hS9, h9, hout⟩ := hq9
          replace hT9 : Ft w0 nX w9 X9 F9 := hT9.less hF9
          have hcase : ∃ n' : Nat, n' ≤ ws.length ∧ OInv ev n' (stepS s x (prevN k) ⟨(k : Int) + 1, 0, 1⟩ ⟨1, 1, (k : Int) + 1⟩ [kv]).1 (stepS s x (prevN k) ⟨(k : Int) + 1, 0, 1⟩ ⟨1, 1, (k : Int) + 1⟩ [kv]).2 ∧
              ((n' = n + 1 ∧ applyOk (prevN k) ⟨(k : Int) + 1, 0, 1⟩ ⟨1, 1, (k : Int) + 1⟩ [kv] = true ∧ k = n ∧ goodKey kv.key = true) ∨
               (n' = n ∧ (stepS s x (prevN k) ⟨(k : Int) + 1, 0, 1⟩ ⟨1, 1, (k : Int) + 1⟩ [kv]).1 = s ∧ (applyOk (prevN k) ⟨(k : Int) + 1, 0, 1⟩ ⟨1, 1, (k : Int) + 1⟩ [kv] = true → k = n → Full (stepS s x (prevN k) ⟨(k : Int) + 1, 0, 1⟩ ⟨1, 1, (k : Int) + 1⟩ [kv]).2))) := by
            rcases ho5.step (k := k) (w := kv) (t := ⟨1, 1, (k : Int) + 1⟩) hn40 (by omega) hks with ⟨c1, c2, c3, c4, c5⟩ | ⟨c1, c2, c3⟩
            · exact ⟨n + 1, by omega, c4, .inl ⟨rfl, c1, c2, c3⟩⟩
            · exact ⟨n, hn, by rw [c1]; exact c2, .inr ⟨rfl, c1, c3⟩⟩
          change Snk w9 F9 nb lb db (stepS s x (prevN k) ⟨(k : Int) + 1, 0, 1⟩ ⟨1, 1, (k : Int) + 1⟩ [kv]).1 (stepS s x (prevN k) ⟨(k : Int) + 1, 0, 1⟩ ⟨1, 1, (k : Int) + 1⟩ [kv]).2.L (stepS s x (prevN k) ⟨(k : Int) + 1, 0, 1⟩ ⟨1, 1, (k : Int) + 1⟩ [kv]).2.m at h9
          change Sl w9 S9 36 vo (if applyOk (prevN k) ⟨(k : Int) + 1, 0, 1⟩ ⟨1, 1, (k : Int) + 1⟩ [kv] = true then [mHigh 31 (stepS s x (prevN k) ⟨(k : Int) + 1, 0, 1⟩ ⟨1, 1, (k : Int) + 1⟩ [kv]).1.high] else []) at hout
          generalize stepS s x (prevN k) ⟨(k : Int) + 1, 0, 1⟩ ⟨1, 1, (k : Int) + 1⟩ [kv] = st9 at h9 hout hcase
          obtain ⟨n', hn', ho9, hcase⟩ := hcase
          have hop9 : Own w9 X9 w7.heap.size 74 4 vp (s.list.map KV.l) := hop8.chg hc9 fun g hg hf => by
            have := hF5 g hf; have := (hop8.ge hg).1; omega
          have hF9z : ∀ g, F9 g → F5 g ∨ wa9.heap.size ≤ g := fun g hg => (hF9 g hg).imp id fun h => h.1
          have hpb : ∀ g, vp.ownBlock = some g → ¬ F9 g := fun g hg hf => by
            rcases hF9z g hf with hf | hf
            · have := hF5 g hf; have := (hop8.ge hg).1; omega
            · have := (hop8.ge hg).2; omega
          clear hc9 h8 hT8
          obtain ⟨pl1', pl2', pl3', pl4'⟩ := ho9.pi.list
          have hko : KeepOk st9.2 (encBs (recB st9.1.high st9.1.list)) ∧ LOK st9.2.L ∧ st9.2.L.segs.length ≤ 2 ^ 29 := by
            obtain ⟨a1, a2, a3⟩ := ho9.keepOk (p := encBs (recB st9.1.high st9.1.list)) (by omega) (encB_len pl2' (by omega))
            exact ⟨a3, a1, a2⟩
          obtain ⟨t3, t1, t2⟩ := hko
          obtain ⟨ho11, hpe, hhe, hfu⟩ := ho9.tick hev.1 (by omega)
          repeat' first | ((with_reducible apply m_ext); (· rfl))
          refine hT9.call (d_sink_Tick (K := 1000) h9 t1 t2 (hT9.fx fun _ h => h) ho9.dn (fun x hx => by have := pl4' x hx; omega) (by omega) (by have := ho9.pi.len; omega) (fun x hx => by have := pl2' x hx; omega) (by rw [ho9.hi]; exact prevN_may (by omega)) pl1'
            (Nat.le_trans (encB_len pl2' (by omega)) (by decide)) (fun _ => t3.lk) (fun _ => t3.kd) (fun _ => t3.lk2) (fun _ => t3.len) (by decide) (fun _ => t3.tr)) (by kernel_rfl) (fun _ h => h) fun v wa11 w11 X11 hq11 hle11 hin11 hT11 hc11 => ?_
          obtain ⟨F11, rfl, hF11, h11⟩ := hq11
          replace hT11 : Ft w0 nX w11 X11 F11 := hT11.less hF11
          change Snk w11 F11 nb lb db (tickS st9.1 st9.2 1000).1 (tickS st9.1 st9.2 1000).2.L (tickS st9.1 st9.2 1000).2.m at h11
          generalize tickS st9.1 st9.2 1000 = st11 at h11 ho11 hpe hhe hfu
          have hop11 : Own w11 X11 w7.heap.size 74 4 vp (s.list.map KV.l) := hop9.chg hc11 hpb
          have hout11 : Sl w11 X11 36 vo (if applyOk (prevN k) ⟨(k : Int) + 1, 0, 1⟩ ⟨1, 1, (k : Int) + 1⟩ [kv] = true then [mHigh 31 st9.1.high] else []) :=
            (hout.mv (hc11.mvA fun g hg => ⟨hin9 g (hS9 g hg).1, (hS9 g hg).2⟩)).mono fun g hg => hc11.sub g (hin9 g (hS9 g hg).1)
          replace h1 := h10.mv hT11.s.mv
          replace h2 := h20.mv hT11.s.mv
          clear hc11 h9 hout
          have hg24 : goodKey kv.key = (decide ((kv.key.size : Int) ≥ 1) && decide ((kv.key.size : Int) ≤ 24)) := rfl
          obtain ⟨FN11, FG11, mb11, av11, es11, hdj11, hN11, hG11, hsk11, hg11⟩ := id h11
          have hdn11 := ho11.dn
          have ew : st9.1.high.wall = n' := by rw [ho9.hi, prevN_wall]
          have r1 : ([st9.1.high] : List Stamp)[0]? = some st9.1.high := rfl
          have len1 : (([st9.1.high] : List Stamp).length : Int) = 1 := rfl
          have len0 : (([] : List Stamp).length : Int) = 0 := rfl
          rcases hcase with ⟨rfl, cok, ckn, cgood⟩ | ⟨rfl, cst, cfull⟩
          · rw [if_pos cok] at hout11
            replace hout11 : Sl w11 X11 36 vo (([st9.1.high] : List Stamp).map (mHigh 31)) := hout11
            rw [hg24] at cgood
            simp only [Bool.and_eq_true, decide_eq_true_eq] at cgood
            repeat' first | ((with_reducible refine r_eqlT ?_ ?_); (· omega)) | ((with_reducible refine r_neqF ?_ ?_); (· omega)) | ((with_reducible refine r_leqT ?_ ?_); (· omega)) | ((with_reducible refine r_geqT ?_ ?_); (· omega)) | with_reducible (first | apply condW_T | apply condW_F) | ((with_reducible apply un_cell); (· rfl)) | with_reducible (first | apply un_selT | apply un_selF | apply grdV_onT | apply rdW_pickT | apply rdW_pickF | apply gE_F | apply r_notT) | ((with_reducible apply m_fld1); (· (first | assumption | exact RowIs.cells (by assumption))); (· kernel_rfl); (· rfl); intro _ _ _) | ((with_reducible apply m_fld); (· (first | assumption | exact RowIs.cells (by assumption))); (· kernel_rfl); (· rfl); (· (simp only [Value.cells, nq1, nq2, nq3, nq4, nq5, nq6, setL, nq7, nq8, nq9, nq0, Nat.reduceAdd, Nat.zero_add]; try rfl)); intro _ _ _) | ((with_reducible apply m_ld1); (· (first | assumption | exact RowIs.cells (by assumption))); (· (first | exact mv0 | exact mv1 (by assumption) | exact mv2 (by assumption) (by assumption))); (· kernel_rfl); (· rfl)) | ((with_reducible apply m_lnS); (· (first | assumption | exact Own.sl (by assumption))); (· kernel_rfl)) | ((with_reducible apply r_lnT); (· kernel_rfl)) | ((with_reducible apply m_ixS); (· (first | assumption | exact Own.sl (by assumption))); (try (case hz => rfl)); (case hr => first | assumption | exact List.getElem?_eq_getElem (by omega)); (try (case hz => omega)); (case ht => kernel_rfl); (case hs => kernel_rfl); intro _ _ _) | ((with_reducible apply chk_T); (· first | rfl | assumption | exact Sl.one (by assumption) | exact Rws.one (by assumption) | exact Sl.one (Own.sl (by assumption)))) | ((with_reducible apply r_add); (· omega); (· omega)) | with_reducible apply jn_of | (refine r_ct0V (d_sink_Down hsk11 (hT11.fx hN11)) (by kernel_rfl) hT11.s.has fun w12 X12 hs12 => ?_; rw [hdn11]; have hout12 := hout11.mv hs12.mv)
            have hfin := hK2 (n + 1) w12 X12 F11 st11.1 st11.2 (hT11.since hs12) (h11.mv (hs12.mvF hT11.inX)) ho11 hn'
            rw [show ((n + 1 : Nat) : Int) = (n : Int) + 1 from rfl] at hfin
            exact hfin
          · have hlist : st11.1.list = s.list := by unfold SM.list SM.get; rw [hpe, cst]
            have hhi : st11.1.high = s.high := by rw [hhe, cst]
            have ew11 : st11.1.high.wall = n' := by rw [ho11.hi, prevN_wall]
            have hms : (∀ x ∈ st11.2.m.fs, x.1.size ≤ 2 ^ 40) ∧ st11.2.m.fs.length ≤ 2 ^ 40 := by
              obtain ⟨c, m, hl, _, _⟩ := ho11.lg
              refine ⟨fun x hx => ?_, ?_⟩
              · obtain ⟨f, _, e⟩ := hl.keys x.1 (List.mem_map.2 ⟨x, hx, rfl⟩)
                rw [e, fileN_size]; have := hl.d2; omega
              · have := hl.cnt; rw [DM.ks_len] at this; omega
            obtain ⟨ql1, ql2, ql3, ql4⟩ := ho11.pi.list
            cases hok : applyOk (prevN k) ⟨(k : Int) + 1, 0, 1⟩ ⟨1, 1, (k : Int) + 1⟩ [kv] with
            | true =>
              rw [if_pos hok] at hout11
              have hll : k = n' → 64 ≤ (sortB (st11.2.m.fs.map (·.1))).length := fun e => by
                have := (hfu (cfull hok e)).1
                rw [(sortB_perm _).length_eq]
                exact this
              replace hout11 : Sl w11 X11 36 vo (([st9.1.high] : List Stamp).map (mHigh 31)) := hout11
              repeat' first | ((with_reducible refine r_eqlT ?_ ?_); (· omega)) | ((with_reducible refine r_eqlF ?_ ?_); (· omega)) | ((with_reducible refine r_neqF ?_ ?_); (· omega)) | with_reducible apply condW_F | ((with_reducible apply un_cell); (· rfl)) | with_reducible (first | apply un_selT | apply un_selF | apply un_selFT | apply grdV_onT | apply grdW_offT | apply rdW_pickT | apply rdW_pickF | apply gE_F) | (with_reducible apply r_eql <;> intro _) | (with_reducible apply r_leq <;> intro _) | (with_reducible apply r_geq <;> intro _) | ((with_reducible apply m_fld1); (· (first | assumption | exact RowIs.cells (by assumption))); (· kernel_rfl); (· rfl); intro _ _ _) | ((with_reducible apply m_fld); (· (first | assumption | exact RowIs.cells (by assumption))); (· kernel_rfl); (· rfl); (· (simp only [Value.cells, nq1, nq2, nq3, nq4, nq5, nq6, setL, nq7, nq8, nq9, nq0, Nat.reduceAdd, Nat.zero_add]; try rfl)); intro _ _ _) | ((with_reducible apply m_ld1); (· (first | assumption | exact RowIs.cells (by assumption))); (· (first | exact mv0 | exact mv1 (by assumption) | exact mv2 (by assumption) (by assumption))); (· kernel_rfl); (· rfl)) | ((with_reducible apply m_lnS); (· (first | assumption | exact Own.sl (by assumption))); (· kernel_rfl)) | ((with_reducible apply r_lnT); (· kernel_rfl)) | ((with_reducible apply m_ixS); (· (first | assumption | exact Own.sl (by assumption))); (try (case hz => rfl)); (case hr => first | assumption | exact List.getElem?_eq_getElem (by omega)); (try (case hz => omega)); (case ht => kernel_rfl); (case hs => kernel_rfl); intro _ _ _) | ((with_reducible apply chk_T); (· first | rfl | assumption | exact Sl.one (by assumption) | exact Rws.one (by assumption) | exact Sl.one (Own.sl (by assumption)))) | ((with_reducible apply r_add); (· omega); (· omega)) | with_reducible apply jn_of | (refine r_ct0V (d_sink_Down hsk11 (hT11.fx hN11)) (by kernel_rfl) hT11.s.has fun w12 X12 hs12 => ?_; rw [hdn11]; have hout12 := hout11.mv hs12.mv)
              all_goals have hT12 := hT11.since hs12
              all_goals have h12 := h11.mv (hs12.mvF hT11.inX)
              all_goals obtain ⟨FN12, FG12, mb12, av12, es12, hdj12, hN12, hG12, hsk12, hg12⟩ := id h12
              all_goals refine r_ct0 (d_sink_Pairs hsk12 (hT12.fx hN12) (fun x hx => by have := ql4 x hx; omega) (by have := ho11.pi.len; omega)) (by kernel_rfl) hT12.s.has ?_
              all_goals rintro vq wa13 w13 X13 hoq hle13 hin13 hs13
              all_goals have hT13 := hT12.since hs13
              all_goals have h13 := h12.mv (hs13.mvF hT12.inX)
              all_goals have hq13 : Sl w13 X13 4 vq (st11.1.list.map KV.l) := hoq.sl.mono hin13
              all_goals have hp13 : Sl w13 X13 4 vp (s.list.map KV.l) := (hop11.sl.mv hs12.mv).mv hs13.mv
              all_goals refine r_ct0V (u := B true) ((d_raceref_Pairs hq13 hp13).mono fun v wa w' _ hv => by rw [hv, hlist]; simp) (by kernel_rfl) hT13.s.has fun w14 X14 hs14 => ?_
              all_goals have hT14 := hT13.since hs14
              all_goals have h14 := h13.mv (hs14.mvF hT13.inX)
              all_goals obtain ⟨FN14, FG14, mb14, av14, es14, hdj14, hN14, hG14, hsk14, hg14⟩ := id h14
              all_goals obtain ⟨FL14, FD14, sv14, bl14, hW14⟩ := hg14.lw
              all_goals have hout14 := (hout12.mv hs13.mv).mv hs14.mv
              all_goals clear hsk12 hg12 hsk11 hg11 h12 h13 hT12 hT13
              repeat' first | ((with_reducible refine r_lssF ?_ ?_); (· omega)) | ((with_reducible refine r_eqlT ?_ ?_); (· omega)) | ((with_reducible refine r_eqlF ?_ ?_); (· omega)) | ((with_reducible refine r_neqF ?_ ?_); (· omega)) | with_reducible (first | apply condW_F | apply un_selT | apply un_selF | apply un_selFT | apply grdV_onT | apply grdV_onF | apply grdW_onF | apply grdW_offT | apply rdW_pickT | apply rdW_pickF | apply gE_T | apply gE_F | apply gE_FT | apply r_notT) | ((with_reducible apply m_lnS); (· (first | assumption | exact Own.sl (by assumption))); (· kernel_rfl)) | ((with_reducible apply r_fdV1); (case hf => kernel_rfl); (case hg => kernel_rfl); (case hl => rfl)) | with_reducible apply jn_of | (refine r_ct0V (d_sink_High hsk14 (hT14.fx hN14)) (by kernel_rfl) hT14.s.has fun w15 X15 hs15 => ?_; have hT15 := hT14.since hs15; have h15 := h14.mv (hs15.mvF hT14.inX); have hd15 := hW14.d.mv (hs15.mvF fun g hg => hT14.inX g (hG14 g (hW14.hD g hg)))) | (refine r_ct0 (d_disk_List hd15 (hT15.fx fun g hg => hG14 g (hW14.hD g hg)) hms.1 hms.2) (by kernel_rfl) hT15.s.has ?_; rintro vl wa16 w16 X16 hol16 hle16 hin16 hs16; have hT16 := hT15.since hs16; have h16 := h15.mv (hs16.mvF hT15.inX); have hsl16 := hol16.sl)
              all_goals first
                | exact hK2 n' _ _ F11 st11.1 st11.2 hT16 h16 ho11 hn'
                | exact hK2 n' _ _ F11 st11.1 st11.2 hT15 h15 ho11 hn'
                | skip
              all_goals (exfalso; have hl64 := hll (by omega); omega)
            | false =>
              rw [if_neg (by rw [hok]; simp)] at hout11
              replace hout11 : Sl w11 X11 36 vo (([] : List Stamp).map (mHigh 31)) := hout11
              repeat' first | ((with_reducible refine r_eqlT ?_ ?_); (· omega)) | ((with_reducible refine r_eqlF ?_ ?_); (· omega)) | ((with_reducible refine r_neqF ?_ ?_); (· omega)) | with_reducible apply condW_F | ((with_reducible apply un_cell); (· rfl)) | with_reducible (first | apply un_selT | apply un_selF | apply un_selFT | apply grdV_onT | apply grdW_offT | apply rdW_pickT | apply rdW_pickF | apply gE_F) | (with_reducible apply r_eql <;> intro _) | (with_reducible apply r_leq <;> intro _) | (with_reducible apply r_geq <;> intro _) | ((with_reducible apply m_fld1); (· (first | assumption | exact RowIs.cells (by assumption))); (· kernel_rfl); (· rfl); intro _ _ _) | ((with_reducible apply m_ld1); (· (first | assumption | exact RowIs.cells (by assumption))); (· (first | exact mv0 | exact mv1 (by assumption) | exact mv2 (by assumption) (by assumption))); (· kernel_rfl); (· rfl)) | ((with_reducible apply m_lnS); (· (first | assumption | exact Own.sl (by assumption))); (· kernel_rfl)) | ((with_reducible apply r_lnT); (· kernel_rfl)) | ((with_reducible apply m_ixS); (· (first | assumption | exact Own.sl (by assumption))); (try (case hz => rfl)); (case hr => first | assumption | exact List.getElem?_eq_getElem (by omega)); (try (case hz => omega)); (case ht => kernel_rfl); (case hs => kernel_rfl); intro _ _ _) | ((with_reducible apply chk_T); (· first | rfl | assumption | exact Sl.one (by assumption) | exact Rws.one (by assumption) | exact Sl.one (Own.sl (by assumption)))) | with_reducible apply jn_of | (refine r_ct0V (d_sink_Down hsk11 (hT11.fx hN11)) (by kernel_rfl) hT11.s.has fun w12 X12 hs12 => ?_; rw [hdn11]; have hout12 := hout11.mv hs12.mv)
              all_goals have hT12 := hT11.since hs12
              all_goals have h12 := h11.mv (hs12.mvF hT11.inX)
              all_goals obtain ⟨FN12, FG12, mb12, av12, es12, hdj12, hN12, hG12, hsk12, hg12⟩ := id h12
              all_goals refine r_ct0 (d_sink_Pairs hsk12 (hT12.fx hN12) (fun x hx => by have := ql4 x hx; omega) (by have := ho11.pi.len; omega)) (by kernel_rfl) hT12.s.has ?_
              all_goals rintro vq wa13 w13 X13 hoq hle13 hin13 hs13
              all_goals have hT13 := hT12.since hs13
              all_goals have h13 := h12.mv (hs13.mvF hT12.inX)
              all_goals have hq13 : Sl w13 X13 4 vq (st11.1.list.map KV.l) := hoq.sl.mono hin13
              all_goals have hp13 : Sl w13 X13 4 vp (s.list.map KV.l) := (hop11.sl.mv hs12.mv).mv hs13.mv
              all_goals refine r_ct0V (u := B true) ((d_raceref_Pairs hq13 hp13).mono fun v wa w' _ hv => by rw [hv, hlist]; simp) (by kernel_rfl) hT13.s.has fun w14 X14 hs14 => ?_
              all_goals have hT14 := hT13.since hs14
              all_goals have h14 := h13.mv (hs14.mvF hT13.inX)
              all_goals obtain ⟨FN14, FG14, mb14, av14, es14, hdj14, hN14, hG14, hsk14, hg14⟩ := id h14
              all_goals obtain ⟨FL14, FD14, sv14, bl14, hW14⟩ := hg14.lw
              all_goals have hout14 := (hout12.mv hs13.mv).mv hs14.mv
              all_goals clear hsk12 hg12 hsk11 hg11 h12 h13 hT12 hT13
              repeat' first | ((with_reducible refine r_eqlT ?_ ?_); (· omega)) | ((with_reducible refine r_eqlF ?_ ?_); (· omega)) | ((with_reducible refine r_neqF ?_ ?_); (· omega)) | with_reducible (first | apply condW_F | apply un_selT | apply un_selF | apply un_selFT | apply grdV_onT | apply grdV_onF | apply grdW_onF | apply grdW_offT | apply rdW_pickT | apply rdW_pickF | apply gE_F | apply gE_FT | apply r_notT) | ((with_reducible apply m_lnS); (· (first | assumption | exact Own.sl (by assumption))); (· kernel_rfl)) | ((with_reducible apply r_fdV1); (case hf => kernel_rfl); (case hg => kernel_rfl); (case hl => rfl)) | with_reducible apply jn_of | (refine r_ct0V (d_sink_High hsk14 (hT14.fx hN14)) (by kernel_rfl) hT14.s.has fun w15 X15 hs15 => ?_; have hT15 := hT14.since hs15; have h15 := h14.mv (hs15.mvF hT14.inX); have hd15 := hW14.d.mv (hs15.mvF fun g hg => hT14.inX g (hG14 g (hW14.hD g hg))))
              all_goals first
                | exact hK2 n' _ _ F11 st11.1 st11.2 hT16 h16 ho11 hn'
                | exact hK2 n' _ _ F11 st11.1 st11.2 hT15 h15 ho11 hn'
                | skip
        · have t1 := Int.tmod_lt_of_pos o (show (0 : Int) < ws.length by omega)
          have t2 := Int.lt_tmod_of_pos o (show (0 : Int) < ws.length by omega)
          repeat' first | with_reducible (first | apply condW_T | apply condW_F) | (with_reducible apply r_lss <;> intro _)
          · refine r_negI (by omega) (by omega) ?_
            have e : (-(o.tmod ws.length)) = (((-(o.tmod ws.length)).toNat : Nat) : Int) := by omega
            rw [e]
            exact hK3 _ (by omega)
          · have e : (o.tmod ws.length) = (((o.tmod ws.length).toNat : Nat) : Int) := by omega
            rw [e]
            exact hK3 _ (by omega)
      · repeat' first | ((with_reducible refine r_lssF ?_ ?_); (· omega)) | with_reducible apply condW_F | ((with_reducible apply m_lnS); (· (first | assumption | exact Own.sl (by assumption))); (· kernel_rfl))
        exact hK n _ _ F5 s x hT5 h5 ho5 (by omega)
end Go.Proofs.YtpdkoaklobnegaaGreat
