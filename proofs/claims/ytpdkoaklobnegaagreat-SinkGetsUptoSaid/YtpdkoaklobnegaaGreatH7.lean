/-
  Part 7 of the proof: what the last text leans on.
-/
import Derived.Test.YtpdkoaklobnegaaGreatProg
import Derived.Recover
import Derived.KernelRfl
import Derived.Tactics
import Derived.Test.YtpdkoaklobnegaaGreatH6
namespace Go.Proofs.YtpdkoaklobnegaaGreat
open Go.Eng
theorem idle_Step : Idle Tryz.prog 50 := by
  refine ⟨by kernel_rfl, fun caps w => ?_⟩
  refine callsD_of_wpS Tryz.func50 rfl fun c₀ cs hu => ?_
  rw [Tryz.ntmps50]
  have hsz : 7 ≤ (caps ++ Array.replicate (10 - caps.size) undef).size := by simp; omega
  generalize caps ++ Array.replicate (10 - caps.size) undef = tm at hsz
  have h2 : 2 < tm.size := by omega
  have h3 : 3 < tm.size := by omega
  have h4 : 4 < tm.size := by omega
  have h5 : 5 < tm.size := by omega
  have h6 : 6 < tm.size := by omega
  apply wpS_seq
  apply wpS_region
  simp [wpOpsS, go_sem, recoverD, hu, Exit.thenS]
  apply wpS_seq
  apply wpS_region
  simp [wpOpsS, go_sem, Exit.thenS, h2, h3, h4, h5, h6]
  refine wpS_cond (t := false) (by simp [Act.eval, h2, h3, h4, h5, h6]) ?_
  simp only [Bool.false_eq_true, if_false]
  refine wpS_of_wp (wp_skip ?_)
  cases c₀
  simp_all [bodyPostS, results, Tryz.results50]
theorem idle_Tick : Idle Tryz.prog 56 := by
  refine ⟨by kernel_rfl, fun caps w => ?_⟩
  refine callsD_of_wpS Tryz.func56 rfl fun c₀ cs hu => ?_
  rw [Tryz.ntmps56]
  have hsz : 7 ≤ (caps ++ Array.replicate (9 - caps.size) undef).size := by simp; omega
  generalize caps ++ Array.replicate (9 - caps.size) undef = tm at hsz
  have h2 : 2 < tm.size := by omega
  have h3 : 3 < tm.size := by omega
  have h4 : 4 < tm.size := by omega
  have h5 : 5 < tm.size := by omega
  have h6 : 6 < tm.size := by omega
  apply wpS_seq
  apply wpS_region
  simp [wpOpsS, go_sem, recoverD, hu, Exit.thenS]
  apply wpS_seq
  apply wpS_region
  simp [wpOpsS, go_sem, Exit.thenS, h2, h3, h4, h5, h6]
  refine wpS_cond (t := false) (by simp [Act.eval, h2, h3, h4, h5, h6]) ?_
  simp only [Bool.false_eq_true, if_false]
  refine wpS_of_wp (wp_skip ?_)
  cases c₀
  simp_all [bodyPostS, results, Tryz.results56]
end Go.Proofs.YtpdkoaklobnegaaGreat
namespace Go.Proofs.YtpdkoaklobnegaaGreat
open Go.Eng
set_option maxRecDepth 100000
set_option maxHeartbeats 1000000
set_option linter.unusedVariables false
set_option linter.unusedSimpArgs false
attribute [local irreducible] un jn chk fld ld1 ldA st1 ixS lnS lnT bld cvI cvF ixA bsS apS rdV rdW grdW eW eV eU eC eF gE condW fin pickN nilN binS vS lp0 lp1 lp2 lp3 lp4 lp5 lp6 lp7 nx0 nx1 nx2 nx3 nx4 nx5 nx6 nx7
def recA (prev st : Stamp) (t : Txn) (l : List KV) : Rec := ⟨11, t, st, prev, false, 0, 0, [], l, [], [], .zero⟩
theorem recA_err {prev st : Stamp} {t : Txn} {l : List KV} (h : applyOk prev st t l = true) : (recA prev st t l).err = 0 := by
  simp [Rec.err, recA, Rec.strip, Rec.isZero, Rec.fieldsOk, h, State.isZero, State.zero]
def SM.fits (s : SM) (prev st : Stamp) (t : Txn) (l : List KV) : Bool := applyOk prev st t l && decide (st.cmp s.high > 0) && decide (prev = s.high)
def stepS (s : SM) (x : LD) (prev st : Stamp) (t : Txn) (l : List KV) : SM × LD :=
  if s.fits prev st t l then
    let k := x.keep 0 (encA (recA prev st t l))
    (if k.2.2 = 0 then { s.apply t st l with since := s.since + 1 } else s, k.1)
  else (s, x)
abbrev mHigh (to : Int) (st : Stamp) : List Value := [I 14, I 32, I to, I 0, I 0, I 0, I 0, I 0, I 0, I st.wall, I st.logic, I st.node, I 0, I 0, I 0,
  B false, I 0, I 0, nil0, nil0, nil0, nil0, nil0, nil0, I 0, I 0, .float .f64 0, .float .f64 0, I 0, I 0, I 0, I 0, I 0, I 0, nil0, nil0]
theorem Snk.setSince {w w' : World} {X X' F : XS} {nb lb mb db : Nat} {s : SM} {L : LM} {m : DM} {FN FG : XS} {av : Value} {es : List (Value × Entr)} (hdj : Dj FN FG) (hN : ∀ k, FN k → F k) (hG : ∀ k, FG k → F k) (hX : ∀ k, F k → X k)
    (h : SkL w FN nb lb mb av es s) (hg : Lg w FG lb db L m) (c : Chg (· = nb) X w X' w') (n : Int)
    (hr : RowIs w' X' nb [ptr lb 0, I s.every, I n, B s.down, .map (some mb), I s.high.wall, I s.high.logic, I s.high.node, av] 112) : Snk w' F nb lb db { s with since := n } L m :=
  ⟨FN, FG, mb, av, es, hdj, hN, hG, h.setBox (fun k hk => hX k (hN k hk)) c { s with since := n } rfl rfl hr, hg.mv (c.mvA fun k hk => ⟨hX k (hG k hk), fun e => hdj k (e ▸ h.box.1) hk⟩)⟩
theorem d_sink_applyS {w : World} {X F S : XS} {nb lb db : Nat} {s : SM} {L : LM} {m : DM} {t : Txn} {st : Stamp} {vw : Value} {l : List KV} (h : Snk w F nb lb db s L m) (hF : FX F X w) (hw : Sl w S 4 vw (l.map KV.l)) (hS : ∀ k, S k → X k ∧ ¬ F k)
    (hl : l.length ≤ 2 ^ 30) (hd : s.done.length ≤ 2 ^ 30) :
    Ct Tryz.prog 55 #[ptr nb 0, t.v, st.v, vw] w X F fun v wa w' => v = .tuple #[] ∧ ∃ F', (∀ k, F' k → F k ∨ made wa w' k) ∧ Snk w' F' nb lb db (s.apply t st l) L m := by
  obtain ⟨FN, FG, mb, av, es, hdj, hN, hG, hs0, hg⟩ := h
  intro wa hk
  refine ((d_sink_apply hs0 (fun k hk' => hF k (hN k hk')) hw (fun k hk' => ⟨(hS k hk').1, fun h => (hS k hk').2 (hN k h)⟩) hl hd) wa hk).mono ?_
  rintro e w' ⟨v, he, hfr, hv, F', av', es', hF', hs'⟩
  refine ⟨v, he, hfr.mono hN, hv, fun k => F' k ∨ FG k, fun k hk' => hk'.elim (fun h => (hF' k h).imp (hN k) id) fun h => .inl (hG k h), F', FG, mb, av', es', fun k a b => (hF' k a).elim (fun h => hdj k h b) fun hm => ?_, fun _ h => .inl h, fun _ h => .inr h, hs', hg.mv fun k hk' _ => ⟨hk', ?_⟩⟩
  · have := (hF k (hG k b)).2; have := hk.size; have := hm.1; omega
  · have hkf := hF k (hG k hk')
    exact (hfr.block k (Nat.lt_of_lt_of_le hkf.2 hk.size) fun h => hdj k h hk').trans (hk.block k hkf.1)
theorem d_sink_Step {w : World} {X F S : XS} {nb lb db : Nat} {s : SM} {L : LM} {m : DM} {prev st : Stamp} {t : Txn} {a : Value} {l : List KV} (h : Snk w F nb lb db s L m) (hL : LOK L) (hsl : L.segs.length ≤ 2 ^ 29) (hF : FX F X w) (hdn : s.down = false)
    (hw : Sl w S 4 a (l.map KV.l)) (hS : ∀ k, S k → X k ∧ ¬ F k) (hl : l.length ≤ 2 ^ 16) (hkl : ∀ x ∈ l, x.key.size ≤ 2 ^ 16) (hen : (encA (recA prev st t l)).length ≤ 262144) (hd : s.done.length ≤ 2 ^ 30) (hsi : 0 ≤ s.since ∧ s.since < 2 ^ 40)
    (hlk : LOK (LD.append ⟨L, m⟩ (encA (recA prev st t l))).1.L) (hkd : (LD.keep ⟨L, m⟩ 0 (encA (recA prev st t l))).2.2 ≠ 12) :
    Ct Tryz.prog 15 #[ptr nb 0, MA 12 31 32 prev st t a] w X F fun v wa w' => ∃ vo F' S', v = .tuple #[vo, I 0] ∧ (∀ k, F' k → F k ∨ made wa w' k) ∧ (∀ k, S' k → made wa w' k ∧ ¬ F' k) ∧
      Snk w' F' nb lb db (stepS s ⟨L, m⟩ prev st t l).1 (stepS s ⟨L, m⟩ prev st t l).2.L (stepS s ⟨L, m⟩ prev st t l).2.m ∧
      Sl w' S' 36 vo (if applyOk prev st t l then [mHigh 31 (stepS s ⟨L, m⟩ prev st t l).1.high] else []) := by
  intro w0 hk
  obtain ⟨ab, an, ac, rfl⟩ := hw.form
  replace h := h.mv (hF.mv hk)
  have hT := hF.ft hk
  have hF0 : FX F (old w0) w0 := hF.kp hk
  have hw0 : Sl w0 (out F w0) 4 (.slice ab an ac) (l.map KV.l) := hw.mv fun k hk' hl' => ⟨⟨Nat.lt_of_lt_of_le hl' hk.size, (hS k hk').2⟩, hk.block k (hS k hk').1⟩
  have oa := hw0.one
  generalize hr : stepS s ⟨L, m⟩ prev st t l = q
  unfold stepS at hr
  obtain ⟨FN, FG, mb, av, es, hdj, hN, hG, hs0, hg⟩ := id h
  have hb := hs0.box.mv (Mv.sub fun k hk' => hT.inX k (hN k hk'))
  rw [hdn] at hb
  refine ok_sink_Node_Step (fun g hg => ?_) (fun ch w hh => by obtain ⟨v, he, _⟩ := hh; cases he) ?_
  · have e : defG Tryz.f15 = some 50 := by kernel_rfl
    rw [e] at hg; cases hg; exact idle_Step
  unfold vc_sink_Node_Step
  repeat' first | with_reducible (first | apply condW_F | apply r_nil) | ((with_reducible apply m_fld1); (· exact qF); (· kernel_rfl); (· rfl); intro _ _ _) | ((with_reducible apply m_ld1); (· exact qF); (· exact qM); (· kernel_rfl); (· rfl)) | ((with_reducible apply chk_T); (· exact qC))
  refine r_ct0V (d_msgs_May (hw0.mv hT.s.mv) (by omega)) (by kernel_rfl) hT.s.has fun w1 X1 hs1 => ?_
  have hT1 := hT.since hs1
  have h1 : Snk w1 F nb lb db s L m := h.mv (hs1.mvF hT.inX)
  clear hb hg hs0 hdj hN hG
  cases hok : applyOk prev st t l with
  | false =>
    rw [show (if nodeOk 31 && nodeOk 32 && false then (0 : Int) else 4) = 4 from by simp]
    repeat' first | ((with_reducible refine r_neqT ?_ ?_); (· omega)) | with_reducible (first | apply condW_T | apply un_selTF | apply un_selU | apply grdW_offF | apply grdW_U | apply rdW_pickT)
    have hq : q = (s, ⟨L, m⟩) := by rw [← hr, if_neg (by simp [SM.fits, hok])]
    subst hq
    refine hT1.fin fun wa hk9 => ⟨nil0, F, nX, rfl, fun _ h => .inl h, fun _ h => h.elim, h1.mv (hk9.mvA hT1.inX), ?_⟩
    rw [if_neg (by simp)]
    exact Sl.nil _ _ _
  | true =>
    rw [show (if nodeOk 31 && nodeOk 32 && true then (0 : Int) else 4) = 0 from by simp [nodeOk]]
    repeat' first | ((with_reducible refine r_neqF ?_ ?_); (· omega)) | with_reducible (first | apply condW_F | apply un_selF | apply un_selFT | apply grdV_onF | apply grdW_onF | apply grdW_offT | apply rdW_pickF)
    refine jn_by (Q := fun K => ∀ w2 X2 F2, Ft w0 F w2 X2 F2 → Snk w2 F2 nb lb db q.1 q.2.L q.2.m → K w2 X2) ?_ fun K hK => ?_
    · intro w2 X2 F2 hT2 h2
      obtain ⟨FN, FG, mb, av, es, hdj, hN, hG, hs2, hg⟩ := id h2
      have hb2 := hs2.box.mv (Mv.sub fun k hk' => hT2.inX k (hN k hk'))
      repeat' first | ((with_reducible apply un_cell); (· rfl)) | with_reducible apply r_nil | ((with_reducible apply m_fld); (· exact qF); (· kernel_rfl); (· rfl); (· exact qN); intro _ _ _) | ((with_reducible apply m_ldA); (· exact qF); (· exact qM); (· kernel_rfl); (· rfl)) | ((with_reducible apply r_bld); (· kernel_rfl))
      refine m_bs1 hT2.s.has (by kernel_rfl) rfl fun v w3 X3 hs3 ho3 => ?_
      have ov := ho3.sl.one
      repeat' first | ((with_reducible apply chk_T); (· exact qC))
      have hT3 := hT2.since hs3
      refine hT3.fin fun wa hk9 => ⟨v, F2, blk v, rfl, hT3.grew hk9 fun _ h => h, fun k hk' => ?_, (h2.mv (hs3.mvF hT2.inX)).mv (hk9.mvA hT3.inX), ?_⟩
      · obtain ⟨a1, a2⟩ := ho3.ge hk'
        have b1 := hT2.s.kp.size
        have b3 := hk9.size
        refine ⟨⟨by omega, by omega⟩, fun hf => ?_⟩
        have := hT2.s.has k (hT2.inX k hf)
        omega
      · rw [if_pos rfl]
        exact (ho3.kp hk9).ow.tight.sl
    · obtain ⟨FN, FG, mb, av, es, hdj, hN, hG, hs1', hg⟩ := id h1
      have hb1 := hs1'.box.mv (Mv.sub fun k hk' => hT1.inX k (hN k hk'))
      repeat' first | ((with_reducible refine r_eqlT ?_ ?_); (· omega)) | with_reducible (first | apply un_selT | apply grdV_onT | apply grdW_onT | apply r_nil) | ((with_reducible apply m_fld); (· exact qF); (· kernel_rfl); (· rfl); (· exact qN); intro _ _ _) | ((with_reducible apply m_ldA); (· exact qF); (· exact qM); (· kernel_rfl); (· rfl))
      refine jn_by (Q := fun K1 => ∀ w2 X2, Since X1 w1 X2 w2 → K1 (I (st.cmp s.high)) w2 X2) ?_ fun K1 hK1 => ?_
      · intro w2 X2 hs2
        have hT2 := hT1.since hs2
        have h2 := h1.mv (hs2.mvF hT1.inX)
        have hb2 := hb1.since hs2
        have hno : s.fits prev st t l = false → K w2 X2 := fun hf => hK _ _ F hT2 (by
          have hq : q = (s, ⟨L, m⟩) := by rw [← hr, if_neg (by simp [hf])]
          rw [hq]; exact h2)
        repeat' first | with_reducible (first | apply condW_T | apply condW_F | apply un_selT | apply un_selFT | apply grdV_onT | apply grdW_onT | apply grdW_offT | apply rdW_pickT | apply rdW_pickF | apply r_nil) | (with_reducible apply r_gtr <;> intro _) | ((with_reducible apply m_fld); (· exact qF); (· kernel_rfl); (· rfl); (· exact qN); intro _ _ _) | ((with_reducible apply m_ldA); (· exact qF); (· exact qM); (· kernel_rfl); (· rfl)) | ((with_reducible apply r_bld); (· kernel_rfl)) | ((with_reducible refine r_eqS _ _ ?_ ?_ ?_); (· kernel_rfl); all_goals intros)
        case refine_2.k =>
          have hp : prev = s.high := by first | assumption | (ext <;> assumption)
          have hfit : s.fits prev st t l = true := by
            simp only [SM.fits, hok, Bool.true_and, Bool.and_eq_true, decide_eq_true_eq]
            exact ⟨by assumption, hp⟩
          rw [if_pos hfit] at hr
          dsimp only at hr
          have henc : ∀ wa, Kp X2 w2 wa → Ct Tryz.prog 91 #[(recA prev st t l).v nil0 (.slice ab an ac) nil0 nil0 nil0 nil0] wa (out F wa) nX fun v wb w' =>
              if (0 : Nat) ≠ 0 then v = .tuple #[.slice none 0 0, I (0 : Nat)] else ∃ vb, v = .tuple #[vb, I 0] ∧ Own w' (made wb w') wb.heap.size 5 1 vb ((encA (recA prev st t l)).map U1) := fun wa hk9 => by
            have hwa : Sl wa (out F wa) 4 (.slice ab an ac) (l.map KV.l) := hw0.mv fun k hk' hl' => ⟨⟨Nat.lt_of_lt_of_le hk'.1 (Nat.le_trans hT2.s.kp.size hk9.size), hk'.2⟩, (hk9.block k (hT2.s.sub k hk')).trans (hT2.s.kp.block k hk')⟩
            refine (d_recs_EncodeA (r := recA prev st t l) ⟨Sl.nil _ _ _, hwa, Sl.nil _ _ _, Sl.nil _ _ _, Rws.nil _ _ _, Rws.nil _ _ _⟩ ?_ rfl (fun _ => ⟨hl, hkl, hen⟩)).mono fun v wb w' _ hq => ?_
            · exact ⟨by simp [recA], by simp [recA]; omega, by simp [recA], fun x hx => by have := hkl x hx; omega, ⟨by simp [recA, State.zero, HSmall], by simp [recA, State.zero, PSmall], by simp [recA, State.zero, HKeys], by simp [recA, State.zero, PKeys]⟩⟩
            · rw [recA_err hok, if_neg (by simp)] at hq
              rw [if_neg (by simp)]
              exact hq
          refine hT2.call (d_sink_keep (r := recA prev st t l) (e := 0) h2 hL hsl (hT2.fx fun _ h => h) henc rfl rfl rfl rfl rfl rfl hlk hkd) (by kernel_rfl) (fun _ h => h) fun v wa3 w3 X3 hq3 hle3 hin3 hT3 hc3 => ?_
          obtain ⟨rfl, F3, hF3, h3⟩ := hq3
          generalize LD.keep ⟨L, m⟩ 0 (encA (recA prev st t l)) = kp at hr h3 ⊢
          have hT3' : Ft w0 F w3 X3 F3 := hT3.less hF3
          repeat' first | with_reducible (first | apply condW_T | apply condW_F) | (with_reducible apply r_eql <;> intro _) | ((with_reducible apply m_ext); (· rfl))
          · rename_i hz
            have hz0 : kp.2.2 = 0 := by omega
            rw [if_pos hz0] at hr
            refine hT3'.call (d_sink_applyS (l := l) h3 (hT3'.fx fun _ h => h) (S := out F w0) (hw0.mv fun k hk' _ => ⟨hk', hT3'.s.kp.block k hk'⟩) (fun k hk' => ⟨?_, ?_⟩) (by omega) hd) (by kernel_rfl) (fun _ h => h) fun v wa4 w4 X4 hq4 hle4 hin4 hT4 hc4 => ?_
            · exact hT3'.s.sub k hk'
            · exact fun hf => hT3'.no hf hk'
            obtain ⟨rfl, F4, hF4, h4⟩ := hq4
            have hT4' : Ft w0 F w4 X4 F4 := hT4.less hF4
            obtain ⟨FN4, FG4, mb4, av4, es4, hdj4, hN4, hG4, hs4, hg4⟩ := id h4
            have hb4 := hs4.box.mv (Mv.sub fun k hk' => hT4'.inX k (hN4 k hk'))
            rw [show (s.apply t st l).since = s.since from rfl] at hb4
            repeat' first | with_reducible apply r_nil | ((with_reducible apply m_fld1); (· exact qF); (· kernel_rfl); (· rfl); intro _ _ _) | ((with_reducible apply m_ld1); (· exact qF); (· exact qM); (· kernel_rfl); (· rfl)) | ((with_reducible apply r_add); (· omega); (· omega))
            refine m_stC (o := 2) hb4 (by omega) (by kernel_rfl) (by simp) rfl hT4'.s.has fun w5 X5 c5 hr5 => ?_
            have hT5 : Ft w0 F w5 X5 F4 := hT4'.chg c5 (fun k hk' => by subst hk'; exact hN4 _ hs4.box.1) fun k hk' => .inl hk'
            have h5 := Snk.setSince hdj4 hN4 hG4 hT4'.inX hs4 hg4 c5 (s.since + 1) hr5
            refine hK _ _ F4 hT5 ?_
            rw [← hr]
            exact h5
          · rename_i hz
            have hz0 : kp.2.2 ≠ 0 := by omega
            rw [if_neg hz0] at hr
            refine hK _ _ F3 hT3' ?_
            rw [← hr]
            exact h3
        all_goals exact hno (by simp [SM.fits, *])
      · repeat' first | with_reducible apply gE_T | (refine r_pure (c_hlc_Compare st s.high) (by kernel_rfl) hT1.s.has fun w2 X2 hs2 => ?_)
        exact hK1 _ _ hs2
end Go.Proofs.YtpdkoaklobnegaaGreat
namespace Go.Proofs.YtpdkoaklobnegaaGreat
open Go.Eng
set_option maxRecDepth 100000
set_option maxHeartbeats 1000000
set_option linter.unusedVariables false
set_option linter.unusedSimpArgs false
attribute [local irreducible] un jn chk fld ld1 ldA st1 ixS lnS lnT bld cvI cvF ixA bsS apS rdV rdW grdW eW eV eU eC eF gE condW fin pickN nilN binS vS lp0 lp1 lp2 lp3 lp4 lp5 lp6 lp7 nx0 nx1 nx2 nx3 nx4 nx5 nx6 nx7
def recB (st : Stamp) (l : List KV) : Rec := ⟨12, .zero, st, .zero, false, 0, 0, [], [], [], l, .zero⟩
theorem recB_err {st : Stamp} {l : List KV} (h : st.may = true) (hp : pairsOk l = true) : (recB st l).err = 0 := by
  simp [Rec.err, recB, Rec.strip, Rec.isZero, Rec.fieldsOk, h, hp, State.isZero, State.zero]
def SM.idle (s : SM) : Bool := decide (s.every = 0) || decide (s.since < s.every)
def tickS (s : SM) (x : LD) (K : Nat) : SM × LD :=
  if s.idle then (s, x) else
    let k := x.keep 0 (encBs (recB s.high s.list))
    if k.2.2 = 0 then ({ s with since := 0 }, (k.1.trim k.2.1 K).1) else (s, k.1)
theorem d_sink_Tick {w : World} {X F : XS} {nb lb db K : Nat} {s : SM} {L : LM} {m : DM} (h : Snk w F nb lb db s L m) (hL : LOK L) (hsl : L.segs.length ≤ 2 ^ 29) (hF : FX F X w) (hdn : s.down = false)
    (hsz : ∀ x ∈ s.pairs, x.1.size ≤ 2 ^ 16) (hlen : s.list.length ≤ 2 ^ 16) (hlp : s.pairs.length ≤ 2 ^ 16) (hlk' : ∀ x ∈ s.list, x.key.size ≤ 2 ^ 16) (hmay : s.high.may = true) (hpo : pairsOk s.list = true) (hen : (encBs (recB s.high s.list)).length ≤ 262144)
    (hlk : s.idle = false → LOK (LD.append ⟨L, m⟩ (encBs (recB s.high s.list))).1.L) (hkd : s.idle = false → (LD.keep ⟨L, m⟩ 0 (encBs (recB s.high s.list))).2.2 ≠ 12)
    (hlk2 : s.idle = false → LOK (LD.keep ⟨L, m⟩ 0 (encBs (recB s.high s.list))).1.L) (hK : s.idle = false → (LD.keep ⟨L, m⟩ 0 (encBs (recB s.high s.list))).1.L.segs.length ≤ K) (hK2 : K ≤ 2 ^ 40)
    (htr : s.idle = false → ((LD.keep ⟨L, m⟩ 0 (encBs (recB s.high s.list))).1.trim (LD.keep ⟨L, m⟩ 0 (encBs (recB s.high s.list))).2.1 K).2 ≠ 12) :
    Ct Tryz.prog 16 #[ptr nb 0] w X F fun v wa w' => ∃ F', v = I 0 ∧ (∀ k, F' k → F k ∨ made wa w' k) ∧
      Snk w' F' nb lb db (tickS s ⟨L, m⟩ K).1 (tickS s ⟨L, m⟩ K).2.L (tickS s ⟨L, m⟩ K).2.m := by
  intro w0 hk
  replace h := h.mv (hF.mv hk)
  have hT := hF.ft hk
  have hF0 : FX F (old w0) w0 := hF.kp hk
  generalize hr : tickS s ⟨L, m⟩ K = q
  unfold tickS at hr
  obtain ⟨FN, FG, mb, av, es, hdj, hN, hG, hs0, hg⟩ := id h
  have hb := hs0.box.mv (Mv.sub fun k hk' => hT.inX k (hN k hk'))
  rw [hdn] at hb
  refine ok_sink_Node_Tick (fun g hg => ?_) (fun ch w hh => by obtain ⟨v, he, _⟩ := hh; cases he) ?_
  · have e : defG Tryz.f16 = some 56 := by kernel_rfl
    rw [e] at hg; cases hg; exact idle_Tick
  unfold vc_sink_Node_Tick
  have hidle : s.idle = true → ∀ wa, Kp (old w0) w0 wa → ∃ F', I 0 = I 0 ∧ (∀ k, F' k → F k ∨ made w0 wa k) ∧ Snk wa F' nb lb db q.1 q.2.L q.2.m := fun hi wa hk9 => by
    rw [if_pos hi] at hr
    subst hr
    exact ⟨F, rfl, fun _ h => .inl h, h.mv (hk9.mvA hT.inX)⟩
  repeat' first | with_reducible (first | apply condW_T | apply condW_F | apply un_selF | apply un_selTF | apply grdV_onF | apply grdW_onF | apply grdW_offF | apply rdW_pickT | apply rdW_pickF | apply r_nil) | (with_reducible apply r_lss <;> intro _) | (with_reducible apply r_eql <;> intro _) | ((with_reducible apply m_fld1); (· exact qF); (· kernel_rfl); (· rfl); intro _ _ _) | ((with_reducible apply m_fld); (· exact qF); (· kernel_rfl); (· rfl); (· exact qN); intro _ _ _) | ((with_reducible apply m_ld1); (· exact qF); (· exact qM); (· kernel_rfl); (· rfl)) | ((with_reducible apply m_ldA); (· exact qF); (· exact qM); (· kernel_rfl); (· rfl)) | ((with_reducible apply chk_T); (· exact qC))
  · exact hT.fin (hidle (by simp [SM.idle, *]))
  · exact hT.fin (hidle (by simp [SM.idle, *]))
  have hi : s.idle = false := by simp [SM.idle, *]
  replace hlk := hlk hi; replace hkd := hkd hi; replace hlk2 := hlk2 hi; replace hK := hK hi; replace htr := htr hi
  rw [if_neg (by rw [hi]; simp)] at hr
  dsimp only at hr
  clear hidle
  refine r_ct0 (d_sink_Pairs hs0 (hT.fx hN) (fun x hx => by have := hsz x hx; omega) (by omega)) (by kernel_rfl) hT.s.has ?_
  rintro vp wa1 w1 X1 hop hle1 hin1 hs1
  have hT1 := hT.since hs1
  have h1 : Snk w1 F nb lb db s L m := h.mv (hs1.mvF hT.inX)
  have hop1 : Own w1 X1 w0.heap.size 74 4 vp (s.list.map KV.l) := hop.up hin1 hle1
  obtain ⟨pb, pn, pc, rfl⟩ := hop1.sl.form
  repeat' first | ((with_reducible apply un_cell); (· rfl)) | ((with_reducible apply r_bld); (· kernel_rfl))
  have henc : ∀ wa, Kp X1 w1 wa → Ct Tryz.prog 91 #[(recB s.high s.list).v nil0 nil0 nil0 (.slice pb pn pc) nil0 nil0] wa (out F wa) nX fun v wb w' =>
      if (0 : Nat) ≠ 0 then v = .tuple #[.slice none 0 0, I (0 : Nat)] else ∃ vb, v = .tuple #[vb, I 0] ∧ Own w' (made wb w') wb.heap.size 5 1 vb ((encBs (recB s.high s.list)).map U1) := fun wa hk9 => by
    have hwa : Sl wa (out F wa) 4 (.slice pb pn pc) (s.list.map KV.l) := (hop1.kp hk9).tight.sl.mono fun k hk' => ⟨hk'.2, fun hf => by
      have := (hF0 k hf).2; have := hk'.1; omega⟩
    refine (d_recs_EncodeB (r := recB s.high s.list) ⟨Sl.nil _ _ _, Sl.nil _ _ _, Sl.nil _ _ _, hwa, Rws.nil _ _ _, Rws.nil _ _ _⟩ ?_ rfl (fun _ => ⟨hlen, hlk', hen⟩)).mono fun v wb w' _ hq => ?_
    · exact ⟨by simp [recB], by simp [recB], by simp [recB], by simp [recB], ⟨by simp [recB, State.zero, HSmall], by simp [recB, State.zero, PSmall], by simp [recB, State.zero, HKeys], by simp [recB, State.zero, PKeys]⟩⟩
    · rw [recB_err hmay hpo, if_neg (by simp)] at hq
      rw [if_neg (by simp)]
      exact hq
  refine hT1.call (d_sink_keep (r := recB s.high s.list) (e := 0) h1 hL hsl (hT1.fx fun _ h => h) henc rfl rfl rfl rfl rfl rfl hlk hkd) (by kernel_rfl) (fun _ h => h) fun v wa3 w3 X3 hq3 hle3 hin3 hT3 hc3 => ?_
  obtain ⟨rfl, F3, hF3, h3⟩ := hq3
  generalize LD.keep ⟨L, m⟩ 0 (encBs (recB s.high s.list)) = kp at hr h3 hlk2 hK htr ⊢
  have hT3' : Ft w0 F w3 X3 F3 := hT3.less hF3
  obtain ⟨FN3, FG3, mb3, av3, es3, hdj3, hN3, hG3, hs3, hg3⟩ := id h3
  have hb3 := hs3.box.mv (Mv.sub fun k hk' => hT3'.inX k (hN3 k hk'))
  repeat' first | with_reducible (first | apply condW_T | apply condW_F | apply r_nil) | (with_reducible apply r_eql <;> intro _) | ((with_reducible apply m_fld1); (· exact qF); (· kernel_rfl); (· rfl); intro _ _ _) | ((with_reducible apply m_ext); (· rfl)) | ((with_reducible apply chk_T); (· exact qC)) | with_reducible apply jn_of
  · rename_i hz
    have hz0 : kp.2.2 = 0 := by omega
    rw [if_pos hz0] at hr
    refine m_stC (o := 2) hb3 (by omega) (by kernel_rfl) (by simp) rfl hT3'.s.has fun w5 X5 c5 hr5 => ?_
    have hT5 : Ft w0 F w5 X5 F3 := hT3'.chg c5 (fun k hk' => by subst hk'; exact hN3 _ hs3.box.1) fun k hk' => .inl hk'
    have h5 := Snk.setSince hdj3 hN3 hG3 hT3'.inX hs3 hg3 c5 0 hr5
    obtain ⟨FN5, FG5, mb5, av5, es5, hdj5, hN5, hG5, hs5, hg5⟩ := id h5
    have hb5 := hs5.box.mv (Mv.sub fun k hk' => hT5.inX k (hN5 k hk'))
    have hFG5 : FX FG5 X5 w5 := hT5.fx hG5
    repeat' first | with_reducible apply r_nil | ((with_reducible apply m_fld1); (· exact qF); (· kernel_rfl); (· rfl); intro _ _ _) | ((with_reducible apply m_ld1); (· exact qF); (· exact qM); (· kernel_rfl); (· rfl))
    refine hT5.call (d_wal_Trim (below := kp.2.1) hg5 hlk2 hK (by omega) hFG5) (by kernel_rfl) hG5 fun v wa6 w6 X6 hq6 hle6 hin6 hT6 hc6 => ?_
    obtain ⟨rfl, FG6, hFG6, hg6⟩ := hq6
    have ekp : kp.1 = ⟨kp.1.L, kp.1.m⟩ := rfl
    rw [ekp] at hr htr
    generalize LD.trim ⟨kp.1.L, kp.1.m⟩ kp.2.1 K = tr at hr htr hg6 ⊢
    have hs6 : SkL w6 FN5 nb lb mb5 av5 es5 { s with since := 0 } := hs5.mv (hc6.mvA fun k hk' => ⟨hT5.inX k (hN5 k hk'), fun hf => hdj5 k hk' hf⟩)
    have hdj6 : Dj FN5 FG6 := fun k a b => (hFG6 k b).elim (hdj5 k a) fun hm => by
      have := (hT5.fx hN5 k a).2; have := hm.1; omega
    have hN6 : ∀ k, FN5 k → F3 k ∨ made wa6 w6 k := fun k hk' => .inl (hN5 k hk')
    have hG6 : ∀ k, FG6 k → F3 k ∨ made wa6 w6 k := fun k hk' => (hFG6 k hk').imp (hG5 k) id
    have h6 : Snk w6 (fun k => F3 k ∨ made wa6 w6 k) nb lb db { s with since := 0 } tr.1.L tr.1.m := ⟨FN5, FG6, mb5, av5, es5, hdj6, hN6, hG6, hs6, hg6⟩
    repeat' first | (refine r_pure (c_sink_fall (e := (tr.2 : Int)) (by omega)) (by kernel_rfl) hT6.s.has fun w7 X7 hs7 => ?_)
    have hT7 := hT6.since hs7
    refine hT7.fin fun wa hk9 => ⟨_, rfl, hT7.grew hk9 fun _ h => h, ?_⟩
    rw [← hr]
    exact (h6.mv (hs7.mvF hT6.inX)).mv (hk9.mvA hT7.inX)
  · rename_i hz
    have hz0 : kp.2.2 ≠ 0 := by omega
    rw [if_neg hz0] at hr
    refine hT3'.fin fun wa hk9 => ⟨F3, rfl, hT3'.grew hk9 fun _ h => h, ?_⟩
    rw [← hr]
    exact h3.mv (hk9.mvA hT3'.inX)
end Go.Proofs.YtpdkoaklobnegaaGreat
namespace Go.Proofs.YtpdkoaklobnegaaGreat
open Go.Eng
set_option maxRecDepth 100000
set_option maxHeartbeats 1000000
set_option linter.unusedVariables false
set_option linter.unusedSimpArgs false
attribute [local irreducible] un jn chk fld ld1 ldA st1 ixS lnS lnT bld cvI cvF ixA bsS apS rdV rdW grdW eW eV eU eC eF gE condW fin pickN nilN binS vS lp0 lp1 lp2 lp3 lp4 lp5 lp6 lp7 nx0 nx1 nx2 nx3 nx4 nx5 nx6 nx7
def L0 (dir : ByteArray) (sz : Nat) : LM := ⟨dir, sz, [], 0⟩
theorem d_wal_Open0 {w : World} {X F : XS} {db sz : Nat} {dir : ByteArray} {m : DM} (h : Dk w F db m) (hF : FX F X w) (hfs : m.fs = []) (hdn : m.dn = false) (h1 : 1 ≤ dir.size) (h2 : dir.size ≤ 11) (hs1 : 64 ≤ sz) (hs2 : sz ≤ 262144)
    (hr : (LD.roll ⟨L0 dir sz, m⟩ 1).2 = 0) :
    Ct Tryz.prog 41 #[ptr db 0, .string dir, I sz] w X F fun v wa w' => ∃ lb F', v = .tuple #[ptr lb 0, I 0] ∧ (∀ k, F' k → F k ∨ made wa w' k) ∧ Lg w' F' lb db (LD.roll ⟨L0 dir sz, m⟩ 1).1.L (LD.roll ⟨L0 dir sz, m⟩ 1).1.m := by
  intro w0 hk
  replace h := h.mv (hF.mv hk)
  have hT := hF.ft hk
  have hF0 : FX F (old w0) w0 := hF.kp hk
  apply ok_wal_Open; unfold vc_wal_Open
  refine r_ct0 (d_wal_Name (n := 1) h1 h2 (by omega) (by omega)) (by kernel_rfl) hT.s.has ?_
  rintro _ wa1 w1 X1 rfl hle1 hin1 hs1'
  replace hT := hT.since hs1'
  replace h := h.mv (hs1'.mvF fun k hk' => (hF0 k hk').1)
  repeat' first | ((with_reducible refine r_lssF ?_ ?_); (· omega)) | ((with_reducible refine r_neqF ?_ ?_); (· omega)) | ((with_reducible refine r_gtrF ?_ ?_); (· omega)) | with_reducible (first | apply condW_F | apply un_selF | apply grdV_onF | apply rdW_pickF) | ((with_reducible apply m_ext); (· rfl))
  refine r_ct0V (d_disk_Down h (hT.fx fun _ h => h)) (by kernel_rfl) hT.s.has fun w2 X2 hs2' => ?_
  replace h := h.mv (hs2'.mvF hT.inX)
  replace hT := hT.since hs2'
  rw [hdn]
  repeat' first | with_reducible apply condW_F | ((with_reducible apply r_bld); (· kernel_rfl))
  refine m_boxA hT.s.has fun lb w3 X3 hlb hs3 hrow => ?_
  have h3 := h.mv (hs3.mvF hT.inX)
  have hT3 := hT.since hs3
  have hFl : ∀ k, F k → k < w2.heap.size := fun k hk' => hT.s.has k (hT.inX k hk')
  have hT3' : Ft w0 F w3 X3 (fun k => F k ∨ k = lb) := hT3.more fun k hk' => hk'.imp id fun e => by
    subst e
    have := hT.s.kp.size
    exact ⟨hrow.1, by omega⟩
  have g3 : Lg w3 (fun k => F k ∨ k = lb) lb db (L0 dir sz) m :=
    ⟨(· = lb), F, .slice none 0 0, [], fun k a b => by have := hFl k b; omega, fun _ h => .inr h, fun _ h => .inl h,
      ⟨rfl, ⟨rfl, hrow.2⟩, ⟨by simp, .inl ⟨rfl, rfl⟩⟩, by simp, by simp, by simp, List.Pairwise.nil⟩, h3⟩
  refine r_ct0 (d_disk_List h3 (hT3.fx fun _ h => h) (by simp [hfs]) (by simp [hfs])) (by kernel_rfl) hT3.s.has ?_
  rintro vl wa4 w4 X4 hol hle4 hin4 hs4
  rw [show (sortB (m.fs.map (·.1))).map S1 = ([] : List ByteArray).map S1 from by rw [hfs]; simp [sortB]] at hol
  have hsl := hol.sl
  repeat' first | ((with_reducible apply m_lnS); (· exact qO); (· kernel_rfl))
  refine lp1_of (fun n a w X => a = I 0 ∧ Ft w0 F w X (fun k => F k ∨ k = lb) ∧ Lg w (fun k => F k ∨ k = lb) lb db (L0 dir sz) m) 0 ⟨rfl, hT3'.since hs4, g3.mv (hs4.mvF hT3'.inX)⟩ ?_
  clear hT hT3 hT3' g3 h3 h hrow
  rintro n a w5 X5 ⟨rfl, hT5, g5⟩
  obtain ⟨FL, FD, sv, bl, hdj, hL, hD, hl, hd⟩ := id g5
  have hbl : bl = [] := by have := hl.segs; cases bl with
    | nil => rfl
    | cons x y => simp [L0] at this
  subst hbl
  have hb5 := hl.box.mv (Mv.sub fun k hk' => hT5.inX k (hL k hk'))
  have hsv := hl.so.sl
  repeat' first | ((with_reducible refine r_eqlT ?_ ?_); (· omega)) | with_reducible (first | apply condW_T | apply condW_F | apply r_nil) | (with_reducible apply r_lss <;> intro _) | ((with_reducible apply m_fld1); (· exact qF); (· kernel_rfl); (· rfl); intro _ _ _) | ((with_reducible apply m_ld1); (· exact qF); (· exact qM); (· kernel_rfl); (· rfl)) | ((with_reducible apply m_lnS); (· exact qO); (· kernel_rfl)) | with_reducible apply jn_of | (exfalso; rename_i h; simp at h; done)
  refine hT5.call (d_wal_roll (n := 1) g5 h2 (by omega) (by simp [L0]) (hT5.fx fun _ h => h)) (by kernel_rfl) (fun _ h => h) fun v wa6 w6 X6 hq6 hle6 hin6 hT6 hc6 => ?_
  obtain ⟨rfl, F6, hF6, h6⟩ := hq6
  have hT6' : Ft w0 F w6 X6 F6 := hT6.less hF6
  rw [hr]
  repeat' first | ((with_reducible refine r_neqF ?_ ?_); (· omega)) | with_reducible apply condW_F
  exact hT6'.fin fun wa hk9 => ⟨lb, F6, rfl, hT6'.grew hk9 fun _ h => h, h6.mv (hk9.mvA hT6'.inX)⟩
def SM0 (every : Int) : SM := ⟨every, 0, false, [], .zero, []⟩
theorem roll_L0 {dir : ByteArray} {sz : Nat} {m : DM} (hr : (LD.roll ⟨L0 dir sz, m⟩ 1).2 = 0) : (LD.roll ⟨L0 dir sz, m⟩ 1).1.L = ⟨dir, sz, [⟨1, [], 0⟩], 0⟩ := by
  unfold LD.roll at *
  dsimp only at *
  rw [if_pos hr]
  rfl
theorem d_sink_Open0 {w : World} {X F : XS} {db sz : Nat} {every : Int} {m : DM} (h : Dk w F db m) (hF : FX F X w) (hfs : m.fs = []) (hdn : m.dn = false) (hs1 : 64 ≤ sz) (hs2 : sz ≤ 262144) (he1 : 0 ≤ every) (he2 : every ≤ 1000)
    (hr : (LD.roll ⟨L0 ⟨#[115, 105, 110, 107]⟩ sz, m⟩ 1).2 = 0) :
    Ct Tryz.prog 12 #[ptr db 0, I sz, I every] w X F fun v wa w' => ∃ nb lb F', v = .tuple #[ptr nb 0, I 0] ∧ (∀ k, F' k → F k ∨ made wa w' k) ∧
      Snk w' F' nb lb db (SM0 every) (LD.roll ⟨L0 ⟨#[115, 105, 110, 107]⟩ sz, m⟩ 1).1.L (LD.roll ⟨L0 ⟨#[115, 105, 110, 107]⟩ sz, m⟩ 1).1.m := by
  intro w0 hk
  replace h := h.mv (hF.mv hk)
  have hT := hF.ft hk
  have hF0 : FX F (old w0) w0 := hF.kp hk
  have hLL := roll_L0 hr
  apply ok_sink_Open; unfold vc_sink_Open
  repeat' first | ((with_reducible refine r_lssF ?_ ?_); (· omega)) | ((with_reducible refine r_gtrF ?_ ?_); (· omega)) | with_reducible (first | apply condW_F | apply un_selF | apply grdV_onF | apply rdW_pickF)
  refine hT.call (d_wal_Open0 h (hT.fx fun _ h => h) hfs hdn (by decide) (by decide) hs1 hs2 hr) (by kernel_rfl) (fun _ h => h) fun v wa1 w1 X1 hq1 hle1 hin1 hT1 hc1 => ?_
  obtain ⟨lb, F1, rfl, hF1, g1⟩ := hq1
  replace hT1 : Ft w0 F w1 X1 F1 := hT1.less hF1
  repeat' first | ((with_reducible refine r_neqF ?_ ?_); (· omega)) | with_reducible apply condW_F | ((with_reducible apply m_ext); (· rfl))
  refine m_makeMap (kv := Value.string) rdVal nX hT1.s.has fun mb w2 X2 hmb hs2' hm2 => ?_
  have hT2 := hT1.since hs2'
  have g2 := g1.mv (hs2'.mvF hT1.inX)
  repeat' first | ((with_reducible apply r_bld); (· kernel_rfl))
  refine m_boxA hT2.s.has fun nb w3 X3 hnb hs3 hrow => ?_
  have hT3 := hT2.since hs3
  have g3 := g2.mv (hs3.mvF hT2.inX)
  have hFl : ∀ k, F1 k → k < w1.heap.size := fun k hk' => hT1.s.has k (hT1.inX k hk')
  have hm3 := hm2.mv rdVal_mv hs3.mv (fun _ h => h.elim) (A' := nX)
  have hLK : LOK ⟨⟨#[115, 105, 110, 107]⟩, sz, [⟨1, [], 0⟩], 0⟩ := ⟨by simp, (show 1 ≤ ByteArray.size ⟨#[115, 105, 110, 107]⟩ from by decide), (show ByteArray.size ⟨#[115, 105, 110, 107]⟩ ≤ 11 from by decide), by simp, by simp; omega⟩
  have hnx : LM.next ⟨⟨#[115, 105, 110, 107]⟩, sz, [⟨1, [], 0⟩], 0⟩ = 1 := rfl
  have hz1 := hT1.s.kp.size
  have hz2 := hs2'.kp.size
  have hz3 := hs3.kp.size
  have hmX : X3 mb ∧ mb < w2.heap.size := ⟨hs3.sub mb hm2.x.1, hm2.x.2⟩
  have hT3' : Ft w0 F w3 X3 (fun k => F1 k ∨ k = nb ∨ k = mb) := hT3.more fun k hk' => hk'.imp id fun e => by
    rcases e with e | e <;> subst e
    · exact ⟨hrow.1, by omega⟩
    · exact ⟨hmX.1, by omega⟩
  rw [hLL] at g3
  have h3 : Snk w3 (fun k => F1 k ∨ k = nb ∨ k = mb) nb lb db (SM0 every) ⟨⟨#[115, 105, 110, 107]⟩, sz, [⟨1, [], 0⟩], 0⟩ (LD.roll ⟨L0 ⟨#[115, 105, 110, 107]⟩ sz, m⟩ 1).1.m := by
    refine ⟨fun k => k = nb ∨ k = mb, F1, mb, .slice none 0 0, [], fun k a b => ?_, fun _ h => .inr h, fun _ h => .inl h, ⟨rfl, ⟨.inl rfl, hrow.2⟩, ?_, ⟨by simp, .inl ⟨rfl, rfl⟩⟩, by simp⟩, g3⟩
    · have := hFl k b
      rcases a with a | a <;> omega
    · obtain ⟨e, c', q1, q2⟩ := hm3
      exact ⟨e, c', ⟨.inr rfl, q1.2⟩, q2⟩
  clear hm3 hm2 hrow g3 g2 g1 hT3 hT2 hT1 hT h
  obtain ⟨FL, FD, sv, bl, hW⟩ := (show Lg w3 (fun k => F1 k ∨ k = nb ∨ k = mb) lb db _ _ from let ⟨_, _, _, _, _, _, _, hG, _, g⟩ := h3; g.mono hG).lw
  refine r_ct0V (d_wal_First hW.l rfl (hT3'.fx hW.hL)) (by kernel_rfl) hT3'.s.has fun w4 X4 hs4 => ?_
  have hT4 := hT3'.since hs4
  have h4 := h3.mv (hs4.mvF hT3'.inX)
  replace hW := hW.mv (hs4.mvF hT3'.inX)
  rw [show (((⟨1, [], 0⟩ : SegM).first : Nat) : Int) = 1 from rfl]
  repeat' first | ((with_reducible refine r_eqlT ?_ ?_); (· omega))
  refine r_ct0V (d_wal_First hW.l rfl (hT4.fx hW.hL)) (by kernel_rfl) hT4.s.has fun w5 X5 hs5 => ?_
  have hT5 := hT4.since hs5
  have h5 := h4.mv (hs5.mvF hT4.inX)
  replace hW := hW.mv (hs5.mvF hT4.inX)
  rw [show (((⟨1, [], 0⟩ : SegM).first : Nat) : Int) = 1 from rfl]
  refine lp2_of (fun n a b w X => a = I 1 ∧ b = B true ∧ Ft w0 F w X (fun k => F1 k ∨ k = nb ∨ k = mb) ∧ Snk w (fun k => F1 k ∨ k = nb ∨ k = mb) nb lb db (SM0 every) ⟨⟨#[115, 105, 110, 107]⟩, sz, [⟨1, [], 0⟩], 0⟩ (LD.roll ⟨L0 ⟨#[115, 105, 110, 107]⟩ sz, m⟩ 1).1.m ∧
    LW w (fun k => F1 k ∨ k = nb ∨ k = mb) lb db ⟨⟨#[115, 105, 110, 107]⟩, sz, [⟨1, [], 0⟩], 0⟩ (LD.roll ⟨L0 ⟨#[115, 105, 110, 107]⟩ sz, m⟩ 1).1.m FL FD sv bl) 0 ⟨rfl, rfl, hT5, h5, hW⟩ ?_
  clear hT5 h5 hW hT4 h4 hT3' h3
  rintro n a b w6 X6 ⟨rfl, rfl, hT6, h6, hW⟩
  refine r_ct0V (d_wal_Next hW.l hLK (hT6.fx hW.hL)) (by kernel_rfl) hT6.s.has fun w7 X7 hs7 => ?_
  have hT7 := hT6.since hs7
  have h7 := h6.mv (hs7.mvF hT6.inX)
  rw [hnx]
  repeat' first | ((with_reducible refine r_lssF ?_ ?_); (· omega)) | with_reducible (first | apply condW_F | apply r_notT)
  refine hT7.fin fun wa hk9 => ⟨nb, lb, _, rfl, hT7.grew hk9 fun _ h => h, ?_⟩
  rw [hLL]
  exact h7.mv (hk9.mvA hT7.inX)
end Go.Proofs.YtpdkoaklobnegaaGreat
namespace Go.Proofs.YtpdkoaklobnegaaGreat
open Go.Eng
set_option maxRecDepth 100000
set_option maxHeartbeats 1000000
set_option linter.unusedVariables false
set_option linter.unusedSimpArgs false
attribute [local irreducible] un jn chk fld ld1 ldA st1 ixS lnS lnT bld cvI cvF ixA bsS apS rdV rdW grdW eW eV eU eC eF gE condW fin pickN nilN binS vS lp0 lp1 lp2 lp3 lp4 lp5 lp6 lp7 nx0 nx1 nx2 nx3 nx4 nx5 nx6 nx7
def fewN (n more most : Int) : Int := if more > most ∨ n > most then most + 1 else n + more
theorem c_raceref_few {n more most : Int} (h1 : 0 ≤ n ∧ n ≤ 2 ^ 40) (h2 : 0 ≤ more ∧ more ≤ 2 ^ 42) (h3 : 0 ≤ most ∧ most ≤ 2 ^ 40) : Pure Tryz.prog 40 #[I n, I more, I most] (I (fewN n more most)) := by
  intro w
  apply ok_raceref_few; unfold vc_raceref_few
  have hs := Since.init w
  repeat' first | with_reducible (first | apply condW_T | apply condW_F | apply un_selF | apply un_selTF | apply grdV_onF | apply grdW_offF | apply rdW_pickT | apply rdW_pickF) | (with_reducible apply r_gtr <;> intro _) | ((with_reducible apply r_add); (· omega); (· omega)) | ((with_reducible refine fin_pure hs ?_); (first | (simp_all [fewN]; done) | (simp only [fewN]; rw [if_neg (by omega)]) | (simp only [fewN]; rw [if_pos (by omega)])))
def wsum (l : List KV) : Nat := (l.map fun x => 1 + x.key.size + x.val.text.size).sum
def prevN (n : Int) : Stamp := if n > 0 then ⟨n, 0, 1⟩ else .zero
theorem d_law_apply {w : World} {X : XS} {prev n : Int} {key : ByteArray} : Ct Tryz.prog 13 #[I prev, I n, .string key] w X nX fun v wa w' => ∃ a, v = MA 12 31 32 (prevN prev) ⟨n, 0, 1⟩ ⟨1, 1, n⟩ a ∧
    Own w' (made wa w') wa.heap.size 53 4 a ([(⟨key, ⟨1, 4607182418800017408, ⟨#[]⟩⟩⟩ : KV)].map KV.l) := by
  intro w0 hk
  apply ok_racelaw22_apply; unfold vc_racelaw22_apply
  have hs := Since.init w0
  repeat' first | with_reducible (first | apply condW_T | apply condW_F) | ((with_reducible apply un_cell); (· rfl)) | ((with_reducible apply m_sub); (· exact qN)) | ((with_reducible apply m_set); (· exact qN)) | with_reducible apply un_box | (with_reducible apply r_gtr <;> intro _) | ((with_reducible apply r_bld); (· kernel_rfl)) | ((with_reducible apply m_chkc); (case h => exact qE)) | ((with_reducible apply chk_T); (· exact qC)) | ((with_reducible apply m_bs1); (case hX => exact hs.has); (case he => kernel_rfl); (case hk => rfl); intro acc w X hs1 ho; obtain ⟨_, _, _, rfl⟩ := ho.sl.form; replace hs := hs.trans hs1) | with_reducible apply jn_of
  · refine fin_ret0 hs fun wa hk9 => ⟨_, ?_, (ho.kp hk9).tight⟩
    rw [prevN, if_pos (by assumption)]
  · refine fin_ret0 hs fun wa hk9 => ⟨_, ?_, (ho.kp hk9).tight⟩
    rw [prevN, if_neg (by assumption)]
end Go.Proofs.YtpdkoaklobnegaaGreat
namespace Go.Proofs.YtpdkoaklobnegaaGreat
open Go.Eng
def DM.ks (m : DM) : List ByteArray := m.fs.map (·.1)
theorem DM.get_some {m : DM} {n : ByteArray} : (m.get n).isSome = true ↔ n ∈ m.ks := by
  have h := getM_none (k := n) (l := m.fs)
  show (getM n m.fs).isSome = true ↔ n ∈ m.fs.map (·.1)
  cases hg : getM n m.fs with
  | none => simpa using h.1 hg
  | some x =>
    simp only [Option.isSome_some, true_iff]
    rcases Classical.em (n ∈ m.fs.map (·.1)) with h' | h'
    · exact h'
    · have := h.2 h'; rw [hg] at this; cases this
theorem DM.ks_len (m : DM) : m.ks.length = m.fs.length := by simp [DM.ks]
theorem sumM_del_le {α κ : Type} [DecidableEq κ] (f : α → Nat) (k : κ) : ∀ l : List (κ × α), sumM f (delM k l) ≤ sumM f l
  | [] => Nat.le_refl _
  | x :: l => by
    have ih := sumM_del_le f k l
    unfold delM at *
    rw [List.filter_cons]
    split
    · simp only [sumM, List.map_cons, List.sum_cons] at ih ⊢; omega
    · simp only [sumM, List.map_cons, List.sum_cons] at ih ⊢; omega
structure MOk (m : DM) : Prop where
  ar : m.ar = 0
  dn : m.dn = false
theorem MOk.tick {m : DM} (h : MOk m) : MOk m.tick := by
  unfold DM.tick
  rw [if_neg (by rw [h.ar]; decide)]
  exact ⟨by simp [h.ar], h.dn⟩
theorem MOk.write {m : DM} (h : MOk m) (f : DM → DM) : m.write 0 f = (f m.tick, 0) := by
  unfold DM.write
  rw [if_neg (by rw [h.dn]; simp), if_neg (by simp), if_neg (by rw [h.tick.dn]; simp)]
theorem MOk.writeE {m : DM} (h : MOk m) {e : Nat} (he : e ≠ 0) (f : DM → DM) : m.write e f = (m, e) := by
  unfold DM.write
  rw [if_neg (by rw [h.dn]; simp), if_pos he]
theorem MOk.create {m : DM} (h : MOk m) {n : ByteArray} (hn : nameOk n = true) (hk : ¬ n ∈ m.ks) :
    (64 ≤ m.fs.length ∧ m.create n = (m, 3)) ∨ (m.fs.length < 64 ∧ (m.create n).2 = 0 ∧ MOk (m.create n).1 ∧ (m.create n).1.ks = m.ks ++ [n] ∧ (m.create n).1.sz = m.sz) := by
  have hg : ¬ (m.get n).isSome = true := fun e => hk (DM.get_some.1 e)
  unfold DM.create
  rw [if_neg (by simp [hn]), if_neg hg]
  by_cases hl : 64 ≤ m.fs.length
  · left
    rw [if_pos hl]
    exact ⟨hl, h.writeE (by decide) _⟩
  · right
    rw [if_neg hl, h.write]
    refine ⟨by omega, rfl, ⟨h.tick.ar, h.tick.dn⟩, ?_, ?_⟩
    · show (putM n ([], 0) m.tick.fs).map (·.1) = _
      rw [putM_keys, m.tick_fs, if_neg (show ¬ (getM n m.fs).isSome = true from hg)]; rfl
    · have : m.tick.get n = none := by rw [m.tick_get]; simpa using hg
      rw [DM.put_new this, m.tick_sz]; simp
theorem MOk.append {m : DM} (h : MOk m) {n : ByteArray} {b : List Nat} (hk : n ∈ m.ks) (hsz : m.sz + b.length ≤ 4194304) :
    (m.append n b).2 = 0 ∧ MOk (m.append n b).1 ∧ (m.append n b).1.ks = m.ks ∧ (m.append n b).1.sz = m.sz + b.length := by
  have hg := DM.get_some.2 hk
  unfold DM.append
  rw [if_neg (by rw [h.dn]; simp)]
  cases hx : m.get n with
  | none => rw [hx] at hg; cases hg
  | some x =>
    obtain ⟨bs, s⟩ := x
    dsimp only
    rw [if_neg (by omega)]
    refine ⟨by rw [if_neg (by rw [h.tick.dn]; simp)], ⟨h.tick.ar, h.tick.dn⟩, ?_, ?_⟩
    · show (putM n (bs ++ b, s) m.tick.fs).map (·.1) = _
      rw [putM_keys, m.tick_fs, if_pos (show (getM n m.fs).isSome = true from hg)]; rfl
    · have : m.tick.get n = some (bs, s) := by rw [m.tick_get]; exact hx
      have := DM.put_sz (bs := bs ++ b) (s' := s) this
      rw [m.tick_sz, List.length_append] at this
      dsimp only
      omega
theorem MOk.sync {m : DM} (h : MOk m) {n : ByteArray} (hk : n ∈ m.ks) : (m.sync n).2 = 0 ∧ MOk (m.sync n).1 ∧ (m.sync n).1.ks = m.ks ∧ (m.sync n).1.sz = m.sz := by
  have hg := DM.get_some.2 hk
  unfold DM.sync
  rw [if_pos hg, h.write]
  have hgt : (m.tick.get n).isSome = true := by rw [m.tick_get]; exact hg
  refine ⟨rfl, ?_, ?_, by dsimp only; rw [DM.syncF_sz, m.tick_sz]⟩
  · unfold DM.syncF; dsimp only; split
    · exact h.tick
    · exact ⟨h.tick.ar, h.tick.dn⟩
  · unfold DM.syncF; dsimp only; split
    · unfold DM.ks; rw [m.tick_fs]
    · rename_i x hx
      show (putM n _ m.tick.fs).map (·.1) = _
      rw [putM_keys, m.tick_fs, if_pos (show (getM n m.fs).isSome = true from hg)]; rfl
theorem MOk.remove {m : DM} (h : MOk m) (n : ByteArray) : (m.remove n).2 ≠ 12 ∧ MOk (m.remove n).1 ∧ (m.remove n).1.sz ≤ m.sz ∧ (m.remove n).1.ks.length ≤ m.ks.length ∧
    ((m.remove n).2 = 0 → (m.remove n).1.ks = m.ks.filter fun k => decide (k ≠ n)) ∧ ((m.remove n).2 ≠ 0 → (m.remove n).1 = m) := by
  unfold DM.remove
  by_cases hg : (m.get n).isSome = true
  · rw [if_pos hg, h.write]
    have hks : (m.tick.del n).ks = m.ks.filter fun k => decide (k ≠ n) := by
      show (delM n m.tick.fs).map (·.1) = _
      rw [m.tick_fs]; unfold delM DM.ks; rw [List.filter_map]; rfl
    refine ⟨by simp, ⟨h.tick.ar, h.tick.dn⟩, ?_, ?_, fun _ => hks, fun e => absurd rfl e⟩
    · have := sumM_del_le (fun x : List Nat × Nat => x.1.length) n m.tick.fs
      rw [m.tick_fs] at this
      show sumM _ (delM n m.tick.fs) ≤ _
      rw [m.tick_fs]; exact this
    · dsimp only; rw [hks]; exact List.length_filter_le _ _
  · rw [if_neg hg, h.writeE (by decide)]
    exact ⟨by simp, h, Nat.le_refl _, Nat.le_refl _, fun e => by simp at e, fun _ => rfl⟩
theorem digN_inj : ∀ {k a b : Nat}, a < 10 ^ k → b < 10 ^ k → digN k a = digN k b → a = b
  | 0, a, b, ha, hb, _ => by omega
  | k + 1, a, b, ha, hb, h => by
    unfold digN at h
    obtain ⟨h1, h2⟩ := List.append_inj' h rfl
    have := digN_inj (k := k) (a := a / 10) (b := b / 10) (by rw [Nat.pow_succ] at ha; omega) (by rw [Nat.pow_succ] at hb; omega) h1
    simp at h2
    omega
theorem digN_lt : ∀ (k n : Nat), ∀ x ∈ digN k n, x < 256
  | 0, _, x, h => by cases h
  | k + 1, n, x, h => by
    unfold digN at h
    rcases List.mem_append.1 h with h | h
    · exact digN_lt k _ x h
    · simp at h; omega
theorem strB_inj {a b : List Nat} (ha : ∀ x ∈ a, x < 256) (hb : ∀ x ∈ b, x < 256) (h : strB a = strB b) : a = b := by
  unfold strB at h
  have h1 : (a.map UInt8.ofNat) = b.map UInt8.ofNat := by
    have := congrArg (fun x : ByteArray => x.data.toList) h
    simpa using this
  have h2 := congrArg (List.map UInt8.toNat) h1
  simp only [List.map_map] at h2
  have e : ∀ l : List Nat, (∀ x ∈ l, x < 256) → l.map (UInt8.toNat ∘ UInt8.ofNat) = l := fun l hl => by
    refine (List.map_congr_left fun x hx => ?_).trans (List.map_id l)
    have := hl x hx
    simp [UInt8.toNat_ofNat']; omega
  rwa [e a ha, e b hb] at h2
theorem fileN_inj {dir : ByteArray} {a b : Nat} (ha : a < 10 ^ 8) (hb : b < 10 ^ 8) (h : fileN dir a = fileN dir b) : a = b := by
  unfold fileN at h
  have h1 := congrArg (fun x : ByteArray => x.data.toList) h
  simp only [ByteArray.data_append, Array.toList_append] at h1
  have h2 := List.append_cancel_left h1
  refine digN_inj ha hb (strB_inj (digN_lt _ _) (digN_lt _ _) ?_)
  unfold strB at h2 ⊢
  simp only at h2
  congr 1
  exact Array.toList_inj.1 h2
end Go.Proofs.YtpdkoaklobnegaaGreat
namespace Go.Proofs.YtpdkoaklobnegaaGreat
open Go.Eng
structure LInv (B c n : Nat) (x : LD) : Prop where
  ok : MOk x.m
  ne : x.L.segs ≠ []
  d1 : 1 ≤ x.L.dir.size
  d2 : x.L.dir.size ≤ 11
  r1 : 1 ≤ x.L.room
  r2 : x.L.room ≤ 2 ^ 40
  keys : ∀ k ∈ x.m.ks, ∃ f ∈ x.L.segs.map (·.first), k = fileN x.L.dir f
  last : x.L.lastName ∈ x.m.ks
  pw : (x.L.segs.map (·.first)).Pairwise (· < ·)
  emp : x.L.last.recs = [] → x.L.last.size = 0
  pos : ∀ s ∈ x.L.segs, 1 ≤ s.first ∧ s.first ≤ 1 + c ∧ s.first + s.recs.length ≤ 1 + c ∧ s.size ≤ B * c
  nxt : x.L.next = 1 + c
  sz : x.m.sz ≤ B * c
  len : x.L.segs.length ≤ n
  cnt : x.m.ks.length ≤ 64
theorem LInv.lok {B c n : Nat} {x : LD} (h : LInv B c n x) (hb : B * c ≤ 2 ^ 30) (hc : c ≤ 2 ^ 30) : LOK x.L :=
  ⟨h.ne, h.d1, h.d2, fun s hs => by have := h.pos s hs; omega, h.r2⟩
structure Alike (x y : LD) : Prop where
  segs : y.L.segs = x.L.segs
  dir : y.L.dir = x.L.dir
  room : y.L.room = x.L.room
  ks : y.m.ks = x.m.ks
  sz : y.m.sz = x.m.sz
  ok : MOk y.m
theorem Alike.refl {x : LD} (h : MOk x.m) : Alike x x := ⟨rfl, rfl, rfl, rfl, rfl, h⟩
theorem Alike.trans {x y z : LD} (h : Alike x y) (k : Alike y z) : Alike x z := ⟨k.segs.trans h.segs, k.dir.trans h.dir, k.room.trans h.room, k.ks.trans h.ks, k.sz.trans h.sz, k.ok⟩
theorem Alike.last {x y : LD} (h : Alike x y) : y.L.last = x.L.last := by unfold LM.last; rw [h.segs]
theorem Alike.lastName {x y : LD} (h : Alike x y) : y.L.lastName = x.L.lastName := by unfold LM.lastName; rw [h.last, h.dir]
theorem Alike.next {x y : LD} (h : Alike x y) : y.L.next = x.L.next := by unfold LM.next; rw [h.last]
theorem Alike.inv {B c n : Nat} {x y : LD} (h : Alike x y) (k : LInv B c n x) : LInv B c n y := by
  refine ⟨h.ok, by rw [h.segs]; exact k.ne, by rw [h.dir]; exact k.d1, by rw [h.dir]; exact k.d2, by rw [h.room]; exact k.r1, by rw [h.room]; exact k.r2, ?_, ?_, by rw [h.segs]; exact k.pw, ?_, ?_, ?_, ?_, ?_, by rw [h.ks]; exact k.cnt⟩
  · rw [h.ks, h.segs, h.dir]; exact k.keys
  · rw [h.ks, h.lastName]; exact k.last
  · rw [h.last]; exact k.emp
  · rw [h.segs]; exact k.pos
  · rw [h.next]; exact k.nxt
  · rw [h.sz]; exact k.sz
  · rw [h.segs]; exact k.len
theorem LInv.sync {B c n : Nat} {x : LD} (h : LInv B c n x) : x.sync.2 = 0 ∧ Alike x x.sync.1 := by
  obtain ⟨h1, h2, h3, h4⟩ := h.ok.sync h.last
  unfold LD.sync
  dsimp only
  rw [if_pos h1]
  exact ⟨h1, ⟨rfl, rfl, rfl, h3, h4, h2⟩⟩
def Full (x : LD) : Prop := 64 ≤ x.m.ks.length ∧ x.L.room ≤ x.L.last.size
theorem Alike.full {x y : LD} (h : Alike x y) (k : Full x) : Full y := by unfold Full; rw [h.ks, h.room, h.last]; exact k
theorem LInv.le_last {B c n : Nat} {x : LD} (h : LInv B c n x) {f : Nat} (hf : f ∈ x.L.segs.map (·.first)) : f ≤ x.L.last.first := by
  have h1 := h.pw
  rw [LM.last_eq h.ne, List.map_append] at h1 hf
  obtain ⟨_, _, h2⟩ := List.pairwise_append.1 h1
  rcases List.mem_append.1 hf with hf | hf
  · exact Nat.le_of_lt (h2 f hf _ (by simp))
  · simp at hf; omega
theorem LInv.le_next {B c n : Nat} {x : LD} (h : LInv B c n x) {f : Nat} (hf : f ∈ x.L.segs.map (·.first)) : f ≤ 1 + c := by
  obtain ⟨s, hs, rfl⟩ := List.mem_map.1 hf
  exact (h.pos s hs).2.1
theorem LInv.roll {B c n : Nat} {x : LD} (h : LInv B c n x) (hr : x.L.last.recs ≠ []) (hc2 : c + 2 < 99999999) :
    (64 ≤ x.m.ks.length ∧ x.roll x.L.next = (x, 3)) ∨ (x.m.ks.length < 64 ∧ (x.roll x.L.next).2 = 0 ∧ LInv B c (n + 1) (x.roll x.L.next).1) := by
  have hl : 1 ≤ x.L.last.recs.length := by
    cases hq : x.L.last.recs with
    | nil => exact absurd hq hr
    | cons a b => simp
  have hnx := h.nxt
  have hnew : ¬ fileN x.L.dir x.L.next ∈ x.m.ks := fun hk => by
    obtain ⟨f, hf, e⟩ := h.keys _ hk
    have h1 := h.le_last hf
    have h2 := h.le_next hf
    have := fileN_inj (by omega) (by omega) e
    unfold LM.next at this; omega
  have hnm : nameOk (fileN x.L.dir x.L.next) = true := by
    have := h.d1; have := h.d2
    simp only [nameOk, fileN_size, decide_eq_true_eq]; omega
  rw [x.m.ks_len]
  rcases h.ok.create hnm hnew with ⟨h1, h2⟩ | ⟨h1, h2, h3, h4, h5⟩
  · left
    refine ⟨h1, ?_⟩
    unfold LD.roll
    rw [h2]; rfl
  · right
    refine ⟨h1, ?_⟩
    have hlast : (⟨x.L.dir, x.L.room, x.L.segs ++ [⟨x.L.next, [], 0⟩], x.L.safe⟩ : LM).last = ⟨x.L.next, [], 0⟩ := by simp [LM.last]
    unfold LD.roll
    dsimp only
    rw [if_pos h2]
    refine ⟨h2, ⟨h3, by simp, h.d1, h.d2, h.r1, h.r2, ?_, ?_, ?_, ?_, ?_, ?_, ?_, ?_, by dsimp only; rw [h4, List.length_append, x.m.ks_len]; simp; omega⟩⟩
    · rw [h4]
      intro k hk
      rcases List.mem_append.1 hk with hk | hk
      · obtain ⟨f, hf, e⟩ := h.keys k hk
        exact ⟨f, by rw [List.map_append]; exact List.mem_append_left _ hf, e⟩
      · simp at hk
        exact ⟨x.L.next, by simp, hk⟩
    · rw [h4]; unfold LM.lastName; rw [hlast]; simp
    · rw [List.map_append]
      refine List.pairwise_append.2 ⟨h.pw, by simp, fun a ha b hb => ?_⟩
      simp at hb; subst hb
      have := h.le_last ha
      unfold LM.next; omega
    · intro _; rw [hlast]
    · intro s hs
      rcases List.mem_append.1 hs with hs | hs
      · exact h.pos s hs
      · simp at hs; subst hs; simp; omega
    · show (⟨x.L.dir, x.L.room, x.L.segs ++ [⟨x.L.next, [], 0⟩], x.L.safe⟩ : LM).last.first + (⟨x.L.dir, x.L.room, x.L.segs ++ [⟨x.L.next, [], 0⟩], x.L.safe⟩ : LM).last.recs.length = 1 + c
      rw [hlast]; simpa using hnx
    · rw [h5]; exact h.sz
    · simp; exact h.len
theorem LInv.lay {B c n : Nat} {x : LD} {p : List Nat} (h : LInv B c n x) (hp : p.length + 12 ≤ B) (hc : B * (c + 1) ≤ 4194304) : (x.lay p).2 = 0 ∧ LInv B (c + 1) n (x.lay p).1 := by
  have hB : B * (c + 1) = B * c + B := Nat.mul_succ B c
  have hfl : (frameB p).length = p.length + 12 := by simp [frameB, le4]
  have hsz := h.sz
  obtain ⟨h1, h2, h3, h4⟩ := h.ok.append (b := frameB p) h.last (by omega)
  have hlm := LM.last_mem h.ne
  have hle := LM.last_eq h.ne
  obtain ⟨p1, p2, p3, p4⟩ := h.pos _ hlm
  have hlast : (x.L.add p).last = ⟨x.L.last.first, x.L.last.recs ++ [p], x.L.last.size + (frameB p).length⟩ := by simp [LM.last, LM.add]
  have hfi : (x.L.add p).segs.map (·.first) = x.L.segs.map (·.first) := by
    conv => rhs; rw [hle]
    simp [LM.add]
  unfold LD.lay
  dsimp only
  rw [if_pos h1]
  refine ⟨h1, ⟨h2, by simp [LM.add], h.d1, h.d2, h.r1, h.r2, ?_, ?_, ?_, ?_, ?_, ?_, ?_, ?_, by dsimp only; rw [h3]; exact h.cnt⟩⟩
  · dsimp only; rw [h3, hfi]; exact h.keys
  · dsimp only; rw [h3]; unfold LM.lastName; rw [hlast]; exact h.last
  · dsimp only; rw [hfi]; exact h.pw
  · dsimp only; rw [hlast]; intro e; simp at e
  · dsimp only
    intro s hs
    rcases List.mem_append.1 hs with hs | hs
    · have := h.pos s (by rw [hle]; exact List.mem_append_left _ hs)
      omega
    · simp only [List.mem_singleton] at hs; subst hs
      simp only [List.length_append, List.length_cons, List.length_nil, hfl]; omega
  · have := h.nxt
    dsimp only
    unfold LM.next at this ⊢; rw [hlast]; simp; omega
  · dsimp only; rw [h4]; omega
  · have := h.len
    rw [hle] at this
    simpa [LM.add] using this
theorem LInv.more {B c n n' : Nat} {x : LD} (h : LInv B c n x) (hn : n ≤ n') : LInv B c n' x := { h with len := Nat.le_trans h.len hn }
theorem LInv.recs {B c n : Nat} {x : LD} (h : LInv B c n x) (hr : x.L.room ≤ x.L.last.size) : x.L.last.recs ≠ [] := fun e => by
  have := h.emp e; have := h.r1; omega
theorem LInv.append {B c n : Nat} {x : LD} {p : List Nat} (h : LInv B c n x) (hp : p.length + 12 ≤ B) (hB : B ≤ 262144) (hc : B * (c + 1) ≤ 4194304) (hc2 : c + 2 < 99999999) :
    ((x.append p).2.2 = 0 ∧ (x.append p).2.1 = 1 + c ∧ LInv B (c + 1) (n + 1) (x.append p).1) ∨ ((x.append p).2.2 = 3 ∧ Full x ∧ Alike x (x.append p).1) := by
  have hnx := h.nxt
  unfold LD.append
  rw [if_neg (by omega), if_neg (by omega)]
  dsimp only
  unfold LD.room
  by_cases hr : x.L.room ≤ x.L.last.size
  · rw [if_pos hr]
    obtain ⟨h1, h2⟩ := h.sync
    dsimp only
    rw [if_neg (show ¬ x.sync.2 ≠ 0 from by rw [h1]; simp)]
    have hi := h2.inv h
    rw [← h2.next]
    rcases hi.roll (hi.recs (by rw [h2.room, h2.last]; exact hr)) hc2 with ⟨g1, g2⟩ | ⟨g1, g2, g3⟩
    · right
      rw [g2]
      dsimp only
      rw [if_pos (by simp)]
      exact ⟨rfl, ⟨by rw [← h2.ks]; exact g1, hr⟩, h2⟩
    · left
      rw [if_neg (by rw [g2]; simp)]
      obtain ⟨k1, k2⟩ := g3.lay hp hc
      rw [if_neg (by rw [k1]; simp)]
      exact ⟨rfl, by rw [h2.next]; exact hnx, k2⟩
  · left
    rw [if_neg hr]
    dsimp only
    rw [if_neg (by simp)]
    obtain ⟨k1, k2⟩ := h.lay hp hc
    rw [if_neg (by rw [k1]; simp)]
    exact ⟨rfl, hnx, k2.more (by omega)⟩
theorem LInv.full {B c n : Nat} {x : LD} {p : List Nat} (h : LInv B c n x) (hf : Full x) (hp : p.length ≤ 262144) (hc2 : c + 2 < 99999999) : (x.append p).2.2 = 3 ∧ Alike x (x.append p).1 := by
  have hnx := h.nxt
  unfold LD.append
  rw [if_neg (by omega), if_neg (by omega)]
  dsimp only
  unfold LD.room
  rw [if_pos hf.2]
  obtain ⟨h1, h2⟩ := h.sync
  dsimp only
  rw [if_neg (show ¬ x.sync.2 ≠ 0 from by rw [h1]; simp)]
  have hi := h2.inv h
  rw [← h2.next]
  rcases hi.roll (hi.recs (by rw [h2.room, h2.last]; exact hf.2)) hc2 with ⟨g1, g2⟩ | ⟨g1, g2, g3⟩
  · rw [g2]
    dsimp only
    rw [if_pos (by simp)]
    exact ⟨rfl, h2⟩
  · have := hf.1
    rw [h2.ks] at g1
    omega
theorem LInv.trim {B c n below : Nat} : ∀ {K : Nat} {x : LD}, LInv B c n x → c + 2 < 99999999 → (x.trim below K).2 ≠ 12 ∧ LInv B c n (x.trim below K).1
  | 0, x, h, _ => ⟨by simp [LD.trim], h⟩
  | K + 1, x, h, hc2 => by
    unfold LD.trim
    split
    · rename_i s t r hseg
      split
      · obtain ⟨h1, h2, h3, h4, h5, h6⟩ := h.ok.remove (fileN x.L.dir s.first)
        dsimp only
        split
        · rename_i hne
          refine ⟨h1, ?_⟩
          rw [h6 hne]
          exact h
        · rename_i hne
          have hz : (x.m.remove (fileN x.L.dir s.first)).2 = 0 := by omega
          refine LInv.trim ?_ hc2
          have hlast : (⟨x.L.dir, x.L.room, t :: r, x.L.safe⟩ : LM).last = x.L.last := by unfold LM.last; rw [hseg, List.getLast?_cons_cons]
          have hpw := h.pw
          rw [hseg, List.map_cons] at hpw
          have hp' := List.pairwise_cons.1 hpw
          have hlm : x.L.last ∈ t :: r := by rw [← hlast]; exact LM.last_mem (by simp)
          have hlt : s.first < x.L.last.first := hp'.1 _ (List.mem_map.2 ⟨_, hlm, rfl⟩)
          refine ⟨h2, by simp, h.d1, h.d2, h.r1, h.r2, ?_, ?_, hp'.2, ?_, ?_, ?_, ?_, ?_, Nat.le_trans h4 h.cnt⟩
          · dsimp only
            rw [h5 hz]
            intro k hk
            obtain ⟨hk1, hk2⟩ := List.mem_filter.1 hk
            obtain ⟨f, hf, e⟩ := h.keys k hk1
            rw [hseg, List.map_cons] at hf
            rcases List.mem_cons.1 hf with rfl | hf
            · exact absurd e (by simpa using hk2)
            · exact ⟨f, hf, e⟩
          · dsimp only
            rw [h5 hz]
            unfold LM.lastName
            rw [hlast]
            refine List.mem_filter.2 ⟨h.last, ?_⟩
            simp only [ne_eq, decide_not, Bool.not_eq_true', decide_eq_false_iff_not]
            intro e
            have a1 := (h.pos _ (LM.last_mem h.ne)).2.1
            have := fileN_inj (by omega) (by omega) e
            omega
          · dsimp only; rw [hlast]; exact h.emp
          · intro u hu; exact h.pos u (by rw [hseg]; exact List.mem_cons_of_mem _ hu)
          · have := h.nxt
            unfold LM.next at this ⊢
            dsimp only
            rw [hlast]; exact this
          · exact Nat.le_trans h3 h.sz
          · have := h.len
            rw [hseg] at this
            simp only [List.length_cons] at this ⊢; omega
      · exact ⟨by simp, h⟩
    · exact ⟨by simp, h⟩
end Go.Proofs.YtpdkoaklobnegaaGreat
namespace Go.Proofs.YtpdkoaklobnegaaGreat
open Go.Eng
theorem flat_le {α : Type} (f : α → List Nat) (B : Nat) : ∀ l : List α, (∀ x ∈ l, (f x).length ≤ B) → (l.map f).flatten.length ≤ l.length * B
  | [], _ => by simp
  | x :: l, h => by
    have h1 := h x (by simp)
    have h2 := flat_le f B l fun y hy => h y (List.mem_cons_of_mem _ hy)
    simp only [List.map_cons, List.flatten_cons, List.length_append, List.length_cons, Nat.succ_mul]; omega
theorem encA_len {prev st : Stamp} {t : Txn} {x : KV} (h : x.key.size ≤ 20000) : (encA (recA prev st t [x])).length ≤ 20250 := by
  have h1 := encI_len (recA prev st t [x]).kind
  have h2 := encSt_len prev
  have h3 := encSt_len st
  have h4 := encTx_len t
  have h5 := encI_len ((([x] : List KV).length : Nat) : Int)
  have h6 := encKV_len (x := x)
  unfold encA recA encL at *
  simp only [List.length_append, List.map_cons, List.map_nil, List.flatten_cons, List.flatten_nil, List.length_nil] at *
  omega
theorem encB_len {st : Stamp} {l : List KV} (h : ∀ x ∈ l, x.key.size ≤ 24) (hl : l.length ≤ 40) : (encBs (recB st l)).length ≤ 20250 := by
  have h1 := encI_len (recB st l).kind
  have h2 := encSt_len st
  have h5 := encI_len ((l.length : Nat) : Int)
  have h6 := flat_le encKV 134 l fun x hx => by have := encKV_len (x := x); have := h x hx; omega
  have h7 : l.length * 134 ≤ 40 * 134 := Nat.mul_le_mul_right _ hl
  unfold encBs recB encL at *
  simp only [List.length_append] at *
  omega
structure PInv (n : Nat) (p : List (ByteArray × Val)) : Prop where
  nd : (p.map (·.1)).Nodup
  good : ∀ x ∈ p, goodKey x.1 = true ∧ x.2.may = true ∧ x.2.kind ≠ 0
  len : p.length ≤ n
theorem PInv.apply {n : Nat} {p : List (ByteArray × Val)} {x : KV} (h : PInv n p) (hk : goodKey x.key = true) (hv : x.val.may = true) : PInv (n + 1) (applyW p x) := by
  unfold applyW
  split
  · refine ⟨?_, fun y hy => h.good y (List.mem_filter.1 hy).1, Nat.le_trans (List.length_filter_le _ _) (Nat.le_succ_of_le h.len)⟩
    exact h.nd.sublist ((List.filter_sublist).map _)
  · rename_i hz
    refine ⟨putM_nodup h.nd, fun y hy => ?_, ?_⟩
    · rcases mem_putM h.nd hy with rfl | ⟨hy, _⟩
      · exact ⟨hk, hv, hz⟩
      · exact h.good y hy
    · have := congrArg List.length (putM_keys x.key x.val p)
      have hl := h.len
      rw [List.length_map] at this
      rw [this]
      split <;> simp <;> omega
theorem bytesLess_of : ∀ {a b : List UInt8}, a ≤ b → a ≠ b → Op.bytesLess a b = true
  | [], [], _, h => absurd rfl h
  | [], _ :: _, _, _ => by simp [Op.bytesLess]
  | a :: l, [], h, _ => absurd h (by simp)
  | a :: l, b :: m, h, hne => by
    simp only [Op.bytesLess, Bool.or_eq_true, Bool.and_eq_true, decide_eq_true_eq, beq_iff_eq]
    rcases List.cons_le_cons_iff.1 h with h1 | ⟨rfl, h1⟩
    · exact .inl h1
    · exact .inr ⟨rfl, bytesLess_of h1 fun e => hne (by rw [e])⟩
theorem chain_of {α : Type} {p : α → Bool} {r : α → α → Bool} : ∀ {l : List α} (o : Option α), (∀ x ∈ l, p x = true) → l.Pairwise (fun a b => r a b = true) → (∀ y, o = some y → ∀ x ∈ l, r y x = true) → chain p r o l = true
  | [], o, _, _, _ => by cases o <;> rfl
  | x :: l, o, h1, h2, h3 => by
    have h2' := List.pairwise_cons.1 h2
    have ih := chain_of (some x) (fun y hy => h1 y (List.mem_cons_of_mem _ hy)) h2'.2 (fun y e z hz => by cases e; exact h2'.1 z hz)
    have hp := h1 x (by simp)
    cases o with
    | none => simp [chain, hp, ih]
    | some y => have hr := h3 y rfl x (by simp); simp [chain, hp, ih, hr]
theorem PInv.list {n : Nat} {s : SM} (h : PInv n s.pairs) : pairsOk s.list = true ∧ (∀ x ∈ s.list, x.key.size ≤ 24) ∧ s.list.length ≤ n ∧ ∀ x ∈ s.pairs, x.1.size ≤ 24 := by
  have hperm := sortB_perm (s.pairs.map (·.1))
  have hmem : ∀ x ∈ s.list, (x.key, x.val) ∈ s.pairs := fun x hx => by
    obtain ⟨k, hk, rfl⟩ := List.mem_map.1 hx
    obtain ⟨y, hy, rfl⟩ := List.mem_map.1 (hperm.mem_iff.1 hk)
    have := getM_of_mem h.nd (k := y.1) (a := y.2) hy
    show (y.1, s.get y.1) ∈ s.pairs
    unfold SM.get
    rw [this]; exact hy
  have hgk : ∀ k : ByteArray, goodKey k = true → k.size ≤ 24 := fun k hk => by unfold goodKey at hk; simp at hk; omega
  refine ⟨?_, fun x hx => hgk _ (h.good _ (hmem x hx)).1, ?_, fun x hx => hgk _ (h.good x hx).1⟩
  · refine chain_of none (fun x hx => ?_) ?_ (fun y e => by cases e)
    · obtain ⟨g1, g2, g3⟩ := h.good _ (hmem x hx)
      simp only [g1, g2, g3, ne_eq, not_false_eq_true, decide_true, Bool.and_self]
    · unfold SM.list
      rw [List.pairwise_map]
      have hnd : (sortB (s.pairs.map (·.1))).Nodup := hperm.nodup_iff.2 h.nd
      have hso : (sortB (s.pairs.map (·.1))).Pairwise fun a b => bl a ≤ bl b := by
        unfold sortB
        rw [List.pairwise_map]
        refine (List.pairwise_mergeSort leB_trans leB_total _).imp fun hab => ?_
        unfold leB at hab
        simpa [bl] using hab
      refine (List.pairwise_and_iff.2 ⟨hso, hnd⟩).imp fun hab => ?_
      show tlt _ _ = true
      unfold tlt
      rw [ByteArray.toList_eq, ByteArray.toList_eq]
      exact bytesLess_of hab.1 fun e => hab.2 (ByteArray.ext (Array.toList_inj.1 e))
  · unfold SM.list
    rw [List.length_map, hperm.length_eq, List.length_map]; exact h.len
end Go.Proofs.YtpdkoaklobnegaaGreat
namespace Go.Proofs.YtpdkoaklobnegaaGreat
open Go.Eng
structure OInv (ev : Int) (n : Nat) (s : SM) (x : LD) : Prop where
  ev : s.every = ev
  si : 0 ≤ s.since ∧ s.since ≤ n
  dn : s.down = false
  hi : s.high = prevN n
  dl : s.done.length = n
  dw : ∀ e ∈ s.done, e.writes.length ≤ 1
  pi : PInv n s.pairs
  lg : ∃ c k : Nat, LInv 30000 c k x ∧ (c : Int) + s.since ≤ 2 * n ∧ k ≤ 1 + c
theorem prevN_wall (n : Nat) : (prevN n).wall = n := by
  unfold prevN
  split
  · rfl
  · have : (n : Int) = 0 := by omega
    rw [this]
theorem prevN_inj {a b : Nat} (h : prevN a = prevN b) : a = b := by
  have := congrArg Stamp.wall h
  rw [prevN_wall, prevN_wall] at this
  omega
theorem prevN_cmp (n : Nat) : (⟨(n : Int) + 1, 0, 1⟩ : Stamp).cmp (prevN n) > 0 := by
  have e1 : ((n : Int) + 1 ≠ n) := by omega
  have e2 : ¬ ((n : Int) + 1 < n) := by omega
  have e3 : ((n : Int) < n + 1) := by omega
  simp [Stamp.cmp, prevN_wall, e1, e2, e3]
theorem applyOk_good {prev st : Stamp} {t : Txn} {w : KV} (h : applyOk prev st t [w] = true) : goodKey w.key = true ∧ w.val.may = true := by
  unfold applyOk at h
  simp only [Bool.and_eq_true, decide_eq_true_eq] at h
  have he := h.2
  unfold Pend.err at he
  dsimp only at he
  split at he
  · simp at he
  · split at he
    · simp at he
    · split at he
      · simp at he
      · rename_i h3
        split at he
        · rename_i h4
          refine ⟨?_, by simpa using h4⟩
          simp only [Bool.or_eq_true, Bool.not_eq_true', not_or, Bool.not_eq_false, rises, Bool.and_eq_true] at h3
          have := h3.2.1
          simp only [List.map_cons, List.map_nil] at this
          simpa [rising, chain] using this
        · simp at he
theorem keep_cases {c k : Nat} {x : LD} {p : List Nat} (h : LInv 30000 c k x) (hc : c ≤ 80) (hp : p.length ≤ 20250) :
    ((x.keep 0 p).2.2 = 0 ∧ (x.keep 0 p).2.1 = 1 + c ∧ LInv 30000 (c + 1) (k + 1) (x.keep 0 p).1 ∧ LInv 30000 (c + 1) (k + 1) (x.append p).1) ∨ ((x.keep 0 p).2.2 = 3 ∧ Full x ∧ Alike x (x.keep 0 p).1 ∧ Alike x (x.append p).1) := by
  unfold LD.keep
  rw [if_neg (by simp)]
  dsimp only
  rcases h.append (p := p) (by omega) (by omega) (by omega) (by omega) with ⟨h1, h2, h3⟩ | ⟨h1, h2, h3⟩
  · left
    rw [if_neg (by rw [h1]; simp)]
    obtain ⟨g1, g2⟩ := h3.sync
    exact ⟨g1, h2, g2.inv h3, h3⟩
  · right
    rw [if_pos (by rw [h1]; simp)]
    exact ⟨h1, h2, h3, h3⟩
theorem keep_full {c k : Nat} {x : LD} {p : List Nat} (h : LInv 30000 c k x) (hf : Full x) (hc : c ≤ 80) (hp : p.length ≤ 20250) : (x.keep 0 p).2.2 = 3 := by
  obtain ⟨g1, g2⟩ := h.full (p := p) hf (by omega) (by omega)
  unfold LD.keep
  rw [if_neg (by simp)]
  dsimp only
  rw [if_pos (by rw [g1]; simp)]
  exact g1
theorem LInv.lok' {c k : Nat} {x : LD} (h : LInv 30000 c k x) (hc : c ≤ 81) : LOK x.L := h.lok (by omega) (by omega)
structure KeepOk (x : LD) (p : List Nat) : Prop where
  lk : LOK (x.append p).1.L
  kd : (x.keep 0 p).2.2 ≠ 12
  lk2 : LOK (x.keep 0 p).1.L
  len : (x.keep 0 p).1.L.segs.length ≤ 1000
  tr : ((x.keep 0 p).1.trim (x.keep 0 p).2.1 1000).2 ≠ 12
theorem OInv.keepOk {ev : Int} {n : Nat} {s : SM} {x : LD} {p : List Nat} (h : OInv ev n s x) (hn : n ≤ 40) (hp : p.length ≤ 20250) : LOK x.L ∧ x.L.segs.length ≤ 2 ^ 29 ∧ KeepOk x p := by
  obtain ⟨c, k, h1, h2, h3⟩ := h.lg
  have hs := h.si
  have hlen := h1.len
  refine ⟨h1.lok' (by omega), by omega, ?_⟩
  rcases keep_cases (p := p) h1 (by omega) hp with ⟨a1, a2, a3, a4⟩ | ⟨a1, a2, a3, a4⟩
  · have := a3.len
    exact ⟨a4.lok' (by omega), by omega, a3.lok' (by omega), by omega, (a3.trim (by omega)).1⟩
  · have h5 := a3.inv h1
    have := h5.len
    exact ⟨(a4.inv h1).lok' (by omega), by omega, h5.lok' (by omega), by omega, (h5.trim (by omega)).1⟩
theorem OInv.step {ev : Int} {n k : Nat} {s : SM} {x : LD} {w : KV} {t : Txn} (h : OInv ev n s x) (hn : n ≤ 40) (hk : k < 40) (hw : w.key.size ≤ 20000) :
    (applyOk (prevN k) ⟨(k : Int) + 1, 0, 1⟩ t [w] = true ∧ k = n ∧ goodKey w.key = true ∧ OInv ev (n + 1) (stepS s x (prevN k) ⟨(k : Int) + 1, 0, 1⟩ t [w]).1 (stepS s x (prevN k) ⟨(k : Int) + 1, 0, 1⟩ t [w]).2 ∧
      (stepS s x (prevN k) ⟨(k : Int) + 1, 0, 1⟩ t [w]).1.high = ⟨(k : Int) + 1, 0, 1⟩) ∨
    ((stepS s x (prevN k) ⟨(k : Int) + 1, 0, 1⟩ t [w]).1 = s ∧ OInv ev n s (stepS s x (prevN k) ⟨(k : Int) + 1, 0, 1⟩ t [w]).2 ∧
      (applyOk (prevN k) ⟨(k : Int) + 1, 0, 1⟩ t [w] = true → k = n → Full (stepS s x (prevN k) ⟨(k : Int) + 1, 0, 1⟩ t [w]).2)) := by
  obtain ⟨c, m, h1, h2, h3⟩ := h.lg
  have hs := h.si
  generalize hst : (⟨(k : Int) + 1, 0, 1⟩ : Stamp) = st
  have hl := encA_len (prev := prevN k) (st := st) (t := t) hw
  unfold stepS
  by_cases hf : s.fits (prevN k) st t [w] = true
  · rw [if_pos hf]
    dsimp only
    have hf' := hf
    unfold SM.fits at hf'
    simp only [Bool.and_eq_true, decide_eq_true_eq] at hf'
    obtain ⟨⟨f1, f2⟩, f3⟩ := hf'
    have hkn : k = n := prevN_inj (f3.trans h.hi)
    obtain ⟨q1, q2⟩ := applyOk_good f1
    rcases keep_cases (p := encA (recA (prevN k) st t [w])) h1 (by omega) hl with ⟨a1, a2, a3, a4⟩ | ⟨a1, a2, a3, a4⟩
    · left
      rw [if_pos a1]
      refine ⟨f1, hkn, q1, ⟨h.ev, by dsimp only; omega, h.dn, ?_, ?_, ?_, ?_, ⟨c + 1, m + 1, a3, by dsimp only; push_cast; omega, by omega⟩⟩, rfl⟩
      · show st = _
        subst hst; subst hkn
        unfold prevN
        push_cast
        rw [if_pos (by omega)]
      · show (s.done ++ [_]).length = _
        rw [List.length_append, h.dl]; rfl
      · intro e he
        have he : e ∈ s.done ++ [⟨t, st, [w]⟩] := he
        rcases List.mem_append.1 he with he | he
        · exact h.dw e he
        · simp at he; subst he; simp
      · exact h.pi.apply q1 q2
    · right
      rw [if_neg (by rw [a1]; decide)]
      exact ⟨rfl, ⟨h.ev, h.si, h.dn, h.hi, h.dl, h.dw, h.pi, ⟨c, m, a3.inv h1, h2, h3⟩⟩, fun _ _ => a3.full a2⟩
  · right
    rw [if_neg hf]
    refine ⟨rfl, h, fun ha hkn => absurd ?_ hf⟩
    unfold SM.fits
    subst hst; subst hkn
    have := prevN_cmp k
    rw [ha, h.hi]
    simp [this]
theorem OInv.tick {ev : Int} {n : Nat} {s : SM} {x : LD} (h : OInv ev n s x) (he : 0 ≤ ev) (hn : n ≤ 40) :
    OInv ev n (tickS s x 1000).1 (tickS s x 1000).2 ∧ (tickS s x 1000).1.pairs = s.pairs ∧ (tickS s x 1000).1.high = s.high ∧ (Full x → Full (tickS s x 1000).2) := by
  obtain ⟨c, m, h1, h2, h3⟩ := h.lg
  have hs := h.si
  obtain ⟨p1, p2, p3, p4⟩ := h.pi.list
  unfold tickS
  by_cases hi : s.idle = true
  · rw [if_pos hi]
    exact ⟨h, rfl, rfl, id⟩
  · rw [if_neg hi]
    dsimp only
    have hsi : 1 ≤ s.since := by
      unfold SM.idle at hi
      simp only [Bool.or_eq_true, decide_eq_true_eq, not_or, Int.not_lt] at hi
      have := h.ev; omega
    have hl := encB_len (st := s.high) p2 (by omega)
    rcases keep_cases (p := encBs (recB s.high s.list)) h1 (by omega) hl with ⟨a1, a2, a3, a4⟩ | ⟨a1, a2, a3, a4⟩
    · rw [if_pos a1]
      refine ⟨⟨h.ev, by dsimp only; omega, h.dn, h.hi, h.dl, h.dw, h.pi, ⟨c + 1, m + 1, (a3.trim (by omega)).2, by dsimp only; push_cast; omega, by omega⟩⟩, rfl, rfl, fun hf => ?_⟩
      have := keep_full h1 hf (by omega) hl
      omega
    · rw [if_neg (by rw [a1]; decide)]
      exact ⟨⟨h.ev, h.si, h.dn, h.hi, h.dl, h.dw, h.pi, ⟨c, m, a3.inv h1, h2, h3⟩⟩, rfl, rfl, fun hf => a3.full hf⟩
end Go.Proofs.YtpdkoaklobnegaaGreat
namespace Go.Proofs.YtpdkoaklobnegaaGreat
open Go.Eng
set_option maxRecDepth 100000
set_option maxHeartbeats 1000000
set_option linter.unusedVariables false
set_option linter.unusedSimpArgs false
attribute [local irreducible] un jn chk fld ld1 ldA st1 ixS lnS lnT bld cvI cvF ixA bsS apS rdV rdW grdW eW eV eU eC eF gE condW fin pickN nilN binS vS lp0 lp1 lp2 lp3 lp4 lp5 lp6 lp7 nx0 nx1 nx2 nx3 nx4 nx5 nx6 nx7
theorem LInv.keepOk {c k : Nat} {x : LD} {p : List Nat} (h1 : LInv 30000 c k x) (hc : c ≤ 80) (hk : k ≤ 900) (hp : p.length ≤ 20250) : LOK x.L ∧ x.L.segs.length ≤ 2 ^ 29 ∧ KeepOk x p := by
  have hlen := h1.len
  refine ⟨h1.lok' (by omega), by omega, ?_⟩
  rcases keep_cases (p := p) h1 (by omega) hp with ⟨a1, a2, a3, a4⟩ | ⟨a1, a2, a3, a4⟩
  · have := a3.len
    exact ⟨a4.lok' (by omega), by omega, a3.lok' (by omega), by omega, (a3.trim (by omega)).1⟩
  · have h5 := a3.inv h1
    have := h5.len
    exact ⟨(a4.inv h1).lok' (by omega), by omega, h5.lok' (by omega), by omega, (h5.trim (by omega)).1⟩
def dk0 : DM := ⟨[], 0, 0, false⟩
abbrev sinkD : ByteArray := ⟨#[115, 105, 110, 107]⟩
def x0 (sz : Nat) : LD := (LD.roll ⟨L0 sinkD sz, dk0⟩ 1).1
theorem x0_roll (sz : Nat) : (LD.roll ⟨L0 sinkD sz, dk0⟩ 1).2 = 0 ∧ (dk0.create (fileN sinkD 1)).2 = 0 ∧ MOk (dk0.create (fileN sinkD 1)).1 ∧ (dk0.create (fileN sinkD 1)).1.ks = [fileN sinkD 1] ∧ (dk0.create (fileN sinkD 1)).1.sz = 0 := by
  have hm : MOk dk0 := ⟨rfl, rfl⟩
  have hn : nameOk (fileN sinkD 1) = true := by simp only [nameOk, fileN_size, decide_eq_true_eq]; decide
  rcases hm.create hn (by simp [DM.ks, dk0]) with ⟨h1, _⟩ | ⟨h1, h2, h3, h4, h5⟩
  · simp [dk0] at h1
  · exact ⟨h2, h2, h3, h4, h5⟩
theorem x0_L (sz : Nat) : (x0 sz).L = ⟨sinkD, sz, [⟨1, [], 0⟩], 0⟩ := roll_L0 (x0_roll sz).1
theorem x0_inv {sz : Nat} (h1 : 64 ≤ sz) (h2 : sz ≤ 262144) : LInv 30000 0 1 (x0 sz) ∧ ¬ Full (x0 sz) := by
  obtain ⟨_, _, g3, g4, g5⟩ := x0_roll sz
  have hL := x0_L sz
  have hm : (x0 sz).m = (dk0.create (fileN sinkD 1)).1 := rfl
  have hlast : (x0 sz).L.last = ⟨1, [], 0⟩ := by rw [hL]; rfl
  constructor
  · refine ⟨by rw [hm]; exact g3, by rw [hL]; simp, by rw [hL]; exact (show 1 ≤ ByteArray.size sinkD from by decide), by rw [hL]; exact (show ByteArray.size sinkD ≤ 11 from by decide), by rw [hL]; exact Nat.le_trans (by decide) h1, by rw [hL]; exact Nat.le_trans h2 (by decide), ?_, ?_, ?_, ?_, ?_, ?_, ?_, ?_, by rw [hm, g4]; simp⟩
    · rw [hm, g4, hL]; intro k hk; exact ⟨1, by simp, by simpa using hk⟩
    · rw [hm, g4]; unfold LM.lastName; rw [hlast, hL]; simp
    · rw [hL]; simp
    · rw [hlast]; intro _; rfl
    · rw [hL]; intro s hs; simp at hs; subst hs; simp
    · unfold LM.next; rw [hlast]; rfl
    · rw [hm, g5]; decide
    · rw [hL]; simp
  · intro hf
    have := hf.1
    rw [hm, g4] at this
    simp at this
theorem o0 {ev : Int} {sz : Nat} (h1 : 64 ≤ sz) (h2 : sz ≤ 262144) : OInv ev 0 (SM0 ev) (x0 sz) :=
  ⟨rfl, by simp [SM0], rfl, rfl, rfl, by simp [SM0], ⟨by simp [SM0], by simp [SM0], by simp [SM0]⟩, ⟨0, 1, (x0_inv h1 h2).1, by simp [SM0], by omega⟩⟩
abbrev kvA : KV := ⟨⟨#[97]⟩, ⟨1, 4607182418800017408, ⟨#[]⟩⟩⟩
abbrev kvB : KV := ⟨⟨#[98]⟩, ⟨1, 4607182418800017408, ⟨#[]⟩⟩⟩
theorem okA : applyOk (prevN 0) ⟨5, 0, 1⟩ ⟨1, 1, 5⟩ [kvA] = true := by kernel_rfl
theorem okB : applyOk (prevN 4) ⟨7, 0, 1⟩ ⟨1, 1, 7⟩ [kvB] = true := by kernel_rfl
def s1 : SM := { (SM0 0).apply ⟨1, 1, 5⟩ ⟨5, 0, 1⟩ [kvA] with since := 1 }
theorem firstA : (stepS (SM0 0) (x0 4096) (prevN 0) ⟨5, 0, 1⟩ ⟨1, 1, 5⟩ [kvA]).1 = s1 ∧ LInv 30000 1 2 (stepS (SM0 0) (x0 4096) (prevN 0) ⟨5, 0, 1⟩ ⟨1, 1, 5⟩ [kvA]).2 := by
  have hf : (SM0 0).fits (prevN 0) ⟨5, 0, 1⟩ ⟨1, 1, 5⟩ [kvA] = true := by kernel_rfl
  obtain ⟨h1, h2⟩ := x0_inv (sz := 4096) (by decide) (by decide)
  unfold stepS
  rw [if_pos hf]
  dsimp only
  rcases keep_cases (p := encA (recA (prevN 0) ⟨5, 0, 1⟩ ⟨1, 1, 5⟩ [kvA])) h1 (by omega) (encA_len (by decide)) with ⟨a1, a2, a3, a4⟩ | ⟨a1, a2, a3, a4⟩
  · rw [if_pos a1]
    exact ⟨rfl, a3⟩
  · exact absurd a2 h2
theorem firstB (x : LD) : stepS s1 x (prevN 4) ⟨7, 0, 1⟩ ⟨1, 1, 7⟩ [kvB] = (s1, x) := by
  unfold stepS
  rw [if_neg (by rw [show s1.fits (prevN 4) ⟨7, 0, 1⟩ ⟨1, 1, 7⟩ [kvB] = false from by kernel_rfl]; simp)]
theorem list1 : s1.list = [kvA] := by
  have : s1.pairs = [(⟨#[97]⟩, ⟨1, 4607182418800017408, ⟨#[]⟩⟩)] := by kernel_rfl
  unfold SM.list SM.get
  rw [this]
  simp [sortB, bl, getM]
theorem d_law_first {w : World} {X : XS} : Ct Tryz.prog 9 #[] w X nX fun v _ _ => v = B true := by
  intro w0 hk
  apply ok_racelaw22_first; unfold vc_racelaw22_first
  have hs := Since.init w0
  have hT0 : Ft w0 nX w0 (old w0) nX := Ft.init fun _ h => h.elim
  refine r_ct0 d_disk_New (by kernel_rfl) hs.has ?_
  rintro _ wa1 w1 X1 ⟨db, rfl, hdk⟩ hle1 hin1 hs1
  have hT1 : Ft w0 nX w1 X1 (made wa1 w1) := (hT0.since hs1).more fun k hk' => .inr ⟨hin1 k hk', Nat.le_trans hle1 hk'.1⟩
  clear hs hT0
  repeat' first | with_reducible apply condW_F | ((with_reducible apply m_pnilF); (· kernel_rfl))
  refine hT1.call (d_sink_Open0 (sz := 4096) (every := 0) hdk (hT1.fx fun _ h => h) rfl rfl (by decide) (by decide) (by decide) (by decide) (x0_roll 4096).1) (by kernel_rfl) (fun _ h => h) fun v wa2 w2 X2 hq2 hle2 hin2 hT2 hc2 => ?_
  obtain ⟨nb, lb, F2, rfl, hF2, h2⟩ := hq2
  replace hT2 : Ft w0 nX w2 X2 F2 := hT2.less hF2
  replace h2 : Snk w2 F2 nb lb db (SM0 0) (x0 4096).L (x0 4096).m := h2
  repeat' first | ((with_reducible refine r_neqF ?_ ?_); (· omega)) | with_reducible (first | apply condW_F | apply un_selF | apply grdV_onF | apply rdW_pickF) | ((with_reducible apply m_ext); (· rfl)) | ((with_reducible apply m_pnilF); (· kernel_rfl))
  refine r_ct0 d_law_apply (by kernel_rfl) hT2.s.has ?_
  rintro _ wa3 w3 X3 ⟨a, rfl, hoa⟩ hle3 hin3 hs3
  have hT3 := hT2.since hs3
  have h3 := h2.mv (hs3.mvF hT2.inX)
  have hF3 : ∀ k, F2 k → k < w2.heap.size := fun k hk' => hT2.s.has k (hT2.inX k hk')
  obtain ⟨q1, q2, q3⟩ := (x0_inv (sz := 4096) (by decide) (by decide)).1.keepOk (p := encA (recA (prevN 0) ⟨5, 0, 1⟩ ⟨1, 1, 5⟩ [kvA])) (by omega) (by omega) (encA_len (by decide))
  refine hT3.call (d_sink_Step (S := made wa3 w3) (l := [kvA]) h3 q1 q2 (hT3.fx fun _ h => h) rfl hoa.sl (fun k hk' => ⟨hin3 k hk', fun hf => by have := hF3 k hf; have := hk'.1; omega⟩) (by simp) (by simp; decide) (Nat.le_trans (encA_len (by decide)) (by decide)) (by simp [SM0]) (by simp [SM0]) q3.lk q3.kd) (by kernel_rfl) (fun _ h => h) fun v wa4 w4 X4 hq4 hle4 hin4 hT4 hc4 => ?_
  obtain ⟨vo, F4, S4, rfl, hF4, hS4, h4, ho4⟩ := hq4
  replace hT4 : Ft w0 nX w4 X4 F4 := hT4.less hF4
  obtain ⟨e1, i4⟩ := firstA
  change Snk w4 F4 nb lb db (stepS (SM0 0) (x0 4096) (prevN 0) ⟨5, 0, 1⟩ ⟨1, 1, 5⟩ [kvA]).1 (stepS (SM0 0) (x0 4096) (prevN 0) ⟨5, 0, 1⟩ ⟨1, 1, 5⟩ [kvA]).2.L (stepS (SM0 0) (x0 4096) (prevN 0) ⟨5, 0, 1⟩ ⟨1, 1, 5⟩ [kvA]).2.m at h4
  change Sl w4 S4 36 vo (if applyOk (prevN 0) ⟨5, 0, 1⟩ ⟨1, 1, 5⟩ [kvA] = true then [mHigh 31 (stepS (SM0 0) (x0 4096) (prevN 0) ⟨5, 0, 1⟩ ⟨1, 1, 5⟩ [kvA]).1.high] else []) at ho4
  rw [e1] at h4 ho4
  rw [if_pos okA] at ho4
  generalize (stepS (SM0 0) (x0 4096) (prevN 0) ⟨5, 0, 1⟩ ⟨1, 1, 5⟩ [kvA]).2 = x4 at h4 i4
  have ho4' : Sl w4 X4 36 vo (([s1.high] : List Stamp).map (mHigh 31)) := ho4.mono fun k hk' => hin4 k (hS4 k hk').1
  clear hc4 hc2 e1 hs1 hs3 h3 h2 hdk q1 q2 q3
  repeat' first | ((with_reducible apply m_ext); (· rfl))
  refine r_ct0 d_law_apply (by kernel_rfl) hT4.s.has ?_
  rintro _ wa5 w5 X5 ⟨a5, rfl, hoa5⟩ hle5 hin5 hs5
  have hT5 := hT4.since hs5
  have h5 := h4.mv (hs5.mvF hT4.inX)
  have ho5 : Sl w5 S4 36 vo (([s1.high] : List Stamp).map (mHigh 31)) := ho4.mv (hs5.mvF fun k hk' => hin4 k (hS4 k hk').1)
  have hF5 : ∀ k, F4 k → k < w4.heap.size := fun k hk' => hT4.s.has k (hT4.inX k hk')
  obtain ⟨q1, q2, q3⟩ := i4.keepOk (p := encA (recA (prevN 4) ⟨7, 0, 1⟩ ⟨1, 1, 7⟩ [kvB])) (by omega) (by omega) (encA_len (by decide))
  refine hT5.call (d_sink_Step (S := made wa5 w5) (l := [kvB]) h5 q1 q2 (hT5.fx fun _ h => h) rfl hoa5.sl (fun k hk' => ⟨hin5 k hk', fun hf => by have := hF5 k hf; have := hk'.1; omega⟩) (by simp) (by simp; decide) (Nat.le_trans (encA_len (by decide)) (by decide)) (by simp [s1, SM0, SM.apply]) (by simp [s1]) q3.lk q3.kd) (by kernel_rfl) (fun _ h => h) fun v wa6 w6 X6 hq6 hle6 hin6 hT6 hc6 => ?_
  obtain ⟨vo6, F6, S6, rfl, hF6, hS6, h6, ho6⟩ := hq6
  rw [firstB] at h6 ho6
  rw [if_pos okB] at ho6
  replace h6 : Snk w6 F6 nb lb db s1 x4.L x4.m := h6
  replace hT6 : Ft w0 nX w6 X6 F6 := hT6.less hF6
  have ho6a : Sl w6 S4 36 vo (([s1.high] : List Stamp).map (mHigh 31)) := ho5.mv (hc6.mvA fun k hk' => ⟨hs5.sub k (hin4 k (hS4 k hk').1), (hS4 k hk').2⟩)
  have ho6b : Sl w6 S6 36 vo6 (([s1.high] : List Stamp).map (mHigh 31)) := ho6
  have hS46 : ∀ k, S4 k → X6 k := fun k hk' => hc6.sub k (hs5.sub k (hin4 k (hS4 k hk').1))
  have ho6a' := ho6a.mono hS46
  have ho6b' : Sl w6 X6 36 vo6 (([s1.high] : List Stamp).map (mHigh 31)) := ho6b.mono fun k hk' => hin6 k (hS6 k hk').1
  repeat' first | ((with_reducible apply m_ext); (· rfl))
  obtain ⟨FN, FG, mb, av, es, hdj, hN, hG, hsk, hg⟩ := id h6
  refine r_ct0 (d_sink_Pairs hsk (hT6.fx hN) (by decide) (by decide)) (by kernel_rfl) hT6.s.has ?_
  rintro vp wa7 w7 X7 hop hle7 hin7 hs7
  rw [list1] at hop
  have hT7 := hT6.since hs7
  have h7 := h6.mv (hs7.mvF hT6.inX)
  have ho7a := ho6a'.mv hs7.mv
  have ho7b := ho6b'.mv hs7.mv
  have hp7 : Sl w7 X7 4 vp (([kvA] : List KV).map KV.l) := hop.sl.mono hin7
  have r1 : ([s1.high] : List Stamp)[0]? = some s1.high := rfl
  have r2 : ([kvA] : List KV)[0]? = some kvA := rfl
  have w5 : s1.high.wall = 5 := rfl
  repeat' first | ((with_reducible refine r_eqlT ?_ ?_); (· omega)) | with_reducible (first | apply un_selT | apply un_selFT | apply grdV_onT | apply grdW_offT | apply rdW_pickT | apply rdW_pickF | apply gE_T | apply gE_FT) | (with_reducible apply r_eql <;> intro _) | (with_reducible apply r_seql <;> intro _) | ((with_reducible apply m_fld1); (· exact qF); (· kernel_rfl); (· rfl); intro _ _ _) | ((with_reducible apply m_fld); (· exact qF); (· kernel_rfl); (· rfl); (· exact qN); intro _ _ _) | ((with_reducible apply m_ld1); (· exact qF); (· exact qM); (· kernel_rfl); (· rfl)) | ((with_reducible apply m_lnS); (· exact qO); (· kernel_rfl)) | ((with_reducible apply m_ixS); (· exact qO); (try (case hz => rfl)); (case hr => exact qR); (try (case hz => omega)); (case ht => kernel_rfl); (case hs => kernel_rfl); intro _ _ _) | with_reducible apply jn_of
  · obtain ⟨FN7, FG7, mb7, av7, es7, hdj7, hN7, hG7, hsk7, hg7⟩ := id h7
    refine r_ct0V (d_sink_High hsk7 (hT7.fx hN7)) (by kernel_rfl) hT7.s.has fun w8 X8 hs8 => ?_
    have hT8 := hT7.since hs8
    repeat' first | ((with_reducible refine r_eqlT ?_ ?_); (· omega)) | with_reducible (first | apply grdV_onT | apply rdW_pickT) | ((with_reducible apply r_fdV1); (case hf => kernel_rfl); (case hg => kernel_rfl); (case hl => rfl))
    exact hT8.fin fun wa hk9 => rfl
  · exact absurd rfl (by assumption)
  · exact absurd rfl (by assumption)
end Go.Proofs.YtpdkoaklobnegaaGreat
namespace Go.Proofs.YtpdkoaklobnegaaGreat
open Go.Eng
set_option maxRecDepth 100000
set_option maxHeartbeats 1000000
set_option linter.unusedVariables false
set_option linter.unusedSimpArgs false
attribute [local irreducible] un jn chk fld ld1 ldA st1 ixS lnS lnT bld cvI cvF ixA bsS apS rdV rdW grdW eW eV eU eC eF gE condW fin pickN nilN binS vS lp0 lp1 lp2 lp3 lp4 lp5 lp6 lp7 nx0 nx1 nx2 nx3 nx4 nx5 nx6 nx7
section
variable {P : Program} {X : XS} {w : World} {N : Value → Prop} {t : TypeId}
end
theorem wsum_mem {x : KV} : ∀ {l : List KV}, x ∈ l → 1 + x.key.size + x.val.text.size ≤ wsum l
  | y :: l, h => by
    unfold wsum
    rw [List.map_cons, List.sum_cons]
    rcases List.mem_cons.1 h with rfl | h
    · omega
    · have := wsum_mem h
      unfold wsum at this
      omega
end Go.Proofs.YtpdkoaklobnegaaGreat
namespace Go.Proofs.YtpdkoaklobnegaaGreat
open Go.Eng
set_option maxRecDepth 100000
set_option maxHeartbeats 1000000
set_option linter.unusedVariables false
set_option linter.unusedSimpArgs false
attribute [local irreducible] un jn chk fld ld1 ldA st1 ixS lnS lnT bld cvI cvF ixA bsS apS rdV rdW grdW eW eV eU eC eF gE condW fin pickN nilN binS vS lp0 lp1 lp2 lp3 lp4 lp5 lp6 lp7 nx0 nx1 nx2 nx3 nx4 nx5 nx6 nx7
def SM.fitsM (s : SM) (g : Msg) : Bool := decide (g.kind = 12) && decide (g.stamp.cmp s.high > 0) && decide (g.prev = s.high)
def Msg.asks (g : Msg) : Bool := decide (g.err = 0) && decide (g.to = 32) && (decide (g.kind = 12) || decide (g.kind = 13))
theorem Msg.asks_apply {g : Msg} (h : g.asks = true) (hk : g.kind = 12) : applyOk g.prev g.stamp g.txn g.writes = true := by
  simp only [Msg.asks, Bool.and_eq_true, decide_eq_true_eq] at h
  have he := h.1.1
  unfold Msg.err at he
  split at he
  · cases he
  · split at he
    · cases he
    · rename_i hn
      simp only [Bool.or_eq_true, Bool.not_eq_true', not_or, Bool.not_eq_false] at hn
      have hf := hn.2
      unfold Msg.fieldsOk at hf
      simpa [hk] using hf
def stepM (s : SM) (x : LD) (g : Msg) : SM × LD :=
  if g.asks && s.fitsM g then
    let k := x.keep 0 (encA (recA g.prev g.stamp g.txn g.writes))
    (if k.2.2 = 0 then { s.apply g.txn g.stamp g.writes with since := s.since + 1 } else s, k.1)
  else (s, x)
theorem d_sink_StepM {w : World} {X F S : XS} {nb lb db : Nat} {s : SM} {L : LM} {m : DM} {g : Msg} {vk vs vw vp vr vc vh vd : Value} (h : Snk w F nb lb db s L m) (hL : LOK L) (hsl : L.segs.length ≤ 2 ^ 29) (hF : FX F X w) (hdn : s.down = false)
    (hat : g.at w S vk vs vw vp vr vc vh vd) (hS : ∀ k, S k → X k ∧ ¬ F k) (hsm : g.small) (hln : g.lens ≤ 2 ^ 40) (hl : g.writes.length ≤ 2 ^ 16) (hkl : ∀ x ∈ g.writes, x.key.size ≤ 2 ^ 16)
    (hen : applyOk g.prev g.stamp g.txn g.writes = true → (encA (recA g.prev g.stamp g.txn g.writes)).length ≤ 262144) (hd : s.done.length ≤ 2 ^ 30) (hsi : 0 ≤ s.since ∧ s.since < 2 ^ 40)
    (hlk : LOK (LD.append ⟨L, m⟩ (encA (recA g.prev g.stamp g.txn g.writes))).1.L) (hkd : (LD.keep ⟨L, m⟩ 0 (encA (recA g.prev g.stamp g.txn g.writes))).2.2 ≠ 12) :
    Ct Tryz.prog 15 #[ptr nb 0, g.v vk vs vw vp vr vc vh vd] w X F fun v wa w' => ∃ vo F' S', v = .tuple #[vo, I 0] ∧ (∀ k, F' k → F k ∨ made wa w' k) ∧ (∀ k, S' k → made wa w' k ∧ ¬ F' k) ∧
      Snk w' F' nb lb db (stepM s ⟨L, m⟩ g).1 (stepM s ⟨L, m⟩ g).2.L (stepM s ⟨L, m⟩ g).2.m ∧
      Sl w' S' 36 vo (if g.asks then [mHigh g.fr (stepM s ⟨L, m⟩ g).1.high] else []) := by
  intro w0 hk
  replace h := h.mv (hF.mv hk)
  have hT := hF.ft hk
  have hF0 : FX F (old w0) w0 := hF.kp hk
  have hat0 : g.at w0 (out F w0) vk vs vw vp vr vc vh vd := hat.mv fun k hk' hl' => ⟨⟨Nat.lt_of_lt_of_le hl' hk.size, (hS k hk').2⟩, hk.block k (hS k hk').1⟩
  have hw0 := hat0.writes
  have q1 := hat0.keys.one
  have q2 := hat0.seen.one
  have q3 := hw0.one
  have q4 := hat0.parts.one
  have q5 := hat0.ranges.one
  have q6 := hat0.recs.one
  have q7 := hat0.hists.one
  have q8 := hat0.pend.one
  obtain ⟨ab, an, ac, rfl⟩ := hw0.form
  generalize hr : stepM s ⟨L, m⟩ g = q
  unfold stepM at hr
  obtain ⟨FN, FG, mb, av, es, hdj, hN, hG, hs0, hg⟩ := id h
  have hb := hs0.box.mv (Mv.sub fun k hk' => hT.inX k (hN k hk'))
  rw [hdn] at hb
  refine ok_sink_Node_Step (fun g hg => ?_) (fun ch w hh => by obtain ⟨v, he, _⟩ := hh; cases he) ?_
  · have e : defG Tryz.f15 = some 50 := by kernel_rfl
    rw [e] at hg; cases hg; exact idle_Step
  unfold vc_sink_Node_Step
  repeat' first | with_reducible (first | apply condW_F | apply r_nil) | ((with_reducible apply m_fld1); (· exact qF); (· kernel_rfl); (· rfl); intro _ _ _) | ((with_reducible apply m_ld1); (· exact qF); (· exact qM); (· kernel_rfl); (· rfl)) | ((with_reducible apply chk_T); (· exact qC))
  refine r_ct0V (d_msgs_MayM (hat0.mv hT.s.mv) hsm (by omega)) (by kernel_rfl) hT.s.has fun w1 X1 hs1 => ?_
  have hT1 := hT.since hs1
  have h1 : Snk w1 F nb lb db s L m := h.mv (hs1.mvF hT.inX)
  clear hb hg hs0 hdj hN hG
  cases hok : g.asks with
  | false =>
    have hq : q = (s, ⟨L, m⟩) := by rw [← hr, if_neg (by simp [hok])]
    subst hq
    have hnot : ¬ (g.err = 0 ∧ g.to = 32 ∧ (g.kind = 12 ∨ g.kind = 13)) := by
      intro hh
      obtain ⟨h1, h2, h3⟩ := hh
      simp only [Msg.asks, h1, h2, decide_true, Bool.true_and, Bool.or_eq_false_iff, decide_eq_false_iff_not] at hok
      exact h3.elim hok.1 hok.2
    repeat' first | ((with_reducible refine r_neqT ?_ ?_); (· omega)) | with_reducible (first | apply condW_T | apply un_selT | apply un_selF | apply un_selTF | apply un_selU | apply grdV_onT | apply grdV_onF | apply grdW_onF | apply grdW_offF | apply grdW_U | apply rdW_pickT | apply rdW_pickF) | (with_reducible apply r_neq <;> intro _)
    all_goals first
      | exact hT1.fin fun wa hk9 => ⟨nil0, F, nX, rfl, fun _ h => .inl h, fun _ h => h.elim, h1.mv (hk9.mvA hT1.inX), by rw [if_neg (by simp)]; exact Sl.nil _ _ _⟩
      | (exfalso; omega)
  | true =>
    have hyes : g.err = 0 ∧ g.to = 32 ∧ (g.kind = 12 ∨ g.kind = 13) := by
      simpa [Msg.asks, and_assoc] using hok
    obtain ⟨y1, y2, y3⟩ := hyes
    rw [y1]
    rcases y3 with y3 | y3
    · repeat' first | ((with_reducible refine r_neqF ?_ ?_); (· omega)) | with_reducible (first | apply condW_F | apply un_selF | apply un_selFT | apply grdV_onF | apply grdW_onF | apply grdW_offT | apply rdW_pickF)
      refine jn_by (Q := fun K => ∀ w2 X2 F2, Ft w0 F w2 X2 F2 → Snk w2 F2 nb lb db q.1 q.2.L q.2.m → K w2 X2) ?_ fun K hK => ?_
      · intro w2 X2 F2 hT2 h2
        obtain ⟨FN, FG, mb, av, es, hdj, hN, hG, hs2, hg⟩ := id h2
        have hb2 := hs2.box.mv (Mv.sub fun k hk' => hT2.inX k (hN k hk'))
        repeat' first | ((with_reducible apply un_cell); (· rfl)) | with_reducible apply r_nil | ((with_reducible apply m_fld); (· exact qF); (· kernel_rfl); (· rfl); (· exact qN); intro _ _ _) | ((with_reducible apply m_ldA); (· exact qF); (· exact qM); (· kernel_rfl); (· rfl)) | ((with_reducible apply r_bld); (· kernel_rfl))
        refine m_bs1 hT2.s.has (by kernel_rfl) rfl fun v w3 X3 hs3 ho3 => ?_
        have ov := ho3.sl.one
        repeat' first | ((with_reducible apply chk_T); (· exact qC))
        have hT3 := hT2.since hs3
        refine hT3.fin fun wa hk9 => ⟨v, F2, blk v, rfl, hT3.grew hk9 fun _ h => h, fun k hk' => ?_, (h2.mv (hs3.mvF hT2.inX)).mv (hk9.mvA hT3.inX), ?_⟩
        · obtain ⟨a1, a2⟩ := ho3.ge hk'
          have b1 := hT2.s.kp.size
          have b3 := hk9.size
          refine ⟨⟨by omega, by omega⟩, fun hf => ?_⟩
          have := hT2.s.has k (hT2.inX k hf)
          omega
        · rw [if_pos rfl]
          exact (ho3.kp hk9).ow.tight.sl
      · obtain ⟨FN, FG, mb, av, es, hdj, hN, hG, hs1', hg⟩ := id h1
        have hb1 := hs1'.box.mv (Mv.sub fun k hk' => hT1.inX k (hN k hk'))
        repeat' first | ((with_reducible refine r_eqlT ?_ ?_); (· omega)) | with_reducible (first | apply un_selT | apply grdV_onT | apply grdW_onT | apply r_nil) | ((with_reducible apply m_fld); (· exact qF); (· kernel_rfl); (· rfl); (· exact qN); intro _ _ _) | ((with_reducible apply m_ldA); (· exact qF); (· exact qM); (· kernel_rfl); (· rfl))
        refine jn_by (Q := fun K1 => ∀ w2 X2, Since X1 w1 X2 w2 → K1 (I (g.stamp.cmp s.high)) w2 X2) ?_ fun K1 hK1 => ?_
        · intro w2 X2 hs2
          have hT2 := hT1.since hs2
          have h2 := h1.mv (hs2.mvF hT1.inX)
          have hb2 := hb1.since hs2
          have hno : s.fitsM g = false → K w2 X2 := fun hf => hK _ _ F hT2 (by
            have hq : q = (s, ⟨L, m⟩) := by rw [← hr, if_neg (by simp [hf])]
            rw [hq]; exact h2)
          repeat' first | with_reducible (first | apply condW_T | apply condW_F | apply un_selT | apply un_selFT | apply grdV_onT | apply grdW_onT | apply grdW_offT | apply rdW_pickT | apply rdW_pickF | apply r_nil) | (with_reducible apply r_gtr <;> intro _) | ((with_reducible apply m_fld); (· exact qF); (· kernel_rfl); (· rfl); (· exact qN); intro _ _ _) | ((with_reducible apply m_ldA); (· exact qF); (· exact qM); (· kernel_rfl); (· rfl)) | ((with_reducible apply r_bld); (· kernel_rfl)) | ((with_reducible refine r_eqS _ _ ?_ ?_ ?_); (· kernel_rfl); all_goals intros)
          case refine_2.k =>
            have hp : g.prev = s.high := by first | assumption | (ext <;> assumption)
            have hfit : s.fitsM g = true := by
              simp only [SM.fitsM, y3, decide_true, Bool.true_and, Bool.and_eq_true, decide_eq_true_eq]
              exact ⟨by assumption, hp⟩
            rw [hok, hfit, Bool.true_and, if_pos rfl] at hr
            dsimp only at hr
            have hap := Msg.asks_apply hok y3
            have henc : ∀ wa, Kp X2 w2 wa → Ct Tryz.prog 91 #[(recA g.prev g.stamp g.txn g.writes).v nil0 (.slice ab an ac) nil0 nil0 nil0 nil0] wa (out F wa) nX fun v wb w' =>
                if (0 : Nat) ≠ 0 then v = .tuple #[.slice none 0 0, I (0 : Nat)] else ∃ vb, v = .tuple #[vb, I 0] ∧ Own w' (made wb w') wb.heap.size 5 1 vb ((encA (recA g.prev g.stamp g.txn g.writes)).map U1) := fun wa hk9 => by
              have hwa : Sl wa (out F wa) 4 (.slice ab an ac) (g.writes.map KV.l) := hw0.mv fun k hk' hl' => ⟨⟨Nat.lt_of_lt_of_le hk'.1 (Nat.le_trans hT2.s.kp.size hk9.size), hk'.2⟩, (hk9.block k (hT2.s.sub k hk')).trans (hT2.s.kp.block k hk')⟩
              refine (d_recs_EncodeA (r := recA g.prev g.stamp g.txn g.writes) ⟨Sl.nil _ _ _, hwa, Sl.nil _ _ _, Sl.nil _ _ _, Rws.nil _ _ _, Rws.nil _ _ _⟩ ?_ rfl (fun _ => ⟨hl, hkl, hen hap⟩)).mono fun v wb w' _ hq => ?_
              · exact ⟨by simp [recA], by simp [recA]; omega, by simp [recA], fun x hx => by have := hkl x hx; omega, ⟨by simp [recA, State.zero, HSmall], by simp [recA, State.zero, PSmall], by simp [recA, State.zero, HKeys], by simp [recA, State.zero, PKeys]⟩⟩
              · rw [recA_err hap, if_neg (by simp)] at hq
                rw [if_neg (by simp)]
                exact hq
            refine hT2.call (d_sink_keep (r := recA g.prev g.stamp g.txn g.writes) (e := 0) h2 hL hsl (hT2.fx fun _ h => h) henc rfl rfl rfl rfl rfl rfl hlk hkd) (by kernel_rfl) (fun _ h => h) fun v wa3 w3 X3 hq3 hle3 hin3 hT3 hc3 => ?_
            obtain ⟨rfl, F3, hF3, h3⟩ := hq3
            generalize LD.keep ⟨L, m⟩ 0 (encA (recA g.prev g.stamp g.txn g.writes)) = kp at hr h3 ⊢
            have hT3' : Ft w0 F w3 X3 F3 := hT3.less hF3
            repeat' first | with_reducible (first | apply condW_T | apply condW_F) | (with_reducible apply r_eql <;> intro _) | ((with_reducible apply m_ext); (· rfl))
            · rename_i hz
              have hz0 : kp.2.2 = 0 := by omega
              rw [if_pos hz0] at hr
              refine hT3'.call (d_sink_applyS (l := g.writes) h3 (hT3'.fx fun _ h => h) (S := out F w0) (hw0.mv fun k hk' _ => ⟨hk', hT3'.s.kp.block k hk'⟩) (fun k hk' => ⟨?_, ?_⟩) (by omega) hd) (by kernel_rfl) (fun _ h => h) fun v wa4 w4 X4 hq4 hle4 hin4 hT4 hc4 => ?_
              · exact hT3'.s.sub k hk'
              · exact fun hf => hT3'.no hf hk'
              obtain ⟨rfl, F4, hF4, h4⟩ := hq4
              have hT4' : Ft w0 F w4 X4 F4 := hT4.less hF4
              obtain ⟨FN4, FG4, mb4, av4, es4, hdj4, hN4, hG4, hs4, hg4⟩ := id h4
              have hb4 := hs4.box.mv (Mv.sub fun k hk' => hT4'.inX k (hN4 k hk'))
              rw [show (s.apply g.txn g.stamp g.writes).since = s.since from rfl] at hb4
              repeat' first | with_reducible apply r_nil | ((with_reducible apply m_fld1); (· exact qF); (· kernel_rfl); (· rfl); intro _ _ _) | ((with_reducible apply m_ld1); (· exact qF); (· exact qM); (· kernel_rfl); (· rfl)) | ((with_reducible apply r_add); (· omega); (· omega))
              refine m_stC (o := 2) hb4 (by omega) (by kernel_rfl) (by simp) rfl hT4'.s.has fun w5 X5 c5 hr5 => ?_
              have hT5 : Ft w0 F w5 X5 F4 := hT4'.chg c5 (fun k hk' => by subst hk'; exact hN4 _ hs4.box.1) fun k hk' => .inl hk'
              have h5 := Snk.setSince hdj4 hN4 hG4 hT4'.inX hs4 hg4 c5 (s.since + 1) hr5
              refine hK _ _ F4 hT5 ?_
              rw [← hr]
              exact h5
            · rename_i hz
              have hz0 : kp.2.2 ≠ 0 := by omega
              rw [if_neg hz0] at hr
              refine hK _ _ F3 hT3' ?_
              rw [← hr]
              exact h3
          all_goals exact hno (by simp [SM.fitsM, *])
        · repeat' first | with_reducible apply gE_T | (refine r_pure (c_hlc_Compare g.stamp s.high) (by kernel_rfl) hT1.s.has fun w2 X2 hs2 => ?_)
          exact hK1 _ _ hs2
    · repeat' first | ((with_reducible refine r_neqT ?_ ?_); (· omega)) | ((with_reducible refine r_neqF ?_ ?_); (· omega)) | with_reducible (first | apply condW_F | apply un_selT | apply un_selF | apply grdV_onT | apply grdV_onF | apply grdW_onF | apply rdW_pickT | apply rdW_pickF)
      refine jn_by (Q := fun K => ∀ w2 X2 F2, Ft w0 F w2 X2 F2 → Snk w2 F2 nb lb db q.1 q.2.L q.2.m → K w2 X2) ?_ fun K hK => ?_
      · intro w2 X2 F2 hT2 h2
        obtain ⟨FN, FG, mb, av, es, hdj, hN, hG, hs2, hg⟩ := id h2
        have hb2 := hs2.box.mv (Mv.sub fun k hk' => hT2.inX k (hN k hk'))
        repeat' first | ((with_reducible apply un_cell); (· rfl)) | with_reducible apply r_nil | ((with_reducible apply m_fld); (· exact qF); (· kernel_rfl); (· rfl); (· exact qN); intro _ _ _) | ((with_reducible apply m_ldA); (· exact qF); (· exact qM); (· kernel_rfl); (· rfl)) | ((with_reducible apply r_bld); (· kernel_rfl))
        refine m_bs1 hT2.s.has (by kernel_rfl) rfl fun v w3 X3 hs3 ho3 => ?_
        have ov := ho3.sl.one
        repeat' first | ((with_reducible apply chk_T); (· exact qC))
        have hT3 := hT2.since hs3
        refine hT3.fin fun wa hk9 => ⟨v, F2, blk v, rfl, hT3.grew hk9 fun _ h => h, fun k hk' => ?_, (h2.mv (hs3.mvF hT2.inX)).mv (hk9.mvA hT3.inX), ?_⟩
        · obtain ⟨a1, a2⟩ := ho3.ge hk'
          have b1 := hT2.s.kp.size
          have b3 := hk9.size
          refine ⟨⟨by omega, by omega⟩, fun hf => ?_⟩
          have := hT2.s.has k (hT2.inX k hf)
          omega
        · rw [if_pos rfl]
          exact (ho3.kp hk9).ow.tight.sl
      · obtain ⟨FN, FG, mb, av, es, hdj, hN, hG, hs1', hg⟩ := id h1
        have hb1 := hs1'.box.mv (Mv.sub fun k hk' => hT1.inX k (hN k hk'))
        have hno : ∀ w2 X2, Since X1 w1 X2 w2 → K w2 X2 := fun w2 X2 hs2 => hK _ _ F (hT1.since hs2) (by
            have hq : q = (s, ⟨L, m⟩) := by rw [← hr, if_neg (by simp [SM.fitsM, y3])]
            rw [hq]; exact h1.mv (hs2.mvF hT1.inX))
        repeat' first | ((with_reducible refine r_eqlF ?_ ?_); (· omega)) | with_reducible (first | apply un_selFT | apply grdW_offT)
        refine jn_by (Q := fun K1 => ∀ v, K1 v w1 X1) ?_ fun K1 hK1 => ?_
        · intro vc'
          repeat' first | with_reducible (first | apply condW_F | apply un_selFT | apply grdW_offT | apply rdW_pickF)
          all_goals exact hno _ _ (Since.refl' hT1.s.has)
        · repeat' first | with_reducible apply gE_FT
          all_goals exact hK1 _
end Go.Proofs.YtpdkoaklobnegaaGreat
namespace Go.Proofs.YtpdkoaklobnegaaGreat
open Go.Eng
set_option maxRecDepth 100000
set_option maxHeartbeats 1000000
set_option linter.unusedVariables false
set_option linter.unusedSimpArgs false
attribute [local irreducible] un jn chk fld ld1 ldA st1 ixS lnS lnT bld cvI cvF ixA bsS apS rdV rdW grdW eW eV eU eC eF gE condW fin pickN nilN binS vS lp0 lp1 lp2 lp3 lp4 lp5 lp6 lp7 nx0 nx1 nx2 nx3 nx4 nx5 nx6 nx7
theorem fewN_le {n more : Int} (h1 : 0 ≤ n) (h2 : n ≤ 40002) (h3 : 0 ≤ more) : 0 ≤ fewN n more 20000 ∧ fewN n more 20000 ≤ 40001 ∧ (fewN n more 20000 ≤ 20000 → fewN n more 20000 = n + more) := by
  unfold fewN; split <;> omega
theorem r_few {R : Ending → World → Prop} {w : World} {X : XS} {b : Bool} {n more : Int} {N : Value → World → XS → Prop} (h1 : 0 ≤ n ∧ n ≤ 40002) (h2 : 0 ≤ more ∧ more ≤ 2 ^ 42) (hX : ∀ k, X k → k < w.heap.size)
    (k : ∀ m w' X', 0 ≤ m ∧ m ≤ 40001 ∧ (m ≤ 20000 → m = n + more) → Since X w X' w' → N (I m) w' X') : eC Tryz.prog R X w b 40 #[I n, I more, I 20000] N := by
  obtain ⟨a1, a2, a3⟩ := fewN_le h1.1 h1.2 h2.1
  exact r_pure (c_raceref_few (by omega) h2 (by decide)) (by kernel_rfl) hX fun w' X' hs => k _ w' X' ⟨a1, a2, a3⟩ hs
abbrev AnW : Value → World → World → Prop := fun v _ _ => ∃ n : Int, v = I n ∧ 0 ≤ n ∧ n ≤ 40001
theorem d_wt_Texts {w : World} {X : XS} {a : Value} {xs : List BA} (ha : Sl w X 1 a (xs.map S1)) (hsz : ∀ x ∈ xs, x.size ≤ 2 ^ 40) : Ct Tryz.prog 23 #[a, I 20000] w X nX AnW := by
  intro w0 hk
  replace ha := ha.mv hk.mvo
  have hla := ha.len'
  apply ok_raceref_WeighTexts; unfold vc_raceref_WeighTexts
  have hs := Since.init w0
  refine lp2_of (fun n a b w X => ∃ (i : Nat) (s : Int), a = I i ∧ b = I s ∧ n = (xs).length - i ∧ i ≤ (xs).length ∧ (0 ≤ s ∧ s ≤ 40001) ∧ Since (old w0) w0 X w) (xs).length ⟨0, _, rfl, rfl, rfl, Nat.zero_le _, by omega, hs⟩ ?_
  clear hs
  rintro n a b w X ⟨i, s, rfl, rfl, rfl, hi, hw, hs⟩
  rcases at_or (xs) i with ⟨hlt, x, hx, hd⟩ | ⟨hge, hd⟩
  · have z1 := hsz x (List.mem_of_getElem? hx)
    repeat' first | ((with_reducible refine r_lssT ?_ ?_); (· omega)) | with_reducible (first | apply condW_T | apply condW_F | apply un_selT | apply grdV_onT | apply rdW_pickT) | (with_reducible apply r_leq <;> intro _) | ((with_reducible apply m_ld1); (· exact qF); (· exact qM); (· kernel_rfl); (· rfl)) | ((with_reducible apply m_lnS); (· exact qO); (· kernel_rfl)) | ((with_reducible apply r_lnT); (· kernel_rfl)) | ((with_reducible apply m_ixS); (· exact qO); (try (case hz => rfl)); (case hr => exact qR); (try (case hz => omega)); (case ht => kernel_rfl); (case hs => kernel_rfl); intro _ _ _) | ((with_reducible apply r_add); (· omega); (· omega)) | (with_reducible refine r_few (by omega) (by omega) hs.has fun m w X hm hs1 => ?_; replace hs := hs.trans hs1)
    · exact nx2_of (xs.length - (i + 1)) (by omega) ⟨i + 1, _, by simp, rfl, rfl, by omega, by omega, hs⟩
    · exact fin_ret0 hs fun wa hk9 => ⟨s, rfl, by omega, by omega⟩
  · repeat' first | ((with_reducible refine r_lssF ?_ ?_); (· omega)) | with_reducible (first | apply condW_F | apply un_selFT | apply grdW_offT | apply rdW_pickF) | ((with_reducible apply m_lnS); (· exact qO); (· kernel_rfl))
    all_goals exact fin_ret0 hs fun wa hk9 => ⟨s, rfl, by omega, by omega⟩
theorem d_wt_Seen {w : World} {X : XS} {a : Value} {xs : List SeenD} (ha : Sl w X 7 a (xs.map SeenD.l)) (hsz : ∀ x ∈ xs, x.key.size ≤ 2 ^ 40 ∧ x.val.text.size ≤ 2 ^ 40) : Ct Tryz.prog 108 #[a, I 20000] w X nX AnW := by
  intro w0 hk
  replace ha := ha.mv hk.mvo
  have hla := ha.len'
  apply ok_raceref_WeighSeen; unfold vc_raceref_WeighSeen
  have hs := Since.init w0
  refine lp2_of (fun n a b w X => ∃ (i : Nat) (s : Int), a = I i ∧ b = I s ∧ n = (xs).length - i ∧ i ≤ (xs).length ∧ (0 ≤ s ∧ s ≤ 40001) ∧ Since (old w0) w0 X w) (xs).length ⟨0, _, rfl, rfl, rfl, Nat.zero_le _, by omega, hs⟩ ?_
  clear hs
  rintro n a b w X ⟨i, s, rfl, rfl, rfl, hi, hw, hs⟩
  rcases at_or (xs) i with ⟨hlt, x, hx, hd⟩ | ⟨hge, hd⟩
  · have z1 := hsz x (List.mem_of_getElem? hx)
    repeat' first | ((with_reducible refine r_lssT ?_ ?_); (· omega)) | with_reducible (first | apply condW_T | apply condW_F | apply un_selT | apply grdV_onT | apply rdW_pickT) | (with_reducible apply r_leq <;> intro _) | ((with_reducible apply m_fld1); (· exact qF); (· kernel_rfl); (· rfl); intro _ _ _) | ((with_reducible apply m_fld); (· exact qF); (· kernel_rfl); (· rfl); (· exact qN); intro _ _ _) | ((with_reducible apply m_ld1); (· exact qF); (· exact qM); (· kernel_rfl); (· rfl)) | ((with_reducible apply m_lnS); (· exact qO); (· kernel_rfl)) | ((with_reducible apply r_lnT); (· kernel_rfl)) | ((with_reducible apply m_ixS); (· exact qO); (try (case hz => rfl)); (case hr => exact qR); (try (case hz => omega)); (case ht => kernel_rfl); (case hs => kernel_rfl); intro _ _ _) | ((with_reducible apply r_add); (· omega); (· omega)) | (with_reducible refine r_few (by omega) (by omega) hs.has fun m w X hm hs1 => ?_; replace hs := hs.trans hs1)
    · exact nx2_of (xs.length - (i + 1)) (by omega) ⟨i + 1, _, by simp, rfl, rfl, by omega, by omega, hs⟩
    · exact fin_ret0 hs fun wa hk9 => ⟨s, rfl, by omega, by omega⟩
  · repeat' first | ((with_reducible refine r_lssF ?_ ?_); (· omega)) | with_reducible (first | apply condW_F | apply un_selFT | apply grdW_offT | apply rdW_pickF) | ((with_reducible apply m_lnS); (· exact qO); (· kernel_rfl))
    all_goals exact fin_ret0 hs fun wa hk9 => ⟨s, rfl, by omega, by omega⟩
theorem d_wt_Writes {w : World} {X : XS} {a : Value} {xs : List KV} (ha : Sl w X 4 a (xs.map KV.l)) (hsz : ∀ x ∈ xs, x.key.size ≤ 2 ^ 40 ∧ x.val.text.size ≤ 2 ^ 40) :
    Ct Tryz.prog 10 #[a, I 20000] w X nX fun v _ _ => ∃ n : Int, v = I n ∧ 0 ≤ n ∧ n ≤ 40001 ∧ (n ≤ 20000 → (wsum xs : Int) ≤ n) := by
  intro w0 hk
  replace ha := ha.mv hk.mvo
  have hla := ha.len'
  apply ok_raceref_WeighWrites; unfold vc_raceref_WeighWrites
  have hs := Since.init w0
  refine lp2_of (fun n a b w X => ∃ (i : Nat) (s : Int), a = I i ∧ b = I s ∧ n = xs.length - i ∧ i ≤ xs.length ∧ (0 ≤ s ∧ s ≤ 40001 ∧ (s ≤ 20000 → (wsum (xs.take i) : Int) ≤ s)) ∧ Since (old w0) w0 X w) xs.length ⟨0, _, rfl, rfl, rfl, Nat.zero_le _, by simp [wsum], hs⟩ ?_
  clear hs
  rintro n a b w X ⟨i, s, rfl, rfl, rfl, hi, hw, hs⟩
  rcases at_or (xs) i with ⟨hlt, x, hx, hd⟩ | ⟨hge, hd⟩
  · have z1 := hsz x (List.mem_of_getElem? hx)
    have hsum : wsum (xs.take (i + 1)) = wsum (xs.take i) + (1 + x.key.size + x.val.text.size) := by rw [List.take_add_one, hx]; simp [wsum]
    repeat' first | ((with_reducible refine r_lssT ?_ ?_); (· omega)) | with_reducible (first | apply condW_T | apply condW_F | apply un_selT | apply grdV_onT | apply rdW_pickT) | (with_reducible apply r_leq <;> intro _) | ((with_reducible apply m_fld1); (· exact qF); (· kernel_rfl); (· rfl); intro _ _ _) | ((with_reducible apply m_fld); (· exact qF); (· kernel_rfl); (· rfl); (· exact qN); intro _ _ _) | ((with_reducible apply m_ld1); (· exact qF); (· exact qM); (· kernel_rfl); (· rfl)) | ((with_reducible apply m_lnS); (· exact qO); (· kernel_rfl)) | ((with_reducible apply r_lnT); (· kernel_rfl)) | ((with_reducible apply m_ixS); (· exact qO); (try (case hz => rfl)); (case hr => exact qR); (try (case hz => omega)); (case ht => kernel_rfl); (case hs => kernel_rfl); intro _ _ _) | ((with_reducible apply r_add); (· omega); (· omega)) | (with_reducible refine r_few (by omega) (by omega) hs.has fun m w X hm hs1 => ?_; replace hs := hs.trans hs1)
    · exact nx2_of (xs.length - (i + 1)) (by omega) ⟨i + 1, _, by simp, rfl, rfl, by omega, by rw [hsum]; omega, hs⟩
    · exact fin_ret0 hs fun wa hk9 => ⟨s, rfl, by omega, by omega, fun h => by omega⟩
  · have hil : i = xs.length := by omega
    subst hil
    rw [List.take_length] at hw
    repeat' first | ((with_reducible refine r_lssF ?_ ?_); (· omega)) | with_reducible (first | apply condW_F | apply un_selFT | apply grdW_offT | apply rdW_pickF) | ((with_reducible apply m_lnS); (· exact qO); (· kernel_rfl))
    all_goals exact fin_ret0 hs fun wa hk9 => ⟨s, rfl, by omega, by omega, hw.2.2⟩
def HText (l : List Hist) : Prop := ∀ h ∈ l, h.key.size ≤ 2 ^ 40 ∧ ∀ v ∈ h.vers, v.val.text.size ≤ 2 ^ 40
def KText (l : List KV) : Prop := ∀ x ∈ l, x.key.size ≤ 2 ^ 40 ∧ x.val.text.size ≤ 2 ^ 40
def PText (l : List Pend) : Prop := ∀ p ∈ l, (∀ k ∈ p.reads, k.size ≤ 2 ^ 40) ∧ KText p.writes
theorem d_wt_Pendings {w : World} {X : XS} {a : Value} {xs : List Pend} (ha : Pends w X a xs) (hsz : PText xs) : Ct Tryz.prog 177 #[a, I 20000] w X nX AnW := by
  intro w0 hk
  replace ha := ha.mv hk.mvo
  have hla := ha.len
  apply ok_raceref_WeighPendings; unfold vc_raceref_WeighPendings
  have hs := Since.init w0
  refine lp2_of (fun n a b w X => ∃ (i : Nat) (s : Int), a = I i ∧ b = I s ∧ n = (xs).length - i ∧ i ≤ (xs).length ∧ (0 ≤ s ∧ s ≤ 40001) ∧ Since (old w0) w0 X w) (xs).length ⟨0, _, rfl, rfl, rfl, Nat.zero_le _, by omega, hs⟩ ?_
  clear hs
  rintro n a b w X ⟨i, s, rfl, rfl, rfl, hi, hw, hs⟩
  rcases at_or (xs) i with ⟨hlt, x, hx, hd⟩ | ⟨hge, hd⟩
  · obtain ⟨z1, z2⟩ := hsz x (List.mem_of_getElem? hx)
    repeat' first | ((with_reducible refine r_lssT ?_ ?_); (· omega)) | with_reducible (first | apply condW_T | apply condW_F | apply un_selT | apply grdV_onT | apply rdW_pickT) | (with_reducible apply r_leq <;> intro _) | ((with_reducible apply m_fld1); (· exact qF); (· kernel_rfl); (· rfl); intro _ _ _) | ((with_reducible apply m_ld1); (· exact qF); (· exact qM); (· kernel_rfl); (· rfl)) | ((with_reducible apply m_lnR); (· assumption); (· kernel_rfl)) | ((with_reducible apply m_ixP); (· assumption); (try (case hz => rfl)); (case hr => exact qR); (try (case hz => omega)); (case ht => kernel_rfl); (case hs => kernel_rfl); intros) | ((with_reducible apply r_add); (· omega); (· omega)) | (with_reducible refine r_few (by omega) (by omega) hs.has fun m w X hm hs1 => ?_; replace hs := hs.trans hs1) | (refine r_ct0 (d_wt_Texts (Sl.mv (by assumption) hs.mv) z1) (by kernel_rfl) hs.has ?_; rintro _ wa w X ⟨n1, rfl, hn1, hn2⟩ hle hin hs1; replace hs := hs.trans hs1) | (refine r_ct0 (d_wt_Writes (Sl.mv (by assumption) hs.mv) z2) (by kernel_rfl) hs.has ?_; rintro _ wa w X ⟨n2, rfl, hn3, hn4, _⟩ hle hin hs1; replace hs := hs.trans hs1)
    all_goals first
      | exact nx2_of (xs.length - (i + 1)) (by omega) ⟨i + 1, _, by simp, rfl, rfl, by omega, by omega, hs⟩
      | exact fin_ret0 hs fun wa hk9 => ⟨s, rfl, by omega, by omega⟩
  · repeat' first | ((with_reducible refine r_lssF ?_ ?_); (· omega)) | with_reducible (first | apply condW_F | apply un_selFT | apply grdW_offT | apply rdW_pickF) | ((with_reducible apply m_lnR); (· assumption); (· kernel_rfl))
    all_goals exact fin_ret0 hs fun wa hk9 => ⟨s, rfl, by omega, by omega⟩
theorem d_wt_Histories {w : World} {X : XS} {a : Value} {xs : List Hist} (ha : Hists w X a xs) (hsz : HText xs) : Ct Tryz.prog 176 #[a, I 20000] w X nX AnW := by
  intro w0 hk
  replace ha := ha.mv hk.mvo
  have hla := ha.len
  apply ok_raceref_WeighHistories; unfold vc_raceref_WeighHistories
  have hs := Since.init w0
  refine lp3_of (fun n a _ b w X => ∃ (i : Nat) (s : Int), a = I i ∧ b = I s ∧ n = xs.length - i ∧ i ≤ xs.length ∧ (0 ≤ s ∧ s ≤ 40001) ∧ Since (old w0) w0 X w) xs.length ⟨0, _, rfl, rfl, rfl, Nat.zero_le _, by omega, hs⟩ ?_
  clear hs
  rintro n a a2 b w X ⟨i, s, rfl, rfl, rfl, hi, hw, hs⟩
  rcases at_or (xs) i with ⟨hlt, x, hx, hd⟩ | ⟨hge, hd⟩
  · obtain ⟨z1, z2⟩ := hsz x (List.mem_of_getElem? hx)
    repeat' first | ((with_reducible refine r_lssT ?_ ?_); (· omega)) | with_reducible (first | apply condW_T | apply condW_F | apply un_selT | apply grdV_onT | apply rdW_pickT) | (with_reducible apply r_leq <;> intro _) | ((with_reducible apply m_fld1); (· exact qF); (· kernel_rfl); (· rfl); intro _ _ _) | ((with_reducible apply m_ld1); (· exact qF); (· exact qM); (· kernel_rfl); (· rfl)) | ((with_reducible apply m_lnR); (· assumption); (· kernel_rfl)) | ((with_reducible apply r_lnT); (· kernel_rfl)) | ((with_reducible apply m_ixH); (· assumption); (try (case hz => rfl)); (case hr => exact qR); (try (case hz => omega)); (case ht => kernel_rfl); (case hs => kernel_rfl); intros) | ((with_reducible apply r_add); (· omega); (· omega)) | (with_reducible refine r_few (by omega) (by omega) hs.has fun m w X hm hs1 => ?_; replace hs := hs.trans hs1)
    · have hl9 := Sl.len' ‹Sl w0 (old w0) 6 _ (List.map Ver.l x.vers)›
      refine lp2_of (fun n a b w X => ∃ (k : Nat) (s : Int), a = I k ∧ b = I s ∧ n = x.vers.length - k ∧ k ≤ x.vers.length ∧ (0 ≤ s ∧ s ≤ 40001) ∧ Since (old w0) w0 X w) x.vers.length ⟨0, _, rfl, rfl, rfl, Nat.zero_le _, by omega, hs⟩ ?_
      clear hs hw
      rintro n a b w X ⟨k, s, rfl, rfl, rfl, hk, hw, hs⟩
      rcases at_or x.vers k with ⟨hlt2, y, hy, hd2⟩ | ⟨hge2, hd2⟩
      · have z3 := z2 y (List.mem_of_getElem? hy)
        repeat' first | ((with_reducible refine r_lssT ?_ ?_); (· omega)) | with_reducible (first | apply condW_T | apply condW_F | apply un_selT | apply grdV_onT | apply rdW_pickT) | (with_reducible apply r_leq <;> intro _) | ((with_reducible apply m_fld1); (· exact qF); (· kernel_rfl); (· rfl); intro _ _ _) | ((with_reducible apply m_fld); (· exact qF); (· kernel_rfl); (· rfl); (· exact qN); intro _ _ _) | ((with_reducible apply m_ld1); (· exact qF); (· exact qM); (· kernel_rfl); (· rfl)) | ((with_reducible apply m_lnS); (· exact qO); (· kernel_rfl)) | ((with_reducible apply r_lnT); (· kernel_rfl)) | ((with_reducible apply m_ixS); (· exact qO); (try (case hz => rfl)); (case hr => exact qR); (try (case hz => omega)); (case ht => kernel_rfl); (case hs => kernel_rfl); intro _ _ _) | ((with_reducible apply m_ixH); (· assumption); (try (case hz => rfl)); (case hr => exact qR); (try (case hz => omega)); (case ht => kernel_rfl); (case hs => kernel_rfl); intros) | ((with_reducible apply r_add); (· omega); (· omega)) | (with_reducible refine r_few (by omega) (by omega) hs.has fun m w X hm hs1 => ?_; replace hs := hs.trans hs1)
        · exact nx2_of (x.vers.length - (k + 1)) (by omega) ⟨k + 1, _, by simp, rfl, rfl, by omega, by omega, hs⟩
        · exact nx3_of (xs.length - (i + 1)) (by omega) ⟨i + 1, _, by simp, rfl, rfl, by omega, by omega, hs⟩
      · repeat' first | ((with_reducible refine r_lssF ?_ ?_); (· omega)) | with_reducible (first | apply condW_F | apply un_selFT | apply grdW_offT | apply rdW_pickF) | ((with_reducible apply m_fld1); (· exact qF); (· kernel_rfl); (· rfl); intro _ _ _) | ((with_reducible apply m_ld1); (· exact qF); (· exact qM); (· kernel_rfl); (· rfl)) | ((with_reducible apply m_lnS); (· exact qO); (· kernel_rfl)) | ((with_reducible apply m_ixH); (· assumption); (try (case hz => rfl)); (case hr => exact qR); (try (case hz => omega)); (case ht => kernel_rfl); (case hs => kernel_rfl); intros) | ((with_reducible apply r_add); (· omega); (· omega))
        all_goals exact nx3_of (xs.length - (i + 1)) (by omega) ⟨i + 1, _, by simp, rfl, rfl, by omega, by omega, hs⟩
    · exact fin_ret0 hs fun wa hk9 => ⟨s, rfl, by omega, by omega⟩
  · repeat' first | ((with_reducible refine r_lssF ?_ ?_); (· omega)) | with_reducible (first | apply condW_F | apply un_selFT | apply grdW_offT | apply rdW_pickF) | ((with_reducible apply m_lnR); (· assumption); (· kernel_rfl))
    all_goals exact fin_ret0 hs fun wa hk9 => ⟨s, rfl, by omega, by omega⟩
theorem d_wt_State {w : World} {X : XS} {s : State} {vh vp : Value} (ha : Hists w X vh s.hists) (hb : Pends w X vp s.pend) (h1 : HText s.hists) (h2 : PText s.pend) : Ct Tryz.prog 110 #[s.v vh vp, I 20000] w X nX AnW := by
  intro w0 hk
  replace ha := ha.mv hk.mvo
  replace hb := hb.mv hk.mvo
  apply ok_raceref_WeighState; unfold vc_raceref_WeighState
  have hs := Since.init w0
  refine r_ct0 (d_wt_Histories ha h1) (by kernel_rfl) hs.has ?_
  rintro _ wa w X ⟨n1, rfl, hn1, hn2⟩ hle hin hs1
  replace hs := hs.trans hs1
  refine r_ct0 (d_wt_Pendings (Pends.mv hb hs.mv) h2) (by kernel_rfl) hs.has ?_
  rintro _ wa w X ⟨n2, rfl, hn3, hn4⟩ hle hin hs1
  replace hs := hs.trans hs1
  repeat' first | (with_reducible refine r_few (by omega) (by omega) hs.has fun m w X hm hs1 => ?_; replace hs := hs.trans hs1)
  exact fin_ret0 hs fun wa hk9 => ⟨_, rfl, by omega, by omega⟩
structure Rec.text (r : Rec) : Prop where
  reads : ∀ k ∈ r.reads, k.size ≤ 2 ^ 40
  writes : KText r.writes
  pairs : KText r.pairs
  h : HText r.state.hists
  p : PText r.state.pend
theorem d_wt_Rec {w : World} {X : XS} {r : Rec} {vr vw vp vq vh vd : Value} (ha : r.at w X vr vw vp vq vh vd) (ht : r.text) : Ct Tryz.prog 109 #[r.v vr vw vp vq vh vd, I 20000] w X nX AnW := by
  intro w0 hk
  obtain ⟨h1, h2, h3, h4, h5, h6⟩ := ha.mv hk.mvo
  have hla := h4.len'
  have hl3 := h3.len'
  apply ok_raceref_WeighRec; unfold vc_raceref_WeighRec
  have hs := Since.init w0
  refine r_ct0 (d_wt_Texts h1 ht.reads) (by kernel_rfl) hs.has ?_
  rintro _ wa w X ⟨n1, rfl, hn1, hn2⟩ hle hin hs1
  replace hs := hs.trans hs1
  refine r_ct0 (d_wt_Writes (h2.mv hs.mv) ht.writes) (by kernel_rfl) hs.has ?_
  rintro _ wa w X ⟨n2, rfl, hn3, hn4, _⟩ hle hin hs1
  replace hs := hs.trans hs1
  repeat' first | ((with_reducible apply m_lnS); (· exact qO); (· kernel_rfl)) | ((with_reducible apply r_add); (· omega); (· omega)) | (with_reducible apply r_min) | (with_reducible refine r_few (by omega) (by omega) hs.has fun m w X hm hs1 => ?_; replace hs := hs.trans hs1)
  refine lp2_of (fun n a b w X => ∃ (i : Nat) (s : Int), a = I i ∧ b = I s ∧ n = (r.pairs).length - i ∧ i ≤ (r.pairs).length ∧ (0 ≤ s ∧ s ≤ 40001) ∧ Since (old w0) w0 X w) (r.pairs).length ⟨0, _, rfl, rfl, rfl, Nat.zero_le _, by omega, hs⟩ ?_
  clear hs
  rintro n a b w X ⟨i, s, rfl, rfl, rfl, hi, hw, hs⟩
  rcases at_or (r.pairs) i with ⟨hlt, x, hx, hd⟩ | ⟨hge, hd⟩
  · have z1 := ht.pairs x (List.mem_of_getElem? hx)
    repeat' first | ((with_reducible refine r_lssT ?_ ?_); (· omega)) | with_reducible (first | apply condW_T | apply condW_F | apply un_selT | apply grdV_onT | apply rdW_pickT) | (with_reducible apply r_leq <;> intro _) | ((with_reducible apply m_fld1); (· exact qF); (· kernel_rfl); (· rfl); intro _ _ _) | ((with_reducible apply m_fld); (· exact qF); (· kernel_rfl); (· rfl); (· exact qN); intro _ _ _) | ((with_reducible apply m_ld1); (· exact qF); (· exact qM); (· kernel_rfl); (· rfl)) | ((with_reducible apply m_lnS); (· exact qO); (· kernel_rfl)) | ((with_reducible apply r_lnT); (· kernel_rfl)) | ((with_reducible apply m_ixS); (· exact qO); (try (case hz => rfl)); (case hr => exact qR); (try (case hz => omega)); (case ht => kernel_rfl); (case hs => kernel_rfl); intro _ _ _) | ((with_reducible apply r_add); (· omega); (· omega)) | (with_reducible refine r_few (by omega) (by omega) hs.has fun m w X hm hs1 => ?_; replace hs := hs.trans hs1)
    · exact nx2_of (r.pairs.length - (i + 1)) (by omega) ⟨i + 1, _, by simp, rfl, rfl, by omega, by omega, hs⟩
    · refine r_ct0 (d_wt_State (s := r.state) (Hists.mv h5 hs.mv) (Pends.mv h6 hs.mv) ht.h ht.p) (by kernel_rfl) hs.has ?_
      rintro _ wa w X ⟨n3, rfl, hn5, hn6⟩ hle hin hs1
      replace hs := hs.trans hs1
      repeat' first | (with_reducible refine r_few (by omega) (by omega) hs.has fun m w X hm hs1 => ?_; replace hs := hs.trans hs1)
      exact fin_ret0 hs fun wa hk9 => ⟨_, rfl, by omega, by omega⟩
  · repeat' first | ((with_reducible refine r_lssF ?_ ?_); (· omega)) | with_reducible (first | apply condW_F | apply un_selFT | apply grdW_offT | apply rdW_pickF) | ((with_reducible apply m_lnS); (· exact qO); (· kernel_rfl)) | ((with_reducible apply r_add); (· omega); (· omega))
    all_goals (refine r_ct0 (d_wt_State (s := r.state) (Hists.mv h5 hs.mv) (Pends.mv h6 hs.mv) ht.h ht.p) (by kernel_rfl) hs.has ?_; rintro _ wa w X ⟨n3, rfl, hn5, hn6⟩ hle hin hs1; replace hs := hs.trans hs1)
    repeat' first | (with_reducible refine r_few (by omega) (by omega) hs.has fun m w X hm hs1 => ?_; replace hs := hs.trans hs1)
    all_goals exact fin_ret0 hs fun wa hk9 => ⟨_, rfl, by omega, by omega⟩
structure Msg.text (m : Msg) : Prop where
  keys : ∀ k ∈ m.keys, k.size ≤ 2 ^ 40
  seen : ∀ x ∈ m.seen, x.key.size ≤ 2 ^ 40 ∧ x.val.text.size ≤ 2 ^ 40
  writes : KText m.writes
  recs : ∀ r ∈ m.recs, r.text
  h : HText m.state.hists
  p : PText m.state.pend
theorem d_wt_Msg {w : World} {X : XS} {g : Msg} {vk vs vw vp vr vc vh vd : Value} (ha : g.at w X vk vs vw vp vr vc vh vd) (ht : g.text) :
    Ct Tryz.prog 61 #[g.v vk vs vw vp vr vc vh vd, I 20000] w X nX fun v _ _ => ∃ n : Int, v = I n ∧ 0 ≤ n ∧ n ≤ 40001 ∧ (n ≤ 20000 → (wsum g.writes : Int) + 1 ≤ n) := by
  intro w0 hk
  obtain ⟨h1, h2, h3, h4, h5, h6, h7, h8⟩ := ha.mv hk.mvo
  have hla := h4.len'
  have hlb := h5.len'
  have hlc := h6.len
  apply ok_raceref_WeighMsg; unfold vc_raceref_WeighMsg
  have hs := Since.init w0
  refine r_ct0 (d_wt_Texts h1 ht.keys) (by kernel_rfl) hs.has ?_
  rintro _ wa w X ⟨n1, rfl, hn1, hn2⟩ hle hin hs1
  replace hs := hs.trans hs1
  refine r_ct0 (d_wt_Seen (h2.mv hs.mv) ht.seen) (by kernel_rfl) hs.has ?_
  rintro _ wa w X ⟨n2, rfl, hn3, hn4⟩ hle hin hs1
  replace hs := hs.trans hs1
  repeat' first | (with_reducible refine r_few (by omega) (by omega) hs.has fun m w X hm hs1 => ?_; replace hs := hs.trans hs1)
  refine r_ct0 (d_wt_Writes (h3.mv hs.mv) ht.writes) (by kernel_rfl) hs.has ?_
  rintro _ wa w X ⟨n3, rfl, hn5, hn6, hn7⟩ hle hin hs1
  replace hs := hs.trans hs1
  repeat' first | ((with_reducible apply m_lnS); (· exact qO); (· kernel_rfl)) | ((with_reducible apply r_add); (· omega); (· omega)) | (with_reducible apply r_min) | (with_reducible refine r_few (by omega) (by omega) hs.has fun m w X hm hs1 => ?_; replace hs := hs.trans hs1)
  refine lp2_of (fun n a b w X => ∃ (i : Nat) (s : Int), a = I i ∧ b = I s ∧ n = (g.recs).length - i ∧ i ≤ (g.recs).length ∧ (0 ≤ s ∧ s ≤ 40001 ∧ (s ≤ 20000 → (wsum g.writes : Int) ≤ s)) ∧ Since (old w0) w0 X w) (g.recs).length ⟨0, _, rfl, rfl, rfl, Nat.zero_le _, by omega, hs⟩ ?_
  clear hs
  rintro n a b w X ⟨i, s, rfl, rfl, rfl, hi, hw, hs⟩
  rcases at_or (g.recs) i with ⟨hlt, x, hx, hd⟩ | ⟨hge, hd⟩
  · have z1 := ht.recs x (List.mem_of_getElem? hx)
    repeat' first | ((with_reducible refine r_lssT ?_ ?_); (· omega)) | with_reducible (first | apply condW_T | apply condW_F | apply un_selT | apply grdV_onT | apply rdW_pickT) | (with_reducible apply r_leq <;> intro _) | ((with_reducible apply m_ldA); (· exact qF); (· exact qM); (· kernel_rfl); (· rfl)) | ((with_reducible apply m_lnR); (· assumption); (· kernel_rfl)) | ((with_reducible apply m_ixRec); (· assumption); (try (case hz => rfl)); (case hr => exact qR); (try (case hz => omega)); (case ht => kernel_rfl); (case hs => kernel_rfl); intros) | ((with_reducible apply r_add); (· omega); (· omega)) | (with_reducible refine r_few (by omega) (by omega) hs.has fun m w X hm hs1 => ?_; replace hs := hs.trans hs1) | (refine r_ct0 (d_wt_Rec (r := x) (Rec.at.mv (by assumption) hs.mv) z1) (by kernel_rfl) hs.has ?_; rintro _ wa w X ⟨n8, rfl, hn8, hn9⟩ hle hin hs1; replace hs := hs.trans hs1) | (refine r_ct0 (d_wt_State (s := g.state) (Hists.mv h7 hs.mv) (Pends.mv h8 hs.mv) ht.h ht.p) (by kernel_rfl) hs.has ?_; rintro _ wa w X ⟨n10, rfl, hn10, hn11⟩ hle hin hs1; replace hs := hs.trans hs1)
    all_goals first
      | exact nx2_of (g.recs.length - (i + 1)) (by omega) ⟨i + 1, _, by simp, rfl, rfl, by omega, by omega, hs⟩
      | exact fin_ret0 hs fun wa hk9 => ⟨_, rfl, by omega, by omega, fun h => by omega⟩
  · repeat' first | ((with_reducible refine r_lssF ?_ ?_); (· omega)) | with_reducible (first | apply condW_F | apply un_selFT | apply grdW_offT | apply rdW_pickF) | ((with_reducible apply m_lnR); (· assumption); (· kernel_rfl)) | ((with_reducible apply r_add); (· omega); (· omega)) | (with_reducible refine r_few (by omega) (by omega) hs.has fun m w X hm hs1 => ?_; replace hs := hs.trans hs1) | (refine r_ct0 (d_wt_State (s := g.state) (Hists.mv h7 hs.mv) (Pends.mv h8 hs.mv) ht.h ht.p) (by kernel_rfl) hs.has ?_; rintro _ wa w X ⟨n10, rfl, hn10, hn11⟩ hle hin hs1; replace hs := hs.trans hs1)
    all_goals exact fin_ret0 hs fun wa hk9 => ⟨_, rfl, by omega, by omega, fun h => by omega⟩
end Go.Proofs.YtpdkoaklobnegaaGreat
namespace Go.Proofs.YtpdkoaklobnegaaGreat
open Go.Eng
set_option maxRecDepth 100000
set_option maxHeartbeats 1000000
set_option linter.unusedVariables false
set_option linter.unusedSimpArgs false
attribute [local irreducible] un jn chk fld ld1 ldA st1 ixS lnS lnT bld cvI cvF ixA bsS apS rdV rdW grdW eW eV eU eC eF gE condW fin pickN nilN binS vS lp0 lp1 lp2 lp3 lp4 lp5 lp6 lp7 nx0 nx1 nx2 nx3 nx4 nx5 nx6 nx7
def putL (l : List KV) (x : KV) : List KV :=
  let a := l.takeWhile fun y => tlt y.key x.key
  let b := l.dropWhile fun y => tlt y.key x.key
  a ++ ((if x.val.kind ≠ 0 then [x] else []) ++ (match b with | [] => [] | y :: r => if y.key = x.key then r else y :: r))
theorem takeWhile_step {α : Type} (p : α → Bool) : ∀ (l : List α) (i : Nat), (∀ y ∈ l.take i, p y = true) → (∀ x, l[i]? = some x → p x = false) → i ≤ l.length → l.takeWhile p = l.take i ∧ l.dropWhile p = l.drop i
  | [], i, _, _, _ => by simp
  | y :: l, 0, _, h, _ => by
    have := h y rfl
    simp [this]
  | y :: l, i + 1, h1, h2, hi => by
    have hy := h1 y (by simp)
    obtain ⟨a, b⟩ := takeWhile_step p l i (fun z hz => h1 z (by simp [hz])) (fun x hx => h2 x (by simpa using hx)) (by simpa using hi)
    simp [hy, a, b]
theorem drop_flatQ {α : Type} {k : Nat} : ∀ {rows : List (List α)} (i : Nat), (∀ r ∈ rows, r.length = k) → (rows.drop i).flatten = rows.flatten.drop (i * k)
  | _, 0, _ => by simp
  | [], i + 1, _ => by simp
  | r :: rows, i + 1, h => by
    have hr := h r (by simp)
    rw [List.drop_succ_cons, drop_flatQ i fun x hx => h x (List.mem_cons_of_mem _ hx), List.flatten_cons, Nat.succ_mul, Nat.add_comm, ← List.drop_drop, List.drop_left' hr]
theorem m_slTailQ {P : Program} {X : XS} {w : World} {t : TypeId} {k : Nat} {v : Value} {z : Int} {i : Nat} {rows : List (List Value)} {N : Value → Prop} (h : Sl w X k v rows) (hz : z = i) (hi : i ≤ rows.length) (ht : P.underlying t = some (.slice (P.elem t))) (hs : (P.info? (P.elem t)).map (·.size) = some k)
    (n : ∀ v', Sl w X k v' (rows.drop i) → N v') : rdV P X w (Instr.sliceAt t v (some (.int .i64 z)) none none) N := by
  subst hz
  obtain ⟨h1, h2, base, cap, rfl, hc, hb, hlc, hcm⟩ := h
  have hq : ∃ inf, P.info? (P.elem t) = some inf ∧ inf.size = k := by
    cases hq : P.info? (P.elem t) with
    | none => simp [hq] at hs
    | some inf => exact ⟨inf, rfl, by simpa [hq] using hs⟩
  obtain ⟨inf, hq, hsz⟩ := hq
  have hrun : ∀ wa : World, (Instr.sliceAt t (.slice base rows.length cap) (some (.int .i64 (i : Int))) none none).run P wa = .ok (sliced base i rows.length cap k) wa := fun wa => by
    rw [run_sliceAt_slice wa t _ _ _ _ ht, run_slice_l wa t _ _ cap ht .i64 i (by omega) (by omega)]
    simp [sizeOf, typeInfo, hq, hsz]
  refine rdV_pure hrun (n _ ?_)
  refine ⟨fun r hr => h1 r (List.mem_of_mem_drop hr), by rw [List.length_drop]; omega, _, cap - i, by unfold sliced; rw [List.length_drop], fun hne => ?_, fun hb0 => ?_, by rw [List.length_drop]; omega, by omega⟩
  · have hil : i < rows.length := by
      refine Nat.lt_of_not_le fun hle => hne (List.drop_of_length_le hle)
    obtain ⟨b, o, rfl, hcs⟩ := hc (by intro e; rw [e] at hil; simp at hil)
    refine ⟨b, o + i * k, ?_, ?_⟩
    · rw [if_neg (by omega)]
      simp only [Option.map_some, Option.some.injEq]
      unfold Addr.add
      split
      · rename_i h0; rw [h0]; rfl
      · rfl
    · rw [drop_flatQ i h1]
      obtain ⟨hx, c, ty, fr, hb', hcc⟩ := hcs
      exact ⟨hx, c, ty, fr, hb', fun j v hj => by rw [List.getElem?_drop] at hj; have := hcc _ _ hj; rwa [← Nat.add_assoc] at this⟩
  · split at hb0
    · have := hb hb0; omega
    · have : base = none := by simpa using hb0
      have := hb this; omega
theorem kv_ones {l : List KV} : ∀ r ∈ l.map KV.l, ∀ u ∈ r, Eng.one u = true := by
  intro r hr u hu
  obtain ⟨x, _, rfl⟩ := List.mem_map.1 hr
  simp at hu
  rcases hu with rfl | rfl | rfl | rfl <;> rfl
theorem d_ref22_Put {w : World} {X : XS} {vl : Value} {l : List KV} {x : KV} (hl : Sl w X 4 vl (l.map KV.l)) (hb : l.length ≤ 2 ^ 30) :
    Ct Tryz.prog 62 #[vl, x.v] w X nX fun v wa w' => Own w' (made wa w') wa.heap.size 74 4 v ((putL l x).map KV.l) := by
  intro w0 hk
  replace hl := hl.mv hk.mvo
  obtain ⟨lb, ln, lc, rfl⟩ := hl.form
  have hll := hl.len'
  apply ok_raceref22_Put; unfold vc_raceref22_Put
  have hs := Since.init w0
  refine lp2_of (fun n a b w X => ∃ i : Nat, a = I i ∧ n = l.length - i ∧ i ≤ l.length ∧ (∀ y ∈ l.take i, tlt y.key x.key = true) ∧ Own w X w0.heap.size 74 4 b ((l.take i).map KV.l) ∧ Since (old w0) w0 X w) l.length ⟨0, rfl, rfl, Nat.zero_le _, by simp, Own.nil _ _ _ _ _, hs⟩ ?_
  clear hs
  rintro n a acc w X ⟨i, rfl, rfl, hi, hlt0, hacc, hs⟩
  have hsl := hl.mv hs.mv
  have hti : ((l.take i).map KV.l).length = i := by simp; omega
  have tailOf : ∀ (y5 : Value) (w2 : World) (X2 : XS) (pre : List KV) (j : Nat) (z : Int), pre.length ≤ i + 1 → z = (j : Int) → j ≤ l.length → Own w2 X2 w0.heap.size 74 4 y5 (pre.map KV.l) → Since (old w0) w0 X2 w2 → putL l x = pre ++ l.drop j →
      rdV Tryz.prog X2 w2 (Instr.sliceAt 54 (.slice lb ln lc) (some (.int .i64 z)) none none) fun x61 => eV Tryz.prog (Ret nX w0 fun v w' => (fun v wa w' => Own w' (made wa w') wa.heap.size 74 4 v ((putL l x).map KV.l)) v w0 w') X2 w2 true (apS 54 74 4 48 54 y5 x61) fun x62 w68 X69 =>
        Eng.fin (Ret nX w0 fun v w' => (fun v wa w' => Own w' (made wa w') wa.heap.size 74 4 v ((putL l x).map KV.l)) v w0 w') X69 w68 x62 := by
    intro y5 w2 X2 pre j z hpl hz hj hpre hs2 he
    refine m_slTailQ (hl.mv hs2.mv) hz (by simpa using hj) (by kernel_rfl) (by kernel_rfl) fun v' hv' => ?_
    rw [← List.map_drop] at hv'
    refine m_appS hpre hs2 (fun _ h => h) (by kernel_rfl) hv' kv_ones (by simp; omega) (by simp; omega) fun v9 w9 X9 hs9 ho9 hc9 hat9 => ?_
    refine fin_ret0 hs9 fun wa hk9 => ?_
    rw [he, List.map_append]
    exact (ho9.kp hk9).tight
  have hput : (∀ y, l[i]? = some y → tlt y.key x.key = false) → putL l x = (l.take i ++ (if x.val.kind ≠ 0 then [x] else [])) ++ (match l.drop i with | [] => [] | y :: r => if y.key = x.key then r else y :: r) := fun h => by
    obtain ⟨e1, e2⟩ := takeWhile_step (fun y : KV => tlt y.key x.key) l i hlt0 h hi
    unfold putL
    rw [e1, e2, List.append_assoc]
  rcases at_or (l) i with ⟨hlt, y, hy, hd⟩ | ⟨hge, hd⟩
  · rw [hd] at hput
    repeat' first | ((with_reducible refine r_lssT ?_ ?_); (· omega)) | with_reducible (first | apply condW_T | apply condW_F | apply un_selT | apply grdV_onT | apply rdW_pickT) | (with_reducible apply r_slss <;> intro _) | ((with_reducible apply m_fld1); (· exact qF); (· kernel_rfl); (· rfl); intro _ _ _) | ((with_reducible apply m_ld1); (· exact qF); (· exact qM); (· kernel_rfl); (· rfl)) | ((with_reducible apply m_ldA); (· exact qF); (· exact qM); (· kernel_rfl); (· rfl)) | ((with_reducible apply m_lnS); (· exact qO); (· kernel_rfl)) | ((with_reducible apply m_ixS); (· exact qO); (try (case hz => rfl)); (case hr => exact qR); (try (case hz => omega)); (case ht => kernel_rfl); (case hs => kernel_rfl); intro _ _ _) | ((with_reducible apply r_add); (· omega); (· omega)) | ((with_reducible apply m_app1a); (case own => first | assumption | exact Own.since (by assumption) (by assumption)); (case hs => assumption); (case h0 => first | exact fun _ h => h | exact hs0.has); (case he => kernel_rfl); (case hk => rfl); (case h1 => exact qE); (case hb => (simp only [List.length_map, List.length_take, List.length_append, List.length_cons, List.length_nil]; omega)); (case hl => (simp only [List.length_map, List.length_take, List.length_append, List.length_cons, List.length_nil]; omega)); intro acc w X hs1 ho hc hat; replace hs := hs1)
    · exact nx2_of (l.length - (i + 1)) (by omega) ⟨i + 1, by simp, rfl, by omega, fun z hz => (by
        rw [List.take_add_one, hy] at hz
        rcases List.mem_append.1 hz with hz | hz
        · exact hlt0 z hz
        · simp at hz; subst hz; assumption), by rw [List.take_add_one, hy, List.map_append]; exact ho, hs⟩
    · have hput' := hput fun z hz => by rw [hy] at hz; cases hz; assumption
      refine jn_by (Q := fun K => ∀ y5 w2 X2, Own w2 X2 w0.heap.size 74 4 y5 ((l.take i ++ (if x.val.kind ≠ 0 then [x] else [])).map KV.l) → Since (old w0) w0 X2 w2 → K y5 w2 X2) ?_ fun K hK => ?_
      · intro y5 w2 X2 ho2 hs2
        have hsl2 := hl.mv hs2.mv
        have hpl : (l.take i ++ (if x.val.kind ≠ 0 then [x] else [])).length ≤ i + 1 := by split <;> simp <;> omega
        clear hsl hs
        have hs := hs2
        repeat' first | ((with_reducible refine r_lssT ?_ ?_); (· omega)) | with_reducible (first | apply condW_T | apply condW_F | apply un_selT | apply grdV_onT | apply rdW_pickT) | (with_reducible apply r_seql <;> intro _) | ((with_reducible apply m_fld1); (· exact qF); (· kernel_rfl); (· rfl); intro _ _ _) | ((with_reducible apply m_ld1); (· exact qF); (· exact qM); (· kernel_rfl); (· rfl)) | ((with_reducible apply m_lnS); (· exact qO); (· kernel_rfl)) | ((with_reducible apply m_ixS); (· exact qO); (try (case hz => rfl)); (case hr => exact qR); (try (case hz => omega)); (case ht => kernel_rfl); (case hs => kernel_rfl); intro _ _ _) | ((with_reducible apply r_add); (· omega); (· omega)) | with_reducible apply jn_of
        · exact tailOf _ _ _ _ (i + 1) _ hpl (by simp) (by omega) ho2 hs2 (by rw [hput']; simp [*])
        · exact tailOf _ _ _ _ i _ hpl rfl hi ho2 hs2 (by rw [hput', hd]; simp [*])
      · repeat' first | with_reducible (first | apply condW_T | apply condW_F) | (with_reducible apply r_neq <;> intro _) | ((with_reducible apply r_bld); (· kernel_rfl)) | ((with_reducible apply m_app1a); (case own => first | assumption | exact Own.since (by assumption) (by assumption)); (case hs => assumption); (case h0 => first | exact fun _ h => h | exact hs0.has); (case he => kernel_rfl); (case hk => rfl); (case h1 => exact qE); (case hb => (simp only [List.length_map, List.length_take, List.length_append, List.length_cons, List.length_nil]; omega)); (case hl => (simp only [List.length_map, List.length_take, List.length_append, List.length_cons, List.length_nil]; omega)); intro acc w X hs1 ho hc hat; replace hs := hs1)
        · refine hK _ _ _ ?_ hs
          rw [if_pos (by assumption), List.map_append]
          exact ho
        · refine hK _ _ _ ?_ hs
          rw [if_neg (by simp; assumption), List.append_nil]
          exact hacc
  · have hil : i = l.length := by omega
    have hput' := hput fun z hz => by rw [hil] at hz; simp at hz
    rw [hd] at hput'
    repeat' first | ((with_reducible refine r_lssF ?_ ?_); (· omega)) | with_reducible (first | apply condW_F | apply un_selFT | apply grdW_offT | apply rdW_pickF) | ((with_reducible apply m_lnS); (· exact qO); (· kernel_rfl))
    refine jn_by (Q := fun K => ∀ y5 w2 X2, Own w2 X2 w0.heap.size 74 4 y5 ((l.take i ++ (if x.val.kind ≠ 0 then [x] else [])).map KV.l) → Since (old w0) w0 X2 w2 → K y5 w2 X2) ?_ fun K hK => ?_
    · intro y5 w2 X2 ho2 hs2
      have hsl2 := hl.mv hs2.mv
      have hpl : (l.take i ++ (if x.val.kind ≠ 0 then [x] else [])).length ≤ i + 1 := by split <;> simp <;> omega
      clear hsl hs
      have hs := hs2
      repeat' first | ((with_reducible refine r_lssF ?_ ?_); (· omega)) | with_reducible (first | apply condW_F | apply un_selFT | apply grdW_offT | apply rdW_pickF) | ((with_reducible apply m_lnS); (· exact qO); (· kernel_rfl)) | with_reducible apply jn_of
      all_goals exact tailOf _ _ _ _ i _ hpl rfl hi ho2 hs2 (by rw [hput', hd])
    · repeat' first | with_reducible (first | apply condW_T | apply condW_F) | (with_reducible apply r_neq <;> intro _) | ((with_reducible apply r_bld); (· kernel_rfl)) | ((with_reducible apply m_app1a); (case own => first | assumption | exact Own.since (by assumption) (by assumption)); (case hs => assumption); (case h0 => first | exact fun _ h => h | exact hs0.has); (case he => kernel_rfl); (case hk => rfl); (case h1 => exact qE); (case hb => (simp only [List.length_map, List.length_take, List.length_append, List.length_cons, List.length_nil]; omega)); (case hl => (simp only [List.length_map, List.length_take, List.length_append, List.length_cons, List.length_nil]; omega)); intro acc w X hs1 ho hc hat; replace hs := hs1)
      · refine hK _ _ _ ?_ hs
        rw [if_pos (by assumption), List.map_append]
        exact ho
      · refine hK _ _ _ ?_ hs
        rw [if_neg (by simp; assumption), List.append_nil]
        exact hacc
theorem putL_len (l : List KV) (x : KV) : (putL l x).length ≤ l.length + 1 := by
  have h := congrArg List.length (List.takeWhile_append_dropWhile (p := fun y : KV => tlt y.key x.key) (l := l))
  rw [List.length_append] at h
  unfold putL
  dsimp only
  generalize l.takeWhile (fun y : KV => tlt y.key x.key) = a at h ⊢
  generalize l.dropWhile (fun y : KV => tlt y.key x.key) = b at h ⊢
  have h1 : (if x.val.kind ≠ 0 then [x] else []).length ≤ 1 := by split <;> simp
  rw [List.length_append, List.length_append]
  cases b with
  | nil => simp only [List.length_nil] at h ⊢; omega
  | cons y r =>
    simp only [List.length_cons] at h ⊢
    have h2 : (if y.key = x.key then r else y :: r).length ≤ r.length + 1 := by split <;> simp
    omega
theorem foldPut_len : ∀ (ws l : List KV), (ws.foldl putL l).length ≤ l.length + ws.length
  | [], l => by simp
  | x :: ws, l => by
    have h1 := foldPut_len ws (putL l x)
    have h2 := putL_len l x
    simp only [List.foldl_cons, List.length_cons]; omega
def allW (es : List Entr) : List KV := (es.map Entr.writes).flatten
theorem d_law_pairs {w : World} {X : XS} {va : Value} {es : List (Value × Entr)} (ha : Sl w X 7 va (es.map fun x => x.2.l x.1)) (hw : ∀ x ∈ es, Sl w X 4 x.1 (x.2.writes.map KV.l)) (hb : (allW (es.map Prod.snd)).length ≤ 2 ^ 30) (hn : es.length ≤ 2 ^ 30) :
    Ct Tryz.prog 24 #[va, I es.length] w X nX fun v wa w' => Own w' (made wa w') wa.heap.size 74 4 v (((allW (es.map Prod.snd)).foldl putL []).map KV.l) := by
  intro w0 hk
  replace ha := ha.mv hk.mvo
  replace hw : ∀ x ∈ es, Sl w0 (old w0) 4 x.1 (x.2.writes.map KV.l) := fun x hx => (hw x hx).mv hk.mvo
  obtain ⟨lb, ln, lc, rfl⟩ := ha.form
  have hll := ha.len'
  have htk : ∀ i, (allW ((es.map Prod.snd).take i)).length ≤ 2 ^ 30 := fun i => by
    have h1 := congrArg (fun l => (allW l).length) (List.take_append_drop i (es.map Prod.snd))
    simp only [allW, List.map_append, List.flatten_append, List.length_append] at h1
    unfold allW at hb ⊢
    omega
  apply ok_racelaw22_pairs; unfold vc_racelaw22_pairs
  have hs := Since.init w0
  refine lp3_of (fun n a b _ w X => ∃ i : Nat, a = I i ∧ n = es.length - i ∧ i ≤ es.length ∧ Own w X w0.heap.size 74 4 b (((allW ((es.map Prod.snd).take i)).foldl putL []).map KV.l) ∧ Since (old w0) w0 X w) es.length ⟨0, rfl, rfl, Nat.zero_le _, Own.nil _ _ _ _ _, hs⟩ ?_
  clear hs
  rintro n a acc _ w X ⟨i, rfl, rfl, hi, hacc, hs⟩
  rcases at_or (es) i with ⟨hlt, x, hx, hd⟩ | ⟨hge, hd⟩
  · have hxm := List.mem_of_getElem? hx
    have hwx := hw x hxm
    have hlx := hwx.len'
    obtain ⟨xb, xn, xc, hxf⟩ := hwx.form
    have hal : allW ((es.map Prod.snd).take (i + 1)) = allW ((es.map Prod.snd).take i) ++ x.2.writes := by
      rw [List.take_add_one]; simp [hx, allW]
    have htx := htk (i + 1)
    rw [hal, List.length_append] at htx
    repeat' first | ((with_reducible refine r_lssT ?_ ?_); (· omega)) | with_reducible apply condW_T
    refine lp2_of (fun n a b w X => ∃ k : Nat, a = I k ∧ n = x.2.writes.length - k ∧ k ≤ x.2.writes.length ∧ Own w X w0.heap.size 74 4 b (((x.2.writes.take k).foldl putL ((allW ((es.map Prod.snd).take i)).foldl putL [])).map KV.l) ∧ Since (old w0) w0 X w) x.2.writes.length ⟨0, rfl, rfl, Nat.zero_le _, hacc, hs⟩ ?_
    clear hs hacc
    rintro n a acc w X ⟨k, rfl, rfl, hk2, hacc, hs⟩
    have hwx2 := hwx.mv hs.mv
    rcases at_or x.2.writes k with ⟨hlt2, y, hy, hd2⟩ | ⟨hge2, hd2⟩
    · repeat' first | ((with_reducible refine r_lssT ?_ ?_); (· omega)) | with_reducible apply condW_T | ((with_reducible apply m_fld1); (· exact qF); (· kernel_rfl); (· rfl); intro _ _ _) | ((with_reducible apply m_ld1); (· exact qF); (· exact qM); (· kernel_rfl); (· rfl)) | ((with_reducible apply m_ldA); (· exact qF); (· exact qM); (· kernel_rfl); (· rfl)) | ((with_reducible apply m_lnS); (· exact qO); (· kernel_rfl)) | ((with_reducible apply m_ixS); (· exact qO); (try (case hz => rfl)); (case hr => exact qR); (try (case hz => omega)); (case ht => kernel_rfl); (case hs => kernel_rfl); intro _ _ _)
      have hl1 := foldPut_len (allW ((es.map Prod.snd).take i)) []
      have hl2 := foldPut_len (x.2.writes.take k) ((allW ((es.map Prod.snd).take i)).foldl putL [])
      have hl3 : (x.2.writes.take k).length ≤ x.2.writes.length := by rw [List.length_take]; exact Nat.min_le_right _ _
      refine r_ct0 (d_ref22_Put (x := y) hacc.sl (by simp only [List.length_nil] at hl1; omega)) (by kernel_rfl) hs.has ?_
      rintro v wa w2 X2 ho hle hin hs2
      have hz := hs.kp.size
      replace hs := hs.trans hs2
      have ho2 : Own w2 X2 w0.heap.size 74 4 v _ := ho.up hin (by omega)
      repeat' first | ((with_reducible apply r_add); (· omega); (· omega))
      refine nx2_of (x.2.writes.length - (k + 1)) (by omega) ⟨k + 1, by simp, rfl, by omega, ?_, hs⟩
      rw [List.take_add_one, hy, List.foldl_append]
      exact ho2
    · have hkl : k = x.2.writes.length := by omega
      subst hkl
      rw [List.take_length] at hacc
      repeat' first | ((with_reducible refine r_lssF ?_ ?_); (· omega)) | with_reducible apply condW_F | ((with_reducible apply m_fld1); (· exact qF); (· kernel_rfl); (· rfl); intro _ _ _) | ((with_reducible apply m_ld1); (· exact qF); (· exact qM); (· kernel_rfl); (· rfl)) | ((with_reducible apply m_lnS); (· exact qO); (· kernel_rfl)) | ((with_reducible apply m_ixS); (· exact qO); (try (case hz => rfl)); (case hr => exact qR); (try (case hz => omega)); (case ht => kernel_rfl); (case hs => kernel_rfl); intro _ _ _) | ((with_reducible apply r_add); (· omega); (· omega))
      refine nx3_of (es.length - (i + 1)) (by omega) ⟨i + 1, by simp, rfl, by omega, ?_, hs⟩
      rw [hal, List.foldl_append]
      exact hacc
  · have hil : i = es.length := by omega
    subst hil
    rw [List.take_of_length_le (by simp)] at hacc
    repeat' first | ((with_reducible refine r_lssF ?_ ?_); (· omega)) | with_reducible apply condW_F
    exact fin_ret0 hs fun wa hk9 => (hacc.kp hk9).tight
end Go.Proofs.YtpdkoaklobnegaaGreat
namespace Go.Proofs.YtpdkoaklobnegaaGreat
open Go.Eng
theorem MOk.writeG {m : DM} (h : MOk m) {e : Nat} (he : e ≠ 12) {f : DM → DM} (hf : ∀ m, MOk m → MOk (f m)) : (m.write e f).2 ≠ 12 ∧ MOk (m.write e f).1 := by
  by_cases h0 : e = 0
  · subst h0; rw [h.write]; exact ⟨by simp, hf _ h.tick⟩
  · rw [h.writeE h0]; exact ⟨he, h⟩
theorem MOk.createG {m : DM} (h : MOk m) (n : ByteArray) : (m.create n).2 ≠ 12 ∧ MOk (m.create n).1 := by
  unfold DM.create
  refine h.writeG ?_ fun m hm => ⟨hm.ar, hm.dn⟩
  split
  · decide
  · split
    · decide
    · split <;> decide
theorem MOk.syncG {m : DM} (h : MOk m) (n : ByteArray) : (m.sync n).2 ≠ 12 ∧ MOk (m.sync n).1 := by
  unfold DM.sync
  refine h.writeG (by split <;> decide) fun m hm => ?_
  unfold DM.syncF
  split
  · exact hm
  · exact ⟨hm.ar, hm.dn⟩
theorem MOk.removeG {m : DM} (h : MOk m) (n : ByteArray) : (m.remove n).2 ≠ 12 ∧ MOk (m.remove n).1 := by
  unfold DM.remove
  exact h.writeG (by split <;> decide) fun m hm => ⟨hm.ar, hm.dn⟩
theorem MOk.appendG {m : DM} (h : MOk m) (n : ByteArray) (b : List Nat) : (m.append n b).2 ≠ 12 ∧ MOk (m.append n b).1 := by
  unfold DM.append
  rw [if_neg (by rw [h.dn]; simp)]
  split
  · exact ⟨by simp, h⟩
  · split
    · exact ⟨by simp, h⟩
    · refine ⟨?_, ⟨h.tick.ar, h.tick.dn⟩⟩
      dsimp only
      rw [if_neg (by rw [h.tick.dn]; simp)]
      decide
structure GL (n : Nat) (x : LD) : Prop where
  ok : MOk x.m
  ne : x.L.segs ≠ []
  d1 : 1 ≤ x.L.dir.size
  d2 : x.L.dir.size ≤ 11
  seg : ∀ s ∈ x.L.segs, s.first + s.recs.length ≤ n ∧ s.size ≤ n * 300000
  room : x.L.room ≤ 2 ^ 40
  len : x.L.segs.length ≤ n
theorem GL.up {n n' : Nat} {x : LD} (h : GL n x) (hn : n ≤ n') : GL n' x :=
  ⟨h.ok, h.ne, h.d1, h.d2, fun s hs => by have := h.seg s hs; have : n * 300000 ≤ n' * 300000 := Nat.mul_le_mul_right _ hn; omega, h.room, Nat.le_trans h.len hn⟩
theorem GL.lok {n : Nat} {x : LD} (h : GL n x) (hn : n ≤ 1000) : LOK x.L :=
  ⟨h.ne, h.d1, h.d2, fun s hs => by have := h.seg s hs; omega, h.room⟩
theorem GL.sync {n : Nat} {x : LD} (h : GL n x) : x.sync.2 ≠ 12 ∧ GL n x.sync.1 := by
  obtain ⟨h1, h2⟩ := h.ok.syncG x.L.lastName
  unfold LD.sync
  dsimp only
  refine ⟨h1, ?_⟩
  split
  · exact ⟨h2, h.ne, h.d1, h.d2, h.seg, h.room, h.len⟩
  · exact ⟨h2, h.ne, h.d1, h.d2, h.seg, h.room, h.len⟩
theorem GL.roll {n : Nat} {x : LD} (h : GL n x) : (x.roll x.L.next).2 ≠ 12 ∧ GL (n + 1) (x.roll x.L.next).1 := by
  obtain ⟨h1, h2⟩ := h.ok.createG (fileN x.L.dir x.L.next)
  have hu := h.up (n' := n + 1) (by omega)
  unfold LD.roll
  dsimp only
  refine ⟨h1, ?_⟩
  split
  · refine ⟨h2, by simp, h.d1, h.d2, fun s hs => ?_, h.room, by simp; exact h.len⟩
    rcases List.mem_append.1 hs with hs | hs
    · exact hu.seg s hs
    · simp only [List.mem_singleton] at hs
      subst hs
      have := (h.seg _ (LM.last_mem h.ne)).1
      have e : x.L.next = x.L.last.first + x.L.last.recs.length := rfl
      simp only [List.length_nil]
      omega
  · exact ⟨h2, hu.ne, hu.d1, hu.d2, hu.seg, hu.room, hu.len⟩
theorem GL.room' {n : Nat} {x : LD} (h : GL n x) : x.room.2 ≠ 12 ∧ GL (n + 1) x.room.1 := by
  unfold LD.room
  split
  · dsimp only
    obtain ⟨h1, h2⟩ := h.sync
    split
    · exact ⟨h1, h2.up (by omega)⟩
    · have e : x.sync.1.L.next = x.L.next := by unfold LM.next LM.last; rw [LD.sync_segs]
      rw [← e]
      exact h2.roll
  · exact ⟨by simp, h.up (by omega)⟩
theorem GL.lay {n : Nat} {x : LD} {p : List Nat} (h : GL n x) (hp : p.length ≤ 262144) : (x.lay p).2 ≠ 12 ∧ GL (n + 1) (x.lay p).1 := by
  obtain ⟨h1, h2⟩ := h.ok.appendG x.L.lastName (frameB p)
  have hu := h.up (n' := n + 1) (by omega)
  have hfl := frameB_len p
  unfold LD.lay
  dsimp only
  refine ⟨h1, ?_⟩
  split
  · have hle := LM.last_eq h.ne
    have hlm := h.seg _ (LM.last_mem h.ne)
    refine ⟨h2, by simp [LM.add], h.d1, h.d2, fun s hs => ?_, h.room, ?_⟩
    · rcases List.mem_append.1 hs with hs | hs
      · exact hu.seg s (by rw [hle]; exact List.mem_append_left _ hs)
      · simp only [List.mem_singleton] at hs
        subst hs
        simp only [List.length_append, List.length_cons, List.length_nil]
        omega
    · have := hu.len
      rw [hle] at this
      simp only [LM.add, List.length_append, List.length_cons, List.length_nil] at this ⊢
      omega
  · exact ⟨h2, hu.ne, hu.d1, hu.d2, hu.seg, hu.room, hu.len⟩
theorem GL.append {n : Nat} {x : LD} (h : GL n x) (p : List Nat) : (x.append p).2.2 ≠ 12 ∧ GL (n + 2) (x.append p).1 := by
  unfold LD.append
  split
  · exact ⟨by simp, h.up (by omega)⟩
  · split
    · exact ⟨by simp, h.up (by omega)⟩
    · obtain ⟨h1, h2⟩ := h.room'
      dsimp only
      split
      · exact ⟨h1, h2.up (by omega)⟩
      · obtain ⟨h3, h4⟩ := h2.lay (p := p) (by omega)
        split
        · exact ⟨h3, h4⟩
        · exact ⟨by simp, h4⟩
theorem GL.keep {n : Nat} {x : LD} (h : GL n x) (p : List Nat) : (x.keep 0 p).2.2 ≠ 12 ∧ GL (n + 2) (x.keep 0 p).1 := by
  obtain ⟨h1, h2⟩ := h.append p
  unfold LD.keep
  rw [if_neg (by simp)]
  dsimp only
  split
  · exact ⟨h1, h2⟩
  · exact h2.sync
theorem GL.trim {n below : Nat} : ∀ {K : Nat} {x : LD}, GL n x → (x.trim below K).2 ≠ 12 ∧ GL n (x.trim below K).1
  | 0, x, h => ⟨by simp [LD.trim], h⟩
  | K + 1, x, h => by
    unfold LD.trim
    split
    · rename_i s t r hseg
      split
      · obtain ⟨h1, h2⟩ := h.ok.removeG (fileN x.L.dir s.first)
        dsimp only
        split
        · exact ⟨h1, ⟨h2, h.ne, h.d1, h.d2, h.seg, h.room, h.len⟩⟩
        · have hl := h.len
          rw [hseg] at hl
          refine GL.trim ⟨h2, by simp, h.d1, h.d2, fun y hy => h.seg y (by rw [hseg]; exact List.mem_cons_of_mem _ hy), h.room, ?_⟩
          simp only [List.length_cons] at hl ⊢
          omega
      · exact ⟨by simp, h⟩
    · exact ⟨by simp, h⟩
theorem bl_irrefl' : ∀ l : List UInt8, Op.bytesLess l l = false
  | [] => rfl
  | a :: l => by simp [Op.bytesLess, bl_irrefl' l, UInt8.lt_irrefl]
theorem bl_asymm' : ∀ {a b : List UInt8}, Op.bytesLess a b = true → Op.bytesLess b a = false
  | _, [], h => by simp [Op.bytesLess] at h
  | [], _ :: _, _ => by simp [Op.bytesLess]
  | a :: l, b :: m, h => by
    simp only [Op.bytesLess, Bool.or_eq_true, Bool.and_eq_true, decide_eq_true_eq, beq_iff_eq, Bool.or_eq_false_iff, Bool.and_eq_false_iff, decide_eq_false_iff_not] at h ⊢
    rcases h with h | ⟨rfl, h⟩
    · exact ⟨UInt8.not_lt.2 (UInt8.le_of_lt h), .inl (by simp; rintro rfl; exact UInt8.lt_irrefl _ h)⟩
    · exact ⟨UInt8.lt_irrefl _, .inr (bl_asymm' h)⟩
theorem bl_total' : ∀ {a b : List UInt8}, Op.bytesLess a b = false → a ≠ b → Op.bytesLess b a = true
  | [], [], _, h => absurd rfl h
  | _ :: _, [], _, _ => by simp [Op.bytesLess]
  | [], _ :: _, h, _ => by simp [Op.bytesLess] at h
  | a :: l, b :: m, h, hne => by
    simp only [Op.bytesLess, Bool.or_eq_true, Bool.and_eq_true, decide_eq_true_eq, beq_iff_eq, Bool.or_eq_false_iff, Bool.and_eq_false_iff, decide_eq_false_iff_not] at h ⊢
    obtain ⟨h1, h2⟩ := h
    by_cases hab : a = b
    · subst hab
      right
      refine ⟨rfl, bl_total' ?_ fun e => hne (by rw [e])⟩
      rcases h2 with h2 | h2
      · simp at h2
      · exact h2
    · left
      exact UInt8.lt_of_le_of_ne (UInt8.not_lt.1 h1) (Ne.symm hab)
theorem bl_trans' : ∀ {a b c : List UInt8}, Op.bytesLess a b = true → Op.bytesLess b c = true → Op.bytesLess a c = true
  | [], [], _, h, _ => by simp [Op.bytesLess] at h
  | [], _ :: _, [], _, h => by simp [Op.bytesLess] at h
  | [], _ :: _, _ :: _, _, _ => by simp [Op.bytesLess]
  | _ :: _, [], _, h, _ => by simp [Op.bytesLess] at h
  | _ :: _, _ :: _, [], _, h => by simp [Op.bytesLess] at h
  | a :: l, b :: m, c :: r, h1, h2 => by
    simp only [Op.bytesLess, Bool.or_eq_true, Bool.and_eq_true, decide_eq_true_eq, beq_iff_eq] at h1 h2 ⊢
    rcases h1 with h1 | ⟨rfl, h1⟩
    · rcases h2 with h2 | ⟨rfl, h2⟩
      · exact .inl (UInt8.lt_trans h1 h2)
      · exact .inl h1
    · rcases h2 with h2 | ⟨rfl, h2⟩
      · exact .inl h2
      · exact .inr ⟨rfl, bl_trans' h1 h2⟩
theorem tl_irrefl (a : BA) : tlt a a = false := bl_irrefl' _
theorem tl_asymm {a b : BA} (h : tlt a b = true) : tlt b a = false := bl_asymm' h
theorem tl_trans {a b c : BA} (h1 : tlt a b = true) (h2 : tlt b c = true) : tlt a c = true := bl_trans' h1 h2
theorem tl_total {a b : BA} (h : tlt a b = false) (hne : a ≠ b) : tlt b a = true := bl_total' h fun e => hne (by
  rw [ByteArray.toList_eq, ByteArray.toList_eq] at e
  exact ByteArray.ext (Array.toList_inj.1 e))
theorem tl_ne {a b : BA} (h : tlt a b = true) : a ≠ b := fun e => by rw [e, tl_irrefl] at h; cases h
abbrev Up (l : List KV) : Prop := l.Pairwise fun a b => tlt a.key b.key = true
theorem up_ext : ∀ {l m : List KV}, Up l → Up m → (∀ x, x ∈ l ↔ x ∈ m) → l = m
  | [], [], _, _, _ => rfl
  | [], b :: m, _, _, h => by have := (h b).2 (by simp); simp at this
  | a :: l, [], _, _, h => by have := (h a).1 (by simp); simp at this
  | a :: l, b :: m, h1, h2, h => by
    have h1' := List.pairwise_cons.1 h1
    have h2' := List.pairwise_cons.1 h2
    have hab : a = b := by
      rcases List.mem_cons.1 ((h a).1 (by simp)) with e | ha
      · exact e
      · rcases List.mem_cons.1 ((h b).2 (by simp)) with e | hb
        · exact e.symm
        · have h3 := h1'.1 b hb
          have h4 := h2'.1 a ha
          rw [tl_asymm h3] at h4; cases h4
    subst hab
    rw [up_ext h1'.2 h2'.2 fun x => ⟨fun hx => ?_, fun hx => ?_⟩]
    · rcases List.mem_cons.1 ((h x).1 (List.mem_cons_of_mem _ hx)) with e | hx2
      · subst e; exact absurd rfl (tl_ne (h1'.1 _ hx))
      · exact hx2
    · rcases List.mem_cons.1 ((h x).2 (List.mem_cons_of_mem _ hx)) with e | hx2
      · subst e; exact absurd rfl (tl_ne (h2'.1 _ hx))
      · exact hx2
theorem putL_nil (x : KV) : putL [] x = if x.val.kind ≠ 0 then [x] else [] := by simp [putL]
theorem putL_lt {y x : KV} {l : List KV} (h : tlt y.key x.key = true) : putL (y :: l) x = y :: putL l x := by simp [putL, h]
theorem putL_ge {y x : KV} {l : List KV} (h : tlt y.key x.key = false) : putL (y :: l) x = (if x.val.kind ≠ 0 then [x] else []) ++ if y.key = x.key then l else y :: l := by simp [putL, h]
theorem mem_pre {x z : KV} : z ∈ (if x.val.kind ≠ 0 then [x] else []) ↔ z = x ∧ x.val.kind ≠ 0 := by
  split
  · simp [*]
  · simp_all
theorem pre_up {x : KV} {l : List KV} (h : Up l) (hx : ∀ z ∈ l, tlt x.key z.key = true) : Up ((if x.val.kind ≠ 0 then [x] else []) ++ l) := by
  split
  · exact List.pairwise_cons.2 ⟨hx, h⟩
  · exact h
theorem putL_up (x : KV) : ∀ {l : List KV}, Up l → Up (putL l x) ∧ ∀ z, z ∈ putL l x ↔ (z ∈ l ∧ z.key ≠ x.key) ∨ (z = x ∧ x.val.kind ≠ 0)
  | [], _ => by
    rw [putL_nil]
    refine ⟨by split <;> simp, fun z => ?_⟩
    rw [mem_pre]; simp
  | y :: l, h => by
    have h' := List.pairwise_cons.1 h
    cases hyx : tlt y.key x.key with
    | true =>
      rw [putL_lt hyx]
      obtain ⟨i1, i2⟩ := putL_up x h'.2
      refine ⟨List.pairwise_cons.2 ⟨fun z hz => ?_, i1⟩, fun z => ?_⟩
      · rcases (i2 z).1 hz with ⟨a, _⟩ | ⟨rfl, _⟩
        · exact h'.1 z a
        · exact hyx
      · rw [List.mem_cons, i2, List.mem_cons]
        constructor
        · rintro (rfl | ⟨a, b⟩ | c)
          · exact .inl ⟨.inl rfl, tl_ne hyx⟩
          · exact .inl ⟨.inr a, b⟩
          · exact .inr c
        · rintro (⟨rfl | a, b⟩ | c)
          · exact .inl rfl
          · exact .inr (.inl ⟨a, b⟩)
          · exact .inr (.inr c)
    | false =>
      rw [putL_ge hyx]
      by_cases he : y.key = x.key
      · rw [if_pos he]
        refine ⟨pre_up h'.2 fun z hz => by rw [← he]; exact h'.1 z hz, fun z => ?_⟩
        rw [List.mem_append, mem_pre, List.mem_cons]
        constructor
        · rintro (a | a)
          · exact .inr a
          · exact .inl ⟨.inr a, fun e => tl_ne (h'.1 z a) (by rw [he, e])⟩
        · rintro (⟨rfl | a, b⟩ | c)
          · exact absurd he b
          · exact .inr a
          · exact .inl c
      · rw [if_neg he]
        have hxy := tl_total hyx he
        have hall : ∀ z ∈ y :: l, tlt x.key z.key = true := fun z hz => by
          rcases List.mem_cons.1 hz with rfl | hz
          · exact hxy
          · exact tl_trans hxy (h'.1 z hz)
        refine ⟨pre_up h hall, fun z => ?_⟩
        rw [List.mem_append, mem_pre]
        constructor
        · rintro (a | a)
          · exact .inr a
          · exact .inl ⟨a, fun e => tl_ne (hall z a) e.symm⟩
        · rintro (⟨a, b⟩ | c)
          · exact .inr a
          · exact .inl c
theorem mem_getM {κ α : Type} [DecidableEq κ] {l : List (κ × α)} (hn : (l.map (·.1)).Nodup) {k : κ} {a : α} : (k, a) ∈ l ↔ getM k l = some a := by
  refine ⟨getM_of_mem hn, fun h => ?_⟩
  unfold getM at h
  cases hf : l.find? (fun x => decide (x.1 = k)) with
  | none => rw [hf] at h; cases h
  | some y =>
    rw [hf] at h
    have h1 := List.find?_some hf
    have h2 := List.mem_of_find?_eq_some hf
    simp only [decide_eq_true_eq] at h1
    simp only [Option.map_some, Option.some.injEq] at h
    rw [← h1, ← h]; exact h2
theorem applyW_nodup {p : List (ByteArray × Val)} (h : (p.map (·.1)).Nodup) (x : KV) : ((applyW p x).map (·.1)).Nodup := by
  unfold applyW
  split
  · exact h.sublist ((List.filter_sublist).map _)
  · exact putM_nodup h
theorem applyW_mem {p : List (ByteArray × Val)} (h : (p.map (·.1)).Nodup) (x : KV) (k : ByteArray) (v : Val) : (k, v) ∈ applyW p x ↔ ((k, v) ∈ p ∧ k ≠ x.key) ∨ ((⟨k, v⟩ : KV) = x ∧ x.val.kind ≠ 0) := by
  rw [mem_getM (applyW_nodup h x), mem_getM h]
  unfold applyW
  by_cases hk : k = x.key
  · subst hk
    split
    · rename_i h0
      rw [getM_delM_self]; simp [h0]
    · rename_i h0
      rw [getM_putM_self]
      constructor
      · intro e; cases e; exact .inr ⟨rfl, h0⟩
      · rintro (⟨_, b⟩ | ⟨b, _⟩)
        · exact absurd rfl b
        · rw [← b]
  · have hno : ¬ ((⟨k, v⟩ : KV) = x) := fun e => hk (by rw [← e])
    split
    · rw [getM_delM_ne hk]; simp [hk, hno]
    · rw [getM_putM_ne hk]; simp [hk, hno]
theorem list_up {s : SM} (h : (s.pairs.map (·.1)).Nodup) : Up s.list ∧ ∀ x, x ∈ s.list ↔ (x.key, x.val) ∈ s.pairs := by
  have hperm := sortB_perm (s.pairs.map (·.1))
  constructor
  · unfold SM.list Up
    rw [List.pairwise_map]
    have hnd : (sortB (s.pairs.map (·.1))).Nodup := hperm.nodup_iff.2 h
    have hso : (sortB (s.pairs.map (·.1))).Pairwise fun a b => bl a ≤ bl b := by
      unfold sortB
      rw [List.pairwise_map]
      refine (List.pairwise_mergeSort leB_trans leB_total _).imp fun hab => ?_
      unfold leB at hab
      simpa [bl] using hab
    refine (List.pairwise_and_iff.2 ⟨hso, hnd⟩).imp fun hab => ?_
    show tlt _ _ = true
    unfold tlt
    rw [ByteArray.toList_eq, ByteArray.toList_eq]
    exact bytesLess_of hab.1 fun e => hab.2 (ByteArray.ext (Array.toList_inj.1 e))
  · intro x
    constructor
    · intro hx
      obtain ⟨k, hk, rfl⟩ := List.mem_map.1 hx
      obtain ⟨y, hy, rfl⟩ := List.mem_map.1 (hperm.mem_iff.1 hk)
      have := getM_of_mem h (k := y.1) (a := y.2) hy
      show (y.1, s.get y.1) ∈ s.pairs
      unfold SM.get
      rw [this]; exact hy
    · intro hx
      have := getM_of_mem h hx
      refine List.mem_map.2 ⟨x.key, hperm.mem_iff.2 (List.mem_map.2 ⟨_, hx, rfl⟩), ?_⟩
      unfold SM.get
      rw [this]; rfl
theorem list_get {s : SM} {x : KV} (hx : x ∈ s.list) : s.get x.key = x.val := by
  obtain ⟨k, _, rfl⟩ := List.mem_map.1 hx
  rfl
theorem list_of {s s' : SM} (h : s'.pairs = s.pairs) : s'.list = s.list := by
  unfold SM.list SM.get
  rw [h]
theorem list_applyW {s : SM} (h : (s.pairs.map (·.1)).Nodup) (x : KV) : ({ s with pairs := applyW s.pairs x } : SM).list = putL s.list x := by
  obtain ⟨a1, a2⟩ := list_up h
  obtain ⟨b1, b2⟩ := list_up (s := { s with pairs := applyW s.pairs x }) (applyW_nodup h x)
  obtain ⟨c1, c2⟩ := putL_up x a1
  refine up_ext b1 c1 fun z => ?_
  rw [b2, c2, a2]
  exact applyW_mem h x z.key z.val
theorem list_fold : ∀ (l : List KV) {s : SM}, (s.pairs.map (·.1)).Nodup → ({ s with pairs := l.foldl applyW s.pairs } : SM).list = l.foldl putL s.list
  | [], s, _ => rfl
  | x :: l, s, h => by
    have ih := list_fold l (s := { s with pairs := applyW s.pairs x }) (applyW_nodup h x)
    rw [list_applyW h x] at ih
    exact ih
def pwt (p : List (ByteArray × Val)) : Nat := (p.map fun x => 1 + x.1.size + x.2.text.size).sum
theorem pwt_filter (f : ByteArray × Val → Bool) : ∀ p : List (ByteArray × Val), pwt (p.filter f) ≤ pwt p
  | [] => by simp [pwt]
  | x :: p => by
    have ih := pwt_filter f p
    rw [List.filter_cons]
    split <;> simp only [pwt, List.map_cons, List.sum_cons] at ih ⊢ <;> omega
theorem pwt_put (k : ByteArray) (v : Val) : ∀ p : List (ByteArray × Val), pwt (putM k v p) ≤ pwt p + (1 + k.size + v.text.size)
  | [] => by simp [pwt, putM]
  | x :: p => by
    have ih := pwt_put k v p
    unfold putM
    split <;> simp only [pwt, List.map_cons, List.sum_cons] at ih ⊢ <;> omega
theorem pwt_apply (p : List (ByteArray × Val)) (x : KV) : pwt (applyW p x) ≤ pwt p + (1 + x.key.size + x.val.text.size) := by
  unfold applyW
  split
  · exact Nat.le_trans (pwt_filter _ p) (by omega)
  · exact pwt_put _ _ p
theorem pwt_fold : ∀ (l : List KV) (p : List (ByteArray × Val)), pwt (l.foldl applyW p) ≤ pwt p + wsum l
  | [], p => by simp
  | x :: l, p => by
    have ih := pwt_fold l (applyW p x)
    have h1 := pwt_apply p x
    have e : wsum (x :: l) = (1 + x.key.size + x.val.text.size) + wsum l := by simp [wsum]
    rw [List.foldl_cons, e]; omega
theorem pinv_fold : ∀ (l : List KV) {n : Nat} {p : List (ByteArray × Val)}, PInv n p → (∀ x ∈ l, goodKey x.key = true ∧ x.val.may = true) → PInv (n + l.length) (l.foldl applyW p)
  | [], n, p, h, _ => h
  | x :: l, n, p, h, hl => by
    have h1 := hl x (by simp)
    have := pinv_fold l (h.apply h1.1 h1.2) fun y hy => hl y (List.mem_cons_of_mem _ hy)
    rw [List.length_cons, List.foldl_cons, show n + (l.length + 1) = n + 1 + l.length from by omega]
    exact this
end Go.Proofs.YtpdkoaklobnegaaGreat
namespace Go.Proofs.YtpdkoaklobnegaaGreat
open Go.Eng
theorem chain_all {α : Type} {p : α → Bool} {r : α → α → Bool} : ∀ {l : List α} {o : Option α}, chain p r o l = true → ∀ x ∈ l, p x = true
  | [], _, _, _, hx => by simp at hx
  | y :: l, o, h, x, hx => by
    have h1 : p y = true ∧ chain p r (some y) l = true := by
      cases o <;> simp [chain] at h
      · exact h
      · exact ⟨h.1.1, h.2⟩
    rcases List.mem_cons.1 hx with rfl | hx
    · exact h1.1
    · exact chain_all h1.2 x hx
theorem applyOk_all {prev st : Stamp} {t : Txn} {l : List KV} (h : applyOk prev st t l = true) : st.may = true ∧ l.length ≤ 16 ∧ ∀ x ∈ l, goodKey x.key = true ∧ x.val.may = true := by
  unfold applyOk at h
  simp only [Bool.and_eq_true, decide_eq_true_eq] at h
  have he := h.2
  unfold Pend.err at he
  dsimp only at he
  split at he
  · simp at he
  · split at he
    · simp at he
    · rename_i h2
      split at he
      · simp at he
      · rename_i h3
        split at he
        · rename_i h4
          simp only [Bool.or_eq_true, Bool.not_eq_true', not_or, Bool.not_eq_false, rises, Bool.and_eq_true, decide_eq_true_eq] at h2 h3
          have h5 := h3.2.1
          have h6 := h3.2.2
          refine ⟨h2.1, by rw [List.length_map] at h6; omega, fun x hx => ⟨chain_all h5 x.key (List.mem_map.2 ⟨x, hx, rfl⟩), ?_⟩⟩
          exact List.all_eq_true.1 h4 x hx
        · simp at he
theorem encI_two {n : Int} (h1 : 0 ≤ n) (h2 : n < 8192) : (encI n).length ≤ 2 := by
  have hz : zig n < 128 ^ 2 := by
    unfold zig
    rw [if_neg (by omega)]
    have : (128 : Nat) ^ 2 = 16384 := by decide
    omega
  exact encU_len 2 (zig n) hz
theorem encKV_good {x : KV} (hk : goodKey x.key = true) (hv : x.val.may = true) : (encKV x).length ≤ 7 * (1 + x.key.size + x.val.text.size) := by
  have hk' : 1 ≤ x.key.size ∧ x.key.size ≤ 24 := by
    unfold goodKey at hk
    simp only [Bool.and_eq_true, decide_eq_true_eq] at hk
    omega
  have e1 := encT_len x.key
  have e2 := encI_two (n := x.key.size) (by omega) (by omega)
  have e3 : (encV x.val).length ≤ 10 + x.val.text.size := by
    unfold encV
    rw [if_pos hv]
    unfold Val.may at hv
    dsimp only
    rw [List.length_append]
    split
    · rename_i h1
      have e4 := encI_two (n := x.val.kind) (by omega) (by omega)
      have : (encF x.val.num).length = 8 := by simp [encF]
      omega
    · split
      · rename_i h1 h2
        have e4 := encI_two (n := x.val.kind) (by omega) (by omega)
        rw [if_neg (by omega), if_neg (by omega), if_pos h2] at hv
        simp only [Bool.and_eq_true, decide_eq_true_eq] at hv
        have e5 := encT_len x.val.text
        have e6 := encI_two (n := x.val.text.size) (by omega) (by omega)
        omega
      · rename_i h1 h2
        split at hv
        · rename_i h0
          have e4 := encI_two (n := x.val.kind) (by omega) (by omega)
          simp only [List.length_nil]
          omega
        · cases hv
  unfold encKV
  rw [List.length_append]
  omega
theorem flat7 : ∀ l : List KV, (∀ x ∈ l, goodKey x.key = true ∧ x.val.may = true) → (l.map encKV).flatten.length ≤ 7 * wsum l
  | [], _ => by simp
  | x :: l, h => by
    have h1 := h x (by simp)
    have h3 := encKV_good h1.1 h1.2
    have h2 := flat7 l fun y hy => h y (List.mem_cons_of_mem _ hy)
    have e : wsum (x :: l) = (1 + x.key.size + x.val.text.size) + wsum l := by simp [wsum]
    simp only [List.map_cons, List.flatten_cons, List.length_append]
    omega
theorem encA_good {prev st : Stamp} {t : Txn} {l : List KV} (h : ∀ x ∈ l, goodKey x.key = true ∧ x.val.may = true) (hw : wsum l ≤ 20000) : (encA (recA prev st t l)).length ≤ 262144 := by
  have h1 := encI_len (recA prev st t l).kind
  have h2 := encSt_len prev
  have h3 := encSt_len st
  have h4 := encTx_len t
  have h5 := encI_len ((l.length : Nat) : Int)
  have h6 := flat7 l h
  unfold encA recA encL at *
  simp only [List.length_append] at *
  omega
theorem encB_good {st : Stamp} {l : List KV} (h : ∀ x ∈ l, goodKey x.key = true ∧ x.val.may = true) (hw : wsum l ≤ 20000) : (encBs (recB st l)).length ≤ 262144 := by
  have h1 := encI_len (recB st l).kind
  have h2 := encSt_len st
  have h5 := encI_len ((l.length : Nat) : Int)
  have h6 := flat7 l h
  unfold encBs recB encL at *
  simp only [List.length_append] at *
  omega
theorem wsum_append (a b : List KV) : wsum (a ++ b) = wsum a + wsum b := by simp [wsum]
theorem wsum_len : ∀ l : List KV, l.length ≤ wsum l
  | [] => by simp
  | x :: l => by
    have h1 := wsum_len l
    have e : wsum (x :: l) = (1 + x.key.size + x.val.text.size) + wsum l := by simp [wsum]
    rw [List.length_cons]; omega
theorem allW_append (a b : List Entr) : allW (a ++ b) = allW a ++ allW b := by simp [allW]
theorem wsum_list {s : SM} (h : (s.pairs.map (·.1)).Nodup) : wsum s.list = pwt s.pairs := by
  have hp := (sortB_perm (s.pairs.map (·.1))).map fun k => 1 + k.size + (s.get k).text.size
  have hs := hp.sum_nat
  unfold wsum SM.list pwt
  rw [List.map_map]
  refine Eq.trans (b := ((sortB (s.pairs.map (·.1))).map fun k => 1 + k.size + (s.get k).text.size).sum) rfl ?_
  rw [hs, List.map_map]
  congr 1
  refine List.map_congr_left fun y hy => ?_
  have := getM_of_mem h (k := y.1) (a := y.2) hy
  show 1 + y.1.size + (s.get y.1).text.size = _
  unfold SM.get
  rw [this]; rfl
structure GInv (n wt : Nat) (s : SM) (x : LD) : Prop where
  ev : s.every = 3
  si : 0 ≤ s.since ∧ s.since ≤ n
  dn : s.down = false
  may : s.high.may = true
  dl : s.done.length ≤ n
  aw : wsum (allW s.done) ≤ wt
  pi : PInv (allW s.done).length s.pairs
  pw : pwt s.pairs ≤ wsum (allW s.done)
  ls : s.list = (allW s.done).foldl putL []
  hi : ∀ e, s.done.getLast? = some e → e.stamp = s.high
  lg : GL (1 + 2 * n) x
theorem GInv.up {n n' wt wt' : Nat} {s : SM} {x : LD} (h : GInv n wt s x) (hn : n ≤ n') (hw : wt ≤ wt') : GInv n' wt' s x :=
  ⟨h.ev, by have := h.si; omega, h.dn, h.may, Nat.le_trans h.dl hn, Nat.le_trans h.aw hw, h.pi, h.pw, h.ls, h.hi, h.lg.up (by omega)⟩
theorem GInv.log {n wt : Nat} {s : SM} {x y : LD} (h : GInv n wt s x) (hy : GL (1 + 2 * n) y) : GInv n wt s y :=
  ⟨h.ev, h.si, h.dn, h.may, h.dl, h.aw, h.pi, h.pw, h.ls, h.hi, hy⟩
theorem GInv.good {n wt : Nat} {s : SM} {x : LD} (h : GInv n wt s x) : (∀ y ∈ s.list, goodKey y.key = true ∧ y.val.may = true ∧ y.val.kind ≠ 0) ∧ wsum s.list ≤ wt ∧ s.list.length ≤ wt := by
  have h1 := wsum_list h.pi.nd
  have h2 := h.pw
  have h3 := h.aw
  have h4 := wsum_len s.list
  refine ⟨fun y hy => h.pi.good _ ((list_up h.pi.nd).2 y |>.1 hy), by omega, by omega⟩
theorem GInv.step {n wt : Nat} {s : SM} {x : LD} (h : GInv n wt s x) (g : Msg) : GInv (n + 1) (wt + wsum g.writes) (stepM s x g).1 (stepM s x g).2 := by
  unfold stepM
  split
  · rename_i ha
    simp only [Bool.and_eq_true] at ha
    obtain ⟨ha, hf⟩ := ha
    simp only [SM.fitsM, Bool.and_eq_true, decide_eq_true_eq] at hf
    have hap := Msg.asks_apply ha hf.1.1
    obtain ⟨m1, m2, m3⟩ := applyOk_all hap
    obtain ⟨k1, k2⟩ := h.lg.keep (encA (recA g.prev g.stamp g.txn g.writes))
    have k3 : GL (1 + 2 * (n + 1)) (x.keep 0 (encA (recA g.prev g.stamp g.txn g.writes))).1 := k2
    dsimp only
    split
    · have hnd := h.pi.nd
      have e1 : allW (s.apply g.txn g.stamp g.writes).done = allW s.done ++ g.writes := by
        show allW (s.done ++ [_]) = _
        rw [allW_append]; simp [allW]
      have hsi := h.si
      refine ⟨h.ev, ?_, h.dn, m1, ?_, ?_, ?_, ?_, ?_, ?_, k3⟩
      · show 0 ≤ s.since + 1 ∧ s.since + 1 ≤ _; omega
      · show (s.done ++ [_]).length ≤ _
        have := h.dl
        simp; omega
      · show wsum (allW (s.apply g.txn g.stamp g.writes).done) ≤ _
        rw [e1, wsum_append]
        have := h.aw
        omega
      · show PInv (allW (s.apply g.txn g.stamp g.writes).done).length (g.writes.foldl applyW s.pairs)
        rw [e1, List.length_append]
        exact pinv_fold g.writes h.pi m3
      · show pwt (g.writes.foldl applyW s.pairs) ≤ wsum (allW (s.apply g.txn g.stamp g.writes).done)
        rw [e1, wsum_append]
        have := pwt_fold g.writes s.pairs
        have := h.pw
        omega
      · show _ = (allW (s.apply g.txn g.stamp g.writes).done).foldl putL []
        rw [e1, List.foldl_append, ← h.ls, ← list_fold g.writes hnd]
        exact list_of rfl
      · intro e he
        have he' : (s.done ++ [(⟨g.txn, g.stamp, g.writes⟩ : Entr)]).getLast? = some e := he
        rw [List.getLast?_append] at he'
        simp at he'
        rw [← he']; rfl
    · exact (h.up (by omega) (by omega)).log k3
  · exact h.up (by omega) (by omega)
theorem GInv.tick {n wt K : Nat} {s : SM} {x : LD} (h : GInv n wt s x) : GInv (n + 1) wt (tickS s x K).1 (tickS s x K).2 := by
  unfold tickS
  split
  · exact h.up (by omega) (by omega)
  · obtain ⟨k1, k2⟩ := h.lg.keep (encBs (recB s.high s.list))
    have k3 : GL (1 + 2 * (n + 1)) (x.keep 0 (encBs (recB s.high s.list))).1 := k2
    dsimp only
    split
    · have h2 := (h.up (n' := n + 1) (wt' := wt) (by omega) (by omega)).log (k3.trim (below := (x.keep 0 (encBs (recB s.high s.list))).2.1) (K := K)).2
      exact ⟨h2.ev, by show (0 : Int) ≤ 0 ∧ (0 : Int) ≤ _; omega, h2.dn, h2.may, h2.dl, h2.aw, h2.pi, h2.pw, h2.ls, h2.hi, h2.lg⟩
    · exact (h.up (by omega) (by omega)).log k3
theorem g0 : GInv 0 0 (SM0 3) (x0 4096) := by
  have h := (x0_inv (sz := 4096) (by decide) (by decide)).1
  refine ⟨rfl, by simp [SM0], rfl, by simp [SM0]; decide, by simp [SM0], by simp [SM0, allW, wsum], ⟨by simp [SM0], by simp [SM0], by simp [SM0]⟩, by simp [SM0, pwt], by simp [SM0, SM.list, sortB, allW], by simp [SM0], ⟨h.ok, h.ne, h.d1, h.d2, fun s hs => ?_, h.r2, h.len⟩⟩
  have := h.pos s hs
  omega
end Go.Proofs.YtpdkoaklobnegaaGreat
namespace Go.Proofs.YtpdkoaklobnegaaGreat
open Go.Eng
set_option maxRecDepth 100000
set_option maxHeartbeats 1000000
set_option linter.unusedVariables false
set_option linter.unusedSimpArgs false
attribute [local irreducible] un jn chk fld ld1 ldA st1 ixS lnS lnT bld cvI cvF ixA bsS apS rdV rdW grdW eW eV eU eC eF gE condW fin pickN nilN binS vS lp0 lp1 lp2 lp3 lp4 lp5 lp6 lp7 nx0 nx1 nx2 nx3 nx4 nx5 nx6 nx7
structure SOp where
  kind : Int
  n : Int
  m : Msg
  picks : List Int
abbrev SOp.l (o : SOp) (vk vs vw vp vr vc vh vd vq : Value) : List Value := [I o.kind, I o.n, I o.m.kind, I o.m.fr, I o.m.to, I o.m.txn.coord, I o.m.txn.life, I o.m.txn.sq, I o.m.range, I o.m.epoch, I o.m.code,
  I o.m.stamp.wall, I o.m.stamp.logic, I o.m.stamp.node, I o.m.prev.wall, I o.m.prev.logic, I o.m.prev.node, B o.m.commit, I o.m.n, I o.m.mx, vk, vs, vw, vp, vr, vc,
  I o.m.state.range.id, I o.m.state.range.epoch, .float .f64 o.m.state.range.lo, .float .f64 o.m.state.range.hi,
  I o.m.state.floor.wall, I o.m.state.floor.logic, I o.m.state.floor.node, I o.m.state.closed.wall, I o.m.state.closed.logic, I o.m.state.closed.node, vh, vd, vq]
structure SOp.at (w : World) (X : XS) (o : SOp) (vk vs vw vp vr vc vh vd vq : Value) : Prop where
  m : o.m.at w X vk vs vw vp vr vc vh vd
  p : Sl w X 1 vq (o.picks.map I1)
def SOp.rd (w : World) (X : XS) (l : List Value) (o : SOp) : Prop := ∃ vk vs vw vp vr vc vh vd vq, l = o.l vk vs vw vp vr vc vh vd vq ∧ o.at w X vk vs vw vp vr vc vh vd vq
theorem SOp.mv : Moves SOp.rd := fun ⟨vk, vs, vw, vp, vr, vc, vh, vd, vq, h, h1⟩ m => ⟨vk, vs, vw, vp, vr, vc, vh, vd, vq, h, ⟨h1.m.mv m, h1.p.mv m⟩⟩
theorem m_ixOp {P : Program} {X X0 : XS} {w w0 : World} {N : Value → Prop} {t : TypeId} {v : Value} {xs : List SOp} {i : Nat} {z : Int} {x : SOp} (h : Rws w0 X0 39 v SOp.rd xs) (hr : xs[i]? = some x)
    (hz : z = i) (ht : P.underlying t = some (.slice (P.elem t))) (hs : (P.info? (P.elem t)).map (·.size) = some 39)
    (n : ∀ b o vk vs vw vp vr vc vh vd vq, Eng.one vk = true → Eng.one vs = true → Eng.one vw = true → Eng.one vp = true → Eng.one vr = true → Eng.one vc = true → Eng.one vh = true → Eng.one vd = true → Eng.one vq = true →
      Cells w0 X0 b o (x.l vk vs vw vp vr vc vh vd vq) → x.at w0 X0 vk vs vw vp vr vc vh vd vq → N (ptr b o)) : rdV P X w (ixS t 39 v (.int .i64 z)) N :=
  m_ixR h hr hz ht hs fun b o _ hc ⟨vk, vs, vw, vp, vr, vc, vh, vd, vq, hl, h1⟩ => n b o vk vs vw vp vr vc vh vd vq h1.m.keys.one h1.m.seen.one h1.m.writes.one h1.m.parts.one h1.m.ranges.one h1.m.recs.one h1.m.hists.one h1.m.pend.one h1.p.one (hl ▸ hc) h1
def opsW (l : List SOp) : Nat := (l.map fun o => wsum o.m.writes + 1).sum
theorem d_law_Few {w : World} {X : XS} {a : Value} {xs : List SOp} (ha : Rws w X 39 a SOp.rd xs) (hsz : ∀ o ∈ xs, o.m.text) :
    Ct Tryz.prog 22 #[a] w X nX fun v _ _ => ∃ b : Bool, v = B b ∧ (b = true → xs.length ≤ 200 ∧ opsW xs ≤ 20000) := by
  intro w0 hk
  replace ha := Rws.mv ha SOp.mv hk.mvo
  have hla := ha.len
  apply ok_racelaw22_Few; unfold vc_racelaw22_Few
  have hs := Since.init w0
  refine lp2_of (fun n a b w X => ∃ (i : Nat) (s : Int), a = I i ∧ b = I s ∧ n = xs.length - i ∧ i ≤ xs.length ∧ (0 ≤ s ∧ s ≤ 60002 ∧ (s ≤ 20000 → (opsW (xs.take i) : Int) ≤ s)) ∧ Since (old w0) w0 X w) xs.length ⟨0, 0, rfl, rfl, rfl, Nat.zero_le _, by simp [opsW], hs⟩ ?_
  clear hs
  rintro n a b w X ⟨i, s, rfl, rfl, rfl, hi, hw, hs⟩
  rcases at_or (xs) i with ⟨hlt, x, hx, hd⟩ | ⟨hge, hd⟩
  · have z1 := hsz x (List.mem_of_getElem? hx)
    have hsum : opsW (xs.take (i + 1)) = opsW (xs.take i) + (wsum x.m.writes + 1) := by rw [List.take_add_one, hx]; simp [opsW]
    repeat' first | ((with_reducible refine r_lssT ?_ ?_); (· omega)) | ((with_reducible refine r_leqF ?_ ?_); (· omega)) | with_reducible (first | apply condW_T | apply condW_F | apply un_selT | apply un_selFT | apply grdV_onT | apply grdW_offT | apply rdW_pickT | apply rdW_pickF) | (with_reducible apply r_lss <;> intro _) | (with_reducible apply r_leq <;> intro _) | ((with_reducible apply m_fld); (· exact qF); (· kernel_rfl); (· rfl); (· exact qN); intro _ _ _) | ((with_reducible apply m_ldA); (· exact qF); (· exact qM); (· kernel_rfl); (· rfl)) | ((with_reducible apply m_lnR); (· assumption); (· kernel_rfl)) | ((with_reducible apply m_ixOp); (case h => assumption); (case hr => exact hx); (case hz => rfl); (case ht => kernel_rfl); (case hs => kernel_rfl); intros)
    · refine r_ct0 (d_wt_Msg (g := x.m) (Msg.at.mv (SOp.at.m (by assumption)) hs.mv) z1) (by kernel_rfl) hs.has ?_
      rintro _ wa w X ⟨n1, rfl, hn1, hn2, hn3⟩ hle hin hs1
      replace hs := hs.trans hs1
      repeat' first | ((with_reducible apply r_add); (· omega); (· omega))
      exact nx2_of (xs.length - (i + 1)) (by omega) ⟨i + 1, _, by simp, rfl, rfl, by omega, by rw [hsum]; omega, hs⟩
    all_goals exact fin_ret0 hs fun wa hk9 => ⟨_, rfl, fun h => by first | (cases h; done) | omega⟩
  · have hil : i = xs.length := by omega
    subst hil
    rw [List.take_length] at hw
    repeat' first | ((with_reducible refine r_lssF ?_ ?_); (· omega)) | with_reducible (first | apply condW_F | apply un_selT | apply un_selFT | apply grdV_onT | apply grdW_offT | apply rdW_pickT | apply rdW_pickF) | (with_reducible apply r_leq <;> intro _) | ((with_reducible apply m_lnR); (· assumption); (· kernel_rfl))
    all_goals first
      | exact fin_ret0 hs fun wa hk9 => ⟨true, rfl, fun _ => by omega⟩
      | exact fin_ret0 hs fun wa hk9 => ⟨false, rfl, fun h => by cases h⟩
end Go.Proofs.YtpdkoaklobnegaaGreat
namespace Go.Proofs.YtpdkoaklobnegaaGreat
open Go.Eng
set_option maxRecDepth 100000
set_option maxHeartbeats 1000000
set_option linter.unusedVariables false
set_option linter.unusedSimpArgs false
attribute [local irreducible] un jn chk fld ld1 ldA st1 ixS lnS lnT bld cvI cvF ixA bsS apS rdV rdW grdW eW eV eU eC eF gE condW fin pickN nilN binS vS lp0 lp1 lp2 lp3 lp4 lp5 lp6 lp7 nx0 nx1 nx2 nx3 nx4 nx5 nx6 nx7
theorem opsW_take {l : List SOp} {i : Nat} {x : SOp} (hx : l[i]? = some x) : opsW (l.take (i + 1)) = opsW (l.take i) + (wsum x.m.writes + 1) := by rw [List.take_add_one, hx]; simp [opsW]
theorem opsW_le (l : List SOp) (i : Nat) : opsW (l.take i) ≤ opsW l := by
  have h := congrArg opsW (List.take_append_drop i l)
  have e : opsW (l.take i ++ l.drop i) = opsW (l.take i) + opsW (l.drop i) := by unfold opsW; rw [List.map_append, List.sum_append]
  rw [e] at h; omega
theorem up_prev {l : List KV} {i : Nat} {y : KV} (h : Up l) (hy : l[i]? = some y) : ∃ z, (0 < i → l[i - 1]? = some z) ∧ (0 < i → tlt z.key y.key = true) := by
  obtain ⟨hi, e⟩ := List.getElem?_eq_some_iff.1 hy
  by_cases h0 : 0 < i
  · refine ⟨l[i - 1], fun _ => List.getElem?_eq_getElem (by omega), fun _ => ?_⟩
    have := List.pairwise_iff_getElem.1 h (i - 1) i (by omega) hi (by omega)
    rw [e] at this; exact this
  · exact ⟨y, fun h => absurd h h0, fun h => absurd h h0⟩
def wantV (s : SM) (q : BA) (k : Nat) : Val := if (s.list.take k).any (fun y => decide (y.key = q)) then s.get q else Val.zero
theorem want_0 {s : SM} {q : BA} : wantV s q 0 = Val.zero := by simp [wantV]
theorem want_eq {s : SM} {q : BA} {k : Nat} {y : KV} (hy : s.list[k]? = some y) (he : y.key = q) : wantV s q (k + 1) = y.val := by
  have h1 := list_get (List.mem_of_getElem? hy)
  unfold wantV
  rw [List.take_add_one, hy, if_pos (by simp [he]), ← he, h1]
theorem want_ne {s : SM} {q : BA} {k : Nat} {y : KV} (hy : s.list[k]? = some y) (he : ¬ y.key = q) : wantV s q (k + 1) = wantV s q k := by
  unfold wantV
  rw [List.take_add_one, hy]
  simp [he]
theorem want_end {s : SM} {q : BA} (h : (s.pairs.map (·.1)).Nodup) : wantV s q s.list.length = s.get q := by
  unfold wantV
  rw [List.take_length]
  split
  · rfl
  · rename_i hn
    unfold SM.get
    cases hg : getM q s.pairs with
    | none => rfl
    | some v => exact absurd (List.any_eq_true.2 ⟨⟨q, v⟩, (list_up h).2 _ |>.2 ((mem_getM h).2 hg), by simp⟩) hn
theorem d_law_SinkGets {w : World} {X : XS} {vo vk0 : Value} {ops : List SOp} {keys : List BA} (h1 : Rws w X 39 vo SOp.rd ops) (h2 : Sl w X 1 vk0 (keys.map S1)) (hsz : ∀ o ∈ ops, o.m.text ∧ o.m.small ∧ o.m.lens ≤ 2 ^ 40) :
    Ct Tryz.prog 4 #[vo, vk0] w X nX fun v _ _ => v = B true := by
  intro w0 hk
  replace h1 := Rws.mv h1 SOp.mv hk.mvo
  replace h2 := h2.mv hk.mvo
  have hl1 := h1.len
  have hl2 := h2.len'
  obtain ⟨kb, kn, kc, rfl⟩ := h2.form
  have hT0 : Ft w0 nX w0 (old w0) nX := Ft.init fun _ h => h.elim
  have h10 : Rws w0 (out nX w0) 39 vo SOp.rd ops := Rws.mv h1 SOp.mv fun k hk' _ => ⟨⟨hk', fun h => h.elim⟩, rfl⟩
  have h20 : Sl w0 (out nX w0) 1 (.slice kb kn kc) (keys.map S1) := h2.mono fun k hk' => ⟨hk', fun h => h.elim⟩
  apply ok_racelaw22_SinkGets; unfold vc_racelaw22_SinkGets
  refine r_ct0V d_law_first (by kernel_rfl) hT0.s.has fun w1 X1 hs1 => ?_
  have hT1 := hT0.since hs1
  have fin1 : ∀ (w X F), Ft w0 nX w X F → eC Tryz.prog (Ret nX w0 fun v w' => (fun v x x_1 => v = B true) v w0 w') X w true 9 #[] fun x w X => Eng.fin (Ret nX w0 fun v w' => (fun v x x_1 => v = B true) v w0 w') X w x := fun w X F hT => by
    refine r_ct0V d_law_first (by kernel_rfl) hT.s.has fun w X hs => ?_
    exact (hT.since hs).fin fun wa hk9 => rfl
  repeat' first | with_reducible (first | apply condW_F | apply r_notT)
  refine r_ct0 (d_law_Few (Rws.mv h10 SOp.mv hT1.s.mv) fun o ho => (hsz o ho).1) (by kernel_rfl) hT1.s.has ?_
  rintro _ wa2 w2 X2 ⟨few, rfl, hfew⟩ hle2 hin2 hs2
  have hT2 := hT1.since hs2
  cases few with
  | false =>
    repeat' first | with_reducible (first | apply condW_T | apply un_selTF | apply grdW_offF | apply rdW_pickT | apply gE_TF | apply r_notF | apply jn_of)
    exact fin1 _ _ _ hT2
  | true =>
    obtain ⟨hn, hw⟩ := hfew rfl
    repeat' first | with_reducible (first | apply un_selF | apply r_notT)
    refine jn_by (Q := fun K => ∀ (n : Int) w X, Ft w0 nX w X nX → K (I n) w X) ?_ fun K hK => ?_
    · intro n3 w3 X3 hT3
      repeat' first | with_reducible (first | apply condW_T | apply condW_F | apply grdV_onF | apply rdW_pickF) | (with_reducible apply r_gtr <;> intro _)
      · exact fin1 _ _ _ hT3
      refine r_ct0 d_disk_New (by kernel_rfl) hT3.s.has ?_
      rintro _ wa4 w4 X4 ⟨db, rfl, hdk⟩ hle4 hin4 hs4
      have hz3 := hT3.s.kp.size
      have hT4 : Ft w0 nX w4 X4 (made wa4 w4) := (hT3.since hs4).more fun k hk' => .inr ⟨hin4 k hk', by have := hk'.1; omega⟩
      clear hT1 hT2 hT3 hs1 hs2 hs4
      repeat' first | with_reducible apply condW_F | ((with_reducible apply m_pnilF); (· kernel_rfl))
      refine hT4.call (d_sink_Open0 (sz := 4096) (every := 3) hdk (hT4.fx fun _ h => h) rfl rfl (by decide) (by decide) (by decide) (by decide) (x0_roll 4096).1) (by kernel_rfl) (fun _ h => h) fun v wa5 w5 X5 hq5 hle5 hin5 hT5 hc5 => ?_
      obtain ⟨nb, lb, F5, rfl, hF5, h5⟩ := hq5
      replace hT5 : Ft w0 nX w5 X5 F5 := hT5.less hF5
      replace h5 : Snk w5 F5 nb lb db (SM0 3) (x0 4096).L (x0 4096).m := h5
      have hg5 := g0
      clear hT4 hc5 hdk
      repeat' first | ((with_reducible refine r_neqF ?_ ?_); (· omega)) | with_reducible (first | apply condW_F | apply un_selF | apply grdV_onF | apply rdW_pickF) | ((with_reducible apply m_ext); (· rfl)) | ((with_reducible apply m_pnilF); (· kernel_rfl))
      refine lp1_of (fun m a w X => ∃ (i : Nat) (F : XS) (s : SM) (x : LD), a = I i ∧ m = ops.length - i ∧ i ≤ ops.length ∧ Ft w0 nX w X F ∧ Snk w F nb lb db s x.L x.m ∧ GInv i (opsW (ops.take i)) s x) ops.length
        ⟨0, F5, SM0 3, x0 4096, rfl, rfl, Nat.zero_le _, hT5, h5, by simpa [opsW] using hg5⟩ ?_
      clear hT5 h5 hg5
      rintro m a w6 X6 ⟨i, F6, s, x, rfl, rfl, hi, hT6, h6, hg6⟩
      have hoi := opsW_le ops i
      rcases at_or ops i with ⟨hlt, o, hx, hd⟩ | ⟨hge, hd⟩
      · have h16 : Rws w6 (out nX w0) 39 vo SOp.rd ops := Rws.mv h10 SOp.mv fun k hk' _ => ⟨hk', hT6.s.kp.block k hk'⟩
        have h16x := Rws.mv h10 SOp.mv hT6.s.mv
        have hmvS : Mv (out nX w0) w6 X6 w6 := fun k hk' _ => ⟨hT6.s.sub k hk', rfl⟩
        have hot := opsW_take hx
        have hoj := opsW_le ops (i + 1)
        obtain ⟨z1, z2, z3⟩ := hsz o (List.mem_of_getElem? hx)
        obtain ⟨p1, p2, p3⟩ := hg6.good
        repeat' first | ((with_reducible refine r_lssT ?_ ?_); (· omega)) | with_reducible apply condW_T | ((with_reducible apply m_fld1); (· exact qF); (· kernel_rfl); (· rfl); intro _ _ _) | ((with_reducible apply m_ld1); (· exact qF); (· exact qM); (· kernel_rfl); (· rfl)) | ((with_reducible apply m_lnR); (· assumption); (· kernel_rfl)) | ((with_reducible apply m_ixOp); (case h => exact h16); (case hr => exact hx); (case hz => rfl); (case ht => kernel_rfl); (case hs => kernel_rfl); intro b1 o1 vk vs vw vp vr vc vh vd vq _ _ _ _ _ _ _ _ _ hcS hatS; replace hcS := hcS.mv hmvS)
        refine jn_by (Q := fun K => ∀ w X F s x, Ft w0 nX w X F → Snk w F nb lb db s x.L x.m → GInv (i + 1) (opsW (ops.take (i + 1))) s x → K w X) ?_ fun K2 hK2 => ?_
        · intro w7 X7 F7 s7 x7 hT7 h7 hg7
          repeat' first | ((with_reducible apply r_add); (· omega); (· omega))
          exact nx1_of (ops.length - (i + 1)) (by omega) ⟨i + 1, F7, s7, x7, by simp, rfl, by omega, hT7, h7, hg7⟩
        · repeat' first | with_reducible (first | apply condW_T | apply condW_F) | (with_reducible apply r_eql <;> intro _) | ((with_reducible apply m_fld); (· exact qF); (· kernel_rfl); (· rfl); (· exact qN); intro _ _ _) | ((with_reducible apply m_ldA); (· exact qF); (· exact qM); (· kernel_rfl); (· rfl)) | ((with_reducible apply m_ixOp); (case h => exact h16); (case hr => exact hx); (case hz => rfl); (case ht => kernel_rfl); (case hs => kernel_rfl); intro b1 o1 vk vs vw vp vr vc vh vd vq _ _ _ _ _ _ _ _ _ hcS hatS; replace hcS := hcS.mv hmvS)
          · have q1 := hg6.lg.keep (encA (recA o.m.prev o.m.stamp o.m.txn o.m.writes))
            have q2 := hg6.lg.append (encA (recA o.m.prev o.m.stamp o.m.txn o.m.writes))
            have hws : wsum o.m.writes ≤ 20000 := by omega
            have hwl := wsum_len o.m.writes
            have hdl := hg6.dl
            have hsi := hg6.si
            have hsl := hg6.lg.len
            refine hT6.call (d_sink_StepM (S := out nX w0) (g := o.m) h6 (hg6.lg.lok (by omega)) (by omega) (hT6.fx fun _ h => h) hg6.dn hatS.m (fun k hk' => ⟨hT6.s.sub k hk', fun hf => hT6.no hf hk'⟩) z2 z3 (by omega)
              (fun y hy => by have := wsum_mem hy; omega) (fun hap => encA_good (applyOk_all hap).2.2 hws) (by omega) (by omega) (q2.2.lok (by omega)) q1.1) (by kernel_rfl) (fun _ h => h) fun v wa7 w7 X7 hq7 hle7 hin7 hT7 hc7 => ?_
            obtain ⟨vo7, F7, S7, rfl, hF7, hS7, h7, hout7⟩ := hq7
            refine hK2 _ _ F7 _ _ (hT7.less hF7) h7 ?_
            exact (hg6.step o.m).up (Nat.le_refl _) (by omega)
          · have q1 := hg6.lg.keep (encBs (recB s.high s.list))
            have q2 := hg6.lg.append (encBs (recB s.high s.list))
            have q3 := q1.2.trim (below := (x.keep 0 (encBs (recB s.high s.list))).2.1) (K := 1000)
            have hsl := hg6.lg.len
            have hsl2 := q1.2.len
            obtain ⟨pl1, pl2, pl3, pl4⟩ := hg6.pi.list
            have hpl := hg6.pi.len
            have haw := wsum_len (allW s.done)
            have haw2 := hg6.aw
            refine hT6.call (d_sink_Tick (K := 1000) h6 (hg6.lg.lok (by omega)) (by omega) (hT6.fx fun _ h => h) hg6.dn (fun y hy => by have := pl4 y hy; omega) (by omega) (by omega) (fun y hy => by have := pl2 y hy; omega) hg6.may pl1
              (encB_good (fun y hy => ⟨(p1 y hy).1, (p1 y hy).2.1⟩) (by omega)) (fun _ => q2.2.lok (by omega)) (fun _ => q1.1) (fun _ => q1.2.lok (by omega)) (fun _ => Nat.le_trans hsl2 (by omega)) (by decide) (fun _ => q3.1)) (by kernel_rfl) (fun _ h => h) fun v wa7 w7 X7 hq7 hle7 hin7 hT7 hc7 => ?_
            obtain ⟨F7, rfl, hF7, h7⟩ := hq7
            refine hK2 _ _ F7 _ _ (hT7.less hF7) h7 ?_
            exact (hg6.tick (K := 1000)).up (Nat.le_refl _) (by omega)
          · exact hK2 _ _ F6 s x hT6 h6 (hg6.up (by omega) (by omega))
      · have hil : i = ops.length := by omega
        subst hil
        rw [List.take_length] at hg6
        obtain ⟨p1, p2, p3⟩ := hg6.good
        obtain ⟨pl1, pl2, pl3, pl4⟩ := hg6.pi.list
        have hpl := hg6.pi.len
        have haw := wsum_len (allW s.done)
        have haw2 := hg6.aw
        have hdl := hg6.dl
        obtain ⟨up1, up2⟩ := list_up hg6.pi.nd
        have h16x := Rws.mv h10 SOp.mv hT6.s.mv
        repeat' first | ((with_reducible refine r_lssF ?_ ?_); (· omega)) | with_reducible apply condW_F | ((with_reducible apply m_lnR); (· assumption); (· kernel_rfl))
        obtain ⟨FN6, FG6, mb6, av6, es6, hdj6, hN6, hG6, hsk6, hlg6⟩ := id h6
        refine r_ct0 (d_sink_Pairs hsk6 (hT6.fx hN6) (fun y hy => by have := pl4 y hy; omega) (by omega)) (by kernel_rfl) hT6.s.has ?_
        rintro vp wa7 w7 X7 hop hle7 hin7 hs7
        have hT7 := hT6.since hs7
        have h7 := h6.mv (hs7.mvF hT6.inX)
        obtain ⟨FN7, FG7, mb7, av7, es7, hdj7, hN7, hG7, hsk7, hlg7⟩ := id h7
        have hwl : ∀ e ∈ s.done, e.writes.length ≤ 20000 := fun e he => by
          have h1 : e.writes.length ≤ (allW s.done).length := (List.sublist_flatten_of_mem (List.mem_map.2 ⟨e, he, rfl⟩)).length_le
          omega
        refine r_ct0 (d_sink_Applied hsk7 (hT7.fx hN7) (by omega) (fun e he => by have := hwl e he; omega)) (by kernel_rfl) hT7.s.has ?_
        rintro va wa8 w8 X8 ⟨es', hes, hoa, how⟩ hle8 hin8 hs8
        have hT8 := hT7.since hs8
        have h8 := h7.mv (hs8.mvF hT7.inX)
        have hp8 : Sl w8 X8 4 vp (s.list.map KV.l) := (hop.sl.mono hin7).mv hs8.mv
        have ha8 := hoa.sl.mono hin8
        have hw8 : ∀ e ∈ es', Sl w8 X8 4 e.1 (e.2.writes.map KV.l) := fun e he => (how e he).sl.mono hin8
        have hesl : es'.length = s.done.length := by have := congrArg List.length hes; simpa using this
        repeat' first | ((with_reducible apply m_lnS); (· exact qO); (· kernel_rfl))
        refine r_ct0 (d_law_pairs ha8 hw8 (by rw [show es'.map Prod.snd = s.done from hes]; omega) (by omega)) (by kernel_rfl) hT8.s.has ?_
        rintro vq wa9 w9 X9 hoq hle9 hin9 hs9
        have hT9 := hT8.since hs9
        have h9 := h8.mv (hs9.mvF hT8.inX)
        have hp9 := hp8.mv hs9.mv
        have ha9 := ha8.mv hs9.mv
        rw [show es'.map Prod.snd = s.done from hes, ← hg6.ls] at hoq
        refine r_ct0V (u := B true) ((d_raceref_Pairs hp9 (hoq.sl.mono hin9)).mono fun v wa w' _ hv => by rw [hv]; simp) (by kernel_rfl) hT9.s.has fun w10 X10 hs10 => ?_
        have hT10 := hT9.since hs10
        have h10' := h9.mv (hs10.mvF hT9.inX)
        have hp10 := hp9.mv hs10.mv
        have ha10 := ha9.mv hs10.mv
        clear hsk6 hlg6 hsk7 hlg7 hop hoa how hoq ha8 hw8 hp8 ha9 hp9 h6 h7 h8 h9 hT6 hT7 hT8 hT9 h16x
        rcases Nat.eq_zero_or_pos es'.length with hz | hz
        · repeat' first | ((with_reducible refine r_gtrF ?_ ?_); (· omega)) | with_reducible (first | apply un_selF | apply un_selFT | apply grdV_onF | apply grdW_offT | apply r_notT) | ((with_reducible apply m_lnS); (· exact qO); (· kernel_rfl))
          refine jn_by (Q := fun K => K undef w10 X10) ?_ fun K hK => ?_
          · repeat' first | with_reducible (first | apply condW_F | apply grdW_onF | apply grdW_offT | apply rdW_pickF)
            have hT11 := hT10
            have h11 := h10'
            have hp11 := hp10
            clear hT10 h10' hp10 ha10
            refine lp1_of (fun m a w X => ∃ i : Nat, a = I i ∧ m = s.list.length - i ∧ i ≤ s.list.length ∧ Ft w0 nX w X F6 ∧ Snk w F6 nb lb db s x.L x.m ∧ Sl w X 4 vp (s.list.map KV.l)) s.list.length ⟨0, rfl, rfl, Nat.zero_le _, hT11, h11, hp11⟩ ?_
            clear hT11 h11 hp11
            rintro m a w12 X12 ⟨i, rfl, rfl, hi2, hT12, h12, hp12⟩
            rcases at_or s.list i with ⟨hlt2, y, hy, hd2⟩ | ⟨hge2, hd2⟩
            · have hym := List.mem_of_getElem? hy
              have hyk := (p1 y hym).2.2
              have hgy := list_get hym
              obtain ⟨z, hzi, hzt⟩ : ∃ z, (0 < i → s.list[i - 1]? = some z) ∧ (0 < i → tlt z.key y.key = true) := up_prev up1 hy
              by_cases hi0 : 0 < i
              · replace hzi := hzi hi0
                replace hzt := hzt hi0
                repeat' first | ((with_reducible refine r_lssT ?_ ?_); (· omega)) | ((with_reducible refine r_eqlF ?_ ?_); (· omega)) | ((with_reducible refine r_gtrT ?_ ?_); (· omega)) | with_reducible (first | apply condW_T | apply un_selT | apply un_selF | apply un_selTF | apply grdV_onT | apply grdV_onF | apply grdW_offF | apply rdW_pickT | apply rdW_pickF) | (with_reducible apply r_sleq <;> intros) | ((with_reducible apply m_fld1); (· exact qF); (· kernel_rfl); (· rfl); intro _ _ _) | ((with_reducible apply m_fld); (· exact qF); (· kernel_rfl); (· rfl); (· exact qN); intro _ _ _) | ((with_reducible apply m_ld1); (· exact qF); (· exact qM); (· kernel_rfl); (· rfl)) | ((with_reducible apply m_ldA); (· exact qF); (· exact qM); (· kernel_rfl); (· rfl)) | ((with_reducible apply m_lnS); (· exact qO); (· kernel_rfl)) | ((with_reducible apply m_ixS); (· exact qO); (try (case hz => rfl)); (case hr => exact qR); (try (case hz => omega)); (case ht => kernel_rfl); (case hs => kernel_rfl); intro _ _ _) | ((with_reducible apply r_sub); (· omega); (· omega))
                · exfalso
                  rename_i hbad
                  rcases hbad with hbad | hbad
                  · rw [tl_asymm hzt] at hbad; cases hbad
                  · exact tl_ne hzt hbad.symm
                refine jn_by (Q := fun K => ∀ w X, Ft w0 nX w X F6 → Snk w F6 nb lb db s x.L x.m → Sl w X 4 vp (s.list.map KV.l) → K y.val.v w X) ?_ fun K hK => ?_
                · intro w13 X13 hT13 h13 hp13
                  refine jn_by (Q := fun K => ∀ w X, Ft w0 nX w X F6 → Snk w F6 nb lb db s x.L x.m → Sl w X 4 vp (s.list.map KV.l) → K (B true) w X) ?_ fun K hK => ?_
                  · intro w14 X14 hT14 h14 hp14
                    repeat' first | with_reducible (first | apply condW_F | apply grdV_onF | apply rdW_pickF | apply r_notT) | ((with_reducible apply r_add); (· omega); (· omega))
                    exact nx1_of (s.list.length - (i + 1)) (by omega) ⟨i + 1, by simp, rfl, by omega, hT14, h14, hp14⟩
                  · repeat' first | with_reducible apply gE_F
                    refine r_pure (c_raceref_Value y.val y.val) (by kernel_rfl) hT13.s.has fun w14 X14 hs14 => ?_
                    rw [decide_eq_true rfl]
                    exact hK _ _ (hT13.since hs14) (h13.mv (hs14.mvF hT13.inX)) (hp13.mv hs14.mv)
                · repeat' first | with_reducible apply gE_F
                  obtain ⟨FN12, FG12, mb12, av12, es12, hdj12, hN12, hG12, hsk12, hlg12⟩ := id h12
                  refine r_ct0V (d_sink_Get hsk12 (hT12.fx hN12)) (by kernel_rfl) hT12.s.has fun w13 X13 hs13 => ?_
                  rw [hgy]
                  exact hK _ _ (hT12.since hs13) (h12.mv (hs13.mvF hT12.inX)) (hp12.mv hs13.mv)
              · repeat' first | ((with_reducible refine r_lssT ?_ ?_); (· omega)) | ((with_reducible refine r_eqlF ?_ ?_); (· omega)) | ((with_reducible refine r_gtrF ?_ ?_); (· omega)) | with_reducible (first | apply condW_T | apply un_selF | apply un_selFT | apply grdV_onF | apply grdW_offT | apply rdW_pickF) | ((with_reducible apply m_fld1); (· exact qF); (· kernel_rfl); (· rfl); intro _ _ _) | ((with_reducible apply m_fld); (· exact qF); (· kernel_rfl); (· rfl); (· exact qN); intro _ _ _) | ((with_reducible apply m_ld1); (· exact qF); (· exact qM); (· kernel_rfl); (· rfl)) | ((with_reducible apply m_ldA); (· exact qF); (· exact qM); (· kernel_rfl); (· rfl)) | ((with_reducible apply m_lnS); (· exact qO); (· kernel_rfl)) | ((with_reducible apply m_ixS); (· exact qO); (try (case hz => rfl)); (case hr => exact qR); (try (case hz => omega)); (case ht => kernel_rfl); (case hs => kernel_rfl); intro _ _ _)
                refine jn_by (Q := fun K => ∀ w X, Ft w0 nX w X F6 → Snk w F6 nb lb db s x.L x.m → Sl w X 4 vp (s.list.map KV.l) → K y.val.v w X) ?_ fun K hK => ?_
                · intro w13 X13 hT13 h13 hp13
                  refine jn_by (Q := fun K => ∀ w X, Ft w0 nX w X F6 → Snk w F6 nb lb db s x.L x.m → Sl w X 4 vp (s.list.map KV.l) → K (B true) w X) ?_ fun K hK => ?_
                  · intro w14 X14 hT14 h14 hp14
                    repeat' first | with_reducible (first | apply condW_F | apply grdV_onF | apply rdW_pickF | apply r_notT) | ((with_reducible apply r_add); (· omega); (· omega))
                    exact nx1_of (s.list.length - (i + 1)) (by omega) ⟨i + 1, by simp, rfl, by omega, hT14, h14, hp14⟩
                  · repeat' first | with_reducible apply gE_F
                    refine r_pure (c_raceref_Value y.val y.val) (by kernel_rfl) hT13.s.has fun w14 X14 hs14 => ?_
                    rw [decide_eq_true rfl]
                    exact hK _ _ (hT13.since hs14) (h13.mv (hs14.mvF hT13.inX)) (hp13.mv hs14.mv)
                · repeat' first | with_reducible apply gE_F
                  obtain ⟨FN12, FG12, mb12, av12, es12, hdj12, hN12, hG12, hsk12, hlg12⟩ := id h12
                  refine r_ct0V (d_sink_Get hsk12 (hT12.fx hN12)) (by kernel_rfl) hT12.s.has fun w13 X13 hs13 => ?_
                  rw [hgy]
                  exact hK _ _ (hT12.since hs13) (h12.mv (hs13.mvF hT12.inX)) (hp12.mv hs13.mv)
            · have hpl2 := hp12.len'
              repeat' first | ((with_reducible refine r_lssF ?_ ?_); (· omega)) | with_reducible apply condW_F | ((with_reducible apply m_lnS); (· exact qO); (· kernel_rfl))
              refine lp3_of (fun m a _ _ w X => ∃ i : Nat, a = I i ∧ m = keys.length - i ∧ i ≤ keys.length ∧ Ft w0 nX w X F6 ∧ Snk w F6 nb lb db s x.L x.m ∧ Sl w X 4 vp (s.list.map KV.l)) keys.length ⟨0, rfl, rfl, Nat.zero_le _, hT12, h12, hp12⟩ ?_
              clear hT12 h12 hp12 hi2 hge2 hd2
              rintro m a _ _ w13 X13 ⟨j, rfl, rfl, hj, hT13, h13, hp13⟩
              have h23 := h20.mv hT13.s.mv
              rcases at_or keys j with ⟨hlt3, q, hq, hd3⟩ | ⟨hge3, hd3⟩
              · repeat' first | ((with_reducible refine r_lssT ?_ ?_); (· omega)) | with_reducible (first | apply condW_T | apply un_box) | ((with_reducible apply m_lnS); (· exact qO); (· kernel_rfl)) | ((with_reducible apply r_bld); (· kernel_rfl)) | ((with_reducible apply m_chkc); (case h => exact qE)) | ((with_reducible apply chk_T); (· exact qC))
                refine lp2_of (fun m a b w X => ∃ k : Nat, a = I k ∧ b = (wantV s q k).v ∧ m = s.list.length - k ∧ k ≤ s.list.length ∧ Ft w0 nX w X F6 ∧ Snk w F6 nb lb db s x.L x.m ∧ Sl w X 4 vp (s.list.map KV.l)) s.list.length ⟨0, rfl, by rw [want_0], rfl, Nat.zero_le _, hT13, h13, hp13⟩ ?_
                clear hT13 h13 hp13 h23
                rintro m a b w14 X14 ⟨k, rfl, rfl, rfl, hk2, hT14, h14, hp14⟩
                have h24 := h20.mv hT14.s.mv
                rcases at_or s.list k with ⟨hlt4, y, hy, hd4⟩ | ⟨hge4, hd4⟩
                · repeat' first | ((with_reducible refine r_lssT ?_ ?_); (· omega)) | with_reducible (first | apply condW_T | apply condW_F | apply un_box) | (with_reducible apply r_seql <;> intro _) | ((with_reducible apply m_fld1); (· exact qF); (· kernel_rfl); (· rfl); intro _ _ _) | ((with_reducible apply m_fld); (· exact qF); (· kernel_rfl); (· rfl); (· exact qN); intro _ _ _) | ((with_reducible apply m_ld1); (· exact qF); (· exact qM); (· kernel_rfl); (· rfl)) | ((with_reducible apply m_ldA); (· exact qF); (· exact qM); (· kernel_rfl); (· rfl)) | ((with_reducible apply m_lnS); (· exact qO); (· kernel_rfl)) | ((with_reducible apply m_ixS); (· exact qO); (try (case hz => rfl)); (case hr => exact qR); (try (case hz => omega)); (case ht => kernel_rfl); (case hs => kernel_rfl); intro _ _ _) | ((with_reducible apply m_chkc); (case h => exact qE)) | ((with_reducible apply chk_T); (· exact qC)) | ((with_reducible apply r_add); (· omega); (· omega)) | with_reducible apply jn_of
                  · refine nx2_of (s.list.length - (k + 1)) (by omega) ⟨k + 1, by simp, ?_, rfl, by omega, hT14, h14, hp14⟩
                    rw [want_eq hy (by assumption)]
                  · refine nx2_of (s.list.length - (k + 1)) (by omega) ⟨k + 1, by simp, ?_, rfl, by omega, hT14, h14, hp14⟩
                    rw [want_ne hy (by assumption)]
                · have hkl : k = s.list.length := by omega
                  subst hkl
                  rw [want_end hg6.pi.nd]
                  repeat' first | ((with_reducible refine r_lssF ?_ ?_); (· omega)) | with_reducible apply condW_F | ((with_reducible apply m_ld1); (· exact qF); (· exact qM); (· kernel_rfl); (· rfl)) | ((with_reducible apply m_lnS); (· exact qO); (· kernel_rfl)) | ((with_reducible apply m_ixS); (· exact qO); (try (case hz => rfl)); (case hr => exact qR); (try (case hz => omega)); (case ht => kernel_rfl); (case hs => kernel_rfl); intro _ _ _) | ((with_reducible apply chk_T); (· exact qC))
                  obtain ⟨FN14, FG14, mb14, av14, es14, hdj14, hN14, hG14, hsk14, hlg14⟩ := id h14
                  refine r_ct0V (d_sink_Get hsk14 (hT14.fx hN14)) (by kernel_rfl) hT14.s.has fun w15 X15 hs15 => ?_
                  have hT15 := hT14.since hs15
                  repeat' first | ((with_reducible apply m_sub); (· exact qN))
                  refine r_pure (c_raceref_Value (s.get q) (s.get q)) (by kernel_rfl) hT15.s.has fun w16 X16 hs16 => ?_
                  rw [decide_eq_true rfl]
                  repeat' first | with_reducible (first | apply condW_F | apply r_notT) | ((with_reducible apply r_add); (· omega); (· omega))
                  exact nx3_of (keys.length - (j + 1)) (by omega) ⟨j + 1, by simp, rfl, by omega, hT15.since hs16, (h14.mv (hs15.mvF hT14.inX)).mv (hs16.mvF hT15.inX), (hp14.mv hs15.mv).mv hs16.mv⟩
              · repeat' first | ((with_reducible refine r_lssF ?_ ?_); (· omega)) | with_reducible apply condW_F | ((with_reducible apply m_lnS); (· exact qO); (· kernel_rfl))
                exact fin1 _ _ _ hT13
          · repeat' first | with_reducible apply gE_FT
            exact hK
        · obtain ⟨e, he⟩ : ∃ e, es'[es'.length - 1]? = some e := ⟨_, List.getElem?_eq_getElem (by omega)⟩
          have hst : e.2.stamp = s.high := hg6.hi e.2 (by rw [← hes, List.getLast?_eq_getElem?, List.length_map, List.getElem?_map, he]; rfl)
          repeat' first | ((with_reducible refine r_gtrT ?_ ?_); (· omega)) | with_reducible (first | apply un_selT | apply un_selF | apply grdV_onT | apply grdV_onF | apply r_notT) | ((with_reducible apply m_fld); (· exact qF); (· kernel_rfl); (· rfl); (· exact qN); intro _ _ _) | ((with_reducible apply m_ldA); (· exact qF); (· exact qM); (· kernel_rfl); (· rfl)) | ((with_reducible apply m_lnS); (· exact qO); (· kernel_rfl)) | ((with_reducible apply m_ixS); (· exact qO); (try (case hz => rfl)); (case hr => exact qR); (try (case hz => omega)); (case ht => kernel_rfl); (case hs => kernel_rfl); intro _ _ _) | ((with_reducible apply r_sub); (· omega); (· omega))
          refine jn_by (Q := fun K => ∀ w X, Ft w0 nX w X F6 → Snk w F6 nb lb db s x.L x.m → Sl w X 4 vp (s.list.map KV.l) → K s.high.v w X) ?_ fun K hK => ?_
          · intro w11 X11 hT11 h11 hp11
            clear hT10 h10' hp10 ha10
            repeat' first | with_reducible (first | apply condW_T | apply condW_F | apply grdV_onT | apply grdW_onF | apply rdW_pickT | apply rdW_pickF) | ((with_reducible refine r_neS _ _ ?_ ?_ ?_); (· kernel_rfl); all_goals intros)
            · exact absurd hst (by assumption)
            refine lp1_of (fun m a w X => ∃ i : Nat, a = I i ∧ m = s.list.length - i ∧ i ≤ s.list.length ∧ Ft w0 nX w X F6 ∧ Snk w F6 nb lb db s x.L x.m ∧ Sl w X 4 vp (s.list.map KV.l)) s.list.length ⟨0, rfl, rfl, Nat.zero_le _, hT11, h11, hp11⟩ ?_
            clear hT11 h11 hp11
            rintro m a w12 X12 ⟨i, rfl, rfl, hi2, hT12, h12, hp12⟩
            rcases at_or s.list i with ⟨hlt2, y, hy, hd2⟩ | ⟨hge2, hd2⟩
            · have hym := List.mem_of_getElem? hy
              have hyk := (p1 y hym).2.2
              have hgy := list_get hym
              obtain ⟨z, hzi, hzt⟩ : ∃ z, (0 < i → s.list[i - 1]? = some z) ∧ (0 < i → tlt z.key y.key = true) := up_prev up1 hy
              by_cases hi0 : 0 < i
              · replace hzi := hzi hi0
                replace hzt := hzt hi0
                repeat' first | ((with_reducible refine r_lssT ?_ ?_); (· omega)) | ((with_reducible refine r_eqlF ?_ ?_); (· omega)) | ((with_reducible refine r_gtrT ?_ ?_); (· omega)) | with_reducible (first | apply condW_T | apply un_selT | apply un_selF | apply un_selTF | apply grdV_onT | apply grdV_onF | apply grdW_offF | apply rdW_pickT | apply rdW_pickF) | (with_reducible apply r_sleq <;> intros) | ((with_reducible apply m_fld1); (· exact qF); (· kernel_rfl); (· rfl); intro _ _ _) | ((with_reducible apply m_fld); (· exact qF); (· kernel_rfl); (· rfl); (· exact qN); intro _ _ _) | ((with_reducible apply m_ld1); (· exact qF); (· exact qM); (· kernel_rfl); (· rfl)) | ((with_reducible apply m_ldA); (· exact qF); (· exact qM); (· kernel_rfl); (· rfl)) | ((with_reducible apply m_lnS); (· exact qO); (· kernel_rfl)) | ((with_reducible apply m_ixS); (· exact qO); (try (case hz => rfl)); (case hr => exact qR); (try (case hz => omega)); (case ht => kernel_rfl); (case hs => kernel_rfl); intro _ _ _) | ((with_reducible apply r_sub); (· omega); (· omega))
                · exfalso
                  rename_i hbad
                  rcases hbad with hbad | hbad
                  · rw [tl_asymm hzt] at hbad; cases hbad
                  · exact tl_ne hzt hbad.symm
                refine jn_by (Q := fun K => ∀ w X, Ft w0 nX w X F6 → Snk w F6 nb lb db s x.L x.m → Sl w X 4 vp (s.list.map KV.l) → K y.val.v w X) ?_ fun K hK => ?_
                · intro w13 X13 hT13 h13 hp13
                  refine jn_by (Q := fun K => ∀ w X, Ft w0 nX w X F6 → Snk w F6 nb lb db s x.L x.m → Sl w X 4 vp (s.list.map KV.l) → K (B true) w X) ?_ fun K hK => ?_
                  · intro w14 X14 hT14 h14 hp14
                    repeat' first | with_reducible (first | apply condW_F | apply grdV_onF | apply rdW_pickF | apply r_notT) | ((with_reducible apply r_add); (· omega); (· omega))
                    exact nx1_of (s.list.length - (i + 1)) (by omega) ⟨i + 1, by simp, rfl, by omega, hT14, h14, hp14⟩
                  · repeat' first | with_reducible apply gE_F
                    refine r_pure (c_raceref_Value y.val y.val) (by kernel_rfl) hT13.s.has fun w14 X14 hs14 => ?_
                    rw [decide_eq_true rfl]
                    exact hK _ _ (hT13.since hs14) (h13.mv (hs14.mvF hT13.inX)) (hp13.mv hs14.mv)
                · repeat' first | with_reducible apply gE_F
                  obtain ⟨FN12, FG12, mb12, av12, es12, hdj12, hN12, hG12, hsk12, hlg12⟩ := id h12
                  refine r_ct0V (d_sink_Get hsk12 (hT12.fx hN12)) (by kernel_rfl) hT12.s.has fun w13 X13 hs13 => ?_
                  rw [hgy]
                  exact hK _ _ (hT12.since hs13) (h12.mv (hs13.mvF hT12.inX)) (hp12.mv hs13.mv)
              · repeat' first | ((with_reducible refine r_lssT ?_ ?_); (· omega)) | ((with_reducible refine r_eqlF ?_ ?_); (· omega)) | ((with_reducible refine r_gtrF ?_ ?_); (· omega)) | with_reducible (first | apply condW_T | apply un_selF | apply un_selFT | apply grdV_onF | apply grdW_offT | apply rdW_pickF) | ((with_reducible apply m_fld1); (· exact qF); (· kernel_rfl); (· rfl); intro _ _ _) | ((with_reducible apply m_fld); (· exact qF); (· kernel_rfl); (· rfl); (· exact qN); intro _ _ _) | ((with_reducible apply m_ld1); (· exact qF); (· exact qM); (· kernel_rfl); (· rfl)) | ((with_reducible apply m_ldA); (· exact qF); (· exact qM); (· kernel_rfl); (· rfl)) | ((with_reducible apply m_lnS); (· exact qO); (· kernel_rfl)) | ((with_reducible apply m_ixS); (· exact qO); (try (case hz => rfl)); (case hr => exact qR); (try (case hz => omega)); (case ht => kernel_rfl); (case hs => kernel_rfl); intro _ _ _)
                refine jn_by (Q := fun K => ∀ w X, Ft w0 nX w X F6 → Snk w F6 nb lb db s x.L x.m → Sl w X 4 vp (s.list.map KV.l) → K y.val.v w X) ?_ fun K hK => ?_
                · intro w13 X13 hT13 h13 hp13
                  refine jn_by (Q := fun K => ∀ w X, Ft w0 nX w X F6 → Snk w F6 nb lb db s x.L x.m → Sl w X 4 vp (s.list.map KV.l) → K (B true) w X) ?_ fun K hK => ?_
                  · intro w14 X14 hT14 h14 hp14
                    repeat' first | with_reducible (first | apply condW_F | apply grdV_onF | apply rdW_pickF | apply r_notT) | ((with_reducible apply r_add); (· omega); (· omega))
                    exact nx1_of (s.list.length - (i + 1)) (by omega) ⟨i + 1, by simp, rfl, by omega, hT14, h14, hp14⟩
                  · repeat' first | with_reducible apply gE_F
                    refine r_pure (c_raceref_Value y.val y.val) (by kernel_rfl) hT13.s.has fun w14 X14 hs14 => ?_
                    rw [decide_eq_true rfl]
                    exact hK _ _ (hT13.since hs14) (h13.mv (hs14.mvF hT13.inX)) (hp13.mv hs14.mv)
                · repeat' first | with_reducible apply gE_F
                  obtain ⟨FN12, FG12, mb12, av12, es12, hdj12, hN12, hG12, hsk12, hlg12⟩ := id h12
                  refine r_ct0V (d_sink_Get hsk12 (hT12.fx hN12)) (by kernel_rfl) hT12.s.has fun w13 X13 hs13 => ?_
                  rw [hgy]
                  exact hK _ _ (hT12.since hs13) (h12.mv (hs13.mvF hT12.inX)) (hp12.mv hs13.mv)
            · have hpl2 := hp12.len'
              repeat' first | ((with_reducible refine r_lssF ?_ ?_); (· omega)) | with_reducible apply condW_F | ((with_reducible apply m_lnS); (· exact qO); (· kernel_rfl))
              refine lp3_of (fun m a _ _ w X => ∃ i : Nat, a = I i ∧ m = keys.length - i ∧ i ≤ keys.length ∧ Ft w0 nX w X F6 ∧ Snk w F6 nb lb db s x.L x.m ∧ Sl w X 4 vp (s.list.map KV.l)) keys.length ⟨0, rfl, rfl, Nat.zero_le _, hT12, h12, hp12⟩ ?_
              clear hT12 h12 hp12 hi2 hge2 hd2
              rintro m a _ _ w13 X13 ⟨j, rfl, rfl, hj, hT13, h13, hp13⟩
              have h23 := h20.mv hT13.s.mv
              rcases at_or keys j with ⟨hlt3, q, hq, hd3⟩ | ⟨hge3, hd3⟩
              · repeat' first | ((with_reducible refine r_lssT ?_ ?_); (· omega)) | with_reducible (first | apply condW_T | apply un_box) | ((with_reducible apply m_lnS); (· exact qO); (· kernel_rfl)) | ((with_reducible apply r_bld); (· kernel_rfl)) | ((with_reducible apply m_chkc); (case h => exact qE)) | ((with_reducible apply chk_T); (· exact qC))
                refine lp2_of (fun m a b w X => ∃ k : Nat, a = I k ∧ b = (wantV s q k).v ∧ m = s.list.length - k ∧ k ≤ s.list.length ∧ Ft w0 nX w X F6 ∧ Snk w F6 nb lb db s x.L x.m ∧ Sl w X 4 vp (s.list.map KV.l)) s.list.length ⟨0, rfl, by rw [want_0], rfl, Nat.zero_le _, hT13, h13, hp13⟩ ?_
                clear hT13 h13 hp13 h23
                rintro m a b w14 X14 ⟨k, rfl, rfl, rfl, hk2, hT14, h14, hp14⟩
                have h24 := h20.mv hT14.s.mv
                rcases at_or s.list k with ⟨hlt4, y, hy, hd4⟩ | ⟨hge4, hd4⟩
                · repeat' first | ((with_reducible refine r_lssT ?_ ?_); (· omega)) | with_reducible (first | apply condW_T | apply condW_F | apply un_box) | (with_reducible apply r_seql <;> intro _) | ((with_reducible apply m_fld1); (· exact qF); (· kernel_rfl); (· rfl); intro _ _ _) | ((with_reducible apply m_fld); (· exact qF); (· kernel_rfl); (· rfl); (· exact qN); intro _ _ _) | ((with_reducible apply m_ld1); (· exact qF); (· exact qM); (· kernel_rfl); (· rfl)) | ((with_reducible apply m_ldA); (· exact qF); (· exact qM); (· kernel_rfl); (· rfl)) | ((with_reducible apply m_lnS); (· exact qO); (· kernel_rfl)) | ((with_reducible apply m_ixS); (· exact qO); (try (case hz => rfl)); (case hr => exact qR); (try (case hz => omega)); (case ht => kernel_rfl); (case hs => kernel_rfl); intro _ _ _) | ((with_reducible apply m_chkc); (case h => exact qE)) | ((with_reducible apply chk_T); (· exact qC)) | ((with_reducible apply r_add); (· omega); (· omega)) | with_reducible apply jn_of
                  · refine nx2_of (s.list.length - (k + 1)) (by omega) ⟨k + 1, by simp, ?_, rfl, by omega, hT14, h14, hp14⟩
                    rw [want_eq hy (by assumption)]
                  · refine nx2_of (s.list.length - (k + 1)) (by omega) ⟨k + 1, by simp, ?_, rfl, by omega, hT14, h14, hp14⟩
                    rw [want_ne hy (by assumption)]
                · have hkl : k = s.list.length := by omega
                  subst hkl
                  rw [want_end hg6.pi.nd]
                  repeat' first | ((with_reducible refine r_lssF ?_ ?_); (· omega)) | with_reducible apply condW_F | ((with_reducible apply m_ld1); (· exact qF); (· exact qM); (· kernel_rfl); (· rfl)) | ((with_reducible apply m_lnS); (· exact qO); (· kernel_rfl)) | ((with_reducible apply m_ixS); (· exact qO); (try (case hz => rfl)); (case hr => exact qR); (try (case hz => omega)); (case ht => kernel_rfl); (case hs => kernel_rfl); intro _ _ _) | ((with_reducible apply chk_T); (· exact qC))
                  obtain ⟨FN14, FG14, mb14, av14, es14, hdj14, hN14, hG14, hsk14, hlg14⟩ := id h14
                  refine r_ct0V (d_sink_Get hsk14 (hT14.fx hN14)) (by kernel_rfl) hT14.s.has fun w15 X15 hs15 => ?_
                  have hT15 := hT14.since hs15
                  repeat' first | ((with_reducible apply m_sub); (· exact qN))
                  refine r_pure (c_raceref_Value (s.get q) (s.get q)) (by kernel_rfl) hT15.s.has fun w16 X16 hs16 => ?_
                  rw [decide_eq_true rfl]
                  repeat' first | with_reducible (first | apply condW_F | apply r_notT) | ((with_reducible apply r_add); (· omega); (· omega))
                  exact nx3_of (keys.length - (j + 1)) (by omega) ⟨j + 1, by simp, rfl, by omega, hT15.since hs16, (h14.mv (hs15.mvF hT14.inX)).mv (hs16.mvF hT15.inX), (hp14.mv hs15.mv).mv hs16.mv⟩
              · repeat' first | ((with_reducible refine r_lssF ?_ ?_); (· omega)) | with_reducible apply condW_F | ((with_reducible apply m_lnS); (· exact qO); (· kernel_rfl))
                exact fin1 _ _ _ hT13
          · obtain ⟨FN6, FG6, mb6, av6, es6, hdj6, hN6, hG6, hsk6, hlg6⟩ := id h10'
            repeat' first | with_reducible apply gE_T
            refine r_ct0V (d_sink_High hsk6 (hT10.fx hN6)) (by kernel_rfl) hT10.s.has fun w11 X11 hs11 => ?_
            exact hK _ _ (hT10.since hs11) (h10'.mv (hs11.mvF hT10.inX)) (hp10.mv hs11.mv)
    · repeat' first | with_reducible apply gE_F
      refine r_ct0 (d_raceref_WeighTexts (h20.mv hT2.s.mv)) (by kernel_rfl) hT2.s.has ?_
      rintro _ wa3 w3 X3 ⟨n3, rfl⟩ hle3 hin3 hs3
      exact hK n3 _ _ (hT2.since hs3)
end Go.Proofs.YtpdkoaklobnegaaGreat
