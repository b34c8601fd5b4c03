/-
  Part 7 of the proof: what the last text leans on.
-/
import Derived.Shelf.SlSortCmp.WholeK
import Derived.Ground.SlsfProg
import Derived.Shelf.SlGeneric
import Derived.Test.YtnphlhpdikmpiaaGreatProg
import Derived.Test.YtnphlhpdikmpiaaGreatH6
namespace Go.Proofs
open Go.Shelf
def Tryz.sortPend_ren : Go.Shelf.Ren := ⟨fun | 6 => 46 | 15 => 77 | 14 => 76 | 28 => 99 | 29 => 100 | 20 => 91 | 21 => 92 | 22 => 93 | 23 => 94 | 24 => 95 | 25 => 96 | 26 => 97 | 27 => 98 | 46 => 120 | 47 => 121 | 48 => 122 | 49 => 123 | 50 => 124 | 57 => 142 | n => n, fun | 22 => 47 | 24 => 87 | 25 => 110 | 3 => 3 | 39 => 136 | 0 => 0 | 53 => 159 | 55 => 129 | 4 => 4 | 46 => 152 | 45 => 151 | 50 => 156 | 5 => 5 | 9 => 9 | 66 => 173 | 70 => 177 | 76 => 195 | 77 => 196 | n => n, fun | n => n⟩
theorem Tryz.sortPend : Go.Proofs.SlLaysF0.n6 Tryz.prog Tryz.sortPend_ren := {
  mixed := by kernel_rfl
  f6 := ⟨Tryz.f46.name, by decide, Tryz.func46.trans (congrArg some (by kernel_rfl))⟩
  f14 := ⟨Tryz.f76.name, by decide, Tryz.func76.trans (congrArg some (by kernel_rfl))⟩
  f15 := Tryz.func77.trans (congrArg some (by kernel_rfl))
  f20 := ⟨Tryz.f91.name, by decide, Tryz.func91.trans (congrArg some (by kernel_rfl))⟩
  f21 := ⟨Tryz.f92.name, by decide, Tryz.func92.trans (congrArg some (by kernel_rfl))⟩
  f22 := ⟨Tryz.f93.name, by decide, Tryz.func93.trans (congrArg some (by kernel_rfl))⟩
  f23 := ⟨Tryz.f94.name, by decide, Tryz.func94.trans (congrArg some (by kernel_rfl))⟩
  f24 := ⟨Tryz.f95.name, by decide, Tryz.func95.trans (congrArg some (by kernel_rfl))⟩
  f25 := ⟨Tryz.f96.name, by decide, Tryz.func96.trans (congrArg some (by kernel_rfl))⟩
  f26 := ⟨Tryz.f97.name, by decide, Tryz.func97.trans (congrArg some (by kernel_rfl))⟩
  f27 := ⟨Tryz.f98.name, by decide, Tryz.func98.trans (congrArg some (by kernel_rfl))⟩
  f28 := Tryz.func99.trans (congrArg some (by kernel_rfl))
  f29 := Tryz.func100.trans (congrArg some (by kernel_rfl))
  f46 := ⟨Tryz.f120.name, by decide, Tryz.func120.trans (congrArg some (by kernel_rfl))⟩
  f47 := Tryz.func121.trans (congrArg some (by kernel_rfl))
  f48 := Tryz.func122.trans (congrArg some (by kernel_rfl))
  f49 := ⟨Tryz.f123.name, by decide, Tryz.func123.trans (congrArg some (by kernel_rfl))⟩
  f50 := ⟨Tryz.f124.name, by decide, Tryz.func124.trans (congrArg some (by kernel_rfl))⟩
  f57 := ⟨Tryz.f142.name, by decide, Tryz.func142.trans (congrArg some (by kernel_rfl))⟩
  t0 := Tryz.underlying0
  a0 := Tryz.isAgg0
  z0 := Tryz.sizeOf0
  v0 := Tryz.zeroValue0
  t3 := Tryz.underlying3
  a3 := Tryz.isAgg3
  z3 := Tryz.sizeOf3
  v3 := Tryz.zeroValue3
  t4 := Tryz.underlying4
  a4 := Tryz.isAgg4
  z4 := Tryz.sizeOf4
  v4 := Tryz.zeroValue4
  t5 := Tryz.underlying5
  a5 := Tryz.isAgg5
  z5 := Tryz.sizeOf5
  v5 := Tryz.zeroValue5
  t9 := Tryz.underlying9
  a9 := Tryz.isAgg9
  z9 := Tryz.sizeOf9
  v9 := Tryz.zeroValue9
  t22 := Tryz.underlying47
  a22 := Tryz.isAgg47
  z22 := Tryz.sizeOf47
  v22 := Tryz.zeroValue47
  t25 := Tryz.underlying110
  a25 := Tryz.isAgg110
  z25 := Tryz.sizeOf110
  v25 := Tryz.zeroValue110
  t39 := Tryz.underlying136
  a39 := Tryz.isAgg136
  z39 := Tryz.sizeOf136
  v39 := Tryz.zeroValue136
  t45 := Tryz.underlying151
  a45 := Tryz.isAgg151
  z45 := Tryz.sizeOf151
  v45 := Tryz.zeroValue151
  t46 := Tryz.underlying152
  a46 := Tryz.isAgg152
  z46 := Tryz.sizeOf152
  v46 := Tryz.zeroValue152
  t50 := Tryz.underlying156
  a50 := Tryz.isAgg156
  z50 := Tryz.sizeOf156
  v50 := Tryz.zeroValue156
  t53 := Tryz.underlying159
  a53 := Tryz.isAgg159
  z53 := Tryz.sizeOf159
  v53 := Tryz.zeroValue159
  t55 := Tryz.underlying129
  a55 := Tryz.isAgg129
  z55 := Tryz.sizeOf129
  v55 := Tryz.zeroValue129
  t66 := Tryz.underlying173
  a66 := Tryz.isAgg173
  z66 := Tryz.sizeOf173
  v66 := Tryz.zeroValue173
  t70 := Tryz.underlying177
  a70 := Tryz.isAgg177
  z70 := Tryz.sizeOf177
  v70 := Tryz.zeroValue177
  t76 := Tryz.underlying195
  a76 := Tryz.isAgg195
  z76 := Tryz.sizeOf195
  v76 := Tryz.zeroValue195
  t77 := Tryz.underlying196
  a77 := Tryz.isAgg196
  z77 := Tryz.sizeOf196
  v77 := Tryz.zeroValue196 }
end Go.Proofs
namespace Go.Proofs.YtnphlhpdikmpiaaGreat
open Go.Eng
set_option maxRecDepth 100000
set_option maxHeartbeats 1000000
set_option linter.unusedVariables false
set_option linter.unusedSimpArgs false
attribute [local irreducible] un jn chk fld ld1 ldA st1 ixS lnS lnT bld cvI cvF ixA bsS apS rdV rdW grdW eW eV eU eC eF gE condW fin pickN nilN binS vS lp0 lp1 lp2 lp3 lp4 lp5 lp6 lp7 nx0 nx1 nx2 nx3 nx4 nx5 nx6 nx7
theorem Own.tag {w : World} {X : XS} {lo e k : Nat} {v : Value} {rows : List (List Value)} (h : Own w X lo e k v rows) {g : Nat} (hg : v.ownBlock = some g) : ∃ cs : List Value, w.heap[g]? = some (.cells cs.toArray e (0, 0)) := by
  rcases h.row with ⟨rfl, _⟩ | ⟨b, cap, cs, rfl, _, hr, _⟩
  · cases hg
  · simp only [Value.ownBlock, Option.some.injEq] at hg
    subst hg; exact ⟨cs, hr.2⟩
theorem Own.other {w : World} {X Y : XS} {lo lo' e e' k k' : Nat} {v v' : Value} {rows rows' : List (List Value)} (h : Own w X lo e k v rows) (h' : Own w Y lo' e' k' v' rows') (he : decide (e ≠ e') = true) {g : Nat} (hg : v.ownBlock = some g) : v'.ownBlock ≠ some g := fun hg' => by
  obtain ⟨c, h1⟩ := Own.tag h hg
  obtain ⟨c', h2⟩ := Own.tag h' hg'
  rw [h1] at h2
  simp only [Option.some.injEq, Obj.cells.injEq] at h2
  exact of_decide_eq_true he h2.2.1
theorem Own.noIter {κ α : Type} [DecidableEq κ] {w : World} {X Y A : XS} {lo e k r b : Nat} {v : Value} {rows : List (List Value)} {kv : κ → Value} {rd : World → XS → Value → α → Prop} {l left : List (κ × α)} (h : Own w X lo e k v rows) (hi : ItR w Y A r b kv rd l left) : v.ownBlock ≠ some r := fun hg => by
  obtain ⟨c, h1⟩ := Own.tag h hg
  obtain ⟨es, cl, les, h2, _⟩ := hi
  obtain ⟨s, hs, _⟩ := h2.2.2.2
  rw [h1] at hs; cases hs
structure PV where
  p : Pend
  br : Option Addr
  nr : Nat
  cr : Nat
  bw : Option Addr
  nw : Nat
  cw : Nat
instance : Inhabited PV := ⟨⟨⟨⟨0, 0, 0⟩, .zero, [], []⟩, none, 0, 0, none, 0, 0⟩⟩
abbrev PV.l (x : PV) : List Value := x.p.l (.slice x.br x.nr x.cr) (.slice x.bw x.nw x.cw)
structure PV.at (w : World) (X : XS) (lo : Nat) (x : PV) : Prop where
  r : Own w X lo 9 1 (.slice x.br x.nr x.cr) (x.p.reads.map S1)
  w : Own w X lo 66 4 (.slice x.bw x.nw x.cw) (x.p.writes.map KV.l)
theorem PV.at.mv {w w' : World} {X Y : XS} {lo : Nat} {x : PV} (h : x.at w X lo) (m : Mv X w Y w') : x.at w' Y lo := ⟨h.r.mv m, h.w.mv m⟩
theorem PV.at.chg {w w' : World} {X X' Y : XS} {lo lo' e k : Nat} {x : PV} {v : Value} {rows : List (List Value)} (h : x.at w X lo) (c : Chg (blk v) X w X' w') (ho : Own w Y lo' e k v rows) (he : decide (e ≠ 9 ∧ e ≠ 66) = true) : x.at w' X' lo := by
  have he := of_decide_eq_true he
  refine ⟨Own.chg h.r c fun g hg hb => ?_, Own.chg h.w c fun g hg hb => ?_⟩
  · exact Own.other ho h.r (by simpa using he.1) hb hg
  · exact Own.other ho h.w (by simpa using he.2) hb hg
def cfOpen (x y : PV) : Int := if x.p.txn.less y.p.txn then -1 else 1
theorem lt_open (x y : PV) : Go.Proofs.ltOf cfOpen x y = x.p.txn.less y.p.txn := by
  unfold Go.Proofs.ltOf cfOpen
  cases x.p.txn.less y.p.txn <;> rfl
theorem swo_open : Go.Sort.SWO (Go.Proofs.ltOf cfOpen) where
  irrefl x := by rw [lt_open]; exact Txn.less_irrefl _
  trans x y z := by simp only [lt_open]; exact Txn.less_trans
  ntrans x y z := by simp only [lt_open]; exact Txn.less_ntrans
theorem d_sort_open {w : World} {X : XS} {lo : Nat} {v : Value} {xs : List PV} (own : Own w X lo 87 8 v (xs.map PV.l)) (hb : xs.length < 2 ^ 61) :
    Ct Tryz.prog 46 #[v, .func (.func 47) #[] #[]] w X (blk v) fun r _ w' => r = .tuple #[] ∧ ∃ ys : List PV, ys.Perm xs ∧ ys.Pairwise (fun a b => b.p.txn.less a.p.txn = false) ∧ Own w' (blk v) lo 87 8 v (ys.map PV.l) := by
  have h := ct_sort (P := Tryz.prog) (ρ := Tryz.sortPend_ren) Tryz.sortPend (k := 8) (by omega) Tryz.isAgg87 Tryz.sizeOf87 (enc := PV.l) (fun _ => rfl)
    (fun x u hu => by simp only [PV.l, Pend.l, List.mem_cons, List.not_mem_nil, or_false] at hu; rcases hu with h | h | h | h | h | h | h | h <;> subst h <;> rfl) (cf := cfOpen) swo_open (g := 47)
    (Go.Proofs.enters_of Tryz.func47 (by kernel_rfl) rfl) (fun x y W => open1_calls x.p.txn y.p.txn x.p.stamp y.p.stamp _ _ _ _ _ _ _ _ _ _ _ _ W) own hb
  simp only [lt_open] at h
  exact h
def ordered (l : List Pend) : Prop := l.Pairwise fun a b => b.txn.less a.txn = false
theorem ordered_unique : ∀ {l l' : List Pend}, l.Perm l' → (l.map (·.txn)).Nodup → ordered l → ordered l' → l = l'
  | [], l', h, _, _, _ => (List.nil_perm.1 h).symm
  | a :: t, [], h, _, _, _ => absurd (List.perm_nil.1 h) (by simp)
  | a :: t, b :: s, h, hn, h1, h2 => by
    have hab : a = b := by
      rcases List.mem_cons.1 (h.mem_iff.1 (List.mem_cons_self (a := a) (l := t))) with e | ha
      · exact e
      · rcases List.mem_cons.1 (h.mem_iff.2 (List.mem_cons_self (a := b) (l := s))) with e | hb
        · exact e.symm
        · have e1 := (List.pairwise_cons.1 h2).1 a ha
          have e2 := (List.pairwise_cons.1 h1).1 b hb
          have ht : a.txn = b.txn := Txn.less_total e1 e2
          rw [List.map_cons, List.nodup_cons] at hn
          exact absurd (List.mem_map.2 ⟨b, hb, ht.symm⟩) hn.1
    subst hab
    rw [List.map_cons, List.nodup_cons] at hn
    rw [ordered_unique ((List.perm_cons a).1 h) hn.2 (List.pairwise_cons.1 h1).2 (List.pairwise_cons.1 h2).2]
theorem perm_left {left : TailM} {k : Txn} {a : Opn} (hn : (left.map (·.1)).Nodup) (h : (k, a) ∈ left) : left.Perm ((k, a) :: left.filter fun y => decide (y.1 ≠ k)) := by
  induction left with
  | nil => cases h
  | cons x l ih =>
    rw [List.map_cons, List.nodup_cons] at hn
    rcases List.mem_cons.1 h with e | h
    · subst e
      rw [List.filter_cons_of_neg (by simp)]
      have : l.filter (fun y => decide (y.1 ≠ k)) = l := List.filter_eq_self.2 fun y hy => by
        simp; intro e; exact hn.1 (e ▸ List.mem_map.2 ⟨y, hy, rfl⟩)
      rw [this]
    · have hx : x.1 ≠ k := fun e => hn.1 (e ▸ List.mem_map.2 ⟨_, h, rfl⟩)
      rw [List.filter_cons_of_pos (by simpa using hx)]
      exact (List.Perm.cons x (ih hn.2 h)).trans (List.Perm.swap _ _ _)
theorem d_tail_Open {w : World} {X : XS} {tb mb : Nat} {s : TailS} {m : TailM} (h : TailIs w X (fpM m) tb mb s m) (hX : ∀ k, X k → k < w.heap.size) (hok : OkM m) (hml : m.length ≤ 2 ^ 40) :
    Ct Tryz.prog 16 #[ptr tb 0] w X nX fun v wa w' => ∃ xs : List PV, Own w' (made wa w') wa.heap.size 87 8 v (xs.map PV.l) ∧ (∀ x ∈ xs, x.at w' (made wa w') wa.heap.size) ∧
      (xs.map (·.p)).Perm (m.map (·.2.p)) ∧ ordered (xs.map (·.p)) := by
  intro w0 hk
  replace h := h.mv hX hk.mvo
  have hbx := h.box
  apply ok_tail_Tail_Open; unfold vc_tail_Tail_Open
  have hs := Since.init w0
  repeat' first | with_reducible apply r_nil | ((with_reducible apply m_fld1); (· (first | assumption | exact RowIs.cells (by assumption))); (· kernel_rfl); (· rfl); intro _ _ _) | ((with_reducible apply m_ld1); (· (first | assumption | exact RowIs.cells (by assumption))); (· (first | exact mv0 | exact mv1 (by assumption) | exact mv2 (by assumption) (by assumption))); (· kernel_rfl); (· rfl))
  refine m_range (kt := 39) (et := 90) h.opn rdOpen.mv h.sub (by kernel_rfl) hs.has fun ri w X hr hs1 hit => ?_
  replace hs := hs.trans hs1
  have hA0 : ∀ k, fpM m k → k < w0.heap.size := fun k hk => h.sub k hk
  refine lp1_of (fun n a w X => ∃ (left : TailM) (xs : List PV), n = left.length ∧ Since (old w0) w0 X w ∧ ItR w X (fpM m) ri mb (fun k : Txn => k.v) rdOpen m left ∧ Own w X w0.heap.size 87 8 a (xs.map PV.l) ∧
      (∀ x ∈ xs, x.at w X w0.heap.size) ∧ List.Perm (xs.map (·.p) ++ left.map (·.2.p)) (m.map (·.2.p)) ∧ xs.length + left.length = m.length ∧ (∀ y ∈ left, y ∈ m))
    m.length ⟨m, [], rfl, hs, hit, Own.nil _ _ _ _ _, (by simp), List.Perm.refl _, (by simp), fun _ h => h⟩ ?_
  clear hs hs1 hit
  rintro n a w X ⟨left, xs, rfl, hs, hit, hoa, hxs, hpl, hln, hsub⟩
  have ho1 := hoa.sl.one
  refine m_next hit rdOpen.mv (fun k hk => ⟨hs.sub k (hA0 k hk), fun e => by have := hA0 k hk; omega⟩) hs.has (fun e0 w X hs1 => ?_) fun kx q v hmem w1 X1 hc hrd hit1 he => ?_
  · subst e0
    replace hoa := hoa.since hs1
    replace hxs := fun x hx => (hxs x hx).mv hs1.mv
    replace hs := hs.trans hs1
    rw [List.map_nil, List.append_nil] at hpl
    simp only [List.length_nil, Nat.add_zero] at hln
    repeat' first | with_reducible apply condW_F | ((with_reducible apply m_ext); (· rfl))
    refine r_ct (d_sort_open hoa (by omega)) (by kernel_rfl) hs.has (fun k hk => hoa.2.2 k hk) ?_
    rintro _ wa w2 X2 ⟨rfl, ys, hp, hpw, hoy⟩ hle hin hkp hc2
    have hge : ∀ k, old w0 k → ¬ blk a k := fun k hk hb => by
      have := (hoa.ge hb).1
      have : k < w0.heap.size := hk
      omega
    have hoa2 : Own w2 X2 w0.heap.size 87 8 a (ys.map PV.l) := hoy.mono fun k hk => hc2.sub k (hoa.2.2 k hk)
    have hys : ∀ x ∈ ys, x.at w2 X2 w0.heap.size := fun x hx => PV.at.chg (hxs x (hp.mem_iff.1 hx)) hc2 hoa (by kernel_rfl)
    replace hs := hs.chg hc2 hge
    refine fin_ret0 hs fun wb hk => ⟨ys, (hoa2.kp hk).tight, fun x hx => ?_, (hp.map _).trans hpl, ?_⟩
    · have := hys x hx
      exact ⟨(this.r.kp hk).tight, (this.w.kp hk).tight⟩
    · exact List.pairwise_map.2 hpw
  · have hne := Own.noIter hoa hit
    have hoa1 := hoa.chg hc fun g hg e => hne (by rw [hg, e])
    have hxs1 : ∀ x ∈ xs, x.at w1 X1 w0.heap.size := fun x hx => ⟨Own.chg (hxs x hx).r hc fun g hg e => Own.noIter (hxs x hx).r hit (by rw [hg, e]), Own.chg (hxs x hx).w hc fun g hg e => Own.noIter (hxs x hx).w hit (by rw [hg, e])⟩
    replace hs := hs.chg hc fun k hk e => by have : k < w0.heap.size := hk; omega
    obtain ⟨ur, uw, rfl, q1, q2, q3⟩ := hrd
    have o1 := q1.sl.one
    have o2 := q2.sl.one
    have hpl1 := perm_left hit.nodup hmem
    have hqo := hok _ (hsub _ hmem)
    have hA1 : ∀ k, fpM m k → X1 k := fun k hk => hs.sub k (hA0 k hk)
    have hmb := ItR.x hit
    clear hoa hxs hit hc
    repeat' first | with_reducible apply condW_T | ((with_reducible apply m_ext); (· rfl))
    refine m_entry hs.has he fun w X hs2 => ?_
    have hit2 := hit1.mv rdOpen.mv hs2.mv (hs2.mvA hA1)
    have hoa2 := hoa1.since hs2
    have hxs2 : ∀ x ∈ xs, x.at w X w0.heap.size := fun x hx => (hxs1 x hx).mv hs2.mv
    have q1' := q1.mv (hs2.mvA hA1)
    have q2' := q2.mv (hs2.mvA hA1)
    replace hs := hs.trans hs2
    clear hoa1 hxs1 hit1 he
    repeat' first | ((with_reducible apply m_sub); (· (simp only [Value.cells, nq1, nq2, nq3, nq4, nq5, nq6, setL, nq7, nq8, nq9, nq0, Nat.reduceAdd, Nat.zero_add]; try rfl))) | with_reducible apply un_box | ((with_reducible apply m_ext); (· rfl)) | ((with_reducible apply m_chkc); (case h => (repeat' first | with_reducible apply all_one_cons | with_reducible exact all_one_nil | assumption | rfl | exact Sl.one (by assumption) | exact Rws.one (by assumption) | exact Sl.one (Own.sl (by assumption))))) | ((with_reducible apply chk_T); (· first | rfl | assumption | exact Sl.one (by assumption) | exact Rws.one (by assumption) | exact Sl.one (Own.sl (by assumption))))
    have hA2 : ∀ k, fpM m k → X k := fun k hk => hs.sub k (hA0 k hk)
    refine r_ct0 (d_tail_clone (p := q.p) (q1'.sl.mv (Mv.sub hA2)) (q2'.sl.mv (Mv.sub hA2)) hqo.r hqo.w) (by kernel_rfl) hs.has ?_
    rintro v wa w3 X3 ⟨cr, cw, rfl, hc1, hc2, hc12⟩ hle hin hs3
    have hit3 := hit2.mv rdOpen.mv hs3.mv (hs3.mvA hA2)
    have hoa3 := hoa2.since hs3
    have hxs3 : ∀ x ∈ xs, x.at w3 X3 w0.heap.size := fun x hx => (hxs2 x hx).mv hs3.mv
    have hlo : w0.heap.size ≤ wa.heap.size := Nat.le_trans hs.kp.size hle
    have hd1 := hc1.up hin hlo
    have hd2 := hc2.up hin hlo
    have p1 := hc1.sl.one
    have p2 := hc2.sl.one
    replace hs := hs.trans hs3
    have hA3 : ∀ k, fpM m k → X3 k := fun k hk => hs.sub k (hA0 k hk)
    clear hoa2 hxs2 hit2
    obtain ⟨b1, n1, c1, rfl⟩ := hc1.sl.form
    obtain ⟨b2, n2, c2, rfl⟩ := hc2.sl.form
    repeat' first | ((with_reducible apply m_app1a); (case own => first | assumption | exact Own.since (by assumption) (by assumption)); (case hs => assumption); (case h0 => first | exact fun _ h => h | exact hs0.has); (case he => kernel_rfl); (case hk => rfl); (case h1 => (repeat' first | with_reducible apply all_one_cons | with_reducible exact all_one_nil | assumption | rfl | exact Sl.one (by assumption) | exact Rws.one (by assumption) | exact Sl.one (Own.sl (by assumption)))); (case hb => (simp only [List.length_map, List.length_take, List.length_append, List.length_cons, List.length_nil]; omega)); (case hl => (simp only [List.length_map, List.length_take, List.length_append, List.length_cons, List.length_nil]; omega)); intro acc w X hs1 ho hc hat; replace hs := hs1)
    have hix := ItR.x hit3
    have nb : ∀ k, blk a k → w0.heap.size ≤ k := fun k hk => (hoa3.ge hk).1
    have hit4 := ItR.mv (ItR.own hit3) rdOpen.mv (hc.mv fun k hk => by
      rcases hk with rfl | rfl
      · exact ⟨hix.1, fun hb => Own.noIter hoa3 hit3 hb⟩
      · exact ⟨hix.2.1, fun hb => by have := nb _ hb; have : k < w0.heap.size := h.opn.x.1; omega⟩) (fun k hk _ => ⟨hk, hc.block k (hA3 k hk) fun hb => by have := nb _ hb; have := hA0 k hk; omega⟩)
    refine nx1_of _ (left_lt hmem) ⟨_, xs ++ [⟨q.p, b1, n1, c1, b2, n2, c2⟩], rfl, hs, hit4, by simpa using ho, fun x hx => ?_, ?_, ?_, fun y hy => hsub y (List.mem_filter.1 hy).1⟩
    · rcases List.mem_append.1 hx with hx | hx
      · exact PV.at.chg (hxs3 x hx) hc hoa3 (by kernel_rfl)
      · rw [List.mem_singleton] at hx
        subst hx
        refine PV.at.chg (x := ⟨q.p, b1, n1, c1, b2, n2, c2⟩) ⟨hd1, hd2⟩ hc hoa3 (by kernel_rfl)
    · refine List.Perm.trans ?_ hpl
      rw [List.map_append, List.append_assoc]
      exact List.Perm.append_left _ (hpl1.map (fun x : Txn × Opn => x.2.p)).symm
    · rw [List.length_append, ← hln, hpl1.length_eq, List.length_cons]
      simp; omega
end Go.Proofs.YtnphlhpdikmpiaaGreat
namespace Go.Proofs.YtnphlhpdikmpiaaGreat
open Go.Eng
set_option maxRecDepth 100000
set_option maxHeartbeats 1000000
set_option linter.unusedVariables false
set_option linter.unusedSimpArgs false
attribute [local irreducible] un jn chk fld ld1 ldA st1 ixS lnS lnT bld cvI cvF ixA bsS apS rdV rdW grdW eW eV eU eC eF gE condW fin pickN nilN binS vS lp0 lp1 lp2 lp3 lp4 lp5 lp6 lp7 nx0 nx1 nx2 nx3 nx4 nx5 nx6 nx7
def mayC (s : TailS) (c : Cont) (n : Int) (r : Rec) : Int :=
  if n ≠ s.next ∨ n > 99999999 then 14
  else if r.err ≠ 0 then 4
  else if r.kind = 1 then (if r.state.range.id ≠ s.id then 4 else if r.state.pend.any (fun p => (getM p.txn c).isSome) then 9 else 0)
  else if r.kind = 3 then (if (getM r.txn c).isSome then 9 else 0)
  else if r.kind = 2 ∨ r.kind = 4 ∨ r.kind = 5 ∨ r.kind = 6 ∨ r.kind = 7 then 0 else 4
theorem mayErr_cont (s : TailS) (m : TailM) (n : Int) (r : Rec) : mayErr s m n r = mayC s (cont m) n r := by
  have h : ∀ k, (getM k (cont m)).isSome = (getM k m).isSome := fun k => by rw [getM_cont]; simp
  unfold mayErr mayC
  simp only [h]
def KeyC (c : Cont) : Prop := ∀ e ∈ c, e.2.1.txn = e.1
def OkC (c : Cont) : Prop := ∀ e ∈ c, e.2.1.ok
structure InvC (b : Nat) (c : Cont) : Prop where
  key : KeyC c
  ok : OkC c
  len : c.length ≤ b
theorem InvC.nil (b : Nat) : InvC b [] := ⟨by simp [KeyC], by simp [OkC], by simp⟩
theorem InvC.up {b b' : Nat} {c : Cont} (h : InvC b c) (hb : b ≤ b') : InvC b' c := ⟨h.key, h.ok, Nat.le_trans h.len hb⟩
theorem OkC.m {m : TailM} (h : OkC (cont m)) : OkM m := fun x hx => h (x.1, x.2.p, x.2.at') (List.mem_map.2 ⟨x, hx, rfl⟩)
theorem mem_putC {k : Txn} {a : Pend × Int} : ∀ {c : Cont} {e : Txn × Pend × Int}, e ∈ putM k a c → e = (k, a) ∨ e ∈ c
  | [], e, h => by simpa [putM] using h
  | x :: c, e, h => by
    unfold putM at h
    split at h
    · rcases List.mem_cons.1 h with h | h
      · exact .inl h
      · exact .inr (List.mem_cons_of_mem _ h)
    · rcases List.mem_cons.1 h with h | h
      · exact .inr (by rw [h]; exact List.mem_cons_self)
      · exact (mem_putC h).imp id (List.mem_cons_of_mem _)
theorem len_putC {k : Txn} {a : Pend × Int} : ∀ c : Cont, (putM k a c).length ≤ c.length + 1
  | [] => by simp [putM]
  | x :: c => by
    unfold putM
    split
    · simp
    · simp only [List.length_cons]
      have := len_putC (k := k) (a := a) c
      omega
theorem InvC.put {b : Nat} {c : Cont} (h : InvC b c) {p : Pend} (hp : p.ok) (n : Int) : InvC (b + 1) (putM p.txn (p, n) c) := by
  refine ⟨fun e he => ?_, fun e he => ?_, ?_⟩
  · rcases mem_putC he with rfl | he
    · rfl
    · exact h.key e he
  · rcases mem_putC he with rfl | he
    · exact hp
    · exact h.ok e he
  · have := len_putC (k := p.txn) (a := (p, n)) c
    have := h.len
    omega
theorem InvC.puts {n : Int} : ∀ {l : List Pend} {b : Nat} {c : Cont}, InvC b c → (∀ p ∈ l, p.ok) → InvC (b + l.length) (l.foldl (fun c p => putM p.txn (p, n) c) c)
  | [], _, _, h, _ => h
  | p :: l, b, c, h, hp => by
    have := InvC.puts (n := n) (h.put (hp p (by simp)) n) fun q hq => hp q (List.mem_cons_of_mem _ hq)
    rw [List.length_cons, List.foldl_cons, show b + (l.length + 1) = b + 1 + l.length by omega]
    exact this
theorem State.small.ok {s : State} (h : s.small) : ∀ p ∈ s.pend, p.ok := fun p hp => ⟨(h.p p hp).1, (h.p p hp).2, (h.pk p hp).1, (h.pk p hp).2⟩
theorem InvC.feed {b : Nat} {c : Cont} (h : InvC b c) {r : Rec} (hr : r.small) (n : Int) : InvC (b + r.state.pend.length + 1) (feedC n r c) := by
  unfold feedC
  split
  · exact (InvC.puts h hr.state.ok).up (by omega)
  split
  · exact (h.put (p := ⟨r.txn, r.stamp, r.reads, r.writes⟩) ⟨hr.reads, hr.writes, hr.rk, hr.wk⟩ n).up (by omega)
  split
  · refine ⟨fun e he => h.key e (List.mem_filter.1 he).1, fun e he => h.ok e (List.mem_filter.1 he).1, ?_⟩
    have := List.length_filter_le (fun x : Txn × Pend × Int => decide (x.1 ≠ r.txn)) c
    have := h.len
    unfold delM; omega
  split
  · refine ⟨fun e he => ?_, fun e he => ?_, ?_⟩
    · obtain ⟨x, hx, rfl⟩ := List.mem_map.1 he
      exact h.key x hx
    · obtain ⟨x, hx, rfl⟩ := List.mem_map.1 he
      exact Pend.cut_ok (h.ok x hx)
    · rw [List.length_map]; have := h.len; omega
  · exact h.up (by omega)
def TailAt (w : World) (X Z : XS) (t : Value) (s : TailS) (c : Cont) : Prop :=
  ∃ tb mb m, t = ptr tb 0 ∧ TailIs w X (fpM m) tb mb s m ∧ SepM m ∧ cont m = c ∧ (∀ k, ftp tb mb m k → ¬ Z k)
theorem TailAt.sub {w : World} {X Z Z' : XS} {t : Value} {s : TailS} {c : Cont} (h : TailAt w X Z t s c) (hz : ∀ k, Z' k → k < w.heap.size → Z k) : TailAt w X Z' t s c := by
  obtain ⟨tb, mb, m, h1, h2, h3, h4, h5⟩ := h
  refine ⟨tb, mb, m, h1, h2, h3, h4, fun k hk hz' => h5 k hk (hz k hz' ?_)⟩
  rcases hk with rfl | rfl | hk
  · exact h2.box.lt
  · exact h2.opn.x.2
  · exact (h2.fp k hk).2
theorem TailAt.since {w w' : World} {X X' Z : XS} {t : Value} {s : TailS} {c : Cont} (h : TailAt w X Z t s c) (hX : ∀ k, X k → k < w.heap.size) (hs : Since X w X' w') : TailAt w' X' Z t s c := by
  obtain ⟨tb, mb, m, h1, h2, h3, h4, h5⟩ := h
  exact ⟨tb, mb, m, h1, h2.mv hX hs.mv, h3, h4, h5⟩
theorem TailAt.fresh {w : World} {X Z : XS} {t : Value} {s : TailS} {c : Cont} (h : TailAt w X Z t s c) (hX : ∀ k, X k → k < w.heap.size) : TailAt w X (fun k => Z k ∨ w.heap.size ≤ k) t s c :=
  h.sub fun k hk hl => by
    rcases hk with hk | hk
    · exact hk
    · omega
section
variable {w : World} {X Z : XS} {t : Value} {s : TailS} {c : Cont} {R : Ending → World → Prop} {N : Value → World → XS → Prop} {mb' : Bool}
theorem TailAt.nodup (h : TailAt w X Z t s c) : (c.map (·.1)).Nodup := by
  obtain ⟨tb, mb, m, h1, h2, h3, rfl, h5⟩ := h
  rw [cont_keys]; exact h2.opn.nodup
theorem TailAt.form (h : TailAt w X Z t s c) : ∃ tb, t = ptr tb 0 := let ⟨tb, _, _, h, _⟩ := h; ⟨tb, h⟩
theorem l_Next (h : TailAt w X Z t s c) (hX : ∀ k, X k → k < w.heap.size) (n : ∀ w' X', Since X w X' w' → TailAt w' X' Z t s c → N (I s.next) w' X') : eC Tryz.prog R X w mb' 15 #[t] N := by
  obtain ⟨tb, mb, m, rfl, h2, h3, h4, h5⟩ := h
  exact r_ct0V (d_tail_Next h2 hX) (by kernel_rfl) hX fun w' X' hs => n w' X' hs ⟨tb, mb, m, rfl, h2.mv hX hs.mv, h3, h4, h5⟩
theorem l_Closed (h : TailAt w X Z t s c) (hX : ∀ k, X k → k < w.heap.size) (n : ∀ w' X', Since X w X' w' → TailAt w' X' Z t s c → N s.closed.v w' X') : eC Tryz.prog R X w mb' 17 #[t] N := by
  obtain ⟨tb, mb, m, rfl, h2, h3, h4, h5⟩ := h
  exact r_ct0V (d_tail_Closed h2 hX) (by kernel_rfl) hX fun w' X' hs => n w' X' hs ⟨tb, mb, m, rfl, h2.mv hX hs.mv, h3, h4, h5⟩
theorem l_Need (h : TailAt w X Z t s c) (hX : ∀ k, X k → k < w.heap.size) (n : ∀ w' X', Since X w X' w' → TailAt w' X' Z t s c → N (I (needC s.next c)) w' X') : eC Tryz.prog R X w mb' 19 #[t] N := by
  obtain ⟨tb, mb, m, rfl, h2, h3, h4, h5⟩ := h
  exact r_ct0V (d_tail_Need h2 hX) (by kernel_rfl) hX fun w' X' hs => by
    rw [needGo_cont, h4]; exact n w' X' hs ⟨tb, mb, m, rfl, h2.mv hX hs.mv, h3, h4, h5⟩
theorem l_Resolved (h : TailAt w X Z t s c) (hX : ∀ k, X k → k < w.heap.size) (n : ∀ w' X', Since X w X' w' → TailAt w' X' Z t s c → N (resC s.closed c).v w' X') : eC Tryz.prog R X w mb' 18 #[t] N := by
  obtain ⟨tb, mb, m, rfl, h2, h3, h4, h5⟩ := h
  exact r_ct0V (d_tail_Resolved h2 hX) (by kernel_rfl) hX fun w' X' hs => by
    rw [resGo_cont, h4]; exact n w' X' hs ⟨tb, mb, m, rfl, h2.mv hX hs.mv, h3, h4, h5⟩
def opensC (c : Cont) : List Pend := (c.map (·.2.1)).mergeSort fun a b => !b.txn.less a.txn
theorem opensC_perm (c : Cont) : (opensC c).Perm (c.map (·.2.1)) := List.mergeSort_perm _ _
theorem opensC_ordered (c : Cont) : ordered (opensC c) := by
  have := List.pairwise_mergeSort (le := fun a b : Pend => !b.txn.less a.txn) (fun a b d h1 h2 => by
      simp only [Bool.not_eq_true'] at *; exact Txn.less_ntrans h2 h1) (fun a b => by
      simp only [Bool.or_eq_true, Bool.not_eq_true']
      cases h : b.txn.less a.txn
      · exact .inl rfl
      · right; rw [← Bool.not_eq_true]; intro h2; have := Txn.less_trans h h2; rw [Txn.less_irrefl] at this; cases this) (c.map (·.2.1))
  exact this.imp fun h => by simpa using h
theorem opensC_is {c : Cont} {l : List Pend} (hk : KeyC c) (hn : (c.map (·.1)).Nodup) (hp : l.Perm (c.map (·.2.1))) (ho : ordered l) : l = opensC c := by
  refine ordered_unique (hp.trans (opensC_perm c).symm) ?_ ho (opensC_ordered c)
  have h1 := hp.map (·.txn)
  rw [h1.nodup_iff, List.map_map]
  rw [show c.map ((fun x : Pend => x.txn) ∘ fun x : Txn × Pend × Int => x.2.1) = c.map (·.1) from List.map_congr_left fun e he => hk e he]
  exact hn
theorem l_Open {b : Nat} (h : TailAt w X Z t s c) (hi : InvC b c) (hb : b ≤ 2 ^ 40) (hX : ∀ k, X k → k < w.heap.size)
    (n : ∀ v w' X' (xs : List PV), Since X w X' w' → TailAt w' X' Z t s c → Own w' X' w.heap.size 87 8 v (xs.map PV.l) → (∀ x ∈ xs, x.at w' X' w.heap.size) → xs.map (·.p) = opensC c → N v w' X') : eC Tryz.prog R X w mb' 16 #[t] N := by
  have hnd := h.nodup
  obtain ⟨tb, mb, m, rfl, h2, h3, rfl, h5⟩ := h
  refine r_ct0 (d_tail_Open h2 hX (OkC.m hi.ok) (by have := hi.len; simp at this; omega)) (by kernel_rfl) hX ?_
  rintro v wa w' X' ⟨xs, ho, hxs, hp, hord⟩ hle hin hs
  refine n v w' X' xs hs ⟨tb, mb, m, rfl, h2.mv hX hs.mv, h3, rfl, h5⟩ (ho.up hin hle) (fun x hx => ⟨(hxs x hx).r.up hin hle, (hxs x hx).w.up hin hle⟩) ?_
  refine opensC_is hi.key hnd ?_ hord
  rw [show (cont m).map (fun x : Txn × Pend × Int => x.2.1) = m.map (fun x : Txn × Opn => x.2.p) by simp [cont, Function.comp_def]]
  exact hp
theorem PV.pends {w : World} {X : XS} {lo : Nat} {v : Value} {xs : List PV} (ho : Own w X lo 87 8 v (xs.map PV.l)) (hx : ∀ x ∈ xs, x.at w X lo) : Pends w X v (xs.map (·.p)) := by
  refine ⟨xs.map PV.l, ho.sl, by simp, fun i r x hr hx' => ?_⟩
  simp only [List.getElem?_map, Option.map_eq_some_iff] at hr hx'
  obtain ⟨y, hy, rfl⟩ := hr
  obtain ⟨y', hy', rfl⟩ := hx'
  rw [hy] at hy'; cases hy'
  exact ⟨_, _, rfl, (hx y (List.mem_of_getElem? hy)).r.sl, (hx y (List.mem_of_getElem? hy)).w.sl⟩
theorem l_New (id next : Int) (hX : ∀ k, X k → k < w.heap.size) (n0 : id < 1 ∨ id > 12 ∨ next < 1 ∨ next > 100000000 → ∀ w' X', Since X w X' w' → N (.tuple #[.pointer none, I 1]) w' X')
    (n1 : 1 ≤ id → id ≤ 12 → 1 ≤ next → next ≤ 100000000 → ∀ t w' X', Since X w X' w' → TailAt w' X' (old w) t ⟨id, next, .zero⟩ [] → N (.tuple #[t, I 0]) w' X') : eC Tryz.prog R X w mb' 7 #[I id, I next] N := by
  refine r_ct0 (d_tail_New id next) (by kernel_rfl) hX fun v wa w' X' hq hle hin hs => ?_
  split at hq
  · subst hq; exact n0 (by assumption) w' X' hs
  · obtain ⟨tb, mb, rfl, hT⟩ := hq
    have h2 := hT.exact.wide hin
    refine n1 (by omega) (by omega) (by omega) (by omega) _ w' X' hs ⟨tb, mb, [], rfl, h2, ⟨by simp, by simp⟩, rfl, fun k hk hz => ?_⟩
    have hz : k < w.heap.size := hz
    have hge : wa.heap.size ≤ k := by
      rcases hk with rfl | rfl | ⟨x, hx, _⟩
      · exact hT.box.1.1
      · exact hT.opn.x.1.1
      · cases hx
    omega
theorem l_Feed {b : Nat} {n : Int} {r : Rec} {vr vw vp vq vh vd : Value} (h : TailAt w X Z t s c) (hZ : ∀ k, Z k → X k) (hX : ∀ k, X k → k < w.heap.size) (ha : r.at w Z vr vw vp vq vh vd) (hsm : r.small) (hi : InvC b c) (hb : b ≤ 2 ^ 40) (hnx : 1 ≤ s.next)
    (n0 : mayC s c n r ≠ 0 → ∀ w' X', Since Z w X' w' → TailAt w' X' Z t s c → N (.tuple #[ToldS.none.v (.slice none 0 0), I (mayC s c n r)]) w' X')
    (n1 : mayC s c n r = 0 → ∀ vw' w' X', Since Z w X' w' → TailAt w' X' Z t (feedS s r) (feedC n r c) → Sl w' X' 4 vw' ((feedTold s r c).writes.map KV.l) → InvC (b + r.state.pend.length + 1) (feedC n r c) → N (.tuple #[(feedTold s r c).v vw', I 0]) w' X') :
    eC Tryz.prog R X w true 10 #[t, I n, r.v vr vw vp vq vh vd] N := by
  have hif := hi.feed hsm n
  obtain ⟨tb, mb, m, rfl, h2, h3, rfl, h5⟩ := h
  have hFX : ∀ k, ftp tb mb m k → X k := fun k hk => by
    rcases hk with rfl | rfl | hk
    · exact h2.box.1
    · exact h2.opn.x.1
    · exact h2.sub k hk
  refine r_ct (d_tail_Feed h2 hX ha (fun k hk => ⟨hZ k hk, fun hf => h5 k hf hk⟩) hsm h3 (OkC.m hi.ok) (by have := hi.len; simp at this; omega) hnx) (by kernel_rfl) hX hFX ?_
  intro v wa w' X' hq hle hin hkp hc
  have hs : Since Z w X' w' := hc.since fun k hk => ⟨hZ k hk, fun hf => h5 k hf hk⟩
  unfold FeedQ at hq
  rw [mayErr_cont] at hq
  split at hq
  · obtain ⟨rfl, hT⟩ := hq
    exact n0 (by assumption) w' X' hs ⟨tb, mb, m, rfl, hT.wide fun k hk => hc.sub k (hFX k hk), h3, rfl, h5⟩
  · obtain ⟨m', vw', rfl, hsl, hcont, hsep, hfp, hT⟩ := hq
    have hX' : ∀ k, ftp tb mb m' k → X' k := fun k hk => by
      rcases hk with rfl | rfl | hk
      · exact hc.sub _ h2.box.1
      · exact hc.sub _ h2.opn.x.1
      · rcases hfp k hk with h | h
        · exact hc.sub _ (h2.sub k h)
        · exact hin k ⟨h, (hT.fp k hk).2⟩
    refine n1 (by simpa using ‹¬ mayC s (cont m) n r ≠ 0›) vw' w' X' hs ⟨tb, mb, m', rfl, hT.wide hX', hsep, hcont, fun k hk hz => ?_⟩ (hsl.sub fun k hk hl => ?_) hif
    · rcases hk with rfl | rfl | hk
      · exact h5 _ (.inl rfl) hz
      · exact h5 _ (.inr (.inl rfl)) hz
      · rcases hfp k hk with h | h
        · exact h5 k (.inr (.inr h)) hz
        · have := hX k (hZ k hz); omega
    · rcases hk with h | h
      · exact hc.sub k (h2.sub k h)
      · exact hin k ⟨h, hl⟩
end
end Go.Proofs.YtnphlhpdikmpiaaGreat
namespace Go.Proofs.YtnphlhpdikmpiaaGreat
open Go.Eng
set_option maxRecDepth 100000
set_option maxHeartbeats 1000000
set_option linter.unusedVariables false
set_option linter.unusedSimpArgs false
attribute [local irreducible] un jn chk fld ld1 ldA st1 ixS lnS lnT bld cvI cvF ixA bsS apS rdV rdW grdW eW eV eU eC eF gE condW fin pickN nilN binS vS lp0 lp1 lp2 lp3 lp4 lp5 lp6 lp7 nx0 nx1 nx2 nx3 nx4 nx5 nx6 nx7
def fx : Txn := ⟨1, 1, 1⟩
def fw : KV := ⟨⟨#[97]⟩, ⟨1, one64, ⟨#[]⟩⟩⟩
def rec0 : Rec := ⟨0, .zero, .zero, .zero, false, 0, 0, [], [], [], [], .zero⟩
def recA : Rec := { rec0 with kind := 1, state := { State.zero with range := ⟨1, 0, 0, one64⟩ } }
def recB : Rec := { rec0 with kind := 3, txn := fx, stamp := ⟨7, 0, 1⟩, writes := [fw], parts := [1] }
def recC : Rec := { rec0 with kind := 5, stamp := ⟨9, 0, 1⟩ }
def recD : Rec := { rec0 with kind := 4, txn := fx, commit := true, stamp := ⟨8, 0, 1⟩ }
def st1' : TailS := ⟨1, 1, .zero⟩
def ct2 : Cont := [(fx, ⟨fx, ⟨7, 0, 1⟩, [], [fw]⟩, 2)]
theorem mayA : mayC st1' [] 1 recA = 0 := by decide +kernel
theorem mayB : mayC ⟨1, 2, .zero⟩ [] 2 recB = 0 := by decide +kernel
theorem mayCC : mayC ⟨1, 3, .zero⟩ ct2 3 recC = 0 := by decide +kernel
theorem mayD : mayC ⟨1, 4, ⟨9, 0, 1⟩⟩ ct2 4 recD = 0 := by decide +kernel
theorem stA : feedS st1' recA = ⟨1, 2, .zero⟩ := by kernel_rfl
theorem ctA : feedC 1 recA [] = [] := by kernel_rfl
theorem stB : feedS ⟨1, 2, .zero⟩ recB = ⟨1, 3, .zero⟩ := by kernel_rfl
theorem ctB : feedC 2 recB [] = ct2 := by kernel_rfl
theorem stC : feedS ⟨1, 3, .zero⟩ recC = ⟨1, 4, ⟨9, 0, 1⟩⟩ := by kernel_rfl
theorem ctC : feedC 3 recC ct2 = ct2 := by kernel_rfl
theorem stD : feedS ⟨1, 4, ⟨9, 0, 1⟩⟩ recD = ⟨1, 5, ⟨9, 0, 1⟩⟩ := by kernel_rfl
theorem resD : resC ⟨9, 0, 1⟩ ct2 = ⟨7, 0, 0⟩ := by kernel_rfl
theorem toldD : feedTold ⟨1, 4, ⟨9, 0, 1⟩⟩ recD ct2 = ⟨1, 1, 2, fx, ⟨8, 0, 1⟩, [fw], 0, .zero⟩ := by kernel_rfl
theorem small0 : State.zero.small := ⟨by simp [HSmall], by simp [PSmall], by simp [HKeys], by simp [PKeys]⟩
theorem smallA : recA.small := ⟨by decide, by decide, by simp [recA, rec0], by simp [recA, rec0], ⟨by simp [HSmall, recA, rec0], by simp [PSmall, recA, rec0], by simp [HKeys, recA, rec0], by simp [PKeys, recA, rec0]⟩⟩
theorem smallB : recB.small := ⟨by decide, by decide, by simp [recB, rec0], by simp [recB, rec0, fw]; decide, small0⟩
theorem smallC : recC.small := ⟨by decide, by decide, by simp [recC, rec0], by simp [recC, rec0], small0⟩
theorem smallD : recD.small := ⟨by decide, by decide, by simp [recD, rec0], by simp [recD, rec0], small0⟩
theorem rec_nil {w : World} {X : XS} {r : Rec} (h : r.reads = [] ∧ r.writes = [] ∧ r.parts = [] ∧ r.pairs = [] ∧ r.state.hists = [] ∧ r.state.pend = []) : r.at w X (.slice none 0 0) (.slice none 0 0) (.slice none 0 0) (.slice none 0 0) (.slice none 0 0) (.slice none 0 0) := by
  obtain ⟨h1, h2, h3, h4, h5, h6⟩ := h
  unfold Rec.at
  rw [h1, h2, h3, h4, h5, h6]
  exact ⟨Sl.nil _ _ _, Sl.nil _ _ _, Sl.nil _ _ _, Sl.nil _ _ _, Rws.nil _ _ _, Rws.nil _ _ _⟩
theorem d_racelaw18_first {w : World} {X : XS} : Ct Tryz.prog 5 #[] w X nX fun v _ _ => v = B true := by
  intro w0 hk
  apply ok_racelaw18_first; unfold vc_racelaw18_first
  have hs := Since.init w0
  refine l_New 1 1 hs.has (fun h => by omega) fun _ _ _ _ t w X hs1 hT => ?_
  replace hs := hs.trans hs1
  obtain ⟨tb, rfl⟩ := hT.form
  have hX1 := hs.has
  repeat' first | ((with_reducible refine r_neqF ?_ ?_); (· omega)) | with_reducible apply condW_F | ((with_reducible apply un_cell); (· rfl)) | with_reducible (first | apply un_box | apply un_selF | apply grdV_onF | apply rdW_pickF) | ((with_reducible apply r_bld); (· kernel_rfl)) | ((with_reducible apply m_ext); (· rfl)) | ((with_reducible apply m_pnilF); (· kernel_rfl)) | ((with_reducible apply m_chkc); (case h => (repeat' first | with_reducible apply all_one_cons | with_reducible exact all_one_nil | assumption | rfl | exact Sl.one (by assumption) | exact Rws.one (by assumption) | exact Sl.one (Own.sl (by assumption))))) | ((with_reducible apply chk_T); (· first | rfl | assumption | exact Sl.one (by assumption) | exact Rws.one (by assumption) | exact Sl.one (Own.sl (by assumption)))) | ((with_reducible apply m_bs1); (case hX => exact hs.has); (case he => kernel_rfl); (case hk => rfl); intro acc w X hs1 ho; obtain ⟨_, _, _, rfl⟩ := ho.sl.form; replace hs := hs.trans hs1)
  have hT1 := (hT.fresh hX1).since hX1 hs1
  rename_i ab an ac
  obtain ⟨Z, hZd⟩ : ∃ Z : XS, Z = fun k => old w0 k ∨ blk (.slice ab an ac) k := ⟨_, rfl⟩
  have hZ : ∀ k, Z k → X k := fun k hk => by
    rw [hZd] at hk
    rcases hk with h | h
    · exact hs.sub k h
    · exact ho.2.2 k h
  have hTZ : TailAt w X Z (ptr tb 0) st1' [] := hT1.sub fun k hk _ => by
    rw [hZd] at hk
    rcases hk with h | h
    · exact .inl h
    · exact .inr (ho.ge h).1
  have hsl : Sl w Z 4 (.slice ab an ac) ([fw].map KV.l) :=
    Sl.mv (X := blk (.slice ab an ac)) (Own.sl ⟨ho.1, ho.2.1, fun _ h => h⟩) (Mv.sub fun k hk => by rw [hZd]; exact .inr hk)
  have hsZ : Since (old w0) w0 Z w := ⟨hs.kp, fun k hk => by rw [hZd]; exact .inl hk, fun k hk => hs.has k (hZ k hk)⟩
  refine l_Feed (b := 0) (r := recA) hTZ hZ hs.has (rec_nil ⟨rfl, rfl, rfl, rfl, rfl, rfl⟩) smallA (InvC.nil 0) (by decide) (by decide) (fun h => absurd mayA h) fun _ va w2 X2 hs2 hT2 _ hi2 => ?_
  rw [show feedTold st1' recA [] = .none from rfl]
  rw [stA, ctA] at hT2
  rw [ctA] at hi2
  clear hT hT1 hTZ ho
  have hsl2 : Sl w2 Z 4 (.slice ab an ac) ([fw].map KV.l) := hsl.mv hs2.kp.mv
  have hZ2 := hs2.sub
  have hs3 := hsZ.trans hs2
  replace hs := hs3
  have hX2 := hs.has
  clear hsl hs1
  repeat' first | ((with_reducible apply un_cell); (· rfl)) | ((with_reducible apply m_sub); (· (simp only [Value.cells, nq1, nq2, nq3, nq4, nq5, nq6, setL, nq7, nq8, nq9, nq0, Nat.reduceAdd, Nat.zero_add]; try rfl))) | with_reducible apply un_box | ((with_reducible apply r_bld); (· kernel_rfl)) | ((with_reducible apply m_ext); (· rfl)) | ((with_reducible apply m_chkc); (case h => (repeat' first | with_reducible apply all_one_cons | with_reducible exact all_one_nil | assumption | rfl | exact Sl.one (by assumption) | exact Rws.one (by assumption) | exact Sl.one (Own.sl (by assumption))))) | ((with_reducible apply chk_T); (· first | rfl | assumption | exact Sl.one (by assumption) | exact Rws.one (by assumption) | exact Sl.one (Own.sl (by assumption)))) | ((with_reducible apply m_bs1s); (case hX => exact hs.has); (case he => kernel_rfl); (case ho => first | rfl | assumption); (case hk => rfl); intro acc w X hs1 ho; obtain ⟨_, _, _, rfl⟩ := ho.sl.form; replace hs := hs.trans hs1)
  rename_i eb en ec
  have hT1 := (hT2.fresh hX2).since hX2 hs1
  obtain ⟨Z2, hZd2⟩ : ∃ Z2 : XS, Z2 = fun k => Z k ∨ blk (.slice eb en ec) k := ⟨_, rfl⟩
  have hZ3 : ∀ k, Z2 k → X k := fun k hk => by
    rw [hZd2] at hk
    rcases hk with h | h
    · exact hs1.sub k (hZ2 k h)
    · exact ho.2.2 k h
  have hTZ : TailAt w X Z2 (ptr tb 0) ⟨1, 2, .zero⟩ [] := hT1.sub fun k hk _ => by
    rw [hZd2] at hk
    rcases hk with h | h
    · exact .inl h
    · exact .inr (ho.ge h).1
  have hsl3 : Sl w Z2 1 (.slice eb en ec) ([1].map I1) :=
    Sl.mv (X := blk (.slice eb en ec)) (Own.sl ⟨ho.1, ho.2.1, fun _ h => h⟩) (Mv.sub fun k hk => by rw [hZd2]; exact .inr hk)
  have hsl4 : Sl w Z2 4 (.slice ab an ac) ([fw].map KV.l) := hsl2.mv fun k hk _ => ⟨by rw [hZd2]; exact .inl hk, hs1.kp.block k (hZ2 k hk)⟩
  have hsZ : Since (old w0) w0 Z2 w := ⟨hs.kp, fun k hk => by rw [hZd2, hZd]; exact .inl (.inl hk), fun k hk => hs.has k (hZ3 k hk)⟩
  refine l_Feed (b := 0) (r := recB) hTZ hZ3 hs.has ⟨Sl.nil _ _ _, hsl4, hsl3, Sl.nil _ _ _, Rws.nil _ _ _, Rws.nil _ _ _⟩ smallB (InvC.nil 0) (by decide) (by decide) (fun h => absurd mayB h) fun _ vb w3 X3 hs2 hT2 _ hi2 => ?_
  rw [show feedTold ⟨1, 2, .zero⟩ recB [] = .none from rfl]
  rw [stB, ctB] at hT2
  rw [ctB] at hi2
  clear hT1 hTZ ho
  replace hs := hsZ.trans hs2
  have hX2 := hs.has
  replace hT2 := hT2.sub (Z' := old w0) fun k hk _ => by rw [hZd2, hZd]; exact .inl (.inl hk)
  clear hs1
  repeat' first | ((with_reducible apply un_cell); (· rfl)) | with_reducible apply un_box | ((with_reducible apply r_bld); (· kernel_rfl)) | ((with_reducible apply m_ext); (· rfl)) | ((with_reducible apply m_chkc); (case h => (repeat' first | with_reducible apply all_one_cons | with_reducible exact all_one_nil | assumption | rfl | exact Sl.one (by assumption) | exact Rws.one (by assumption) | exact Sl.one (Own.sl (by assumption))))) | ((with_reducible apply chk_T); (· first | rfl | assumption | exact Sl.one (by assumption) | exact Rws.one (by assumption) | exact Sl.one (Own.sl (by assumption))))
  refine l_Feed (b := 1) (r := recC) hT2 hs.sub hs.has (rec_nil ⟨rfl, rfl, rfl, rfl, rfl, rfl⟩) smallC (hi2.up (by decide)) (by decide) (by decide) (fun h => absurd mayCC h) fun _ vc w4 X4 hs3 hT3 _ hi3 => ?_
  rw [show feedTold ⟨1, 3, .zero⟩ recC ct2 = .none from rfl]
  rw [stC, ctC] at hT3
  rw [ctC] at hi3
  replace hs : Since (old w0) w0 X4 w4 := ⟨(hs.kp.trans (hs3.kp)), fun k hk => hs3.sub k hk, hs3.has⟩
  repeat' first | with_reducible apply un_box | ((with_reducible apply m_ext); (· rfl)) | ((with_reducible apply m_chkc); (case h => (repeat' first | with_reducible apply all_one_cons | with_reducible exact all_one_nil | assumption | rfl | exact Sl.one (by assumption) | exact Rws.one (by assumption) | exact Sl.one (Own.sl (by assumption))))) | ((with_reducible apply chk_T); (· first | rfl | assumption | exact Sl.one (by assumption) | exact Rws.one (by assumption) | exact Sl.one (Own.sl (by assumption))))
  refine l_Resolved hT3 hs.has fun w5 X5 hs4 hT4 => ?_
  rw [show resC (Stamp.mk 9 0 1) ct2 = ⟨7, 0, 0⟩ from resD]
  replace hs := hs.trans hs4
  repeat' first | ((with_reducible apply un_cell); (· rfl)) | with_reducible apply un_box | ((with_reducible apply r_bld); (· kernel_rfl)) | ((with_reducible apply m_chkc); (case h => (repeat' first | with_reducible apply all_one_cons | with_reducible exact all_one_nil | assumption | rfl | exact Sl.one (by assumption) | exact Rws.one (by assumption) | exact Sl.one (Own.sl (by assumption))))) | ((with_reducible apply chk_T); (· first | rfl | assumption | exact Sl.one (by assumption) | exact Rws.one (by assumption) | exact Sl.one (Own.sl (by assumption))))
  refine l_Feed (b := 9) (r := recD) hT4 hs.sub hs.has (rec_nil ⟨rfl, rfl, rfl, rfl, rfl, rfl⟩) smallD (hi3.up (by decide)) (by decide) (by decide) (fun h => absurd mayD h) fun _ vd w6 X6 hs5 hT5 hsl5 hi5 => ?_
  rw [toldD] at hsl5 ⊢
  rw [stD] at hT5
  replace hs : Since (old w0) w0 X6 w6 := ⟨hs.kp.trans hs5.kp, fun k hk => hs5.sub k hk, hs5.has⟩
  have o5 := hsl5.one
  obtain ⟨db, dn, dc, rfl⟩ := hsl5.form
  repeat' first | ((with_reducible refine r_eqlT ?_ ?_); (· omega)) | ((with_reducible apply un_cell); (· rfl)) | ((with_reducible apply m_sub); (· (simp only [Value.cells, nq1, nq2, nq3, nq4, nq5, nq6, setL, nq7, nq8, nq9, nq0, Nat.reduceAdd, Nat.zero_add]; try rfl))) | with_reducible (first | apply un_box | apply un_selT | apply un_selFT | apply grdV_onT | apply grdW_offT | apply rdW_pickT | apply rdW_pickF | apply gE_T | apply gE_FT) | (with_reducible apply r_eql <;> intro _) | ((with_reducible apply r_bld); (· kernel_rfl)) | ((with_reducible apply m_ext); (· rfl)) | ((with_reducible apply r_eql3); (· kernel_rfl); all_goals intros) | ((with_reducible apply m_chkc); (case h => (repeat' first | with_reducible apply all_one_cons | with_reducible exact all_one_nil | assumption | rfl | exact Sl.one (by assumption) | exact Rws.one (by assumption) | exact Sl.one (Own.sl (by assumption))))) | ((with_reducible apply chk_T); (· first | rfl | assumption | exact Sl.one (by assumption) | exact Rws.one (by assumption) | exact Sl.one (Own.sl (by assumption)))) | with_reducible apply jn_of | (refine l_Next hT5 hs.has fun w7 X7 hs6 hT6 => ?_; replace hs := hs.trans hs6) | ((first | (with_reducible refine fin_ret0 hs ?_) | (with_reducible refine fin_ret0 (hs0.trans hs) ?_)); intro wa hk; rfl)
  all_goals (rename_i h; first | exact absurd rfl h | exact absurd ⟨rfl, rfl, rfl⟩ h)
end Go.Proofs.YtnphlhpdikmpiaaGreat
namespace Go.Proofs.YtnphlhpdikmpiaaGreat
open Go.Eng
set_option maxRecDepth 100000
set_option maxHeartbeats 1000000
set_option linter.unusedVariables false
set_option linter.unusedSimpArgs false
attribute [local irreducible] un jn chk fld ld1 ldA st1 ixS lnS lnT bld cvI cvF ixA bsS apS rdV rdW grdW eW eV eU eC eF gE condW fin pickN nilN binS vS lp0 lp1 lp2 lp3 lp4 lp5 lp6 lp7 nx0 nx1 nx2 nx3 nx4 nx5 nx6 nx7
def loadOf (r : Rec) : Nat := r.state.pend.length + 1
theorem load_step {xs : List Rec} {i : Nat} {x : Rec} (h : xs[i]? = some x) : ((xs.take (i + 1)).map loadOf).sum = ((xs.take i).map loadOf).sum + loadOf x := by
  rw [List.take_add_one, h]; simp
theorem load_le : ∀ (xs : List Rec) (i : Nat), ((xs.take i).map loadOf).sum ≤ (xs.map loadOf).sum
  | [], i => by simp
  | x :: xs, 0 => by simp
  | x :: xs, i + 1 => by simp only [List.take_succ_cons, List.map_cons, List.sum_cons]; have := load_le xs i; omega
end Go.Proofs.YtnphlhpdikmpiaaGreat
