/-
  Part 3 of the proof: what the last text leans on.
-/
import Derived.Test.YtnphlhpdikmpiaaGreatProg
import Derived.KernelRfl
import Derived.Test.YtnphlhpdikmpiaaGreatH2
namespace Go.Proofs.YtnphlhpdikmpiaaGreat
open Go.Eng
set_option maxRecDepth 100000
noncomputable def pl_recs_Parts : Plan := ⟨35, [], [], [0, 2, 3, 4, 5, 6, 7, 8, 30], [14, 15, 16, 18, 19, 20, 21, 22, 23, 24, 25, 26, 27, 28, 29], [7]⟩
def vc_recs_Parts (R : Ending → World → Prop) (w0 : World) (X0 : XS) (p0 : Value) : Prop :=
 (rdV Tryz.prog X0 w0 (lnS 23 3 p0) fun x6_4 =>
 (lp1 X0 w0 (I 0) 7 fun J_6 n_7 v_11 w_9 X_10 =>
 rdV Tryz.prog X_10 w_9 (binOp .lss 3 v_11 x6_4) fun x8_13 =>
 (condW x8_13
 ((rdV Tryz.prog X_10 w_9 (ixS 23 1 p0 v_11) fun x10_18 =>
 rdV Tryz.prog X_10 w_9 (ld1 3 x10_18) fun x11_19 =>
 (rdV Tryz.prog X_10 w_9 (binOp .lss 3 x11_19 (I 1)) fun x13_21 =>
 un (gSel x13_21 false x11_19) fun u_22 =>
 grdW Tryz.prog X_10 w_9 x13_21 false (vS (binOp .gtr 3 u_22 (I 12))) fun x16_23 =>
 rdW Tryz.prog X_10 w_9 (pickN x13_21 (B true) x16_23) fun x17_24 =>
 un (gSel x17_24 false v_11) fun u_25 =>
 grdW Tryz.prog X_10 w_9 x17_24 false (vS (binOp .gtr 3 u_25 (I 0))) fun x20_26 =>
 un (gSel x17_24 false x20_26) fun u_27 =>
 un (gSel u_27 true p0) fun u_28 =>
 un (gSel u_27 true v_11) fun u_29 =>
 grdW Tryz.prog X_10 w_9 u_27 true (vS (binOp .sub 3 u_29 (I 1))) fun x24_30 =>
 grdW Tryz.prog X_10 w_9 u_27 true (vS (ixS 23 1 u_28 x24_30)) fun x25_31 =>
 grdW Tryz.prog X_10 w_9 u_27 true (vS (ld1 3 x25_31)) fun x26_32 =>
 un (gSel u_27 true x11_19) fun u_33 =>
 grdW Tryz.prog X_10 w_9 u_27 true (vS (binOp .geq 3 x26_32 u_33)) fun x28_34 =>
 grdW Tryz.prog X_10 w_9 x17_24 false (pickN u_27 x28_34 (B false)) fun x29_35 =>
 rdW Tryz.prog X_10 w_9 (pickN x17_24 (B true) x29_35) fun x30_36 =>
 (condW x30_36
 (fin R X_10 w_9 (B false))
 (((rdV Tryz.prog X_10 w_9 (binOp .add 3 v_11 (I 1)) fun x31_38 =>
 nx1 J_6 n_7 x31_38 w_9 X_10)))))))
 (((rdV Tryz.prog X_10 w_9 (lnS 23 3 p0) fun x33_40 =>
 rdV Tryz.prog X_10 w_9 (binOp .gtr 3 x33_40 (I 0)) fun x34_41 =>
 (fin R X_10 w_9 x34_41)))))))
theorem ok_recs_Parts {R : Ending → World → Prop} {w0 : World} {p0 : Value} (h : vc_recs_Parts R w0 (old w0) p0) : Calls Tryz.prog 104 #[p0] w0 R :=
  calls_of_vc (pl := pl_recs_Parts) Tryz.func104 (by kernel_rfl) (by kernel_rfl) h
noncomputable def pl_mvcc_TxnMay : Plan := ⟨21, [(1, (Tryz.prog.cellsOf 39))], [3, 7, 12, 17], [0, 2], [6, 8, 9, 11, 13, 14, 16, 18, 19], []⟩
def vc_mvcc_TxnMay (R : Ending → World → Prop) (w0 : World) (X0 : XS) (p0_0 p0_1 p0_2 : Int) : Prop :=
 (rdV Tryz.prog X0 w0 (binOp .geq 3 (I p0_0) (I 1)) fun x5_3 =>
 un (gSel x5_3 true (I p0_0)) fun u_4 =>
 grdW Tryz.prog X0 w0 x5_3 true (vS (binOp .leq 3 u_4 (I 2))) fun x9_5 =>
 rdW Tryz.prog X0 w0 (pickN x5_3 x9_5 (B false)) fun x10_6 =>
 un (gSel x10_6 true (I p0_1)) fun u_7 =>
 grdW Tryz.prog X0 w0 x10_6 true (vS (binOp .geq 3 u_7 (I 1))) fun x14_8 =>
 rdW Tryz.prog X0 w0 (pickN x10_6 x14_8 (B false)) fun x15_9 =>
 un (gSel x15_9 true (I p0_2)) fun u_10 =>
 grdW Tryz.prog X0 w0 x15_9 true (vS (binOp .geq 3 u_10 (I 1))) fun x19_11 =>
 rdW Tryz.prog X0 w0 (pickN x15_9 x19_11 (B false)) fun x20_12 =>
 (fin R X0 w0 x20_12))
theorem ok_mvcc_TxnMay {R : Ending → World → Prop} {w0 : World} {p0_0 p0_1 p0_2 : Int} (h : vc_mvcc_TxnMay R w0 (old w0) p0_0 p0_1 p0_2) : Calls Tryz.prog 105 #[(.agg #[(I p0_0), (I p0_1), (I p0_2)])] w0 R :=
  calls_of_vc (pl := pl_mvcc_TxnMay) Tryz.func105 (by kernel_rfl) (by kernel_rfl) h
noncomputable def pl_recs_decided : Plan := ⟨11, [(3, (Tryz.prog.cellsOf 34))], [], [0, 1, 4, 5], [], []⟩
def vc_recs_decided (R : Ending → World → Prop) (w0 : World) (X0 : XS) (p0 : Bool) (p1_0 p1_1 p1_2 : Int) : Prop :=
 ((condW (B p0)
 (eC Tryz.prog R X0 w0 true 109 #[(.agg #[(I p1_0), (I p1_1), (I p1_2)])] fun x7_5 w_6 X_7 =>
 (fin R X_7 w_6 x7_5))
 ((rdV Tryz.prog X0 w0 (bld 34 #[(I 0), (I 0), (I 0)] #[]) fun x9_9 =>
 rdV Tryz.prog X0 w0 (binS .eql 34 (.tmp 8) (.tmp 9) (.agg #[(I p1_0), (I p1_1), (I p1_2)]) x9_9) fun x10_10 =>
 (fin R X0 w0 x10_10)))))
theorem ok_recs_decided {R : Ending → World → Prop} {w0 : World} {p0 : Bool} {p1_0 p1_1 p1_2 : Int} (h : vc_recs_decided R w0 (old w0) p0 p1_0 p1_1 p1_2) : Calls Tryz.prog 106 #[(B p0), (.agg #[(I p1_0), (I p1_1), (I p1_2)])] w0 R :=
  calls_of_vc (pl := pl_recs_decided) Tryz.func106 (by kernel_rfl) (by kernel_rfl) h
noncomputable def pl_place_Point : Plan := ⟨13, [], [], [0, 2, 3, 4, 8], [], []⟩
def vc_place_Point (R : Ending → World → Prop) (w0 : World) (X0 : XS) (p0 : Nat) : Prop :=
 (eC Tryz.prog R X0 w0 true 132 #[(.float .f64 p0)] fun x6_5 w_6 X_7 =>
 rdV Tryz.prog X_7 w_6 (binS .eql 3 (.tmp 6) (.const (I 4)) x6_5 (I 4)) fun x7_8 =>
 (condW x7_8
 ((fin R X_7 w_6 (Value.tuple #[(.float .f64 0), (I 0)])))
 (eC Tryz.prog R X_7 w_6 true 133 #[(.float .f64 p0)] fun x10_11 w_12 X_13 =>
 rdV Tryz.prog X_13 w_12 (Op.unary UnOp.not x10_11) fun x11_14 =>
 (condW x11_14
 ((fin R X_13 w_12 (Value.tuple #[(.float .f64 0), (I 1)])))
 ((((fin R X_13 w_12 (Value.tuple #[(.float .f64 p0), (I 0)])))))))))
theorem ok_place_Point {R : Ending → World → Prop} {w0 : World} {p0 : Nat} (h : vc_place_Point R w0 (old w0) p0) : Calls Tryz.prog 107 #[(.float .f64 p0)] w0 R :=
  calls_of_vc (pl := pl_place_Point) Tryz.func107 (by kernel_rfl) (by kernel_rfl) h
noncomputable def pl_recs_ranges : Plan := ⟨9, [], [], [0, 2], [5, 6, 7], []⟩
def vc_recs_ranges (R : Ending → World → Prop) (w0 : World) (X0 : XS) (p0 : Int) : Prop :=
 (rdV Tryz.prog X0 w0 (binOp .geq 3 (I p0) (I 1)) fun x4_3 =>
 un (gSel x4_3 true (I p0)) fun u_4 =>
 grdW Tryz.prog X0 w0 x4_3 true (vS (binOp .leq 3 u_4 (I 12))) fun x7_5 =>
 rdW Tryz.prog X0 w0 (pickN x4_3 x7_5 (B false)) fun x8_6 =>
 (fin R X0 w0 x8_6))
theorem ok_recs_ranges {R : Ending → World → Prop} {w0 : World} {p0 : Int} (h : vc_recs_ranges R w0 (old w0) p0) : Calls Tryz.prog 108 #[(I p0)] w0 R :=
  calls_of_vc (pl := pl_recs_ranges) Tryz.func108 (by kernel_rfl) (by kernel_rfl) h
noncomputable def pl_recs_moment : Plan := ⟨10, [(1, (Tryz.prog.cellsOf 34))], [], [0, 2], [5, 6, 7, 8], []⟩
def vc_recs_moment (R : Ending → World → Prop) (w0 : World) (X0 : XS) (p0_0 p0_1 p0_2 : Int) : Prop :=
 (eC Tryz.prog R X0 w0 true 78 #[(.agg #[(I p0_0), (I p0_1), (I p0_2)])] fun x4_3 w_4 X_5 =>
 un (gSel x4_3 true (.agg #[(I p0_0), (I p0_1), (I p0_2)])) fun u_6 =>
 grdW Tryz.prog X_5 w_4 x4_3 true (vS (bld 34 #[(I 0), (I 0), (I 0)] #[])) fun x7_7 =>
 grdW Tryz.prog X_5 w_4 x4_3 true (vS (binS .neq 34 (.tmp 6) (.tmp 7) u_6 x7_7)) fun x8_8 =>
 rdW Tryz.prog X_5 w_4 (pickN x4_3 x8_8 (B false)) fun x9_9 =>
 (fin R X_5 w_4 x9_9))
theorem ok_recs_moment {R : Ending → World → Prop} {w0 : World} {p0_0 p0_1 p0_2 : Int} (h : vc_recs_moment R w0 (old w0) p0_0 p0_1 p0_2) : Calls Tryz.prog 109 #[(.agg #[(I p0_0), (I p0_1), (I p0_2)])] w0 R :=
  calls_of_vc (pl := pl_recs_moment) Tryz.func109 (by kernel_rfl) (by kernel_rfl) h
noncomputable def pl_recs_Apply : Plan := ⟨29, [(4, (Tryz.prog.cellsOf 34)), (5, (Tryz.prog.cellsOf 34)), (6, (Tryz.prog.cellsOf 39))], [], [0, 1, 2, 3, 8, 22], [12, 13, 14, 15, 16, 18, 19, 20, 21], []⟩
def vc_recs_Apply (R : Ending → World → Prop) (w0 : World) (X0 : XS) (p0_0 p0_1 p0_2 p1_0 p1_1 p1_2 p2_0 p2_1 p2_2 : Int) (p3 : Value) : Prop :=
 (eC Tryz.prog R X0 w0 true 78 #[(.agg #[(I p0_0), (I p0_1), (I p0_2)])] fun x10_4 w_5 X_6 =>
 rdV Tryz.prog X_6 w_5 (Op.unary UnOp.not x10_4) fun x11_7 =>
 un (gSel x11_7 false (.agg #[(I p0_0), (I p0_1), (I p0_2)])) fun u_8 =>
 un (gSel x11_7 false (.agg #[(I p1_0), (I p1_1), (I p1_2)])) fun u_9 =>
 jn (fun (x15_10 : Value) (w_11 : World) (X_12 : XS) =>
 grdW Tryz.prog X_12 w_11 x11_7 false (vS (binOp .geq 3 x15_10 (I 0))) fun x16_14 =>
 rdW Tryz.prog X_12 w_11 (pickN x11_7 (B true) x16_14) fun x17_15 =>
 un (gSel x17_15 false p3) fun u_16 =>
 grdW Tryz.prog X_12 w_11 x17_15 false (vS (lnS 42 3 u_16)) fun x20_17 =>
 grdW Tryz.prog X_12 w_11 x17_15 false (vS (binS .eql 3 (.tmp 20) (.const (I 0)) x20_17 (I 0))) fun x21_18 =>
 rdW Tryz.prog X_12 w_11 (pickN x17_15 (B true) x21_18) fun x22_19 =>
 (condW x22_19
 (fin R X_12 w_11 (B false))
 ((rdV Tryz.prog X_12 w_11 (bld 87 #[(I p2_0), (I p2_1), (I p2_2), (I p1_0), (I p1_1), (I p1_2), (.slice none 0 0), p3] #[(0, (.agg #[(I p2_0), (I p2_1), (I p2_2)])), (1, (.agg #[(I p1_0), (I p1_1), (I p1_2)])), (3, p3)]) fun x26_22 =>
 eC Tryz.prog R X_12 w_11 true 103 #[x26_22] fun x27_23 w_24 X_25 =>
 rdV Tryz.prog X_25 w_24 (binS .eql 27 (.tmp 27) (.const (I 0)) x27_23 (I 0)) fun x28_26 =>
 (fin R X_25 w_24 x28_26))))) fun k_13 =>
 (gE x11_7 false (eC Tryz.prog R X_6 w_5 true 50 #[u_8, u_9] k_13) (k_13 undef w_5 X_6)))
theorem ok_recs_Apply {R : Ending → World → Prop} {w0 : World} {p0_0 p0_1 p0_2 p1_0 p1_1 p1_2 p2_0 p2_1 p2_2 : Int} {p3 : Value} (h : vc_recs_Apply R w0 (old w0) p0_0 p0_1 p0_2 p1_0 p1_1 p1_2 p2_0 p2_1 p2_2 p3) : Calls Tryz.prog 110 #[(.agg #[(I p0_0), (I p0_1), (I p0_2)]), (.agg #[(I p1_0), (I p1_1), (I p1_2)]), (.agg #[(I p2_0), (I p2_1), (I p2_2)]), p3] w0 R :=
  calls_of_vc (pl := pl_recs_Apply) Tryz.func110 (by kernel_rfl) (by kernel_rfl) h
noncomputable def pl_recs_pairs : Plan := ⟨44, [(4, (Tryz.prog.cellsOf 82))], [12, 26, 32, 38, 39], [0, 2, 3, 5, 6, 7, 8, 42], [16, 17, 18, 19, 20, 21, 22, 23, 24, 25, 27, 28, 29, 31, 33, 34, 35, 37, 40, 41], [7]⟩
def vc_recs_pairs (R : Ending → World → Prop) (w0 : World) (X0 : XS) (p0 : Value) : Prop :=
 (rdV Tryz.prog X0 w0 (lnS 43 3 p0) fun x6_4 =>
 (lp1 X0 w0 (I 0) 7 fun J_6 n_7 v_11 w_9 X_10 =>
 rdV Tryz.prog X_10 w_9 (binOp .lss 3 v_11 x6_4) fun x8_13 =>
 (condW x8_13
 ((rdV Tryz.prog X_10 w_9 (ixS 43 4 p0 v_11) fun x10_18 =>
 rdV Tryz.prog X_10 w_9 (ldA 82 4 x10_18) fun x11_19 =>
 un (Value.agg (Value.cells x11_19)) fun u_20 =>
 chk (List.length (Array.toList (Value.cells x11_19)) == 4) (chk (List.all (Array.toList (Value.cells x11_19)) one) ((chk (isA u_20) (un (cellOf u_20 0) fun u_22 =>
 eC Tryz.prog R X_10 w_9 true 134 #[u_22] fun x14_23 w_24 X_25 =>
 rdV Tryz.prog X_25 w_24 (Op.unary UnOp.not x14_23) fun x15_26 =>
 un (gSel x15_26 false v_11) fun u_27 =>
 grdW Tryz.prog X_25 w_24 x15_26 false (vS (binOp .gtr 3 u_27 (I 0))) fun x18_28 =>
 un (gSel x15_26 false x18_28) fun u_29 =>
 un (gSel u_29 true p0) fun u_30 =>
 un (gSel u_29 true v_11) fun u_31 =>
 grdW Tryz.prog X_25 w_24 u_29 true (vS (binOp .sub 3 u_31 (I 1))) fun x22_32 =>
 grdW Tryz.prog X_25 w_24 u_29 true (vS (ixS 43 4 u_30 x22_32)) fun x23_33 =>
 grdW Tryz.prog X_25 w_24 u_29 true (vS (fld 82 0 0 1 x23_33)) fun x24_34 =>
 grdW Tryz.prog X_25 w_24 u_29 true (vS (ld1 9 x24_34)) fun x25_35 =>
 un (gSel u_29 true u_22) fun u_36 =>
 grdW Tryz.prog X_25 w_24 u_29 true (vS (binOp .geq 9 x25_35 u_36)) fun x28_37 =>
 grdW Tryz.prog X_25 w_24 x15_26 false (pickN u_29 x28_37 (B false)) fun x29_38 =>
 rdW Tryz.prog X_25 w_24 (pickN x15_26 (B true) x29_38) fun x30_39 =>
 un (subOf u_20 1 3) fun u_40 =>
 un (gSel x30_39 false u_40) fun u_41 =>
 jn (fun (x34_42 : Value) (w_43 : World) (X_44 : XS) =>
 grdW Tryz.prog X_44 w_43 x30_39 false (vS (Op.unary UnOp.not x34_42)) fun x35_46 =>
 rdW Tryz.prog X_44 w_43 (pickN x30_39 (B true) x35_46) fun x36_47 =>
 un (cellOf u_20 1) fun u_48 =>
 un (gSel x36_47 false u_48) fun u_49 =>
 grdW Tryz.prog X_44 w_43 x36_47 false (vS (binS .eql 3 (.tmp 40) (.const (I 0)) u_49 (I 0))) fun x41_50 =>
 rdW Tryz.prog X_44 w_43 (pickN x36_47 (B true) x41_50) fun x42_51 =>
 (condW x42_51
 (fin R X_44 w_43 (B false))
 (((rdV Tryz.prog X_44 w_43 (binOp .add 3 v_11 (I 1)) fun x43_53 =>
 nx1 J_6 n_7 x43_53 w_43 X_44))))) fun k_45 =>
 (gE x30_39 false (eC Tryz.prog R X_25 w_24 true 131 #[u_41] k_45) (k_45 undef w_24 X_25))))))))
 (fin R X_10 w_9 (B true)))))
theorem ok_recs_pairs {R : Ending → World → Prop} {w0 : World} {p0 : Value} (h : vc_recs_pairs R w0 (old w0) p0) : Calls Tryz.prog 111 #[p0] w0 R :=
  calls_of_vc (pl := pl_recs_pairs) Tryz.func111 (by kernel_rfl) (by kernel_rfl) h
noncomputable def pl_raceref10_TxnMay : Plan := ⟨21, [(1, (Tryz.prog.cellsOf 39))], [3, 7, 12, 17], [0, 2], [6, 8, 9, 11, 13, 14, 16, 18, 19], []⟩
def vc_raceref10_TxnMay (R : Ending → World → Prop) (w0 : World) (X0 : XS) (p0_0 p0_1 p0_2 : Int) : Prop :=
 (rdV Tryz.prog X0 w0 (binOp .geq 3 (I p0_0) (I 1)) fun x5_3 =>
 un (gSel x5_3 true (I p0_0)) fun u_4 =>
 grdW Tryz.prog X0 w0 x5_3 true (vS (binOp .leq 3 u_4 (I 2))) fun x9_5 =>
 rdW Tryz.prog X0 w0 (pickN x5_3 x9_5 (B false)) fun x10_6 =>
 un (gSel x10_6 true (I p0_1)) fun u_7 =>
 grdW Tryz.prog X0 w0 x10_6 true (vS (binOp .geq 3 u_7 (I 1))) fun x14_8 =>
 rdW Tryz.prog X0 w0 (pickN x10_6 x14_8 (B false)) fun x15_9 =>
 un (gSel x15_9 true (I p0_2)) fun u_10 =>
 grdW Tryz.prog X0 w0 x15_9 true (vS (binOp .geq 3 u_10 (I 1))) fun x19_11 =>
 rdW Tryz.prog X0 w0 (pickN x15_9 x19_11 (B false)) fun x20_12 =>
 (fin R X0 w0 x20_12))
theorem ok_raceref10_TxnMay {R : Ending → World → Prop} {w0 : World} {p0_0 p0_1 p0_2 : Int} (h : vc_raceref10_TxnMay R w0 (old w0) p0_0 p0_1 p0_2) : Calls Tryz.prog 112 #[(.agg #[(I p0_0), (I p0_1), (I p0_2)])] w0 R :=
  calls_of_vc (pl := pl_raceref10_TxnMay) Tryz.func112 (by kernel_rfl) (by kernel_rfl) h
noncomputable def pl_raceref11_StateMay : Plan := ⟨98, [(1, (Tryz.prog.cellsOf 49)), (7, (Tryz.prog.cellsOf 87))], [10, 15, 21, 27, 29, 37, 43, 45, 54, 60, 66, 72, 74, 82, 88, 90], [0, 2, 4, 5, 6, 8, 9, 25, 35, 40, 52, 57, 69, 80, 85, 97], [14, 16, 17, 18, 20, 22, 23, 24], [5, 6, 8, 9]⟩
def vc_raceref11_StateMay (R : Ending → World → Prop) (w0 : World) (X0 : XS) (p0_0 p0_1 : Int) (p0_2 p0_3 : Nat) (p0_4 p0_5 p0_6 p0_7 p0_8 p0_9 : Int) (p0_10 p0_11 : Value) : Prop :=
 (eC Tryz.prog R X0 w0 true 135 #[(.agg #[(I p0_0), (I p0_1), (.float .f64 p0_2), (.float .f64 p0_3)])] fun x12_4 w_5 X_6 =>
 rdV Tryz.prog X_6 w_5 (Op.unary UnOp.not x12_4) fun x13_7 =>
 un (gSel x13_7 false (.agg #[(I p0_4), (I p0_5), (I p0_6)])) fun u_8 =>
 jn (fun (x17_9 : Value) (w_10 : World) (X_11 : XS) =>
 grdW Tryz.prog X_11 w_10 x13_7 false (vS (Op.unary UnOp.not x17_9)) fun x18_13 =>
 rdW Tryz.prog X_11 w_10 (pickN x13_7 (B true) x18_13) fun x19_14 =>
 un (gSel x19_14 false (.agg #[(I p0_7), (I p0_8), (I p0_9)])) fun u_15 =>
 jn (fun (x23_16 : Value) (w_17 : World) (X_18 : XS) =>
 grdW Tryz.prog X_18 w_17 x19_14 false (vS (Op.unary UnOp.not x23_16)) fun x24_20 =>
 rdW Tryz.prog X_18 w_17 (pickN x19_14 (B true) x24_20) fun x25_21 =>
 (condW x25_21
 (fin R X_18 w_17 (B false))
 ((eC Tryz.prog R X_18 w_17 true 136 #[p0_10, p0_11] fun x31_24 w_25 X_26 =>
 rdV Tryz.prog X_26 w_25 (Instr.extract x31_24 0) fun _ =>
 rdV Tryz.prog X_26 w_25 (Instr.extract x31_24 1) fun x33_28 =>
 (rdV Tryz.prog X_26 w_25 (binS .neq 27 (.tmp 34) (.const (I 0)) x33_28 (I 0)) fun x35_31 =>
 (condW x35_31
 (fin R X_26 w_25 (B false))
 (((lp1 X_26 w_25 (I 0) 5 fun J_36 n_37 v_41 w_39 X_40 =>
 rdV Tryz.prog X_40 w_39 (lnS 46 3 p0_10) fun x39_44 =>
 rdV Tryz.prog X_40 w_39 (binOp .lss 3 v_41 x39_44) fun x40_45 =>
 (condW x40_45
 ((rdV Tryz.prog X_40 w_39 (ixS 46 2 p0_10 v_41) fun x48_49 =>
 rdV Tryz.prog X_40 w_39 (fld 142 0 0 1 x48_49) fun x49_50 =>
 rdV Tryz.prog X_40 w_39 (ld1 9 x49_50) fun x50_51 =>
 eC Tryz.prog R X_40 w_39 true 137 #[(.agg #[(I p0_0), (I p0_1), (.float .f64 p0_2), (.float .f64 p0_3)]), x50_51] fun x51_52 w_53 X_54 =>
 rdV Tryz.prog X_54 w_53 (Op.unary UnOp.not x51_52) fun x52_55 =>
 (condW x52_55
 (fin R X_54 w_53 (B false))
 (((rdV Tryz.prog X_54 w_53 (binOp .add 3 v_41 (I 1)) fun x42_57 =>
 nx1 J_36 n_37 x42_57 w_53 X_54))))))
 ((((lp3 X_40 w_39 (I 0) undef undef 6 9 8 fun J_61 n_62 v_66 _ _ w_64 X_65 =>
 rdV Tryz.prog X_65 w_64 (lnS 47 3 p0_11) fun x56_71 =>
 rdV Tryz.prog X_65 w_64 (binOp .lss 3 v_66 x56_71) fun x57_72 =>
 (condW x57_72
 ((rdV Tryz.prog X_65 w_64 (ixS 47 8 p0_11 v_66) fun x63_76 =>
 rdV Tryz.prog X_65 w_64 (ldA 87 8 x63_76) fun x64_77 =>
 un (Value.agg (Value.cells x64_77)) fun u_78 =>
 chk (List.length (Array.toList (Value.cells x64_77)) == 8) (chk (List.all (Array.toList (Value.cells x64_77)) one) (((lp1 X_65 w_64 (I 0) 8 fun J_82 n_83 v_87 w_85 X_86 =>
 chk (isA u_78) (un (cellOf u_78 6) fun u_90 =>
 rdV Tryz.prog X_86 w_85 (lnS 41 3 u_90) fun x68_91 =>
 rdV Tryz.prog X_86 w_85 (binOp .lss 3 v_87 x68_91) fun x69_92 =>
 (condW x69_92
 ((chk (isA u_78) (rdV Tryz.prog X_86 w_85 (ixS 41 1 u_90 v_87) fun x77_96 =>
 rdV Tryz.prog X_86 w_85 (ld1 9 x77_96) fun x78_97 =>
 eC Tryz.prog R X_86 w_85 true 137 #[(.agg #[(I p0_0), (I p0_1), (.float .f64 p0_2), (.float .f64 p0_3)]), x78_97] fun x79_98 w_99 X_100 =>
 rdV Tryz.prog X_100 w_99 (Op.unary UnOp.not x79_98) fun x80_101 =>
 (condW x80_101
 (fin R X_100 w_99 (B false))
 (((rdV Tryz.prog X_100 w_99 (binOp .add 3 v_87 (I 1)) fun x71_103 =>
 nx1 J_82 n_83 x71_103 w_99 X_100)))))))
 ((((lp1 X_86 w_85 (I 0) 9 fun J_106 n_107 v_111 w_109 X_110 =>
 chk (isA u_78) (un (cellOf u_78 7) fun u_114 =>
 rdV Tryz.prog X_110 w_109 (lnS 42 3 u_114) fun x84_115 =>
 rdV Tryz.prog X_110 w_109 (binOp .lss 3 v_111 x84_115) fun x85_116 =>
 (condW x85_116
 ((chk (isA u_78) (rdV Tryz.prog X_110 w_109 (ixS 42 4 u_114 v_111) fun x93_120 =>
 rdV Tryz.prog X_110 w_109 (fld 66 0 0 1 x93_120) fun x94_121 =>
 rdV Tryz.prog X_110 w_109 (ld1 9 x94_121) fun x95_122 =>
 eC Tryz.prog R X_110 w_109 true 137 #[(.agg #[(I p0_0), (I p0_1), (.float .f64 p0_2), (.float .f64 p0_3)]), x95_122] fun x96_123 w_124 X_125 =>
 rdV Tryz.prog X_125 w_124 (Op.unary UnOp.not x96_123) fun x97_126 =>
 (condW x97_126
 (fin R X_125 w_124 (B false))
 (((rdV Tryz.prog X_125 w_124 (binOp .add 3 v_111 (I 1)) fun x87_128 =>
 nx1 J_106 n_107 x87_128 w_124 X_125)))))))
 ((((rdV Tryz.prog X_110 w_109 (binOp .add 3 v_66 (I 1)) fun x59_129 =>
 nx3 J_61 n_62 x59_129 v_111 v_87 w_109 X_110))))))))))))))))))
 (fin R X_65 w_64 (B true))))))))))))))))) fun k_19 =>
 (gE x19_14 false (eC Tryz.prog R X_11 w_10 true 90 #[u_15] k_19) (k_19 undef w_10 X_11))) fun k_12 =>
 (gE x13_7 false (eC Tryz.prog R X_6 w_5 true 90 #[u_8] k_12) (k_12 undef w_5 X_6)))
theorem ok_raceref11_StateMay {R : Ending → World → Prop} {w0 : World} {p0_0 p0_1 : Int} {p0_2 p0_3 : Nat} {p0_4 p0_5 p0_6 p0_7 p0_8 p0_9 : Int} {p0_10 p0_11 : Value} (h : vc_raceref11_StateMay R w0 (old w0) p0_0 p0_1 p0_2 p0_3 p0_4 p0_5 p0_6 p0_7 p0_8 p0_9 p0_10 p0_11) : Calls Tryz.prog 113 #[(.agg #[(I p0_0), (I p0_1), (.float .f64 p0_2), (.float .f64 p0_3), (I p0_4), (I p0_5), (I p0_6), (I p0_7), (I p0_8), (I p0_9), p0_10, p0_11])] w0 R :=
  calls_of_vc (pl := pl_raceref11_StateMay) Tryz.func113 (by kernel_rfl) (by kernel_rfl) h
noncomputable def pl_raceref10_PendingMay : Plan := ⟨29, [(1, (Tryz.prog.cellsOf 87))], [4, 8, 12, 19, 24], [0, 2, 3, 7, 18, 28], [16, 17, 23, 25, 26, 27], []⟩
def vc_raceref10_PendingMay (R : Ending → World → Prop) (w0 : World) (X0 : XS) (p0_0 p0_1 p0_2 p0_3 p0_4 p0_5 : Int) (p0_6 p0_7 : Value) : Prop :=
 (eC Tryz.prog R X0 w0 true 112 #[(.agg #[(I p0_0), (I p0_1), (I p0_2)])] fun x6_4 w_5 X_6 =>
 rdV Tryz.prog X_6 w_5 (Op.unary UnOp.not x6_4) fun x7_7 =>
 (condW x7_7
 (fin R X_6 w_5 (I 4))
 ((rdV Tryz.prog X_6 w_5 (bld 34 #[(I 0), (I 0), (I 0)] #[]) fun x10_10 =>
 rdV Tryz.prog X_6 w_5 (binS .eql 34 (.tmp 9) (.tmp 10) (.agg #[(I p0_3), (I p0_4), (I p0_5)]) x10_10) fun x11_11 =>
 (eC Tryz.prog R X_6 w_5 true 90 #[(.agg #[(I p0_3), (I p0_4), (I p0_5)])] fun x14_14 w_15 X_16 =>
 rdV Tryz.prog X_16 w_15 (Op.unary UnOp.not x14_14) fun x15_17 =>
 un (gSel x15_17 false x11_11) fun u_18 =>
 rdW Tryz.prog X_16 w_15 (pickN x15_17 (B true) u_18) fun x18_19 =>
 (condW x18_19
 (fin R X_16 w_15 (I 17))
 ((eC Tryz.prog R X_16 w_15 true 138 #[p0_6, (I 16)] fun x21_23 w_24 X_25 =>
 rdV Tryz.prog X_25 w_24 (Op.unary UnOp.not x21_23) fun x22_26 =>
 un (gSel x22_26 false p0_7) fun u_27 =>
 jn (fun (x26_28 : Value) (w_29 : World) (X_30 : XS) =>
 grdW Tryz.prog X_30 w_29 x22_26 false (vS (Op.unary UnOp.not x26_28)) fun x27_32 =>
 rdW Tryz.prog X_30 w_29 (pickN x22_26 (B true) x27_32) fun x28_33 =>
 (condW x28_33
 (fin R X_30 w_29 (I 4))
 (fin R X_30 w_29 (I 0)))) fun k_31 =>
 (gE x22_26 false (eC Tryz.prog R X_25 w_24 true 139 #[u_27, (I 16)] k_31) (k_31 undef w_24 X_25))))))))))
theorem ok_raceref10_PendingMay {R : Ending → World → Prop} {w0 : World} {p0_0 p0_1 p0_2 p0_3 p0_4 p0_5 : Int} {p0_6 p0_7 : Value} (h : vc_raceref10_PendingMay R w0 (old w0) p0_0 p0_1 p0_2 p0_3 p0_4 p0_5 p0_6 p0_7) : Calls Tryz.prog 114 #[(.agg #[(I p0_0), (I p0_1), (I p0_2), (I p0_3), (I p0_4), (I p0_5), p0_6, p0_7])] w0 R :=
  calls_of_vc (pl := pl_raceref10_PendingMay) Tryz.func114 (by kernel_rfl) (by kernel_rfl) h
noncomputable def pl_raceref11_Parts : Plan := ⟨46, [], [], [0, 2, 3, 11, 15, 45], [7, 8, 9, 10, 23, 24, 25, 26, 27, 28, 30, 31, 32, 33, 34, 35, 36, 37, 38, 39, 40, 41, 42, 43, 44], [3]⟩
def vc_raceref11_Parts (R : Ending → World → Prop) (w0 : World) (X0 : XS) (p0 : Value) : Prop :=
 (rdV Tryz.prog X0 w0 (lnS 23 3 p0) fun x5_4 =>
 rdV Tryz.prog X0 w0 (binOp .lss 3 x5_4 (I 1)) fun x6_5 =>
 un (gSel x6_5 false p0) fun u_6 =>
 grdW Tryz.prog X0 w0 x6_5 false (vS (lnS 23 3 u_6)) fun x9_7 =>
 grdW Tryz.prog X0 w0 x6_5 false (vS (binOp .gtr 3 x9_7 (I 12))) fun x10_8 =>
 rdW Tryz.prog X0 w0 (pickN x6_5 (B true) x10_8) fun x11_9 =>
 (condW x11_9
 (fin R X0 w0 (B false))
 (((lp1 X0 w0 (I 0) 3 fun J_14 n_15 v_19 w_17 X_18 =>
 rdV Tryz.prog X_18 w_17 (lnS 23 3 p0) fun x14_22 =>
 rdV Tryz.prog X_18 w_17 (binOp .lss 3 v_19 x14_22) fun x15_23 =>
 (condW x15_23
 ((rdV Tryz.prog X_18 w_17 (ixS 23 1 p0 v_19) fun x20_27 =>
 rdV Tryz.prog X_18 w_17 (ld1 3 x20_27) fun x21_28 =>
 rdV Tryz.prog X_18 w_17 (binOp .lss 3 x21_28 (I 1)) fun x22_29 =>
 un (gSel x22_29 false p0) fun u_30 =>
 un (gSel x22_29 false v_19) fun u_31 =>
 grdW Tryz.prog X_18 w_17 x22_29 false (vS (ixS 23 1 u_30 u_31)) fun x26_32 =>
 grdW Tryz.prog X_18 w_17 x22_29 false (vS (ld1 3 x26_32)) fun x27_33 =>
 grdW Tryz.prog X_18 w_17 x22_29 false (vS (binOp .gtr 3 x27_33 (I 12))) fun x28_34 =>
 rdW Tryz.prog X_18 w_17 (pickN x22_29 (B true) x28_34) fun x29_35 =>
 un (gSel x29_35 false v_19) fun u_36 =>
 grdW Tryz.prog X_18 w_17 x29_35 false (vS (binOp .gtr 3 u_36 (I 0))) fun x32_37 =>
 un (gSel x29_35 false x32_37) fun u_38 =>
 un (gSel u_38 true p0) fun u_39 =>
 un (gSel u_38 true v_19) fun u_40 =>
 grdW Tryz.prog X_18 w_17 u_38 true (vS (ixS 23 1 u_39 u_40)) fun x36_41 =>
 grdW Tryz.prog X_18 w_17 u_38 true (vS (ld1 3 x36_41)) fun x37_42 =>
 grdW Tryz.prog X_18 w_17 u_38 true (vS (binOp .sub 3 u_40 (I 1))) fun x40_43 =>
 grdW Tryz.prog X_18 w_17 u_38 true (vS (ixS 23 1 u_39 x40_43)) fun x41_44 =>
 grdW Tryz.prog X_18 w_17 u_38 true (vS (ld1 3 x41_44)) fun x42_45 =>
 grdW Tryz.prog X_18 w_17 u_38 true (vS (binOp .leq 3 x37_42 x42_45)) fun x43_46 =>
 grdW Tryz.prog X_18 w_17 x29_35 false (pickN u_38 x43_46 (B false)) fun x44_47 =>
 rdW Tryz.prog X_18 w_17 (pickN x29_35 (B true) x44_47) fun x45_48 =>
 (condW x45_48
 (fin R X_18 w_17 (B false))
 (((rdV Tryz.prog X_18 w_17 (binOp .add 3 v_19 (I 1)) fun x17_50 =>
 nx1 J_14 n_15 x17_50 w_17 X_18))))))
 (fin R X_18 w_17 (B true))))))))
theorem ok_raceref11_Parts {R : Ending → World → Prop} {w0 : World} {p0 : Value} (h : vc_raceref11_Parts R w0 (old w0) p0) : Calls Tryz.prog 115 #[p0] w0 R :=
  calls_of_vc (pl := pl_raceref11_Parts) Tryz.func115 (by kernel_rfl) (by kernel_rfl) h
noncomputable def pl_raceref11_Applies : Plan := ⟨33, [(4, (Tryz.prog.cellsOf 34)), (5, (Tryz.prog.cellsOf 34)), (6, (Tryz.prog.cellsOf 39))], [], [0, 1, 2, 3, 8], [11, 12, 13, 15, 16, 17, 18, 20, 21, 22, 24, 25, 26, 27, 29, 30, 31], []⟩
def vc_raceref11_Applies (R : Ending → World → Prop) (w0 : World) (X0 : XS) (p0_0 p0_1 p0_2 p1_0 p1_1 p1_2 p2_0 p2_1 p2_2 : Int) (p3 : Value) : Prop :=
 (eC Tryz.prog R X0 w0 true 90 #[(.agg #[(I p0_0), (I p0_1), (I p0_2)])] fun x10_3 w_4 X_5 =>
 un (gSel x10_3 true (.agg #[(I p1_0), (I p1_1), (I p1_2)])) fun u_6 =>
 jn (fun (x13_7 : Value) (w_8 : World) (X_9 : XS) =>
 rdW Tryz.prog X_9 w_8 (pickN x10_3 x13_7 (B false)) fun x14_11 =>
 un (gSel x14_11 true (.agg #[(I p0_0), (I p0_1), (I p0_2)])) fun u_12 =>
 un (gSel x14_11 true (.agg #[(I p1_0), (I p1_1), (I p1_2)])) fun u_13 =>
 jn (fun (x18_14 : Value) (w_15 : World) (X_16 : XS) =>
 rdW Tryz.prog X_16 w_15 (pickN x14_11 x18_14 (B false)) fun x19_18 =>
 un (gSel x19_18 true (.agg #[(I p2_0), (I p2_1), (I p2_2)])) fun u_19 =>
 jn (fun (x22_20 : Value) (w_21 : World) (X_22 : XS) =>
 rdW Tryz.prog X_22 w_21 (pickN x19_18 x22_20 (B false)) fun x23_24 =>
 un (gSel x23_24 true p3) fun u_25 =>
 grdW Tryz.prog X_22 w_21 x23_24 true (vS (lnS 42 3 u_25)) fun x26_26 =>
 grdW Tryz.prog X_22 w_21 x23_24 true (vS (binOp .geq 3 x26_26 (I 1))) fun x27_27 =>
 rdW Tryz.prog X_22 w_21 (pickN x23_24 x27_27 (B false)) fun x28_28 =>
 un (gSel x28_28 true p3) fun u_29 =>
 jn (fun (x31_30 : Value) (w_31 : World) (X_32 : XS) =>
 rdW Tryz.prog X_32 w_31 (pickN x28_28 x31_30 (B false)) fun x32_34 =>
 (fin R X_32 w_31 x32_34)) fun k_33 =>
 (gE x28_28 true (eC Tryz.prog R X_22 w_21 true 139 #[u_29, (I 16)] k_33) (k_33 undef w_21 X_22))) fun k_23 =>
 (gE x19_18 true (eC Tryz.prog R X_16 w_15 true 112 #[u_19] k_23) (k_23 undef w_15 X_16))) fun k_17 =>
 (gE x14_11 true (eC Tryz.prog R X_9 w_8 true 67 #[u_12, u_13] k_17) (k_17 undef w_8 X_9))) fun k_10 =>
 (gE x10_3 true (eC Tryz.prog R X_5 w_4 true 90 #[u_6] k_10) (k_10 undef w_4 X_5)))
theorem ok_raceref11_Applies {R : Ending → World → Prop} {w0 : World} {p0_0 p0_1 p0_2 p1_0 p1_1 p1_2 p2_0 p2_1 p2_2 : Int} {p3 : Value} (h : vc_raceref11_Applies R w0 (old w0) p0_0 p0_1 p0_2 p1_0 p1_1 p1_2 p2_0 p2_1 p2_2 p3) : Calls Tryz.prog 116 #[(.agg #[(I p0_0), (I p0_1), (I p0_2)]), (.agg #[(I p1_0), (I p1_1), (I p1_2)]), (.agg #[(I p2_0), (I p2_1), (I p2_2)]), p3] w0 R :=
  calls_of_vc (pl := pl_raceref11_Applies) Tryz.func116 (by kernel_rfl) (by kernel_rfl) h
noncomputable def pl_raceref11_pairs : Plan := ⟨51, [(4, (Tryz.prog.cellsOf 64))], [47], [0, 2, 3, 8, 50], [23, 24, 25, 26, 27, 28, 29, 30, 31, 32, 33, 34, 35, 36, 37, 38, 39, 41, 42, 43, 44, 46, 48, 49], [3]⟩
def vc_raceref11_pairs (R : Ending → World → Prop) (w0 : World) (X0 : XS) (p0 : Value) : Prop :=
 ((lp1 X0 w0 (I 0) 3 fun J_5 n_6 v_10 w_8 X_9 =>
 rdV Tryz.prog X_9 w_8 (lnS 43 3 p0) fun x7_13 =>
 rdV Tryz.prog X_9 w_8 (binOp .lss 3 v_10 x7_13) fun x8_14 =>
 (condW x8_14
 ((rdV Tryz.prog X_9 w_8 (ixS 43 4 p0 v_10) fun x13_18 =>
 rdV Tryz.prog X_9 w_8 (fld 82 1 1 3 x13_18) fun x14_19 =>
 rdV Tryz.prog X_9 w_8 (ldA 64 3 x14_19) fun x15_20 =>
 un (Value.agg (Value.cells x15_20)) fun u_21 =>
 chk (List.length (Array.toList (Value.cells x15_20)) == 3) (chk (List.all (Array.toList (Value.cells x15_20)) one) ((rdV Tryz.prog X_9 w_8 (ixS 43 4 p0 v_10) fun x18_23 =>
 rdV Tryz.prog X_9 w_8 (fld 82 0 0 1 x18_23) fun x19_24 =>
 rdV Tryz.prog X_9 w_8 (ld1 9 x19_24) fun x20_25 =>
 eC Tryz.prog R X_9 w_8 true 140 #[x20_25] fun x21_26 w_27 X_28 =>
 rdV Tryz.prog X_28 w_27 (Op.unary UnOp.not x21_26) fun x22_29 =>
 un (gSel x22_29 false v_10) fun u_30 =>
 grdW Tryz.prog X_28 w_27 x22_29 false (vS (binOp .gtr 3 u_30 (I 0))) fun x25_31 =>
 un (gSel x22_29 false x25_31) fun u_32 =>
 un (gSel u_32 true p0) fun u_33 =>
 un (gSel u_32 true v_10) fun u_34 =>
 grdW Tryz.prog X_28 w_27 u_32 true (vS (ixS 43 4 u_33 u_34)) fun x29_35 =>
 grdW Tryz.prog X_28 w_27 u_32 true (vS (fld 82 0 0 1 x29_35)) fun x30_36 =>
 grdW Tryz.prog X_28 w_27 u_32 true (vS (ld1 9 x30_36)) fun x31_37 =>
 grdW Tryz.prog X_28 w_27 u_32 true (vS (binOp .sub 3 u_34 (I 1))) fun x34_38 =>
 grdW Tryz.prog X_28 w_27 u_32 true (vS (ixS 43 4 u_33 x34_38)) fun x35_39 =>
 grdW Tryz.prog X_28 w_27 u_32 true (vS (fld 82 0 0 1 x35_39)) fun x36_40 =>
 grdW Tryz.prog X_28 w_27 u_32 true (vS (ld1 9 x36_40)) fun x37_41 =>
 grdW Tryz.prog X_28 w_27 u_32 true (vS (binOp .leq 9 x31_37 x37_41)) fun x38_42 =>
 grdW Tryz.prog X_28 w_27 x22_29 false (pickN u_32 x38_42 (B false)) fun x39_43 =>
 rdW Tryz.prog X_28 w_27 (pickN x22_29 (B true) x39_43) fun x40_44 =>
 chk (isA u_21) (un (subOf u_21 0 3) fun u_45 =>
 un (gSel x40_44 false u_45) fun u_46 =>
 jn (fun (x43_47 : Value) (w_48 : World) (X_49 : XS) =>
 grdW Tryz.prog X_49 w_48 x40_44 false (vS (Op.unary UnOp.not x43_47)) fun x44_51 =>
 rdW Tryz.prog X_49 w_48 (pickN x40_44 (B true) x44_51) fun x45_52 =>
 un (cellOf u_21 0) fun u_53 =>
 un (gSel x45_52 false u_53) fun u_54 =>
 grdW Tryz.prog X_49 w_48 x45_52 false (vS (binS .eql 3 (.tmp 48) (.const (I 0)) u_54 (I 0))) fun x49_55 =>
 rdW Tryz.prog X_49 w_48 (pickN x45_52 (B true) x49_55) fun x50_56 =>
 (condW x50_56
 (fin R X_49 w_48 (B false))
 (((rdV Tryz.prog X_49 w_48 (binOp .add 3 v_10 (I 1)) fun x10_58 =>
 nx1 J_5 n_6 x10_58 w_48 X_49))))) fun k_50 =>
 (gE x40_44 false (eC Tryz.prog R X_28 w_27 true 141 #[u_46] k_50) (k_50 undef w_27 X_28))))))))
 (fin R X_9 w_8 (B true)))))
theorem ok_raceref11_pairs {R : Ending → World → Prop} {w0 : World} {p0 : Value} (h : vc_raceref11_pairs R w0 (old w0) p0) : Calls Tryz.prog 117 #[p0] w0 R :=
  calls_of_vc (pl := pl_raceref11_pairs) Tryz.func117 (by kernel_rfl) (by kernel_rfl) h
noncomputable def pl_raceref8_order : Plan := ⟨11, [], [], [0, 1, 4, 7, 10], [], []⟩
def vc_raceref8_order (R : Ending → World → Prop) (w0 : World) (X0 : XS) (p0 p1 : Int) : Prop :=
 (rdV Tryz.prog X0 w0 (binOp .lss 3 (I p0) (I p1)) fun x7_4 =>
 (condW x7_4
 ((fin R X0 w0 (I (-1))))
 ((rdV Tryz.prog X0 w0 (binOp .gtr 3 (I p0) (I p1)) fun x10_8 =>
 (condW x10_8
 (fin R X0 w0 (I 1))
 (fin R X0 w0 (I 0)))))))
theorem ok_raceref8_order {R : Ending → World → Prop} {w0 : World} {p0 p1 : Int} (h : vc_raceref8_order R w0 (old w0) p0 p1) : Calls Tryz.prog 118 #[(I p0), (I p1)] w0 R :=
  calls_of_vc (pl := pl_raceref8_order) Tryz.func118 (by kernel_rfl) (by kernel_rfl) h
noncomputable def pl_raceref4_Hash : Plan := ⟨32, [], [], [0, 2, 3, 4, 8], [], [3, 4]⟩
def vc_raceref4_Hash (R : Ending → World → Prop) (w0 : World) (X0 : XS) (p0 : ByteArray) : Prop :=
 (((lp2 X0 w0 (I 0) (Value.int IntKind.u64 14695981039346656037) 4 3 fun J_6 n_7 v_11 v_12 w_9 X_10 =>
 rdV Tryz.prog X_10 w_9 (lnT 9 3 (.string p0)) fun x7_15 =>
 rdV Tryz.prog X_10 w_9 (binOp .lss 3 v_11 x7_15) fun x8_16 =>
 (condW x8_16
 ((rdV Tryz.prog X_10 w_9 (Instr.index 9 (.string p0) v_11) fun x14_19 =>
 rdV Tryz.prog X_10 w_9 (cvI IntKind.u64 5 129 x14_19) fun x15_20 =>
 rdV Tryz.prog X_10 w_9 (binOp .xor 129 v_12 x15_20) fun x16_21 =>
 rdV Tryz.prog X_10 w_9 (binOp .mul 129 x16_21 (Value.int IntKind.u64 1099511628211)) fun x17_22 =>
 ((rdV Tryz.prog X_10 w_9 (binOp .add 3 v_11 (I 1)) fun x10_23 =>
 nx2 J_6 n_7 x10_23 x17_22 w_9 X_10))))
 (((rdV Tryz.prog X_10 w_9 (binOp .shr 129 v_12 (Value.int IntKind.u64 33)) fun x20_25 =>
 rdV Tryz.prog X_10 w_9 (binOp .xor 129 v_12 x20_25) fun x21_26 =>
 rdV Tryz.prog X_10 w_9 (binOp .mul 129 x21_26 (Value.int IntKind.u64 18397679294719823053)) fun x22_27 =>
 (rdV Tryz.prog X_10 w_9 (binOp .shr 129 x22_27 (Value.int IntKind.u64 33)) fun x25_29 =>
 rdV Tryz.prog X_10 w_9 (binOp .xor 129 x22_27 x25_29) fun x26_30 =>
 rdV Tryz.prog X_10 w_9 (binOp .mul 129 x26_30 (Value.int IntKind.u64 14181476777654086739)) fun x27_31 =>
 (rdV Tryz.prog X_10 w_9 (binOp .shr 129 x27_31 (Value.int IntKind.u64 33)) fun x30_33 =>
 rdV Tryz.prog X_10 w_9 (binOp .xor 129 x27_31 x30_33) fun x31_34 =>
 (fin R X_10 w_9 x31_34))))))))))
theorem ok_raceref4_Hash {R : Ending → World → Prop} {w0 : World} {p0 : ByteArray} (h : vc_raceref4_Hash R w0 (old w0) p0) : Calls Tryz.prog 119 #[(.string p0)] w0 R :=
  calls_of_vc (pl := pl_raceref4_Hash) Tryz.func119 (by kernel_rfl) (by kernel_rfl) h
noncomputable def pl_place_May : Plan := ⟨33, [(1, (Tryz.prog.cellsOf 45))], [3, 7, 12, 17, 22, 27, 29], [0, 2], [6, 8, 9, 11, 13, 14, 16, 18, 19, 21, 23, 24, 26, 28, 30, 31], []⟩
def vc_place_May (R : Ending → World → Prop) (w0 : World) (X0 : XS) (p0_0 p0_1 : Int) (p0_2 p0_3 : Nat) : Prop :=
 (rdV Tryz.prog X0 w0 (binOp .geq 3 (I p0_0) (I 1)) fun x5_3 =>
 un (gSel x5_3 true (I p0_0)) fun u_4 =>
 grdW Tryz.prog X0 w0 x5_3 true (vS (binOp .leq 3 u_4 (I 12))) fun x9_5 =>
 rdW Tryz.prog X0 w0 (pickN x5_3 x9_5 (B false)) fun x10_6 =>
 un (gSel x10_6 true (I p0_1)) fun u_7 =>
 grdW Tryz.prog X0 w0 x10_6 true (vS (binOp .geq 3 u_7 (I 0))) fun x14_8 =>
 rdW Tryz.prog X0 w0 (pickN x10_6 x14_8 (B false)) fun x15_9 =>
 un (gSel x15_9 true (.float .f64 p0_2)) fun u_10 =>
 jn (fun (x19_11 : Value) (w_12 : World) (X_13 : XS) =>
 rdW Tryz.prog X_13 w_12 (pickN x15_9 x19_11 (B false)) fun x20_15 =>
 un (gSel x20_15 true (.float .f64 p0_3)) fun u_16 =>
 jn (fun (x24_17 : Value) (w_18 : World) (X_19 : XS) =>
 rdW Tryz.prog X_19 w_18 (pickN x20_15 x24_17 (B false)) fun x25_21 =>
 un (gSel x25_21 true (.float .f64 p0_2)) fun u_22 =>
 un (gSel x25_21 true (.float .f64 p0_3)) fun u_23 =>
 grdW Tryz.prog X_19 w_18 x25_21 true (vS (binOp .lss 40 u_22 u_23)) fun x31_24 =>
 rdW Tryz.prog X_19 w_18 (pickN x25_21 x31_24 (B false)) fun x32_25 =>
 (fin R X_19 w_18 x32_25)) fun k_20 =>
 (gE x20_15 true (eC Tryz.prog R X_13 w_12 true 133 #[u_16] k_20) (k_20 undef w_12 X_13))) fun k_14 =>
 (gE x15_9 true (eC Tryz.prog R X0 w0 true 133 #[u_10] k_14) (k_14 undef w0 X0)))
theorem ok_place_May {R : Ending → World → Prop} {w0 : World} {p0_0 p0_1 : Int} {p0_2 p0_3 : Nat} (h : vc_place_May R w0 (old w0) p0_0 p0_1 p0_2 p0_3) : Calls Tryz.prog 125 #[(.agg #[(I p0_0), (I p0_1), (.float .f64 p0_2), (.float .f64 p0_3)])] w0 R :=
  calls_of_vc (pl := pl_place_May) Tryz.func125 (by kernel_rfl) (by kernel_rfl) h
noncomputable def pl_mvcc_Load : Plan := ⟨80, [(9, (Tryz.prog.cellsOf 142)), (11, (Tryz.prog.cellsOf 87)), (13, (Tryz.prog.cellsOf 87))], [30, 32, 35, 51, 74], [0, 1, 4, 5, 6, 7, 12, 14, 16, 17, 18, 19, 25, 38, 39, 40, 41, 56, 60, 62, 66], [], [7, 18, 40]⟩
def vc_mvcc_Load (R : Ending → World → Prop) (w0 : World) (X0 : XS) (p0 p1 : Value) : Prop :=
 (eC Tryz.prog R X0 w0 true 143 #[] fun x15_3 w_4 X_5 =>
 ((rdV Tryz.prog X_5 w_4 (lnS 46 3 p0) fun x17_9 =>
 (lp2 X_5 w_4 (I 0) (.string { data := #[] }) 18 7 fun J_11 n_12 v_16 v_17 w_14 X_15 =>
 rdV Tryz.prog X_15 w_14 (binOp .lss 3 v_16 x17_9) fun x19_19 =>
 (condW x19_19
 ((rdV Tryz.prog X_15 w_14 (ixS 46 2 p0 v_16) fun x20_24 =>
 rdV Tryz.prog X_15 w_14 (ldA 142 2 x20_24) fun x21_25 =>
 un (Value.agg (Value.cells x21_25)) fun u_26 =>
 chk (List.length (Array.toList (Value.cells x21_25)) == 2) (chk (List.all (Array.toList (Value.cells x21_25)) one) ((chk (isA u_26) (un (subOf u_26 0 2) fun u_29 =>
 eC Tryz.prog R X_15 w_14 true 144 #[u_29, v_17] fun x24_30 w_31 X_32 =>
 rdV Tryz.prog X_32 w_31 (Op.unary UnOp.not x24_30) fun x25_33 =>
 (condW x25_33
 ((fin R X_32 w_31 (Value.tuple #[(.pointer none), (I 4)])))
 ((rdW Tryz.prog X_32 w_31 (nilN x15_3) fun x27_36 =>
 rdV Tryz.prog X_32 w_31 (fld 204 0 0 1 x27_36) fun x28_37 =>
 rdV Tryz.prog X_32 w_31 (ld1 201 x28_37) fun x29_38 =>
 chk (isA u_26) (un (cellOf u_26 1) fun u_39 =>
 eC Tryz.prog R X_32 w_31 false 145 #[u_39] fun x34_40 w_41 X_42 =>
 un (cellOf u_26 0) fun u_43 =>
 eU Tryz.prog R X_42 w_41 true (Instr.mapUpdate 201 x29_38 u_43 x34_40) fun _ w_44 X_45 =>
 (chk (isA u_26) (((rdV Tryz.prog X_45 w_44 (binOp .add 3 v_16 (I 1)) fun x37_46 =>
 nx2 J_11 n_12 x37_46 u_43 w_44 X_45))))))))))))))
 (((rdV Tryz.prog X_15 w_14 (lnS 47 3 p1) fun x39_49 =>
 (lp1 X_15 w_14 (I 0) 40 fun J_51 n_52 v_56 w_54 X_55 =>
 rdV Tryz.prog X_55 w_54 (binOp .lss 3 v_56 x39_49) fun x41_58 =>
 (condW x41_58
 ((rdV Tryz.prog X_55 w_54 (ixS 47 8 p1 v_56) fun x42_63 =>
 rdV Tryz.prog X_55 w_54 (ldA 87 8 x42_63) fun x43_64 =>
 un (Value.agg (Value.cells x43_64)) fun u_65 =>
 chk (List.length (Array.toList (Value.cells x43_64)) == 8) (chk (List.all (Array.toList (Value.cells x43_64)) one) ((chk (isA u_65) (un (subOf u_65 0 8) fun u_67 =>
 eC Tryz.prog R X_55 w_54 true 103 #[u_67] fun x45_68 w_69 X_70 =>
 (rdW Tryz.prog X_70 w_69 (nilN x15_3) fun x48_72 =>
 rdV Tryz.prog X_70 w_69 (fld 204 1 1 1 x48_72) fun x49_73 =>
 rdV Tryz.prog X_70 w_69 (ld1 202 x49_73) fun x50_74 =>
 chk (isA u_65) (un (subOf u_65 0 3) fun u_75 =>
 rdV Tryz.prog X_70 w_69 (Instr.lookup 202 x50_74 u_75 true) fun x53_76 =>
 rdV Tryz.prog X_70 w_69 (Instr.extract x53_76 0) fun x54_77 =>
 rdV Tryz.prog X_70 w_69 (Instr.extract x53_76 1) fun x55_78 =>
 un (Value.agg (Value.cells x54_77)) fun _ =>
 chk (List.length (Array.toList (Value.cells x54_77)) == 8) (chk (List.all (Array.toList (Value.cells x54_77)) one) ((rdV Tryz.prog X_70 w_69 (binS .neq 27 (.tmp 57) (.const (I 0)) x45_68 (I 0)) fun x58_83 =>
 (condW x58_83
 ((fin R X_70 w_69 (Value.tuple #[(.pointer none), x45_68])))
 ((condW x55_78
 ((fin R X_70 w_69 (Value.tuple #[(.pointer none), (I 9)])))
 (chk (isA u_65) (eC Tryz.prog R X_70 w_69 true 146 #[x15_3, u_67] fun x65_88 w_89 X_90 =>
 (condW x65_88
 ((fin R X_90 w_89 (Value.tuple #[(.pointer none), (I 18)])))
 (chk (isA u_65) (eC Tryz.prog R X_90 w_89 true 147 #[x15_3, u_67] fun x69_93 w_94 X_95 =>
 (condW x69_93
 ((fin R X_95 w_94 (Value.tuple #[(.pointer none), (I 20)])))
 (((rdW Tryz.prog X_95 w_94 (nilN x15_3) fun x71_97 =>
 rdV Tryz.prog X_95 w_94 (fld 204 1 1 1 x71_97) fun x72_98 =>
 rdV Tryz.prog X_95 w_94 (ld1 202 x72_98) fun x73_99 =>
 chk (isA u_65) (eC Tryz.prog R X_95 w_94 false 148 #[u_67] fun x77_100 w_101 X_102 =>
 eU Tryz.prog R X_102 w_101 true (Instr.mapUpdate 202 x73_99 u_75 x77_100) fun _ w_103 X_104 =>
 ((rdV Tryz.prog X_104 w_103 (binOp .add 3 v_56 (I 1)) fun x78_105 =>
 nx1 J_51 n_52 x78_105 w_103 X_104))))))))))))))))))))))))))
 ((((fin R X_55 w_54 (Value.tuple #[x15_3, (I 0)])))))))))))))))
theorem ok_mvcc_Load {R : Ending → World → Prop} {w0 : World} {p0 p1 : Value} (h : vc_mvcc_Load R w0 (old w0) p0 p1) : Calls Tryz.prog 126 #[p0, p1] w0 R :=
  calls_of_vc (pl := pl_mvcc_Load) Tryz.func126 (by kernel_rfl) (by kernel_rfl) h
noncomputable def pl_recs_StateMay_c1 : Plan := ⟨9, [], [], [0, 1, 3], [], []⟩
def vc_recs_StateMay_c1 (R : Ending → World → Prop) (w0 : World) (X0 : XS) (p0 : ByteArray) (c0 : Value) : Prop :=
 (rdV Tryz.prog X0 w0 (fld 49 0 0 4 c0) fun x4_3 =>
 rdV Tryz.prog X0 w0 (ldA 45 4 x4_3) fun x5_4 =>
 eC Tryz.prog R X0 w0 false 64 #[(.string p0)] fun x7_5 w_6 X_7 =>
 eC Tryz.prog R X_7 w_6 true 128 #[x5_4, x7_5] fun x8_8 w_9 X_10 =>
 (fin R X_10 w_9 x8_8))
theorem ok_recs_StateMay_c1 {R : Ending → World → Prop} {w0 : World} {p0 : ByteArray} {c0 : Value} (h : vc_recs_StateMay_c1 R w0 (old w0) p0 c0) : Calls Tryz.prog 127 #[(.string p0), c0] w0 R :=
  calls_of_vc (pl := pl_recs_StateMay_c1) Tryz.func127 (by kernel_rfl) (by kernel_rfl) h
noncomputable def pl_place_In : Plan := ⟨15, [(2, (Tryz.prog.cellsOf 45))], [6, 11], [0, 1, 4], [9, 10, 12, 13], []⟩
def vc_place_In (R : Ending → World → Prop) (w0 : World) (X0 : XS) (_p0_0 _p0_1 : Int) (p0_2 p0_3 p1 : Nat) : Prop :=
 (rdV Tryz.prog X0 w0 (binOp .geq 40 (.float .f64 p1) (.float .f64 p0_2)) fun x8_3 =>
 un (gSel x8_3 true (.float .f64 p1)) fun u_4 =>
 un (gSel x8_3 true (.float .f64 p0_3)) fun u_5 =>
 grdW Tryz.prog X0 w0 x8_3 true (vS (binOp .lss 40 u_4 u_5)) fun x13_6 =>
 rdW Tryz.prog X0 w0 (pickN x8_3 x13_6 (B false)) fun x14_7 =>
 (fin R X0 w0 x14_7))
theorem ok_place_In {R : Ending → World → Prop} {w0 : World} {p0_0 p0_1 : Int} {p0_2 p0_3 p1 : Nat} (h : vc_place_In R w0 (old w0) p0_0 p0_1 p0_2 p0_3 p1) : Calls Tryz.prog 128 #[(.agg #[(I p0_0), (I p0_1), (.float .f64 p0_2), (.float .f64 p0_3)]), (.float .f64 p1)] w0 R :=
  calls_of_vc (pl := pl_place_In) Tryz.func128 (by kernel_rfl) (by kernel_rfl) h
noncomputable def pl_mvcc_rise : Plan := ⟨32, [], [], [0, 2, 3, 4, 5, 6, 7, 8, 27], [15, 16, 17, 18, 19, 20, 21, 22, 23, 24, 25, 26], [7]⟩
def vc_mvcc_rise (R : Ending → World → Prop) (w0 : World) (X0 : XS) (p0 : Value) : Prop :=
 (rdV Tryz.prog X0 w0 (lnS 41 3 p0) fun x6_4 =>
 (lp1 X0 w0 (I 0) 7 fun J_6 n_7 v_11 w_9 X_10 =>
 rdV Tryz.prog X_10 w_9 (binOp .lss 3 v_11 x6_4) fun x8_13 =>
 (condW x8_13
 ((rdV Tryz.prog X_10 w_9 (ixS 41 1 p0 v_11) fun x10_18 =>
 rdV Tryz.prog X_10 w_9 (ld1 9 x10_18) fun x11_19 =>
 (eC Tryz.prog R X_10 w_9 true 134 #[x11_19] fun x13_21 w_22 X_23 =>
 rdV Tryz.prog X_23 w_22 (Op.unary UnOp.not x13_21) fun x14_24 =>
 un (gSel x14_24 false v_11) fun u_25 =>
 grdW Tryz.prog X_23 w_22 x14_24 false (vS (binOp .gtr 3 u_25 (I 0))) fun x17_26 =>
 un (gSel x14_24 false x17_26) fun u_27 =>
 un (gSel u_27 true p0) fun u_28 =>
 un (gSel u_27 true v_11) fun u_29 =>
 grdW Tryz.prog X_23 w_22 u_27 true (vS (binOp .sub 3 u_29 (I 1))) fun x21_30 =>
 grdW Tryz.prog X_23 w_22 u_27 true (vS (ixS 41 1 u_28 x21_30)) fun x22_31 =>
 grdW Tryz.prog X_23 w_22 u_27 true (vS (ld1 9 x22_31)) fun x23_32 =>
 un (gSel u_27 true x11_19) fun u_33 =>
 grdW Tryz.prog X_23 w_22 u_27 true (vS (binOp .geq 9 x23_32 u_33)) fun x25_34 =>
 grdW Tryz.prog X_23 w_22 x14_24 false (pickN u_27 x25_34 (B false)) fun x26_35 =>
 rdW Tryz.prog X_23 w_22 (pickN x14_24 (B true) x26_35) fun x27_36 =>
 (condW x27_36
 (fin R X_23 w_22 (B false))
 (((rdV Tryz.prog X_23 w_22 (binOp .add 3 v_11 (I 1)) fun x28_38 =>
 nx1 J_6 n_7 x28_38 w_22 X_23)))))))
 (((rdV Tryz.prog X_10 w_9 (lnS 41 3 p0) fun x30_40 =>
 rdV Tryz.prog X_10 w_9 (binOp .leq 3 x30_40 (I 16)) fun x31_41 =>
 (fin R X_10 w_9 x31_41)))))))
theorem ok_mvcc_rise {R : Ending → World → Prop} {w0 : World} {p0 : Value} (h : vc_mvcc_rise R w0 (old w0) p0) : Calls Tryz.prog 129 #[p0] w0 R :=
  calls_of_vc (pl := pl_mvcc_rise) Tryz.func129 (by kernel_rfl) (by kernel_rfl) h
noncomputable def pl_mvcc_writeKeys : Plan := ⟨19, [(5, (Tryz.prog.cellsOf 66))], [13], [0, 2, 3, 6, 7, 8, 9], [], [3, 8]⟩
def vc_mvcc_writeKeys (R : Ending → World → Prop) (w0 : World) (X0 : XS) (p0 : Value) : Prop :=
 ((rdV Tryz.prog X0 w0 (lnS 42 3 p0) fun x7_5 =>
 (lp2 X0 w0 (I 0) (.slice none 0 0) 8 3 fun J_7 n_8 v_12 v_13 w_10 X_11 =>
 rdV Tryz.prog X_11 w_10 (binOp .lss 3 v_12 x7_5) fun x9_15 =>
 (condW x9_15
 ((rdV Tryz.prog X_11 w_10 (ixS 42 4 p0 v_12) fun x10_20 =>
 rdV Tryz.prog X_11 w_10 (ldA 66 4 x10_20) fun x11_21 =>
 un (Value.agg (Value.cells x11_21)) fun u_22 =>
 chk (List.length (Array.toList (Value.cells x11_21)) == 4) (chk (List.all (Array.toList (Value.cells x11_21)) one) ((chk (isA u_22) (un (cellOf u_22 0) fun u_23 =>
 eV Tryz.prog R X_11 w_10 true (bsS 41 9 1 1 #[(0, u_23)]) fun x15_24 w_25 X_26 =>
 eV Tryz.prog R X_26 w_25 true (apS 41 9 1 16 41 v_13 x15_24) fun x16_27 w_28 X_29 =>
 ((rdV Tryz.prog X_29 w_28 (binOp .add 3 v_12 (I 1)) fun x17_30 =>
 nx2 J_7 n_8 x17_30 x16_27 w_28 X_29))))))))
 (fin R X_11 w_10 v_13)))))
theorem ok_mvcc_writeKeys {R : Ending → World → Prop} {w0 : World} {p0 : Value} (h : vc_mvcc_writeKeys R w0 (old w0) p0) : Calls Tryz.prog 130 #[p0] w0 R :=
  calls_of_vc (pl := pl_mvcc_writeKeys) Tryz.func130 (by kernel_rfl) (by kernel_rfl) h
noncomputable def pl_datum_May : Plan := ⟨41, [(1, (Tryz.prog.cellsOf 64))], [4, 8, 14, 20, 24, 27, 36], [0, 2, 3, 9, 10, 18, 32], [13, 15, 16, 23, 25, 26, 28, 29, 30, 35, 37, 38, 39], []⟩
def vc_datum_May (R : Ending → World → Prop) (w0 : World) (X0 : XS) (p0_0 : Int) (p0_1 : Nat) (p0_2 : ByteArray) : Prop :=
 (eC Tryz.prog R X0 w0 true 72 #[(.float .f64 p0_1)] fun x6_3 w_4 X_5 =>
 rdV Tryz.prog X_5 w_4 (binS .eql 129 (.tmp 6) (.const (Value.int IntKind.u64 0)) x6_3 (Value.int IntKind.u64 0)) fun x7_6 =>
 ((rdV Tryz.prog X_5 w_4 (binS .eql 3 (.tmp 9) (.const (I 0)) (I p0_0) (I 0)) fun x11_11 =>
 (condW x11_11
 (un (gSel x7_6 true (.string p0_2)) fun u_13 =>
 grdW Tryz.prog X_5 w_4 x7_6 true (vS (binS .eql 9 (.tmp 15) (.const (.string { data := #[] })) u_13 (.string { data := #[] }))) fun x16_14 =>
 rdW Tryz.prog X_5 w_4 (pickN x7_6 x16_14 (B false)) fun x17_15 =>
 (fin R X_5 w_4 x17_15))
 (rdV Tryz.prog X_5 w_4 (binS .eql 3 (.tmp 9) (.const (I 1)) (I p0_0) (I 1)) fun x19_17 =>
 (condW x19_17
 (rdV Tryz.prog X_5 w_4 (binS .eql 9 (.tmp 21) (.const (.string { data := #[] })) (.string p0_2) (.string { data := #[] })) fun x22_19 =>
 un (gSel x22_19 true (.float .f64 p0_1)) fun u_20 =>
 jn (fun (x26_21 : Value) (w_22 : World) (X_23 : XS) =>
 jn (fun (x29_25 : Value) (w_26 : World) (X_27 : XS) =>
 grdW Tryz.prog X_27 w_26 x22_19 true (vS (binS .eql 129 (.tmp 26) (.tmp 29) x26_21 x29_25)) fun x30_29 =>
 rdW Tryz.prog X_27 w_26 (pickN x22_19 x30_29 (B false)) fun x31_30 =>
 (fin R X_27 w_26 x31_30)) fun k_28 =>
 (gE x22_19 true (eC Tryz.prog R X_23 w_22 true 149 #[u_20] k_28) (k_28 undef w_22 X_23))) fun k_24 =>
 (gE x22_19 true (eC Tryz.prog R X_5 w_4 false 72 #[u_20] k_24) (k_24 undef w_4 X_5)))
 (rdV Tryz.prog X_5 w_4 (binS .eql 3 (.tmp 9) (.const (I 2)) (I p0_0) (I 2)) fun x33_32 =>
 (condW x33_32
 (un (gSel x7_6 true (.string p0_2)) fun u_34 =>
 grdW Tryz.prog X_5 w_4 x7_6 true (vS (lnT 9 3 u_34)) fun x38_35 =>
 grdW Tryz.prog X_5 w_4 x7_6 true (vS (binOp .leq 3 x38_35 (I 64))) fun x39_36 =>
 rdW Tryz.prog X_5 w_4 (pickN x7_6 x39_36 (B false)) fun x40_37 =>
 (fin R X_5 w_4 x40_37))
 (fin R X_5 w_4 (B false))))))))))
theorem ok_datum_May {R : Ending → World → Prop} {w0 : World} {p0_0 : Int} {p0_1 : Nat} {p0_2 : ByteArray} (h : vc_datum_May R w0 (old w0) p0_0 p0_1 p0_2) : Calls Tryz.prog 131 #[(.agg #[(I p0_0), (.float .f64 p0_1), (.string p0_2)])] w0 R :=
  calls_of_vc (pl := pl_datum_May) Tryz.func131 (by kernel_rfl) (by kernel_rfl) h
noncomputable def pl_num_Class : Plan := ⟨36, [], [], [0, 2, 3, 4, 5, 6, 14, 21, 24, 27, 32], [17, 18, 19], []⟩
def vc_num_Class (R : Ending → World → Prop) (w0 : World) (X0 : XS) (p0 : Nat) : Prop :=
 (eC Tryz.prog R X0 w0 true 149 #[(.float .f64 p0)] fun x8_3 w_4 X_5 =>
 (rdV Tryz.prog X_5 w_4 (binOp .shr 129 x8_3 (Value.int IntKind.u64 52)) fun x10_7 =>
 rdV Tryz.prog X_5 w_4 (binOp .and 129 x10_7 (Value.int IntKind.u64 2047)) fun x11_8 =>
 rdV Tryz.prog X_5 w_4 (binOp .and 129 x8_3 (Value.int IntKind.u64 4503599627370495)) fun x13_9 =>
 (((jn (fun (y6_25 : Value) =>
 (rdV Tryz.prog X_5 w_4 (binOp .and 129 x8_3 (Value.int IntKind.u64 9223372036854775808)) fun x31_29 =>
 rdV Tryz.prog X_5 w_4 (binS .neq 129 (.tmp 31) (.const (Value.int IntKind.u64 0)) x31_29 (Value.int IntKind.u64 0)) fun x32_30 =>
 (condW x32_30
 (rdV Tryz.prog X_5 w_4 (binOp .sub 3 (I 9) y6_25) fun x34_32 =>
 (fin R X_5 w_4 x34_32))
 (fin R X_5 w_4 y6_25)))) fun k_26 =>
 rdV Tryz.prog X_5 w_4 (binS .eql 129 (.tmp 15) (.const (Value.int IntKind.u64 2047)) x11_8 (Value.int IntKind.u64 2047)) fun x16_14 =>
 un (gSel x16_14 true x13_9) fun u_15 =>
 grdW Tryz.prog X_5 w_4 x16_14 true (vS (binS .neq 129 (.tmp 18) (.const (Value.int IntKind.u64 0)) u_15 (Value.int IntKind.u64 0))) fun x19_16 =>
 rdW Tryz.prog X_5 w_4 (pickN x16_14 x19_16 (B false)) fun x20_17 =>
 (condW x20_17
 (fin R X_5 w_4 (I 0))
 (rdV Tryz.prog X_5 w_4 (binS .eql 129 (.tmp 22) (.const (Value.int IntKind.u64 2047)) x11_8 (Value.int IntKind.u64 2047)) fun x23_20 =>
 (condW x23_20
 (k_26 (I 8))
 (rdV Tryz.prog X_5 w_4 (binOp .gtr 129 x11_8 (Value.int IntKind.u64 0)) fun x26_22 =>
 (condW x26_22
 (k_26 (I 7))
 (rdV Tryz.prog X_5 w_4 (binOp .gtr 129 x13_9 (Value.int IntKind.u64 0)) fun x29_24 =>
 (condW x29_24
 (k_26 (I 6))
 (k_26 (I 5))))))))))))))
theorem ok_num_Class {R : Ending → World → Prop} {w0 : World} {p0 : Nat} (h : vc_num_Class R w0 (old w0) p0) : Calls Tryz.prog 132 #[(.float .f64 p0)] w0 R :=
  calls_of_vc (pl := pl_num_Class) Tryz.func132 (by kernel_rfl) (by kernel_rfl) h
noncomputable def pl_place_point : Plan := ⟨10, [], [], [0, 2], [6, 7, 8], []⟩
def vc_place_point (R : Ending → World → Prop) (w0 : World) (X0 : XS) (p0 : Nat) : Prop :=
 (eC Tryz.prog R X0 w0 true 132 #[(.float .f64 p0)] fun x4_3 w_4 X_5 =>
 rdV Tryz.prog X_5 w_4 (binOp .geq 3 x4_3 (I 5)) fun x5_6 =>
 un (gSel x5_6 true (.float .f64 p0)) fun u_7 =>
 grdW Tryz.prog X_5 w_4 x5_6 true (vS (binOp .leq 40 u_7 (.float .f64 4607182418800017408))) fun x8_8 =>
 rdW Tryz.prog X_5 w_4 (pickN x5_6 x8_8 (B false)) fun x9_9 =>
 (fin R X_5 w_4 x9_9))
theorem ok_place_point {R : Ending → World → Prop} {w0 : World} {p0 : Nat} (h : vc_place_point R w0 (old w0) p0) : Calls Tryz.prog 133 #[(.float .f64 p0)] w0 R :=
  calls_of_vc (pl := pl_place_point) Tryz.func133 (by kernel_rfl) (by kernel_rfl) h
noncomputable def pl_datum_Key : Plan := ⟨11, [], [], [0, 2], [6, 7, 8, 9], []⟩
def vc_datum_Key (R : Ending → World → Prop) (w0 : World) (X0 : XS) (p0 : ByteArray) : Prop :=
 (rdV Tryz.prog X0 w0 (lnT 9 3 (.string p0)) fun x4_3 =>
 rdV Tryz.prog X0 w0 (binOp .geq 3 x4_3 (I 1)) fun x5_4 =>
 un (gSel x5_4 true (.string p0)) fun u_5 =>
 grdW Tryz.prog X0 w0 x5_4 true (vS (lnT 9 3 u_5)) fun x8_6 =>
 grdW Tryz.prog X0 w0 x5_4 true (vS (binOp .leq 3 x8_6 (I 24))) fun x9_7 =>
 rdW Tryz.prog X0 w0 (pickN x5_4 x9_7 (B false)) fun x10_8 =>
 (fin R X0 w0 x10_8))
theorem ok_datum_Key {R : Ending → World → Prop} {w0 : World} {p0 : ByteArray} (h : vc_datum_Key R w0 (old w0) p0) : Calls Tryz.prog 134 #[(.string p0)] w0 R :=
  calls_of_vc (pl := pl_datum_Key) Tryz.func134 (by kernel_rfl) (by kernel_rfl) h
noncomputable def pl_raceref4_May : Plan := ⟨33, [(1, (Tryz.prog.cellsOf 45))], [3, 7, 12, 17, 22, 27, 29], [0, 2], [6, 8, 9, 11, 13, 14, 16, 18, 19, 21, 23, 24, 26, 28, 30, 31], []⟩
def vc_raceref4_May (R : Ending → World → Prop) (w0 : World) (X0 : XS) (p0_0 p0_1 : Int) (p0_2 p0_3 : Nat) : Prop :=
 (rdV Tryz.prog X0 w0 (binOp .geq 3 (I p0_0) (I 1)) fun x5_3 =>
 un (gSel x5_3 true (I p0_0)) fun u_4 =>
 grdW Tryz.prog X0 w0 x5_3 true (vS (binOp .leq 3 u_4 (I 12))) fun x9_5 =>
 rdW Tryz.prog X0 w0 (pickN x5_3 x9_5 (B false)) fun x10_6 =>
 un (gSel x10_6 true (I p0_1)) fun u_7 =>
 grdW Tryz.prog X0 w0 x10_6 true (vS (binOp .geq 3 u_7 (I 0))) fun x14_8 =>
 rdW Tryz.prog X0 w0 (pickN x10_6 x14_8 (B false)) fun x15_9 =>
 un (gSel x15_9 true (.float .f64 p0_2)) fun u_10 =>
 jn (fun (x19_11 : Value) (w_12 : World) (X_13 : XS) =>
 rdW Tryz.prog X_13 w_12 (pickN x15_9 x19_11 (B false)) fun x20_15 =>
 un (gSel x20_15 true (.float .f64 p0_3)) fun u_16 =>
 jn (fun (x24_17 : Value) (w_18 : World) (X_19 : XS) =>
 rdW Tryz.prog X_19 w_18 (pickN x20_15 x24_17 (B false)) fun x25_21 =>
 un (gSel x25_21 true (.float .f64 p0_2)) fun u_22 =>
 un (gSel x25_21 true (.float .f64 p0_3)) fun u_23 =>
 grdW Tryz.prog X_19 w_18 x25_21 true (vS (binOp .lss 40 u_22 u_23)) fun x31_24 =>
 rdW Tryz.prog X_19 w_18 (pickN x25_21 x31_24 (B false)) fun x32_25 =>
 (fin R X_19 w_18 x32_25)) fun k_20 =>
 (gE x20_15 true (eC Tryz.prog R X_13 w_12 true 150 #[u_16] k_20) (k_20 undef w_12 X_13))) fun k_14 =>
 (gE x15_9 true (eC Tryz.prog R X0 w0 true 150 #[u_10] k_14) (k_14 undef w0 X0)))
theorem ok_raceref4_May {R : Ending → World → Prop} {w0 : World} {p0_0 p0_1 : Int} {p0_2 p0_3 : Nat} (h : vc_raceref4_May R w0 (old w0) p0_0 p0_1 p0_2 p0_3) : Calls Tryz.prog 135 #[(.agg #[(I p0_0), (I p0_1), (.float .f64 p0_2), (.float .f64 p0_3)])] w0 R :=
  calls_of_vc (pl := pl_raceref4_May) Tryz.func135 (by kernel_rfl) (by kernel_rfl) h
noncomputable def pl_raceref10_Load : Plan := ⟨138, [(8, (Tryz.prog.cellsOf 142)), (9, (Tryz.prog.cellsOf 34)), (11, (Tryz.prog.cellsOf 144))], [27, 35, 47, 54, 60, 65, 71, 77, 82], [0, 1, 4, 5, 6, 7, 10, 12, 13, 14, 20, 51, 57, 81, 92, 101, 110, 113, 124, 130], [31, 32, 33, 34, 36, 37, 38, 39, 40, 41, 42, 43, 44, 46, 48, 49, 50, 69, 70, 72, 73, 74, 76, 78, 79, 80], [7, 9, 10, 12, 14]⟩
def vc_raceref10_Load (R : Ending → World → Prop) (w0 : World) (X0 : XS) (p0 p1 : Value) : Prop :=
 (rdV Tryz.prog X0 w0 (bld 208 #[(.slice none 0 0), (.slice none 0 0), (I 0), (I 0), (I 0)] #[]) fun x15_3 =>
 eV Tryz.prog R X0 w0 true (Instr.box 208 x15_3) fun x16_4 w_5 X_6 =>
 ((lp3 X_6 w_5 (I 0) undef undef 7 10 9 fun J_10 n_11 v_15 _ _ w_13 X_14 =>
 rdV Tryz.prog X_14 w_13 (lnS 46 3 p0) fun x19_20 =>
 rdV Tryz.prog X_14 w_13 (binOp .lss 3 v_15 x19_20) fun x20_21 =>
 (condW x20_21
 ((rdV Tryz.prog X_14 w_13 (ixS 46 2 p0 v_15) fun x25_25 =>
 rdV Tryz.prog X_14 w_13 (ldA 142 2 x25_25) fun x26_26 =>
 un (Value.agg (Value.cells x26_26)) fun u_27 =>
 chk (List.length (Array.toList (Value.cells x26_26)) == 2) (chk (List.all (Array.toList (Value.cells x26_26)) one) ((chk (isA u_27) (un (cellOf u_27 0) fun u_30 =>
 eC Tryz.prog R X_14 w_13 true 140 #[u_30] fun x29_31 w_32 X_33 =>
 rdV Tryz.prog X_33 w_32 (Op.unary UnOp.not x29_31) fun x30_34 =>
 un (gSel x30_34 false v_15) fun u_35 =>
 grdW Tryz.prog X_33 w_32 x30_34 false (vS (binOp .gtr 3 u_35 (I 0))) fun x33_36 =>
 un (gSel x30_34 false x33_36) fun u_37 =>
 un (gSel u_37 true u_30) fun u_38 =>
 un (gSel u_37 true p0) fun u_39 =>
 un (gSel u_37 true v_15) fun u_40 =>
 grdW Tryz.prog X_33 w_32 u_37 true (vS (binOp .sub 3 u_40 (I 1))) fun x39_41 =>
 grdW Tryz.prog X_33 w_32 u_37 true (vS (ixS 46 2 u_39 x39_41)) fun x40_42 =>
 grdW Tryz.prog X_33 w_32 u_37 true (vS (fld 142 0 0 1 x40_42)) fun x41_43 =>
 grdW Tryz.prog X_33 w_32 u_37 true (vS (ld1 9 x41_43)) fun x42_44 =>
 grdW Tryz.prog X_33 w_32 u_37 true (vS (binOp .leq 9 u_38 x42_44)) fun x43_45 =>
 grdW Tryz.prog X_33 w_32 x30_34 false (pickN u_37 x43_45 (B false)) fun x44_46 =>
 rdW Tryz.prog X_33 w_32 (pickN x30_34 (B true) x44_46) fun x45_47 =>
 un (cellOf u_27 1) fun u_48 =>
 un (gSel x45_47 false u_48) fun u_49 =>
 grdW Tryz.prog X_33 w_32 x45_47 false (vS (lnS 140 3 u_49)) fun x49_50 =>
 grdW Tryz.prog X_33 w_32 x45_47 false (vS (binS .eql 3 (.tmp 49) (.const (I 0)) x49_50 (I 0))) fun x50_51 =>
 rdW Tryz.prog X_33 w_32 (pickN x45_47 (B true) x50_51) fun x51_52 =>
 (condW x51_52
 ((fin R X_33 w_32 (Value.tuple #[(.pointer none), (I 4)])))
 ((rdV Tryz.prog X_33 w_32 (bld 34 #[(I 0), (I 0), (I 0)] #[]) fun x52_55 =>
 un (Value.agg (Value.cells x52_55)) fun u_56 =>
 chk (List.length (Array.toList (Value.cells x52_55)) == 3) (chk (List.all (Array.toList (Value.cells x52_55)) one) (((lp2 X_33 w_32 (I 0) u_56 10 9 fun J_59 n_60 v_64 v_65 w_62 X_63 =>
 chk (isA u_27) (rdV Tryz.prog X_63 w_62 (lnS 140 3 u_48) fun x56_68 =>
 rdV Tryz.prog X_63 w_62 (binOp .lss 3 v_64 x56_68) fun x57_69 =>
 (condW x57_69
 ((chk (isA u_27) (rdV Tryz.prog X_63 w_62 (ixS 140 6 u_48 v_64) fun x63_73 =>
 rdV Tryz.prog X_63 w_62 (ldA 144 6 x63_73) fun x64_74 =>
 un (Value.agg (Value.cells x64_74)) fun u_75 =>
 chk (List.length (Array.toList (Value.cells x64_74)) == 6) (chk (List.all (Array.toList (Value.cells x64_74)) one) ((chk (isA u_75) (un (subOf u_75 0 3) fun u_78 =>
 eC Tryz.prog R X_63 w_62 true 90 #[u_78] fun x67_79 w_80 X_81 =>
 rdV Tryz.prog X_81 w_80 (Op.unary UnOp.not x67_79) fun x68_82 =>
 chk (isA v_65) (un (subOf v_65 0 3) fun u_83 =>
 un (gSel x68_82 false u_83) fun u_84 =>
 un (gSel x68_82 false u_78) fun u_85 =>
 jn (fun (x73_86 : Value) (w_87 : World) (X_88 : XS) =>
 grdW Tryz.prog X_88 w_87 x68_82 false (vS (Op.unary UnOp.not x73_86)) fun x74_90 =>
 rdW Tryz.prog X_88 w_87 (pickN x68_82 (B true) x74_90) fun x75_91 =>
 un (subOf u_75 3 3) fun u_92 =>
 un (gSel x75_91 false u_92) fun u_93 =>
 jn (fun (x79_94 : Value) (w_95 : World) (X_96 : XS) =>
 grdW Tryz.prog X_96 w_95 x75_91 false (vS (Op.unary UnOp.not x79_94)) fun x80_98 =>
 rdW Tryz.prog X_96 w_95 (pickN x75_91 (B true) x80_98) fun x81_99 =>
 (condW x81_99
 ((fin R X_96 w_95 (Value.tuple #[(.pointer none), (I 4)])))
 ((chk (isA u_75) (chk (isA v_65) (un (Value.agg (Value.cells u_78)) fun u_101 =>
 chk (List.length (Array.toList (Value.cells u_78)) == 3) (chk (List.all (Array.toList (Value.cells u_78)) one) (((rdV Tryz.prog X_96 w_95 (binOp .add 3 v_64 (I 1)) fun x59_102 =>
 nx2 J_59 n_60 x59_102 u_101 w_95 X_96)))))))))) fun k_97 =>
 (gE x75_91 false (eC Tryz.prog R X_88 w_87 true 141 #[u_93] k_97) (k_97 undef w_87 X_88))) fun k_89 =>
 (gE x68_82 false (eC Tryz.prog R X_81 w_80 true 67 #[u_84, u_85] k_89) (k_89 undef w_80 X_81))))))))))
 ((((rdV Tryz.prog X_63 w_62 (binOp .add 3 v_15 (I 1)) fun x22_103 =>
 nx3 J_10 n_11 x22_103 v_64 v_65 w_62 X_63)))))))))))))))))))
 (((eC Tryz.prog R X_14 w_13 true 56 #[p0] fun x86_105 w_106 X_107 =>
 rdW Tryz.prog X_107 w_106 (nilN x16_4) fun x87_108 =>
 rdV Tryz.prog X_107 w_106 (fld 208 0 0 1 x87_108) fun x88_109 =>
 eU Tryz.prog R X_107 w_106 true (st1 46 1 x88_109 x86_105) fun _ w_110 X_111 =>
 ((lp2 X_111 w_110 (I 0) undef 12 14 fun J_115 n_116 v_120 _ w_118 X_119 =>
 rdV Tryz.prog X_119 w_118 (lnS 47 3 p1) fun x91_124 =>
 rdV Tryz.prog X_119 w_118 (binOp .lss 3 v_120 x91_124) fun x92_125 =>
 (condW x92_125
 ((rdV Tryz.prog X_119 w_118 (ixS 47 8 p1 v_120) fun x97_129 =>
 rdV Tryz.prog X_119 w_118 (ldA 87 8 x97_129) fun x98_130 =>
 eC Tryz.prog R X_119 w_118 true 114 #[x98_130] fun x99_131 w_132 X_133 =>
 (rdV Tryz.prog X_133 w_132 (binS .neq 27 (.tmp 100) (.const (I 0)) x99_131 (I 0)) fun x101_136 =>
 (condW x101_136
 ((fin R X_133 w_132 (Value.tuple #[(.pointer none), x99_131])))
 ((rdV Tryz.prog X_133 w_132 (ixS 47 8 p1 v_120) fun x106_140 =>
 rdV Tryz.prog X_133 w_132 (fld 87 0 0 3 x106_140) fun x107_141 =>
 rdV Tryz.prog X_133 w_132 (ldA 39 3 x107_141) fun x108_142 =>
 eC Tryz.prog R X_133 w_132 true 151 #[x16_4, x108_142] fun x109_143 w_144 X_145 =>
 rdV Tryz.prog X_145 w_144 (binOp .geq 3 x109_143 (I 0)) fun x110_146 =>
 (condW x110_146
 ((fin R X_145 w_144 (Value.tuple #[(.pointer none), (I 9)])))
 (((lp1 X_145 w_144 (I 0) 14 fun J_151 n_152 v_156 w_154 X_155 =>
 rdV Tryz.prog X_155 w_154 (binOp .lss 3 v_156 v_120) fun x113_159 =>
 (condW x113_159
 ((rdV Tryz.prog X_155 w_154 (ixS 47 8 p1 v_120) fun x118_163 =>
 rdV Tryz.prog X_155 w_154 (ldA 87 8 x118_163) fun x119_164 =>
 rdV Tryz.prog X_155 w_154 (ixS 47 8 p1 v_156) fun x122_165 =>
 rdV Tryz.prog X_155 w_154 (ldA 87 8 x122_165) fun x123_166 =>
 eC Tryz.prog R X_155 w_154 true 152 #[x119_164, x123_166] fun x124_167 w_168 X_169 =>
 (condW x124_167
 ((fin R X_169 w_168 (Value.tuple #[(.pointer none), (I 18)])))
 (((rdV Tryz.prog X_169 w_168 (binOp .add 3 v_156 (I 1)) fun x115_171 =>
 nx1 J_151 n_152 x115_171 w_168 X_169))))))
 (((rdV Tryz.prog X_155 w_154 (ixS 47 8 p1 v_120) fun x128_174 =>
 rdV Tryz.prog X_155 w_154 (ldA 87 8 x128_174) fun x129_175 =>
 eC Tryz.prog R X_155 w_154 true 153 #[x16_4, x129_175] fun x130_176 w_177 X_178 =>
 (condW x130_176
 ((fin R X_178 w_177 (Value.tuple #[(.pointer none), (I 20)])))
 ((rdV Tryz.prog X_178 w_177 (ixS 47 8 p1 v_120) fun x134_180 =>
 rdV Tryz.prog X_178 w_177 (ldA 87 8 x134_180) fun x135_181 =>
 eC Tryz.prog R X_178 w_177 true 154 #[x16_4, x135_181] fun _ w_183 X_184 =>
 ((rdV Tryz.prog X_184 w_183 (binOp .add 3 v_120 (I 1)) fun x94_185 =>
 nx2 J_115 n_116 x94_185 v_156 w_183 X_184)))))))))))))))))))
 ((((fin R X_119 w_118 (Value.tuple #[x16_4, (I 0)])))))))))))))))
theorem ok_raceref10_Load {R : Ending → World → Prop} {w0 : World} {p0 p1 : Value} (h : vc_raceref10_Load R w0 (old w0) p0 p1) : Calls Tryz.prog 136 #[p0, p1] w0 R :=
  calls_of_vc (pl := pl_raceref10_Load) Tryz.func136 (by kernel_rfl) (by kernel_rfl) h
noncomputable def pl_raceref11_in : Plan := ⟨9, [(2, (Tryz.prog.cellsOf 45))], [], [0, 1, 4], [], []⟩
def vc_raceref11_in (R : Ending → World → Prop) (w0 : World) (X0 : XS) (p0_0 p0_1 : Int) (p0_2 p0_3 : Nat) (p1 : ByteArray) : Prop :=
 (eC Tryz.prog R X0 w0 false 89 #[(.string p1)] fun x7_3 w_4 X_5 =>
 eC Tryz.prog R X_5 w_4 true 155 #[(.agg #[(I p0_0), (I p0_1), (.float .f64 p0_2), (.float .f64 p0_3)]), x7_3] fun x8_6 w_7 X_8 =>
 (fin R X_8 w_7 x8_6))
theorem ok_raceref11_in {R : Ending → World → Prop} {w0 : World} {p0_0 p0_1 : Int} {p0_2 p0_3 : Nat} {p1 : ByteArray} (h : vc_raceref11_in R w0 (old w0) p0_0 p0_1 p0_2 p0_3 p1) : Calls Tryz.prog 137 #[(.agg #[(I p0_0), (I p0_1), (.float .f64 p0_2), (.float .f64 p0_3)]), (.string p1)] w0 R :=
  calls_of_vc (pl := pl_raceref11_in) Tryz.func137 (by kernel_rfl) (by kernel_rfl) h
noncomputable def pl_raceref10_Keys : Plan := ⟨38, [], [], [0, 1, 4, 5, 9, 13, 37], [22, 23, 24, 25, 26, 27, 28, 29, 30, 31, 32, 33, 34, 35, 36], [5]⟩
def vc_raceref10_Keys (R : Ending → World → Prop) (w0 : World) (X0 : XS) (p0 : Value) (p1 : Int) : Prop :=
 (rdV Tryz.prog X0 w0 (lnS 41 3 p0) fun x7_4 =>
 rdV Tryz.prog X0 w0 (binOp .gtr 3 x7_4 (I p1)) fun x9_5 =>
 (condW x9_5
 (fin R X0 w0 (B false))
 (((lp1 X0 w0 (I 0) 5 fun J_10 n_11 v_15 w_13 X_14 =>
 rdV Tryz.prog X_14 w_13 (lnS 41 3 p0) fun x12_18 =>
 rdV Tryz.prog X_14 w_13 (binOp .lss 3 v_15 x12_18) fun x13_19 =>
 (condW x13_19
 ((rdV Tryz.prog X_14 w_13 (ixS 41 1 p0 v_15) fun x18_23 =>
 rdV Tryz.prog X_14 w_13 (ld1 9 x18_23) fun x19_24 =>
 eC Tryz.prog R X_14 w_13 true 140 #[x19_24] fun x20_25 w_26 X_27 =>
 rdV Tryz.prog X_27 w_26 (Op.unary UnOp.not x20_25) fun x21_28 =>
 un (gSel x21_28 false v_15) fun u_29 =>
 grdW Tryz.prog X_27 w_26 x21_28 false (vS (binOp .gtr 3 u_29 (I 0))) fun x24_30 =>
 un (gSel x21_28 false x24_30) fun u_31 =>
 un (gSel u_31 true p0) fun u_32 =>
 un (gSel u_31 true v_15) fun u_33 =>
 grdW Tryz.prog X_27 w_26 u_31 true (vS (ixS 41 1 u_32 u_33)) fun x28_34 =>
 grdW Tryz.prog X_27 w_26 u_31 true (vS (ld1 9 x28_34)) fun x29_35 =>
 grdW Tryz.prog X_27 w_26 u_31 true (vS (binOp .sub 3 u_33 (I 1))) fun x32_36 =>
 grdW Tryz.prog X_27 w_26 u_31 true (vS (ixS 41 1 u_32 x32_36)) fun x33_37 =>
 grdW Tryz.prog X_27 w_26 u_31 true (vS (ld1 9 x33_37)) fun x34_38 =>
 grdW Tryz.prog X_27 w_26 u_31 true (vS (binOp .leq 9 x29_35 x34_38)) fun x35_39 =>
 grdW Tryz.prog X_27 w_26 x21_28 false (pickN u_31 x35_39 (B false)) fun x36_40 =>
 rdW Tryz.prog X_27 w_26 (pickN x21_28 (B true) x36_40) fun x37_41 =>
 (condW x37_41
 (fin R X_27 w_26 (B false))
 (((rdV Tryz.prog X_27 w_26 (binOp .add 3 v_15 (I 1)) fun x15_43 =>
 nx1 J_10 n_11 x15_43 w_26 X_27))))))
 (fin R X_14 w_13 (B true))))))))
theorem ok_raceref10_Keys {R : Ending → World → Prop} {w0 : World} {p0 : Value} {p1 : Int} (h : vc_raceref10_Keys R w0 (old w0) p0 p1) : Calls Tryz.prog 138 #[p0, (I p1)] w0 R :=
  calls_of_vc (pl := pl_raceref10_Keys) Tryz.func138 (by kernel_rfl) (by kernel_rfl) h
noncomputable def pl_raceref10_Writes : Plan := ⟨50, [], [], [0, 1, 4, 5, 9, 13, 49], [23, 24, 25, 26, 27, 28, 29, 30, 31, 32, 33, 34, 35, 36, 37, 38, 39, 41, 42, 43, 44, 45, 46, 47, 48], [5]⟩
def vc_raceref10_Writes (R : Ending → World → Prop) (w0 : World) (X0 : XS) (p0 : Value) (p1 : Int) : Prop :=
 (rdV Tryz.prog X0 w0 (lnS 42 3 p0) fun x7_4 =>
 rdV Tryz.prog X0 w0 (binOp .gtr 3 x7_4 (I p1)) fun x9_5 =>
 (condW x9_5
 (fin R X0 w0 (B false))
 (((lp1 X0 w0 (I 0) 5 fun J_10 n_11 v_15 w_13 X_14 =>
 rdV Tryz.prog X_14 w_13 (lnS 42 3 p0) fun x12_18 =>
 rdV Tryz.prog X_14 w_13 (binOp .lss 3 v_15 x12_18) fun x13_19 =>
 (condW x13_19
 ((rdV Tryz.prog X_14 w_13 (ixS 42 4 p0 v_15) fun x18_23 =>
 rdV Tryz.prog X_14 w_13 (fld 66 0 0 1 x18_23) fun x19_24 =>
 rdV Tryz.prog X_14 w_13 (ld1 9 x19_24) fun x20_25 =>
 eC Tryz.prog R X_14 w_13 true 140 #[x20_25] fun x21_26 w_27 X_28 =>
 rdV Tryz.prog X_28 w_27 (Op.unary UnOp.not x21_26) fun x22_29 =>
 un (gSel x22_29 false v_15) fun u_30 =>
 grdW Tryz.prog X_28 w_27 x22_29 false (vS (binOp .gtr 3 u_30 (I 0))) fun x25_31 =>
 un (gSel x22_29 false x25_31) fun u_32 =>
 un (gSel u_32 true p0) fun u_33 =>
 un (gSel u_32 true v_15) fun u_34 =>
 grdW Tryz.prog X_28 w_27 u_32 true (vS (ixS 42 4 u_33 u_34)) fun x29_35 =>
 grdW Tryz.prog X_28 w_27 u_32 true (vS (fld 66 0 0 1 x29_35)) fun x30_36 =>
 grdW Tryz.prog X_28 w_27 u_32 true (vS (ld1 9 x30_36)) fun x31_37 =>
 grdW Tryz.prog X_28 w_27 u_32 true (vS (binOp .sub 3 u_34 (I 1))) fun x34_38 =>
 grdW Tryz.prog X_28 w_27 u_32 true (vS (ixS 42 4 u_33 x34_38)) fun x35_39 =>
 grdW Tryz.prog X_28 w_27 u_32 true (vS (fld 66 0 0 1 x35_39)) fun x36_40 =>
 grdW Tryz.prog X_28 w_27 u_32 true (vS (ld1 9 x36_40)) fun x37_41 =>
 grdW Tryz.prog X_28 w_27 u_32 true (vS (binOp .leq 9 x31_37 x37_41)) fun x38_42 =>
 grdW Tryz.prog X_28 w_27 x22_29 false (pickN u_32 x38_42 (B false)) fun x39_43 =>
 rdW Tryz.prog X_28 w_27 (pickN x22_29 (B true) x39_43) fun x40_44 =>
 un (gSel x40_44 false p0) fun u_45 =>
 un (gSel x40_44 false v_15) fun u_46 =>
 grdW Tryz.prog X_28 w_27 x40_44 false (vS (ixS 42 4 u_45 u_46)) fun x44_47 =>
 grdW Tryz.prog X_28 w_27 x40_44 false (vS (fld 66 1 1 3 x44_47)) fun x45_48 =>
 grdW Tryz.prog X_28 w_27 x40_44 false (vS (ldA 64 3 x45_48)) fun x46_49 =>
 jn (fun (x47_50 : Value) (w_51 : World) (X_52 : XS) =>
 grdW Tryz.prog X_52 w_51 x40_44 false (vS (Op.unary UnOp.not x47_50)) fun x48_54 =>
 rdW Tryz.prog X_52 w_51 (pickN x40_44 (B true) x48_54) fun x49_55 =>
 (condW x49_55
 (fin R X_52 w_51 (B false))
 (((rdV Tryz.prog X_52 w_51 (binOp .add 3 v_15 (I 1)) fun x15_57 =>
 nx1 J_10 n_11 x15_57 w_51 X_52))))) fun k_53 =>
 (gE x40_44 false (eC Tryz.prog R X_28 w_27 true 141 #[x46_49] k_53) (k_53 undef w_27 X_28))))
 (fin R X_14 w_13 (B true))))))))
theorem ok_raceref10_Writes {R : Ending → World → Prop} {w0 : World} {p0 : Value} {p1 : Int} (h : vc_raceref10_Writes R w0 (old w0) p0 p1) : Calls Tryz.prog 139 #[p0, (I p1)] w0 R :=
  calls_of_vc (pl := pl_raceref10_Writes) Tryz.func139 (by kernel_rfl) (by kernel_rfl) h
noncomputable def pl_raceref3_Key : Plan := ⟨11, [], [], [0, 2], [6, 7, 8, 9], []⟩
def vc_raceref3_Key (R : Ending → World → Prop) (w0 : World) (X0 : XS) (p0 : ByteArray) : Prop :=
 (rdV Tryz.prog X0 w0 (lnT 9 3 (.string p0)) fun x4_3 =>
 rdV Tryz.prog X0 w0 (binOp .geq 3 x4_3 (I 1)) fun x5_4 =>
 un (gSel x5_4 true (.string p0)) fun u_5 =>
 grdW Tryz.prog X0 w0 x5_4 true (vS (lnT 9 3 u_5)) fun x8_6 =>
 grdW Tryz.prog X0 w0 x5_4 true (vS (binOp .leq 3 x8_6 (I 24))) fun x9_7 =>
 rdW Tryz.prog X0 w0 (pickN x5_4 x9_7 (B false)) fun x10_8 =>
 (fin R X0 w0 x10_8))
theorem ok_raceref3_Key {R : Ending → World → Prop} {w0 : World} {p0 : ByteArray} (h : vc_raceref3_Key R w0 (old w0) p0) : Calls Tryz.prog 140 #[(.string p0)] w0 R :=
  calls_of_vc (pl := pl_raceref3_Key) Tryz.func140 (by kernel_rfl) (by kernel_rfl) h
noncomputable def pl_raceref3_May : Plan := ⟨39, [(1, (Tryz.prog.cellsOf 64))], [3, 7, 11, 17, 19, 24, 30, 34], [0, 2, 4, 5, 15, 28], [10, 12, 13, 23, 25, 26, 33, 35, 36, 37], []⟩
def vc_raceref3_May (R : Ending → World → Prop) (w0 : World) (X0 : XS) (p0_0 : Int) (p0_1 : Nat) (p0_2 : ByteArray) : Prop :=
 ((rdV Tryz.prog X0 w0 (binS .eql 3 (.tmp 4) (.const (I 0)) (I p0_0) (I 0)) fun x6_6 =>
 (condW x6_6
 (eC Tryz.prog R X0 w0 true 37 #[(.float .f64 p0_1), (.float .f64 0)] fun x9_8 w_9 X_10 =>
 un (gSel x9_8 true (.string p0_2)) fun u_11 =>
 grdW Tryz.prog X_10 w_9 x9_8 true (vS (binS .eql 9 (.tmp 12) (.const (.string { data := #[] })) u_11 (.string { data := #[] }))) fun x13_12 =>
 rdW Tryz.prog X_10 w_9 (pickN x9_8 x13_12 (B false)) fun x14_13 =>
 (fin R X_10 w_9 x14_13))
 (rdV Tryz.prog X0 w0 (binS .eql 3 (.tmp 4) (.const (I 1)) (I p0_0) (I 1)) fun x16_15 =>
 (condW x16_15
 (eC Tryz.prog R X0 w0 false 156 #[(.float .f64 p0_1)] fun x21_17 w_18 X_19 =>
 eC Tryz.prog R X_19 w_18 true 37 #[(.float .f64 p0_1), x21_17] fun x22_20 w_21 X_22 =>
 un (gSel x22_20 true (.string p0_2)) fun u_23 =>
 grdW Tryz.prog X_22 w_21 x22_20 true (vS (binS .eql 9 (.tmp 25) (.const (.string { data := #[] })) u_23 (.string { data := #[] }))) fun x26_24 =>
 rdW Tryz.prog X_22 w_21 (pickN x22_20 x26_24 (B false)) fun x27_25 =>
 (fin R X_22 w_21 x27_25))
 (rdV Tryz.prog X0 w0 (binS .eql 3 (.tmp 4) (.const (I 2)) (I p0_0) (I 2)) fun x29_27 =>
 (condW x29_27
 (eC Tryz.prog R X0 w0 true 37 #[(.float .f64 p0_1), (.float .f64 0)] fun x32_29 w_30 X_31 =>
 un (gSel x32_29 true (.string p0_2)) fun u_32 =>
 grdW Tryz.prog X_31 w_30 x32_29 true (vS (lnT 9 3 u_32)) fun x36_33 =>
 grdW Tryz.prog X_31 w_30 x32_29 true (vS (binOp .leq 3 x36_33 (I 64))) fun x37_34 =>
 rdW Tryz.prog X_31 w_30 (pickN x32_29 x37_34 (B false)) fun x38_35 =>
 (fin R X_31 w_30 x38_35))
 (fin R X0 w0 (B false)))))))))
theorem ok_raceref3_May {R : Ending → World → Prop} {w0 : World} {p0_0 : Int} {p0_1 : Nat} {p0_2 : ByteArray} (h : vc_raceref3_May R w0 (old w0) p0_0 p0_1 p0_2) : Calls Tryz.prog 141 #[(.agg #[(I p0_0), (.float .f64 p0_1), (.string p0_2)])] w0 R :=
  calls_of_vc (pl := pl_raceref3_May) Tryz.func141 (by kernel_rfl) (by kernel_rfl) h
noncomputable def pl_mvcc_New : Plan := ⟨5, [], [], [0], [], []⟩
def vc_mvcc_New (R : Ending → World → Prop) (w0 : World) (X0 : XS) : Prop :=
 (eV Tryz.prog R X0 w0 true (Instr.makeMap 201 none) fun x1_3 w_4 X_5 =>
 eV Tryz.prog R X_5 w_4 true (Instr.makeMap 202 none) fun x2_6 w_7 X_8 =>
 rdV Tryz.prog X_8 w_7 (bld 204 #[x1_3, x2_6, (I 0), (I 0), (I 0)] #[(0, x1_3), (1, x2_6)]) fun x3_9 =>
 eV Tryz.prog R X_8 w_7 true (Instr.box 204 x3_9) fun x4_10 w_11 X_12 =>
 (fin R X_12 w_11 x4_10))
theorem ok_mvcc_New {R : Ending → World → Prop} {w0 : World} (h : vc_mvcc_New R w0 (old w0)) : Calls Tryz.prog 143 #[] w0 R :=
  calls_of_vc (pl := pl_mvcc_New) Tryz.func143 (by kernel_rfl) (by kernel_rfl) h
noncomputable def pl_mvcc_history : Plan := ⟨52, [(2, (Tryz.prog.cellsOf 142)), (5, (Tryz.prog.cellsOf 34)), (7, (Tryz.prog.cellsOf 144))], [8, 13, 19, 25, 32, 37, 44, 49], [0, 1, 4, 23, 26, 27, 28, 29, 48], [12, 14, 15, 16, 18, 20, 21, 22, 36, 38, 39, 40, 41, 43, 45, 46, 47], [5, 28]⟩
def vc_mvcc_history (R : Ending → World → Prop) (w0 : World) (X0 : XS) (p0_0 : ByteArray) (p0_1 : Value) (p1 : ByteArray) : Prop :=
 (eC Tryz.prog R X0 w0 true 134 #[(.string p0_0)] fun x10_4 w_5 X_6 =>
 rdV Tryz.prog X_6 w_5 (Op.unary UnOp.not x10_4) fun x11_7 =>
 un (gSel x11_7 false (.string p0_0)) fun u_8 =>
 un (gSel x11_7 false (.string p1)) fun u_9 =>
 grdW Tryz.prog X_6 w_5 x11_7 false (vS (binOp .leq 9 u_8 u_9)) fun x16_10 =>
 rdW Tryz.prog X_6 w_5 (pickN x11_7 (B true) x16_10) fun x17_11 =>
 un (gSel x17_11 false p0_1) fun u_12 =>
 grdW Tryz.prog X_6 w_5 x17_11 false (vS (lnS 140 3 u_12)) fun x21_13 =>
 grdW Tryz.prog X_6 w_5 x17_11 false (vS (binS .eql 3 (.tmp 21) (.const (I 0)) x21_13 (I 0))) fun x22_14 =>
 rdW Tryz.prog X_6 w_5 (pickN x17_11 (B true) x22_14) fun x23_15 =>
 (condW x23_15
 (fin R X_6 w_5 (B false))
 ((rdV Tryz.prog X_6 w_5 (bld 34 #[(I 0), (I 0), (I 0)] #[]) fun x24_18 =>
 un (Value.agg (Value.cells x24_18)) fun u_19 =>
 chk (List.length (Array.toList (Value.cells x24_18)) == 3) (chk (List.all (Array.toList (Value.cells x24_18)) one) ((rdV Tryz.prog X_6 w_5 (lnS 140 3 p0_1) fun x27_22 =>
 (lp2 X_6 w_5 (I 0) u_19 28 5 fun J_24 n_25 v_29 v_30 w_27 X_28 =>
 rdV Tryz.prog X_28 w_27 (binOp .lss 3 v_29 x27_22) fun x29_32 =>
 (condW x29_32
 ((rdV Tryz.prog X_28 w_27 (ixS 140 6 p0_1 v_29) fun x30_37 =>
 rdV Tryz.prog X_28 w_27 (ldA 144 6 x30_37) fun x31_38 =>
 un (Value.agg (Value.cells x31_38)) fun u_39 =>
 chk (List.length (Array.toList (Value.cells x31_38)) == 6) (chk (List.all (Array.toList (Value.cells x31_38)) one) ((chk (isA u_39) (un (subOf u_39 0 3) fun u_42 =>
 eC Tryz.prog R X_28 w_27 true 78 #[u_42] fun x34_43 w_44 X_45 =>
 rdV Tryz.prog X_45 w_44 (Op.unary UnOp.not x34_43) fun x35_46 =>
 un (gSel x35_46 false u_42) fun u_47 =>
 chk (isA v_30) (un (subOf v_30 0 3) fun u_48 =>
 un (gSel x35_46 false u_48) fun u_49 =>
 jn (fun (x40_50 : Value) (w_51 : World) (X_52 : XS) =>
 grdW Tryz.prog X_52 w_51 x35_46 false (vS (binOp .leq 3 x40_50 (I 0))) fun x41_54 =>
 rdW Tryz.prog X_52 w_51 (pickN x35_46 (B true) x41_54) fun x42_55 =>
 un (subOf u_39 3 3) fun u_56 =>
 un (gSel x42_55 false u_56) fun u_57 =>
 jn (fun (x46_58 : Value) (w_59 : World) (X_60 : XS) =>
 grdW Tryz.prog X_60 w_59 x42_55 false (vS (Op.unary UnOp.not x46_58)) fun x47_62 =>
 rdW Tryz.prog X_60 w_59 (pickN x42_55 (B true) x47_62) fun x48_63 =>
 (condW x48_63
 (fin R X_60 w_59 (B false))
 ((chk (isA u_39) (chk (isA v_30) (un (Value.agg (Value.cells u_42)) fun u_65 =>
 chk (List.length (Array.toList (Value.cells u_42)) == 3) (chk (List.all (Array.toList (Value.cells u_42)) one) (((rdV Tryz.prog X_60 w_59 (binOp .add 3 v_29 (I 1)) fun x51_66 =>
 nx2 J_24 n_25 x51_66 u_65 w_59 X_60)))))))))) fun k_61 =>
 (gE x42_55 false (eC Tryz.prog R X_52 w_51 true 131 #[u_57] k_61) (k_61 undef w_51 X_52))) fun k_53 =>
 (gE x35_46 false (eC Tryz.prog R X_45 w_44 true 50 #[u_47, u_49] k_53) (k_53 undef w_44 X_45)))))))))
 (fin R X_28 w_27 (B true)))))))))))
theorem ok_mvcc_history {R : Ending → World → Prop} {w0 : World} {p0_0 : ByteArray} {p0_1 : Value} {p1 : ByteArray} (h : vc_mvcc_history R w0 (old w0) p0_0 p0_1 p1) : Calls Tryz.prog 144 #[(.agg #[(.string p0_0), p0_1]), (.string p1)] w0 R :=
  calls_of_vc (pl := pl_mvcc_history) Tryz.func144 (by kernel_rfl) (by kernel_rfl) h
noncomputable def pl_slices_Clone_sl_api_Version_api_Version : Plan := ⟨8, [], [], [0, 2, 4], [], []⟩
def vc_slices_Clone_sl_api_Version_api_Version (R : Ending → World → Prop) (w0 : World) (X0 : XS) (p0 : Value) : Prop :=
 (rdV Tryz.prog X0 w0 (binS .eql 140 (.tmp 3) (.const (.slice none 0 0)) p0 (.slice none 0 0)) fun x4_4 =>
 (condW x4_4
 (fin R X0 w0 (.slice none 0 0))
 (eV Tryz.prog R X0 w0 true (bsS 140 144 6 0 #[]) fun x5_7 w_8 X_9 =>
 eV Tryz.prog R X_9 w_8 true (apS 140 144 6 56 140 x5_7 p0) fun x7_10 w_11 X_12 =>
 (fin R X_12 w_11 x7_10))))
theorem ok_slices_Clone_sl_api_Version_api_Version {R : Ending → World → Prop} {w0 : World} {p0 : Value} (h : vc_slices_Clone_sl_api_Version_api_Version R w0 (old w0) p0) : Calls Tryz.prog 145 #[p0] w0 R :=
  calls_of_vc (pl := pl_slices_Clone_sl_api_Version_api_Version) Tryz.func145 (by kernel_rfl) (by kernel_rfl) h
noncomputable def pl_mvcc_Store_locked : Plan := ⟨50, [(3, (Tryz.prog.cellsOf 87)), (6, (Tryz.prog.cellsOf 87)), (8, (Tryz.prog.cellsOf 66))], [20, 28, 32, 34, 39], [0, 1, 4, 10, 15, 17, 21, 22, 23, 24, 37, 40, 41, 42, 43, 48], [31, 33, 35, 36], [23, 42]⟩
def vc_mvcc_Store_locked (R : Ending → World → Prop) (w0 : World) (X0 : XS) (p0 : Value) (_p1_0 _p1_1 _p1_2 _p1_3 _p1_4 _p1_5 : Int) (p1_6 p1_7 : Value) : Prop :=
 (rdW Tryz.prog X0 w0 (nilN p0) fun x12_4 =>
 rdV Tryz.prog X0 w0 (fld 204 1 1 1 x12_4) fun x13_5 =>
 rdV Tryz.prog X0 w0 (ld1 202 x13_5) fun x14_6 =>
 eV Tryz.prog R X0 w0 true (Instr.range 202 x14_6) fun x15_7 w_8 X_9 =>
 (lp2 X_9 w_8 undef undef 42 23 fun J_11 n_12 _ _ w_14 X_15 =>
 eV Tryz.prog R X_15 w_14 true (Instr.next x15_7 false 0) fun x16_19 w_20 X_21 =>
 rdV Tryz.prog X_21 w_20 (Instr.extract x16_19 0) fun x17_22 =>
 (condW x17_22
 ((eV Tryz.prog R X_21 w_20 true (Instr.entry x15_7) fun x18_26 w_27 X_28 =>
 rdV Tryz.prog X_28 w_27 (Instr.extract x18_26 1) fun x19_29 =>
 un (Value.agg (Value.cells x19_29)) fun u_30 =>
 chk (List.length (Array.toList (Value.cells x19_29)) == 8) (chk (List.all (Array.toList (Value.cells x19_29)) one) ((rdV Tryz.prog X_28 w_27 (lnS 42 3 p1_7) fun x22_33 =>
 (lp1 X_28 w_27 (I 0) 23 fun J_35 n_36 v_40 w_38 X_39 =>
 rdV Tryz.prog X_39 w_38 (binOp .lss 3 v_40 x22_33) fun x24_42 =>
 (condW x24_42
 ((rdV Tryz.prog X_39 w_38 (ixS 42 4 p1_7 v_40) fun x25_47 =>
 rdV Tryz.prog X_39 w_38 (ldA 66 4 x25_47) fun x26_48 =>
 un (Value.agg (Value.cells x26_48)) fun u_49 =>
 chk (List.length (Array.toList (Value.cells x26_48)) == 4) (chk (List.all (Array.toList (Value.cells x26_48)) one) ((chk (isA u_30) (chk (isA u_49) (un (subOf u_30 0 8) fun u_51 =>
 un (cellOf u_49 0) fun u_52 =>
 eC Tryz.prog R X_39 w_38 true 157 #[u_51, u_52] fun x30_53 w_54 X_55 =>
 un (cellOf u_30 6) fun u_56 =>
 un (gSel x30_53 false u_56) fun u_57 =>
 un (gSel x30_53 false u_52) fun u_58 =>
 jn (fun (x36_59 : Value) (w_60 : World) (X_61 : XS) =>
 rdW Tryz.prog X_61 w_60 (pickN x30_53 (B true) x36_59) fun x37_63 =>
 (condW x37_63
 (fin R X_61 w_60 (B true))
 (((rdV Tryz.prog X_61 w_60 (binOp .add 3 v_40 (I 1)) fun x38_65 =>
 nx1 J_35 n_36 x38_65 w_60 X_61))))) fun k_62 =>
 (gE x30_53 false (eC Tryz.prog R X_55 w_54 true 158 #[u_57, u_58] k_62) (k_62 undef w_54 X_55)))))))))
 (((rdV Tryz.prog X_39 w_38 (lnS 41 3 p1_6) fun x41_67 =>
 (lp1 X_39 w_38 (I 0) 42 fun J_69 n_70 v_74 w_72 X_73 =>
 rdV Tryz.prog X_73 w_72 (binOp .lss 3 v_74 x41_67) fun x43_76 =>
 (condW x43_76
 ((rdV Tryz.prog X_73 w_72 (ixS 41 1 p1_6 v_74) fun x44_81 =>
 rdV Tryz.prog X_73 w_72 (ld1 9 x44_81) fun x45_82 =>
 (chk (isA u_30) (un (subOf u_30 0 8) fun u_84 =>
 eC Tryz.prog R X_73 w_72 true 157 #[u_84, x45_82] fun x48_85 w_86 X_87 =>
 (condW x48_85
 (fin R X_87 w_86 (B true))
 (((rdV Tryz.prog X_87 w_86 (binOp .add 3 v_74 (I 1)) fun x49_89 =>
 nx1 J_69 n_70 x49_89 w_86 X_87))))))))
 (nx2 J_11 n_12 v_74 v_40 w_72 X_73)))))))))))))
 (fin R X_21 w_20 (B false)))))
theorem ok_mvcc_Store_locked {R : Ending → World → Prop} {w0 : World} {p0 : Value} {p1_0 p1_1 p1_2 p1_3 p1_4 p1_5 : Int} {p1_6 p1_7 : Value} (h : vc_mvcc_Store_locked R w0 (old w0) p0 p1_0 p1_1 p1_2 p1_3 p1_4 p1_5 p1_6 p1_7) : Calls Tryz.prog 146 #[p0, (.agg #[(I p1_0), (I p1_1), (I p1_2), (I p1_3), (I p1_4), (I p1_5), p1_6, p1_7])] w0 R :=
  calls_of_vc (pl := pl_mvcc_Store_locked) Tryz.func146 (by kernel_rfl) (by kernel_rfl) h
noncomputable def pl_mvcc_Store_old : Plan := ⟨24, [(3, (Tryz.prog.cellsOf 87)), (6, (Tryz.prog.cellsOf 66))], [7, 15, 19], [0, 1, 4, 8, 9, 10, 11, 22], [], [10]⟩
def vc_mvcc_Store_old (R : Ending → World → Prop) (w0 : World) (X0 : XS) (p0 : Value) (_p1_0 _p1_1 _p1_2 p1_3 p1_4 p1_5 : Int) (_p1_6 p1_7 : Value) : Prop :=
 (rdV Tryz.prog X0 w0 (lnS 42 3 p1_7) fun x9_4 =>
 (lp1 X0 w0 (I 0) 10 fun J_6 n_7 v_11 w_9 X_10 =>
 rdV Tryz.prog X_10 w_9 (binOp .lss 3 v_11 x9_4) fun x11_13 =>
 (condW x11_13
 ((rdV Tryz.prog X_10 w_9 (ixS 42 4 p1_7 v_11) fun x12_18 =>
 rdV Tryz.prog X_10 w_9 (ldA 66 4 x12_18) fun x13_19 =>
 un (Value.agg (Value.cells x13_19)) fun u_20 =>
 chk (List.length (Array.toList (Value.cells x13_19)) == 4) (chk (List.all (Array.toList (Value.cells x13_19)) one) ((chk (isA u_20) (un (cellOf u_20 0) fun u_22 =>
 eC Tryz.prog R X_10 w_9 false 159 #[p0, u_22] fun x17_23 w_24 X_25 =>
 rdV Tryz.prog X_25 w_24 (fdV 214 2 4 3 x17_23) fun x18_26 =>
 eC Tryz.prog R X_25 w_24 true 50 #[x18_26, (.agg #[(I p1_3), (I p1_4), (I p1_5)])] fun x21_27 w_28 X_29 =>
 rdV Tryz.prog X_29 w_28 (binOp .geq 3 x21_27 (I 0)) fun x22_30 =>
 (condW x22_30
 (fin R X_29 w_28 (B true))
 (((rdV Tryz.prog X_29 w_28 (binOp .add 3 v_11 (I 1)) fun x23_32 =>
 nx1 J_6 n_7 x23_32 w_28 X_29))))))))))
 (fin R X_10 w_9 (B false)))))
theorem ok_mvcc_Store_old {R : Ending → World → Prop} {w0 : World} {p0 : Value} {p1_0 p1_1 p1_2 p1_3 p1_4 p1_5 : Int} {p1_6 p1_7 : Value} (h : vc_mvcc_Store_old R w0 (old w0) p0 p1_0 p1_1 p1_2 p1_3 p1_4 p1_5 p1_6 p1_7) : Calls Tryz.prog 147 #[p0, (.agg #[(I p1_0), (I p1_1), (I p1_2), (I p1_3), (I p1_4), (I p1_5), p1_6, p1_7])] w0 R :=
  calls_of_vc (pl := pl_mvcc_Store_old) Tryz.func147 (by kernel_rfl) (by kernel_rfl) h
noncomputable def pl_mvcc_clone : Plan := ⟨12, [(1, (Tryz.prog.cellsOf 87)), (2, (Tryz.prog.cellsOf 87))], [3, 6, 7, 10], [0], [], []⟩
def vc_mvcc_clone (R : Ending → World → Prop) (w0 : World) (X0 : XS) (p0_0 p0_1 p0_2 p0_3 p0_4 p0_5 : Int) (p0_6 p0_7 : Value) : Prop :=
 (eC Tryz.prog R X0 w0 true 59 #[p0_6] fun x5_3 w_4 X_5 =>
 chk (one x5_3) ((eC Tryz.prog R X_5 w_4 true 60 #[p0_7] fun x9_7 w_8 X_9 =>
 chk (one x9_7) ((chk (List.all [(I p0_0), (I p0_1), (I p0_2), (I p0_3), (I p0_4), (I p0_5), x5_3, x9_7] one) ((fin R X_9 w_8 (.agg #[(I p0_0), (I p0_1), (I p0_2), (I p0_3), (I p0_4), (I p0_5), x5_3, x9_7]))))))))
theorem ok_mvcc_clone {R : Ending → World → Prop} {w0 : World} {p0_0 p0_1 p0_2 p0_3 p0_4 p0_5 : Int} {p0_6 p0_7 : Value} (h : vc_mvcc_clone R w0 (old w0) p0_0 p0_1 p0_2 p0_3 p0_4 p0_5 p0_6 p0_7) : Calls Tryz.prog 148 #[(.agg #[(I p0_0), (I p0_1), (I p0_2), (I p0_3), (I p0_4), (I p0_5), p0_6, p0_7])] w0 R :=
  calls_of_vc (pl := pl_mvcc_clone) Tryz.func148 (by kernel_rfl) (by kernel_rfl) h
noncomputable def pl_num_Bits : Plan := ⟨6, [], [], [0, 2], [], []⟩
def vc_num_Bits (R : Ending → World → Prop) (w0 : World) (X0 : XS) (p0 : Nat) : Prop :=
 (eC Tryz.prog R X0 w0 true 160 #[(.float .f64 p0)] fun x4_3 w_4 X_5 =>
 eC Tryz.prog R X_5 w_4 true 72 #[x4_3] fun x5_6 w_7 X_8 =>
 (fin R X_8 w_7 x5_6))
theorem ok_num_Bits {R : Ending → World → Prop} {w0 : World} {p0 : Nat} (h : vc_num_Bits R w0 (old w0) p0) : Calls Tryz.prog 149 #[(.float .f64 p0)] w0 R :=
  calls_of_vc (pl := pl_num_Bits) Tryz.func149 (by kernel_rfl) (by kernel_rfl) h
noncomputable def pl_raceref4_is : Plan := ⟨13, [], [], [0, 2], [5, 6, 7, 8, 9, 10, 11], []⟩
def vc_raceref4_is (R : Ending → World → Prop) (w0 : World) (X0 : XS) (p0 : Nat) : Prop :=
 (eC Tryz.prog R X0 w0 true 37 #[(.float .f64 p0), (.float .f64 0)] fun x4_3 w_4 X_5 =>
 un (gSel x4_3 false (.float .f64 p0)) fun u_6 =>
 grdW Tryz.prog X_5 w_4 x4_3 false (vS (binOp .gtr 40 u_6 (.float .f64 0))) fun x7_7 =>
 un (gSel x4_3 false x7_7) fun u_8 =>
 un (gSel u_8 true (.float .f64 p0)) fun u_9 =>
 grdW Tryz.prog X_5 w_4 u_8 true (vS (binOp .leq 40 u_9 (.float .f64 4607182418800017408))) fun x10_10 =>
 grdW Tryz.prog X_5 w_4 x4_3 false (pickN u_8 x10_10 (B false)) fun x11_11 =>
 rdW Tryz.prog X_5 w_4 (pickN x4_3 (B true) x11_11) fun x12_12 =>
 (fin R X_5 w_4 x12_12))
theorem ok_raceref4_is {R : Ending → World → Prop} {w0 : World} {p0 : Nat} (h : vc_raceref4_is R w0 (old w0) p0) : Calls Tryz.prog 150 #[(.float .f64 p0)] w0 R :=
  calls_of_vc (pl := pl_raceref4_is) Tryz.func150 (by kernel_rfl) (by kernel_rfl) h
noncomputable def pl_raceref10_Store_where : Plan := ⟨26, [(3, (Tryz.prog.cellsOf 39))], [], [0, 1, 4, 5, 12, 24], [], [5]⟩
def vc_raceref10_Store_where (R : Ending → World → Prop) (w0 : World) (X0 : XS) (p0 : Value) (p1_0 p1_1 p1_2 : Int) : Prop :=
 ((lp1 X0 w0 (I 0) 5 fun J_5 n_6 v_10 w_8 X_9 =>
 rdW Tryz.prog X_9 w_8 (nilN p0) fun x8_13 =>
 rdV Tryz.prog X_9 w_8 (fld 208 1 1 1 x8_13) fun x9_14 =>
 rdV Tryz.prog X_9 w_8 (ld1 47 x9_14) fun x10_15 =>
 rdV Tryz.prog X_9 w_8 (lnS 47 3 x10_15) fun x11_16 =>
 rdV Tryz.prog X_9 w_8 (binOp .lss 3 v_10 x11_16) fun x12_17 =>
 (condW x12_17
 ((rdW Tryz.prog X_9 w_8 (nilN p0) fun x16_21 =>
 rdV Tryz.prog X_9 w_8 (fld 208 1 1 1 x16_21) fun x17_22 =>
 rdV Tryz.prog X_9 w_8 (ld1 47 x17_22) fun x18_23 =>
 rdV Tryz.prog X_9 w_8 (ixS 47 8 x18_23 v_10) fun x20_24 =>
 rdV Tryz.prog X_9 w_8 (fld 87 0 0 3 x20_24) fun x21_25 =>
 rdV Tryz.prog X_9 w_8 (ldA 39 3 x21_25) fun x22_26 =>
 rdV Tryz.prog X_9 w_8 (binS .eql 39 (.tmp 22) (.tmp 23) x22_26 (.agg #[(I p1_0), (I p1_1), (I p1_2)])) fun x24_27 =>
 (condW x24_27
 (fin R X_9 w_8 v_10)
 (((rdV Tryz.prog X_9 w_8 (binOp .add 3 v_10 (I 1)) fun x14_29 =>
 nx1 J_5 n_6 x14_29 w_8 X_9))))))
 ((((fin R X_9 w_8 (I (-1)))))))))
theorem ok_raceref10_Store_where {R : Ending → World → Prop} {w0 : World} {p0 : Value} {p1_0 p1_1 p1_2 : Int} (h : vc_raceref10_Store_where R w0 (old w0) p0 p1_0 p1_1 p1_2) : Calls Tryz.prog 151 #[p0, (.agg #[(I p1_0), (I p1_1), (I p1_2)])] w0 R :=
  calls_of_vc (pl := pl_raceref10_Store_where) Tryz.func151 (by kernel_rfl) (by kernel_rfl) h
noncomputable def pl_raceref10_clash : Plan := ⟨46, [(2, (Tryz.prog.cellsOf 87)), (3, (Tryz.prog.cellsOf 87))], [8, 15, 24, 33, 40], [0, 1, 4, 5, 6, 11, 31, 36, 45], [22, 23, 25, 26, 27, 28, 29, 30], [5, 6]⟩
def vc_raceref10_clash (R : Ending → World → Prop) (w0 : World) (X0 : XS) (_p0_0 _p0_1 _p0_2 _p0_3 _p0_4 _p0_5 : Int) (p0_6 p0_7 : Value) (p1_0 p1_1 p1_2 p1_3 p1_4 p1_5 : Int) (p1_6 p1_7 : Value) : Prop :=
 ((lp1 X0 w0 (I 0) 5 fun J_5 n_6 v_10 w_8 X_9 =>
 rdV Tryz.prog X_9 w_8 (lnS 42 3 p0_7) fun x10_13 =>
 rdV Tryz.prog X_9 w_8 (binOp .lss 3 v_10 x10_13) fun x11_14 =>
 (condW x11_14
 ((rdV Tryz.prog X_9 w_8 (ixS 42 4 p0_7 v_10) fun x18_18 =>
 rdV Tryz.prog X_9 w_8 (fld 66 0 0 1 x18_18) fun x19_19 =>
 rdV Tryz.prog X_9 w_8 (ld1 9 x19_19) fun x20_20 =>
 eC Tryz.prog R X_9 w_8 true 161 #[(.agg #[(I p1_0), (I p1_1), (I p1_2), (I p1_3), (I p1_4), (I p1_5), p1_6, p1_7]), x20_20] fun x21_21 w_22 X_23 =>
 un (gSel x21_21 false (.agg #[(I p1_0), (I p1_1), (I p1_2), (I p1_3), (I p1_4), (I p1_5), p1_6, p1_7])) fun u_24 =>
 un (gSel x21_21 false p0_7) fun u_25 =>
 un (gSel x21_21 false v_10) fun u_26 =>
 grdW Tryz.prog X_23 w_22 x21_21 false (vS (ixS 42 4 u_25 u_26)) fun x27_27 =>
 grdW Tryz.prog X_23 w_22 x21_21 false (vS (fld 66 0 0 1 x27_27)) fun x28_28 =>
 grdW Tryz.prog X_23 w_22 x21_21 false (vS (ld1 9 x28_28)) fun x29_29 =>
 jn (fun (x30_30 : Value) (w_31 : World) (X_32 : XS) =>
 rdW Tryz.prog X_32 w_31 (pickN x21_21 (B true) x30_30) fun x31_34 =>
 (condW x31_34
 (fin R X_32 w_31 (B true))
 (((rdV Tryz.prog X_32 w_31 (binOp .add 3 v_10 (I 1)) fun x13_36 =>
 nx1 J_5 n_6 x13_36 w_31 X_32))))) fun k_33 =>
 (gE x21_21 false (eC Tryz.prog R X_23 w_22 true 162 #[u_24, x29_29] k_33) (k_33 undef w_22 X_23))))
 ((((lp1 X_9 w_8 (I 0) 6 fun J_40 n_41 v_45 w_43 X_44 =>
 rdV Tryz.prog X_44 w_43 (lnS 41 3 p0_6) fun x35_48 =>
 rdV Tryz.prog X_44 w_43 (binOp .lss 3 v_45 x35_48) fun x36_49 =>
 (condW x36_49
 ((rdV Tryz.prog X_44 w_43 (ixS 41 1 p0_6 v_45) fun x43_53 =>
 rdV Tryz.prog X_44 w_43 (ld1 9 x43_53) fun x44_54 =>
 eC Tryz.prog R X_44 w_43 true 161 #[(.agg #[(I p1_0), (I p1_1), (I p1_2), (I p1_3), (I p1_4), (I p1_5), p1_6, p1_7]), x44_54] fun x45_55 w_56 X_57 =>
 (condW x45_55
 (fin R X_57 w_56 (B true))
 (((rdV Tryz.prog X_57 w_56 (binOp .add 3 v_45 (I 1)) fun x38_59 =>
 nx1 J_40 n_41 x38_59 w_56 X_57))))))
 (fin R X_44 w_43 (B false))))))))))
theorem ok_raceref10_clash {R : Ending → World → Prop} {w0 : World} {p0_0 p0_1 p0_2 p0_3 p0_4 p0_5 : Int} {p0_6 p0_7 : Value} {p1_0 p1_1 p1_2 p1_3 p1_4 p1_5 : Int} {p1_6 p1_7 : Value} (h : vc_raceref10_clash R w0 (old w0) p0_0 p0_1 p0_2 p0_3 p0_4 p0_5 p0_6 p0_7 p1_0 p1_1 p1_2 p1_3 p1_4 p1_5 p1_6 p1_7) : Calls Tryz.prog 152 #[(.agg #[(I p0_0), (I p0_1), (I p0_2), (I p0_3), (I p0_4), (I p0_5), p0_6, p0_7]), (.agg #[(I p1_0), (I p1_1), (I p1_2), (I p1_3), (I p1_4), (I p1_5), p1_6, p1_7])] w0 R :=
  calls_of_vc (pl := pl_raceref10_clash) Tryz.func152 (by kernel_rfl) (by kernel_rfl) h
noncomputable def pl_raceref10_Store_old : Plan := ⟨41, [(3, (Tryz.prog.cellsOf 87)), (6, (Tryz.prog.cellsOf 214))], [9, 16, 24, 34, 36], [0, 1, 4, 5, 7, 12, 40], [33, 35, 37, 38, 39], [5]⟩
def vc_raceref10_Store_old (R : Ending → World → Prop) (w0 : World) (X0 : XS) (p0 : Value) (_p1_0 _p1_1 _p1_2 p1_3 p1_4 p1_5 : Int) (_p1_6 p1_7 : Value) : Prop :=
 ((lp1 X0 w0 (I 0) 5 fun J_5 n_6 v_10 w_8 X_9 =>
 rdV Tryz.prog X_9 w_8 (lnS 42 3 p1_7) fun x11_13 =>
 rdV Tryz.prog X_9 w_8 (binOp .lss 3 v_10 x11_13) fun x12_14 =>
 (condW x12_14
 ((rdV Tryz.prog X_9 w_8 (ixS 42 4 p1_7 v_10) fun x19_18 =>
 rdV Tryz.prog X_9 w_8 (fld 66 0 0 1 x19_18) fun x20_19 =>
 rdV Tryz.prog X_9 w_8 (ld1 9 x20_19) fun x21_20 =>
 eC Tryz.prog R X_9 w_8 true 163 #[p0, x21_20] fun x22_21 w_22 X_23 =>
 un (Value.agg (Value.cells x22_21)) fun u_24 =>
 chk (List.length (Array.toList (Value.cells x22_21)) == 7) (chk (List.all (Array.toList (Value.cells x22_21)) one) ((rdV Tryz.prog X_23 w_22 (ixS 42 4 p1_7 v_10) fun x27_26 =>
 rdV Tryz.prog X_23 w_22 (fld 66 0 0 1 x27_26) fun x28_27 =>
 rdV Tryz.prog X_23 w_22 (ld1 9 x28_27) fun x29_28 =>
 eC Tryz.prog R X_23 w_22 true 164 #[p0, x29_28] fun x30_29 w_30 X_31 =>
 rdV Tryz.prog X_31 w_30 (binOp .geq 3 x30_29 (I 0)) fun x31_32 =>
 (chk (isA u_24) (un (subOf u_24 4 3) fun u_34 =>
 un (gSel x31_32 true u_34) fun u_35 =>
 un (gSel x31_32 true (.agg #[(I p1_3), (I p1_4), (I p1_5)])) fun u_36 =>
 jn (fun (x38_37 : Value) (w_38 : World) (X_39 : XS) =>
 grdW Tryz.prog X_39 w_38 x31_32 true (vS (binOp .geq 3 x38_37 (I 0))) fun x39_41 =>
 rdW Tryz.prog X_39 w_38 (pickN x31_32 x39_41 (B false)) fun x40_42 =>
 (condW x40_42
 (fin R X_39 w_38 (B true))
 (((rdV Tryz.prog X_39 w_38 (binOp .add 3 v_10 (I 1)) fun x14_44 =>
 nx1 J_5 n_6 x14_44 w_38 X_39))))) fun k_40 =>
 (gE x31_32 true (eC Tryz.prog R X_31 w_30 true 88 #[u_35, u_36] k_40) (k_40 undef w_30 X_31)))))))))
 (fin R X_9 w_8 (B false)))))
theorem ok_raceref10_Store_old {R : Ending → World → Prop} {w0 : World} {p0 : Value} {p1_0 p1_1 p1_2 p1_3 p1_4 p1_5 : Int} {p1_6 p1_7 : Value} (h : vc_raceref10_Store_old R w0 (old w0) p0 p1_0 p1_1 p1_2 p1_3 p1_4 p1_5 p1_6 p1_7) : Calls Tryz.prog 153 #[p0, (.agg #[(I p1_0), (I p1_1), (I p1_2), (I p1_3), (I p1_4), (I p1_5), p1_6, p1_7])] w0 R :=
  calls_of_vc (pl := pl_raceref10_Store_old) Tryz.func153 (by kernel_rfl) (by kernel_rfl) h
noncomputable def pl_raceref10_Store_put : Plan := ⟨54, [(3, (Tryz.prog.cellsOf 87))], [22], [0, 1, 4, 5, 25], [13, 14, 15, 16, 17, 18, 19, 20, 21, 23, 24], [4, 5]⟩
def vc_raceref10_Store_put (R : Ending → World → Prop) (w0 : World) (X0 : XS) (p0 : Value) (p1_0 p1_1 p1_2 p1_3 p1_4 p1_5 : Int) (p1_6 p1_7 : Value) : Prop :=
 (((lp2 X0 w0 (I 0) (.slice none 0 0) 5 4 fun J_6 n_7 v_11 v_12 w_9 X_10 =>
 rdW Tryz.prog X_10 w_9 (nilN p0) fun x8_15 =>
 rdV Tryz.prog X_10 w_9 (fld 208 1 1 1 x8_15) fun x9_16 =>
 rdV Tryz.prog X_10 w_9 (ld1 47 x9_16) fun x10_17 =>
 rdV Tryz.prog X_10 w_9 (lnS 47 3 x10_17) fun x11_18 =>
 rdV Tryz.prog X_10 w_9 (binOp .lss 3 v_11 x11_18) fun x12_19 =>
 un (gSel x12_19 true p0) fun u_20 =>
 grdW Tryz.prog X_10 w_9 x12_19 true (nilN u_20) fun x15_21 =>
 grdW Tryz.prog X_10 w_9 x12_19 true (vS (fld 208 1 1 1 x15_21)) fun x16_22 =>
 grdW Tryz.prog X_10 w_9 x12_19 true (vS (ld1 47 x16_22)) fun x17_23 =>
 un (gSel x12_19 true v_11) fun u_24 =>
 grdW Tryz.prog X_10 w_9 x12_19 true (vS (ixS 47 8 x17_23 u_24)) fun x19_25 =>
 grdW Tryz.prog X_10 w_9 x12_19 true (vS (fld 87 0 0 3 x19_25)) fun x20_26 =>
 grdW Tryz.prog X_10 w_9 x12_19 true (vS (ldA 39 3 x20_26)) fun x21_27 =>
 un (gSel x12_19 true (.agg #[(I p1_0), (I p1_1), (I p1_2)])) fun u_28 =>
 jn (fun (x24_29 : Value) (w_30 : World) (X_31 : XS) =>
 rdW Tryz.prog X_31 w_30 (pickN x12_19 x24_29 (B false)) fun x25_33 =>
 (condW x25_33
 ((rdW Tryz.prog X_31 w_30 (nilN p0) fun x28_36 =>
 rdV Tryz.prog X_31 w_30 (fld 208 1 1 1 x28_36) fun x29_37 =>
 rdV Tryz.prog X_31 w_30 (ld1 47 x29_37) fun x30_38 =>
 rdV Tryz.prog X_31 w_30 (ixS 47 8 x30_38 v_11) fun x32_39 =>
 rdV Tryz.prog X_31 w_30 (ldA 87 8 x32_39) fun x33_40 =>
 eV Tryz.prog R X_31 w_30 true (bsS 47 87 8 1 #[(0, x33_40)]) fun x34_41 w_42 X_43 =>
 eV Tryz.prog R X_43 w_42 true (apS 47 87 8 96 47 v_12 x34_41) fun x35_44 w_45 X_46 =>
 (rdV Tryz.prog X_46 w_45 (binOp .add 3 v_11 (I 1)) fun x37_47 =>
 (nx2 J_6 n_7 x37_47 x35_44 w_45 X_46))))
 (((eC Tryz.prog R X_31 w_30 true 69 #[(.agg #[(I p1_0), (I p1_1), (I p1_2), (I p1_3), (I p1_4), (I p1_5), p1_6, p1_7])] fun x40_49 w_50 X_51 =>
 eV Tryz.prog R X_51 w_50 true (bsS 47 87 8 1 #[(0, x40_49)]) fun x41_52 w_53 X_54 =>
 eV Tryz.prog R X_54 w_53 true (apS 47 87 8 96 47 v_12 x41_52) fun x42_55 w_56 X_57 =>
 (rdW Tryz.prog X_57 w_56 (nilN p0) fun x46_58 =>
 rdV Tryz.prog X_57 w_56 (fld 208 1 1 1 x46_58) fun x47_59 =>
 rdV Tryz.prog X_57 w_56 (ld1 47 x47_59) fun x48_60 =>
 rdV Tryz.prog X_57 w_56 (Instr.sliceAt 47 x48_60 (some v_11) none none) fun x50_61 =>
 eV Tryz.prog R X_57 w_56 true (apS 47 87 8 96 47 x42_55 x50_61) fun x51_62 w_63 X_64 =>
 rdW Tryz.prog X_64 w_63 (nilN p0) fun x52_65 =>
 rdV Tryz.prog X_64 w_63 (fld 208 1 1 1 x52_65) fun x53_66 =>
 eU Tryz.prog R X_64 w_63 true (st1 47 1 x53_66 x51_62) fun _ w_67 X_68 =>
 fin R X_68 w_67 (Value.tuple #[]))))))) fun k_32 =>
 (gE x12_19 true (eC Tryz.prog R X_10 w_9 true 68 #[x21_27, u_28] k_32) (k_32 undef w_9 X_10)))))
theorem ok_raceref10_Store_put {R : Ending → World → Prop} {w0 : World} {p0 : Value} {p1_0 p1_1 p1_2 p1_3 p1_4 p1_5 : Int} {p1_6 p1_7 : Value} (h : vc_raceref10_Store_put R w0 (old w0) p0 p1_0 p1_1 p1_2 p1_3 p1_4 p1_5 p1_6 p1_7) : Calls Tryz.prog 154 #[p0, (.agg #[(I p1_0), (I p1_1), (I p1_2), (I p1_3), (I p1_4), (I p1_5), p1_6, p1_7])] w0 R :=
  calls_of_vc (pl := pl_raceref10_Store_put) Tryz.func154 (by kernel_rfl) (by kernel_rfl) h
noncomputable def pl_raceref4_In : Plan := ⟨15, [(2, (Tryz.prog.cellsOf 45))], [6, 11], [0, 1, 4], [9, 10, 12, 13], []⟩
def vc_raceref4_In (R : Ending → World → Prop) (w0 : World) (X0 : XS) (_p0_0 _p0_1 : Int) (p0_2 p0_3 p1 : Nat) : Prop :=
 (rdV Tryz.prog X0 w0 (binOp .geq 40 (.float .f64 p1) (.float .f64 p0_2)) fun x8_3 =>
 un (gSel x8_3 true (.float .f64 p1)) fun u_4 =>
 un (gSel x8_3 true (.float .f64 p0_3)) fun u_5 =>
 grdW Tryz.prog X0 w0 x8_3 true (vS (binOp .lss 40 u_4 u_5)) fun x13_6 =>
 rdW Tryz.prog X0 w0 (pickN x8_3 x13_6 (B false)) fun x14_7 =>
 (fin R X0 w0 x14_7))
theorem ok_raceref4_In {R : Ending → World → Prop} {w0 : World} {p0_0 p0_1 : Int} {p0_2 p0_3 p1 : Nat} (h : vc_raceref4_In R w0 (old w0) p0_0 p0_1 p0_2 p0_3 p1) : Calls Tryz.prog 155 #[(.agg #[(I p0_0), (I p0_1), (.float .f64 p0_2), (.float .f64 p0_3)]), (.float .f64 p1)] w0 R :=
  calls_of_vc (pl := pl_raceref4_In) Tryz.func155 (by kernel_rfl) (by kernel_rfl) h
noncomputable def pl_raceref1_Canon : Plan := ⟨6, [], [], [0, 2], [], []⟩
def vc_raceref1_Canon (R : Ending → World → Prop) (w0 : World) (X0 : XS) (p0 : Nat) : Prop :=
 (eC Tryz.prog R X0 w0 true 166 #[(.float .f64 p0)] fun x4_3 w_4 X_5 =>
 eC Tryz.prog R X_5 w_4 true 165 #[x4_3] fun x5_6 w_7 X_8 =>
 (fin R X_8 w_7 x5_6))
theorem ok_raceref1_Canon {R : Ending → World → Prop} {w0 : World} {p0 : Nat} (h : vc_raceref1_Canon R w0 (old w0) p0) : Calls Tryz.prog 156 #[(.float .f64 p0)] w0 R :=
  calls_of_vc (pl := pl_raceref1_Canon) Tryz.func156 (by kernel_rfl) (by kernel_rfl) h
noncomputable def pl_mvcc_writes : Plan := ⟨9, [(2, (Tryz.prog.cellsOf 87))], [5], [0, 1, 3, 4], [], []⟩
def vc_mvcc_writes (R : Ending → World → Prop) (w0 : World) (X0 : XS) (_p0_0 _p0_1 _p0_2 _p0_3 _p0_4 _p0_5 : Int) (_p0_6 p0_7 : Value) (p1 : ByteArray) : Prop :=
 eV Tryz.prog R X0 w0 true (Instr.box 9 (.string p1)) fun x3_2 w_3 X_4 =>
 (rdV Tryz.prog X_4 w_3 (Instr.makeFunc (Fn.func 168) #[] #[x3_2]) fun x7_6 =>
 eC Tryz.prog R X_4 w_3 true 167 #[p0_7, x7_6] fun x8_7 w_8 X_9 =>
 (fin R X_9 w_8 x8_7))
theorem ok_mvcc_writes {R : Ending → World → Prop} {w0 : World} {p0_0 p0_1 p0_2 p0_3 p0_4 p0_5 : Int} {p0_6 p0_7 : Value} {p1 : ByteArray} (h : vc_mvcc_writes R w0 (old w0) p0_0 p0_1 p0_2 p0_3 p0_4 p0_5 p0_6 p0_7 p1) : Calls Tryz.prog 157 #[(.agg #[(I p0_0), (I p0_1), (I p0_2), (I p0_3), (I p0_4), (I p0_5), p0_6, p0_7]), (.string p1)] w0 R :=
  calls_of_vc (pl := pl_mvcc_writes) Tryz.func157 (by kernel_rfl) (by kernel_rfl) h
noncomputable def pl_slices_Contains_sl_string_string : Plan := ⟨9, [], [], [0, 1, 4], [], []⟩
def vc_slices_Contains_sl_string_string (R : Ending → World → Prop) (w0 : World) (X0 : XS) (p0 : Value) (p1 : ByteArray) : Prop :=
 (eC Tryz.prog R X0 w0 true 169 #[p0, (.string p1)] fun x7_3 w_4 X_5 =>
 rdV Tryz.prog X_5 w_4 (binOp .geq 3 x7_3 (I 0)) fun x8_6 =>
 (fin R X_5 w_4 x8_6))
theorem ok_slices_Contains_sl_string_string {R : Ending → World → Prop} {w0 : World} {p0 : Value} {p1 : ByteArray} (h : vc_slices_Contains_sl_string_string R w0 (old w0) p0 p1) : Calls Tryz.prog 158 #[p0, (.string p1)] w0 R :=
  calls_of_vc (pl := pl_slices_Contains_sl_string_string) Tryz.func158 (by kernel_rfl) (by kernel_rfl) h
noncomputable def pl_mvcc_Store_Newest : Plan := ⟨9, [(4, (Tryz.prog.cellsOf 214))], [], [0, 1], [], []⟩
def vc_mvcc_Store_Newest (R : Ending → World → Prop) (w0 : World) (X0 : XS) (p0 : Value) (p1 : ByteArray) : Prop :=
 (rdV Tryz.prog X0 w0 (bld 34 #[(I 0), (I 0), (I 0)] #[]) fun x7_3 =>
 eC Tryz.prog R X0 w0 true 170 #[p0, (.string p1), x7_3, (B true)] fun x8_4 w_5 X_6 =>
 un (Value.agg (Value.cells x8_4)) fun u_7 =>
 chk (List.length (Array.toList (Value.cells x8_4)) == 7) (chk (List.all (Array.toList (Value.cells x8_4)) one) (un (subOf u_7 0 7) fun u_8 =>
 chk (List.all [u_7] isA) (fin R X_6 w_5 u_8))))
theorem ok_mvcc_Store_Newest {R : Ending → World → Prop} {w0 : World} {p0 : Value} {p1 : ByteArray} (h : vc_mvcc_Store_Newest R w0 (old w0) p0 p1) : Calls Tryz.prog 159 #[p0, (.string p1)] w0 R :=
  calls_of_vc (pl := pl_mvcc_Store_Newest) Tryz.func159 (by kernel_rfl) (by kernel_rfl) h
noncomputable def pl_num_Canon : Plan := ⟨8, [], [], [0, 2, 5], [], []⟩
def vc_num_Canon (R : Ending → World → Prop) (w0 : World) (X0 : XS) (p0 : Nat) : Prop :=
 (rdV Tryz.prog X0 w0 (binS .neq 40 (.tmp 3) (.tmp 4) (.float .f64 p0) (.float .f64 p0)) fun x5_4 =>
 (condW x5_4
 (eC Tryz.prog R X0 w0 true 165 #[(Value.int IntKind.u64 9221120237041090560)] fun x6_6 w_7 X_8 =>
 (fin R X_8 w_7 x6_6))
 (fin R X0 w0 (.float .f64 p0))))
theorem ok_num_Canon {R : Ending → World → Prop} {w0 : World} {p0 : Nat} (h : vc_num_Canon R w0 (old w0) p0) : Calls Tryz.prog 160 #[(.float .f64 p0)] w0 R :=
  calls_of_vc (pl := pl_num_Canon) Tryz.func160 (by kernel_rfl) (by kernel_rfl) h
noncomputable def pl_raceref10_writes : Plan := ⟨21, [(2, (Tryz.prog.cellsOf 87))], [7, 13], [0, 1, 4, 5, 10, 20], [], [5]⟩
def vc_raceref10_writes (R : Ending → World → Prop) (w0 : World) (X0 : XS) (_p0_0 _p0_1 _p0_2 _p0_3 _p0_4 _p0_5 : Int) (_p0_6 p0_7 : Value) (p1 : ByteArray) : Prop :=
 ((lp1 X0 w0 (I 0) 5 fun J_5 n_6 v_10 w_8 X_9 =>
 rdV Tryz.prog X_9 w_8 (lnS 42 3 p0_7) fun x9_13 =>
 rdV Tryz.prog X_9 w_8 (binOp .lss 3 v_10 x9_13) fun x10_14 =>
 (condW x10_14
 ((rdV Tryz.prog X_9 w_8 (ixS 42 4 p0_7 v_10) fun x16_18 =>
 rdV Tryz.prog X_9 w_8 (fld 66 0 0 1 x16_18) fun x17_19 =>
 rdV Tryz.prog X_9 w_8 (ld1 9 x17_19) fun x18_20 =>
 rdV Tryz.prog X_9 w_8 (binS .eql 9 (.tmp 18) (.tmp 19) x18_20 (.string p1)) fun x20_21 =>
 (condW x20_21
 (fin R X_9 w_8 (B true))
 (((rdV Tryz.prog X_9 w_8 (binOp .add 3 v_10 (I 1)) fun x12_23 =>
 nx1 J_5 n_6 x12_23 w_8 X_9))))))
 (fin R X_9 w_8 (B false)))))
theorem ok_raceref10_writes {R : Ending → World → Prop} {w0 : World} {p0_0 p0_1 p0_2 p0_3 p0_4 p0_5 : Int} {p0_6 p0_7 : Value} {p1 : ByteArray} (h : vc_raceref10_writes R w0 (old w0) p0_0 p0_1 p0_2 p0_3 p0_4 p0_5 p0_6 p0_7 p1) : Calls Tryz.prog 161 #[(.agg #[(I p0_0), (I p0_1), (I p0_2), (I p0_3), (I p0_4), (I p0_5), p0_6, p0_7]), (.string p1)] w0 R :=
  calls_of_vc (pl := pl_raceref10_writes) Tryz.func161 (by kernel_rfl) (by kernel_rfl) h
noncomputable def pl_raceref10_reads : Plan := ⟨20, [(2, (Tryz.prog.cellsOf 87))], [7, 13], [0, 1, 4, 5, 10, 19], [], [5]⟩
def vc_raceref10_reads (R : Ending → World → Prop) (w0 : World) (X0 : XS) (_p0_0 _p0_1 _p0_2 _p0_3 _p0_4 _p0_5 : Int) (p0_6 _p0_7 : Value) (p1 : ByteArray) : Prop :=
 ((lp1 X0 w0 (I 0) 5 fun J_5 n_6 v_10 w_8 X_9 =>
 rdV Tryz.prog X_9 w_8 (lnS 41 3 p0_6) fun x9_13 =>
 rdV Tryz.prog X_9 w_8 (binOp .lss 3 v_10 x9_13) fun x10_14 =>
 (condW x10_14
 ((rdV Tryz.prog X_9 w_8 (ixS 41 1 p0_6 v_10) fun x16_18 =>
 rdV Tryz.prog X_9 w_8 (ld1 9 x16_18) fun x17_19 =>
 rdV Tryz.prog X_9 w_8 (binS .eql 9 (.tmp 17) (.tmp 18) x17_19 (.string p1)) fun x19_20 =>
 (condW x19_20
 (fin R X_9 w_8 (B true))
 (((rdV Tryz.prog X_9 w_8 (binOp .add 3 v_10 (I 1)) fun x12_22 =>
 nx1 J_5 n_6 x12_22 w_8 X_9))))))
 (fin R X_9 w_8 (B false)))))
theorem ok_raceref10_reads {R : Ending → World → Prop} {w0 : World} {p0_0 p0_1 p0_2 p0_3 p0_4 p0_5 : Int} {p0_6 p0_7 : Value} {p1 : ByteArray} (h : vc_raceref10_reads R w0 (old w0) p0_0 p0_1 p0_2 p0_3 p0_4 p0_5 p0_6 p0_7 p1) : Calls Tryz.prog 162 #[(.agg #[(I p0_0), (I p0_1), (I p0_2), (I p0_3), (I p0_4), (I p0_5), p0_6, p0_7]), (.string p1)] w0 R :=
  calls_of_vc (pl := pl_raceref10_reads) Tryz.func162 (by kernel_rfl) (by kernel_rfl) h
noncomputable def pl_raceref10_Store_Newest : Plan := ⟨9, [(4, (Tryz.prog.cellsOf 214))], [], [0, 1], [], []⟩
def vc_raceref10_Store_Newest (R : Ending → World → Prop) (w0 : World) (X0 : XS) (p0 : Value) (p1 : ByteArray) : Prop :=
 (rdV Tryz.prog X0 w0 (bld 34 #[(I 0), (I 0), (I 0)] #[]) fun x7_3 =>
 eC Tryz.prog R X0 w0 true 171 #[p0, (.string p1), x7_3, (B true)] fun x8_4 w_5 X_6 =>
 un (Value.agg (Value.cells x8_4)) fun u_7 =>
 chk (List.length (Array.toList (Value.cells x8_4)) == 7) (chk (List.all (Array.toList (Value.cells x8_4)) one) (un (subOf u_7 0 7) fun u_8 =>
 chk (List.all [u_7] isA) (fin R X_6 w_5 u_8))))
theorem ok_raceref10_Store_Newest {R : Ending → World → Prop} {w0 : World} {p0 : Value} {p1 : ByteArray} (h : vc_raceref10_Store_Newest R w0 (old w0) p0 p1) : Calls Tryz.prog 163 #[p0, (.string p1)] w0 R :=
  calls_of_vc (pl := pl_raceref10_Store_Newest) Tryz.func163 (by kernel_rfl) (by kernel_rfl) h
noncomputable def pl_raceref10_Store_at : Plan := ⟨26, [], [], [0, 1, 4, 5, 12, 24], [], [5]⟩
def vc_raceref10_Store_at (R : Ending → World → Prop) (w0 : World) (X0 : XS) (p0 : Value) (p1 : ByteArray) : Prop :=
 ((lp1 X0 w0 (I 0) 5 fun J_5 n_6 v_10 w_8 X_9 =>
 rdW Tryz.prog X_9 w_8 (nilN p0) fun x8_13 =>
 rdV Tryz.prog X_9 w_8 (fld 208 0 0 1 x8_13) fun x9_14 =>
 rdV Tryz.prog X_9 w_8 (ld1 46 x9_14) fun x10_15 =>
 rdV Tryz.prog X_9 w_8 (lnS 46 3 x10_15) fun x11_16 =>
 rdV Tryz.prog X_9 w_8 (binOp .lss 3 v_10 x11_16) fun x12_17 =>
 (condW x12_17
 ((rdW Tryz.prog X_9 w_8 (nilN p0) fun x16_21 =>
 rdV Tryz.prog X_9 w_8 (fld 208 0 0 1 x16_21) fun x17_22 =>
 rdV Tryz.prog X_9 w_8 (ld1 46 x17_22) fun x18_23 =>
 rdV Tryz.prog X_9 w_8 (ixS 46 2 x18_23 v_10) fun x20_24 =>
 rdV Tryz.prog X_9 w_8 (fld 142 0 0 1 x20_24) fun x21_25 =>
 rdV Tryz.prog X_9 w_8 (ld1 9 x21_25) fun x22_26 =>
 rdV Tryz.prog X_9 w_8 (binS .eql 9 (.tmp 22) (.tmp 23) x22_26 (.string p1)) fun x24_27 =>
 (condW x24_27
 (fin R X_9 w_8 v_10)
 (((rdV Tryz.prog X_9 w_8 (binOp .add 3 v_10 (I 1)) fun x14_29 =>
 nx1 J_5 n_6 x14_29 w_8 X_9))))))
 ((((fin R X_9 w_8 (I (-1)))))))))
theorem ok_raceref10_Store_at {R : Ending → World → Prop} {w0 : World} {p0 : Value} {p1 : ByteArray} (h : vc_raceref10_Store_at R w0 (old w0) p0 p1) : Calls Tryz.prog 164 #[p0, (.string p1)] w0 R :=
  calls_of_vc (pl := pl_raceref10_Store_at) Tryz.func164 (by kernel_rfl) (by kernel_rfl) h
noncomputable def pl_raceref1_Bits : Plan := ⟨8, [], [], [0, 2, 5], [], []⟩
def vc_raceref1_Bits (R : Ending → World → Prop) (w0 : World) (X0 : XS) (p0 : Nat) : Prop :=
 (rdV Tryz.prog X0 w0 (binS .neq 40 (.tmp 3) (.tmp 4) (.float .f64 p0) (.float .f64 p0)) fun x5_4 =>
 (condW x5_4
 (fin R X0 w0 (Value.int IntKind.u64 9221120237041090560))
 (eC Tryz.prog R X0 w0 true 72 #[(.float .f64 p0)] fun x7_7 w_8 X_9 =>
 (fin R X_9 w_8 x7_7))))
theorem ok_raceref1_Bits {R : Ending → World → Prop} {w0 : World} {p0 : Nat} (h : vc_raceref1_Bits R w0 (old w0) p0) : Calls Tryz.prog 166 #[(.float .f64 p0)] w0 R :=
  calls_of_vc (pl := pl_raceref1_Bits) Tryz.func166 (by kernel_rfl) (by kernel_rfl) h
noncomputable def pl_slices_ContainsFunc_sl_api_Write_api_Write : Plan := ⟨9, [], [], [0, 1, 4], [], []⟩
def vc_slices_ContainsFunc_sl_api_Write_api_Write (R : Ending → World → Prop) (w0 : World) (X0 : XS) (p0 p1 : Value) : Prop :=
 (eC Tryz.prog R X0 w0 true 172 #[p0, p1] fun x7_3 w_4 X_5 =>
 rdV Tryz.prog X_5 w_4 (binOp .geq 3 x7_3 (I 0)) fun x8_6 =>
 (fin R X_5 w_4 x8_6))
theorem ok_slices_ContainsFunc_sl_api_Write_api_Write {R : Ending → World → Prop} {w0 : World} {p0 p1 : Value} (h : vc_slices_ContainsFunc_sl_api_Write_api_Write R w0 (old w0) p0 p1) : Calls Tryz.prog 167 #[p0, p1] w0 R :=
  calls_of_vc (pl := pl_slices_ContainsFunc_sl_api_Write_api_Write) Tryz.func167 (by kernel_rfl) (by kernel_rfl) h
noncomputable def pl_mvcc_writes_c1 : Plan := ⟨8, [(2, (Tryz.prog.cellsOf 66))], [4], [0, 1, 3], [], []⟩
def vc_mvcc_writes_c1 (R : Ending → World → Prop) (w0 : World) (X0 : XS) (p0_0 : ByteArray) (_p0_1 : Int) (_p0_2 : Nat) (_p0_3 : ByteArray) (c0 : Value) : Prop :=
 (rdV Tryz.prog X0 w0 (ld1 9 c0) fun x6_3 =>
 rdV Tryz.prog X0 w0 (binS .eql 9 (.tmp 5) (.tmp 6) (.string p0_0) x6_3) fun x7_4 =>
 (fin R X0 w0 x7_4))
theorem ok_mvcc_writes_c1 {R : Ending → World → Prop} {w0 : World} {p0_0 : ByteArray} {p0_1 : Int} {p0_2 : Nat} {p0_3 : ByteArray} {c0 : Value} (h : vc_mvcc_writes_c1 R w0 (old w0) p0_0 p0_1 p0_2 p0_3 c0) : Calls Tryz.prog 168 #[(.agg #[(.string p0_0), (I p0_1), (.float .f64 p0_2), (.string p0_3)]), c0] w0 R :=
  calls_of_vc (pl := pl_mvcc_writes_c1) Tryz.func168 (by kernel_rfl) (by kernel_rfl) h
noncomputable def pl_slices_Index_sl_string_string : Plan := ⟨19, [], [], [0, 1, 4, 5, 7, 8, 9, 16], [], [8]⟩
def vc_slices_Index_sl_string_string (R : Ending → World → Prop) (w0 : World) (X0 : XS) (p0 : Value) (p1 : ByteArray) : Prop :=
 (rdV Tryz.prog X0 w0 (lnS 41 3 p0) fun x7_4 =>
 (lp1 X0 w0 (I 0) 8 fun J_6 n_7 v_11 w_9 X_10 =>
 rdV Tryz.prog X_10 w_9 (binOp .lss 3 v_11 x7_4) fun x9_13 =>
 (condW x9_13
 (((rdV Tryz.prog X_10 w_9 (ixS 41 1 p0 v_11) fun x14_19 =>
 rdV Tryz.prog X_10 w_9 (ld1 9 x14_19) fun x15_20 =>
 rdV Tryz.prog X_10 w_9 (binS .eql 9 (.tmp 11) (.tmp 15) (.string p1) x15_20) fun x16_21 =>
 (condW x16_21
 (fin R X_10 w_9 v_11)
 (((rdV Tryz.prog X_10 w_9 (binOp .add 3 v_11 (I 1)) fun x18_23 =>
 nx1 J_6 n_7 x18_23 w_9 X_10)))))))
 ((((fin R X_10 w_9 (I (-1)))))))))
theorem ok_slices_Index_sl_string_string {R : Ending → World → Prop} {w0 : World} {p0 : Value} {p1 : ByteArray} (h : vc_slices_Index_sl_string_string R w0 (old w0) p0 p1) : Calls Tryz.prog 169 #[p0, (.string p1)] w0 R :=
  calls_of_vc (pl := pl_slices_Index_sl_string_string) Tryz.func169 (by kernel_rfl) (by kernel_rfl) h
noncomputable def pl_mvcc_Store_newest : Plan := ⟨41, [(6, (Tryz.prog.cellsOf 34)), (8, (Tryz.prog.cellsOf 214)), (9, (Tryz.prog.cellsOf 214)), (11, (Tryz.prog.cellsOf 144))], [27, 33, 35, 37, 38], [0, 1, 2, 3, 19, 20, 21, 22, 32], [26, 28, 29, 30, 31], [9, 21]⟩
def vc_mvcc_Store_newest (R : Ending → World → Prop) (w0 : World) (X0 : XS) (p0 : Value) (p1 : ByteArray) (p2_0 p2_1 p2_2 : Int) (p3 : Bool) : Prop :=
 (rdV Tryz.prog X0 w0 (bld 214 #[(.string p1), (I 0), (.float .f64 0), (.string ⟨#[]⟩), (I 0), (I 0), (I 0)] #[(0, (.string p1))]) fun x13_3 =>
 un (Value.agg (Value.cells x13_3)) fun u_4 =>
 chk (List.length (Array.toList (Value.cells x13_3)) == 7) (chk (List.all (Array.toList (Value.cells x13_3)) one) ((rdW Tryz.prog X0 w0 (nilN p0) fun x15_7 =>
 rdV Tryz.prog X0 w0 (fld 204 0 0 1 x15_7) fun x16_8 =>
 rdV Tryz.prog X0 w0 (ld1 201 x16_8) fun x17_9 =>
 rdV Tryz.prog X0 w0 (Instr.lookup 201 x17_9 (.string p1) false) fun x19_10 =>
 rdV Tryz.prog X0 w0 (lnS 140 3 x19_10) fun x20_11 =>
 (lp2 X0 w0 (I 0) u_4 21 9 fun J_13 n_14 v_18 v_19 w_16 X_17 =>
 rdV Tryz.prog X_17 w_16 (binOp .lss 3 v_18 x20_11) fun x22_21 =>
 (condW x22_21
 (((jn (fun (y9_42 : Value) (w_43 : World) (X_44 : XS) =>
 (rdV Tryz.prog X_44 w_43 (binOp .add 3 v_18 (I 1)) fun x39_46 =>
 nx2 J_13 n_14 x39_46 y9_42 w_43 X_44)) fun k_45 =>
 rdV Tryz.prog X_17 w_16 (ixS 140 6 x19_10 v_18) fun x23_26 =>
 rdV Tryz.prog X_17 w_16 (ldA 144 6 x23_26) fun x24_27 =>
 un (Value.agg (Value.cells x24_27)) fun u_28 =>
 chk (List.length (Array.toList (Value.cells x24_27)) == 6) (chk (List.all (Array.toList (Value.cells x24_27)) one) ((chk (isA u_28) (un (subOf u_28 0 3) fun u_30 =>
 un (gSel (B p3) false u_30) fun u_31 =>
 un (gSel (B p3) false (.agg #[(I p2_0), (I p2_1), (I p2_2)])) fun u_32 =>
 jn (fun (x30_33 : Value) (w_34 : World) (X_35 : XS) =>
 grdW Tryz.prog X_35 w_34 (B p3) false (vS (binOp .leq 3 x30_33 (I 0))) fun x31_37 =>
 rdW Tryz.prog X_35 w_34 (pickN (B p3) (B true) x31_37) fun x32_38 =>
 (condW x32_38
 (chk (isA u_28) (chk (isA v_19) (un (subOf u_28 3 3) fun u_39 =>
 un (Value.agg (List.toArray (setL (Array.toList (Value.cells v_19)) 1 (Array.toList (Value.cells u_39))))) fun u_40 =>
 chk (List.length (Array.toList (Value.cells u_39)) == 3) (chk (List.all (Array.toList (Value.cells u_39)) one) (un (Value.agg (List.toArray (setL (Array.toList (Value.cells u_40)) 4 (Array.toList (Value.cells u_30))))) fun u_41 =>
 chk (List.length (Array.toList (Value.cells u_30)) == 3) (chk (List.all (Array.toList (Value.cells u_30)) one) (k_45 u_41 w_34 X_35)))))))
 (k_45 v_19 w_34 X_35))) fun k_36 =>
 (gE (B p3) false (eC Tryz.prog R X_17 w_16 true 50 #[u_31, u_32] k_36) (k_36 undef w_16 X_17)))))))))
 (((chk (isA v_19) (un (subOf v_19 0 7) fun u_48 =>
 un (Value.agg (Value.cells u_48)) fun u_49 =>
 chk (List.length (Array.toList (Value.cells u_48)) == 7) (chk (List.all (Array.toList (Value.cells u_48)) one) (un (subOf u_49 0 7) fun u_50 =>
 chk (List.all [u_49] isA) (fin R X_17 w_16 u_50)))))))))))))
theorem ok_mvcc_Store_newest {R : Ending → World → Prop} {w0 : World} {p0 : Value} {p1 : ByteArray} {p2_0 p2_1 p2_2 : Int} {p3 : Bool} (h : vc_mvcc_Store_newest R w0 (old w0) p0 p1 p2_0 p2_1 p2_2 p3) : Calls Tryz.prog 170 #[p0, (.string p1), (.agg #[(I p2_0), (I p2_1), (I p2_2)]), (B p3)] w0 R :=
  calls_of_vc (pl := pl_mvcc_Store_newest) Tryz.func170 (by kernel_rfl) (by kernel_rfl) h
noncomputable def pl_raceref10_Store_upto : Plan := ⟨60, [(6, (Tryz.prog.cellsOf 34)), (8, (Tryz.prog.cellsOf 214)), (9, (Tryz.prog.cellsOf 214)), (12, (Tryz.prog.cellsOf 144))], [47, 53, 55, 57, 58], [0, 1, 2, 3, 10, 11, 19, 31, 52], [46, 48, 49, 50, 51], [9, 11]⟩
def vc_raceref10_Store_upto (R : Ending → World → Prop) (w0 : World) (X0 : XS) (p0 : Value) (p1 : ByteArray) (p2_0 p2_1 p2_2 : Int) (p3 : Bool) : Prop :=
 (rdV Tryz.prog X0 w0 (bld 214 #[(.string p1), (I 0), (.float .f64 0), (.string ⟨#[]⟩), (I 0), (I 0), (I 0)] #[(0, (.string p1))]) fun x14_3 =>
 un (Value.agg (Value.cells x14_3)) fun u_4 =>
 chk (List.length (Array.toList (Value.cells x14_3)) == 7) (chk (List.all (Array.toList (Value.cells x14_3)) one) ((eC Tryz.prog R X0 w0 true 164 #[p0, (.string p1)] fun x17_6 w_7 X_8 =>
 (rdV Tryz.prog X_8 w_7 (binOp .lss 3 x17_6 (I 0)) fun x19_11 =>
 (condW x19_11
 (chk (isA u_4) (un (subOf u_4 0 7) fun u_13 =>
 un (Value.agg (Value.cells u_13)) fun u_14 =>
 chk (List.length (Array.toList (Value.cells u_13)) == 7) (chk (List.all (Array.toList (Value.cells u_13)) one) (un (subOf u_14 0 7) fun u_15 =>
 chk (List.all [u_14] isA) (fin R X_8 w_7 u_15)))))
 (((lp2 X_8 w_7 (I 0) u_4 11 9 fun J_19 n_20 v_24 v_25 w_22 X_23 =>
 rdW Tryz.prog X_23 w_22 (nilN p0) fun x23_28 =>
 rdV Tryz.prog X_23 w_22 (fld 208 0 0 1 x23_28) fun x24_29 =>
 rdV Tryz.prog X_23 w_22 (ld1 46 x24_29) fun x25_30 =>
 rdV Tryz.prog X_23 w_22 (ixS 46 2 x25_30 x17_6) fun x27_31 =>
 rdV Tryz.prog X_23 w_22 (fld 142 1 1 1 x27_31) fun x28_32 =>
 rdV Tryz.prog X_23 w_22 (ld1 140 x28_32) fun x29_33 =>
 rdV Tryz.prog X_23 w_22 (lnS 140 3 x29_33) fun x30_34 =>
 rdV Tryz.prog X_23 w_22 (binOp .lss 3 v_24 x30_34) fun x31_35 =>
 (condW x31_35
 (((jn (fun (y9_61 : Value) (w_62 : World) (X_63 : XS) =>
 (rdV Tryz.prog X_63 w_62 (binOp .add 3 v_24 (I 1)) fun x33_65 =>
 nx2 J_19 n_20 x33_65 y9_61 w_62 X_63)) fun k_64 =>
 rdW Tryz.prog X_23 w_22 (nilN p0) fun x35_39 =>
 rdV Tryz.prog X_23 w_22 (fld 208 0 0 1 x35_39) fun x36_40 =>
 rdV Tryz.prog X_23 w_22 (ld1 46 x36_40) fun x37_41 =>
 rdV Tryz.prog X_23 w_22 (ixS 46 2 x37_41 x17_6) fun x39_42 =>
 rdV Tryz.prog X_23 w_22 (fld 142 1 1 1 x39_42) fun x40_43 =>
 rdV Tryz.prog X_23 w_22 (ld1 140 x40_43) fun x41_44 =>
 rdV Tryz.prog X_23 w_22 (ixS 140 6 x41_44 v_24) fun x43_45 =>
 rdV Tryz.prog X_23 w_22 (ldA 144 6 x43_45) fun x44_46 =>
 un (Value.agg (Value.cells x44_46)) fun u_47 =>
 chk (List.length (Array.toList (Value.cells x44_46)) == 6) (chk (List.all (Array.toList (Value.cells x44_46)) one) ((chk (isA u_47) (un (subOf u_47 0 3) fun u_49 =>
 un (gSel (B p3) false u_49) fun u_50 =>
 un (gSel (B p3) false (.agg #[(I p2_0), (I p2_1), (I p2_2)])) fun u_51 =>
 jn (fun (x50_52 : Value) (w_53 : World) (X_54 : XS) =>
 grdW Tryz.prog X_54 w_53 (B p3) false (vS (binOp .leq 3 x50_52 (I 0))) fun x51_56 =>
 rdW Tryz.prog X_54 w_53 (pickN (B p3) (B true) x51_56) fun x52_57 =>
 (condW x52_57
 (chk (isA u_47) (chk (isA v_25) (un (subOf u_47 3 3) fun u_58 =>
 un (Value.agg (List.toArray (setL (Array.toList (Value.cells v_25)) 1 (Array.toList (Value.cells u_58))))) fun u_59 =>
 chk (List.length (Array.toList (Value.cells u_58)) == 3) (chk (List.all (Array.toList (Value.cells u_58)) one) (un (Value.agg (List.toArray (setL (Array.toList (Value.cells u_59)) 4 (Array.toList (Value.cells u_49))))) fun u_60 =>
 chk (List.length (Array.toList (Value.cells u_49)) == 3) (chk (List.all (Array.toList (Value.cells u_49)) one) (k_64 u_60 w_53 X_54)))))))
 (k_64 v_25 w_53 X_54))) fun k_55 =>
 (gE (B p3) false (eC Tryz.prog R X_23 w_22 true 88 #[u_50, u_51] k_55) (k_55 undef w_22 X_23)))))))))
 (((chk (isA v_25) (un (subOf v_25 0 7) fun u_67 =>
 un (Value.agg (Value.cells u_67)) fun u_68 =>
 chk (List.length (Array.toList (Value.cells u_67)) == 7) (chk (List.all (Array.toList (Value.cells u_67)) one) (un (subOf u_68 0 7) fun u_69 =>
 chk (List.all [u_68] isA) (fin R X_23 w_22 u_69)))))))))))))))))
theorem ok_raceref10_Store_upto {R : Ending → World → Prop} {w0 : World} {p0 : Value} {p1 : ByteArray} {p2_0 p2_1 p2_2 : Int} {p3 : Bool} (h : vc_raceref10_Store_upto R w0 (old w0) p0 p1 p2_0 p2_1 p2_2 p3) : Calls Tryz.prog 171 #[p0, (.string p1), (.agg #[(I p2_0), (I p2_1), (I p2_2)]), (B p3)] w0 R :=
  calls_of_vc (pl := pl_raceref10_Store_upto) Tryz.func171 (by kernel_rfl) (by kernel_rfl) h
noncomputable def pl_slices_IndexFunc_sl_api_Write_api_Write : Plan := ⟨19, [], [], [0, 1, 4, 5, 7, 8, 9, 16], [], [8]⟩
def vc_slices_IndexFunc_sl_api_Write_api_Write (R : Ending → World → Prop) (w0 : World) (X0 : XS) (p0 p1 : Value) : Prop :=
 (rdV Tryz.prog X0 w0 (lnS 42 3 p0) fun x7_4 =>
 (lp1 X0 w0 (I 0) 8 fun J_6 n_7 v_11 w_9 X_10 =>
 rdV Tryz.prog X_10 w_9 (binOp .lss 3 v_11 x7_4) fun x9_13 =>
 (condW x9_13
 (((rdV Tryz.prog X_10 w_9 (ixS 42 4 p0 v_11) fun x14_19 =>
 rdV Tryz.prog X_10 w_9 (ldA 66 4 x14_19) fun x15_20 =>
 eF Tryz.prog R X_10 w_9 true p1 #[x15_20] fun x16_21 w_22 X_23 =>
 (condW x16_21
 (fin R X_23 w_22 v_11)
 (((rdV Tryz.prog X_23 w_22 (binOp .add 3 v_11 (I 1)) fun x18_25 =>
 nx1 J_6 n_7 x18_25 w_22 X_23)))))))
 ((((fin R X_10 w_9 (I (-1)))))))))
theorem ok_slices_IndexFunc_sl_api_Write_api_Write {R : Ending → World → Prop} {w0 : World} {p0 p1 : Value} (h : vc_slices_IndexFunc_sl_api_Write_api_Write R w0 (old w0) p0 p1) : Calls Tryz.prog 172 #[p0, p1] w0 R :=
  calls_of_vc (pl := pl_slices_IndexFunc_sl_api_Write_api_Write) Tryz.func172 (by kernel_rfl) (by kernel_rfl) h
end Go.Proofs.YtnphlhpdikmpiaaGreat
namespace Go.Proofs.YtnphlhpdikmpiaaGreat
open Go.Eng
set_option maxRecDepth 100000
set_option maxHeartbeats 1000000
set_option linter.unusedVariables false
set_option linter.unusedSimpArgs false
abbrev BA := ByteArray
@[ext] structure Stamp where
  wall : Int
  logic : Int
  node : Int
  deriving DecidableEq
abbrev Stamp.l (s : Stamp) : List Value := [I s.wall, I s.logic, I s.node]
abbrev Stamp.v (s : Stamp) : Value := .agg #[I s.wall, I s.logic, I s.node]
abbrev Stamp.zero : Stamp := ⟨0, 0, 0⟩
@[ext] structure Txn where
  coord : Int
  life : Int
  sq : Int
  deriving DecidableEq
abbrev Txn.l (s : Txn) : List Value := [I s.coord, I s.life, I s.sq]
abbrev Txn.v (s : Txn) : Value := .agg #[I s.coord, I s.life, I s.sq]
abbrev Txn.zero : Txn := ⟨0, 0, 0⟩
@[ext] structure Val where
  kind : Int
  num : Nat
  text : BA
  deriving DecidableEq
abbrev Val.l (x : Val) : List Value := [I x.kind, .float .f64 x.num, .string x.text]
abbrev Val.v (x : Val) : Value := .agg #[I x.kind, .float .f64 x.num, .string x.text]
abbrev Val.zero : Val := ⟨0, 0, ⟨#[]⟩⟩
@[ext] structure KV where
  key : BA
  val : Val
  deriving DecidableEq
abbrev KV.l (x : KV) : List Value := [.string x.key, I x.val.kind, .float .f64 x.val.num, .string x.val.text]
abbrev S1 (x : BA) : List Value := [.string x]
abbrev I1 (x : Int) : List Value := [I x]
@[ext] structure Ver where
  stamp : Stamp
  val : Val
  deriving DecidableEq
abbrev Ver.l (x : Ver) : List Value := [I x.stamp.wall, I x.stamp.logic, I x.stamp.node, I x.val.kind, .float .f64 x.val.num, .string x.val.text]
@[ext] structure Hist where
  key : BA
  vers : List Ver
  deriving DecidableEq
abbrev Hist.l (h : Hist) (vv : Value) : List Value := [.string h.key, vv]
def Hist.rd (w : World) (X : XS) (l : List Value) (h : Hist) : Prop := ∃ vv, l = h.l vv ∧ Sl w X 6 vv (h.vers.map Ver.l)
@[ext] structure Pend where
  txn : Txn
  stamp : Stamp
  reads : List BA
  writes : List KV
  deriving DecidableEq
abbrev Pend.l (p : Pend) (vr vw : Value) : List Value := [I p.txn.coord, I p.txn.life, I p.txn.sq, I p.stamp.wall, I p.stamp.logic, I p.stamp.node, vr, vw]
abbrev Pend.v (p : Pend) (vr vw : Value) : Value := .agg #[I p.txn.coord, I p.txn.life, I p.txn.sq, I p.stamp.wall, I p.stamp.logic, I p.stamp.node, vr, vw]
def Pend.rd (w : World) (X : XS) (l : List Value) (p : Pend) : Prop := ∃ vr vw, l = p.l vr vw ∧ Sl w X 1 vr (p.reads.map S1) ∧ Sl w X 4 vw (p.writes.map KV.l)
@[ext] structure Rng where
  id : Int
  epoch : Int
  lo : Nat
  hi : Nat
  deriving DecidableEq
abbrev Rng.l (r : Rng) : List Value := [I r.id, I r.epoch, .float .f64 r.lo, .float .f64 r.hi]
abbrev Rng.v (r : Rng) : Value := .agg #[I r.id, I r.epoch, .float .f64 r.lo, .float .f64 r.hi]
@[ext] structure State where
  range : Rng
  floor : Stamp
  closed : Stamp
  hists : List Hist
  pend : List Pend
  deriving DecidableEq
abbrev State.l (s : State) (vh vp : Value) : List Value := [I s.range.id, I s.range.epoch, .float .f64 s.range.lo, .float .f64 s.range.hi,
  I s.floor.wall, I s.floor.logic, I s.floor.node, I s.closed.wall, I s.closed.logic, I s.closed.node, vh, vp]
abbrev State.v (s : State) (vh vp : Value) : Value := .agg #[I s.range.id, I s.range.epoch, .float .f64 s.range.lo, .float .f64 s.range.hi,
  I s.floor.wall, I s.floor.logic, I s.floor.node, I s.closed.wall, I s.closed.logic, I s.closed.node, vh, vp]
abbrev Hists (w : World) (X : XS) (v : Value) (l : List Hist) : Prop := Rws w X 2 v Hist.rd l
abbrev Pends (w : World) (X : XS) (v : Value) (l : List Pend) : Prop := Rws w X 8 v Pend.rd l
def State.rd (w : World) (X : XS) (l : List Value) (s : State) : Prop := ∃ vh vp, l = s.l vh vp ∧ Hists w X vh s.hists ∧ Pends w X vp s.pend
@[ext] structure Rec where
  kind : Int
  txn : Txn
  stamp : Stamp
  prev : Stamp
  commit : Bool
  n : Int
  point : Nat
  reads : List BA
  writes : List KV
  parts : List Int
  pairs : List KV
  state : State
  deriving DecidableEq
abbrev Rec.l (r : Rec) (vr vw vp vq vh vd : Value) : List Value := [I r.kind, I r.txn.coord, I r.txn.life, I r.txn.sq, I r.stamp.wall, I r.stamp.logic, I r.stamp.node,
  I r.prev.wall, I r.prev.logic, I r.prev.node, B r.commit, I r.n, .float .f64 r.point, vr, vw, vp, vq, I r.state.range.id, I r.state.range.epoch, .float .f64 r.state.range.lo, .float .f64 r.state.range.hi,
  I r.state.floor.wall, I r.state.floor.logic, I r.state.floor.node, I r.state.closed.wall, I r.state.closed.logic, I r.state.closed.node, vh, vd]
abbrev Rec.v (r : Rec) (vr vw vp vq vh vd : Value) : Value := .agg #[I r.kind, I r.txn.coord, I r.txn.life, I r.txn.sq, I r.stamp.wall, I r.stamp.logic, I r.stamp.node,
  I r.prev.wall, I r.prev.logic, I r.prev.node, B r.commit, I r.n, .float .f64 r.point, vr, vw, vp, vq, I r.state.range.id, I r.state.range.epoch, .float .f64 r.state.range.lo, .float .f64 r.state.range.hi,
  I r.state.floor.wall, I r.state.floor.logic, I r.state.floor.node, I r.state.closed.wall, I r.state.closed.logic, I r.state.closed.node, vh, vd]
def Rec.at (w : World) (X : XS) (r : Rec) (vr vw vp vq vh vd : Value) : Prop :=
  Sl w X 1 vr (r.reads.map S1) ∧ Sl w X 4 vw (r.writes.map KV.l) ∧ Sl w X 1 vp (r.parts.map I1) ∧ Sl w X 4 vq (r.pairs.map KV.l) ∧ Hists w X vh r.state.hists ∧ Pends w X vd r.state.pend
def Rec.rd (w : World) (X : XS) (l : List Value) (r : Rec) : Prop := ∃ vr vw vp vq vh vd, l = r.l vr vw vp vq vh vd ∧ r.at w X vr vw vp vq vh vd
theorem Hist.mv : Moves Hist.rd := fun ⟨vv, h, h1⟩ m => ⟨vv, h, h1.mv m⟩
theorem Pend.mv : Moves Pend.rd := fun ⟨vr, vw, h, h1, h2⟩ m => ⟨vr, vw, h, h1.mv m, h2.mv m⟩
theorem Hists.mv {w w' : World} {X Y : XS} {v : Value} {l : List Hist} (h : Hists w X v l) (m : Mv X w Y w') : Hists w' Y v l := Rws.mv h Hist.mv m
theorem Pends.mv {w w' : World} {X Y : XS} {v : Value} {l : List Pend} (h : Pends w X v l) (m : Mv X w Y w') : Pends w' Y v l := Rws.mv h Pend.mv m
theorem Rec.at.mv {w w' : World} {X Y : XS} {r : Rec} {vr vw vp vq vh vd : Value} (h : r.at w X vr vw vp vq vh vd) (m : Mv X w Y w') : r.at w' Y vr vw vp vq vh vd :=
  ⟨h.1.mv m, h.2.1.mv m, h.2.2.1.mv m, h.2.2.2.1.mv m, Rws.mv h.2.2.2.2.1 Hist.mv m, Rws.mv h.2.2.2.2.2 Pend.mv m⟩
theorem Rec.mv : Moves Rec.rd := fun ⟨vr, vw, vp, vq, vh, vd, h, h1⟩ m => ⟨vr, vw, vp, vq, vh, vd, h, h1.mv m⟩
section
variable {P : Program} {X X0 : XS} {w w0 : World} {N : Value → Prop}
theorem m_ixP {t : TypeId} {v : Value} {xs : List Pend} {i : Nat} {z : Int} {x : Pend} (h : Pends w0 X0 v xs) (hr : xs[i]? = some x)
    (hz : z = i) (ht : P.underlying t = some (.slice (P.elem t))) (hs : (P.info? (P.elem t)).map (·.size) = some 8)
    (n : ∀ b o vr vw, one vr = true → one vw = true → Cells w0 X0 b o (x.l vr vw) → Sl w0 X0 1 vr (x.reads.map S1) → Sl w0 X0 4 vw (x.writes.map KV.l) → N (ptr b o)) : rdV P X w (ixS t 8 v (.int .i64 z)) N :=
  m_ixR h hr hz ht hs fun b o _ hc ⟨vr, vw, hl, h1, h2⟩ => n b o vr vw h1.one h2.one (hl ▸ hc) h1 h2
theorem m_ixH {t : TypeId} {v : Value} {xs : List Hist} {i : Nat} {z : Int} {x : Hist} (h : Hists w0 X0 v xs) (hr : xs[i]? = some x)
    (hz : z = i) (ht : P.underlying t = some (.slice (P.elem t))) (hs : (P.info? (P.elem t)).map (·.size) = some 2)
    (n : ∀ b o vv, one vv = true → Cells w0 X0 b o (x.l vv) → Sl w0 X0 6 vv (x.vers.map Ver.l) → N (ptr b o)) : rdV P X w (ixS t 2 v (.int .i64 z)) N :=
  m_ixR h hr hz ht hs fun b o _ hc ⟨vv, hl, h1⟩ => n b o vv h1.one (hl ▸ hc) h1
theorem m_ixRec {t : TypeId} {v : Value} {xs : List Rec} {i : Nat} {z : Int} {x : Rec} (h : Rws w0 X0 29 v Rec.rd xs) (hr : xs[i]? = some x)
    (hz : z = i) (ht : P.underlying t = some (.slice (P.elem t))) (hs : (P.info? (P.elem t)).map (·.size) = some 29)
    (n : ∀ b o vr vw vp vq vh vd, one vr = true → one vw = true → one vp = true → one vq = true → one vh = true → one vd = true →
      Cells w0 X0 b o (x.l vr vw vp vq vh vd) → x.at w0 X0 vr vw vp vq vh vd → N (ptr b o)) : rdV P X w (ixS t 29 v (.int .i64 z)) N :=
  m_ixR h hr hz ht hs fun b o _ hc ⟨vr, vw, vp, vq, vh, vd, hl, h1⟩ => n b o vr vw vp vq vh vd h1.1.one h1.2.1.one h1.2.2.1.one h1.2.2.2.1.one h1.2.2.2.2.1.one h1.2.2.2.2.2.one (hl ▸ hc) h1
theorem r_eqS {t : TypeId} {xo yo : Operand} (a b : Stamp) (h : intStruct P t 3 = true) (hT : a = b → N (.bool true)) (hF : ¬ a = b → N (.bool false)) :
    rdV P X w (binS .eql t xo yo a.v b.v) N := r_eql3 h (fun h1 h2 h3 => hT (Stamp.ext h1 h2 h3)) fun hn => hF fun e => hn (by subst e; exact ⟨rfl, rfl, rfl⟩)
theorem r_neS {t : TypeId} {xo yo : Operand} (a b : Stamp) (h : intStruct P t 3 = true) (hT : ¬ a = b → N (.bool true)) (hF : a = b → N (.bool false)) :
    rdV P X w (binS .neq t xo yo a.v b.v) N := r_neq3 h (fun hn => hT fun e => hn (by subst e; exact ⟨rfl, rfl, rfl⟩)) fun h1 h2 h3 => hF (Stamp.ext h1 h2 h3)
theorem r_eqS0 {t : TypeId} {xo yo : Operand} (a : Stamp) (h : intStruct P t 3 = true) (hT : a = .zero → N (.bool true)) (hF : ¬ a = .zero → N (.bool false)) :
    rdV P X w (binS .eql t xo yo a.v (.agg #[I 0, I 0, I 0])) N := r_eqS a .zero h hT hF
theorem r_neS0 {t : TypeId} {xo yo : Operand} (a : Stamp) (h : intStruct P t 3 = true) (hT : ¬ a = .zero → N (.bool true)) (hF : a = .zero → N (.bool false)) :
    rdV P X w (binS .neq t xo yo a.v (.agg #[I 0, I 0, I 0])) N := r_neS a .zero h hT hF
theorem r_eqT {t : TypeId} {xo yo : Operand} (a b : Txn) (h : intStruct P t 3 = true) (hT : a = b → N (.bool true)) (hF : ¬ a = b → N (.bool false)) :
    rdV P X w (binS .eql t xo yo a.v b.v) N := r_eql3 h (fun h1 h2 h3 => hT (Txn.ext h1 h2 h3)) fun hn => hF fun e => hn (by subst e; exact ⟨rfl, rfl, rfl⟩)
theorem r_eqT0 {t : TypeId} {xo yo : Operand} (a : Txn) (h : intStruct P t 3 = true) (hT : a = .zero → N (.bool true)) (hF : ¬ a = .zero → N (.bool false)) :
    rdV P X w (binS .eql t xo yo a.v (.agg #[I 0, I 0, I 0])) N := r_eqT a .zero h hT hF
end
end Go.Proofs.YtnphlhpdikmpiaaGreat
namespace Go.Proofs.YtnphlhpdikmpiaaGreat
open Go.Eng
set_option maxRecDepth 100000
set_option maxHeartbeats 1000000
set_option linter.unusedVariables false
set_option linter.unusedSimpArgs false
attribute [local irreducible] un jn chk fld ld1 ldA st1 ixS lnS lnT bld cvI cvF ixA bsS apS rdV rdW grdW eW eV eU eC eF gE condW fin pickN nilN binS vS lp0 lp1 lp2 lp3 lp4 lp5 lp6 lp7 nx0 nx1 nx2 nx3 nx4 nx5 nx6 nx7
def Stamp.cmp (a b : Stamp) : Int :=
  let p := if a.wall ≠ b.wall then (a.wall, b.wall) else if a.logic ≠ b.logic then (a.logic, b.logic) else (a.node, b.node)
  if p.1 < p.2 then -1 else if p.1 > p.2 then 1 else 0
def Txn.less (a b : Txn) : Bool :=
  if a.coord ≠ b.coord then a.coord < b.coord else if a.life ≠ b.life then a.life < b.life else a.sq < b.sq
def Txn.may (a : Txn) : Bool := a.coord ≥ 1 && a.coord ≤ 2 && a.life ≥ 1 && a.sq ≥ 1
def Stamp.may (a : Stamp) : Bool := a.wall ≥ 0 && a.wall ≤ 281474976710656 && a.logic ≥ 0 && a.logic ≤ 65535 && a.node ≥ 0 && a.node ≤ 63
def Stamp.later (a b : Stamp) : Stamp := if a.cmp b < 0 then b else a
def Stamp.moment (a : Stamp) : Bool := a.may && !decide (a = .zero)
def Stamp.prior (s : Stamp) : Stamp × Bool :=
  if !s.may || decide (s = .zero) then (.zero, false)
  else if s.node > 0 then (⟨s.wall, s.logic, s.node - 1⟩, true)
  else if s.logic > 0 then (⟨s.wall, s.logic - 1, 63⟩, true)
  else (⟨s.wall - 1, 65535, 63⟩, true)
theorem Stamp.may_iff {a : Stamp} : a.may = true ↔ 0 ≤ a.wall ∧ a.wall ≤ 281474976710656 ∧ 0 ≤ a.logic ∧ a.logic ≤ 65535 ∧ 0 ≤ a.node ∧ a.node ≤ 63 := by
  simp [Stamp.may, and_assoc]
theorem c_hlc_Compare (a b : Stamp) : Pure Tryz.prog 50 #[a.v, b.v] (I (a.cmp b)) := by
  intro w0
  apply ok_hlc_Compare; unfold vc_hlc_Compare
  have hs := Since.init w0
  repeat' first | with_reducible (first | apply condW_T | apply condW_F) | (with_reducible apply r_lss <;> intro _) | (with_reducible apply r_neq <;> intro _) | (with_reducible apply r_gtr <;> intro _) | with_reducible apply jn_of | ((with_reducible refine fin_pure hs ?_); simp_all [Stamp.cmp] <;> omega)
theorem c_mvcc_TxnMay (a : Txn) : Pure Tryz.prog 105 #[a.v] (B a.may) := by
  intro w0
  apply ok_mvcc_TxnMay; unfold vc_mvcc_TxnMay
  have hs := Since.init w0
  repeat' first | with_reducible (first | apply un_selT | apply un_selFT | apply grdV_onT | apply grdW_offT | apply rdW_pickT | apply rdW_pickF) | (with_reducible apply r_leq <;> intro _) | (with_reducible apply r_geq <;> intro _) | ((with_reducible refine fin_pure hs ?_); simp_all [Txn.may] <;> omega)
theorem c_hlc_May (a : Stamp) : Pure Tryz.prog 78 #[a.v] (B a.may) := by
  intro w0
  apply ok_hlc_May; unfold vc_hlc_May
  have hs := Since.init w0
  repeat' first | with_reducible (first | apply un_selT | apply un_selFT | apply grdV_onT | apply grdW_offT | apply rdW_pickT | apply rdW_pickF) | (with_reducible apply r_leq <;> intro _) | (with_reducible apply r_geq <;> intro _) | ((with_reducible refine fin_pure hs ?_); simp_all [Stamp.may] <;> omega)
theorem c_hlc_Later (a b : Stamp) : Pure Tryz.prog 27 #[a.v, b.v] (a.later b).v := by
  intro w0
  apply ok_hlc_Later; unfold vc_hlc_Later
  have hs := Since.init w0
  repeat' first | with_reducible (first | apply condW_T | apply condW_F) | (with_reducible apply r_lss <;> intro _) | ((with_reducible refine r_pure (c_hlc_Compare _ _) ?_ hs.has ?_); (· kernel_rfl); intro w X hs1; replace hs := hs.trans hs1) | ((with_reducible refine fin_pure hs ?_); simp_all [Stamp.later] <;> grind)
theorem c_recs_ranges (n : Int) : Pure Tryz.prog 108 #[I n] (B (decide (n ≥ 1) && decide (n ≤ 12))) := by
  intro w0
  apply ok_recs_ranges; unfold vc_recs_ranges
  have hs := Since.init w0
  repeat' first | with_reducible (first | apply un_selT | apply un_selFT | apply grdV_onT | apply grdW_offT | apply rdW_pickT | apply rdW_pickF) | (with_reducible apply r_leq <;> intro _) | (with_reducible apply r_geq <;> intro _) | ((with_reducible refine fin_pure hs ?_); simp_all <;> omega)
theorem c_recs_moment (a : Stamp) : Pure Tryz.prog 109 #[a.v] (B a.moment) := by
  intro w0
  apply ok_recs_moment; unfold vc_recs_moment
  have hs := Since.init w0
  repeat' first | with_reducible (first | apply un_selT | apply un_selFT | apply grdV_onT | apply grdW_offT | apply rdW_pickT | apply rdW_pickF) | ((with_reducible apply r_bld); (· kernel_rfl)) | ((with_reducible refine r_neS0 _ ?_ ?_ ?_); (· kernel_rfl); all_goals intros) | ((with_reducible refine r_pureB (c_hlc_May _) ?_ hs.has ?_ ?_); (· kernel_rfl); all_goals (intro _ w X hs1; replace hs := hs.trans hs1)) | ((with_reducible refine fin_pure hs ?_); simp_all [Stamp.moment])
def Stamp.decided (c : Bool) (a : Stamp) : Bool := if c then a.moment else decide (a = .zero)
theorem c_recs_decided (c : Bool) (a : Stamp) : Pure Tryz.prog 106 #[B c, a.v] (B (a.decided c)) := by
  intro w0
  apply ok_recs_decided; unfold vc_recs_decided
  have hs := Since.init w0
  repeat' first | ((with_reducible apply r_bld); (· kernel_rfl)) | ((with_reducible refine r_eqS0 _ ?_ ?_ ?_); (· kernel_rfl); all_goals intros) | (with_reducible apply condW_b <;> intro _) | ((with_reducible refine r_pureB (c_recs_moment _) ?_ hs.has ?_ ?_); (· kernel_rfl); all_goals (intro _ w X hs1; replace hs := hs.trans hs1)) | ((with_reducible refine fin_pure hs ?_); simp_all [Stamp.decided])
theorem c_hlc_Prior (s : Stamp) : Pure Tryz.prog 49 #[s.v] (.tuple #[s.prior.1.v, B s.prior.2]) := by
  intro w0
  apply ok_hlc_Prior; unfold vc_hlc_Prior
  have hs := Since.init w0
  repeat' first | with_reducible (first | apply condW_T | apply condW_F) | ((with_reducible apply m_sub); (· (simp only [Value.cells, nq1, nq2, nq3, nq4, nq5, nq6, setL, nq7, nq8, nq9, nq0, Nat.reduceAdd, Nat.zero_add]; try rfl))) | with_reducible (first | apply un_box | apply un_selF | apply un_selTF | apply grdV_onF | apply grdW_offF | apply rdW_pickT | apply rdW_pickF | apply r_notT | apply r_notF) | (with_reducible apply r_gtr <;> intro _) | ((with_reducible apply r_bld); (· kernel_rfl)) | ((with_reducible refine r_eqS0 _ ?_ ?_ ?_); (· kernel_rfl); all_goals intros) | ((with_reducible apply m_chkc); (case h => (repeat' first | with_reducible apply all_one_cons | with_reducible exact all_one_nil | assumption | rfl | exact Sl.one (by assumption) | exact Rws.one (by assumption) | exact Sl.one (Own.sl (by assumption))))) | ((with_reducible apply chk_T); (· first | rfl | assumption | exact Sl.one (by assumption) | exact Rws.one (by assumption) | exact Sl.one (Own.sl (by assumption)))) | with_reducible apply jn_of | ((with_reducible refine r_pureB (c_hlc_May _) ?_ hs.has ?_ ?_); (· kernel_rfl); all_goals (intro _ w X hs1; replace hs := hs.trans hs1)) | ((with_reducible refine fin_pure hs ?_); (simp_all [Stamp.prior] <;> grind)) | (have hb := Stamp.may_iff.1 ‹_›; (with_reducible refine r_sub ?_ ?_ ?_); (· omega); (· omega))
theorem run_bits (x : Nat) (wa : World) : (callFunc 72 #[.float .f64 x]).run Tryz.prog wa = .ok (.value (.int .u64 x)) wa := by kernel_rfl
theorem run_frombits (x : Int) (wa : World) : (callFunc 165 #[.int .u64 x]).run Tryz.prog wa = .ok (.value (.float .f64 x.toNat)) wa := by kernel_rfl
theorem c_raceref_Bits (a b : Nat) : Pure Tryz.prog 37 #[.float .f64 a, .float .f64 b] (B (decide (a = b))) := by
  intro w0
  apply ok_raceref_Bits; unfold vc_raceref_Bits
  have hs := Since.init w0
  repeat' first | (with_reducible apply r_eql <;> intro _) | ((with_reducible refine fin_pure hs ?_); simp_all [Int.ofNat_inj]) | ((with_reducible refine eC_val (run_bits _) hs.has ?_); intro w X hs1; replace hs := hs.trans hs1)
theorem c_raceref_Value (a b : Val) : Pure Tryz.prog 73 #[a.v, b.v] (B (decide (a = b))) := by
  intro w0
  apply ok_raceref_Value; unfold vc_raceref_Value
  have hs := Since.init w0
  repeat' first | with_reducible (first | apply un_selT | apply un_selFT | apply grdV_onT | apply grdW_offT | apply rdW_pickT | apply rdW_pickF | apply gE_T | apply gE_FT) | (with_reducible apply r_eql <;> intro _) | (with_reducible apply r_seql <;> intro _) | with_reducible apply jn_of | ((with_reducible refine r_pureB (c_raceref_Bits _ _) ?_ hs.has ?_ ?_); (· kernel_rfl); all_goals (intro _ w X hs1; replace hs := hs.trans hs1)) | ((with_reducible refine fin_pure hs ?_); simp_all [Val.ext_iff])
theorem c_raceref_Range (a b : Rng) : Pure Tryz.prog 74 #[a.v, b.v] (B (decide (a = b))) := by
  intro w0
  apply ok_raceref_Range; unfold vc_raceref_Range
  have hs := Since.init w0
  repeat' first | with_reducible (first | apply un_selT | apply un_selFT | apply grdV_onT | apply grdW_offT | apply rdW_pickT | apply rdW_pickF | apply gE_T | apply gE_FT) | (with_reducible apply r_eql <;> intro _) | with_reducible apply jn_of | ((with_reducible refine r_pureB (c_raceref_Bits _ _) ?_ hs.has ?_ ?_); (· kernel_rfl); all_goals (intro _ w X hs1; replace hs := hs.trans hs1)) | ((with_reducible refine fin_pure hs ?_); simp_all [Rng.ext_iff])
end Go.Proofs.YtnphlhpdikmpiaaGreat
namespace Go.Proofs.YtnphlhpdikmpiaaGreat
open Go.Eng
set_option maxRecDepth 100000
set_option maxHeartbeats 1000000
set_option linter.unusedVariables false
set_option linter.unusedSimpArgs false
attribute [local irreducible] un jn chk fld ld1 ldA st1 ixS lnS lnT bld cvI cvF ixA bsS apS rdV rdW grdW eW eV eU eC eF gE condW fin pickN nilN binS vS lp0 lp1 lp2 lp3 lp4 lp5 lp6 lp7 nx0 nx1 nx2 nx3 nx4 nx5 nx6 nx7
theorem d_raceref_Texts {w : World} {X : XS} {a b : Value} {xs ys : List BA} (ha : Sl w X 1 a (xs.map S1)) (hb : Sl w X 1 b (ys.map S1)) :
    Ct Tryz.prog 38 #[a, b] w X nX fun v _ _ => v = B (decide (xs = ys)) := by
    intro w0 hk
    replace ha := ha.mv hk.mvo
    replace hb := hb.mv hk.mvo
    have hla := ha.len'
    apply ok_raceref_Texts; unfold vc_raceref_Texts
    have hs := Since.init w0
    repeat' first | with_reducible (first | apply condW_T | apply condW_F) | (with_reducible apply r_neq <;> intro _) | ((with_reducible apply m_lnS); (· (first | assumption | exact Own.sl (by assumption))); (· kernel_rfl)) | ((first | (with_reducible refine fin_ret0 hs ?_) | (with_reducible refine fin_ret0 (hs0.trans hs) ?_)); intro wa hk; (simp only [B, Value.bool.injEq]; symm; rw [decide_eq_false_iff_not]; rintro rfl; omega))
    have hlen : xs.length = ys.length := by omega
    refine lp1_of (fun n a w X => ∃ i : Nat, a = I (i : Nat) ∧ n = (xs).length - i ∧ i ≤ (xs).length ∧ Since (old w0) w0 X w ∧ (xs = ys ↔ xs.drop i = ys.drop i)) (xs).length ⟨0, rfl, rfl, Nat.zero_le _, hs, by simp⟩ ?_
    rintro n a w X ⟨i, rfl, rfl, hi, hs, hw⟩
    rcases at_or (xs) i with ⟨hlt, x, hx, hd⟩ | ⟨hge, hd⟩
    · obtain ⟨y, hy, hdy⟩ := at_drop (xs := ys) (i := i) (by omega)
      repeat' first | ((with_reducible refine r_lssT ?_ ?_); (· omega)) | with_reducible (first | apply condW_T | apply condW_F) | (with_reducible apply r_sneq <;> intro _) | ((with_reducible apply m_ld1); (· (first | assumption | exact RowIs.cells (by assumption))); (· (first | exact mv0 | exact mv1 (by assumption) | exact mv2 (by assumption) (by assumption))); (· kernel_rfl); (· rfl)) | ((with_reducible apply m_lnS); (· (first | assumption | exact Own.sl (by assumption))); (· kernel_rfl)) | ((with_reducible apply m_ixS); (· (first | assumption | exact Own.sl (by assumption))); (try (case hz => rfl)); (case hr => first | assumption | exact List.getElem?_eq_getElem (by omega)); (try (case hz => omega)); (case ht => kernel_rfl); (case hs => kernel_rfl); intro _ _ _) | ((with_reducible apply r_add); (· omega); (· omega)) | ((first | (with_reducible refine fin_ret0 hs ?_) | (with_reducible refine fin_ret0 (hs0.trans hs) ?_)); intro wa hk; (simp_all [decide_true])) | ((with_reducible refine nx1_of ((xs).length - (i + 1)) ?_ ?_); (· omega); exact ⟨i + 1, by simp, rfl, by omega, hs, by simp_all [decide_true]⟩)
    · have hdy := List.drop_of_length_le (l := ys) (i := i) (by omega)
      repeat' first | ((with_reducible refine r_lssF ?_ ?_); (· omega)) | with_reducible apply condW_F | ((with_reducible apply m_lnS); (· (first | assumption | exact Own.sl (by assumption))); (· kernel_rfl)) | ((first | (with_reducible refine fin_ret0 hs ?_) | (with_reducible refine fin_ret0 (hs0.trans hs) ?_)); intro wa hk; simp_all)
theorem d_raceref_Ints {w : World} {X : XS} {a b : Value} {xs ys : List Int} (ha : Sl w X 1 a (xs.map I1)) (hb : Sl w X 1 b (ys.map I1)) :
    Ct Tryz.prog 40 #[a, b] w X nX fun v _ _ => v = B (decide (xs = ys)) := by
    intro w0 hk
    replace ha := ha.mv hk.mvo
    replace hb := hb.mv hk.mvo
    have hla := ha.len'
    apply ok_raceref_Ints; unfold vc_raceref_Ints
    have hs := Since.init w0
    repeat' first | with_reducible (first | apply condW_T | apply condW_F) | (with_reducible apply r_neq <;> intro _) | ((with_reducible apply m_lnS); (· (first | assumption | exact Own.sl (by assumption))); (· kernel_rfl)) | ((first | (with_reducible refine fin_ret0 hs ?_) | (with_reducible refine fin_ret0 (hs0.trans hs) ?_)); intro wa hk; (simp only [B, Value.bool.injEq]; symm; rw [decide_eq_false_iff_not]; rintro rfl; omega))
    have hlen : xs.length = ys.length := by omega
    refine lp1_of (fun n a w X => ∃ i : Nat, a = I (i : Nat) ∧ n = (xs).length - i ∧ i ≤ (xs).length ∧ Since (old w0) w0 X w ∧ (xs = ys ↔ xs.drop i = ys.drop i)) (xs).length ⟨0, rfl, rfl, Nat.zero_le _, hs, by simp⟩ ?_
    rintro n a w X ⟨i, rfl, rfl, hi, hs, hw⟩
    rcases at_or (xs) i with ⟨hlt, x, hx, hd⟩ | ⟨hge, hd⟩
    · obtain ⟨y, hy, hdy⟩ := at_drop (xs := ys) (i := i) (by omega)
      repeat' first | ((with_reducible refine r_lssT ?_ ?_); (· omega)) | with_reducible (first | apply condW_T | apply condW_F) | (with_reducible apply r_neq <;> intro _) | ((with_reducible apply m_ld1); (· (first | assumption | exact RowIs.cells (by assumption))); (· (first | exact mv0 | exact mv1 (by assumption) | exact mv2 (by assumption) (by assumption))); (· kernel_rfl); (· rfl)) | ((with_reducible apply m_lnS); (· (first | assumption | exact Own.sl (by assumption))); (· kernel_rfl)) | ((with_reducible apply m_ixS); (· (first | assumption | exact Own.sl (by assumption))); (try (case hz => rfl)); (case hr => first | assumption | exact List.getElem?_eq_getElem (by omega)); (try (case hz => omega)); (case ht => kernel_rfl); (case hs => kernel_rfl); intro _ _ _) | ((with_reducible apply r_add); (· omega); (· omega)) | ((first | (with_reducible refine fin_ret0 hs ?_) | (with_reducible refine fin_ret0 (hs0.trans hs) ?_)); intro wa hk; (simp_all [decide_true])) | ((with_reducible refine nx1_of ((xs).length - (i + 1)) ?_ ?_); (· omega); exact ⟨i + 1, by simp, rfl, by omega, hs, by simp_all [decide_true]⟩)
    · have hdy := List.drop_of_length_le (l := ys) (i := i) (by omega)
      repeat' first | ((with_reducible refine r_lssF ?_ ?_); (· omega)) | with_reducible apply condW_F | ((with_reducible apply m_lnS); (· (first | assumption | exact Own.sl (by assumption))); (· kernel_rfl)) | ((first | (with_reducible refine fin_ret0 hs ?_) | (with_reducible refine fin_ret0 (hs0.trans hs) ?_)); intro wa hk; simp_all)
theorem d_raceref_Writes {w : World} {X : XS} {a b : Value} {xs ys : List KV} (ha : Sl w X 4 a (xs.map KV.l)) (hb : Sl w X 4 b (ys.map KV.l)) :
    Ct Tryz.prog 39 #[a, b] w X nX fun v _ _ => v = B (decide (xs = ys)) := by
    intro w0 hk
    replace ha := ha.mv hk.mvo
    replace hb := hb.mv hk.mvo
    have hla := ha.len'
    apply ok_raceref_Writes; unfold vc_raceref_Writes
    have hs := Since.init w0
    repeat' first | with_reducible (first | apply condW_T | apply condW_F) | (with_reducible apply r_neq <;> intro _) | ((with_reducible apply m_lnS); (· (first | assumption | exact Own.sl (by assumption))); (· kernel_rfl)) | ((first | (with_reducible refine fin_ret0 hs ?_) | (with_reducible refine fin_ret0 (hs0.trans hs) ?_)); intro wa hk; (simp only [B, Value.bool.injEq]; symm; rw [decide_eq_false_iff_not]; rintro rfl; omega))
    have hlen : xs.length = ys.length := by omega
    refine lp1_of (fun n a w X => ∃ i : Nat, a = I (i : Nat) ∧ n = (xs).length - i ∧ i ≤ (xs).length ∧ Since (old w0) w0 X w ∧ (xs = ys ↔ xs.drop i = ys.drop i)) (xs).length ⟨0, rfl, rfl, Nat.zero_le _, hs, by simp⟩ ?_
    rintro n a w X ⟨i, rfl, rfl, hi, hs, hw⟩
    rcases at_or (xs) i with ⟨hlt, x, hx, hd⟩ | ⟨hge, hd⟩
    · obtain ⟨y, hy, hdy⟩ := at_drop (xs := ys) (i := i) (by omega)
      repeat' first | ((with_reducible refine r_lssT ?_ ?_); (· omega)) | with_reducible (first | apply condW_T | apply condW_F | apply un_selF | apply un_selTF | apply grdV_onF | apply grdW_offF | apply rdW_pickT | apply rdW_pickF | apply gE_F | apply gE_TF | apply r_notT | apply r_notF) | (with_reducible apply r_sneq <;> intro _) | ((with_reducible apply m_fld1); (· (first | assumption | exact RowIs.cells (by assumption))); (· kernel_rfl); (· rfl); intro _ _ _) | ((with_reducible apply m_fld); (· (first | assumption | exact RowIs.cells (by assumption))); (· kernel_rfl); (· rfl); (· (simp only [Value.cells, nq1, nq2, nq3, nq4, nq5, nq6, setL, nq7, nq8, nq9, nq0, Nat.reduceAdd, Nat.zero_add]; try rfl)); intro _ _ _) | ((with_reducible apply m_ld1); (· (first | assumption | exact RowIs.cells (by assumption))); (· (first | exact mv0 | exact mv1 (by assumption) | exact mv2 (by assumption) (by assumption))); (· kernel_rfl); (· rfl)) | ((with_reducible apply m_ldA); (· (first | assumption | exact RowIs.cells (by assumption))); (· (first | exact mv0 | exact mv1 (by assumption) | exact mv2 (by assumption) (by assumption))); (· kernel_rfl); (· rfl)) | ((with_reducible apply m_lnS); (· (first | assumption | exact Own.sl (by assumption))); (· kernel_rfl)) | ((with_reducible apply m_ixS); (· (first | assumption | exact Own.sl (by assumption))); (try (case hz => rfl)); (case hr => first | assumption | exact List.getElem?_eq_getElem (by omega)); (try (case hz => omega)); (case ht => kernel_rfl); (case hs => kernel_rfl); intro _ _ _) | ((with_reducible apply r_add); (· omega); (· omega)) | with_reducible apply jn_of | ((with_reducible refine r_pureB (c_raceref_Value _ _) ?_ hs.has ?_ ?_); (· kernel_rfl); all_goals (intro _ w X hs1; replace hs := hs.trans hs1)) | ((first | (with_reducible refine fin_ret0 hs ?_) | (with_reducible refine fin_ret0 (hs0.trans hs) ?_)); intro wa hk; (simp_all [KV.ext_iff, Val.ext_iff])) | ((with_reducible refine nx1_of ((xs).length - (i + 1)) ?_ ?_); (· omega); exact ⟨i + 1, by simp, rfl, by omega, hs, by simp_all [KV.ext_iff, Val.ext_iff]⟩)
    · have hdy := List.drop_of_length_le (l := ys) (i := i) (by omega)
      repeat' first | ((with_reducible refine r_lssF ?_ ?_); (· omega)) | with_reducible apply condW_F | ((with_reducible apply m_lnS); (· (first | assumption | exact Own.sl (by assumption))); (· kernel_rfl)) | ((first | (with_reducible refine fin_ret0 hs ?_) | (with_reducible refine fin_ret0 (hs0.trans hs) ?_)); intro wa hk; simp_all)
theorem d_raceref_Pairs {w : World} {X : XS} {a b : Value} {xs ys : List KV} (ha : Sl w X 4 a (xs.map KV.l)) (hb : Sl w X 4 b (ys.map KV.l)) :
    Ct Tryz.prog 41 #[a, b] w X nX fun v _ _ => v = B (decide (xs = ys)) := by
    intro w0 hk
    replace ha := ha.mv hk.mvo
    replace hb := hb.mv hk.mvo
    have hla := ha.len'
    apply ok_raceref_Pairs; unfold vc_raceref_Pairs
    have hs := Since.init w0
    repeat' first | with_reducible (first | apply condW_T | apply condW_F) | (with_reducible apply r_neq <;> intro _) | ((with_reducible apply m_lnS); (· (first | assumption | exact Own.sl (by assumption))); (· kernel_rfl)) | ((first | (with_reducible refine fin_ret0 hs ?_) | (with_reducible refine fin_ret0 (hs0.trans hs) ?_)); intro wa hk; (simp only [B, Value.bool.injEq]; symm; rw [decide_eq_false_iff_not]; rintro rfl; omega))
    have hlen : xs.length = ys.length := by omega
    refine lp1_of (fun n a w X => ∃ i : Nat, a = I (i : Nat) ∧ n = (xs).length - i ∧ i ≤ (xs).length ∧ Since (old w0) w0 X w ∧ (xs = ys ↔ xs.drop i = ys.drop i)) (xs).length ⟨0, rfl, rfl, Nat.zero_le _, hs, by simp⟩ ?_
    rintro n a w X ⟨i, rfl, rfl, hi, hs, hw⟩
    rcases at_or (xs) i with ⟨hlt, x, hx, hd⟩ | ⟨hge, hd⟩
    · obtain ⟨y, hy, hdy⟩ := at_drop (xs := ys) (i := i) (by omega)
      repeat' first | ((with_reducible refine r_lssT ?_ ?_); (· omega)) | with_reducible (first | apply condW_T | apply condW_F | apply un_selF | apply un_selTF | apply grdV_onF | apply grdW_offF | apply rdW_pickT | apply rdW_pickF | apply gE_F | apply gE_TF | apply r_notT | apply r_notF) | (with_reducible apply r_sneq <;> intro _) | ((with_reducible apply m_fld1); (· (first | assumption | exact RowIs.cells (by assumption))); (· kernel_rfl); (· rfl); intro _ _ _) | ((with_reducible apply m_fld); (· (first | assumption | exact RowIs.cells (by assumption))); (· kernel_rfl); (· rfl); (· (simp only [Value.cells, nq1, nq2, nq3, nq4, nq5, nq6, setL, nq7, nq8, nq9, nq0, Nat.reduceAdd, Nat.zero_add]; try rfl)); intro _ _ _) | ((with_reducible apply m_ld1); (· (first | assumption | exact RowIs.cells (by assumption))); (· (first | exact mv0 | exact mv1 (by assumption) | exact mv2 (by assumption) (by assumption))); (· kernel_rfl); (· rfl)) | ((with_reducible apply m_ldA); (· (first | assumption | exact RowIs.cells (by assumption))); (· (first | exact mv0 | exact mv1 (by assumption) | exact mv2 (by assumption) (by assumption))); (· kernel_rfl); (· rfl)) | ((with_reducible apply m_lnS); (· (first | assumption | exact Own.sl (by assumption))); (· kernel_rfl)) | ((with_reducible apply m_ixS); (· (first | assumption | exact Own.sl (by assumption))); (try (case hz => rfl)); (case hr => first | assumption | exact List.getElem?_eq_getElem (by omega)); (try (case hz => omega)); (case ht => kernel_rfl); (case hs => kernel_rfl); intro _ _ _) | ((with_reducible apply r_add); (· omega); (· omega)) | with_reducible apply jn_of | ((with_reducible refine r_pureB (c_raceref_Value _ _) ?_ hs.has ?_ ?_); (· kernel_rfl); all_goals (intro _ w X hs1; replace hs := hs.trans hs1)) | ((first | (with_reducible refine fin_ret0 hs ?_) | (with_reducible refine fin_ret0 (hs0.trans hs) ?_)); intro wa hk; (simp_all [KV.ext_iff, Val.ext_iff])) | ((with_reducible refine nx1_of ((xs).length - (i + 1)) ?_ ?_); (· omega); exact ⟨i + 1, by simp, rfl, by omega, hs, by simp_all [KV.ext_iff, Val.ext_iff]⟩)
    · have hdy := List.drop_of_length_le (l := ys) (i := i) (by omega)
      repeat' first | ((with_reducible refine r_lssF ?_ ?_); (· omega)) | with_reducible apply condW_F | ((with_reducible apply m_lnS); (· (first | assumption | exact Own.sl (by assumption))); (· kernel_rfl)) | ((first | (with_reducible refine fin_ret0 hs ?_) | (with_reducible refine fin_ret0 (hs0.trans hs) ?_)); intro wa hk; simp_all)
theorem d_raceref_Pending {w : World} {X : XS} {p q : Pend} {vr vw ur uw : Value} (h1 : Sl w X 1 vr (p.reads.map S1)) (h2 : Sl w X 4 vw (p.writes.map KV.l))
    (h3 : Sl w X 1 ur (q.reads.map S1)) (h4 : Sl w X 4 uw (q.writes.map KV.l)) :
    Ct Tryz.prog 51 #[p.v vr vw, q.v ur uw] w X nX fun v _ _ => v = B (decide (p = q)) := by
  intro w0 hk
  replace h1 := h1.mv hk.mvo
  replace h2 := h2.mv hk.mvo
  replace h3 := h3.mv hk.mvo
  replace h4 := h4.mv hk.mvo
  apply ok_raceref_Pending; unfold vc_raceref_Pending
  have hs := Since.init w0
  repeat' first | with_reducible (first | apply un_selT | apply un_selFT | apply grdV_onT | apply grdW_offT | apply rdW_pickT | apply rdW_pickF | apply gE_T | apply gE_FT) | ((with_reducible refine r_eqS _ _ ?_ ?_ ?_); (· kernel_rfl); all_goals intros) | ((with_reducible refine r_eqT _ _ ?_ ?_ ?_); (· kernel_rfl); all_goals intros) | with_reducible apply jn_of | ((first | (with_reducible refine fin_ret0 hs ?_) | (with_reducible refine fin_ret0 (hs0.trans hs) ?_)); intro wa hk; simp_all [Pend.ext_iff]) | (refine r_ct0B (d_raceref_Texts  (by first | assumption | exact Sl.mv (by assumption) (by (first | exact mv0 | exact mv1 (by assumption) | exact mv2 (by assumption) (by assumption))) | exact Pends.mv (by assumption) (by (first | exact mv0 | exact mv1 (by assumption) | exact mv2 (by assumption) (by assumption))) | exact Hists.mv (by assumption) (by (first | exact mv0 | exact mv1 (by assumption) | exact mv2 (by assumption) (by assumption))) | exact Rec.at.mv (by assumption) (by (first | exact mv0 | exact mv1 (by assumption) | exact mv2 (by assumption) (by assumption))) | exact Own.sl (by assumption) | exact Cells.mv (by assumption) (by (first | exact mv0 | exact mv1 (by assumption) | exact mv2 (by assumption) (by assumption))) | exact Cells.mv (RowIs.cells (by assumption)) (by (first | exact mv0 | exact mv1 (by assumption) | exact mv2 (by assumption) (by assumption))) | omega) (by first | assumption | exact Sl.mv (by assumption) (by (first | exact mv0 | exact mv1 (by assumption) | exact mv2 (by assumption) (by assumption))) | exact Pends.mv (by assumption) (by (first | exact mv0 | exact mv1 (by assumption) | exact mv2 (by assumption) (by assumption))) | exact Hists.mv (by assumption) (by (first | exact mv0 | exact mv1 (by assumption) | exact mv2 (by assumption) (by assumption))) | exact Rec.at.mv (by assumption) (by (first | exact mv0 | exact mv1 (by assumption) | exact mv2 (by assumption) (by assumption))) | exact Own.sl (by assumption) | exact Cells.mv (by assumption) (by (first | exact mv0 | exact mv1 (by assumption) | exact mv2 (by assumption) (by assumption))) | exact Cells.mv (RowIs.cells (by assumption)) (by (first | exact mv0 | exact mv1 (by assumption) | exact mv2 (by assumption) (by assumption))) | omega)) (by kernel_rfl) hs.has ?_ ?_ <;> (intro _ w X hs1; replace hs := hs.trans hs1)) | (refine r_ct0B (d_raceref_Writes  (by first | assumption | exact Sl.mv (by assumption) (by (first | exact mv0 | exact mv1 (by assumption) | exact mv2 (by assumption) (by assumption))) | exact Pends.mv (by assumption) (by (first | exact mv0 | exact mv1 (by assumption) | exact mv2 (by assumption) (by assumption))) | exact Hists.mv (by assumption) (by (first | exact mv0 | exact mv1 (by assumption) | exact mv2 (by assumption) (by assumption))) | exact Rec.at.mv (by assumption) (by (first | exact mv0 | exact mv1 (by assumption) | exact mv2 (by assumption) (by assumption))) | exact Own.sl (by assumption) | exact Cells.mv (by assumption) (by (first | exact mv0 | exact mv1 (by assumption) | exact mv2 (by assumption) (by assumption))) | exact Cells.mv (RowIs.cells (by assumption)) (by (first | exact mv0 | exact mv1 (by assumption) | exact mv2 (by assumption) (by assumption))) | omega) (by first | assumption | exact Sl.mv (by assumption) (by (first | exact mv0 | exact mv1 (by assumption) | exact mv2 (by assumption) (by assumption))) | exact Pends.mv (by assumption) (by (first | exact mv0 | exact mv1 (by assumption) | exact mv2 (by assumption) (by assumption))) | exact Hists.mv (by assumption) (by (first | exact mv0 | exact mv1 (by assumption) | exact mv2 (by assumption) (by assumption))) | exact Rec.at.mv (by assumption) (by (first | exact mv0 | exact mv1 (by assumption) | exact mv2 (by assumption) (by assumption))) | exact Own.sl (by assumption) | exact Cells.mv (by assumption) (by (first | exact mv0 | exact mv1 (by assumption) | exact mv2 (by assumption) (by assumption))) | exact Cells.mv (RowIs.cells (by assumption)) (by (first | exact mv0 | exact mv1 (by assumption) | exact mv2 (by assumption) (by assumption))) | omega)) (by kernel_rfl) hs.has ?_ ?_ <;> (intro _ w X hs1; replace hs := hs.trans hs1))
theorem d_raceref_Pendings {w : World} {X : XS} {a b : Value} {xs ys : List Pend} (ha : Pends w X a xs) (hb : Pends w X b ys) :
    Ct Tryz.prog 20 #[a, b] w X nX fun v _ _ => v = B (decide (xs = ys)) := by
    intro w0 hk
    replace ha := ha.mv hk.mvo
    replace hb := hb.mv hk.mvo
    have hla := ha.len
    apply ok_raceref_Pendings; unfold vc_raceref_Pendings
    have hs := Since.init w0
    repeat' first | with_reducible (first | apply condW_T | apply condW_F) | (with_reducible apply r_neq <;> intro _) | ((with_reducible apply m_lnR); (· assumption); (· kernel_rfl)) | ((first | (with_reducible refine fin_ret0 hs ?_) | (with_reducible refine fin_ret0 (hs0.trans hs) ?_)); intro wa hk; (simp only [B, Value.bool.injEq]; symm; rw [decide_eq_false_iff_not]; rintro rfl; omega))
    have hlen : xs.length = ys.length := by omega
    refine lp1_of (fun n a w X => ∃ i : Nat, a = I (i : Nat) ∧ n = (xs).length - i ∧ i ≤ (xs).length ∧ Since (old w0) w0 X w ∧ (xs = ys ↔ xs.drop i = ys.drop i)) (xs).length ⟨0, rfl, rfl, Nat.zero_le _, hs, by simp⟩ ?_
    rintro n a w X ⟨i, rfl, rfl, hi, hs, hw⟩
    rcases at_or (xs) i with ⟨hlt, x, hx, hd⟩ | ⟨hge, hd⟩
    · obtain ⟨y, hy, hdy⟩ := at_drop (xs := ys) (i := i) (by omega)
      repeat' first | ((with_reducible refine r_lssT ?_ ?_); (· omega)) | with_reducible (first | apply condW_T | apply condW_F | apply r_notT | apply r_notF) | ((with_reducible apply m_ldA); (· (first | assumption | exact RowIs.cells (by assumption))); (· (first | exact mv0 | exact mv1 (by assumption) | exact mv2 (by assumption) (by assumption))); (· kernel_rfl); (· rfl)) | ((with_reducible apply m_lnR); (· assumption); (· kernel_rfl)) | ((with_reducible apply m_ixP); (· assumption); (try (case hz => rfl)); (case hr => first | assumption | exact List.getElem?_eq_getElem (by omega)); (try (case hz => omega)); (case ht => kernel_rfl); (case hs => kernel_rfl); intros) | ((with_reducible apply r_add); (· omega); (· omega)) | ((first | (with_reducible refine fin_ret0 hs ?_) | (with_reducible refine fin_ret0 (hs0.trans hs) ?_)); intro wa hk; (simp_all [decide_true])) | ((with_reducible refine nx1_of ((xs).length - (i + 1)) ?_ ?_); (· omega); exact ⟨i + 1, by simp, rfl, by omega, hs, by simp_all [decide_true]⟩) | (refine r_ct0B (d_raceref_Pending  (by first | assumption | exact Sl.mv (by assumption) (by (first | exact mv0 | exact mv1 (by assumption) | exact mv2 (by assumption) (by assumption))) | exact Pends.mv (by assumption) (by (first | exact mv0 | exact mv1 (by assumption) | exact mv2 (by assumption) (by assumption))) | exact Hists.mv (by assumption) (by (first | exact mv0 | exact mv1 (by assumption) | exact mv2 (by assumption) (by assumption))) | exact Rec.at.mv (by assumption) (by (first | exact mv0 | exact mv1 (by assumption) | exact mv2 (by assumption) (by assumption))) | exact Own.sl (by assumption) | exact Cells.mv (by assumption) (by (first | exact mv0 | exact mv1 (by assumption) | exact mv2 (by assumption) (by assumption))) | exact Cells.mv (RowIs.cells (by assumption)) (by (first | exact mv0 | exact mv1 (by assumption) | exact mv2 (by assumption) (by assumption))) | omega) (by first | assumption | exact Sl.mv (by assumption) (by (first | exact mv0 | exact mv1 (by assumption) | exact mv2 (by assumption) (by assumption))) | exact Pends.mv (by assumption) (by (first | exact mv0 | exact mv1 (by assumption) | exact mv2 (by assumption) (by assumption))) | exact Hists.mv (by assumption) (by (first | exact mv0 | exact mv1 (by assumption) | exact mv2 (by assumption) (by assumption))) | exact Rec.at.mv (by assumption) (by (first | exact mv0 | exact mv1 (by assumption) | exact mv2 (by assumption) (by assumption))) | exact Own.sl (by assumption) | exact Cells.mv (by assumption) (by (first | exact mv0 | exact mv1 (by assumption) | exact mv2 (by assumption) (by assumption))) | exact Cells.mv (RowIs.cells (by assumption)) (by (first | exact mv0 | exact mv1 (by assumption) | exact mv2 (by assumption) (by assumption))) | omega) (by first | assumption | exact Sl.mv (by assumption) (by (first | exact mv0 | exact mv1 (by assumption) | exact mv2 (by assumption) (by assumption))) | exact Pends.mv (by assumption) (by (first | exact mv0 | exact mv1 (by assumption) | exact mv2 (by assumption) (by assumption))) | exact Hists.mv (by assumption) (by (first | exact mv0 | exact mv1 (by assumption) | exact mv2 (by assumption) (by assumption))) | exact Rec.at.mv (by assumption) (by (first | exact mv0 | exact mv1 (by assumption) | exact mv2 (by assumption) (by assumption))) | exact Own.sl (by assumption) | exact Cells.mv (by assumption) (by (first | exact mv0 | exact mv1 (by assumption) | exact mv2 (by assumption) (by assumption))) | exact Cells.mv (RowIs.cells (by assumption)) (by (first | exact mv0 | exact mv1 (by assumption) | exact mv2 (by assumption) (by assumption))) | omega) (by first | assumption | exact Sl.mv (by assumption) (by (first | exact mv0 | exact mv1 (by assumption) | exact mv2 (by assumption) (by assumption))) | exact Pends.mv (by assumption) (by (first | exact mv0 | exact mv1 (by assumption) | exact mv2 (by assumption) (by assumption))) | exact Hists.mv (by assumption) (by (first | exact mv0 | exact mv1 (by assumption) | exact mv2 (by assumption) (by assumption))) | exact Rec.at.mv (by assumption) (by (first | exact mv0 | exact mv1 (by assumption) | exact mv2 (by assumption) (by assumption))) | exact Own.sl (by assumption) | exact Cells.mv (by assumption) (by (first | exact mv0 | exact mv1 (by assumption) | exact mv2 (by assumption) (by assumption))) | exact Cells.mv (RowIs.cells (by assumption)) (by (first | exact mv0 | exact mv1 (by assumption) | exact mv2 (by assumption) (by assumption))) | omega)) (by kernel_rfl) hs.has ?_ ?_ <;> (intro _ w X hs1; replace hs := hs.trans hs1))
    · have hdy := List.drop_of_length_le (l := ys) (i := i) (by omega)
      repeat' first | ((with_reducible refine r_lssF ?_ ?_); (· omega)) | with_reducible apply condW_F | ((with_reducible apply m_lnR); (· assumption); (· kernel_rfl)) | ((first | (with_reducible refine fin_ret0 hs ?_) | (with_reducible refine fin_ret0 (hs0.trans hs) ?_)); intro wa hk; simp_all)
end Go.Proofs.YtnphlhpdikmpiaaGreat
namespace Go.Proofs.YtnphlhpdikmpiaaGreat
open Go.Eng
set_option maxRecDepth 100000
set_option maxHeartbeats 1000000
set_option linter.unusedVariables false
set_option linter.unusedSimpArgs false
attribute [local irreducible] un jn chk fld ld1 ldA st1 ixS lnS lnT bld cvI cvF ixA bsS apS rdV rdW grdW eW eV eU eC eF gE condW fin pickN nilN binS vS lp0 lp1 lp2 lp3 lp4 lp5 lp6 lp7 nx0 nx1 nx2 nx3 nx4 nx5 nx6 nx7
abbrev AnInt : Value → World → World → Prop := fun v _ _ => ∃ n : Int, v = I n
theorem d_raceref_few (a b c : Int) (w : World) (X : XS) : Ct Tryz.prog 52 #[I a, I b, I c] w X nX AnInt := by
  intro w0 hk
  apply ok_raceref_few; unfold vc_raceref_few
  have hs := Since.init w0
  repeat' first | with_reducible (first | apply condW_T | apply condW_F | apply un_selF | apply un_selTF | apply grdV_onF | apply grdW_offF | apply rdW_pickT | apply rdW_pickF) | (with_reducible apply r_gtr <;> intro _) | ((first | (with_reducible refine fin_ret0 hs ?_) | (with_reducible refine fin_ret0 (hs0.trans hs) ?_)); intro wa hk; exact ⟨_, rfl⟩) | with_reducible apply rdV_add
theorem d_raceref_WeighTexts {w : World} {X : XS} {a : Value} {xs : List BA} {most : Int} (ha : Sl w X 1 a (xs.map S1)) :
    Ct Tryz.prog 53 #[a, I most] w X nX AnInt := by
  intro w0 hk
  replace ha := ha.mv hk.mvo
  have hla := ha.len'
  apply ok_raceref_WeighTexts; unfold vc_raceref_WeighTexts
  have hs := Since.init w0
  refine lp2_of (fun n a b w X => ∃ (i : Nat) (s : Int), a = I i ∧ b = I s ∧ n = (xs).length - i ∧ i ≤ (xs).length ∧ Since (old w0) w0 X w) (xs).length ⟨0, _, rfl, rfl, rfl, Nat.zero_le _, hs⟩ ?_
  rintro n a b w X ⟨i, s, rfl, rfl, rfl, hi, hs⟩
  repeat' first | with_reducible (first | apply condW_T | apply condW_F | apply un_selT | apply un_selFT | apply grdV_onT | apply grdW_offT | apply rdW_pickT | apply rdW_pickF) | (with_reducible apply r_lss <;> intro _) | (with_reducible apply r_leq <;> intro _) | ((with_reducible apply m_ld1); (· (first | assumption | exact RowIs.cells (by assumption))); (· (first | exact mv0 | exact mv1 (by assumption) | exact mv2 (by assumption) (by assumption))); (· kernel_rfl); (· rfl)) | ((with_reducible apply m_lnS); (· (first | assumption | exact Own.sl (by assumption))); (· kernel_rfl)) | ((with_reducible apply r_lnT); (· kernel_rfl)) | ((with_reducible apply m_ixS); (· (first | assumption | exact Own.sl (by assumption))); (try (case hz => rfl)); (case hr => first | assumption | exact List.getElem?_eq_getElem (by omega)); (try (case hz => omega)); (case ht => kernel_rfl); (case hs => kernel_rfl); intro _ _ _) | ((with_reducible apply r_add); (· omega); (· omega)) | ((first | (with_reducible refine fin_ret0 hs ?_) | (with_reducible refine fin_ret0 (hs0.trans hs) ?_)); intro wa hk; exact ⟨_, rfl⟩) | (refine r_ct0I (d_raceref_few  _ _ _ _ _) (by kernel_rfl) hs.has ?_; intro n1 w X hs1; replace hs := hs.trans hs1) | ((with_reducible refine nx2_of ((xs).length - (i + 1)) ?_ ?_); (· omega); exact ⟨i + 1, _, by simp, rfl, rfl, by omega, hs⟩) | with_reducible apply rdV_add
theorem d_raceref_WeighWrites {w : World} {X : XS} {a : Value} {xs : List KV} {most : Int} (ha : Sl w X 4 a (xs.map KV.l)) :
    Ct Tryz.prog 54 #[a, I most] w X nX AnInt := by
  intro w0 hk
  replace ha := ha.mv hk.mvo
  have hla := ha.len'
  apply ok_raceref_WeighWrites; unfold vc_raceref_WeighWrites
  have hs := Since.init w0
  refine lp2_of (fun n a b w X => ∃ (i : Nat) (s : Int), a = I i ∧ b = I s ∧ n = (xs).length - i ∧ i ≤ (xs).length ∧ Since (old w0) w0 X w) (xs).length ⟨0, _, rfl, rfl, rfl, Nat.zero_le _, hs⟩ ?_
  rintro n a b w X ⟨i, s, rfl, rfl, rfl, hi, hs⟩
  repeat' first | with_reducible (first | apply condW_T | apply condW_F | apply un_selT | apply un_selFT | apply grdV_onT | apply grdW_offT | apply rdW_pickT | apply rdW_pickF) | (with_reducible apply r_lss <;> intro _) | (with_reducible apply r_leq <;> intro _) | ((with_reducible apply m_fld1); (· (first | assumption | exact RowIs.cells (by assumption))); (· kernel_rfl); (· rfl); intro _ _ _) | ((with_reducible apply m_fld); (· (first | assumption | exact RowIs.cells (by assumption))); (· kernel_rfl); (· rfl); (· (simp only [Value.cells, nq1, nq2, nq3, nq4, nq5, nq6, setL, nq7, nq8, nq9, nq0, Nat.reduceAdd, Nat.zero_add]; try rfl)); intro _ _ _) | ((with_reducible apply m_ld1); (· (first | assumption | exact RowIs.cells (by assumption))); (· (first | exact mv0 | exact mv1 (by assumption) | exact mv2 (by assumption) (by assumption))); (· kernel_rfl); (· rfl)) | ((with_reducible apply m_lnS); (· (first | assumption | exact Own.sl (by assumption))); (· kernel_rfl)) | ((with_reducible apply r_lnT); (· kernel_rfl)) | ((with_reducible apply m_ixS); (· (first | assumption | exact Own.sl (by assumption))); (try (case hz => rfl)); (case hr => first | assumption | exact List.getElem?_eq_getElem (by omega)); (try (case hz => omega)); (case ht => kernel_rfl); (case hs => kernel_rfl); intro _ _ _) | ((with_reducible apply r_add); (· omega); (· omega)) | ((first | (with_reducible refine fin_ret0 hs ?_) | (with_reducible refine fin_ret0 (hs0.trans hs) ?_)); intro wa hk; exact ⟨_, rfl⟩) | (refine r_ct0I (d_raceref_few  _ _ _ _ _) (by kernel_rfl) hs.has ?_; intro n1 w X hs1; replace hs := hs.trans hs1) | ((with_reducible refine nx2_of ((xs).length - (i + 1)) ?_ ?_); (· omega); exact ⟨i + 1, _, by simp, rfl, rfl, by omega, hs⟩) | with_reducible apply rdV_add
theorem d_raceref_WeighPendings {w : World} {X : XS} {a : Value} {xs : List Pend} {most : Int} (ha : Pends w X a xs) :
    Ct Tryz.prog 80 #[a, I most] w X nX AnInt := by
  intro w0 hk
  replace ha := ha.mv hk.mvo
  have hla := ha.len
  apply ok_raceref_WeighPendings; unfold vc_raceref_WeighPendings
  have hs := Since.init w0
  refine lp2_of (fun n a b w X => ∃ (i : Nat) (s : Int), a = I i ∧ b = I s ∧ n = (xs).length - i ∧ i ≤ (xs).length ∧ Since (old w0) w0 X w) (xs).length ⟨0, _, rfl, rfl, rfl, Nat.zero_le _, hs⟩ ?_
  rintro n a b w X ⟨i, s, rfl, rfl, rfl, hi, hs⟩
  repeat' first | with_reducible (first | apply condW_T | apply condW_F | apply un_selT | apply un_selFT | apply grdV_onT | apply grdW_offT | apply rdW_pickT | apply rdW_pickF) | (with_reducible apply r_lss <;> intro _) | (with_reducible apply r_leq <;> intro _) | ((with_reducible apply m_fld1); (· (first | assumption | exact RowIs.cells (by assumption))); (· kernel_rfl); (· rfl); intro _ _ _) | ((with_reducible apply m_ld1); (· (first | assumption | exact RowIs.cells (by assumption))); (· (first | exact mv0 | exact mv1 (by assumption) | exact mv2 (by assumption) (by assumption))); (· kernel_rfl); (· rfl)) | ((with_reducible apply m_lnR); (· assumption); (· kernel_rfl)) | ((with_reducible apply m_ixP); (· assumption); (try (case hz => rfl)); (case hr => first | assumption | exact List.getElem?_eq_getElem (by omega)); (try (case hz => omega)); (case ht => kernel_rfl); (case hs => kernel_rfl); intros) | ((with_reducible apply r_add); (· omega); (· omega)) | ((first | (with_reducible refine fin_ret0 hs ?_) | (with_reducible refine fin_ret0 (hs0.trans hs) ?_)); intro wa hk; exact ⟨_, rfl⟩) | (refine r_ct0I (d_raceref_few  _ _ _ _ _) (by kernel_rfl) hs.has ?_; intro n1 w X hs1; replace hs := hs.trans hs1) | (refine r_ct0I (d_raceref_WeighTexts  (by first | assumption | exact Sl.mv (by assumption) (by (first | exact mv0 | exact mv1 (by assumption) | exact mv2 (by assumption) (by assumption))) | exact Pends.mv (by assumption) (by (first | exact mv0 | exact mv1 (by assumption) | exact mv2 (by assumption) (by assumption))) | exact Hists.mv (by assumption) (by (first | exact mv0 | exact mv1 (by assumption) | exact mv2 (by assumption) (by assumption))) | exact Rec.at.mv (by assumption) (by (first | exact mv0 | exact mv1 (by assumption) | exact mv2 (by assumption) (by assumption))) | exact Own.sl (by assumption) | exact Cells.mv (by assumption) (by (first | exact mv0 | exact mv1 (by assumption) | exact mv2 (by assumption) (by assumption))) | exact Cells.mv (RowIs.cells (by assumption)) (by (first | exact mv0 | exact mv1 (by assumption) | exact mv2 (by assumption) (by assumption))) | omega)) (by kernel_rfl) hs.has ?_; intro n1 w X hs1; replace hs := hs.trans hs1) | (refine r_ct0I (d_raceref_WeighWrites  (by first | assumption | exact Sl.mv (by assumption) (by (first | exact mv0 | exact mv1 (by assumption) | exact mv2 (by assumption) (by assumption))) | exact Pends.mv (by assumption) (by (first | exact mv0 | exact mv1 (by assumption) | exact mv2 (by assumption) (by assumption))) | exact Hists.mv (by assumption) (by (first | exact mv0 | exact mv1 (by assumption) | exact mv2 (by assumption) (by assumption))) | exact Rec.at.mv (by assumption) (by (first | exact mv0 | exact mv1 (by assumption) | exact mv2 (by assumption) (by assumption))) | exact Own.sl (by assumption) | exact Cells.mv (by assumption) (by (first | exact mv0 | exact mv1 (by assumption) | exact mv2 (by assumption) (by assumption))) | exact Cells.mv (RowIs.cells (by assumption)) (by (first | exact mv0 | exact mv1 (by assumption) | exact mv2 (by assumption) (by assumption))) | omega)) (by kernel_rfl) hs.has ?_; intro n1 w X hs1; replace hs := hs.trans hs1) | ((with_reducible refine nx2_of ((xs).length - (i + 1)) ?_ ?_); (· omega); exact ⟨i + 1, _, by simp, rfl, rfl, by omega, hs⟩) | with_reducible apply rdV_add
theorem d_raceref_WeighHistories {w : World} {X : XS} {a : Value} {xs : List Hist} {most : Int} (ha : Hists w X a xs) :
    Ct Tryz.prog 79 #[a, I most] w X nX AnInt := by
  intro w0 hk
  replace ha := ha.mv hk.mvo
  have hla := ha.len
  apply ok_raceref_WeighHistories; unfold vc_raceref_WeighHistories
  have hs := Since.init w0
  refine lp3_of (fun n a _ b w X => ∃ (i : Nat) (s : Int), a = I i ∧ b = I s ∧ n = xs.length - i ∧ i ≤ xs.length ∧ Since (old w0) w0 X w) xs.length ⟨0, _, rfl, rfl, rfl, Nat.zero_le _, hs⟩ ?_
  rintro n a a2 b w X ⟨i, s, rfl, rfl, rfl, hi, hs⟩
  repeat' first | with_reducible (first | apply condW_T | apply condW_F | apply un_selT | apply un_selFT | apply grdV_onT | apply grdW_offT | apply rdW_pickT | apply rdW_pickF) | (with_reducible apply r_lss <;> intro _) | (with_reducible apply r_leq <;> intro _) | ((with_reducible apply m_fld1); (· (first | assumption | exact RowIs.cells (by assumption))); (· kernel_rfl); (· rfl); intro _ _ _) | ((with_reducible apply m_ld1); (· (first | assumption | exact RowIs.cells (by assumption))); (· (first | exact mv0 | exact mv1 (by assumption) | exact mv2 (by assumption) (by assumption))); (· kernel_rfl); (· rfl)) | ((with_reducible apply m_lnR); (· assumption); (· kernel_rfl)) | ((with_reducible apply r_lnT); (· kernel_rfl)) | ((with_reducible apply m_ixH); (· assumption); (try (case hz => rfl)); (case hr => first | assumption | exact List.getElem?_eq_getElem (by omega)); (try (case hz => omega)); (case ht => kernel_rfl); (case hs => kernel_rfl); intros) | ((first | (with_reducible refine fin_ret0 hs ?_) | (with_reducible refine fin_ret0 (hs0.trans hs) ?_)); intro wa hk; exact ⟨_, rfl⟩) | (refine r_ct0I (d_raceref_few  _ _ _ _ _) (by kernel_rfl) hs.has ?_; intro n1 w X hs1; replace hs := hs.trans hs1) | with_reducible apply rdV_add
  have hlt : i < xs.length := by omega
  obtain ⟨x, hx, hd⟩ := at_drop hlt
  refine lp2_of (fun n a b w X => ∃ (k : Nat) (s : Int), a = I k ∧ b = I s ∧ n = x.vers.length - k ∧ k ≤ x.vers.length ∧ Since (old w0) w0 X w) x.vers.length ⟨0, _, rfl, rfl, rfl, Nat.zero_le _, hs⟩ ?_
  rintro n a b w X ⟨k, s, rfl, rfl, rfl, hk, hs⟩
  repeat' first | with_reducible (first | apply condW_T | apply condW_F | apply un_selT | apply un_selFT | apply grdV_onT | apply grdW_offT | apply rdW_pickT | apply rdW_pickF) | (with_reducible apply r_lss <;> intro _) | (with_reducible apply r_leq <;> intro _) | ((with_reducible apply m_fld1); (· (first | assumption | exact RowIs.cells (by assumption))); (· kernel_rfl); (· rfl); intro _ _ _) | ((with_reducible apply m_fld); (· (first | assumption | exact RowIs.cells (by assumption))); (· kernel_rfl); (· rfl); (· (simp only [Value.cells, nq1, nq2, nq3, nq4, nq5, nq6, setL, nq7, nq8, nq9, nq0, Nat.reduceAdd, Nat.zero_add]; try rfl)); intro _ _ _) | ((with_reducible apply m_ld1); (· (first | assumption | exact RowIs.cells (by assumption))); (· (first | exact mv0 | exact mv1 (by assumption) | exact mv2 (by assumption) (by assumption))); (· kernel_rfl); (· rfl)) | ((with_reducible apply m_lnS); (· (first | assumption | exact Own.sl (by assumption))); (· kernel_rfl)) | ((with_reducible apply r_lnT); (· kernel_rfl)) | ((with_reducible apply m_ixS); (· (first | assumption | exact Own.sl (by assumption))); (try (case hz => rfl)); (case hr => first | assumption | exact List.getElem?_eq_getElem (by omega)); (try (case hz => omega)); (case ht => kernel_rfl); (case hs => kernel_rfl); intro _ _ _) | ((with_reducible apply m_ixH); (· assumption); (try (case hz => rfl)); (case hr => first | assumption | exact List.getElem?_eq_getElem (by omega)); (try (case hz => omega)); (case ht => kernel_rfl); (case hs => kernel_rfl); intros) | ((with_reducible apply r_add); (· omega); (· omega)) | (refine r_ct0I (d_raceref_few  _ _ _ _ _) (by kernel_rfl) hs.has ?_; intro n1 w X hs1; replace hs := hs.trans hs1) | ((with_reducible refine nx3_of ((xs).length - (i + 1)) ?_ ?_); (· omega); exact ⟨i + 1, _, by simp, rfl, rfl, by omega, hs⟩) | ((with_reducible refine nx2_of (x.vers.length - (k + 1)) ?_ ?_); (· omega); exact ⟨k + 1, _, by simp, rfl, rfl, by omega, hs⟩) | (have hl9 := Sl.len' ‹Sl w0 (old w0) 6 _ (List.map Ver.l x.vers)›; (with_reducible apply r_add); (· omega); (· omega)) | with_reducible apply rdV_add
theorem d_raceref_WeighState {w : World} {X : XS} {s : State} {vh vp : Value} {most : Int} (ha : Hists w X vh s.hists) (hb : Pends w X vp s.pend) :
    Ct Tryz.prog 55 #[s.v vh vp, I most] w X nX AnInt := by
  intro w0 hk
  replace ha := ha.mv hk.mvo
  replace hb := hb.mv hk.mvo
  apply ok_raceref_WeighState; unfold vc_raceref_WeighState
  have hs := Since.init w0
  repeat' first | ((first | (with_reducible refine fin_ret0 hs ?_) | (with_reducible refine fin_ret0 (hs0.trans hs) ?_)); intro wa hk; exact ⟨_, rfl⟩) | (refine r_ct0I (d_raceref_few  _ _ _ _ _) (by kernel_rfl) hs.has ?_; intro n1 w X hs1; replace hs := hs.trans hs1) | (refine r_ct0I (d_raceref_WeighHistories  (by first | assumption | exact Sl.mv (by assumption) (by (first | exact mv0 | exact mv1 (by assumption) | exact mv2 (by assumption) (by assumption))) | exact Pends.mv (by assumption) (by (first | exact mv0 | exact mv1 (by assumption) | exact mv2 (by assumption) (by assumption))) | exact Hists.mv (by assumption) (by (first | exact mv0 | exact mv1 (by assumption) | exact mv2 (by assumption) (by assumption))) | exact Rec.at.mv (by assumption) (by (first | exact mv0 | exact mv1 (by assumption) | exact mv2 (by assumption) (by assumption))) | exact Own.sl (by assumption) | exact Cells.mv (by assumption) (by (first | exact mv0 | exact mv1 (by assumption) | exact mv2 (by assumption) (by assumption))) | exact Cells.mv (RowIs.cells (by assumption)) (by (first | exact mv0 | exact mv1 (by assumption) | exact mv2 (by assumption) (by assumption))) | omega)) (by kernel_rfl) hs.has ?_; intro n1 w X hs1; replace hs := hs.trans hs1) | (refine r_ct0I (d_raceref_WeighPendings  (by first | assumption | exact Sl.mv (by assumption) (by (first | exact mv0 | exact mv1 (by assumption) | exact mv2 (by assumption) (by assumption))) | exact Pends.mv (by assumption) (by (first | exact mv0 | exact mv1 (by assumption) | exact mv2 (by assumption) (by assumption))) | exact Hists.mv (by assumption) (by (first | exact mv0 | exact mv1 (by assumption) | exact mv2 (by assumption) (by assumption))) | exact Rec.at.mv (by assumption) (by (first | exact mv0 | exact mv1 (by assumption) | exact mv2 (by assumption) (by assumption))) | exact Own.sl (by assumption) | exact Cells.mv (by assumption) (by (first | exact mv0 | exact mv1 (by assumption) | exact mv2 (by assumption) (by assumption))) | exact Cells.mv (RowIs.cells (by assumption)) (by (first | exact mv0 | exact mv1 (by assumption) | exact mv2 (by assumption) (by assumption))) | omega)) (by kernel_rfl) hs.has ?_; intro n1 w X hs1; replace hs := hs.trans hs1)
theorem d_raceref_WeighRec {w : World} {X : XS} {r : Rec} {vr vw vp vq vh vd : Value} {most : Int} (ha : r.at w X vr vw vp vq vh vd) :
    Ct Tryz.prog 21 #[r.v vr vw vp vq vh vd, I most] w X nX AnInt := by
  intro w0 hk
  obtain ⟨h1, h2, h3, h4, h5, h6⟩ := ha.mv hk.mvo
  have hla := h4.len'
  apply ok_raceref_WeighRec; unfold vc_raceref_WeighRec
  have hs := Since.init w0
  repeat' first | ((with_reducible apply m_lnS); (· (first | assumption | exact Own.sl (by assumption))); (· kernel_rfl)) | (with_reducible apply r_min) | (refine r_ct0I (d_raceref_few  _ _ _ _ _) (by kernel_rfl) hs.has ?_; intro n1 w X hs1; replace hs := hs.trans hs1) | (refine r_ct0I (d_raceref_WeighTexts  (by first | assumption | exact Sl.mv (by assumption) (by (first | exact mv0 | exact mv1 (by assumption) | exact mv2 (by assumption) (by assumption))) | exact Pends.mv (by assumption) (by (first | exact mv0 | exact mv1 (by assumption) | exact mv2 (by assumption) (by assumption))) | exact Hists.mv (by assumption) (by (first | exact mv0 | exact mv1 (by assumption) | exact mv2 (by assumption) (by assumption))) | exact Rec.at.mv (by assumption) (by (first | exact mv0 | exact mv1 (by assumption) | exact mv2 (by assumption) (by assumption))) | exact Own.sl (by assumption) | exact Cells.mv (by assumption) (by (first | exact mv0 | exact mv1 (by assumption) | exact mv2 (by assumption) (by assumption))) | exact Cells.mv (RowIs.cells (by assumption)) (by (first | exact mv0 | exact mv1 (by assumption) | exact mv2 (by assumption) (by assumption))) | omega)) (by kernel_rfl) hs.has ?_; intro n1 w X hs1; replace hs := hs.trans hs1) | (refine r_ct0I (d_raceref_WeighWrites  (by first | assumption | exact Sl.mv (by assumption) (by (first | exact mv0 | exact mv1 (by assumption) | exact mv2 (by assumption) (by assumption))) | exact Pends.mv (by assumption) (by (first | exact mv0 | exact mv1 (by assumption) | exact mv2 (by assumption) (by assumption))) | exact Hists.mv (by assumption) (by (first | exact mv0 | exact mv1 (by assumption) | exact mv2 (by assumption) (by assumption))) | exact Rec.at.mv (by assumption) (by (first | exact mv0 | exact mv1 (by assumption) | exact mv2 (by assumption) (by assumption))) | exact Own.sl (by assumption) | exact Cells.mv (by assumption) (by (first | exact mv0 | exact mv1 (by assumption) | exact mv2 (by assumption) (by assumption))) | exact Cells.mv (RowIs.cells (by assumption)) (by (first | exact mv0 | exact mv1 (by assumption) | exact mv2 (by assumption) (by assumption))) | omega)) (by kernel_rfl) hs.has ?_; intro n1 w X hs1; replace hs := hs.trans hs1) | with_reducible apply rdV_add
  refine lp2_of (fun n a b w X => ∃ (i : Nat) (s : Int), a = I i ∧ b = I s ∧ n = (r.pairs).length - i ∧ i ≤ (r.pairs).length ∧ Since (old w0) w0 X w) (r.pairs).length ⟨0, _, rfl, rfl, rfl, Nat.zero_le _, hs⟩ ?_
  rintro n a b w X ⟨i, s, rfl, rfl, rfl, hi, hs⟩
  repeat' first | with_reducible (first | apply condW_T | apply condW_F | apply un_selT | apply un_selFT | apply grdV_onT | apply grdW_offT | apply rdW_pickT | apply rdW_pickF) | (with_reducible apply r_lss <;> intro _) | (with_reducible apply r_leq <;> intro _) | ((with_reducible apply m_fld1); (· (first | assumption | exact RowIs.cells (by assumption))); (· kernel_rfl); (· rfl); intro _ _ _) | ((with_reducible apply m_fld); (· (first | assumption | exact RowIs.cells (by assumption))); (· kernel_rfl); (· rfl); (· (simp only [Value.cells, nq1, nq2, nq3, nq4, nq5, nq6, setL, nq7, nq8, nq9, nq0, Nat.reduceAdd, Nat.zero_add]; try rfl)); intro _ _ _) | ((with_reducible apply m_ld1); (· (first | assumption | exact RowIs.cells (by assumption))); (· (first | exact mv0 | exact mv1 (by assumption) | exact mv2 (by assumption) (by assumption))); (· kernel_rfl); (· rfl)) | ((with_reducible apply m_lnS); (· (first | assumption | exact Own.sl (by assumption))); (· kernel_rfl)) | ((with_reducible apply r_lnT); (· kernel_rfl)) | ((with_reducible apply m_ixS); (· (first | assumption | exact Own.sl (by assumption))); (try (case hz => rfl)); (case hr => first | assumption | exact List.getElem?_eq_getElem (by omega)); (try (case hz => omega)); (case ht => kernel_rfl); (case hs => kernel_rfl); intro _ _ _) | ((with_reducible apply r_add); (· omega); (· omega)) | ((first | (with_reducible refine fin_ret0 hs ?_) | (with_reducible refine fin_ret0 (hs0.trans hs) ?_)); intro wa hk; exact ⟨_, rfl⟩) | (refine r_ct0I (d_raceref_few  _ _ _ _ _) (by kernel_rfl) hs.has ?_; intro n1 w X hs1; replace hs := hs.trans hs1) | (refine r_ct0I (d_raceref_WeighState  (s := r.state) (by first | assumption | exact Sl.mv (by assumption) (by (first | exact mv0 | exact mv1 (by assumption) | exact mv2 (by assumption) (by assumption))) | exact Pends.mv (by assumption) (by (first | exact mv0 | exact mv1 (by assumption) | exact mv2 (by assumption) (by assumption))) | exact Hists.mv (by assumption) (by (first | exact mv0 | exact mv1 (by assumption) | exact mv2 (by assumption) (by assumption))) | exact Rec.at.mv (by assumption) (by (first | exact mv0 | exact mv1 (by assumption) | exact mv2 (by assumption) (by assumption))) | exact Own.sl (by assumption) | exact Cells.mv (by assumption) (by (first | exact mv0 | exact mv1 (by assumption) | exact mv2 (by assumption) (by assumption))) | exact Cells.mv (RowIs.cells (by assumption)) (by (first | exact mv0 | exact mv1 (by assumption) | exact mv2 (by assumption) (by assumption))) | omega) (by first | assumption | exact Sl.mv (by assumption) (by (first | exact mv0 | exact mv1 (by assumption) | exact mv2 (by assumption) (by assumption))) | exact Pends.mv (by assumption) (by (first | exact mv0 | exact mv1 (by assumption) | exact mv2 (by assumption) (by assumption))) | exact Hists.mv (by assumption) (by (first | exact mv0 | exact mv1 (by assumption) | exact mv2 (by assumption) (by assumption))) | exact Rec.at.mv (by assumption) (by (first | exact mv0 | exact mv1 (by assumption) | exact mv2 (by assumption) (by assumption))) | exact Own.sl (by assumption) | exact Cells.mv (by assumption) (by (first | exact mv0 | exact mv1 (by assumption) | exact mv2 (by assumption) (by assumption))) | exact Cells.mv (RowIs.cells (by assumption)) (by (first | exact mv0 | exact mv1 (by assumption) | exact mv2 (by assumption) (by assumption))) | omega)) (by kernel_rfl) hs.has ?_; intro n1 w X hs1; replace hs := hs.trans hs1) | ((with_reducible refine nx2_of ((r.pairs).length - (i + 1)) ?_ ?_); (· omega); exact ⟨i + 1, _, by simp, rfl, rfl, by omega, hs⟩) | with_reducible apply rdV_add
theorem d_racelaw18_Few {w : World} {X : XS} {a : Value} {xs : List Rec} (ha : Rws w X 29 a Rec.rd xs) :
    Ct Tryz.prog 6 #[a] w X nX fun v _ _ => ∃ b : Bool, v = B b := by
  intro w0 hk
  replace ha := ha.mv Rec.mv hk.mvo
  have hla := ha.len
  apply ok_racelaw18_Few; unfold vc_racelaw18_Few
  have hs := Since.init w0
  refine lp2_of (fun n a b w X => ∃ (i : Nat) (s : Int), a = I i ∧ b = I s ∧ n = (xs).length - i ∧ i ≤ (xs).length ∧ Since (old w0) w0 X w) (xs).length ⟨0, _, rfl, rfl, rfl, Nat.zero_le _, hs⟩ ?_
  rintro n a b w X ⟨i, s, rfl, rfl, rfl, hi, hs⟩
  repeat' first | with_reducible (first | apply condW_T | apply condW_F | apply un_selT | apply un_selFT | apply grdV_onT | apply grdW_offT | apply rdW_pickT | apply rdW_pickF) | (with_reducible apply r_lss <;> intro _) | (with_reducible apply r_leq <;> intro _) | ((with_reducible apply m_ldA); (· (first | assumption | exact RowIs.cells (by assumption))); (· (first | exact mv0 | exact mv1 (by assumption) | exact mv2 (by assumption) (by assumption))); (· kernel_rfl); (· rfl)) | ((with_reducible apply m_lnR); (· assumption); (· kernel_rfl)) | ((with_reducible apply m_ixRec); (· assumption); (try (case hz => rfl)); (case hr => first | assumption | exact List.getElem?_eq_getElem (by omega)); (try (case hz => omega)); (case ht => kernel_rfl); (case hs => kernel_rfl); intros) | ((with_reducible apply r_add); (· omega); (· omega)) | ((first | (with_reducible refine fin_ret0 hs ?_) | (with_reducible refine fin_ret0 (hs0.trans hs) ?_)); intro wa hk; exact ⟨_, rfl⟩) | (refine r_ct0I (d_raceref_WeighRec  (by first | assumption | exact Sl.mv (by assumption) (by (first | exact mv0 | exact mv1 (by assumption) | exact mv2 (by assumption) (by assumption))) | exact Pends.mv (by assumption) (by (first | exact mv0 | exact mv1 (by assumption) | exact mv2 (by assumption) (by assumption))) | exact Hists.mv (by assumption) (by (first | exact mv0 | exact mv1 (by assumption) | exact mv2 (by assumption) (by assumption))) | exact Rec.at.mv (by assumption) (by (first | exact mv0 | exact mv1 (by assumption) | exact mv2 (by assumption) (by assumption))) | exact Own.sl (by assumption) | exact Cells.mv (by assumption) (by (first | exact mv0 | exact mv1 (by assumption) | exact mv2 (by assumption) (by assumption))) | exact Cells.mv (RowIs.cells (by assumption)) (by (first | exact mv0 | exact mv1 (by assumption) | exact mv2 (by assumption) (by assumption))) | omega)) (by kernel_rfl) hs.has ?_; intro n1 w X hs1; replace hs := hs.trans hs1) | ((with_reducible refine nx2_of ((xs).length - (i + 1)) ?_ ?_); (· omega); exact ⟨i + 1, _, by simp, rfl, rfl, by omega, hs⟩) | with_reducible apply rdV_add
end Go.Proofs.YtnphlhpdikmpiaaGreat
namespace Go.Proofs.YtnphlhpdikmpiaaGreat
open Go.Eng
set_option maxRecDepth 100000
set_option maxHeartbeats 1000000
set_option linter.unusedVariables false
set_option linter.unusedSimpArgs false
attribute [local irreducible] un jn chk fld ld1 ldA st1 ixS lnS lnT bld cvI cvF ixA bsS apS rdV rdW grdW eW eV eU eC eF gE condW fin pickN nilN binS vS lp0 lp1 lp2 lp3 lp4 lp5 lp6 lp7 nx0 nx1 nx2 nx3 nx4 nx5 nx6 nx7
def goodKey (s : BA) : Bool := decide ((s.size : Int) ≥ 1) && decide ((s.size : Int) ≤ 24)
theorem c_datum_Key (s : BA) : Pure Tryz.prog 134 #[.string s] (B (goodKey s)) := by
  intro w0
  apply ok_datum_Key; unfold vc_datum_Key
  have hs := Since.init w0
  repeat' first | with_reducible (first | apply un_selT | apply un_selFT | apply grdV_onT | apply grdW_offT | apply rdW_pickT | apply rdW_pickF) | (with_reducible apply r_leq <;> intro _) | (with_reducible apply r_geq <;> intro _) | ((with_reducible apply r_lnT); (· kernel_rfl)) | ((with_reducible refine fin_pure hs ?_); simp_all [goodKey] <;> omega)
theorem c_place_In (r : Rng) (x : Nat) : Pure Tryz.prog 128 #[r.v, .float .f64 x] (B ((fgt x r.lo || feq x r.lo) && flt x r.hi)) := by
  intro w0
  apply ok_place_In; unfold vc_place_In
  have hs := Since.init w0
  repeat' first | with_reducible (first | apply un_selT | apply un_selFT | apply grdV_onT | apply grdW_offT | apply rdW_pickT | apply rdW_pickF) | (with_reducible apply r_flss <;> intro _) | (with_reducible apply r_fgeq <;> intros) | ((with_reducible refine fin_pure hs ?_); (simp_all <;> grind))
def canon (x : Nat) : Nat := if feq x x then x else 9221120237041090560
theorem c_num_Canon (x : Nat) : Pure Tryz.prog 160 #[.float .f64 x] (.float .f64 (canon x)) := by
  intro w0
  apply ok_num_Canon; unfold vc_num_Canon
  have hs := Since.init w0
  repeat' first | with_reducible (first | apply condW_T | apply condW_F) | (with_reducible apply r_fneq <;> intro _) | ((with_reducible refine fin_pure hs ?_); simp_all [canon]) | ((with_reducible refine eC_val (v := .float .f64 9221120237041090560) ?_ hs.has ?_); (· intro wa; kernel_rfl); intro w X hs1; replace hs := hs.trans hs1)
theorem c_num_Bits (x : Nat) : Pure Tryz.prog 149 #[.float .f64 x] (.int .u64 (canon x)) := by
  intro w0
  apply ok_num_Bits; unfold vc_num_Bits
  have hs := Since.init w0
  repeat' first | ((with_reducible refine r_pure (c_num_Canon _) ?_ hs.has ?_); (· kernel_rfl); intro w X hs1; replace hs := hs.trans hs1) | ((with_reducible refine fin_pure hs ?_); rfl) | ((with_reducible refine eC_val (run_bits _) hs.has ?_); intro w X hs1; replace hs := hs.trans hs1)
def land (a b : Int) : Int := IntKind.u64.wrap (BitVec.ofInt IntKind.u64.bits a &&& BitVec.ofInt IntKind.u64.bits b).toNat
def ixor (a b : Int) : Int := IntKind.u64.wrap (BitVec.ofInt IntKind.u64.bits a ^^^ BitVec.ofInt IntKind.u64.bits b).toNat
def ishr (a n : Int) : Int := a.fdiv (2 ^ min n.toNat IntKind.u64.bits)
def imul (a b : Int) : Int := IntKind.u64.wrap (a * b)
theorem r_land {P : Program} {X : XS} {w : World} {N : Value → Prop} {t : TypeId} {a b : Int} (h : N (.int .u64 (land a b))) : rdV P X w (binOp .and t (.int .u64 a) (.int .u64 b)) N := rdV_and h
theorem r_ixor {P : Program} {X : XS} {w : World} {N : Value → Prop} {t : TypeId} {a b : Int} (h : N (.int .u64 (ixor a b))) : rdV P X w (binOp .xor t (.int .u64 a) (.int .u64 b)) N := rdV_xor h
theorem r_ishr {P : Program} {X : XS} {w : World} {N : Value → Prop} {t : TypeId} {a b : Int} (hb : ¬ b < 0) (h : N (.int .u64 (ishr a b))) : rdV P X w (binOp .shr t (.int .u64 a) (.int .u64 b)) N := rdV_shr hb h
theorem r_imul {P : Program} {X : XS} {w : World} {N : Value → Prop} {t : TypeId} {a b : Int} (h : N (.int .u64 (imul a b))) : rdV P X w (binOp .mul t (.int .u64 a) (.int .u64 b)) N := rdV_mul h
def cls (x : Nat) : Int :=
  let b : Int := canon x
  let e := land (ishr b 52) 2047
  let f := land b 4503599627370495
  if e = 2047 ∧ f ≠ 0 then 0 else
    let k := if e = 2047 then 8 else if e > 0 then 7 else if f > 0 then 6 else 5
    if land b 9223372036854775808 ≠ 0 then 9 - k else k
theorem c_num_Class (x : Nat) : Pure Tryz.prog 132 #[.float .f64 x] (I (cls x)) := by
  intro w0
  apply ok_num_Class; unfold vc_num_Class
  have hs := Since.init w0
  repeat' first | with_reducible (first | apply condW_T | apply condW_F | apply un_selT | apply un_selFT | apply grdV_onT | apply grdW_offT | apply rdW_pickT | apply rdW_pickF) | (with_reducible apply r_eql <;> intro _) | (with_reducible apply r_neq <;> intro _) | (with_reducible apply r_gtr <;> intro _) | ((with_reducible apply r_sub); (· omega); (· omega)) | with_reducible apply jn_of | ((with_reducible refine r_pure (c_num_Bits _) ?_ hs.has ?_); (· kernel_rfl); intro w X hs1; replace hs := hs.trans hs1) | ((with_reducible refine fin_pure hs ?_); (simp only [cls] at *; grind)) | with_reducible apply r_land | ((with_reducible apply r_ishr); (· omega))
def one64 : Nat := 4607182418800017408
def isPoint (x : Nat) : Bool := decide (cls x ≥ 5) && (flt x one64 || feq x one64)
theorem c_place_point (x : Nat) : Pure Tryz.prog 133 #[.float .f64 x] (B (isPoint x)) := by
  intro w0
  apply ok_place_point; unfold vc_place_point
  have hs := Since.init w0
  repeat' first | with_reducible (first | apply un_selT | apply un_selFT | apply grdV_onT | apply grdW_offT | apply rdW_pickT | apply rdW_pickF) | (with_reducible apply r_geq <;> intro _) | (with_reducible apply r_fleq <;> intros) | ((with_reducible refine r_pure (c_num_Class _) ?_ hs.has ?_); (· kernel_rfl); intro w X hs1; replace hs := hs.trans hs1) | ((with_reducible refine fin_pure hs ?_); (simp_all [isPoint, one64] <;> grind))
def toPoint (x : Nat) : Nat × Int := if cls x = 4 then (0, 0) else if isPoint x then (x, 0) else (0, 1)
theorem c_place_Point (x : Nat) : Pure Tryz.prog 107 #[.float .f64 x] (.tuple #[.float .f64 (toPoint x).1, I (toPoint x).2]) := by
  intro w0
  apply ok_place_Point; unfold vc_place_Point
  have hs := Since.init w0
  repeat' first | with_reducible (first | apply condW_T | apply condW_F | apply r_notT | apply r_notF) | (with_reducible apply r_eql <;> intro _) | ((with_reducible refine r_pure (c_num_Class _) ?_ hs.has ?_); (· kernel_rfl); intro w X hs1; replace hs := hs.trans hs1) | ((with_reducible refine r_pureB (c_place_point _) ?_ hs.has ?_ ?_); (· kernel_rfl); all_goals (intro _ w X hs1; replace hs := hs.trans hs1)) | ((with_reducible refine fin_pure hs ?_); (simp_all [toPoint] <;> grind))
def Rng.may (r : Rng) : Bool := decide (r.id ≥ 1) && decide (r.id ≤ 12) && decide (r.epoch ≥ 0) && isPoint r.lo && isPoint r.hi && flt r.lo r.hi
theorem c_place_May (r : Rng) : Pure Tryz.prog 125 #[r.v] (B r.may) := by
  intro w0
  apply ok_place_May; unfold vc_place_May
  have hs := Since.init w0
  repeat' first | with_reducible (first | apply un_selT | apply un_selFT | apply grdV_onT | apply grdW_offT | apply rdW_pickT | apply rdW_pickF | apply gE_T | apply gE_FT) | (with_reducible apply r_leq <;> intro _) | (with_reducible apply r_geq <;> intro _) | (with_reducible apply r_flss <;> intro _) | with_reducible apply jn_of | ((with_reducible refine r_pureB (c_place_point _) ?_ hs.has ?_ ?_); (· kernel_rfl); all_goals (intro _ w X hs1; replace hs := hs.trans hs1)) | ((with_reducible refine fin_pure hs ?_); (simp_all [Rng.may] <;> omega))
def Val.may (v : Val) : Bool :=
  if v.kind = 0 then decide (v.num = 0) && decide (v.text = ⟨#[]⟩)
  else if v.kind = 1 then decide (v.text = ⟨#[]⟩) && decide (v.num = canon v.num)
  else if v.kind = 2 then decide (v.num = 0) && decide ((v.text.size : Int) ≤ 64)
  else false
theorem c_datum_May (v : Val) : Pure Tryz.prog 131 #[v.v] (B v.may) := by
  intro w0
  apply ok_datum_May; unfold vc_datum_May
  have hs := Since.init w0
  repeat' first | with_reducible (first | apply condW_T | apply condW_F | apply un_selT | apply un_selFT | apply grdV_onT | apply grdW_offT | apply rdW_pickT | apply rdW_pickF | apply gE_T | apply gE_FT) | (with_reducible apply r_eql <;> intro _) | (with_reducible apply r_leq <;> intro _) | (with_reducible apply r_seql <;> intro _) | ((with_reducible apply r_lnT); (· kernel_rfl)) | with_reducible apply jn_of | ((with_reducible refine r_pure (c_num_Bits _) ?_ hs.has ?_); (· kernel_rfl); intro w X hs1; replace hs := hs.trans hs1) | ((with_reducible refine fin_pure hs ?_); (simp_all [Val.may] <;> omega)) | ((with_reducible refine eC_val (run_bits _) hs.has ?_); intro w X hs1; replace hs := hs.trans hs1)
def hstep (h : Int) (b : UInt8) : Int := imul (ixor h (IntKind.u64.wrap b.toNat)) 1099511628211
def hmix (h : Int) : Nat → Int
  | 0 => h
  | 1 => imul (ixor h (ishr h 33)) 18397679294719823053
  | _ => let g := imul (ixor h (ishr h 33)) 18397679294719823053; imul (ixor g (ishr g 33)) 14181476777654086739
def hashOf (s : BA) : Int := let h := hmix (s.data.toList.foldl hstep 14695981039346656037) 2; ixor h (ishr h 33)
theorem c_place_Hash (s : BA) (hbig : s.size ≤ 2 ^ 62) : Pure Tryz.prog 85 #[.string s] (.int .u64 (hashOf s)) := by
  intro w0
  have hsz := size_list s
  apply ok_place_Hash; unfold vc_place_Hash
  have hs := Since.init w0
  repeat' first | ((with_reducible apply r_lnT); (· kernel_rfl))
  refine lp2_of (fun n a b w X => ∃ (i : Nat) (h : Int), a = I i ∧ b = .int .u64 h ∧ n = s.data.toList.length - i ∧ i ≤ s.data.toList.length ∧ Since (old w0) w0 X w ∧
    s.data.toList.foldl hstep 14695981039346656037 = (s.data.toList.drop i).foldl hstep h) s.data.toList.length ?_ ?_
  · exact ⟨0, 14695981039346656037, rfl, rfl, rfl, Nat.zero_le _, hs, by rw [List.drop_zero]⟩
  rintro n a b w X ⟨i, h, rfl, rfl, rfl, hi, hs, hw⟩
  rcases at_or s.data.toList i with ⟨hlt, x, hx, hd⟩ | ⟨hge, hd⟩
  · repeat' first | ((with_reducible refine r_lssT ?_ ?_); (· omega)) | with_reducible apply condW_T | ((with_reducible apply r_add); (· omega); (· omega)) | ((with_reducible apply r_cvI); (· kernel_rfl); (· kernel_rfl)) | ((with_reducible apply r_ixT); (try (case hz => rfl)); (case hb => assumption); (try (case hz => omega)); (case ht => kernel_rfl)) | with_reducible (first | apply r_ixor | apply r_imul) | ((with_reducible refine nx2_of ((s.data.toList).length - (i + 1)) ?_ ?_); (· omega); exact ⟨i + 1, _, by simp, rfl, rfl, by omega, hs, by rw [hw, hd, List.foldl_cons]; rfl⟩)
  · repeat' first | ((with_reducible refine r_lssF ?_ ?_); (· omega)) | with_reducible apply condW_F | ((with_reducible apply r_bld); (· kernel_rfl))
    rw [hd] at hw
    refine lp2_of (fun n a b w X => ∃ (i : Nat), a = I i ∧ b = .int .u64 (hmix h i) ∧ n = 2 - i ∧ i ≤ 2 ∧ Since (old w0) w0 X w) 2 ⟨0, rfl, rfl, rfl, Nat.zero_le _, hs⟩ ?_
    rintro n a b w X ⟨i, rfl, rfl, rfl, hi, hs⟩
    obtain rfl | rfl | rfl : i = 0 ∨ i = 1 ∨ i = 2 := by omega
    · repeat' first | ((with_reducible refine r_lssT ?_ ?_); (· omega)) | with_reducible apply condW_T | ((with_reducible apply r_add); (· omega); (· omega)) | ((with_reducible apply r_ixA); (· kernel_rfl); (· kernel_rfl); (try (case hz => rfl)); (case hn => omega); (case hl => rfl)) | (with_reducible apply r_ixor) | (with_reducible apply r_imul) | ((with_reducible apply r_ishr); (· omega)) | ((with_reducible refine nx2_of 1 ?_ ?_); (· omega); exact ⟨1, rfl, rfl, rfl, by omega, hs⟩)
    · repeat' first | ((with_reducible refine r_lssT ?_ ?_); (· omega)) | with_reducible apply condW_T | ((with_reducible apply r_add); (· omega); (· omega)) | ((with_reducible apply r_ixA); (· kernel_rfl); (· kernel_rfl); (try (case hz => rfl)); (case hn => omega); (case hl => rfl)) | (with_reducible apply r_ixor) | (with_reducible apply r_imul) | ((with_reducible apply r_ishr); (· omega)) | ((with_reducible refine nx2_of 0 ?_ ?_); (· omega); exact ⟨2, rfl, rfl, rfl, by omega, hs⟩)
    · repeat' first | ((with_reducible refine r_lssF ?_ ?_); (· omega)) | with_reducible apply condW_F | ((with_reducible refine fin_pure hs ?_); (simp only [hashOf, hw]; rfl)) | (with_reducible apply r_ixor) | ((with_reducible apply r_ishr); (· omega))
theorem place_some (n : Int) : ∃ r, floatBits .quo .f64 (floatOfInt .f64 n) 4845873199050653696 = some r := by
  have hn : (Ieee.double.read (floatOfInt .f64 n)).isNaN = false := read_nearest _ _ _ _
  have hd : Ieee.double.read 4845873199050653696 = .number false 4503599627370496 1 := by kernel_rfl
  show ∃ r, ((Ieee.double.read (floatOfInt .f64 n)).quotient _ (Ieee.double.read 4845873199050653696)).map _ = some r
  rw [hd]
  cases hr : Ieee.double.read (floatOfInt .f64 n) with
  | number s m p => simp [Ieee.Datum.quotient]
  | infinity s => simp [Ieee.Datum.quotient]
  | nan s f => rw [hr] at hn; simp [Ieee.Datum.isNaN] at hn
def placeOf (s : BA) : Nat := (floatBits .quo .f64 (floatOfInt .f64 (ishr (hashOf s) 11)) 4845873199050653696).getD 0
theorem placeOf_eq (s : BA) : floatBits .quo .f64 (floatOfInt .f64 (ishr (hashOf s) 11)) 4845873199050653696 = some (placeOf s) := by
  obtain ⟨r, hr⟩ := place_some (ishr (hashOf s) 11)
  rw [placeOf, hr]; rfl
theorem c_place_Of (s : BA) (hbig : s.size ≤ 2 ^ 62) : Pure Tryz.prog 64 #[.string s] (.float .f64 (placeOf s)) := by
  intro w0
  apply ok_place_Of; unfold vc_place_Of
  have hs := Since.init w0
  repeat' first | ((with_reducible apply r_cvF); (· kernel_rfl); (· kernel_rfl)) | ((with_reducible refine r_pure (c_place_Hash _ (by first | assumption | omega)) ?_ hs.has ?_); (· kernel_rfl); intro w X hs1; replace hs := hs.trans hs1) | ((with_reducible refine fin_pure hs ?_); rfl) | ((with_reducible apply r_ishr); (· omega)) | ((with_reducible apply r_fop); (· exact placeOf_eq s))
end Go.Proofs.YtnphlhpdikmpiaaGreat
namespace Go.Proofs.YtnphlhpdikmpiaaGreat
open Go.Eng
set_option maxRecDepth 100000
set_option maxHeartbeats 1000000
set_option linter.unusedVariables false
set_option linter.unusedSimpArgs false
attribute [local irreducible] un jn chk fld ld1 ldA st1 ixS lnS lnT bld cvI cvF ixA bsS apS rdV rdW grdW eW eV eU eC eF gE condW fin pickN nilN binS vS lp0 lp1 lp2 lp3 lp4 lp5 lp6 lp7 nx0 nx1 nx2 nx3 nx4 nx5 nx6 nx7
def rising (l : List BA) : Bool := chain goodKey tlt none l
def rises (l : List BA) : Bool := rising l && decide ((l.length : Int) ≤ 16)
theorem d_mvcc_rise {w : World} {X : XS} {a : Value} {xs : List BA} (ha : Sl w X 1 a (xs.map S1)) :
    Ct Tryz.prog 129 #[a] w X nX fun v _ _ => v = B (rises xs) := by
  intro w0 hk
  replace ha := ha.mv hk.mvo
  have hla := ha.len'
  apply ok_mvcc_rise; unfold vc_mvcc_rise
  have hs := Since.init w0
  repeat' first | ((with_reducible apply m_lnS); (· (first | assumption | exact Own.sl (by assumption))); (· kernel_rfl))
  refine lp1_of (fun n a w X => ∃ i : Nat, a = I (i : Nat) ∧ n = (xs).length - i ∧ i ≤ (xs).length ∧ Since (old w0) w0 X w ∧ chain goodKey tlt none xs = chain goodKey tlt (prevOf xs i) (xs.drop i)) (xs).length ⟨0, rfl, rfl, Nat.zero_le _, hs, by simp [prevOf]⟩ ?_
  rintro n a w X ⟨i, rfl, rfl, hi, hs, hw⟩
  rcases at_or (xs) i with ⟨hlt, x, hx, hd⟩ | ⟨hge, hd⟩
  · rcases at_prev hlt with ⟨h0, hp⟩ | ⟨h0, y, hy, hp⟩ <;> rw [hp, hd, chain] at hw <;> clear hd
    · repeat' first | ((with_reducible refine r_lssT ?_ ?_); (· omega)) | ((with_reducible refine r_gtrF ?_ ?_); (· omega)) | with_reducible (first | apply condW_T | apply condW_F | apply un_selF | apply un_selTF | apply un_selFT | apply un_selU | apply grdV_onF | apply grdW_onF | apply grdW_offT | apply grdW_offF | apply grdW_U | apply rdW_pickT | apply rdW_pickF | apply r_notT | apply r_notF) | ((with_reducible apply m_ld1); (· (first | assumption | exact RowIs.cells (by assumption))); (· (first | exact mv0 | exact mv1 (by assumption) | exact mv2 (by assumption) (by assumption))); (· kernel_rfl); (· rfl)) | ((with_reducible apply m_ixS); (· (first | assumption | exact Own.sl (by assumption))); (try (case hz => rfl)); (case hr => first | assumption | exact List.getElem?_eq_getElem (by omega)); (try (case hz => omega)); (case ht => kernel_rfl); (case hs => kernel_rfl); intro _ _ _) | ((with_reducible apply r_add); (· omega); (· omega)) | ((with_reducible refine r_pureB (c_datum_Key _) ?_ hs.has ?_ ?_); (· kernel_rfl); all_goals (intro _ w X hs1; replace hs := hs.trans hs1)) | ((first | (with_reducible refine fin_ret0 hs ?_) | (with_reducible refine fin_ret0 (hs0.trans hs) ?_)); intro wa hk; simp_all [rises, rising, chain]) | ((with_reducible refine nx1_of ((xs).length - (i + 1)) ?_ ?_); (· omega); exact ⟨i + 1, by simp, rfl, by omega, hs, by rw [hw, prevOf_succ hx]; simp [*]⟩)
    · repeat' first | ((with_reducible refine r_lssT ?_ ?_); (· omega)) | ((with_reducible refine r_gtrT ?_ ?_); (· omega)) | with_reducible (first | apply condW_T | apply condW_F | apply un_selT | apply un_selF | apply un_selTF | apply un_selU | apply grdV_onT | apply grdV_onF | apply grdW_onF | apply grdW_offF | apply grdW_U | apply rdW_pickT | apply rdW_pickF | apply r_notT | apply r_notF) | (with_reducible apply r_sgeq <;> intro _) | ((with_reducible apply m_ld1); (· (first | assumption | exact RowIs.cells (by assumption))); (· (first | exact mv0 | exact mv1 (by assumption) | exact mv2 (by assumption) (by assumption))); (· kernel_rfl); (· rfl)) | ((with_reducible apply m_ixS); (· (first | assumption | exact Own.sl (by assumption))); (try (case hz => rfl)); (case hr => first | assumption | exact List.getElem?_eq_getElem (by omega)); (try (case hz => omega)); (case ht => kernel_rfl); (case hs => kernel_rfl); intro _ _ _) | ((with_reducible apply r_add); (· omega); (· omega)) | ((with_reducible apply r_sub); (· omega); (· omega)) | ((with_reducible refine r_pureB (c_datum_Key _) ?_ hs.has ?_ ?_); (· kernel_rfl); all_goals (intro _ w X hs1; replace hs := hs.trans hs1)) | ((first | (with_reducible refine fin_ret0 hs ?_) | (with_reducible refine fin_ret0 (hs0.trans hs) ?_)); intro wa hk; simp_all [rises, rising, chain]) | ((with_reducible refine nx1_of ((xs).length - (i + 1)) ?_ ?_); (· omega); exact ⟨i + 1, by simp, rfl, by omega, hs, by rw [hw, prevOf_succ hx]; simp [*]⟩)
  · repeat' first | ((with_reducible refine r_lssF ?_ ?_); (· omega)) | with_reducible apply condW_F | (with_reducible apply r_leq <;> intro _) | ((with_reducible apply m_lnS); (· (first | assumption | exact Own.sl (by assumption))); (· kernel_rfl)) | ((first | (with_reducible refine fin_ret0 hs ?_) | (with_reducible refine fin_ret0 (hs0.trans hs) ?_)); intro wa hk; simp_all [rises, rising, chain] <;> omega)
theorem d_mvcc_writeKeys {w : World} {X : XS} {a : Value} {xs : List KV} (ha : Sl w X 4 a (xs.map KV.l)) (hb : xs.length ≤ 2 ^ 40) :
    Ct Tryz.prog 130 #[a] w X nX fun v wa w' => Own w' (made wa w') wa.heap.size 9 1 v ((xs.map (·.key)).map S1) := by
  intro w0 hk
  replace ha := ha.mv hk.mvo
  have hla := ha.len'
  apply ok_mvcc_writeKeys; unfold vc_mvcc_writeKeys
  have hs := Since.init w0
  repeat' first | ((with_reducible apply m_lnS); (· (first | assumption | exact Own.sl (by assumption))); (· kernel_rfl))
  refine lp2_of (fun n a b w X => ∃ i : Nat, a = I i ∧ n = xs.length - i ∧ i ≤ xs.length ∧ Since (old w0) w0 X w ∧ Own w X w0.heap.size 9 1 b (((xs.take i).map (·.key)).map S1)) xs.length ⟨0, rfl, rfl, Nat.zero_le _, hs, Own.nil _ _ _ _ _⟩ ?_
  rintro n a b w X ⟨i, rfl, rfl, hi, hs, ho⟩
  rcases at_or (xs) i with ⟨hlt, x, hx, hd⟩ | ⟨hge, hd⟩
  · repeat' first | ((with_reducible refine r_lssT ?_ ?_); (· omega)) | with_reducible apply condW_T | ((with_reducible apply un_cell); (· rfl)) | with_reducible apply un_box | ((with_reducible apply m_ldA); (· (first | assumption | exact RowIs.cells (by assumption))); (· (first | exact mv0 | exact mv1 (by assumption) | exact mv2 (by assumption) (by assumption))); (· kernel_rfl); (· rfl)) | ((with_reducible apply m_ixS); (· (first | assumption | exact Own.sl (by assumption))); (try (case hz => rfl)); (case hr => first | assumption | exact List.getElem?_eq_getElem (by omega)); (try (case hz => omega)); (case ht => kernel_rfl); (case hs => kernel_rfl); intro _ _ _) | ((with_reducible apply m_chkc); (case h => (repeat' first | with_reducible apply all_one_cons | with_reducible exact all_one_nil | assumption | rfl | exact Sl.one (by assumption) | exact Rws.one (by assumption) | exact Sl.one (Own.sl (by assumption))))) | ((with_reducible apply chk_T); (· first | rfl | assumption | exact Sl.one (by assumption) | exact Rws.one (by assumption) | exact Sl.one (Own.sl (by assumption)))) | ((with_reducible apply r_add); (· omega); (· omega)) | ((with_reducible apply m_app1s); (case own => first | assumption | exact Own.since (by assumption) (by assumption)); (case hs => assumption); (case h0 => first | exact fun _ h => h | exact hs0.has); (case he => kernel_rfl); (case hk => rfl); (case ho => first | rfl | assumption); (case hb => (simp only [List.length_map, List.length_take, List.length_append, List.length_cons, List.length_nil]; omega)); (case hl => (simp only [List.length_map, List.length_take, List.length_append, List.length_cons, List.length_nil]; omega)); intro acc w X hs1 ho hc hat; replace hs := hs1) | ((with_reducible refine nx2_of ((xs).length - (i + 1)) ?_ ?_); (· omega); exact ⟨i + 1, by simp, rfl, by omega, hs, by rw [List.take_add_one, hx]; simpa using ho⟩)
  · repeat' first | ((with_reducible refine r_lssF ?_ ?_); (· omega)) | with_reducible apply condW_F | ((first | (with_reducible refine fin_ret0 hs ?_) | (with_reducible refine fin_ret0 (hs0.trans hs) ?_)); intro wa hk; (rw [List.take_of_length_le hge] at ho; exact (ho.kp hk).tight))
def Pend.err (p : Pend) : Int :=
  if !p.txn.may then 4 else if !p.stamp.may || decide (p.stamp = .zero) then 17
  else if !rises p.reads || !rises (p.writes.map (·.key)) then 4
  else if p.writes.all (·.val.may) then 0 else 4
theorem d_mvcc_PendingMay {w : World} {X : XS} {p : Pend} {vr vw : Value} (h1 : Sl w X 1 vr (p.reads.map S1)) (h2 : Sl w X 4 vw (p.writes.map KV.l)) (hb : p.writes.length ≤ 2 ^ 40) :
    Ct Tryz.prog 103 #[p.v vr vw] w X nX fun v _ _ => v = I p.err := by
  intro w0 hk
  replace h1 := h1.mv hk.mvo
  replace h2 := h2.mv hk.mvo
  have hla := h2.len'
  apply ok_mvcc_PendingMay; unfold vc_mvcc_PendingMay
  have hs := Since.init w0
  repeat' first | with_reducible (first | apply condW_T | apply condW_F | apply un_selF | apply un_selTF | apply grdV_onF | apply grdW_offF | apply rdW_pickT | apply rdW_pickF | apply gE_F | apply gE_TF | apply r_notT | apply r_notF) | ((with_reducible apply m_lnS); (· (first | assumption | exact Own.sl (by assumption))); (· kernel_rfl)) | ((with_reducible apply r_bld); (· kernel_rfl)) | ((with_reducible refine r_eqS0 _ ?_ ?_ ?_); (· kernel_rfl); all_goals intros) | with_reducible apply jn_of | ((with_reducible refine r_pureB (c_hlc_May _) ?_ hs.has ?_ ?_); (· kernel_rfl); all_goals (intro _ w X hs1; replace hs := hs.trans hs1)) | ((with_reducible refine r_pureB (c_mvcc_TxnMay _) ?_ hs.has ?_ ?_); (· kernel_rfl); all_goals (intro _ w X hs1; replace hs := hs.trans hs1)) | ((first | (with_reducible refine fin_ret0 hs ?_) | (with_reducible refine fin_ret0 (hs0.trans hs) ?_)); intro wa hk; simp_all [Pend.err]) | (refine r_ct0B (d_mvcc_rise  (by first | assumption | exact Sl.mv (by assumption) (by (first | exact mv0 | exact mv1 (by assumption) | exact mv2 (by assumption) (by assumption))) | exact Pends.mv (by assumption) (by (first | exact mv0 | exact mv1 (by assumption) | exact mv2 (by assumption) (by assumption))) | exact Hists.mv (by assumption) (by (first | exact mv0 | exact mv1 (by assumption) | exact mv2 (by assumption) (by assumption))) | exact Rec.at.mv (by assumption) (by (first | exact mv0 | exact mv1 (by assumption) | exact mv2 (by assumption) (by assumption))) | exact Own.sl (by assumption) | exact Cells.mv (by assumption) (by (first | exact mv0 | exact mv1 (by assumption) | exact mv2 (by assumption) (by assumption))) | exact Cells.mv (RowIs.cells (by assumption)) (by (first | exact mv0 | exact mv1 (by assumption) | exact mv2 (by assumption) (by assumption))) | omega)) (by kernel_rfl) hs.has ?_ ?_ <;> (intro _ w X hs1; replace hs := hs.trans hs1)) | (refine r_ct0 (d_mvcc_writeKeys  (by first | assumption | exact Sl.mv (by assumption) (by (first | exact mv0 | exact mv1 (by assumption) | exact mv2 (by assumption) (by assumption))) | exact Pends.mv (by assumption) (by (first | exact mv0 | exact mv1 (by assumption) | exact mv2 (by assumption) (by assumption))) | exact Hists.mv (by assumption) (by (first | exact mv0 | exact mv1 (by assumption) | exact mv2 (by assumption) (by assumption))) | exact Rec.at.mv (by assumption) (by (first | exact mv0 | exact mv1 (by assumption) | exact mv2 (by assumption) (by assumption))) | exact Own.sl (by assumption) | exact Cells.mv (by assumption) (by (first | exact mv0 | exact mv1 (by assumption) | exact mv2 (by assumption) (by assumption))) | exact Cells.mv (RowIs.cells (by assumption)) (by (first | exact mv0 | exact mv1 (by assumption) | exact mv2 (by assumption) (by assumption))) | omega) (by first | assumption | exact Sl.mv (by assumption) (by (first | exact mv0 | exact mv1 (by assumption) | exact mv2 (by assumption) (by assumption))) | exact Pends.mv (by assumption) (by (first | exact mv0 | exact mv1 (by assumption) | exact mv2 (by assumption) (by assumption))) | exact Hists.mv (by assumption) (by (first | exact mv0 | exact mv1 (by assumption) | exact mv2 (by assumption) (by assumption))) | exact Rec.at.mv (by assumption) (by (first | exact mv0 | exact mv1 (by assumption) | exact mv2 (by assumption) (by assumption))) | exact Own.sl (by assumption) | exact Cells.mv (by assumption) (by (first | exact mv0 | exact mv1 (by assumption) | exact mv2 (by assumption) (by assumption))) | exact Cells.mv (RowIs.cells (by assumption)) (by (first | exact mv0 | exact mv1 (by assumption) | exact mv2 (by assumption) (by assumption))) | omega)) (by kernel_rfl) hs.has ?_; rintro v1 wa w X ho1 hle hin hs1; have hlo := Nat.le_trans hs.kp.size hle; replace hs := hs.trans hs1; replace ho1 := ho1.up hin hlo)
  refine lp1_of (fun n a w X => ∃ i : Nat, a = I (i : Nat) ∧ n = (p.writes).length - i ∧ i ≤ (p.writes).length ∧ Since (old w0) w0 X w ∧ p.writes.all (·.val.may) = (p.writes.drop i).all (·.val.may)) (p.writes).length ⟨0, rfl, rfl, Nat.zero_le _, hs, by simp⟩ ?_
  rintro n a w X ⟨i, rfl, rfl, hi, hs, hw⟩
  rcases at_or (p.writes) i with ⟨hlt, x, hx, hd⟩ | ⟨hge, hd⟩
  · repeat' first | ((with_reducible refine r_lssT ?_ ?_); (· omega)) | with_reducible (first | apply condW_T | apply condW_F) | ((with_reducible apply m_sub); (· (simp only [Value.cells, nq1, nq2, nq3, nq4, nq5, nq6, setL, nq7, nq8, nq9, nq0, Nat.reduceAdd, Nat.zero_add]; try rfl))) | with_reducible (first | apply un_box | apply r_notT | apply r_notF) | ((with_reducible apply m_ldA); (· (first | assumption | exact RowIs.cells (by assumption))); (· (first | exact mv0 | exact mv1 (by assumption) | exact mv2 (by assumption) (by assumption))); (· kernel_rfl); (· rfl)) | ((with_reducible apply m_ixS); (· (first | assumption | exact Own.sl (by assumption))); (try (case hz => rfl)); (case hr => first | assumption | exact List.getElem?_eq_getElem (by omega)); (try (case hz => omega)); (case ht => kernel_rfl); (case hs => kernel_rfl); intro _ _ _) | ((with_reducible apply m_chkc); (case h => (repeat' first | with_reducible apply all_one_cons | with_reducible exact all_one_nil | assumption | rfl | exact Sl.one (by assumption) | exact Rws.one (by assumption) | exact Sl.one (Own.sl (by assumption))))) | ((with_reducible apply chk_T); (· first | rfl | assumption | exact Sl.one (by assumption) | exact Rws.one (by assumption) | exact Sl.one (Own.sl (by assumption)))) | ((with_reducible apply r_add); (· omega); (· omega)) | ((with_reducible refine r_pureB (c_datum_May _) ?_ hs.has ?_ ?_); (· kernel_rfl); all_goals (intro _ w X hs1; replace hs := hs.trans hs1)) | ((first | (with_reducible refine fin_ret0 hs ?_) | (with_reducible refine fin_ret0 (hs0.trans hs) ?_)); intro wa hk; simp_all [Pend.err]) | ((with_reducible refine nx1_of ((p.writes).length - (i + 1)) ?_ ?_); (· omega); exact ⟨i + 1, by simp, rfl, by omega, hs, by rw [hw, hd]; simp [*]⟩)
  · repeat' first | ((with_reducible refine r_lssF ?_ ?_); (· omega)) | with_reducible apply condW_F | ((first | (with_reducible refine fin_ret0 hs ?_) | (with_reducible refine fin_ret0 (hs0.trans hs) ?_)); intro wa hk; simp_all [Pend.err])
def partsOk (l : List Int) : Bool := chain (fun n => decide (n ≥ 1) && decide (n ≤ 12)) (fun a b => decide (a < b)) none l && decide (l ≠ [])
theorem d_recs_Parts {w : World} {X : XS} {a : Value} {xs : List Int} (ha : Sl w X 1 a (xs.map I1)) :
    Ct Tryz.prog 104 #[a] w X nX fun v _ _ => v = B (partsOk xs) := by
  intro w0 hk
  replace ha := ha.mv hk.mvo
  have hla := ha.len'
  apply ok_recs_Parts; unfold vc_recs_Parts
  have hs := Since.init w0
  repeat' first | ((with_reducible apply m_lnS); (· (first | assumption | exact Own.sl (by assumption))); (· kernel_rfl))
  refine lp1_of (fun n a w X => ∃ i : Nat, a = I (i : Nat) ∧ n = (xs).length - i ∧ i ≤ (xs).length ∧ Since (old w0) w0 X w ∧ chain (fun n => decide (n ≥ 1) && decide (n ≤ 12)) (fun a b => decide (a < b)) none xs = chain (fun n => decide (n ≥ 1) && decide (n ≤ 12)) (fun a b => decide (a < b)) (prevOf xs i) (xs.drop i)) (xs).length ⟨0, rfl, rfl, Nat.zero_le _, hs, by simp [prevOf]⟩ ?_
  rintro n a w X ⟨i, rfl, rfl, hi, hs, hw⟩
  rcases at_or (xs) i with ⟨hlt, x, hx, hd⟩ | ⟨hge, hd⟩
  · rcases at_prev hlt with ⟨h0, hp⟩ | ⟨h0, y, hy, hp⟩ <;> rw [hp, hd, chain] at hw <;> clear hd
    · repeat' first | ((with_reducible refine r_lssT ?_ ?_); (· omega)) | ((with_reducible refine r_gtrF ?_ ?_); (· omega)) | with_reducible (first | apply condW_T | apply condW_F | apply un_selF | apply un_selTF | apply un_selFT | apply un_selU | apply grdV_onF | apply grdW_onF | apply grdW_offT | apply grdW_offF | apply grdW_U | apply rdW_pickT | apply rdW_pickF) | (with_reducible apply r_lss <;> intro _) | (with_reducible apply r_gtr <;> intro _) | ((with_reducible apply m_ld1); (· (first | assumption | exact RowIs.cells (by assumption))); (· (first | exact mv0 | exact mv1 (by assumption) | exact mv2 (by assumption) (by assumption))); (· kernel_rfl); (· rfl)) | ((with_reducible apply m_ixS); (· (first | assumption | exact Own.sl (by assumption))); (try (case hz => rfl)); (case hr => first | assumption | exact List.getElem?_eq_getElem (by omega)); (try (case hz => omega)); (case ht => kernel_rfl); (case hs => kernel_rfl); intro _ _ _) | ((with_reducible apply r_add); (· omega); (· omega)) | ((first | (with_reducible refine fin_ret0 hs ?_) | (with_reducible refine fin_ret0 (hs0.trans hs) ?_)); intro wa hk; (simp_all [partsOk, chain] <;> omega)) | ((with_reducible refine nx1_of ((xs).length - (i + 1)) ?_ ?_); (· omega); exact ⟨i + 1, by simp, rfl, by omega, hs, by rw [hw, prevOf_succ hx]; simp_all <;> omega⟩)
    · repeat' first | ((with_reducible refine r_lssT ?_ ?_); (· omega)) | ((with_reducible refine r_gtrT ?_ ?_); (· omega)) | with_reducible (first | apply condW_T | apply condW_F | apply un_selT | apply un_selF | apply un_selTF | apply un_selU | apply grdV_onT | apply grdV_onF | apply grdW_onF | apply grdW_offF | apply grdW_U | apply rdW_pickT | apply rdW_pickF) | (with_reducible apply r_lss <;> intro _) | (with_reducible apply r_gtr <;> intro _) | (with_reducible apply r_geq <;> intro _) | ((with_reducible apply m_ld1); (· (first | assumption | exact RowIs.cells (by assumption))); (· (first | exact mv0 | exact mv1 (by assumption) | exact mv2 (by assumption) (by assumption))); (· kernel_rfl); (· rfl)) | ((with_reducible apply m_ixS); (· (first | assumption | exact Own.sl (by assumption))); (try (case hz => rfl)); (case hr => first | assumption | exact List.getElem?_eq_getElem (by omega)); (try (case hz => omega)); (case ht => kernel_rfl); (case hs => kernel_rfl); intro _ _ _) | ((with_reducible apply r_add); (· omega); (· omega)) | ((with_reducible apply r_sub); (· omega); (· omega)) | ((first | (with_reducible refine fin_ret0 hs ?_) | (with_reducible refine fin_ret0 (hs0.trans hs) ?_)); intro wa hk; (simp_all [partsOk, chain] <;> omega)) | ((with_reducible refine nx1_of ((xs).length - (i + 1)) ?_ ?_); (· omega); exact ⟨i + 1, by simp, rfl, by omega, hs, by rw [hw, prevOf_succ hx]; simp_all <;> omega⟩)
  · repeat' first | ((with_reducible refine r_lssF ?_ ?_); (· omega)) | with_reducible apply condW_F | (with_reducible apply r_gtr <;> intro _) | ((with_reducible apply m_lnS); (· (first | assumption | exact Own.sl (by assumption))); (· kernel_rfl)) | ((first | (with_reducible refine fin_ret0 hs ?_) | (with_reducible refine fin_ret0 (hs0.trans hs) ?_)); intro wa hk; (simp_all [partsOk, chain] <;> grind))
def pairsOk (l : List KV) : Bool := chain (fun x => goodKey x.key && x.val.may && decide (x.val.kind ≠ 0)) (fun a b => tlt a.key b.key) none l
theorem d_recs_pairs {w : World} {X : XS} {a : Value} {xs : List KV} (ha : Sl w X 4 a (xs.map KV.l)) :
    Ct Tryz.prog 111 #[a] w X nX fun v _ _ => v = B (pairsOk xs) := by
  intro w0 hk
  replace ha := ha.mv hk.mvo
  have hla := ha.len'
  apply ok_recs_pairs; unfold vc_recs_pairs
  have hs := Since.init w0
  repeat' first | ((with_reducible apply m_lnS); (· (first | assumption | exact Own.sl (by assumption))); (· kernel_rfl))
  refine lp1_of (fun n a w X => ∃ i : Nat, a = I (i : Nat) ∧ n = (xs).length - i ∧ i ≤ (xs).length ∧ Since (old w0) w0 X w ∧ pairsOk xs = chain (fun x => goodKey x.key && x.val.may && decide (x.val.kind ≠ 0)) (fun a b => tlt a.key b.key) (prevOf xs i) (xs.drop i)) (xs).length ⟨0, rfl, rfl, Nat.zero_le _, hs, by simp [prevOf, pairsOk]⟩ ?_
  rintro n a w X ⟨i, rfl, rfl, hi, hs, hw⟩
  rcases at_or (xs) i with ⟨hlt, x, hx, hd⟩ | ⟨hge, hd⟩
  · rcases at_prev hlt with ⟨h0, hp⟩ | ⟨h0, y, hy, hp⟩ <;> rw [hp, hd, chain] at hw <;> clear hd
    · repeat' first | ((with_reducible refine r_lssT ?_ ?_); (· omega)) | ((with_reducible refine r_gtrF ?_ ?_); (· omega)) | with_reducible (first | apply condW_T | apply condW_F) | ((with_reducible apply un_cell); (· rfl)) | ((with_reducible apply m_sub); (· (simp only [Value.cells, nq1, nq2, nq3, nq4, nq5, nq6, setL, nq7, nq8, nq9, nq0, Nat.reduceAdd, Nat.zero_add]; try rfl))) | with_reducible (first | apply un_box | apply un_selF | apply un_selTF | apply un_selFT | apply un_selU | apply grdV_onF | apply grdW_onF | apply grdW_offT | apply grdW_offF | apply grdW_U | apply rdW_pickT | apply rdW_pickF | apply gE_F | apply gE_TF | apply r_notT | apply r_notF) | (with_reducible apply r_eql <;> intro _) | ((with_reducible apply m_ldA); (· (first | assumption | exact RowIs.cells (by assumption))); (· (first | exact mv0 | exact mv1 (by assumption) | exact mv2 (by assumption) (by assumption))); (· kernel_rfl); (· rfl)) | ((with_reducible apply m_ixS); (· (first | assumption | exact Own.sl (by assumption))); (try (case hz => rfl)); (case hr => first | assumption | exact List.getElem?_eq_getElem (by omega)); (try (case hz => omega)); (case ht => kernel_rfl); (case hs => kernel_rfl); intro _ _ _) | ((with_reducible apply m_chkc); (case h => (repeat' first | with_reducible apply all_one_cons | with_reducible exact all_one_nil | assumption | rfl | exact Sl.one (by assumption) | exact Rws.one (by assumption) | exact Sl.one (Own.sl (by assumption))))) | ((with_reducible apply chk_T); (· first | rfl | assumption | exact Sl.one (by assumption) | exact Rws.one (by assumption) | exact Sl.one (Own.sl (by assumption)))) | ((with_reducible apply r_add); (· omega); (· omega)) | with_reducible apply jn_of | ((with_reducible refine r_pureB (c_datum_May _) ?_ hs.has ?_ ?_); (· kernel_rfl); all_goals (intro _ w X hs1; replace hs := hs.trans hs1)) | ((with_reducible refine r_pureB (c_datum_Key _) ?_ hs.has ?_ ?_); (· kernel_rfl); all_goals (intro _ w X hs1; replace hs := hs.trans hs1)) | ((first | (with_reducible refine fin_ret0 hs ?_) | (with_reducible refine fin_ret0 (hs0.trans hs) ?_)); intro wa hk; (simp_all [chain] <;> omega)) | ((with_reducible refine nx1_of ((xs).length - (i + 1)) ?_ ?_); (· omega); exact ⟨i + 1, by simp, rfl, by omega, hs, by rw [hw, prevOf_succ hx]; simp_all <;> omega⟩)
    · repeat' first | ((with_reducible refine r_lssT ?_ ?_); (· omega)) | ((with_reducible refine r_gtrT ?_ ?_); (· omega)) | with_reducible (first | apply condW_T | apply condW_F) | ((with_reducible apply un_cell); (· rfl)) | ((with_reducible apply m_sub); (· (simp only [Value.cells, nq1, nq2, nq3, nq4, nq5, nq6, setL, nq7, nq8, nq9, nq0, Nat.reduceAdd, Nat.zero_add]; try rfl))) | with_reducible (first | apply un_box | apply un_selT | apply un_selF | apply un_selTF | apply un_selU | apply grdV_onT | apply grdV_onF | apply grdW_onF | apply grdW_offF | apply grdW_U | apply rdW_pickT | apply rdW_pickF | apply gE_F | apply gE_TF | apply r_notT | apply r_notF) | (with_reducible apply r_eql <;> intro _) | (with_reducible apply r_sgeq <;> intro _) | ((with_reducible apply m_fld1); (· (first | assumption | exact RowIs.cells (by assumption))); (· kernel_rfl); (· rfl); intro _ _ _) | ((with_reducible apply m_ld1); (· (first | assumption | exact RowIs.cells (by assumption))); (· (first | exact mv0 | exact mv1 (by assumption) | exact mv2 (by assumption) (by assumption))); (· kernel_rfl); (· rfl)) | ((with_reducible apply m_ldA); (· (first | assumption | exact RowIs.cells (by assumption))); (· (first | exact mv0 | exact mv1 (by assumption) | exact mv2 (by assumption) (by assumption))); (· kernel_rfl); (· rfl)) | ((with_reducible apply m_ixS); (· (first | assumption | exact Own.sl (by assumption))); (try (case hz => rfl)); (case hr => first | assumption | exact List.getElem?_eq_getElem (by omega)); (try (case hz => omega)); (case ht => kernel_rfl); (case hs => kernel_rfl); intro _ _ _) | ((with_reducible apply m_chkc); (case h => (repeat' first | with_reducible apply all_one_cons | with_reducible exact all_one_nil | assumption | rfl | exact Sl.one (by assumption) | exact Rws.one (by assumption) | exact Sl.one (Own.sl (by assumption))))) | ((with_reducible apply chk_T); (· first | rfl | assumption | exact Sl.one (by assumption) | exact Rws.one (by assumption) | exact Sl.one (Own.sl (by assumption)))) | ((with_reducible apply r_add); (· omega); (· omega)) | ((with_reducible apply r_sub); (· omega); (· omega)) | with_reducible apply jn_of | ((with_reducible refine r_pureB (c_datum_May _) ?_ hs.has ?_ ?_); (· kernel_rfl); all_goals (intro _ w X hs1; replace hs := hs.trans hs1)) | ((with_reducible refine r_pureB (c_datum_Key _) ?_ hs.has ?_ ?_); (· kernel_rfl); all_goals (intro _ w X hs1; replace hs := hs.trans hs1)) | ((first | (with_reducible refine fin_ret0 hs ?_) | (with_reducible refine fin_ret0 (hs0.trans hs) ?_)); intro wa hk; (simp_all [chain] <;> omega)) | ((with_reducible refine nx1_of ((xs).length - (i + 1)) ?_ ?_); (· omega); exact ⟨i + 1, by simp, rfl, by omega, hs, by rw [hw, prevOf_succ hx]; simp_all <;> omega⟩)
  · repeat' first | ((with_reducible refine r_lssF ?_ ?_); (· omega)) | with_reducible apply condW_F | ((first | (with_reducible refine fin_ret0 hs ?_) | (with_reducible refine fin_ret0 (hs0.trans hs) ?_)); intro wa hk; (simp_all [chain] <;> grind))
end Go.Proofs.YtnphlhpdikmpiaaGreat
namespace Go.Proofs.YtnphlhpdikmpiaaGreat
open Go.Eng
set_option maxRecDepth 100000
set_option maxHeartbeats 1000000
set_option linter.unusedVariables false
set_option linter.unusedSimpArgs false
attribute [local irreducible] un jn chk fld ld1 ldA st1 ixS lnS lnT bld cvI cvF ixA bsS apS rdV rdW grdW eW eV eU eC eF gE condW fin pickN nilN binS vS lp0 lp1 lp2 lp3 lp4 lp5 lp6 lp7 nx0 nx1 nx2 nx3 nx4 nx5 nx6 nx7
abbrev Rng.zero : Rng := ⟨0, 0, 0, 0⟩
abbrev State.zero : State := ⟨.zero, .zero, .zero, [], []⟩
def State.isZero (s : State) : Bool := decide (s.range = .zero) && decide (s.floor = .zero) && decide (s.closed = .zero) && decide (s.hists = []) && decide (s.pend = [])
theorem d_recs_zeroState {w : World} {X : XS} {s : State} {vh vp : Value} (h1 : Hists w X vh s.hists) (h2 : Pends w X vp s.pend) :
    Ct Tryz.prog 101 #[s.v vh vp] w X nX fun v _ _ => v = B s.isZero := by
  intro w0 hk
  replace h1 := h1.mv hk.mvo
  replace h2 := h2.mv hk.mvo
  apply ok_recs_zeroState; unfold vc_recs_zeroState
  have hs := Since.init w0
  repeat' first | with_reducible (first | apply un_selT | apply un_selFT | apply grdV_onT | apply grdW_offT | apply rdW_pickT | apply rdW_pickF | apply gE_T | apply gE_FT) | (with_reducible apply r_eql <;> intro _) | ((with_reducible apply m_lnR); (· assumption); (· kernel_rfl)) | ((with_reducible apply r_bld); (· kernel_rfl)) | ((with_reducible refine r_eqS0 _ ?_ ?_ ?_); (· kernel_rfl); all_goals intros) | with_reducible apply jn_of | ((first | (with_reducible refine fin_ret0 hs ?_) | (with_reducible refine fin_ret0 (hs0.trans hs) ?_)); intro wa hk; (simp_all [State.isZero, Rng.ext_iff])) | ((with_reducible refine eC_val (run_bits _) hs.has ?_); intro w X hs1; replace hs := hs.trans hs1)
def Rec.isZero (r : Rec) : Bool := decide (r.txn = .zero) && decide (r.stamp = .zero) && decide (r.prev = .zero) && !r.commit && decide (r.n = 0) && decide (r.point = 0) &&
  decide (r.reads = []) && decide (r.writes = []) && decide (r.parts = []) && decide (r.pairs = []) && r.state.isZero
theorem d_recs_zero {w : World} {X : XS} {r : Rec} {vr vw vp vq vh vd : Value} (h : r.at w X vr vw vp vq vh vd) :
    Ct Tryz.prog 82 #[r.v vr vw vp vq vh vd] w X nX fun v _ _ => v = B r.isZero := by
  intro w0 hk
  obtain ⟨h1, h2, h3, h4, h5, h6⟩ := h.mv hk.mvo
  apply ok_recs_zero; unfold vc_recs_zero
  have hs := Since.init w0
  cases hc : r.commit <;>
  repeat' first | with_reducible (first | apply un_selT | apply un_selFT | apply grdV_onT | apply grdW_offT | apply rdW_pickT | apply rdW_pickF | apply gE_T | apply gE_FT | apply r_notT | apply r_notF) | (with_reducible apply r_eql <;> intro _) | ((with_reducible apply m_lnS); (· (first | assumption | exact Own.sl (by assumption))); (· kernel_rfl)) | ((with_reducible apply r_bld); (· kernel_rfl)) | ((with_reducible refine r_eqS0 _ ?_ ?_ ?_); (· kernel_rfl); all_goals intros) | ((with_reducible refine r_eqT0 _ ?_ ?_ ?_); (· kernel_rfl); all_goals intros) | with_reducible apply jn_of | ((first | (with_reducible refine fin_ret0 hs ?_) | (with_reducible refine fin_ret0 (hs0.trans hs) ?_)); intro wa hk; (simp_all [Rec.isZero])) | ((with_reducible refine eC_val (run_bits _) hs.has ?_); intro w X hs1; replace hs := hs.trans hs1) | (refine r_ct0B (d_recs_zeroState  (s := r.state) (by first | assumption | exact Sl.mv (by assumption) (by (first | exact mv0 | exact mv1 (by assumption) | exact mv2 (by assumption) (by assumption))) | exact Pends.mv (by assumption) (by (first | exact mv0 | exact mv1 (by assumption) | exact mv2 (by assumption) (by assumption))) | exact Hists.mv (by assumption) (by (first | exact mv0 | exact mv1 (by assumption) | exact mv2 (by assumption) (by assumption))) | exact Rec.at.mv (by assumption) (by (first | exact mv0 | exact mv1 (by assumption) | exact mv2 (by assumption) (by assumption))) | exact Own.sl (by assumption) | exact Cells.mv (by assumption) (by (first | exact mv0 | exact mv1 (by assumption) | exact mv2 (by assumption) (by assumption))) | exact Cells.mv (RowIs.cells (by assumption)) (by (first | exact mv0 | exact mv1 (by assumption) | exact mv2 (by assumption) (by assumption))) | omega) (by first | assumption | exact Sl.mv (by assumption) (by (first | exact mv0 | exact mv1 (by assumption) | exact mv2 (by assumption) (by assumption))) | exact Pends.mv (by assumption) (by (first | exact mv0 | exact mv1 (by assumption) | exact mv2 (by assumption) (by assumption))) | exact Hists.mv (by assumption) (by (first | exact mv0 | exact mv1 (by assumption) | exact mv2 (by assumption) (by assumption))) | exact Rec.at.mv (by assumption) (by (first | exact mv0 | exact mv1 (by assumption) | exact mv2 (by assumption) (by assumption))) | exact Own.sl (by assumption) | exact Cells.mv (by assumption) (by (first | exact mv0 | exact mv1 (by assumption) | exact mv2 (by assumption) (by assumption))) | exact Cells.mv (RowIs.cells (by assumption)) (by (first | exact mv0 | exact mv1 (by assumption) | exact mv2 (by assumption) (by assumption))) | omega)) (by kernel_rfl) hs.has ?_ ?_ <;> (intro _ w X hs1; replace hs := hs.trans hs1))
def Rec.strip (r : Rec) : Rec × Bool :=
  if r.kind = 1 then ({ r with state := .zero }, true)
  else if r.kind = 2 ∨ r.kind = 7 ∨ r.kind = 8 then ({ r with n := 0 }, true)
  else if r.kind = 3 then ({ r with txn := .zero, stamp := .zero, reads := [], writes := [], parts := [] }, true)
  else if r.kind = 4 then ({ r with txn := .zero, commit := false, stamp := .zero }, true)
  else if r.kind = 5 then ({ r with stamp := .zero }, true)
  else if r.kind = 6 then ({ r with point := 0, n := 0, stamp := .zero }, true)
  else if r.kind = 9 then ({ r with txn := .zero, stamp := .zero, parts := [] }, true)
  else if r.kind = 10 then ({ r with txn := .zero }, true)
  else if r.kind = 11 then ({ r with prev := .zero, stamp := .zero, txn := .zero, writes := [] }, true)
  else if r.kind = 12 then ({ r with stamp := .zero, pairs := [] }, true)
  else (r, false)
theorem d_recs_without {w : World} {X : XS} {r : Rec} {vr vw vp vq vh vd : Value} (h : r.at w X vr vw vp vq vh vd) :
    Ct Tryz.prog 81 #[r.v vr vw vp vq vh vd] w X nX fun v _ _ => ∃ vr' vw' vp' vq' vh' vd', v = .tuple #[r.strip.1.v vr' vw' vp' vq' vh' vd', B r.strip.2] ∧
      r.strip.1.at w X vr' vw' vp' vq' vh' vd' := by
  intro w0 hk
  obtain ⟨h1, h2, h3, h4, h5, h6⟩ := h
  have o1 := h1.one
  have o2 := h2.one
  have o3 := h3.one
  have o4 := h4.one
  have o5 := h5.one
  have o6 := h6.one
  apply ok_recs_without; unfold vc_recs_without
  have hs := Since.init w0
  have n1 : Sl w X 1 (.slice none 0 0) (([] : List BA).map S1) := Sl.nil _ _ _
  have n2 : Sl w X 4 (.slice none 0 0) (([] : List KV).map KV.l) := Sl.nil _ _ _
  have n3 : Sl w X 1 (.slice none 0 0) (([] : List Int).map I1) := Sl.nil _ _ _
  have n4 : Hists w X (.slice none 0 0) [] := Rws.nil _ _ _
  have n5 : Pends w X (.slice none 0 0) [] := Rws.nil _ _ _
  repeat' first | with_reducible (first | apply condW_T | apply condW_F) | ((with_reducible apply m_sub); (· (simp only [Value.cells, nq1, nq2, nq3, nq4, nq5, nq6, setL, nq7, nq8, nq9, nq0, Nat.reduceAdd, Nat.zero_add]; try rfl))) | ((with_reducible apply m_set); (· (simp only [Value.cells, nq1, nq2, nq3, nq4, nq5, nq6, setL, nq7, nq8, nq9, nq0, Nat.reduceAdd, Nat.zero_add]; try rfl))) | with_reducible apply un_box | (with_reducible apply r_eql <;> intro _) | ((with_reducible apply r_bld); (· kernel_rfl)) | ((with_reducible apply m_chkc); (case h => (repeat' first | with_reducible apply all_one_cons | with_reducible exact all_one_nil | assumption | rfl | exact Sl.one (by assumption) | exact Rws.one (by assumption) | exact Sl.one (Own.sl (by assumption))))) | ((with_reducible apply m_chkl); (case h => (repeat' first | with_reducible apply all_one_cons | with_reducible exact all_one_nil | assumption | rfl | exact Sl.one (by assumption) | exact Rws.one (by assumption) | exact Sl.one (Own.sl (by assumption))))) | ((with_reducible apply chk_T); (· first | rfl | assumption | exact Sl.one (by assumption) | exact Rws.one (by assumption) | exact Sl.one (Own.sl (by assumption)))) | with_reducible apply jn_of
  all_goals
    refine fin_ret0 hs ?_
    intro wa hk9
    unfold Rec.strip
    repeat (first | rw [if_pos (by omega)] | rw [if_neg (by omega)])
    exact ⟨_, _, _, _, _, _, rfl, by assumption, by assumption, by assumption, by assumption, by assumption, by assumption⟩
end Go.Proofs.YtnphlhpdikmpiaaGreat
namespace Go.Proofs.YtnphlhpdikmpiaaGreat
open Go.Eng
set_option maxRecDepth 100000
set_option maxHeartbeats 1000000
set_option linter.unusedVariables false
set_option linter.unusedSimpArgs false
attribute [local irreducible] un jn chk fld ld1 ldA st1 ixS lnS lnT bld cvI cvF ixA bsS apS rdV rdW grdW eW eV eU eC eF gE condW fin pickN nilN binS vS lp0 lp1 lp2 lp3 lp4 lp5 lp6 lp7 nx0 nx1 nx2 nx3 nx4 nx5 nx6 nx7
theorem d_clone_texts {w : World} {X : XS} {a : Value} {xs : List BA} (ha : Sl w X 1 a (xs.map S1)) (hb : xs.length ≤ 2 ^ 40) :
    Ct Tryz.prog 59 #[a] w X nX fun v wa w' => Own w' (made wa w') wa.heap.size 9 1 v (xs.map S1) := by
    intro w0 hk
    replace ha := ha.mv hk.mvo
    apply ok_slices_Clone_sl_string_string; unfold vc_slices_Clone_sl_string_string
    have hs := Since.init w0
    repeat' first | with_reducible (first | apply condW_T | apply condW_F) | ((with_reducible apply m_snil); (· (first | assumption | exact Own.sl (by assumption))); (· kernel_rfl); all_goals intros) | ((with_reducible apply m_bs0); (case hX => exact hs.has); (case hu => kernel_rfl); (case hz => kernel_rfl); intro acc w X hs1 ho; replace hs := hs.trans hs1) | ((first | (with_reducible refine fin_ret0 hs ?_) | (with_reducible refine fin_ret0 (hs0.trans hs) ?_)); intro wa hk; (first | (rename_i h1 h2; (first | (rw [h2]) | skip); exact Own.nil _ _ _ _ _) | exact (ho.kp hk).tight)) | ((with_reducible apply m_appS); (case own => assumption); (case hs => assumption); (case h0 => exact fun _ h => h); (case he => kernel_rfl); (case src => exact Sl.mv ha (Since.mv hs)); (case h1 => simp [one]); (case hb => simp; omega); (case hl => simp; omega); intro acc w X hs1 ho hc hat; replace hs := hs1; rw [List.nil_append] at ho)
theorem d_clone_writes {w : World} {X : XS} {a : Value} {xs : List KV} (ha : Sl w X 4 a (xs.map KV.l)) (hb : xs.length ≤ 2 ^ 40) :
    Ct Tryz.prog 60 #[a] w X nX fun v wa w' => Own w' (made wa w') wa.heap.size 66 4 v (xs.map KV.l) := by
    intro w0 hk
    replace ha := ha.mv hk.mvo
    apply ok_slices_Clone_sl_api_Write_api_Write; unfold vc_slices_Clone_sl_api_Write_api_Write
    have hs := Since.init w0
    repeat' first | with_reducible (first | apply condW_T | apply condW_F) | ((with_reducible apply m_snil); (· (first | assumption | exact Own.sl (by assumption))); (· kernel_rfl); all_goals intros) | ((with_reducible apply m_bs0); (case hX => exact hs.has); (case hu => kernel_rfl); (case hz => kernel_rfl); intro acc w X hs1 ho; replace hs := hs.trans hs1) | ((first | (with_reducible refine fin_ret0 hs ?_) | (with_reducible refine fin_ret0 (hs0.trans hs) ?_)); intro wa hk; (first | (rename_i h1 h2; (first | (rw [h2]) | skip); exact Own.nil _ _ _ _ _) | exact (ho.kp hk).tight)) | ((with_reducible apply m_appS); (case own => assumption); (case hs => assumption); (case h0 => exact fun _ h => h); (case he => kernel_rfl); (case src => exact Sl.mv ha (Since.mv hs)); (case h1 => simp [one]); (case hb => simp; omega); (case hl => simp; omega); intro acc w X hs1 ho hc hat; replace hs := hs1; rw [List.nil_append] at ho)
theorem d_clone_versions {w : World} {X : XS} {a : Value} {xs : List Ver} (ha : Sl w X 6 a (xs.map Ver.l)) (hb : xs.length ≤ 2 ^ 40) :
    Ct Tryz.prog 145 #[a] w X nX fun v wa w' => Own w' (made wa w') wa.heap.size 144 6 v (xs.map Ver.l) := by
    intro w0 hk
    replace ha := ha.mv hk.mvo
    apply ok_slices_Clone_sl_api_Version_api_Version; unfold vc_slices_Clone_sl_api_Version_api_Version
    have hs := Since.init w0
    repeat' first | with_reducible (first | apply condW_T | apply condW_F) | ((with_reducible apply m_snil); (· (first | assumption | exact Own.sl (by assumption))); (· kernel_rfl); all_goals intros) | ((with_reducible apply m_bs0); (case hX => exact hs.has); (case hu => kernel_rfl); (case hz => kernel_rfl); intro acc w X hs1 ho; replace hs := hs.trans hs1) | ((first | (with_reducible refine fin_ret0 hs ?_) | (with_reducible refine fin_ret0 (hs0.trans hs) ?_)); intro wa hk; (first | (rename_i h1 h2; (first | (rw [h2]) | skip); exact Own.nil _ _ _ _ _) | exact (ho.kp hk).tight)) | ((with_reducible apply m_appS); (case own => assumption); (case hs => assumption); (case h0 => exact fun _ h => h); (case he => kernel_rfl); (case src => exact Sl.mv ha (Since.mv hs)); (case h1 => simp [one]); (case hb => simp; omega); (case hl => simp; omega); intro acc w X hs1 ho hc hat; replace hs := hs1; rw [List.nil_append] at ho)
theorem d_index_texts {w : World} {X : XS} {a : Value} {xs : List BA} {k : BA} (ha : Sl w X 1 a (xs.map S1)) :
    Ct Tryz.prog 169 #[a, .string k] w X nX fun v _ _ => v = I (idxOf (fun x => decide (k = x)) xs) := by
  intro w0 hk
  replace ha := ha.mv hk.mvo
  have hla := ha.len'
  apply ok_slices_Index_sl_string_string; unfold vc_slices_Index_sl_string_string
  have hs := Since.init w0
  repeat' first | ((with_reducible apply m_lnS); (· (first | assumption | exact Own.sl (by assumption))); (· kernel_rfl))
  refine lp1_of (fun n a w X => ∃ i : Nat, a = I (i : Nat) ∧ n = (xs).length - i ∧ i ≤ (xs).length ∧ Since (old w0) w0 X w ∧ (∀ (j : Nat) x, j < i → xs[j]? = some x → decide (k = x) = false)) (xs).length ⟨0, rfl, rfl, Nat.zero_le _, hs, by simp⟩ ?_
  rintro n a w X ⟨i, rfl, rfl, hi, hs, hw⟩
  rcases at_or (xs) i with ⟨hlt, x, hx, hd⟩ | ⟨hge, hd⟩
  · repeat' first | ((with_reducible refine r_lssT ?_ ?_); (· omega)) | with_reducible (first | apply condW_T | apply condW_F) | (with_reducible apply r_seql <;> intro _) | ((with_reducible apply m_ld1); (· (first | assumption | exact RowIs.cells (by assumption))); (· (first | exact mv0 | exact mv1 (by assumption) | exact mv2 (by assumption) (by assumption))); (· kernel_rfl); (· rfl)) | ((with_reducible apply m_ixS); (· (first | assumption | exact Own.sl (by assumption))); (try (case hz => rfl)); (case hr => first | assumption | exact List.getElem?_eq_getElem (by omega)); (try (case hz => omega)); (case ht => kernel_rfl); (case hs => kernel_rfl); intro _ _ _) | ((with_reducible apply r_add); (· omega); (· omega)) | ((first | (with_reducible refine fin_ret0 hs ?_) | (with_reducible refine fin_ret0 (hs0.trans hs) ?_)); intro wa hk; (rw [idxOf_at hw hx (by simpa)])) | ((with_reducible refine nx1_of ((xs).length - (i + 1)) ?_ ?_); (· omega); exact ⟨i + 1, by simp, rfl, by omega, hs, fun j y hj hy => by rcases Nat.lt_succ_iff_lt_or_eq.1 hj with h | h; exact hw j y h hy; subst h; rw [hx] at hy; cases hy; simpa⟩)
  · repeat' first | ((with_reducible refine r_lssF ?_ ?_); (· omega)) | with_reducible apply condW_F | ((first | (with_reducible refine fin_ret0 hs ?_) | (with_reducible refine fin_ret0 (hs0.trans hs) ?_)); intro wa hk; (rw [idxOf_none fun j x hj hx => hw j x (by omega) hx]))
theorem d_contains_texts {w : World} {X : XS} {a : Value} {xs : List BA} {k : BA} (ha : Sl w X 1 a (xs.map S1)) :
    Ct Tryz.prog 158 #[a, .string k] w X nX fun v _ _ => v = B (xs.any fun x => decide (k = x)) := by
  intro w0 hk
  replace ha := ha.mv hk.mvo
  apply ok_slices_Contains_sl_string_string; unfold vc_slices_Contains_sl_string_string
  have hs := Since.init w0
  repeat' first | (with_reducible apply r_geq <;> intro _) | ((first | (with_reducible refine fin_ret0 hs ?_) | (with_reducible refine fin_ret0 (hs0.trans hs) ?_)); intro wa hk; (rw [← idxOf_any]; simp [*])) | (refine r_ct0V (d_index_texts  (by first | assumption | exact Sl.mv (by assumption) (by (first | exact mv0 | exact mv1 (by assumption) | exact mv2 (by assumption) (by assumption))) | exact Pends.mv (by assumption) (by (first | exact mv0 | exact mv1 (by assumption) | exact mv2 (by assumption) (by assumption))) | exact Hists.mv (by assumption) (by (first | exact mv0 | exact mv1 (by assumption) | exact mv2 (by assumption) (by assumption))) | exact Rec.at.mv (by assumption) (by (first | exact mv0 | exact mv1 (by assumption) | exact mv2 (by assumption) (by assumption))) | exact Own.sl (by assumption) | exact Cells.mv (by assumption) (by (first | exact mv0 | exact mv1 (by assumption) | exact mv2 (by assumption) (by assumption))) | exact Cells.mv (RowIs.cells (by assumption)) (by (first | exact mv0 | exact mv1 (by assumption) | exact mv2 (by assumption) (by assumption))) | omega)) (by kernel_rfl) hs.has ?_; intro w X hs1; replace hs := hs.trans hs1)
theorem d_indexFunc_writes {w : World} {X : XS} {a : Value} {xs : List KV} {f : FuncId} {cs : List Value} {p : KV → Bool} (ha : Sl w X 4 a (xs.map KV.l)) (hX : ∀ k, X k → k < w.heap.size) (hf : enters Tryz.prog f = true)
    (hp : ∀ x, Ct Tryz.prog f ((.agg x.l.toArray) :: cs).toArray w X nX fun v _ _ => v = B (p x)) :
    Ct Tryz.prog 172 #[a, .func (.func f) #[] cs.toArray] w X nX fun v _ _ => v = I (idxOf p xs) := by
  intro w0 hk
  replace ha := ha.mv hk.mvo
  replace hp := fun x => ((hp x).kp hk).old fun k hx => Nat.lt_of_lt_of_le (hX k hx) hk.size
  have hla := ha.len'
  apply ok_slices_IndexFunc_sl_api_Write_api_Write; unfold vc_slices_IndexFunc_sl_api_Write_api_Write
  have hs := Since.init w0
  repeat' first | ((with_reducible apply m_lnS); (· (first | assumption | exact Own.sl (by assumption))); (· kernel_rfl))
  refine lp1_of (fun n a w X => ∃ i : Nat, a = I (i : Nat) ∧ n = (xs).length - i ∧ i ≤ (xs).length ∧ Since (old w0) w0 X w ∧ (∀ (j : Nat) x, j < i → xs[j]? = some x → p x = false)) (xs).length ⟨0, rfl, rfl, Nat.zero_le _, hs, by simp⟩ ?_
  rintro n a w X ⟨i, rfl, rfl, hi, hs, hw⟩
  rcases at_or (xs) i with ⟨hlt, x, hx, hd⟩ | ⟨hge, hd⟩
  · repeat' first | ((with_reducible refine r_lssT ?_ ?_); (· omega)) | with_reducible (first | apply condW_T | apply condW_F) | ((with_reducible apply m_ldA); (· (first | assumption | exact RowIs.cells (by assumption))); (· (first | exact mv0 | exact mv1 (by assumption) | exact mv2 (by assumption) (by assumption))); (· kernel_rfl); (· rfl)) | ((with_reducible apply m_ixS); (· (first | assumption | exact Own.sl (by assumption))); (try (case hz => rfl)); (case hr => first | assumption | exact List.getElem?_eq_getElem (by omega)); (try (case hz => omega)); (case ht => kernel_rfl); (case hs => kernel_rfl); intro _ _ _) | ((with_reducible apply r_add); (· omega); (· omega)) | ((with_reducible apply m_fun); (· rfl)) | ((first | (with_reducible refine fin_ret0 hs ?_) | (with_reducible refine fin_ret0 (hs0.trans hs) ?_)); intro wa hk; (rw [idxOf_at hw hx ‹_›])) | ((with_reducible refine nx1_of ((xs).length - (i + 1)) ?_ ?_); (· omega); exact ⟨i + 1, by simp, rfl, by omega, hs, fun j y hj hy => by rcases Nat.lt_succ_iff_lt_or_eq.1 hj with h | h; exact hw j y h hy; subst h; rw [hx] at hy; cases hy; assumption⟩) | (refine r_ct0B ((hp x).since hs) hf hs.has ?_ ?_ <;> (intro _ w X hs1; replace hs := hs.trans hs1))
  · repeat' first | ((with_reducible refine r_lssF ?_ ?_); (· omega)) | with_reducible apply condW_F | ((first | (with_reducible refine fin_ret0 hs ?_) | (with_reducible refine fin_ret0 (hs0.trans hs) ?_)); intro wa hk; (rw [idxOf_none fun j x hj hx => hw j x (by omega) hx]))
theorem d_containsFunc_writes {w : World} {X : XS} {a : Value} {xs : List KV} {f : FuncId} {cs : List Value} {p : KV → Bool} (ha : Sl w X 4 a (xs.map KV.l)) (hX : ∀ k, X k → k < w.heap.size) (hf : enters Tryz.prog f = true)
    (hp : ∀ x, Ct Tryz.prog f ((.agg x.l.toArray) :: cs).toArray w X nX fun v _ _ => v = B (p x)) :
    Ct Tryz.prog 167 #[a, .func (.func f) #[] cs.toArray] w X nX fun v _ _ => v = B (xs.any p) := by
  intro w0 hk
  replace ha := ha.mv hk.mvo
  replace hp := fun x => ((hp x).kp hk).old fun k hx => Nat.lt_of_lt_of_le (hX k hx) hk.size
  apply ok_slices_ContainsFunc_sl_api_Write_api_Write; unfold vc_slices_ContainsFunc_sl_api_Write_api_Write
  have hs := Since.init w0
  repeat' first | (with_reducible apply r_geq <;> intro _) | ((first | (with_reducible refine fin_ret0 hs ?_) | (with_reducible refine fin_ret0 (hs0.trans hs) ?_)); intro wa hk; (rw [← idxOf_any]; simp [*])) | (refine r_ct0V (d_indexFunc_writes ha hs.has hf hp) (by kernel_rfl) hs.has ?_; intro w X hs1; replace hs := hs.trans hs1)
end Go.Proofs.YtnphlhpdikmpiaaGreat
namespace Go.Proofs.YtnphlhpdikmpiaaGreat
open Go.Eng
set_option maxRecDepth 100000
set_option maxHeartbeats 1000000
set_option linter.unusedVariables false
set_option linter.unusedSimpArgs false
attribute [local irreducible] un jn chk fld ld1 ldA st1 ixS lnS lnT bld cvI cvF ixA bsS apS rdV rdW grdW eW eV eU eC eF gE condW fin pickN nilN binS vS lp0 lp1 lp2 lp3 lp4 lp5 lp6 lp7 nx0 nx1 nx2 nx3 nx4 nx5 nx6 nx7
def tle (a b : BA) : Bool := tlt a b || decide (a = b)
def versFrom : Stamp → List Ver → Bool
  | _, [] => true
  | s, v :: r => v.stamp.may && decide (v.stamp.cmp s > 0) && v.val.may && versFrom v.stamp r
def Hist.ok (h : Hist) (ahead : BA) : Bool := goodKey h.key && !tle h.key ahead && decide (h.vers ≠ []) && versFrom .zero h.vers
theorem d_mvcc_history {w : World} {X : XS} {h : Hist} {vv : Value} {ahead : BA} (ha : Sl w X 6 vv (h.vers.map Ver.l)) :
    Ct Tryz.prog 144 #[.agg (h.l vv).toArray, .string ahead] w X nX fun v _ _ => v = B (h.ok ahead) := by
  intro w0 hk
  replace ha := ha.mv hk.mvo
  have hla := ha.len'
  apply ok_mvcc_history; unfold vc_mvcc_history
  have hs := Since.init w0
  repeat' first | with_reducible (first | apply condW_T | apply condW_F | apply un_box | apply un_selF | apply un_selTF | apply grdV_onF | apply grdW_offF | apply rdW_pickT | apply rdW_pickF | apply r_notT | apply r_notF) | (with_reducible apply r_eql <;> intro _) | (with_reducible apply r_sleq <;> intros) | ((with_reducible apply m_lnS); (· (first | assumption | exact Own.sl (by assumption))); (· kernel_rfl)) | ((with_reducible apply r_bld); (· kernel_rfl)) | ((with_reducible apply m_chkc); (case h => (repeat' first | with_reducible apply all_one_cons | with_reducible exact all_one_nil | assumption | rfl | exact Sl.one (by assumption) | exact Rws.one (by assumption) | exact Sl.one (Own.sl (by assumption))))) | ((with_reducible apply chk_T); (· first | rfl | assumption | exact Sl.one (by assumption) | exact Rws.one (by assumption) | exact Sl.one (Own.sl (by assumption)))) | ((with_reducible refine r_pureB (c_datum_Key _) ?_ hs.has ?_ ?_); (· kernel_rfl); all_goals (intro _ w X hs1; replace hs := hs.trans hs1)) | ((first | (with_reducible refine fin_ret0 hs ?_) | (with_reducible refine fin_ret0 (hs0.trans hs) ?_)); intro wa hk; (simp_all [Hist.ok, tle] <;> grind))
  refine lp2_of (fun n a b w X => ∃ (i : Nat) (s : Stamp), a = I i ∧ b = s.v ∧ n = h.vers.length - i ∧ i ≤ h.vers.length ∧ Since (old w0) w0 X w ∧ versFrom .zero h.vers = versFrom s (h.vers.drop i)) h.vers.length
    ⟨0, .zero, rfl, rfl, rfl, Nat.zero_le _, hs, by simp⟩ ?_
  rintro n a b w X ⟨i, s, rfl, rfl, rfl, hi, hs, hw⟩
  have hne : h.vers ≠ [] := by intro e; simp_all
  rcases at_or (h.vers) i with ⟨hlt, x, hx, hd⟩ | ⟨hge, hd⟩
  · rw [hd, versFrom] at hw
    clear hd
    repeat' first | ((with_reducible refine r_lssT ?_ ?_); (· omega)) | with_reducible (first | apply condW_T | apply condW_F) | ((with_reducible apply m_sub); (· (simp only [Value.cells, nq1, nq2, nq3, nq4, nq5, nq6, setL, nq7, nq8, nq9, nq0, Nat.reduceAdd, Nat.zero_add]; try rfl))) | with_reducible (first | apply un_box | apply un_selF | apply un_selTF | apply grdV_onF | apply grdW_offF | apply rdW_pickT | apply rdW_pickF | apply gE_F | apply gE_TF | apply r_notT | apply r_notF) | (with_reducible apply r_leq <;> intro _) | ((with_reducible apply m_ldA); (· (first | assumption | exact RowIs.cells (by assumption))); (· (first | exact mv0 | exact mv1 (by assumption) | exact mv2 (by assumption) (by assumption))); (· kernel_rfl); (· rfl)) | ((with_reducible apply m_ixS); (· (first | assumption | exact Own.sl (by assumption))); (try (case hz => rfl)); (case hr => first | assumption | exact List.getElem?_eq_getElem (by omega)); (try (case hz => omega)); (case ht => kernel_rfl); (case hs => kernel_rfl); intro _ _ _) | ((with_reducible apply m_chkc); (case h => (repeat' first | with_reducible apply all_one_cons | with_reducible exact all_one_nil | assumption | rfl | exact Sl.one (by assumption) | exact Rws.one (by assumption) | exact Sl.one (Own.sl (by assumption))))) | ((with_reducible apply chk_T); (· first | rfl | assumption | exact Sl.one (by assumption) | exact Rws.one (by assumption) | exact Sl.one (Own.sl (by assumption)))) | ((with_reducible apply r_add); (· omega); (· omega)) | with_reducible apply jn_of | ((with_reducible refine r_pure (c_hlc_Compare _ _) ?_ hs.has ?_); (· kernel_rfl); intro w X hs1; replace hs := hs.trans hs1) | ((with_reducible refine r_pureB (c_hlc_May _) ?_ hs.has ?_ ?_); (· kernel_rfl); all_goals (intro _ w X hs1; replace hs := hs.trans hs1)) | ((with_reducible refine r_pureB (c_datum_May _) ?_ hs.has ?_ ?_); (· kernel_rfl); all_goals (intro _ w X hs1; replace hs := hs.trans hs1)) | ((first | (with_reducible refine fin_ret0 hs ?_) | (with_reducible refine fin_ret0 (hs0.trans hs) ?_)); intro wa hk; (simp_all [Hist.ok, tle] <;> grind)) | ((with_reducible refine nx2_of ((h.vers).length - (i + 1)) ?_ ?_); (· omega); exact ⟨i + 1, x.stamp, by simp, rfl, rfl, by omega, hs, by simp_all⟩)
  · repeat' first | ((with_reducible refine r_lssF ?_ ?_); (· omega)) | with_reducible apply condW_F | ((first | (with_reducible refine fin_ret0 hs ?_) | (with_reducible refine fin_ret0 (hs0.trans hs) ?_)); intro wa hk; (simp_all [Hist.ok, tle, versFrom] <;> grind))
def Pend.has (p : Pend) (k : BA) : Bool := p.writes.any fun w => decide (w.key = k)
theorem d_mvcc_writes_c1 {w : World} {X : XS} {x : KV} {k : BA} {b : Nat} (h : Cells w X b 0 [.string k]) :
    Ct Tryz.prog 168 #[.agg x.l.toArray, ptr b 0] w X nX fun v _ _ => v = B (decide (x.key = k)) := by
  intro w0 hk
  replace h := h.mv hk.mvo
  apply ok_mvcc_writes_c1; unfold vc_mvcc_writes_c1
  have hs := Since.init w0
  repeat' first | (with_reducible apply r_seql <;> intro _) | ((with_reducible apply m_ld1); (· (first | assumption | exact RowIs.cells (by assumption))); (· (first | exact mv0 | exact mv1 (by assumption) | exact mv2 (by assumption) (by assumption))); (· kernel_rfl); (· rfl)) | ((first | (with_reducible refine fin_ret0 hs ?_) | (with_reducible refine fin_ret0 (hs0.trans hs) ?_)); intro wa hk; simp_all)
theorem d_mvcc_writes {w : World} {X : XS} {p : Pend} {vr vw : Value} {k : BA} (hX : ∀ k, X k → k < w.heap.size) (h2 : Sl w X 4 vw (p.writes.map KV.l)) :
    Ct Tryz.prog 157 #[p.v vr vw, .string k] w X nX fun v _ _ => v = B (p.has k) := by
  intro w0 hk
  replace h2 := h2.mv hk.mvo
  apply ok_mvcc_writes; unfold vc_mvcc_writes
  have hs := Since.init w0
  repeat' first | ((with_reducible apply m_boxS); (case ho => rfl); (case hX => exact hs.has); intro bx w X hbx hs1 hrow; have hs0 := hs.trans hs1; replace hs := Since.refl' hs1.has) | (with_reducible apply m_mkFun) | ((first | (with_reducible refine fin_ret0 hs ?_) | (with_reducible refine fin_ret0 (hs0.trans hs) ?_)); intro wa hk; (simp [Pend.has])) | (refine r_ct0V (d_containsFunc_writes (p := fun x => decide (x.key = k)) (h2.mv (Since.mv (hs0.trans hs))) hs.has (by kernel_rfl) fun x => d_mvcc_writes_c1 (x := x) (by first | exact hrow.cells)) (by kernel_rfl) hs.has ?_; intro w X hs1; replace hs := hs.trans hs1)
end Go.Proofs.YtnphlhpdikmpiaaGreat
namespace Go.Proofs.YtnphlhpdikmpiaaGreat
open Go.Eng
set_option maxRecDepth 100000
set_option maxHeartbeats 1000000
set_option linter.unusedVariables false
set_option linter.unusedSimpArgs false
attribute [local irreducible] un jn chk fld ld1 ldA st1 ixS lnS lnT bld cvI cvF ixA bsS apS rdV rdW grdW eW eV eU eC eF gE condW fin pickN nilN binS vS lp0 lp1 lp2 lp3 lp4 lp5 lp6 lp7 nx0 nx1 nx2 nx3 nx4 nx5 nx6 nx7
theorem key_txn : KeyOf Tryz.prog 39 (fun k : Txn => k.v) :=
  key_ints (n := 3) (by kernel_rfl) (fun k : Txn => [k.coord, k.life, k.sq]) (fun _ => rfl) (fun a b h => by
    simp only [List.cons.injEq, and_true] at h
    exact Txn.ext h.1 h.2.1 h.2.2)
theorem key_text : KeyOf Tryz.prog 9 (fun s : BA => Value.string s) := key_string (by kernel_rfl)
def rdVers (w : World) (A : XS) (v : Value) (l : List Ver) : Prop := Sl w A 6 v (l.map Ver.l)
def rdPend (w : World) (A : XS) (v : Value) (p : Pend) : Prop := ∃ vr vw, v = p.v vr vw ∧ Sl w A 1 vr (p.reads.map S1) ∧ Sl w A 4 vw (p.writes.map KV.l)
theorem rdVers.mv : MovesV rdVers := fun _ _ _ _ _ _ h m => Sl.mv h m
theorem rdPend.mv : MovesV rdPend := fun _ _ _ _ _ _ ⟨vr, vw, h, h1, h2⟩ m => ⟨vr, vw, h, h1.mv m, h2.mv m⟩
structure StoreIs (w : World) (X A : XS) (sb kb pb : Nat) (hm : List (BA × List Ver)) (pm : List (Txn × Pend)) (low : Stamp) : Prop where
  box : RowIs w X sb [.map (some kb), .map (some pb), I low.wall, I low.logic, I low.node] 204
  keys : MapR w X A kb (fun s : BA => Value.string s) rdVers hm
  pend : MapR w X A pb (fun k : Txn => k.v) rdPend pm
  sub : ∀ k, A k → X k
  off : ∀ k, A k → k ≠ sb ∧ k ≠ kb ∧ k ≠ pb
theorem StoreIs.mv {w w' : World} {X Y A : XS} {sb kb pb : Nat} {hm : List (BA × List Ver)} {pm : List (Txn × Pend)} {low : Stamp} (h : StoreIs w X A sb kb pb hm pm low)
    (hX : ∀ k, X k → k < w.heap.size) (m : Mv X w Y w') : StoreIs w' Y A sb kb pb hm pm low := by
  have ma : Mv A w A w' := fun k hk hl => ⟨hk, (m k (h.sub k hk) hl).2⟩
  exact ⟨h.box.mv m, h.keys.mv rdVers.mv m ma, h.pend.mv rdPend.mv m ma, fun k hk => (m k (h.sub k hk) (hX k (h.sub k hk))).1, h.off⟩
theorem r_versOf {w : World} {X A : XS} {kb : Nat} {hm : List (BA × List Ver)} {k : BA} {N : Value → Prop} {w0 : World} {X0 : XS} (h : MapR w0 X0 A kb (fun s : BA => Value.string s) rdVers hm) (hA : ∀ k, A k → X0 k) (m : Mv X0 w0 X w)
    (n : ∀ v, Sl w0 X0 6 v (((getM k hm).getD []).map Ver.l) → N v) : rdV Tryz.prog X w (Instr.lookup 201 (.map (some kb)) (.string k) false) N := by
  have h' : MapR w X A kb (fun s : BA => Value.string s) rdVers hm := h.mv rdVers.mv m fun k hk hl => ⟨hk, (m k (hA k hk) hl).2⟩
  obtain ⟨es, c, h1, h2⟩ := h
  have m' : Mv A w0 A w := fun k hk hl => ⟨hk, (m k (hA k hk) hl).2⟩
  refine m_mapGet1 (et := 140) (A := X) (rd := fun w X v l => Sl w0 A 6 v (l.map Ver.l)) (l := hm) (.slice none 0 0) ?_ key_text (by kernel_rfl) (by kernel_rfl) (fun v a hg hr => ?_) fun hg => ?_
  · exact ⟨es, c, h1.mv m, by
      clear h1 h' n
      induction es generalizing hm with
      | nil => cases hm <;> first | trivial | exact h2.elim
      | cons e es ih => cases hm with
        | nil => exact h2.elim
        | cons x l => exact ⟨h2.1, h2.2.1, ih h2.2.2⟩⟩
  · exact n v (by rw [hg]; exact Sl.mv hr (Mv.sub hA))
  · exact n _ (by rw [hg]; exact Sl.nil _ _ _)
def Pend.clash (x q : Pend) : Bool := x.writes.any (fun w => q.has w.key || q.reads.any fun k => decide (w.key = k)) || x.reads.any fun k => q.has k
def newestOf (l : List Ver) (at' : Stamp) (all : Bool) : Val × Stamp := l.foldl (fun s v => if all || decide (v.stamp.cmp at' ≤ 0) then (v.val, v.stamp) else s) (.zero, .zero)
def versOf (hm : List (BA × List Ver)) (k : BA) : List Ver := (getM k hm).getD []
abbrev seenV (k : BA) (s : Val × Stamp) : Value := .agg #[.string k, I s.1.kind, .float .f64 s.1.num, .string s.1.text, I s.2.wall, I s.2.logic, I s.2.node]
theorem d_mvcc_newest {w : World} {X A : XS} {sb kb pb : Nat} {hm : List (BA × List Ver)} {pm : List (Txn × Pend)} {low at' : Stamp} {k : BA} {all : Bool}
    (h : StoreIs w X A sb kb pb hm pm low) (hX : ∀ k, X k → k < w.heap.size) :
    Ct Tryz.prog 170 #[ptr sb 0, .string k, at'.v, B all] w X nX fun v _ _ => v = seenV k (newestOf (versOf hm k) at' all) := by
  intro w0 hk
  replace h := h.mv hX hk.mvo
  have hbx := h.box
  have hkm := h.keys
  apply ok_mvcc_Store_newest; unfold vc_mvcc_Store_newest
  have hs := Since.init w0
  repeat' first | with_reducible (first | apply un_box | apply r_nil) | ((with_reducible apply m_fld1); (· (first | assumption | exact RowIs.cells (by assumption))); (· kernel_rfl); (· rfl); intro _ _ _) | ((with_reducible apply m_ld1); (· (first | assumption | exact RowIs.cells (by assumption))); (· (first | exact mv0 | exact mv1 (by assumption) | exact mv2 (by assumption) (by assumption))); (· kernel_rfl); (· rfl)) | ((with_reducible apply r_bld); (· kernel_rfl)) | ((with_reducible apply m_chkc); (case h => (repeat' first | with_reducible apply all_one_cons | with_reducible exact all_one_nil | assumption | rfl | exact Sl.one (by assumption) | exact Rws.one (by assumption) | exact Sl.one (Own.sl (by assumption))))) | ((with_reducible apply chk_T); (· first | rfl | assumption | exact Sl.one (by assumption) | exact Rws.one (by assumption) | exact Sl.one (Own.sl (by assumption))))
  refine r_versOf hkm h.sub (Mv.refl _ _) fun vv hvv => ?_
  show rdV _ _ _ _ _
  have hvs : versOf hm k = (getM k hm).getD [] := rfl
  rw [← hvs] at hvv
  generalize versOf hm k = vs at hvv
  have hla := hvv.len'
  repeat' first | ((with_reducible apply m_lnS); (· (first | assumption | exact Own.sl (by assumption))); (· kernel_rfl))
  refine lp2_of (fun n a b w X => ∃ (i : Nat) (s : Val × Stamp), a = I i ∧ b = seenV k s ∧ n = vs.length - i ∧ i ≤ vs.length ∧ Since (old w0) w0 X w ∧
    newestOf vs at' all = (vs.drop i).foldl (fun s v => if all || decide (v.stamp.cmp at' ≤ 0) then (v.val, v.stamp) else s) s) vs.length ⟨0, (.zero, .zero), rfl, rfl, rfl, Nat.zero_le _, hs, by rw [List.drop_zero]; rfl⟩ ?_
  rintro n a b w X ⟨i, s, rfl, rfl, rfl, hi, hs, hw⟩
  rcases at_or (vs) i with ⟨hlt, x, hx, hd⟩ | ⟨hge, hd⟩
  · rw [hd, List.foldl_cons] at hw
    cases all
    · repeat' first | ((with_reducible refine r_lssT ?_ ?_); (· omega)) | with_reducible (first | apply condW_T | apply condW_F) | ((with_reducible apply m_sub); (· (simp only [Value.cells, nq1, nq2, nq3, nq4, nq5, nq6, setL, nq7, nq8, nq9, nq0, Nat.reduceAdd, Nat.zero_add]; try rfl))) | ((with_reducible apply m_set); (· (simp only [Value.cells, nq1, nq2, nq3, nq4, nq5, nq6, setL, nq7, nq8, nq9, nq0, Nat.reduceAdd, Nat.zero_add]; try rfl))) | with_reducible (first | apply un_box | apply un_selF | apply grdV_onF | apply rdW_pickF | apply gE_F) | (with_reducible apply r_leq <;> intro _) | ((with_reducible apply m_ldA); (· (first | assumption | exact RowIs.cells (by assumption))); (· (first | exact mv0 | exact mv1 (by assumption) | exact mv2 (by assumption) (by assumption))); (· kernel_rfl); (· rfl)) | ((with_reducible apply m_ixS); (· (first | assumption | exact Own.sl (by assumption))); (try (case hz => rfl)); (case hr => first | assumption | exact List.getElem?_eq_getElem (by omega)); (try (case hz => omega)); (case ht => kernel_rfl); (case hs => kernel_rfl); intro _ _ _) | ((with_reducible apply m_chkc); (case h => (repeat' first | with_reducible apply all_one_cons | with_reducible exact all_one_nil | assumption | rfl | exact Sl.one (by assumption) | exact Rws.one (by assumption) | exact Sl.one (Own.sl (by assumption))))) | ((with_reducible apply chk_T); (· first | rfl | assumption | exact Sl.one (by assumption) | exact Rws.one (by assumption) | exact Sl.one (Own.sl (by assumption)))) | ((with_reducible apply r_add); (· omega); (· omega)) | with_reducible apply jn_of | ((with_reducible refine r_pure (c_hlc_Compare _ _) ?_ hs.has ?_); (· kernel_rfl); intro w X hs1; replace hs := hs.trans hs1) | ((with_reducible refine nx2_of ((vs).length - (i + 1)) ?_ ?_); (· omega); exact ⟨i + 1, (x.val, x.stamp), by simp, rfl, rfl, by omega, hs, by rw [hw]; simp [*]⟩) | ((with_reducible refine nx2_of ((vs).length - (i + 1)) ?_ ?_); (· omega); exact ⟨i + 1, s, by simp, rfl, rfl, by omega, hs, by rw [hw]; simp [*]⟩)
    · repeat' first | ((with_reducible refine r_lssT ?_ ?_); (· omega)) | with_reducible apply condW_T | ((with_reducible apply m_sub); (· (simp only [Value.cells, nq1, nq2, nq3, nq4, nq5, nq6, setL, nq7, nq8, nq9, nq0, Nat.reduceAdd, Nat.zero_add]; try rfl))) | ((with_reducible apply m_set); (· (simp only [Value.cells, nq1, nq2, nq3, nq4, nq5, nq6, setL, nq7, nq8, nq9, nq0, Nat.reduceAdd, Nat.zero_add]; try rfl))) | with_reducible (first | apply un_box | apply un_selTF | apply grdW_offF | apply rdW_pickT | apply gE_TF) | ((with_reducible apply m_ldA); (· (first | assumption | exact RowIs.cells (by assumption))); (· (first | exact mv0 | exact mv1 (by assumption) | exact mv2 (by assumption) (by assumption))); (· kernel_rfl); (· rfl)) | ((with_reducible apply m_ixS); (· (first | assumption | exact Own.sl (by assumption))); (try (case hz => rfl)); (case hr => first | assumption | exact List.getElem?_eq_getElem (by omega)); (try (case hz => omega)); (case ht => kernel_rfl); (case hs => kernel_rfl); intro _ _ _) | ((with_reducible apply m_chkc); (case h => (repeat' first | with_reducible apply all_one_cons | with_reducible exact all_one_nil | assumption | rfl | exact Sl.one (by assumption) | exact Rws.one (by assumption) | exact Sl.one (Own.sl (by assumption))))) | ((with_reducible apply chk_T); (· first | rfl | assumption | exact Sl.one (by assumption) | exact Rws.one (by assumption) | exact Sl.one (Own.sl (by assumption)))) | ((with_reducible apply r_add); (· omega); (· omega)) | with_reducible apply jn_of | ((with_reducible refine nx2_of ((vs).length - (i + 1)) ?_ ?_); (· omega); exact ⟨i + 1, (x.val, x.stamp), by simp, rfl, rfl, by omega, hs, by rw [hw]; simp [*]⟩)
  · repeat' first | ((with_reducible refine r_lssF ?_ ?_); (· omega)) | with_reducible apply condW_F | ((with_reducible apply m_sub); (· (simp only [Value.cells, nq1, nq2, nq3, nq4, nq5, nq6, setL, nq7, nq8, nq9, nq0, Nat.reduceAdd, Nat.zero_add]; try rfl))) | with_reducible apply un_box | ((with_reducible apply m_chkc); (case h => (repeat' first | with_reducible apply all_one_cons | with_reducible exact all_one_nil | assumption | rfl | exact Sl.one (by assumption) | exact Rws.one (by assumption) | exact Sl.one (Own.sl (by assumption))))) | ((with_reducible apply chk_T); (· first | rfl | assumption | exact Sl.one (by assumption) | exact Rws.one (by assumption) | exact Sl.one (Own.sl (by assumption)))) | ((first | (with_reducible refine fin_ret0 hs ?_) | (with_reducible refine fin_ret0 (hs0.trans hs) ?_)); intro wa hk; (rw [hw, hd]; rfl))
theorem d_mvcc_Newest {w : World} {X A : XS} {sb kb pb : Nat} {hm : List (BA × List Ver)} {pm : List (Txn × Pend)} {low : Stamp} {k : BA}
    (h : StoreIs w X A sb kb pb hm pm low) (hX : ∀ k, X k → k < w.heap.size) :
    Ct Tryz.prog 159 #[ptr sb 0, .string k] w X nX fun v _ _ => v = seenV k (newestOf (versOf hm k) .zero true) := by
  intro w0 hk
  replace h := h.mv hX hk.mvo
  apply ok_mvcc_Store_Newest; unfold vc_mvcc_Store_Newest
  have hs := Since.init w0
  repeat' first | ((with_reducible apply m_sub); (· (simp only [Value.cells, nq1, nq2, nq3, nq4, nq5, nq6, setL, nq7, nq8, nq9, nq0, Nat.reduceAdd, Nat.zero_add]; try rfl))) | with_reducible apply un_box | ((with_reducible apply r_bld); (· kernel_rfl)) | ((with_reducible apply m_chkc); (case h => (repeat' first | with_reducible apply all_one_cons | with_reducible exact all_one_nil | assumption | rfl | exact Sl.one (by assumption) | exact Rws.one (by assumption) | exact Sl.one (Own.sl (by assumption))))) | ((with_reducible apply chk_T); (· first | rfl | assumption | exact Sl.one (by assumption) | exact Rws.one (by assumption) | exact Sl.one (Own.sl (by assumption)))) | ((first | (with_reducible refine fin_ret0 hs ?_) | (with_reducible refine fin_ret0 (hs0.trans hs) ?_)); intro wa hk; rfl) | (refine r_ct0V (d_mvcc_newest (at' := .zero) h hs.has) (by kernel_rfl) hs.has ?_; intro w X hs1; replace hs := hs.trans hs1)
def oldFor (hm : List (BA × List Ver)) (x : Pend) : Bool := x.writes.any fun w => decide ((newestOf (versOf hm w.key) .zero true).2.cmp x.stamp ≥ 0)
theorem d_mvcc_old {w : World} {X A : XS} {sb kb pb : Nat} {hm : List (BA × List Ver)} {pm : List (Txn × Pend)} {low : Stamp} {x : Pend} {vr vw : Value}
    (h : StoreIs w X A sb kb pb hm pm low) (hX : ∀ k, X k → k < w.heap.size) (h2 : Sl w X 4 vw (x.writes.map KV.l)) :
    Ct Tryz.prog 147 #[ptr sb 0, x.v vr vw] w X nX fun v _ _ => v = B (oldFor hm x) := by
  intro w0 hk
  replace h := h.mv hX hk.mvo
  replace h2 := h2.mv hk.mvo
  have hla := h2.len'
  apply ok_mvcc_Store_old; unfold vc_mvcc_Store_old
  have hs := Since.init w0
  repeat' first | ((with_reducible apply m_lnS); (· (first | assumption | exact Own.sl (by assumption))); (· kernel_rfl))
  refine lp1_of (fun n a w X => ∃ i : Nat, a = I (i : Nat) ∧ n = (x.writes).length - i ∧ i ≤ (x.writes).length ∧ Since (old w0) w0 X w ∧ oldFor hm x = (x.writes.drop i).any (fun w => decide ((newestOf (versOf hm w.key) .zero true).2.cmp x.stamp ≥ 0))) (x.writes).length ⟨0, rfl, rfl, Nat.zero_le _, hs, by simp [oldFor]⟩ ?_
  rintro n a w X ⟨i, rfl, rfl, hi, hs, hw⟩
  rcases at_or (x.writes) i with ⟨hlt, y, hy, hd⟩ | ⟨hge, hd⟩
  · rw [hd, List.any_cons] at hw
    repeat' first | ((with_reducible refine r_lssT ?_ ?_); (· omega)) | with_reducible (first | apply condW_T | apply condW_F) | ((with_reducible apply un_cell); (· rfl)) | with_reducible apply un_box | (with_reducible apply r_geq <;> intro _) | ((with_reducible apply m_ldA); (· (first | assumption | exact RowIs.cells (by assumption))); (· (first | exact mv0 | exact mv1 (by assumption) | exact mv2 (by assumption) (by assumption))); (· kernel_rfl); (· rfl)) | ((with_reducible apply m_ixS); (· (first | assumption | exact Own.sl (by assumption))); (try (case hz => rfl)); (case hr => first | assumption | exact List.getElem?_eq_getElem (by omega)); (try (case hz => omega)); (case ht => kernel_rfl); (case hs => kernel_rfl); intro _ _ _) | ((with_reducible apply m_chkc); (case h => (repeat' first | with_reducible apply all_one_cons | with_reducible exact all_one_nil | assumption | rfl | exact Sl.one (by assumption) | exact Rws.one (by assumption) | exact Sl.one (Own.sl (by assumption))))) | ((with_reducible apply chk_T); (· first | rfl | assumption | exact Sl.one (by assumption) | exact Rws.one (by assumption) | exact Sl.one (Own.sl (by assumption)))) | ((with_reducible apply r_add); (· omega); (· omega)) | ((with_reducible apply r_fdVn); (case hf => kernel_rfl); (case hg => kernel_rfl); (case hlen => rfl); (case hl => (simp only [Value.cells, nq1, nq2, nq3, nq4, nq5, nq6, setL, nq7, nq8, nq9, nq0, Nat.reduceAdd, Nat.zero_add]; try rfl))) | ((with_reducible refine r_pure (c_hlc_Compare _ _) ?_ hs.has ?_); (· kernel_rfl); intro w X hs1; replace hs := hs.trans hs1) | ((first | (with_reducible refine fin_ret0 hs ?_) | (with_reducible refine fin_ret0 (hs0.trans hs) ?_)); intro wa hk; simp_all) | ((with_reducible refine nx1_of ((x.writes).length - (i + 1)) ?_ ?_); (· omega); exact ⟨i + 1, by simp, rfl, by omega, hs, by rw [hw]; simp [*]⟩) | (refine r_ct0V (d_mvcc_Newest (h.mv (fun _ h => h) (Since.mv hs)) hs.has) (by kernel_rfl) hs.has ?_; intro w X hs1; replace hs := hs.trans hs1)
  · repeat' first | ((with_reducible refine r_lssF ?_ ?_); (· omega)) | with_reducible apply condW_F | ((first | (with_reducible refine fin_ret0 hs ?_) | (with_reducible refine fin_ret0 (hs0.trans hs) ?_)); intro wa hk; simp_all)
end Go.Proofs.YtnphlhpdikmpiaaGreat
namespace Go.Proofs.YtnphlhpdikmpiaaGreat
open Go.Eng
set_option maxRecDepth 100000
set_option maxHeartbeats 1000000
set_option linter.unusedVariables false
set_option linter.unusedSimpArgs false
attribute [local irreducible] un jn chk fld ld1 ldA st1 ixS lnS lnT bld cvI cvF ixA bsS apS rdV rdW grdW eW eV eU eC eF gE condW fin pickN nilN binS vS lp0 lp1 lp2 lp3 lp4 lp5 lp6 lp7 nx0 nx1 nx2 nx3 nx4 nx5 nx6 nx7
theorem d_mvcc_locked {w : World} {X A : XS} {sb kb pb : Nat} {hm : List (BA × List Ver)} {pm : List (Txn × Pend)} {low : Stamp} {x : Pend} {vr vw : Value}
    (h : StoreIs w X A sb kb pb hm pm low) (hX : ∀ k, X k → k < w.heap.size) (h1 : Sl w X 1 vr (x.reads.map S1)) (h2 : Sl w X 4 vw (x.writes.map KV.l)) :
    Ct Tryz.prog 146 #[ptr sb 0, x.v vr vw] w X nX fun v _ _ => v = B (pm.any fun q => x.clash q.2) := by
  intro w0 hk
  replace h := h.mv hX hk.mvo
  replace h1 := h1.mv hk.mvo
  replace h2 := h2.mv hk.mvo
  have hbx := h.box
  have hl1 := h1.len'
  have hl2 := h2.len'
  apply ok_mvcc_Store_locked; unfold vc_mvcc_Store_locked
  have hs := Since.init w0
  repeat' first | with_reducible apply r_nil | ((with_reducible apply m_fld1); (· (first | assumption | exact RowIs.cells (by assumption))); (· kernel_rfl); (· rfl); intro _ _ _) | ((with_reducible apply m_ld1); (· (first | assumption | exact RowIs.cells (by assumption))); (· (first | exact mv0 | exact mv1 (by assumption) | exact mv2 (by assumption) (by assumption))); (· kernel_rfl); (· rfl))
  refine m_range (kt := 39) (et := 87) h.pend rdPend.mv h.sub (by kernel_rfl) hs.has fun r w X hr hs1 hit => ?_
  replace hs := hs.trans hs1
  refine lp2_of (fun n _ _ w X => ∃ left, n = left.length ∧ Since (old w0) w0 X w ∧ ItR w X A r pb (fun k : Txn => k.v) rdPend pm left ∧ (pm.any fun q => x.clash q.2) = left.any fun q => x.clash q.2)
    pm.length ⟨pm, rfl, hs, hit, rfl⟩ ?_
  rintro n a b w X ⟨left, rfl, hs, hit, hw⟩
  refine m_next hit rdPend.mv (fun k hk => ⟨hs.sub k (h.sub k hk), fun e => by have : k < w0.heap.size := h.sub k hk; omega⟩) hs.has (fun e0 w X hs1 => ?_) fun kx q v hmem w1 X1 hc hrd hit1 he => ?_
  · replace hs := hs.trans hs1
    repeat' first | with_reducible apply condW_F | ((with_reducible apply m_ext); (· rfl)) | ((first | (with_reducible refine fin_ret0 hs ?_) | (with_reducible refine fin_ret0 (hs0.trans hs) ?_)); intro wa hk; (rw [hw, e0]; rfl))
  · have hs0 := hs.chg hc fun k hk e => by have : k < w0.heap.size := hk; omega
    obtain ⟨ur, uw, rfl, q1, q2⟩ := hrd
    have hA1 : ∀ k, A k → X1 k := fun k hk => hs0.sub k (h.sub k hk)
    replace q1 := q1.mv (Mv.sub hA1)
    replace q2 := q2.mv (Mv.sub hA1)
    have o1 := q1.one
    have o2 := q2.one
    rw [any_split _ hit.nodup hmem] at hw
    replace hs := Since.refl' hs0.has
    repeat' first | with_reducible apply condW_T | ((with_reducible apply m_ext); (· rfl))
    refine m_entry hs.has he fun w X hs1 => ?_
    replace hs := hs.trans hs1
    repeat' first | with_reducible apply un_box | ((with_reducible apply m_lnS); (· (first | assumption | exact Own.sl (by assumption))); (· kernel_rfl)) | ((with_reducible apply m_ext); (· rfl)) | ((with_reducible apply m_chkc); (case h => (repeat' first | with_reducible apply all_one_cons | with_reducible exact all_one_nil | assumption | rfl | exact Sl.one (by assumption) | exact Rws.one (by assumption) | exact Sl.one (Own.sl (by assumption))))) | ((with_reducible apply chk_T); (· first | rfl | assumption | exact Sl.one (by assumption) | exact Rws.one (by assumption) | exact Sl.one (Own.sl (by assumption))))
    refine lp1_of (fun n a w X => ∃ i : Nat, a = I (i : Nat) ∧ n = x.writes.length - i ∧ i ≤ x.writes.length ∧ Since X1 w1 X w ∧
      (x.writes.any (fun w => q.has w.key || q.reads.any fun k => decide (w.key = k)) = (x.writes.drop i).any (fun w => q.has w.key || q.reads.any fun k => decide (w.key = k)))) x.writes.length
      ⟨0, rfl, rfl, Nat.zero_le _, hs, by simp⟩ ?_
    rintro n a w X ⟨i, rfl, rfl, hi, hs, hw2⟩
    rcases at_or (x.writes) i with ⟨hlt, y, hy, hd⟩ | ⟨hge, hd⟩
    · rw [hd, List.any_cons] at hw2
      repeat' first | ((with_reducible refine r_lssT ?_ ?_); (· omega)) | with_reducible (first | apply condW_T | apply condW_F) | ((with_reducible apply un_cell); (· rfl)) | ((with_reducible apply m_sub); (· (simp only [Value.cells, nq1, nq2, nq3, nq4, nq5, nq6, setL, nq7, nq8, nq9, nq0, Nat.reduceAdd, Nat.zero_add]; try rfl))) | with_reducible (first | apply un_box | apply un_selF | apply un_selTF | apply rdW_pickT | apply rdW_pickF | apply gE_F | apply gE_TF) | ((with_reducible apply m_ldA); (· (first | assumption | exact RowIs.cells (by assumption))); (· (first | exact mv0 | exact mv1 (by assumption) | exact mv2 (by assumption) (by assumption))); (· kernel_rfl); (· rfl)) | ((with_reducible apply m_ixS); (· (first | assumption | exact Own.sl (by assumption))); (try (case hz => rfl)); (case hr => first | assumption | exact List.getElem?_eq_getElem (by omega)); (try (case hz => omega)); (case ht => kernel_rfl); (case hs => kernel_rfl); intro _ _ _) | ((with_reducible apply m_chkc); (case h => (repeat' first | with_reducible apply all_one_cons | with_reducible exact all_one_nil | assumption | rfl | exact Sl.one (by assumption) | exact Rws.one (by assumption) | exact Sl.one (Own.sl (by assumption))))) | ((with_reducible apply chk_T); (· first | rfl | assumption | exact Sl.one (by assumption) | exact Rws.one (by assumption) | exact Sl.one (Own.sl (by assumption)))) | ((with_reducible apply r_add); (· omega); (· omega)) | with_reducible apply jn_of | ((first | (with_reducible refine fin_ret0 hs ?_) | (with_reducible refine fin_ret0 (hs0.trans hs) ?_)); intro wa hk; (rw [hw]; simp [Pend.clash, hw2, *])) | ((with_reducible refine nx1_of ((x.writes).length - (i + 1)) ?_ ?_); (· omega); exact ⟨i + 1, by simp, rfl, by omega, hs, by rw [hw2]; simp [*]⟩) | (refine r_ct0B (d_mvcc_writes  (p := q) hs.has (by first | assumption | exact Sl.mv (by assumption) (by (first | exact mv0 | exact mv1 (by assumption) | exact mv2 (by assumption) (by assumption))) | exact Pends.mv (by assumption) (by (first | exact mv0 | exact mv1 (by assumption) | exact mv2 (by assumption) (by assumption))) | exact Hists.mv (by assumption) (by (first | exact mv0 | exact mv1 (by assumption) | exact mv2 (by assumption) (by assumption))) | exact Rec.at.mv (by assumption) (by (first | exact mv0 | exact mv1 (by assumption) | exact mv2 (by assumption) (by assumption))) | exact Own.sl (by assumption) | exact Cells.mv (by assumption) (by (first | exact mv0 | exact mv1 (by assumption) | exact mv2 (by assumption) (by assumption))) | exact Cells.mv (RowIs.cells (by assumption)) (by (first | exact mv0 | exact mv1 (by assumption) | exact mv2 (by assumption) (by assumption))) | omega)) (by kernel_rfl) hs.has ?_ ?_ <;> (intro _ w X hs1; replace hs := hs.trans hs1)) | (refine r_ct0B (d_contains_texts  (by first | assumption | exact Sl.mv (by assumption) (by (first | exact mv0 | exact mv1 (by assumption) | exact mv2 (by assumption) (by assumption))) | exact Pends.mv (by assumption) (by (first | exact mv0 | exact mv1 (by assumption) | exact mv2 (by assumption) (by assumption))) | exact Hists.mv (by assumption) (by (first | exact mv0 | exact mv1 (by assumption) | exact mv2 (by assumption) (by assumption))) | exact Rec.at.mv (by assumption) (by (first | exact mv0 | exact mv1 (by assumption) | exact mv2 (by assumption) (by assumption))) | exact Own.sl (by assumption) | exact Cells.mv (by assumption) (by (first | exact mv0 | exact mv1 (by assumption) | exact mv2 (by assumption) (by assumption))) | exact Cells.mv (RowIs.cells (by assumption)) (by (first | exact mv0 | exact mv1 (by assumption) | exact mv2 (by assumption) (by assumption))) | omega)) (by kernel_rfl) hs.has ?_ ?_ <;> (intro _ w X hs1; replace hs := hs.trans hs1))
    · rw [hd] at hw2
      repeat' first | ((with_reducible refine r_lssF ?_ ?_); (· omega)) | with_reducible apply condW_F | ((with_reducible apply m_lnS); (· (first | assumption | exact Own.sl (by assumption))); (· kernel_rfl))
      refine lp1_of (fun n a w X => ∃ i : Nat, a = I (i : Nat) ∧ n = x.reads.length - i ∧ i ≤ x.reads.length ∧ Since X1 w1 X w ∧
        (x.reads.any (fun k => q.has k) = (x.reads.drop i).any (fun k => q.has k))) x.reads.length
        ⟨0, rfl, rfl, Nat.zero_le _, hs, by simp⟩ ?_
      rintro n a w X ⟨j, rfl, rfl, hj, hs, hw3⟩
      rcases at_or x.reads j with ⟨hlt, y, hy, hd2⟩ | ⟨hge2, hd2⟩
      · rw [hd2, List.any_cons] at hw3
        repeat' first | ((with_reducible refine r_lssT ?_ ?_); (· omega)) | with_reducible (first | apply condW_T | apply condW_F) | ((with_reducible apply m_sub); (· (simp only [Value.cells, nq1, nq2, nq3, nq4, nq5, nq6, setL, nq7, nq8, nq9, nq0, Nat.reduceAdd, Nat.zero_add]; try rfl))) | ((with_reducible apply m_ld1); (· (first | assumption | exact RowIs.cells (by assumption))); (· (first | exact mv0 | exact mv1 (by assumption) | exact mv2 (by assumption) (by assumption))); (· kernel_rfl); (· rfl)) | ((with_reducible apply m_ixS); (· (first | assumption | exact Own.sl (by assumption))); (try (case hz => rfl)); (case hr => first | assumption | exact List.getElem?_eq_getElem (by omega)); (try (case hz => omega)); (case ht => kernel_rfl); (case hs => kernel_rfl); intro _ _ _) | ((with_reducible apply chk_T); (· first | rfl | assumption | exact Sl.one (by assumption) | exact Rws.one (by assumption) | exact Sl.one (Own.sl (by assumption)))) | ((with_reducible apply r_add); (· omega); (· omega)) | ((first | (with_reducible refine fin_ret0 hs ?_) | (with_reducible refine fin_ret0 (hs0.trans hs) ?_)); intro wa hk; (rw [hw]; simp [Pend.clash, hw3, *])) | ((with_reducible refine nx1_of (x.reads.length - (j + 1)) ?_ ?_); (· omega); exact ⟨j + 1, by simp, rfl, by omega, hs, by rw [hw3]; simp [*]⟩) | (refine r_ct0B (d_mvcc_writes  (p := q) hs.has (by first | assumption | exact Sl.mv (by assumption) (by (first | exact mv0 | exact mv1 (by assumption) | exact mv2 (by assumption) (by assumption))) | exact Pends.mv (by assumption) (by (first | exact mv0 | exact mv1 (by assumption) | exact mv2 (by assumption) (by assumption))) | exact Hists.mv (by assumption) (by (first | exact mv0 | exact mv1 (by assumption) | exact mv2 (by assumption) (by assumption))) | exact Rec.at.mv (by assumption) (by (first | exact mv0 | exact mv1 (by assumption) | exact mv2 (by assumption) (by assumption))) | exact Own.sl (by assumption) | exact Cells.mv (by assumption) (by (first | exact mv0 | exact mv1 (by assumption) | exact mv2 (by assumption) (by assumption))) | exact Cells.mv (RowIs.cells (by assumption)) (by (first | exact mv0 | exact mv1 (by assumption) | exact mv2 (by assumption) (by assumption))) | omega)) (by kernel_rfl) hs.has ?_ ?_ <;> (intro _ w X hs1; replace hs := hs.trans hs1))
      · rw [hd2] at hw3
        repeat' first | ((with_reducible refine r_lssF ?_ ?_); (· omega)) | with_reducible apply condW_F
        refine nx2_of _ (left_lt hmem) ⟨_, rfl, hs0.trans hs, hit1.mv rdPend.mv (Since.mv hs) (Since.mvA hs hA1), ?_⟩
        rw [hw]
        have : x.clash q = false := by unfold Pend.clash; rw [hw2, hw3]; rfl
        simp [this]
end Go.Proofs.YtnphlhpdikmpiaaGreat
namespace Go.Proofs.YtnphlhpdikmpiaaGreat
open Go.Eng
set_option maxRecDepth 100000
set_option maxHeartbeats 1000000
set_option linter.unusedVariables false
set_option linter.unusedSimpArgs false
attribute [local irreducible] un jn chk fld ld1 ldA st1 ixS lnS lnT bld cvI cvF ixA bsS apS rdV rdW grdW eW eV eU eC eF gE condW fin pickN nilN binS vS lp0 lp1 lp2 lp3 lp4 lp5 lp6 lp7 nx0 nx1 nx2 nx3 nx4 nx5 nx6 nx7
def Pend.fresh (wa w' : World) (v : Value) (p : Pend) : Prop :=
  ∃ vr vw, v = p.v vr vw ∧ Own w' (made wa w') wa.heap.size 9 1 vr (p.reads.map S1) ∧ Own w' (made wa w') wa.heap.size 66 4 vw (p.writes.map KV.l) ∧
    ∀ g, vr.ownBlock = some g → vw.ownBlock ≠ some g
theorem d_mvcc_clone {w : World} {X : XS} {p : Pend} {vr vw : Value} (h1 : Sl w X 1 vr (p.reads.map S1)) (h2 : Sl w X 4 vw (p.writes.map KV.l)) (hb1 : p.reads.length ≤ 2 ^ 40) (hb2 : p.writes.length ≤ 2 ^ 40) :
    Ct Tryz.prog 148 #[p.v vr vw] w X nX fun v wa w' => p.fresh wa w' v := by
    intro w0 hk
    replace h1 := h1.mv hk.mvo
    replace h2 := h2.mv hk.mvo
    apply ok_mvcc_clone; unfold vc_mvcc_clone
    have hs := Since.init w0
    refine r_ct0 (d_clone_texts h1 hb1) (by kernel_rfl) hs.has ?_
    rintro v1 wa w X ho1 hle1 hin1 hs1
    replace hs := hs.trans hs1
    have q1 := ho1.sl.one
    repeat' first | ((with_reducible apply chk_T); (· first | rfl | assumption | exact Sl.one (by assumption) | exact Rws.one (by assumption) | exact Sl.one (Own.sl (by assumption))))
    refine r_ct0 (d_clone_writes (h2.mv (Since.mv hs)) hb2) (by kernel_rfl) hs.has ?_
    rintro v2 wb w2 X2 ho2 hle2 hin2 hs2
    have hb : w0.heap.size ≤ wa.heap.size := hle1
    have ho1X : Own w X w0.heap.size 9 1 v1 (p.reads.map S1) := ho1.up hin1 hb
    have ho1' := ho1X.since hs2
    have hlo2 : w0.heap.size ≤ wb.heap.size := Nat.le_trans hs.kp.size hle2
    have ho2' : Own w2 X2 w0.heap.size 66 4 v2 (p.writes.map KV.l) := ho2.up hin2 hlo2
    have q2 := ho2.sl.one
    replace hs := hs.trans hs2
    repeat' first | ((with_reducible apply m_chkl); (case h => (repeat' first | with_reducible apply all_one_cons | with_reducible exact all_one_nil | assumption | rfl | exact Sl.one (by assumption) | exact Rws.one (by assumption) | exact Sl.one (Own.sl (by assumption))))) | ((with_reducible apply chk_T); (· first | rfl | assumption | exact Sl.one (by assumption) | exact Rws.one (by assumption) | exact Sl.one (Own.sl (by assumption)))) | ((first | (with_reducible refine fin_ret0 hs ?_) | (with_reducible refine fin_ret0 (hs0.trans hs) ?_)); intro wa hk; (exact ⟨v1, v2, rfl, (ho1'.kp hk).tight, (ho2'.kp hk).tight, fun g hg1 hg2 => by have := (ho1X.ge hg1).2; have := (ho2.ge hg2).1; omega⟩))
theorem d_tail_clone {w : World} {X : XS} {p : Pend} {vr vw : Value} (h1 : Sl w X 1 vr (p.reads.map S1)) (h2 : Sl w X 4 vw (p.writes.map KV.l)) (hb1 : p.reads.length ≤ 2 ^ 40) (hb2 : p.writes.length ≤ 2 ^ 40) :
    Ct Tryz.prog 28 #[p.v vr vw] w X nX fun v wa w' => p.fresh wa w' v := by
    intro w0 hk
    replace h1 := h1.mv hk.mvo
    replace h2 := h2.mv hk.mvo
    apply ok_tail_clone; unfold vc_tail_clone
    have hs := Since.init w0
    refine r_ct0 (d_clone_texts h1 hb1) (by kernel_rfl) hs.has ?_
    rintro v1 wa w X ho1 hle1 hin1 hs1
    replace hs := hs.trans hs1
    have q1 := ho1.sl.one
    skip
    refine r_ct0 (d_clone_writes (h2.mv (Since.mv hs)) hb2) (by kernel_rfl) hs.has ?_
    rintro v2 wb w2 X2 ho2 hle2 hin2 hs2
    have hb : w0.heap.size ≤ wa.heap.size := hle1
    have ho1X : Own w X w0.heap.size 9 1 v1 (p.reads.map S1) := ho1.up hin1 hb
    have ho1' := ho1X.since hs2
    have hlo2 : w0.heap.size ≤ wb.heap.size := Nat.le_trans hs.kp.size hle2
    have ho2' : Own w2 X2 w0.heap.size 66 4 v2 (p.writes.map KV.l) := ho2.up hin2 hlo2
    have q2 := ho2.sl.one
    replace hs := hs.trans hs2
    repeat' first | ((with_reducible apply m_chkl); (case h => (repeat' first | with_reducible apply all_one_cons | with_reducible exact all_one_nil | assumption | rfl | exact Sl.one (by assumption) | exact Rws.one (by assumption) | exact Sl.one (Own.sl (by assumption))))) | ((with_reducible apply chk_T); (· first | rfl | assumption | exact Sl.one (by assumption) | exact Rws.one (by assumption) | exact Sl.one (Own.sl (by assumption)))) | ((first | (with_reducible refine fin_ret0 hs ?_) | (with_reducible refine fin_ret0 (hs0.trans hs) ?_)); intro wa hk; (exact ⟨v1, v2, rfl, (ho1'.kp hk).tight, (ho2'.kp hk).tight, fun g hg1 hg2 => by have := (ho1X.ge hg1).2; have := (ho2.ge hg2).1; omega⟩))
def mns (X : XS) (a b c : Nat) : XS := fun k => X k ∧ k ≠ a ∧ k ≠ b ∧ k ≠ c
theorem d_mvcc_New {w : World} {X : XS} : Ct Tryz.prog 143 #[] w X nX fun v wa w' =>
    ∃ sb kb pb, v = ptr sb 0 ∧ StoreIs w' (made wa w') (mns (made wa w') sb kb pb) sb kb pb [] [] .zero ∧ sb ≠ kb ∧ sb ≠ pb ∧ kb ≠ pb := by
  intro w0 hk
  apply ok_mvcc_New; unfold vc_mvcc_New
  have hs := Since.init w0
  refine m_makeMap (kv := fun s : BA => Value.string s) rdVers nX hs.has fun kb w1 X1 hkb hs1 hm1 => ?_
  refine m_makeMap (kv := fun k : Txn => k.v) rdPend nX hs1.has fun pb w2 X2 hpb hs2 hm2 => ?_
  have hkb1 := hm1.x
  have hpb1 := hm2.x
  have hm1' := hm1.mv rdVers.mv (Since.mv hs2) (Y := X2) (A' := nX) (fun _ h => h.elim)
  replace hs := (hs.trans hs1).trans hs2
  have hsz : w0.heap.size ≤ w1.heap.size := hs1.kp.size
  repeat' first | ((with_reducible apply r_bld); (· kernel_rfl)) | ((with_reducible apply m_boxA); (case hX => exact hs.has); intro bx w X hbx hs1 hrow; have hs0 := hs.trans hs1; replace hs := Since.refl' hs1.has)
  refine fin_ret0 (hs0.trans hs) ?_
  intro wa hk
  have hrl := (hrow.kp hk).lt
  have hsz3 := hs1.kp.size
  have hsz4 := hk.size
  have hkp2 := hs1.kp.trans (hk.less hs1.sub)
  have hkb2 : made w0 wa kb := ⟨hkb, by omega⟩
  have hpb2 : made w0 wa pb := ⟨by omega, by omega⟩
  exact ⟨bx, kb, pb, rfl, ⟨hrow.own.mv (Mv.one hk hrow.1 ⟨by omega, hrl⟩), hm1'.own.mv rdVers.mv (Mv.one hkp2 (hs2.sub _ hkb1.1) hkb2) (fun _ h => h.elim),
    hm2.own.mv rdPend.mv (Mv.one hkp2 hpb1.1 hpb2) (fun _ h => h.elim), fun k hk => hk.1, fun k hk => hk.2⟩, by omega, by omega, by omega⟩
end Go.Proofs.YtnphlhpdikmpiaaGreat
